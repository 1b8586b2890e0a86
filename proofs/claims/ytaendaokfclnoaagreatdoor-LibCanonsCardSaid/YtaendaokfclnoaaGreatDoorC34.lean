/- The geometry of pads, at any place: the reference's rows of changed pads. -/
import Derived.Test.YtaendaokfclnoaaGreatDoorC33
import Derived.Test.YtaendaokfclnoaaGreatDoorC31
import Derived.Test.YtaendaokfclnoaaGreatDoorC22
import Derived.KernelRfl
noncomputable section
section
namespace Go.Abs.T
open Go.Abs.Sym
theorem yAi:xB (wA++(zR++(yZ++xJ))) t96 ((xPb.drop 0).take 6)=true:=by kernel_rfl
theorem yAj:xB (wA++(zR++(yZ++xJ))) t96 ((xPb.drop 6).take 6)=true:=by kernel_rfl
theorem zSz:xB (wA++(zR++(yZ++xJ))) t96 ((xPb.drop 12).take 6)=true:=by kernel_rfl
theorem zT0:xB (wA++(zR++(yZ++xJ))) t96 ((xPb.drop 18).take 6)=true:=by kernel_rfl
theorem zT1:xB (wA++(zR++(yZ++xJ))) t96 ((xPb.drop 24).take 6)=true:=by kernel_rfl
theorem zT2:xB (wA++(zR++(yZ++xJ))) t96 ((xPb.drop 30).take 6)=true:=by kernel_rfl
theorem zT3:xB (wA++(zR++(yZ++xJ))) t96 ((xPb.drop 36).take 6)=true:=by kernel_rfl
theorem zT4:xB (wA++(zR++(yZ++xJ))) t96 ((xPb.drop 42).take 6)=true:=by kernel_rfl
theorem yAh:GOK [(t96,xPb)]:=xA (yN.app (xU.app (zE.app xD))) yAi (xA (yN.app (xU.app (zE.app xD))) yAj (xA (yN.app (xU.app (zE.app xD))) zSz (xA (yN.app (xU.app (zE.app xD))) zT0 (xA (yN.app (xU.app (zE.app xD))) zT1 (xA (yN.app (xU.app (zE.app xD))) zT2 (xA (yN.app (xU.app (zE.app xD))) zT3 (xL (yN.app (xU.app (zE.app xD))) (yB (Nat.le_of_ble_eq_true (by kernel_rfl)) zT4))))))))
theorem yAb:xB (wA++(zR++(yZ++xJ))) t97 ((zSq.drop 0).take 6)=true:=by kernel_rfl
theorem yAc:xB (wA++(zR++(yZ++xJ))) t97 ((zSq.drop 6).take 6)=true:=by kernel_rfl
theorem zSr:xB (wA++(zR++(yZ++xJ))) t97 ((zSq.drop 12).take 6)=true:=by kernel_rfl
theorem yAa:GOK [(t97,zSq)]:=xA (yN.app (xU.app (zE.app xD))) yAb (xA (yN.app (xU.app (zE.app xD))) yAc (xL (yN.app (xU.app (zE.app xD))) (yB (Nat.le_of_ble_eq_true (by kernel_rfl)) zSr)))
theorem yAf:xB (wA++(zR++(yZ++xJ))) t99 ((topI.drop 0).take 6)=true:=by kernel_rfl
theorem yAg:xB (wA++(zR++(yZ++xJ))) t99 ((topI.drop 6).take 6)=true:=by kernel_rfl
theorem zSs:xB (wA++(zR++(yZ++xJ))) t99 ((topI.drop 12).take 6)=true:=by kernel_rfl
theorem zSt:xB (wA++(zR++(yZ++xJ))) t99 ((topI.drop 18).take 6)=true:=by kernel_rfl
theorem zSu:xB (wA++(zR++(yZ++xJ))) t99 ((topI.drop 24).take 6)=true:=by kernel_rfl
theorem zSv:xB (wA++(zR++(yZ++xJ))) t99 ((topI.drop 30).take 6)=true:=by kernel_rfl
theorem zSw:xB (wA++(zR++(yZ++xJ))) t99 ((topI.drop 36).take 6)=true:=by kernel_rfl
theorem zSx:xB (wA++(zR++(yZ++xJ))) t99 ((topI.drop 42).take 6)=true:=by kernel_rfl
theorem zSy:xB (wA++(zR++(yZ++xJ))) t99 ((topI.drop 48).take 6)=true:=by kernel_rfl
theorem yAe:GOK [(t99,topI)]:=xA (yN.app (xU.app (zE.app xD))) yAf (xA (yN.app (xU.app (zE.app xD))) yAg (xA (yN.app (xU.app (zE.app xD))) zSs (xA (yN.app (xU.app (zE.app xD))) zSt (xA (yN.app (xU.app (zE.app xD))) zSu (xA (yN.app (xU.app (zE.app xD))) zSv (xA (yN.app (xU.app (zE.app xD))) zSw (xA (yN.app (xU.app (zE.app xD))) zSx (xL (yN.app (xU.app (zE.app xD))) (yB (Nat.le_of_ble_eq_true (by kernel_rfl)) zSy)))))))))
end Go.Abs.T
end
section
namespace Go.Abs.T
open Go.Abs.Sym
theorem yAl:xB (wA++(zR++(yZ++xJ))) t100 ((rJ.drop 0).take 6)=true:=by kernel_rfl
theorem yAm:xB (wA++(zR++(yZ++xJ))) t100 ((rJ.drop 6).take 6)=true:=by kernel_rfl
theorem zT5:xB (wA++(zR++(yZ++xJ))) t100 ((rJ.drop 12).take 6)=true:=by kernel_rfl
theorem zT6:xB (wA++(zR++(yZ++xJ))) t100 ((rJ.drop 18).take 6)=true:=by kernel_rfl
theorem zT7:xB (wA++(zR++(yZ++xJ))) t100 ((rJ.drop 24).take 6)=true:=by kernel_rfl
theorem zT8:xB (wA++(zR++(yZ++xJ))) t100 ((rJ.drop 30).take 6)=true:=by kernel_rfl
theorem zT9:xB (wA++(zR++(yZ++xJ))) t100 ((rJ.drop 36).take 6)=true:=by kernel_rfl
theorem zTa:xB (wA++(zR++(yZ++xJ))) t100 ((rJ.drop 42).take 6)=true:=by kernel_rfl
theorem zTb:xB (wA++(zR++(yZ++xJ))) t100 ((rJ.drop 48).take 6)=true:=by kernel_rfl
theorem zTc:xB (wA++(zR++(yZ++xJ))) t100 ((rJ.drop 54).take 6)=true:=by kernel_rfl
theorem zTd:xB (wA++(zR++(yZ++xJ))) t100 ((rJ.drop 60).take 6)=true:=by kernel_rfl
theorem zTe:xB (wA++(zR++(yZ++xJ))) t100 ((rJ.drop 66).take 6)=true:=by kernel_rfl
theorem zTf:xB (wA++(zR++(yZ++xJ))) t100 ((rJ.drop 72).take 6)=true:=by kernel_rfl
theorem zTg:xB (wA++(zR++(yZ++xJ))) t100 ((rJ.drop 78).take 6)=true:=by kernel_rfl
theorem zTh:xB (wA++(zR++(yZ++xJ))) t100 ((rJ.drop 84).take 6)=true:=by kernel_rfl
theorem zTi:xB (wA++(zR++(yZ++xJ))) t100 ((rJ.drop 90).take 6)=true:=by kernel_rfl
theorem zTj:xB (wA++(zR++(yZ++xJ))) t100 ((rJ.drop 96).take 6)=true:=by kernel_rfl
theorem zFm:xB (wA++(zR++(yZ++xJ))) t100 ((rJ.drop 102).take 6)=true:=by kernel_rfl
theorem zFn:xB (wA++(zR++(yZ++xJ))) t100 ((rJ.drop 108).take 6)=true:=by kernel_rfl
theorem zFo:xB (wA++(zR++(yZ++xJ))) t100 ((rJ.drop 114).take 6)=true:=by kernel_rfl
theorem zFp:xB (wA++(zR++(yZ++xJ))) t100 ((rJ.drop 120).take 6)=true:=by kernel_rfl
theorem yAk:GOK [(t100,rJ)]:=xA (yN.app (xU.app (zE.app xD))) yAl (xA (yN.app (xU.app (zE.app xD))) yAm (xA (yN.app (xU.app (zE.app xD))) zT5 (xA (yN.app (xU.app (zE.app xD))) zT6 (xA (yN.app (xU.app (zE.app xD))) zT7 (xA (yN.app (xU.app (zE.app xD))) zT8 (xA (yN.app (xU.app (zE.app xD))) zT9 (xA (yN.app (xU.app (zE.app xD))) zTa (xA (yN.app (xU.app (zE.app xD))) zTb (xA (yN.app (xU.app (zE.app xD))) zTc (xA (yN.app (xU.app (zE.app xD))) zTd (xA (yN.app (xU.app (zE.app xD))) zTe (xA (yN.app (xU.app (zE.app xD))) zTf (xA (yN.app (xU.app (zE.app xD))) zTg (xA (yN.app (xU.app (zE.app xD))) zTh (xA (yN.app (xU.app (zE.app xD))) zTi (xA (yN.app (xU.app (zE.app xD))) zTj (xA (yN.app (xU.app (zE.app xD))) zFm (xA (yN.app (xU.app (zE.app xD))) zFn (xA (yN.app (xU.app (zE.app xD))) zFo (xL (yN.app (xU.app (zE.app xD))) (yB (Nat.le_of_ble_eq_true (by kernel_rfl)) zFp)))))))))))))))))))))
end Go.Abs.T
end
section
namespace Go.Abs.Sym
open Go.Abs.T
open Go.Proofs
def eqR (a n s:Nat) (c:Nat×Nat×Nat):Bool:=eqI (rX c.1 c.2.1 c.2.2) (rX a n s)&&Nat.beq c.2.2 s
def yDf (a n s d:Nat):Bool :=
 let dr:=drX a n d
 bif ltI dr (.ofNat 0) then Nat.beq (bJ a n s d) 3 else bif eqI (dr.tmod (.ofNat 2)) (.ofNat 0) then (bif ltI (.ofNat 0) dr then
  drC.any fun r=>eqR a n s (r.1,r.2.1,r.2.2.1)&&(eqI (xX r.1 r.2.1) (xX a n)&&(eqI (drX r.1 r.2.1 r.2.2.2.1) dr&&Nat.beq (bJ a n s d) (bif r.2.2.2.2 then 0 else 22)))
  else Nat.beq (bJ a n s d) 0) else Nat.beq (bJ a n s d) 3
def yD8 (a n s d:Nat):Bool:=(bxC.any fun b=>eqR a n s b)&&Go.Abs.T.inC.any fun i=>eqR a n s (i.1,i.2.1,i.2.2.1)&&(eqI (xX i.1 i.2.1) (xX a n)&&(bif i.2.2.2 then yDf a n s d else Nat.beq (bJ a n s d) 22))
def okR (a n s d:Nat):Bool:=ckC.any fun c=>eqR a n s (c.1,c.2.1,c.2.2.1)&&(bif Nat.beq c.2.2.2 0 then yD8 a n s d else Nat.beq c.2.2.2 (bJ a n s d))
theorem zZb:([0,2,3,4,5].all fun a=>[0,1,2,3,4,5,6,7].all fun n=>[0,1,2,3,4].all fun s=>[0,1,2,3].all fun d=>okR a n s d)=true:=by kernel_rfl
theorem yFn {a n s d:Nat} (ha:a∈[0,2,3,4,5]) (hn:n<8) (hs:s<5) (hd:d<4):okR a n s d=true :=
 nO (nO (nO (nO zZb ha) (show n∈[0,1,2,3,4,5,6,7] by simp only [List.mem_cons,List.not_mem_nil,or_false]; omega)) (show s∈[0,1,2,3,4] by simp only [List.mem_cons,List.not_mem_nil,or_false]; omega)) (show d∈[0,1,2,3] by simp only [List.mem_cons,List.not_mem_nil,or_false]; omega)
section
variable {nm:List Nat} {dr:Int} {k b:Nat} (hk:k<6) (hb:b<2)
include hk hb
omit hk hb in
theorem xRo {a n s:Nat} {c:Nat×Nat×Nat} (h:eqR a n s c=true):rX c.1 c.2.1 c.2.2=rX a n s∧c.2.2=s:=by
 simp only [eqR,Bool.and_eq_true,kE] at h
 exact ⟨eq_of_beq h.1,Nat.eq_of_beq_eq_true h.2⟩
theorem xY8 {a n s d:Nat} (ha:a∈[0,2,3,4,5]) (hs:s<5):(shX a n s).subst (xH _ (kP (nm:=nm) (dr:=dr) hk hb))=.agg (pV (bC nm a n k b s d)):=by
 have ee:=zI1 (nm:=nm) (dr:=dr) hk hb hs
 have hl:AV.subst (xH _ (kP (nm:=nm) (dr:=dr) hk hb)) (.agg [zi (shK s),.rslc (neX s) (edX s),zi (rX a n s)])=.agg [zi (shK s),slV edC ⟨1,shE (pX k) (pY b) s⟩,zi (rX a n s)]:=by
  rw [← ee]
  rfl
 unfold shX
 rw [hl]
 simp only [List.mem_cons,List.not_mem_nil,or_false] at ha
 rcases ha with rfl | rfl | rfl | rfl | rfl<;>simp only [bC,xQh,gU,pV,rX,zi]
theorem yDm {a n s d:Nat} (ha:a∈[0,2,3,4,5]) (hn:n<8):(AV.agg [X (xX a n),Y 0]).subst (xH _ (kP (nm:=nm) (dr:=dr) hk hb))=.agg (atC (bC nm a n k b s d)):=by
 have ex:=xHf (nm:=nm) (dr:=dr) hk hb (c:=xX a n) (by
  unfold xX
  split
  ·simp only [Int.ofNat_eq_natCast]; omega
  ·decide)
 have ey:=xOo (nm:=nm) (dr:=dr) hk hb (c:=0) (by decide)
 rw [Int.add_zero] at ey
 have hl:AV.subst (xH _ (kP (nm:=nm) (dr:=dr) hk hb)) (.agg [X (xX a n),Y 0])=.agg [.int .i64 (pX k+xX a n),.int .i64 (pY b)]:=by
  rw [← ex,← ey]
  rfl
 rw [hl]
 simp only [List.mem_cons,List.not_mem_nil,or_false] at ha
 rcases ha with rfl | rfl | rfl | rfl | rfl<;>simp only [bC,xQh,gU,atC,xX,Int.add_zero]
theorem yDp {a n s:Nat} (hs:s<5) (hr : -100≤rX a n s∧rX a n s≤100):(zBl a n s).subst (xH _ (kP (nm:=nm) (dr:=dr) hk hb)) =
  .agg [.int .i64 (pX k+(- hxO s - rX a n s)),.int .i64 (pY b+(- hyO s - rX a n s)),.int .i64 (pX k+(hxO s+rX a n s)),.int .i64 (pY b+(hyO s+rX a n s))]:=by
 have h1:0≤hxO s∧hxO s≤6∧0≤hyO s∧hyO s≤6:=by
  match s,hs with
  | 0,_=>decide
  | 1,_=>decide
  | 2,_=>decide
  | 3,_=>decide
  | 4,_=>decide
 have x1:=xHf (nm:=nm) (dr:=dr) hk hb (c := - hxO s - rX a n s) (by omega)
 have x2:=xHf (nm:=nm) (dr:=dr) hk hb (c:=hxO s+rX a n s) (by omega)
 have y1:=xOo (nm:=nm) (dr:=dr) hk hb (c := - hyO s - rX a n s) (by omega)
 have y2:=xOo (nm:=nm) (dr:=dr) hk hb (c:=hyO s+rX a n s) (by omega)
 rw [← x1,← x2,← y1,← y2]
 rfl
end
theorem pQ {n:Int} (h1 : -1048576≤n) (h2:n≤1048576):xB1 n=false:=by
 have e1:(Int.negSucc 1048575) = -1048576:=rfl
 have e2:(Int.ofNat 1048576)=1048576:=rfl
 simp only [xB1,Bool.or_eq_false_iff,kH,decide_eq_false_iff_not]
 omega
theorem zI9 {nm:List Nat} {a n k b s d:Nat} (ha:a∈[0,2,3,4,5]):(bC nm a n k b s d).nm=nm∧(bC nm a n k b s d).x=pX k+xX a n∧(bC nm a n k b s d).y=pY b∧(bC nm a n k b s d).dr=drX a n d:=by
 simp only [List.mem_cons,List.not_mem_nil,or_false] at ha
 rcases ha with rfl | rfl | rfl | rfl | rfl<;>simp only [bC,xQh,gU,xX,drX,Int.add_zero,and_self]
theorem yFz {a n s:Nat} (ha:a∈[0,2,3,4,5]) (hn:n<8) (hs:s<5) : -10≤rX a n s∧rX a n s≤10:=by
 have h1 : -10≤shR s∧shR s≤10:=by
  match s,hs with
  | 0,_=>decide
  | 1,_=>decide
  | 2,_=>decide
  | 3,_=>decide
  | 4,_=>decide
 simp only [List.mem_cons,List.not_mem_nil,or_false] at ha
 rcases ha with rfl | rfl | rfl | rfl | rfl<;>simp only [rX,Int.ofNat_eq_natCast]<;>omega
theorem zRk {T : TypD} {nm : List Nat} {a n k b s d j : Nat} (ha:a∈[0,2,3,4,5]) (hn:n<8) (hk:k<6) (hb:b<2) (hs:s<5) (hd:d<4) (hl:T.pads.l.length<90000)
  (hT:T.pads.l[j]?=some (bC nm a n k b s d)) (hM:zP t95 [.str nm] (.bool true)) (hdup:hJ T j nm=false) :
  zP t66 [.agg (tyC T),.int .i64 (.ofNat j)] (.int .i64 (.ofNat (bJ a n s d))):=by
 obtain ⟨g1,g2,g3,g4⟩:=zI9 (nm:=nm) (n:=n) (k:=k) (b:=b) (s:=s) (d:=d) ha
 have hok:=yFn ha hn hs hd
 unfold okR at hok
 obtain ⟨c,hc,h⟩:=List.any_eq_true.1 hok
 rw [Bool.and_eq_true] at h
 obtain ⟨hq,h⟩:=h
 obtain ⟨q1,q2⟩:=xRo hq
 simp only at q1 q2
 have FK:zP t96 [.agg (pV (bC nm a n k b s d))] (.int .i64 (.ofNat c.2.2.2)):=by
  have hm:([shX c.1 c.2.1 c.2.2.1],zi (.ofNat c.2.2.2))∈xPb:=List.mem_map.2 ⟨c,hc,rfl⟩
  have hr:=wS (xH _ (kP (nm:=nm) (dr:=0) hk hb)) (yAh _ (List.mem_singleton.2 rfl) _ hm)
  have e:shX c.1 c.2.1 c.2.2.1=shX a n s:=by unfold shX; rw [q1,q2]
  rw [e] at hr
  simp only [xK,xY8 hk hb ha hs (n:=n) (d:=d)] at hr
  exact hr
 have hM':zP t95 [.str (bC nm a n k b s d).nm] (.bool true):=by rw [g1]; exact hM
 have hdup':hJ T j (bC nm a n k b s d).nm=false:=by rw [g1]; exact hdup
 cases h0:Nat.beq c.2.2.2 0 with
 | false =>
  rw [h0] at h
  have e1:=Nat.eq_of_beq_eq_true h
  have hz:¬ c.2.2.2=0:=fun e=>by rw [e] at h0; cases h0
  obtain ⟨c',hc'⟩:∃ c',c.2.2.2=c'+1:=⟨c.2.2.2-1,by omega⟩
  rw [← e1,hc']
  rw [hc'] at FK
  have hF:kC [(t95,[.str (bC nm a n k b s d).nm],AV.bool true),(t96,[.agg (pV (bC nm a n k b s d))],.int .i64 (.ofNat (c'+1)))]:=fun e he=>by
   rcases List.mem_cons.1 he with rfl | he
   ·exact hM'
   ·rw [List.mem_singleton.1 he]; exact FK
  exact bR hl hT hF (fun _=>rfl) (fun h=>wZ _ _ _ _ h) (.inr ⟨hdup',zSh (fun h=>jG ((wI rfl _ _ _ _ h).trans (wZ _ _ _ _ h))) rfl⟩)
 | true =>
  rw [h0] at h
  simp only [cond_true,yD8,Bool.and_eq_true] at h
  have e0:=Nat.eq_of_beq_eq_true h0
  rw [e0] at FK
  obtain ⟨hbx,hin⟩:=h
  obtain ⟨bc,hbc,hbq⟩:=List.any_eq_true.1 hbx
  obtain ⟨r1,r2⟩:=xRo hbq
  have hrr:=yFz ha hn hs
  have FB:zP t97 [.agg (pV (bC nm a n k b s d))] (.agg [.int .i64 (pX k+(- hxO s - rX a n s)),.int .i64 (pY b+(- hyO s - rX a n s)),.int .i64 (pX k+(hxO s+rX a n s)),.int .i64 (pY b+(hyO s+rX a n s))]):=by
   have hm:([shX bc.1 bc.2.1 bc.2.2],zBl bc.1 bc.2.1 bc.2.2)∈zSq:=List.mem_map.2 ⟨bc,hbc,rfl⟩
   have hr:=wS (xH _ (kP (nm:=nm) (dr:=0) hk hb)) (yAa _ (List.mem_singleton.2 rfl) _ hm)
   have e:shX bc.1 bc.2.1 bc.2.2=shX a n s:=by unfold shX; rw [r1,r2]
   have e':zBl bc.1 bc.2.1 bc.2.2=zBl a n s:=by unfold zBl; rw [r1,r2]
   rw [e,e'] at hr
   simp only [xK,xY8 hk hb ha hs (n:=n) (d:=d),yDp hk hb hs (a:=a) (n:=n) (by omega)] at hr
   exact hr
  obtain ⟨ic,hic,hiq⟩:=List.any_eq_true.1 hin
  simp only [Bool.and_eq_true] at hiq
  obtain ⟨hiq,hix,hi⟩:=hiq
  obtain ⟨i1,i2⟩:=xRo hiq
  simp only at i1 i2
  rw [kE] at hix
  have i3:=eq_of_beq hix
  have FI:zP t99 [.agg (pV (bC nm a n k b s d)),.agg (atC (bC nm a n k b s d))] (.bool ic.2.2.2):=by
   have hm:([shX ic.1 ic.2.1 ic.2.2.1,.agg [X (xX ic.1 ic.2.1),Y 0]],AV.bool ic.2.2.2)∈Go.Abs.T.topI:=List.mem_map.2 ⟨ic,hic,rfl⟩
   have hr:=wS (xH _ (kP (nm:=nm) (dr:=0) hk hb)) (yAe _ (List.mem_singleton.2 rfl) _ hm)
   have e:shX ic.1 ic.2.1 ic.2.2.1=shX a n s:=by unfold shX; rw [i1,i2]
   rw [e,i3] at hr
   simp only [xK,xY8 hk hb ha hs (n:=n) (d:=d),yDm hk hb ha hn (s:=s) (d:=d)] at hr
   exact hr
  have hxx : -2≤xX a n∧xX a n≤12:=by
   unfold xX
   split
   ·simp only [Int.ofNat_eq_natCast]; omega
   ·decide
  have hho:0≤hxO s∧hxO s≤6∧0≤hyO s∧hyO s≤6:=by
   match s,hs with
   | 0,_=>decide
   | 1,_=>decide
   | 2,_=>decide
   | 3,_=>decide
   | 4,_=>decide
  have hpx:0≤pX k∧pX k≤150∧0≤pY b∧pY b≤10:=by
   unfold pX pY
   simp only [Int.ofNat_eq_natCast]
   omega
  have f0:xB1 (bC nm a n k b s d).x=false:=by rw [g2]; exact pQ (by omega) (by omega)
  have f1:xB1 (bC nm a n k b s d).y=false:=by rw [g3]; exact pQ (by omega) (by omega)
  have f2:=pQ (n:=pX k+(- hxO s - rX a n s)) (by omega) (by omega)
  have f3:=pQ (n:=pY b+(- hyO s - rX a n s)) (by omega) (by omega)
  have f4:=pQ (n:=pX k+(hxO s+rX a n s)) (by omega) (by omega)
  have f5:=pQ (n:=pY b+(hyO s+rX a n s)) (by omega) (by omega)
  cases hv:ic.2.2.2 with
  | false =>
   rw [hv] at hi FI
   simp only [cond_false] at hi
   rw [Nat.eq_of_beq_eq_true hi]
   exact bR hl hT (xB9 hM' FK FB FI (more:=[]) (fun _ h=>absurd h List.not_mem_nil)) (fun _=>rfl) (xC9 _ _ _ _) (.inr ⟨hdup',xW6 (gT (fun _ _=>rfl)) rfl f0 f1 f2 f3 f4 f5 rfl⟩)
  | true =>
   rw [hv] at hi FI
   simp only [cond_true,yDf] at hi
   rw [← g4] at hi
   cases hneg:ltI (bC nm a n k b s d).dr (.ofNat 0) with
   | true =>
    simp only [hneg,cond_true] at hi
    rw [Nat.eq_of_beq_eq_true hi]
    exact bR hl hT (xB9 hM' FK FB FI (more:=[]) (fun _ h=>absurd h List.not_mem_nil)) (fun _=>rfl) (xC9 _ _ _ _) (.inr ⟨hdup',zSk (gT (fun _ _=>rfl)) rfl f0 f1 f2 f3 f4 f5 rfl hneg⟩)
   | false =>
    simp only [hneg,cond_false] at hi
    cases hodd:eqI ((bC nm a n k b s d).dr.tmod (.ofNat 2)) (.ofNat 0) with
    | false =>
     simp only [hodd,cond_false] at hi
     rw [Nat.eq_of_beq_eq_true hi]
     exact bR hl hT (xB9 hM' FK FB FI (more:=[]) (fun _ h=>absurd h List.not_mem_nil)) (fun _=>rfl) (xC9 _ _ _ _) (.inr ⟨hdup',zSl (gT (fun _ _=>rfl)) rfl f0 f1 f2 f3 f4 f5 rfl hneg hodd⟩)
    | true =>
     simp only [hodd,cond_true] at hi
     cases hpos:ltI (.ofNat 0) (bC nm a n k b s d).dr with
     | false =>
      simp only [hpos,cond_false] at hi
      rw [Nat.eq_of_beq_eq_true hi]
      exact bR hl hT (xB9 hM' FK FB FI (more:=[]) (fun _ h=>absurd h List.not_mem_nil)) (fun _=>rfl) (xC9 _ _ _ _) (.inr ⟨hdup',xQt (gT (fun _ _=>rfl)) rfl f0 f1 f2 f3 f4 f5 rfl hneg hodd hpos⟩)
     | true =>
      simp only [hpos,cond_true] at hi
      obtain ⟨rc,hrc,hrq⟩:=List.any_eq_true.1 hi
      simp only [Bool.and_eq_true] at hrq
      obtain ⟨hrq,hrx,hrd,hrv⟩:=hrq
      obtain ⟨u1,u2⟩:=xRo hrq
      simp only at u1 u2
      rw [kE] at hrx hrd
      have u3:=eq_of_beq hrx
      have u4:=eq_of_beq hrd
      have FD:zP t100 [.agg (qP (bC nm a n k b s d))] (.bool rc.2.2.2.2):=by
       have hm:([rZ rc.1 rc.2.1 rc.2.2.1 (zi (drX rc.1 rc.2.1 rc.2.2.2.1))],AV.bool rc.2.2.2.2)∈rJ:=List.mem_map.2 ⟨rc,hrc,rfl⟩
       have hr:=wS (xH _ (kP (nm:=nm) (dr:=0) hk hb)) (yAk _ (List.mem_singleton.2 rfl) _ hm)
       have e:∀ v,rZ rc.1 rc.2.1 rc.2.2.1 v=rZ a n s v:=fun v=>by unfold rZ; rw [u1,u2,u3]
       rw [e,u4,g4] at hr
       have hs':=xSd (nm:=nm) (dr:=0) (d:=d) (v:=zi (drX a n d)) hk hb ha hn hs rfl
       simp only [xK,hs'] at hr
       exact hr
      have hmore:kC [(t100,[.agg (qP (bC nm a n k b s d))],AV.bool rc.2.2.2.2)]:=fun e he=>by rw [List.mem_singleton.1 he]; exact FD
      have hok2:=xB9 hM' FK FB FI hmore
      cases hr:rc.2.2.2.2 with
      | true =>
       rw [hr] at hrv hok2
       rw [Nat.eq_of_beq_eq_true hrv]
       exact bR hl hT hok2 (fun _=>rfl) (xC9 _ _ _ _) (.inr ⟨hdup',zFl (gT (fun _ _=>rfl)) rfl f0 f1 f2 f3 f4 f5 rfl hneg hodd hpos (fun h=>jG (zRm _ _ _ _ h))⟩)
      | false =>
       rw [hr] at hrv hok2
       rw [Nat.eq_of_beq_eq_true hrv]
       exact bR hl hT hok2 (fun _=>rfl) (xC9 _ _ _ _) (.inr ⟨hdup',zSi (gT (fun _ _=>rfl)) rfl f0 f1 f2 f3 f4 f5 rfl hneg hodd hpos (fun h=>jG (zRm _ _ _ _ h))⟩)
end Go.Abs.Sym
end
section
namespace Go.Abs.T
open Go.Abs.Sym
open Go.Proofs
open AV
def n07:List Nat:=[0,1,2,3,4,5,6,7]
def sh6 (n:Nat):AV:=agg [zi 1,rslc 1 [zi 1,zi 1048573,zi 0,zi 1048573,zi 0,zi 0,zi 0],zi (.ofNat (n+1))]
def pd6 (n:Nat):AV:=agg [.sym 0,zi 1,rslc 1 [zi 1,zi 1048573,zi 0,zi 1048573,zi 0,zi 0,zi 0],zi (.ofNat (n+1)),zi (1048576+(.ofNat n - 1)),zi 0,.sym 1]
def xLt (n:Nat):Int:=bif Nat.ble n 1 then 22 else 3
def f6P:List (List AV×AV):=n07.map fun n=>([pd6 n],zi (xLt n))
def f6K:List (List AV×AV):=n07.map fun n=>([sh6 n],zi 0)
def f6B:List (List AV×AV):=n07.map fun n=>([sh6 n],agg [zi (1048573 - .ofNat (n+1)),zi (- .ofNat (n+1)),zi (1048573 + .ofNat (n+1)),zi (.ofNat (n+1))])
def f6I:List (List AV×AV):=[0,1].map fun n=>([sh6 n,agg [zi (1048576+(.ofNat n - 1)),zi 0]],.bool false)
def shQ:AV:=agg [zi 1,rslc 1 [zi 1,zi 0,zi 0,zi 0,zi 0,zi 0,zi 0],zi 1]
def fQP:List (List AV×AV):=[([agg [.sym 0,zi 1,rslc 1 [zi 1,zi 0,zi 0,zi 0,zi 0,zi 0,zi 0],zi 1,zi 0,zi 0,zi 0]],zi 0)]
def fQK:List (List AV×AV):=[([shQ],zi 0)]
def fQB:List (List AV×AV):=[([shQ],agg [zi (-1),zi (-1),zi 1,zi 1])]
def fQI:List (List AV×AV):=[([shQ,agg [zi 0,zi 0]],.bool true)]
theorem yE0:GOK [(t49,f6P)]:=xL GOK.nil (by kernel_rfl:xB ([]:Grp) t49 f6P=true)
theorem yDz:GOK [(t96,f6K)]:=xL GOK.nil (by kernel_rfl:xB ([]:Grp) t96 f6K=true)
theorem yDx:GOK [(t97,f6B)]:=xL GOK.nil (by kernel_rfl:xB ([]:Grp) t97 f6B=true)
theorem yDy:GOK [(t99,f6I)]:=xL GOK.nil (by kernel_rfl:xB ([]:Grp) t99 f6I=true)
theorem yE4:GOK [(t49,fQP)]:=xL GOK.nil (by kernel_rfl:xB ([]:Grp) t49 fQP=true)
theorem yE3:GOK [(t96,fQK)]:=xL GOK.nil (by kernel_rfl:xB ([]:Grp) t96 fQK=true)
theorem yE1:GOK [(t97,fQB)]:=xL GOK.nil (by kernel_rfl:xB ([]:Grp) t97 fQB=true)
theorem yE2:GOK [(t99,fQI)]:=xL GOK.nil (by kernel_rfl:xB ([]:Grp) t99 fQI=true)
end Go.Abs.T
namespace Go.Abs.Sym
open Go.Abs.T
open Go.Proofs
def tk1 (nm:List Nat) (dr:Int):Toks:=xH _ (kP (nm:=nm) (dr:=dr) (k:=0) (b:=0) (by decide) (by decide))
theorem xS3 {n:Nat} (hn:n<8):n∈n07:=by
 simp only [n07,List.mem_cons,List.not_mem_nil,or_false]
 omega
def xC8 (nm:List Nat) (dr:Int) (n:Nat):PadD:=⟨nm,1,⟨1,[⟨1,1048573,0,1048573,0,0,0⟩]⟩,.ofNat (n+1),1048576+(Int.ofNat n - 1),0,dr⟩
theorem zI4 {nm:List Nat} {dr:Int} {n:Nat} (hn:n<8):PadK (xC8 nm dr n) (xLt n) where
 lib := by
  have hr:=wS (tk1 nm dr) (yE0 _ (List.mem_singleton.2 rfl) _ (List.mem_map.2 ⟨n,xS3 hn,rfl⟩))
  have h0:(tk1 nm dr).val 0=.str nm:=kK (t:=tdP nm dr 0 0) (i:=0) (by decide)
  have h1:(tk1 nm dr).val 1=.int .i64 dr:=kK (t:=tdP nm dr 0 0) (i:=1) (by decide)
  have e:xK (tk1 nm dr) [pd6 n]=[.agg (qP (xC8 nm dr n))]:=by
   simp only [pd6,xK,AV.subst,zi,h0,h1]
   rfl
  rw [e] at hr
  exact hr
 ref := by
  intro T j hl hT hM hdup
  have FK:zP t96 [.agg (pV (xC8 nm dr n))] (.int .i64 (.ofNat 0)):=wS (tk1 nm dr) (yDz _ (List.mem_singleton.2 rfl) _ (List.mem_map.2 ⟨n,xS3 hn,rfl⟩))
  have FB:zP t97 [.agg (pV (xC8 nm dr n))] (.agg [.int .i64 (1048573 - .ofNat (n+1)),.int .i64 (- .ofNat (n+1)),.int .i64 (1048573 + .ofNat (n+1)),.int .i64 (.ofNat (n+1))]):=wS (tk1 nm dr) (yDx _ (List.mem_singleton.2 rfl) _ (List.mem_map.2 ⟨n,xS3 hn,rfl⟩))
  have hlist:∀ {l:List (Pth×List AV×AV)},kC l→kC l:=id
  by_cases h2:n<2
  ·have FI:zP t99 [.agg (pV (xC8 nm dr n)),.agg (atC (xC8 nm dr n))] (.bool false):=wS (tk1 nm dr) (yDy _ (List.mem_singleton.2 rfl) _ (List.mem_map.2 ⟨n,by simp only [List.mem_cons,List.not_mem_nil,or_false]; omega,rfl⟩))
   have hc:xLt n=.ofNat 22:=by
    rcases (by omega:n=0∨n=1) with rfl | rfl<;>rfl
   rw [hc]
   refine bR hl hT (xB9 hM FK FB FI (more:=[]) (fun _ h=>absurd h List.not_mem_nil)) (fun _=>rfl) (xC9 _ _ _ _) (.inr ⟨hdup,xW6 (gT (fun _ _=>rfl)) rfl ?_ ?_ ?_ ?_ ?_ ?_ rfl⟩)
   all_goals
    refine pQ ?_ ?_<;>simp only [xC8,Int.ofNat_eq_natCast]<;>omega
  ·have hc:xLt n=.ofNat 3:=by
    unfold xLt
    have:Nat.ble n 1=false:=xL3 (by omega)
    rw [this]
    rfl
   rw [hc]
   have hF:kC [(t95,[.str (xC8 nm dr n).nm],AV.bool true),(t96,[.agg (pV (xC8 nm dr n))],.int .i64 (.ofNat 0)),(t97,[.agg (pV (xC8 nm dr n))],.agg [.int .i64 (1048573 - .ofNat (n+1)),.int .i64 (- .ofNat (n+1)),.int .i64 (1048573 + .ofNat (n+1)),.int .i64 (.ofNat (n+1))])]:=fun e he=>by
    rcases List.mem_cons.1 he with rfl | he
    ·exact hM
    ·rcases List.mem_cons.1 he with rfl | he
     ·exact FK
     ·rw [List.mem_singleton.1 he]; exact FB
   refine bR hl hT hF (fun _=>rfl) (fun h=>wZ _ _ _ _ h) (.inr ⟨hdup,zSj (fun h=>jG ((wI rfl _ _ _ _ h).trans (wZ _ _ _ _ h))) (fun h=>jG ((wI rfl _ _ _ _ h).trans ((wI rfl _ _ _ _ h).trans (wZ _ _ _ _ h)))) (fun n h=>jG rfl) rfl ?_⟩)
   have e1:(Int.ofNat 1048576)=1048576:=rfl
   simp only [xB1,xC8,Bool.or_eq_true,kH,decide_eq_true_eq,e1,Int.ofNat_eq_natCast]
   omega
theorem yFy (nm:List Nat):PadK ⟨nm,1,⟨1,[⟨1,0,0,0,0,0,0⟩]⟩,1,0,0,0⟩ 0 where
 lib:=by
  have hr:=wS (tk1 nm 0) (yE4 _ (List.mem_singleton.2 rfl) _ (List.mem_singleton.2 rfl))
  have h0:(tk1 nm 0).val 0=.str nm:=kK (t:=tdP nm 0 0 0) (i:=0) (by decide)
  simp only [xK,AV.subst,zi,h0] at hr
  exact hr
 ref:=by
  intro T j hl hT hM hdup
  have FK:=wS (tk1 nm 0) (yE3 _ (List.mem_singleton.2 rfl) _ (List.mem_singleton.2 rfl))
  have FB:=wS (tk1 nm 0) (yE1 _ (List.mem_singleton.2 rfl) _ (List.mem_singleton.2 rfl))
  have FI:=wS (tk1 nm 0) (yE2 _ (List.mem_singleton.2 rfl) _ (List.mem_singleton.2 rfl))
  exact bR hl hT (xB9 hM FK FB FI (more:=[]) (fun _ h=>absurd h List.not_mem_nil)) (fun _=>rfl) (xC9 _ _ _ _) (.inr ⟨hdup,xQt (gT (fun _ _=>rfl)) rfl (pQ (n:=0) (by decide) (by decide)) (pQ (n:=0) (by decide) (by decide)) (pQ (n := -1) (by decide) (by decide)) (pQ (n := -1) (by decide) (by decide)) (pQ (n:=1) (by decide) (by decide)) (pQ (n:=1) (by decide) (by decide)) rfl rfl rfl rfl⟩)
theorem xX2 {nm:List Nat} {a n k b s d:Nat} (ha:a∈[0,2,3,4,5]) (hn:n<8) (hk:k<6) (hb:b<2) (hs:s<5) (hd:d<4):PadK (bC nm a n k b s d) (.ofNat (bJ a n s d)) where
 lib:=zZl ha hn hk hb hs hd
 ref:=fun T j hl hT hM hdup=>by
  have e:=(zI9 (nm:=nm) (n:=n) (k:=k) (b:=b) (s:=s) (d:=d) ha).1
  rw [e] at hM hdup
  exact zRk ha hn hk hb hs hd hl hT hM hdup
end Go.Abs.Sym
end
end
