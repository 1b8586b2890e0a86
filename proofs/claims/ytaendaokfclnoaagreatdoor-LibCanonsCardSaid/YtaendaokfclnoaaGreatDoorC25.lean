/- What is refused: a type with an error, an arrangement of another length. -/
import Derived.Test.YtaendaokfclnoaaGreatDoorC22
import Derived.Test.YtaendaokfclnoaaGreatDoorC23
import Derived.Test.YtaendaokfclnoaaGreatDoorC24
noncomputable section
section
namespace Go.Abs.Sym
open Go.Abs.T
open Go.Proofs
def pO (T:TypD) (L:Sl (List Nat)) (e:Int):Prop:=¬ e=0∨e=0∧¬ L.l.length=T.pads.l.length
theorem xRn {a b:Int} (h:¬ a=b):eqI a b=false:=by rw [dP]; exact decide_eq_false h
section
variable {T:TypD} {L:Sl (List Nat)} {e:Int}
theorem xXb (h:¬ L.l.length=T.pads.l.length):eqI (.ofNat L.l.length) (.ofNat T.pads.l.length)=false:=xRn (fun e=>h (Int.ofNat.inj e))
variable (z A B:List Nat) (q:Bool)
theorem zU6 {X:Ctx} (hs:∀ xs,X.sums t23 xs h0=none) (hfn:X.funcs.get t23=some c23) (cC:∀ h,xC X 49 (g t17) [.agg (tyC T)] h=.ret (.int .i64 e) h) (hr:pO T L e) :
  Ret (xC X 50 (.fn t23 [] []) [.agg (tyC T),slV xN L] h0) (fun v _=>v=.tup [.agg [.nilm,.nils],.bool false]):=by
 refine bH (hs _) hfn fun fr t ga gb => ?_
 simp only [tyC] at ga cC
 rcases hr with h | ⟨rfl,h⟩
 ·have he:eqI e (.ofNat 0)=false:=xRn h
  simp +decide only [c23,yF,Nat.reduceAdd,ga,cC,he]
 ·have he:eqI (0:Int) (.ofNat 0)=true:=rfl
  have hn:=xXb h
  simp +decide only [c23,yF,Nat.reduceAdd,ga,gb,cC,he,qD,hn]
theorem xZ0 (FC:zP t17 [.agg (tyC T)] (.int .i64 e)) (hr:pO T L e):zP t23 [.agg (tyC T),slV xN L] (.tup [.agg [.nilm,.nils],.bool false]):=by
 have hF:kC [(t17,[.agg (tyC T)],AV.int .i64 e)]:=fun x hx=>by rw [List.mem_singleton.1 hx]; exact FC
 obtain ⟨v,h1,hc,rfl⟩:=zU6 (X:=XF [(t17,[.agg (tyC T)],AV.int .i64 e)]) (fun _=>rfl) rfl (fun h=>jG (wZ _ _ _ _ h)) hr
 exact kU (d:=0) (xKa hF) rfl hc (by simp only [frzs,frz,vR,yV jU,Bool.and_self]) rfl
theorem zXh {X:Ctx} (hs:∀ xs,X.sums t7 xs h0=none) (hfn:X.funcs.get t7=some c7) (cC:∀ h,xC X 49 (g t23) [.agg (tyC T),slV xN L] h=.ret (.tup [.agg [.nilm,.nils],.bool false]) h) :
  Ret (xC X 50 (.fn t7 [] []) [.agg (tyC T),slV xN L] h0) (fun v _=>v=.tup [.nils,.bool false]):=by
 refine bH (hs _) hfn fun fr t ga gb => ?_
 simp only [tyC] at ga cC
 simp +decide only [c7,yF,Nat.reduceAdd,xOw,xOx,ga,gb,cC]
theorem zXg (FC:zP t17 [.agg (tyC T)] (.int .i64 e)) (hr:pO T L e):zP t7 [.agg (tyC T),slV xN L] (.tup [.nils,.bool false]):=by
 have FA:=xZ0 FC hr
 have hF:kC [(t23,[.agg (tyC T),slV xN L],AV.tup [.agg [.nilm,.nils],.bool false])]:=fun x hx=>by rw [List.mem_singleton.1 hx]; exact FA
 obtain ⟨v,h1,hc,rfl⟩:=zXh (X:=XF [(t23,[.agg (tyC T),slV xN L],AV.tup [.agg [.nilm,.nils],.bool false])]) (fun _=>rfl) rfl (fun h=>jG (wZ _ _ _ _ h))
 exact kU (d:=0) (xKa hF) rfl hc (by simp only [frzs,frz,vR,yV jU,Bool.and_self]) rfl
theorem zHi {X:Ctx} (hs:∀ xs,X.sums t8 xs h0=none) (hfn:X.funcs.get t8=some c8) (cC:∀ h,xC X 49 (g t33) [.agg (tyC T)] h=.ret (.int .i64 e) h) (hr:pO T L e) :
  Ret (xC X 50 (.fn t8 [] []) [.agg (tyC T),slV xN L] h0) (fun v _=>v=.tup [.nils,.bool false]):=by
 refine bH (hs _) hfn fun fr t ga gb => ?_
 simp only [tyC] at ga cC
 rcases hr with h | ⟨rfl,h⟩
 ·have he:eqI e (.ofNat 0)=false:=xRn h
  simp +decide only [c8,yF,ga,cC,he]
 ·have he:eqI (0:Int) (.ofNat 0)=true:=rfl
  have hn:=xXb h
  simp +decide only [c8,yF,ga,gb,cC,he,qD,hn]
theorem zHh (FC:zP t33 [.agg (tyC T)] (.int .i64 e)) (hr:pO T L e):zP t8 [.agg (tyC T),slV xN L] (.tup [.nils,.bool false]):=by
 have hF:kC [(t33,[.agg (tyC T)],AV.int .i64 e)]:=fun x hx=>by rw [List.mem_singleton.1 hx]; exact FC
 obtain ⟨v,h1,hc,rfl⟩:=zHi (X:=XF [(t33,[.agg (tyC T)],AV.int .i64 e)]) (fun _=>rfl) rfl (fun h=>jG (wZ _ _ _ _ h)) hr
 exact kU (d:=0) (xKa hF) rfl hc (by simp only [frzs,frz,vR,yV jU,Bool.and_self]) rfl
theorem yG8 {X:Ctx} (hs:∀ xs,X.sums t13 xs h0=none) (hfn:X.funcs.get t13=some c13) (cC:∀ h,xC X 49 (g t23) [.agg (tyC T),slV xN L] h=.ret (.tup [.agg [.nilm,.nils],.bool false]) h) :
  Ret (xC X 50 (.fn t13 [] []) [.agg (tyC T),slV xN L,.agg [.str z,.str A,.str B,.bool q]] h0) (fun v _=>v=.tup [.nils,i1]):=by
 refine xLh (hs _) hfn fun fr t ga gb gc => ?_
 simp only [tyC] at ga cC
 simp +decide only [c13,yF,Nat.reduceAdd,xOw,xOx,ga,gb,gc,cC]
theorem yG7 (FC:zP t17 [.agg (tyC T)] (.int .i64 e)) (hr:pO T L e):zP t13 [.agg (tyC T),slV xN L,.agg [.str z,.str A,.str B,.bool q]] (.tup [.nils,i1]):=by
 have FA:=xZ0 FC hr
 have hF:kC [(t23,[.agg (tyC T),slV xN L],AV.tup [.agg [.nilm,.nils],.bool false])]:=fun x hx=>by rw [List.mem_singleton.1 hx]; exact FA
 obtain ⟨v,h1,hc,rfl⟩:=yG8 z A B q (X:=XF [(t23,[.agg (tyC T),slV xN L],AV.tup [.agg [.nilm,.nils],.bool false])]) (fun _=>rfl) rfl (fun h=>jG (wZ _ _ _ _ h))
 exact kU (d:=0) (xKa hF) rfl hc (by simp only [frzs,frz,vR,yV jU,Bool.and_self]) rfl
theorem yA6 {X:Ctx} (hs:∀ xs,X.sums t14 xs h0=none) (hfn:X.funcs.get t14=some c14) (cC:∀ h,xC X 49 (g t33) [.agg (tyC T)] h=.ret (.int .i64 e) h) (hr:pO T L e) :
  Ret (xC X 50 (.fn t14 [] []) [.agg (tyC T),slV xN L,.agg [.str z,.str A,.str B,.bool q]] h0) (fun v _=>v=.tup [.nils,i1]):=by
 refine xLh (hs _) hfn fun fr t ga gb gc => ?_
 simp only [tyC] at ga cC
 rcases hr with h | ⟨rfl,h⟩
 ·have he:eqI e (.ofNat 0)=false:=xRn h
  simp +decide only [c14,yF,Nat.reduceAdd,ga,gc,cC,he]
 ·have he:eqI (0:Int) (.ofNat 0)=true:=rfl
  have hn:=xXb h
  simp +decide only [c14,yF,Nat.reduceAdd,ga,gb,gc,cC,he,qD,hn]
theorem yA5 (FC:zP t33 [.agg (tyC T)] (.int .i64 e)) (hr:pO T L e):zP t14 [.agg (tyC T),slV xN L,.agg [.str z,.str A,.str B,.bool q]] (.tup [.nils,i1]):=by
 have hF:kC [(t33,[.agg (tyC T)],AV.int .i64 e)]:=fun x hx=>by rw [List.mem_singleton.1 hx]; exact FC
 obtain ⟨v,h1,hc,rfl⟩:=yA6 z A B q (X:=XF [(t33,[.agg (tyC T)],AV.int .i64 e)]) (fun _=>rfl) rfl (fun h=>jG (wZ _ _ _ _ h)) hr
 exact kU (d:=0) (xKa hF) rfl hc (by simp only [frzs,frz,vR,yV jU,Bool.and_self]) rfl
end
end Go.Abs.Sym
end
section
namespace Go.Abs.Sym
open Go.Abs.T
open Go.Proofs
def xWd (r:AV):Prop:=∃ (L:Sl (List Nat)) (b:Bool),L.l.length<90000∧r=.tup [slV xN L,.bool b]
def xOr (r:AV):Prop:=∃ (L:Sl (List Nat)) (e:Int),L.l.length<90000∧r=.tup [slV xN L,.int .i64 e]
structure Agree (T:TypD):Prop where
 can:∀ L:Sl (List Nat),L.l.length≤8→∃ r,xWd r∧zP t7 [.agg (tyC T),slV xN L] r∧zP t8 [.agg (tyC T),slV xN L] r
 swp:∀ L:Sl (List Nat),L.l.length≤8→∀ z A B q,∃ r,xOr r∧zP t13 [.agg (tyC T),slV xN L,xPa z A B q] r∧zP t14 [.agg (tyC T),slV xN L,xPa z A B q] r
section
variable {T:TypD} {e1 e2:Int} (F1:zP t17 [.agg (tyC T)] (.int .i64 e1)) (F2:zP t33 [.agg (tyC T)] (.int .i64 e2))
include F1 F2
theorem xR6 {L:Sl (List Nat)} (h1:pO T L e1) (h2:pO T L e2):∃ r,xWd r∧zP t7 [.agg (tyC T),slV xN L] r∧zP t8 [.agg (tyC T),slV xN L] r :=
 ⟨_,⟨⟨0,[]⟩,false,by decide,rfl⟩,zXg F1 h1,zHh F2 h2⟩
theorem xT5 {L:Sl (List Nat)} (h1:pO T L e1) (h2:pO T L e2) (z A B:List Nat) (q:Bool):∃ r,xOr r∧zP t13 [.agg (tyC T),slV xN L,xPa z A B q] r∧zP t14 [.agg (tyC T),slV xN L,xPa z A B q] r :=
 ⟨_,⟨⟨0,[]⟩,1,by decide,rfl⟩,yG7 z A B q F1 h1,yA5 z A B q F2 h2⟩
theorem zBf (h1:¬ e1=0) (h2:¬ e2=0):Agree T where
 can:=fun _ _=>xR6 F1 F2 (.inl h1) (.inl h2)
 swp:=fun _ _ z A B q=>xT5 F1 F2 (.inl h1) (.inl h2) z A B q
omit F1 F2 in
theorem xSv (e:Int) {L:Sl (List Nat)} (h:¬ L.l.length=T.pads.l.length):pO T L e:=by
 by_cases he:e=0
 ·exact .inr ⟨he,h⟩
 ·exact .inl he
theorem xWj (h:8<T.pads.l.length):Agree T where
 can:=fun L hL=>xR6 F1 F2 (xSv e1 (by omega)) (xSv e2 (by omega))
 swp:=fun L hL z A B q=>xT5 F1 F2 (xSv e1 (by omega)) (xSv e2 (by omega)) z A B q
end
theorem xVy {L:Sl (List Nat)} (h:L.l≠[]):slV xN L=nC L.l:=by
 rw [xCe]
 obtain ⟨k,l⟩:=L
 cases l with
 | nil=>exact absurd rfl h
 | cons a l=>rfl
theorem xWk {T:TypD} {gg:AV} {w u:Int} (I:TyI T gg w u) (F1:zP t17 [.agg (tyC T)] i0) (F2:zP t33 [.agg (tyC T)] i0) (h0:T.pads.l≠[]) (h6:T.pads.l.length≤6)
  (r1:xTb (tyN (qN T) gg) T.pads.l.length) (r2:zGt (tyN (qN T) gg) T.pads.l.length):Agree T where
 can := fun L hL=>by
  by_cases hl:L.l.length=T.pads.l.length
  ·have hne:L.l≠[]:=fun e=>by
    rw [e] at hl
    exact h0 (List.length_eq_zero_iff.1 hl.symm)
   obtain ⟨l',k1,k2,k3⟩:=zXf I F1 F2 h6 r1 hl
   rw [xVy hne]
   refine ⟨_,⟨⟨1,l'⟩,true,by simp only; omega,?_⟩,k2,k3⟩
   rw [xCe]
  ·exact xR6 (e1:=0) (e2:=0) F1 F2 (.inr ⟨rfl,hl⟩) (.inr ⟨rfl,hl⟩)
 swp := fun L hL z A B q=>by
  by_cases hl:L.l.length=T.pads.l.length
  ·have hne:L.l≠[]:=fun e=>by
    rw [e] at hl
    exact h0 (List.length_eq_zero_iff.1 hl.symm)
   obtain ⟨v,⟨e,hv⟩,k2,k3⟩:=yG6 I F1 F2 h0 h6 rfl r2 hl z A B q
   rw [xVy hne]
   refine ⟨v,?_,k2,k3⟩
   rcases hv with rfl | ⟨l',k1,rfl⟩
   ·exact ⟨⟨0,[]⟩,e,by decide,rfl⟩
   ·exact ⟨⟨1,l'⟩,e,by simp only; omega,by rw [xCe]⟩
  ·exact xT5 (e1:=0) (e2:=0) F1 F2 (.inr ⟨rfl,hl⟩) (.inr ⟨rfl,hl⟩) z A B q
theorem yGc {f:Pth} {a b:List AV} {r1 r2:AV} (hab:a=b→r1=r2) (l:List (Pth×List AV×AV)) (h:H):nB ((f,a,r1)::(f,b,r2)::l) f b h=some r2:=by
 cases hb:AV.beqs b a with
 | true =>
  have e:=AV.beqs_eq _ _ hb
  subst e
  rw [← hab rfl]
  exact wZ _ _ _ _ h
 | false =>
  have:nB ((f,a,r1)::(f,b,r2)::l) f b h=nB ((f,b,r2)::l) f b h:=by
   simp only [nB,wY,hb,Bool.and_false,cond_false]
  rw [this]
  exact wZ _ _ _ _ h
theorem xPh {fa fc fs:Pth} {ty va vb:AV} {L1 L2:Sl (List Nat)} {b1 b2:Bool} (hty:frz ty=true) (hva:frz va=true) (hvb:frz vb=true)
  (C1:zP fc [ty,va] (.tup [slV xN L1,.bool b1])) (C2:zP fc [ty,vb] (.tup [slV xN L2,.bool b2])) (S:zP fs [slV xN L1,slV xN L2] (.bool (decide (L1.l=L2.l))))
  (hab:va=vb→(AV.tup [slV xN L1,.bool b1])=.tup [slV xN L2,.bool b2])
  (run:∀ X:Ctx,(∀ h,xC X 49 (.fn fc [] []) [ty,va] h=.ret (.tup [slV xN L1,.bool b1]) h)→(∀ h,xC X 49 (.fn fc [] []) [ty,vb] h=.ret (.tup [slV xN L2,.bool b2]) h)→(∀ h,xC X 49 (.fn fs [] []) [slV xN L1,slV xN L2] h=.ret (.bool (decide (L1.l=L2.l))) h)→(∀ xs,X.sums fa xs h0=none)→X.funcs=X0.funcs →
   Ret (xC X 50 (.fn fa [] []) [ty,va,vb] h0) (fun v _=>v=.bool (b1&&b2&&decide (L1.l=L2.l))))
  (n1:Pth.beq fa fc=false) (n2:Pth.beq fa fs=false) (n3:Pth.beq fs fc=false) (n4:Pth.beq fa t98=false):zP fa [ty,va,vb] (.bool (b1&&b2&&decide (L1.l=L2.l))):=by
 have hF:kC [(fc,[ty,va],AV.tup [slV xN L1,.bool b1]),(fc,[ty,vb],AV.tup [slV xN L2,.bool b2]),(fs,[slV xN L1,slV xN L2],AV.bool (decide (L1.l=L2.l)))]:=fun x hx=>by
  rcases List.mem_cons.1 hx with rfl | hx
  ·exact C1
  ·rcases List.mem_cons.1 hx with rfl | hx
   ·exact C2
   ·rw [List.mem_singleton.1 hx]; exact S
 obtain ⟨v,h1,hc,rfl⟩:=run (XF [(fc,[ty,va],AV.tup [slV xN L1,AV.bool b1]),(fc,[ty,vb],AV.tup [slV xN L2,AV.bool b2]),(fs,[slV xN L1,slV xN L2],AV.bool (decide (L1.l=L2.l)))]) (fun h=>jG (wZ _ _ _ _ h)) (fun h=>jG (yGc (fun e=>hab (by simp only [List.cons.injEq,and_true,true_and] at e; exact e)) _ h)) (fun h=>jG ((wI n3 _ _ _ _ h).trans ((wI n3 _ _ _ _ h).trans (wZ _ _ _ _ h)))) (fun xs=>by
  show nB [(fc,[ty,va],AV.tup [slV xN L1,AV.bool b1]),(fc,[ty,vb],AV.tup [slV xN L2,AV.bool b2]),(fs,[slV xN L1,slV xN L2],AV.bool (decide (L1.l=L2.l)))] fa xs h0=none
  rw [wI n1,wI n1,wI n2]
  show zI3 (fun _ _ _=>none) fa xs h0=none
  unfold zI3
  rw [n4]
  rfl) rfl
 exact kU (d:=0) (xKa hF) rfl hc (by simp only [frzs,hty,hva,hvb,Bool.and_self]) rfl
theorem xWl {T:TypD} (hA:Agree T) {La Lb:Sl (List Nat)} (ha:La.l.length≤8) (hb:Lb.l.length≤8):∃ b:Bool,zP t10 [.agg (tyC T),slV xN La,slV xN Lb] (.bool b)∧zP t11 [.agg (tyC T),slV xN La,slV xN Lb] (.bool b):=by
 obtain ⟨r1,⟨L1,b1,hl1,rfl⟩,A1,A2⟩:=hA.can La ha
 obtain ⟨r2,B0⟩:∃ r2,xWd r2∧zP t7 [.agg (tyC T),slV xN Lb] r2∧zP t8 [.agg (tyC T),slV xN Lb] r2∧(slV xN La=slV xN Lb→(AV.tup [slV xN L1,.bool b1])=r2):=by
  by_cases e:slV xN La=slV xN Lb
  ·exact ⟨_,⟨L1,b1,hl1,rfl⟩,by rw [← e]; exact A1,by rw [← e]; exact A2,fun _=>rfl⟩
  ·obtain ⟨r2,h1,h2,h3⟩:=hA.can Lb hb
   exact ⟨r2,h1,h2,h3,fun h=>absurd h e⟩
 obtain ⟨⟨L2,b2,hl2,rfl⟩,B1,B2,hab⟩:=B0
 refine ⟨b1&&b2&&decide (L1.l=L2.l),?_,?_⟩
 ·refine xPh (fa:=t10) (fc:=t7) (fs:=t37) (by simp only [frz,vR]) (yV jU _) (yV jU _) A1 B1 (xWx L1 L2 hl1) hab (fun X c1 c2 c3 hs hfu => ?_) rfl rfl rfl rfl
  have hF:X.funcs.get t10=some c10:=by rw [hfu]; rfl
  refine xLh (hs _) hF fun fr t ga gb gc => ?_
  simp only [tyC] at ga c1 c2
  generalize decide (L1.l=L2.l)=bb at c3 ⊢
  cases b1<;>cases b2<;>simp +decide only [c10,yF,xOw,xOx,ga,gb,gc,c1,c2,c3]
 ·refine xPh (fa:=t11) (fc:=t8) (fs:=t9) (by simp only [frz,vR]) (yV jU _) (yV jU _) A2 B2 (xY6 L1 L2 hl1 hl2) hab (fun X c1 c2 c3 hs hfu => ?_) rfl rfl rfl rfl
  have hF:X.funcs.get t11=some c11:=by rw [hfu]; rfl
  refine xLh (hs _) hF fun fr t ga gb gc => ?_
  simp only [tyC] at ga c1 c2
  generalize decide (L1.l=L2.l)=bb at c3 ⊢
  cases b1<;>cases b2<;>simp +decide only [c11,yF,xOw,xOx,ga,gb,gc,c1,c2,c3]
end Go.Abs.Sym
end
end
