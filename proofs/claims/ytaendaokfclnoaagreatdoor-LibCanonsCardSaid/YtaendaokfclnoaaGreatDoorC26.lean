/- The law: the loops. -/
import Derived.Test.YtaendaokfclnoaaGreatDoorC25
import Derived.Test.YtaendaokfclnoaaGreatDoorC23
import Derived.Test.YtaendaokfclnoaaGreatDoorC22
noncomputable section
section
namespace Go.Abs.Sym
open Go.Abs.T
open Go.Proofs
def vG (l:List Pth) (fr fr':Tr AV):Prop:=∀ q∈l,fr'.get q=fr.get q
theorem wU {l:List Pth} {q:Pth} {v:AV} {fr0 fr:Tr AV} (h:xN9 q l=false):vG l fr0 (fr.put q v)=vG l fr0 fr:=by
 have hm:∀ {l:List Pth},xN9 q l=false→∀ p∈l,p≠q:=by
  intro l
  induction l with
  | nil=>intro _ p hp; cases hp
  | cons a l ih =>
   intro h p hp
   simp only [xN9,Bool.or_eq_false_iff] at h
   rcases List.mem_cons.1 hp with rfl | hp
   ·intro e
    subst e
    have:=Pth.beq_iff.2 (rfl:p=p)
    rw [this] at h
    exact absurd h.1 (by decide)
   ·exact ih h.2 p hp
 refine propext ⟨fun hk p hp => ?_,fun hk p hp => ?_⟩
 ·have:=hk p hp
  rwa [Tr.get_put,if_neg (fun e=>hm h p hp e)] at this
 ·rw [Tr.get_put,if_neg (fun e=>hm h p hp e)]
  exact hk p hp
theorem vG.put {l:List Pth} {fr fr':Tr AV} (h:vG l fr fr') {k:Pth} (hk:¬ k∈l) (v:AV):vG l fr (fr'.put k v):=fun q hq=>by
 rw [Tr.get_put,if_neg (fun e:q=k=>hk (by rw [← e]; exact hq))]
 exact h q hq
theorem vG.refl (l:List Pth) (fr:Tr AV):vG l fr fr:=fun _ _=>rfl
theorem nzA {a m:Nat} (h:a<m) (c:Nat):(a=m+c)=False:=eq_false (by omega)
theorem nzB {a m:Nat} (h:a<m):(a=m)=False:=eq_false (by omega)
theorem l02:ltI (.ofNat 0) (.ofNat 2)=true:=rfl
theorem l12:ltI (.ofNat 1) (.ofNat 2)=true:=rfl
theorem l22:ltI (.ofNat 2) (.ofNat 2)=false:=rfl
theorem l03:ltI (.ofNat 0) (.ofNat 3)=true:=rfl
theorem l13:ltI (.ofNat 1) (.ofNat 3)=true:=rfl
theorem l23:ltI (.ofNat 2) (.ofNat 3)=true:=rfl
theorem l33:ltI (.ofNat 3) (.ofNat 3)=false:=rfl
theorem yNd (id:Pth) (c:Option Nat):zF (.slc 4) (.slc id 0 2 4 c) (.int .i64 (.ofNat 0))=some (.ptr id 0):=rfl
theorem yNe (id:Pth) (c:Option Nat):zF (.slc 4) (.slc id 0 2 4 c) (.int .i64 (.ofNat 1))=some (.ptr id 4):=rfl
theorem yF4 (id:Pth) (c:Option Nat):zF (.slc 1) (.slc id 0 3 1 c) (.int .i64 (.ofNat 0))=some (.ptr id 0):=rfl
theorem yF5 (id:Pth) (c:Option Nat):zF (.slc 1) (.slc id 0 3 1 c) (.int .i64 (.ofNat 1))=some (.ptr id 1):=rfl
theorem yF6 (id:Pth) (c:Option Nat):zF (.slc 1) (.slc id 0 3 1 c) (.int .i64 (.ofNat 2))=some (.ptr id 2):=rfl
theorem yNb (id:Pth) (c:Option Nat):zF (.slc 3) (.slc id 0 2 3 c) (.int .i64 (.ofNat 0))=some (.ptr id 0):=rfl
theorem yNc (id:Pth) (c:Option Nat):zF (.slc 3) (.slc id 0 2 3 c) (.int .i64 (.ofNat 1))=some (.ptr id 3):=rfl
def ksI:List Pth:=[t1,t3,t5,t6,t7,t8,t9,t10,t12,t14,t42,t43,t44,t51,t52,t53,t93,t94]
def swC (z A B:List Nat) (q:Bool):List AV:=[.str z,.str A,.str B,.bool q]
def SwA (X:Ctx) (x:TypD) (L:Sl (List Nat)) (z A B:List Nat) (q:Bool):Prop:=∃ (P:Sl (List Nat)) (e:Int),P.l.length<90000 ∧
 (∀ h,xC X 59 (g t13) [.agg (tyC x),slV xN L,.agg (swC z A B q)] h=.ret (.tup [slV xN P,.int .i64 e]) h) ∧
 (∀ h,xC X 59 (g t14) [.agg (tyC x),slV xN L,.agg (swC z A B q)] h=.ret (.tup [slV xN P,.int .i64 e]) h)
def SmA (X:Ctx):Prop:=∀ P:Sl (List Nat),P.l.length<90000→∀ h,xC X 59 (g t9) [slV xN P,slV xN P] h=.ret (.bool true) h
section
variable {X:Ctx} {x:TypD} {L:Sl (List Nat)} {z1 A1 B1 z2 A2 B2:List Nat} {p1 p2:Bool} (h1:SwA X x L z1 A1 B1 p1) (h2:SwA X x L z2 A2 B2 p2) (hS:SmA X)
def InI (fr0:Tr AV) (t0:Tr AB) (m0:Nat) (r:Nat) (s:St):Prop:=∃ fr m t j,s=⟨fr,[],⟨up .e m,t,.lf⟩,.no,none,t3⟩∧j+r=2∧m0≤m∧vG ksI fr0 fr∧fr.get t95=some (.int .i64 (.ofNat j))∧∀ i,i<m0→t.get (up .e i)=t0.get (up .e i)
include h1 h2 hS in
theorem zIj {fr0:Tr AV} {t0:Tr AB} {m0 q12 q93:Nat} {cp:Option Nat} (g12:fr0.get t12=some (.ptr (up .e q12) 0)) (n12:q12<m0) (a12:t0.get (up .e q12)=some (.cells (tyC x) false)) (g14:fr0.get t14=some (slV xN L))
  (g93:fr0.get t93=some (.slc (up .e q93) 0 2 4 cp)) (n93:q93<m0) (a93:t0.get (up .e q93)=some (.cells (swC z1 A1 B1 p1++swC z2 A2 B2 p2) false)) (g94:fr0.get t94=some (.int .i64 (.ofNat 2))) (r:Nat) (s:St) (h:InI fr0 t0 m0 r s) :
  Stp (InI fr0 t0 m0) (fun o=>∃ s,o=.exit 4 s∧InI fr0 t0 m0 0 s) r (xF X (xC X 59) c3_l0 s):=by
 obtain ⟨fr,m,t,j,rfl,hj,hm,hk,g95,ht⟩:=h
 have k12:=(hk t12 (by simp [ksI])).trans g12
 have k14:=(hk t14 (by simp [ksI])).trans g14
 have k93:=(hk t93 (by simp [ksI])).trans g93
 have k94:=(hk t94 (by simp [ksI])).trans g94
 have b12:=(ht q12 n12).trans a12
 have b93:=(ht q93 n93).trans a93
 have z12:=nzB (Nat.lt_of_lt_of_le n12 hm)
 have z93:=nzB (Nat.lt_of_lt_of_le n93 hm)
 simp only [tyC] at b12
 simp only [swC,List.cons_append,List.nil_append] at b93
 match r,j,hj with
 | 0, 2,_ =>
  simp +decide only [c3_l0,yF,k94,g95,l22,xCd]
  refine ⟨_,rfl,_,m,t,2,rfl,rfl,hm,?_,?_,ht⟩
  ·simp +decide only [wU]
   exact hk
  ·simp +decide only [Tr.get_put,g95,if_false]
 | 1, 1,_ =>
  obtain ⟨P,e,hP,c1,c2⟩:=h2
  have cS:=hS P hP
  have he:eqI e e=true:=by rw [dP]; exact decide_eq_true rfl
  simp only [tyC,swC] at c1 c2
  simp +decide only [c3_l0,yF,Nat.reduceAdd,l12,yNe,xOw,xOx,k12,k14,k93,k94,g95,b12,b93,z12,c1,c2,cS,he,xA2]
  refine ⟨0,by decide,_,m+1,_,2,rfl,rfl,by omega,?_,?_,?_⟩
  ·simp +decide only [wU]
   exact hk
  ·simp +decide only [Tr.get_put,if_true]
   rfl
  ·intro i hi
   rw [← ht i hi]
   simp only [Tr.get_put,qL,nzB (Nat.lt_of_lt_of_le hi hm),if_false]
 | 2, 0,_ =>
  obtain ⟨P,e,hP,c1,c2⟩:=h1
  have cS:=hS P hP
  have he:eqI e e=true:=by rw [dP]; exact decide_eq_true rfl
  simp only [tyC,swC] at c1 c2
  simp +decide only [c3_l0,yF,Nat.reduceAdd,l02,yNd,xOw,xOx,k12,k14,k93,k94,g95,b12,b93,z12,c1,c2,cS,he,xA2]
  refine ⟨1,by decide,_,m+1,_,1,rfl,rfl,by omega,?_,?_,?_⟩
  ·simp +decide only [wU]
   exact hk
  ·simp +decide only [Tr.get_put,if_true]
   rfl
  ·intro i hi
   rw [← ht i hi]
   simp only [Tr.get_put,qL,nzB (Nat.lt_of_lt_of_le hi hm),if_false]
end
end Go.Abs.Sym
end
section
namespace Go.Abs.Sym
open Go.Abs.T
open Go.Proofs
section
variable {X:Ctx} {x:TypD} {L:Sl (List Nat)} {z1 A1 B1 z2 A2 B2:List Nat} {p1 p2:Bool} (h1:SwA X x L z1 A1 B1 p1) (h2:SwA X x L z2 A2 B2 p2) (hS:SmA X)
include h1 h2 hS in
theorem xRw {fr0:Tr AV} {t0:Tr AB} {m0 q12 q93:Nat} {cp:Option Nat} (g12:fr0.get t12=some (.ptr (up .e q12) 0)) (n12:q12<m0) (a12:t0.get (up .e q12)=some (.cells (tyC x) false)) (g14:fr0.get t14=some (slV xN L))
  (g93:fr0.get t93=some (.slc (up .e q93) 0 2 4 cp)) (n93:q93<m0) (a93:t0.get (up .e q93)=some (.cells (swC z1 A1 B1 p1++swC z2 A2 B2 p2) false)) (g94:fr0.get t94=some (.int .i64 (.ofNat 2))) (g95:fr0.get t95=some (.int .i64 (.ofNat 0))) :
  ∃ s,jQ (xF X (xC X 59) c3_l0) 100000 ⟨fr0,[],⟨up .e m0,t0,.lf⟩,.no,none,t3⟩=.exit 4 s∧InI fr0 t0 m0 0 s :=
 kW (InI fr0 t0 m0) (fun o=>∃ s,o=.exit 4 s∧InI fr0 t0 m0 0 s) (fun r s h=>zIj h1 h2 hS g12 n12 a12 g14 g93 n93 a93 g94 r s h) 100000 2 _ ⟨fr0,m0,t0,0,rfl,rfl,Nat.le_refl _,vG.refl _ _,g95,fun _ _=>rfl⟩ (by decide)
end
def CnA (X:Ctx) (x:TypD) (L:Sl (List Nat)):Prop:=∃ (P:Sl (List Nat)) (b:Bool),P.l.length<90000 ∧
 (∀ h,xC X 59 (g t7) [.agg (tyC x),slV xN L] h=.ret (.tup [slV xN P,.bool b]) h)∧(∀ h,xC X 59 (g t8) [.agg (tyC x),slV xN L] h=.ret (.tup [slV xN P,.bool b]) h)
def AlA (X:Ctx) (x:TypD) (A L:Sl (List Nat)):Prop:=∃ b:Bool,
 (∀ h,xC X 59 (g t10) [.agg (tyC x),slV xN A,slV xN L] h=.ret (.bool b) h)∧(∀ h,xC X 59 (g t11) [.agg (tyC x),slV xN A,slV xN L] h=.ret (.bool b) h)
structure AllA (X:Ctx) (x:TypD) (A L:Sl (List Nat)) (z1 A1 B1:List Nat) (p1:Bool) (z2 A2 B2:List Nat) (p2:Bool):Prop where
 cn:CnA X x L
 al:AlA X x A L
 s1:SwA X x L z1 A1 B1 p1
 s2:SwA X x L z2 A2 B2 p2
def ksM:List Pth:=[t1,t3,t5,t6,t7,t8,t9,t10,t12,t42,t43,t44,t51,t52]
theorem xN1 {fr0 frE fr':Tr AV} (h:vG ksI frE fr') (h0:vG ksM fr0 frE):vG ksM fr0 fr':=fun q hq=>by
 rw [h q (by simp only [ksM,List.mem_cons,List.not_mem_nil,or_false] at hq; simp only [ksI,List.mem_cons,List.not_mem_nil,or_false]; rcases hq with h | h | h | h | h | h | h | h | h | h | h | h | h | h<;>simp [h])]
 exact h0 q hq
section
variable {X:Ctx} {x T:TypD} {A L0 L1 L2:Sl (List Nat)} {cs:List AV} {z1 A1 B1 z2 A2 B2:List Nat} {p1 p2:Bool} (hL0:AllA X x A L0 z1 A1 B1 p1 z2 A2 B2 p2) (hL1:AllA X x A L1 z1 A1 B1 p1 z2 A2 B2 p2) (hL2:AllA X x A L2 z1 A1 B1 p1 z2 A2 B2 p2) (hS:SmA X) (hfu:X.fuel=100000)
 (cW:∀ h,xC X 59 (.fn t12 [] []) [.agg cs,.agg (tyC T)] h=.ret (.agg (swC z1 A1 B1 p1)) h) (hcs:cs.length=9)
def MiI (fr0:Tr AV) (t0:Tr AB) (m0:Nat) (r:Nat) (s:St):Prop:=∃ fr m t j,s=⟨fr,[],⟨up .e m,t,.lf⟩,.no,none,t3⟩∧j+r=3∧m0≤m∧vG ksM fr0 fr∧fr.get t53=some (.int .i64 (.ofNat j))∧∀ i,i<m0→t.get (up .e i)=t0.get (up .e i)
include hL0 hL1 hL2 hS hfu cW hcs in
theorem zJ1 {fr0:Tr AV} {t0:Tr AB} {m0 q12 q51:Nat} {cp:Option Nat} (g3:fr0.get t3=some (.ptr (up .e 0) 0)) (a3:t0.get (up .e 0)=some (.cells cs false)) (g5:fr0.get t5=some (.ptr (up .e 1) 0)) (a5:t0.get (up .e 1)=some (.cells (swC z2 A2 B2 p2) false))
  (g8:fr0.get t8=some (.ptr (up .e 2) 0)) (a8:t0.get (up .e 2)=some (.cells (tyC T) false)) (n2:2<m0) (g9:fr0.get t9=some (slV xN A))
  (g12:fr0.get t12=some (.ptr (up .e q12) 0)) (n12:q12<m0) (a12:t0.get (up .e q12)=some (.cells (tyC x) false))
  (g51:fr0.get t51=some (.slc (up .e q51) 0 3 1 cp)) (n51:q51<m0) (a51:t0.get (up .e q51)=some (.cells [slV xN L0,slV xN L1,slV xN L2] false)) (g52:fr0.get t52=some (.int .i64 (.ofNat 3))) (r:Nat) (s:St) (h:MiI fr0 t0 m0 r s) :
  Stp (MiI fr0 t0 m0) (fun o=>∃ s,o=.exit 2 s∧MiI fr0 t0 m0 0 s) r (xF X (xC X 59) c3_l1 s):=by
 obtain ⟨fr,m,t,j,rfl,hj,hm,hk,g53,ht⟩:=h
 have k3:=(hk t3 (by simp [ksM])).trans g3
 have k5:=(hk t5 (by simp [ksM])).trans g5
 have k8:=(hk t8 (by simp [ksM])).trans g8
 have k9:=(hk t9 (by simp [ksM])).trans g9
 have k12:=(hk t12 (by simp [ksM])).trans g12
 have k51:=(hk t51 (by simp [ksM])).trans g51
 have k52:=(hk t52 (by simp [ksM])).trans g52
 have b3:=(ht 0 (by omega)).trans a3
 have b5:=(ht 1 (by omega)).trans a5
 have b8:=(ht 2 (by omega)).trans a8
 have b12:=(ht q12 n12).trans a12
 have b51:=(ht q51 n51).trans a51
 have z0:=nzA (show 0<m by omega)
 have z1':=nzA (show 1<m by omega)
 have z2':=nzA (show 2<m by omega)
 have z12:=nzA (Nat.lt_of_lt_of_le n12 hm)
 have z51:=nzA (Nat.lt_of_lt_of_le n51 hm)
 have htk:takeD cs 0 9=some cs:=pW hcs
 simp only [tyC] at b12 b8 cW
 simp only [swC] at b5 cW
 match r,j,hj with
 | 0, 3,_ =>
  simp +decide only [c3_l1,yF,k52,g53,l33,xCd]
  refine ⟨_,rfl,_,m,t,3,rfl,rfl,hm,?_,?_,ht⟩
  ·simp +decide only [wU]
   exact hk
  ·simp +decide only [Tr.get_put,g53,if_false]
 | 3, 0,_ =>
  obtain ⟨⟨P,b,hP,c1,c2⟩,⟨bb,d1,d2⟩,s1,s2⟩:=hL0
  have cS:=hS P hP
  simp only [tyC] at c1 c2 d1 d2
  simp +decide only [c3_l1,yK,Nat.reduceAdd,Nat.reduceLeDiff,l03,yF4,xLu,xLv,xW7,xVd,xHd,xOw,xOx,hfu,k3,k5,k8,k9,k12,k51,k52,g53,b3,b5,b8,b12,b51,htk,c1,c2,d1,d2,cS,cW]
  generalize hit:jQ (xF X (xC X 59) c3_l0) 100000 _=o
  obtain ⟨s,rfl,fr',m',t',j',rfl,hj',hm',hk',g95',ht'⟩:∃ s,o=.exit 4 s∧InI _ _ _ 0 s:=by
   rw [← hit]
   refine xRw s1 s2 hS (q12:=q12) (q93:=m+24) (cp:=some 2) ?_ (by omega) ?_ ?_ ?_ (by omega) ?_ ?_ ?_
   ·simp +decide only [Tr.get_put,k12,if_false]
   ·simp +decide only [Tr.get_put,qL,z12,if_false,b12,tyC]
   ·simp +decide only [Tr.get_put,if_true,if_false]
   ·simp +decide only [Tr.get_put,if_true,if_false]
   ·simp +decide only [Tr.get_put,if_true,swC,List.cons_append,List.nil_append]
   ·simp +decide only [Tr.get_put,if_true,if_false]
   ·simp +decide only [Tr.get_put,if_true,if_false]
  clear hit
  have e53:fr'.get t53=some (.int .i64 (.ofNat 0)):=(hk' t53 (by simp [ksI])).trans (by simp +decide only [Tr.get_put,g53,if_false])
  have hw:zU .i64 (Int.ofNat 0+Int.ofNat 1)=Int.ofNat 1:=rfl
  simp +decide only [yF,e53,hw,xA2]
  refine ⟨2,by decide,_,m',t',1,rfl,rfl,by omega,?_,?_,?_⟩
  ·simp +decide only [wU]
   exact xN1 hk' (by simp +decide only [wU]; exact hk)
  ·simp +decide only [Tr.get_put,if_true]
  ·intro i hi
   rw [ht' i (by omega),← ht i hi]
   simp only [Tr.get_put,qL,nzA (Nat.lt_of_lt_of_le hi hm),if_false]
 | 2, 1,_ =>
  obtain ⟨⟨P,b,hP,c1,c2⟩,⟨bb,d1,d2⟩,s1,s2⟩:=hL1
  have cS:=hS P hP
  simp only [tyC] at c1 c2 d1 d2
  simp +decide only [c3_l1,yK,Nat.reduceAdd,Nat.reduceLeDiff,l13,yF5,xLu,xLv,xW7,xVd,xHd,xOw,xOx,hfu,k3,k5,k8,k9,k12,k51,k52,g53,b3,b5,b8,b12,b51,htk,c1,c2,d1,d2,cS,cW]
  generalize hit:jQ (xF X (xC X 59) c3_l0) 100000 _=o
  obtain ⟨s,rfl,fr',m',t',j',rfl,hj',hm',hk',g95',ht'⟩:∃ s,o=.exit 4 s∧InI _ _ _ 0 s:=by
   rw [← hit]
   refine xRw s1 s2 hS (q12:=q12) (q93:=m+24) (cp:=some 2) ?_ (by omega) ?_ ?_ ?_ (by omega) ?_ ?_ ?_
   ·simp +decide only [Tr.get_put,k12,if_false]
   ·simp +decide only [Tr.get_put,qL,z12,if_false,b12,tyC]
   ·simp +decide only [Tr.get_put,if_true,if_false]
   ·simp +decide only [Tr.get_put,if_true,if_false]
   ·simp +decide only [Tr.get_put,if_true,swC,List.cons_append,List.nil_append]
   ·simp +decide only [Tr.get_put,if_true,if_false]
   ·simp +decide only [Tr.get_put,if_true,if_false]
  clear hit
  have e53:fr'.get t53=some (.int .i64 (.ofNat 1)):=(hk' t53 (by simp [ksI])).trans (by simp +decide only [Tr.get_put,g53,if_false])
  have hw:zU .i64 (Int.ofNat 1+Int.ofNat 1)=Int.ofNat 2:=rfl
  simp +decide only [yF,e53,hw,xA2]
  refine ⟨1,by decide,_,m',t',2,rfl,rfl,by omega,?_,?_,?_⟩
  ·simp +decide only [wU]
   exact xN1 hk' (by simp +decide only [wU]; exact hk)
  ·simp +decide only [Tr.get_put,if_true]
  ·intro i hi
   rw [ht' i (by omega),← ht i hi]
   simp only [Tr.get_put,qL,nzA (Nat.lt_of_lt_of_le hi hm),if_false]
 | 1, 2,_ =>
  obtain ⟨⟨P,b,hP,c1,c2⟩,⟨bb,d1,d2⟩,s1,s2⟩:=hL2
  have cS:=hS P hP
  simp only [tyC] at c1 c2 d1 d2
  simp +decide only [c3_l1,yK,Nat.reduceAdd,Nat.reduceLeDiff,l23,yF6,xLu,xLv,xW7,xVd,xHd,xOw,xOx,hfu,k3,k5,k8,k9,k12,k51,k52,g53,b3,b5,b8,b12,b51,htk,c1,c2,d1,d2,cS,cW]
  generalize hit:jQ (xF X (xC X 59) c3_l0) 100000 _=o
  obtain ⟨s,rfl,fr',m',t',j',rfl,hj',hm',hk',g95',ht'⟩:∃ s,o=.exit 4 s∧InI _ _ _ 0 s:=by
   rw [← hit]
   refine xRw s1 s2 hS (q12:=q12) (q93:=m+24) (cp:=some 2) ?_ (by omega) ?_ ?_ ?_ (by omega) ?_ ?_ ?_
   ·simp +decide only [Tr.get_put,k12,if_false]
   ·simp +decide only [Tr.get_put,qL,z12,if_false,b12,tyC]
   ·simp +decide only [Tr.get_put,if_true,if_false]
   ·simp +decide only [Tr.get_put,if_true,if_false]
   ·simp +decide only [Tr.get_put,if_true,swC,List.cons_append,List.nil_append]
   ·simp +decide only [Tr.get_put,if_true,if_false]
   ·simp +decide only [Tr.get_put,if_true,if_false]
  clear hit
  have e53:fr'.get t53=some (.int .i64 (.ofNat 2)):=(hk' t53 (by simp [ksI])).trans (by simp +decide only [Tr.get_put,g53,if_false])
  have hw:zU .i64 (Int.ofNat 2+Int.ofNat 1)=Int.ofNat 3:=rfl
  simp +decide only [yF,e53,hw,xA2]
  refine ⟨0,by decide,_,m',t',3,rfl,rfl,by omega,?_,?_,?_⟩
  ·simp +decide only [wU]
   exact xN1 hk' (by simp +decide only [wU]; exact hk)
  ·simp +decide only [Tr.get_put,if_true]
  ·intro i hi
   rw [ht' i (by omega),← ht i hi]
   simp only [Tr.get_put,qL,nzA (Nat.lt_of_lt_of_le hi hm),if_false]
end
end Go.Abs.Sym
end
section
namespace Go.Abs.Sym
open Go.Abs.T
open Go.Proofs
section
variable {X:Ctx} {x T:TypD} {A L0 L1 L2:Sl (List Nat)} {cs:List AV} {z1 A1 B1 z2 A2 B2:List Nat} {p1 p2:Bool} (hL0:AllA X x A L0 z1 A1 B1 p1 z2 A2 B2 p2) (hL1:AllA X x A L1 z1 A1 B1 p1 z2 A2 B2 p2) (hL2:AllA X x A L2 z1 A1 B1 p1 z2 A2 B2 p2) (hS:SmA X) (hfu:X.fuel=100000)
 (cW:∀ h,xC X 59 (.fn t12 [] []) [.agg cs,.agg (tyC T)] h=.ret (.agg (swC z1 A1 B1 p1)) h) (hcs:cs.length=9)
include hL0 hL1 hL2 hS hfu cW hcs in
theorem zAd {fr0:Tr AV} {t0:Tr AB} {m0 q12 q51:Nat} {cp:Option Nat} (g3:fr0.get t3=some (.ptr (up .e 0) 0)) (a3:t0.get (up .e 0)=some (.cells cs false)) (g5:fr0.get t5=some (.ptr (up .e 1) 0)) (a5:t0.get (up .e 1)=some (.cells (swC z2 A2 B2 p2) false))
  (g8:fr0.get t8=some (.ptr (up .e 2) 0)) (a8:t0.get (up .e 2)=some (.cells (tyC T) false)) (n2:2<m0) (g9:fr0.get t9=some (slV xN A))
  (g12:fr0.get t12=some (.ptr (up .e q12) 0)) (n12:q12<m0) (a12:t0.get (up .e q12)=some (.cells (tyC x) false))
  (g51:fr0.get t51=some (.slc (up .e q51) 0 3 1 cp)) (n51:q51<m0) (a51:t0.get (up .e q51)=some (.cells [slV xN L0,slV xN L1,slV xN L2] false)) (g52:fr0.get t52=some (.int .i64 (.ofNat 3))) (g53:fr0.get t53=some (.int .i64 (.ofNat 0))) :
  ∃ s,jQ (xF X (xC X 59) c3_l1) 100000 ⟨fr0,[],⟨up .e m0,t0,.lf⟩,.no,none,t3⟩=.exit 2 s∧MiI fr0 t0 m0 0 s :=
 kW (MiI fr0 t0 m0) (fun o=>∃ s,o=.exit 2 s∧MiI fr0 t0 m0 0 s) (fun r s h=>zJ1 hL0 hL1 hL2 hS hfu cW hcs g3 a3 g5 a5 g8 a8 n2 g9 g12 n12 a12 g51 n51 a51 g52 r s h) 100000 3 _ ⟨fr0,m0,t0,0,rfl,rfl,Nat.le_refl _,vG.refl _ _,g53,fun _ _=>rfl⟩ (by decide)
end
def ksO:List Pth:=[t1,t3,t5,t6,t7,t8,t9,t10,t42,t43]
theorem xQ7 {fr0 frE fr':Tr AV} (h:vG ksM frE fr') (h0:vG ksO fr0 frE):vG ksO fr0 fr':=fun q hq=>by
 rw [h q (by simp only [ksO,List.mem_cons,List.not_mem_nil,or_false] at hq; simp only [ksM,List.mem_cons,List.not_mem_nil,or_false]; rcases hq with h | h | h | h | h | h | h | h | h | h<;>simp [h])]
 exact h0 q hq
section
variable {X:Ctx} {T O:TypD} {A B R:Sl (List Nat)} {cs:List AV} {z1 A1 B1 z2 A2 B2:List Nat} {p1 p2:Bool}
 (hT:∀ L,L=A∨L=B∨L=R→AllA X T A L z1 A1 B1 p1 z2 A2 B2 p2) (hO:∀ L,L=A∨L=B∨L=R→AllA X O A L z1 A1 B1 p1 z2 A2 B2 p2) (hS:SmA X) (hfu:X.fuel=100000)
 (cW:∀ h,xC X 59 (.fn t12 [] []) [.agg cs,.agg (tyC T)] h=.ret (.agg (swC z1 A1 B1 p1)) h) (hcs:cs.length=9)
def OuI (fr0:Tr AV) (t0:Tr AB) (m0:Nat) (r:Nat) (s:St):Prop:=∃ fr m t j,s=⟨fr,[],⟨up .e m,t,.lf⟩,.no,none,t3⟩∧j+r=2∧m0≤m∧vG ksO fr0 fr∧fr.get t44=some (.int .i64 (.ofNat j))∧∀ i,i<m0→t.get (up .e i)=t0.get (up .e i)
include hT hO hS hfu cW hcs in
theorem zRj {fr0:Tr AV} {t0:Tr AB} {m0 q42:Nat} {cp:Option Nat} (g3:fr0.get t3=some (.ptr (up .e 0) 0)) (a3:t0.get (up .e 0)=some (.cells cs false)) (g5:fr0.get t5=some (.ptr (up .e 1) 0)) (a5:t0.get (up .e 1)=some (.cells (swC z2 A2 B2 p2) false))
  (g8:fr0.get t8=some (.ptr (up .e 2) 0)) (a8:t0.get (up .e 2)=some (.cells (tyC T) false)) (n2:2<m0) (g9:fr0.get t9=some (slV xN A)) (g10:fr0.get t10=some (slV xN B)) (g1:fr0.get t1=some (slV xN R))
  (g42:fr0.get t42=some (.slc (up .e q42) 0 2 3 cp)) (n42:q42<m0) (a42:t0.get (up .e q42)=some (.cells (tyC T++tyC O) false)) (g43:fr0.get t43=some (.int .i64 (.ofNat 2))) (r:Nat) (s:St) (h:OuI fr0 t0 m0 r s) :
  Stp (OuI fr0 t0 m0) (fun o=>∃ s,o=.exit 0 s∧OuI fr0 t0 m0 0 s) r (xF X (xC X 59) c3_l2 s):=by
 obtain ⟨fr,m,t,j,rfl,hj,hm,hk,g44,ht⟩:=h
 have k3:=(hk t3 (by simp [ksO])).trans g3
 have k5:=(hk t5 (by simp [ksO])).trans g5
 have k8:=(hk t8 (by simp [ksO])).trans g8
 have k9:=(hk t9 (by simp [ksO])).trans g9
 have k10:=(hk t10 (by simp [ksO])).trans g10
 have k1:=(hk t1 (by simp [ksO])).trans g1
 have k42:=(hk t42 (by simp [ksO])).trans g42
 have k43:=(hk t43 (by simp [ksO])).trans g43
 have b3:=(ht 0 (by omega)).trans a3
 have b5:=(ht 1 (by omega)).trans a5
 have b8:=(ht 2 (by omega)).trans a8
 have b42:=(ht q42 n42).trans a42
 have z0:=nzB (show 0<m by omega)
 have z1':=nzB (show 1<m by omega)
 have z2':=nzB (show 2<m by omega)
 have y0:=nzA (show 0<m by omega)
 have y1:=nzA (show 1<m by omega)
 have y2:=nzA (show 2<m by omega)
 have z42:=nzB (Nat.lt_of_lt_of_le n42 hm)
 have y42:=nzA (Nat.lt_of_lt_of_le n42 hm)
 simp only [tyC,List.cons_append,List.nil_append] at b42
 match r,j,hj with
 | 0, 2,_ =>
  simp +decide only [c3_l2,yF,k43,g44,l22,xCd]
  refine ⟨_,rfl,_,m,t,2,rfl,rfl,hm,?_,?_,ht⟩
  ·simp +decide only [wU]
   exact hk
  ·simp +decide only [Tr.get_put,g44,if_false]
 | 2, 0,_ =>
  simp +decide only [c3_l2,yK,Nat.reduceAdd,Nat.reduceMul,l02,yNb,hfu,k1,k9,k10,k42,k43,g44,b42]
  generalize hit:jQ (xF X (xC X 59) c3_l1) 100000 _=o
  obtain ⟨s,rfl,fr',m',t',j',rfl,hj',hm',hk',g53',ht'⟩:∃ s,o=.exit 2 s∧MiI _ _ _ 0 s:=by
   rw [← hit]
   refine zAd (hT A (.inl rfl)) (hT B (.inr (.inl rfl))) (hT R (.inr (.inr rfl))) hS hfu cW hcs (q12:=m) (q51:=m+1) (cp:=some 3) ?_ ?_ ?_ ?_ ?_ ?_ (by omega) ?_ ?_ (by omega) ?_ ?_ (by omega) ?_ ?_ ?_
   ·simp +decide only [Tr.get_put,k3,if_false]
   ·simp +decide only [Tr.get_put,qL,z0,y0,if_false,b3]
   ·simp +decide only [Tr.get_put,k5,if_false]
   ·simp +decide only [Tr.get_put,qL,z1',y1,if_false,b5]
   ·simp +decide only [Tr.get_put,k8,if_false]
   ·simp +decide only [Tr.get_put,qL,z2',y2,if_false,b8]
   ·simp +decide only [Tr.get_put,k9,if_false]
   ·simp +decide only [Tr.get_put,if_true,if_false]
   ·have e1:(m=m+1)=False:=eq_false (by omega)
    simp +decide only [Tr.get_put,qL,e1,if_true,if_false,tyC]
   ·simp +decide only [Tr.get_put,if_true,if_false]
   ·simp +decide only [Tr.get_put,if_true]
   ·simp +decide only [Tr.get_put,if_true,if_false]
   ·simp +decide only [Tr.get_put,if_true,if_false]
  clear hit
  have e44:fr'.get t44=some (.int .i64 (.ofNat 0)):=(hk' t44 (by simp [ksM])).trans (by simp +decide only [Tr.get_put,g44,if_false])
  have hw:zU .i64 (Int.ofNat 0+Int.ofNat 1)=Int.ofNat 1:=rfl
  simp +decide only [yF,e44,hw,xA2]
  refine ⟨1,by decide,_,m',t',1,rfl,rfl,by omega,?_,?_,?_⟩
  ·simp +decide only [wU]
   exact xQ7 hk' (by simp +decide only [wU]; exact hk)
  ·simp +decide only [Tr.get_put,if_true]
  ·intro i hi
   rw [ht' i (by omega),← ht i hi]
   simp only [Tr.get_put,qL,nzA (Nat.lt_of_lt_of_le hi hm),nzB (Nat.lt_of_lt_of_le hi hm),if_false]
 | 1, 1,_ =>
  simp +decide only [c3_l2,yK,Nat.reduceAdd,Nat.reduceMul,l12,yNc,hfu,k1,k9,k10,k42,k43,g44,b42]
  generalize hit:jQ (xF X (xC X 59) c3_l1) 100000 _=o
  obtain ⟨s,rfl,fr',m',t',j',rfl,hj',hm',hk',g53',ht'⟩:∃ s,o=.exit 2 s∧MiI _ _ _ 0 s:=by
   rw [← hit]
   refine zAd (hO A (.inl rfl)) (hO B (.inr (.inl rfl))) (hO R (.inr (.inr rfl))) hS hfu cW hcs (q12:=m) (q51:=m+1) (cp:=some 3) ?_ ?_ ?_ ?_ ?_ ?_ (by omega) ?_ ?_ (by omega) ?_ ?_ (by omega) ?_ ?_ ?_
   ·simp +decide only [Tr.get_put,k3,if_false]
   ·simp +decide only [Tr.get_put,qL,z0,y0,if_false,b3]
   ·simp +decide only [Tr.get_put,k5,if_false]
   ·simp +decide only [Tr.get_put,qL,z1',y1,if_false,b5]
   ·simp +decide only [Tr.get_put,k8,if_false]
   ·simp +decide only [Tr.get_put,qL,z2',y2,if_false,b8]
   ·simp +decide only [Tr.get_put,k9,if_false]
   ·simp +decide only [Tr.get_put,if_true,if_false]
   ·have e1:(m=m+1)=False:=eq_false (by omega)
    simp +decide only [Tr.get_put,qL,e1,if_true,if_false,tyC]
   ·simp +decide only [Tr.get_put,if_true,if_false]
   ·simp +decide only [Tr.get_put,if_true]
   ·simp +decide only [Tr.get_put,if_true,if_false]
   ·simp +decide only [Tr.get_put,if_true,if_false]
  clear hit
  have e44:fr'.get t44=some (.int .i64 (.ofNat 1)):=(hk' t44 (by simp [ksM])).trans (by simp +decide only [Tr.get_put,g44,if_false])
  have hw:zU .i64 (Int.ofNat 1+Int.ofNat 1)=Int.ofNat 2:=rfl
  simp +decide only [yF,e44,hw,xA2]
  refine ⟨0,by decide,_,m',t',2,rfl,rfl,by omega,?_,?_,?_⟩
  ·simp +decide only [wU]
   exact xQ7 hk' (by simp +decide only [wU]; exact hk)
  ·simp +decide only [Tr.get_put,if_true]
  ·intro i hi
   rw [ht' i (by omega),← ht i hi]
   simp only [Tr.get_put,qL,nzA (Nat.lt_of_lt_of_le hi hm),nzB (Nat.lt_of_lt_of_le hi hm),if_false]
end
end Go.Abs.Sym
end
end
