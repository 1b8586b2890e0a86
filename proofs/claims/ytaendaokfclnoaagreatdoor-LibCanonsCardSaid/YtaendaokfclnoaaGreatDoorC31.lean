/- The program's check of changed pads, at any place. -/
import Derived.Test.YtaendaokfclnoaaGreatDoorC30
import Derived.Test.YtaendaokfclnoaaGreatDoorC27
noncomputable section
section
namespace Go.Abs.T
open Go.Abs.Sym
theorem yAd:GOK [(t49,xT9)]:=xA (xB8.app (vU.app (jS.app (bP.app qA)))) (by kernel_rfl:xB (xE3++(rU++(mU++(xAj++wL)))) t49 ((xT9.drop 0).take 25)=true) (xA (xB8.app (vU.app (jS.app (bP.app qA)))) (by kernel_rfl:xB (xE3++(rU++(mU++(xAj++wL)))) t49 ((xT9.drop 25).take 25)=true) (xA (xB8.app (vU.app (jS.app (bP.app qA)))) (by kernel_rfl:xB (xE3++(rU++(mU++(xAj++wL)))) t49 ((xT9.drop 50).take 25)=true) (xA (xB8.app (vU.app (jS.app (bP.app qA)))) (by kernel_rfl:xB (xE3++(rU++(mU++(xAj++wL)))) t49 ((xT9.drop 75).take 25)=true) (xA (xB8.app (vU.app (jS.app (bP.app qA)))) (by kernel_rfl:xB (xE3++(rU++(mU++(xAj++wL)))) t49 ((xT9.drop 100).take 25)=true) (xA (xB8.app (vU.app (jS.app (bP.app qA)))) (by kernel_rfl:xB (xE3++(rU++(mU++(xAj++wL)))) t49 ((xT9.drop 125).take 25)=true) (xL (xB8.app (vU.app (jS.app (bP.app qA)))) (by kernel_rfl:xB (xE3++(rU++(mU++(xAj++wL)))) t49 (xT9.drop 150)=true)))))))
theorem yAo:GOK [(t49,yAn)]:=xA (xB8.app (vU.app (jS.app (bP.app qA)))) (by kernel_rfl:xB (xE3++(rU++(mU++(xAj++wL)))) t49 ((yAn.drop 0).take 25)=true) (xL (xB8.app (vU.app (jS.app (bP.app qA)))) (by kernel_rfl:xB (xE3++(rU++(mU++(xAj++wL)))) t49 (yAn.drop 25)=true))
end Go.Abs.T
end
section
namespace Go.Abs.Sym
open Go.Abs.T
open Go.Proofs
theorem yNm {q:Nat×Nat×Nat×Nat} (h:inD q=true):q∈xWq:=by
 obtain ⟨c,hc,h⟩:=List.any_eq_true.1 h
 simp only [Bool.and_eq_true] at h
 obtain ⟨q1,q2,q3,q4⟩:=q
 obtain ⟨c1,c2,c3,c4⟩:=c
 have e1:=Nat.eq_of_beq_eq_true h.1
 have e2:=Nat.eq_of_beq_eq_true h.2.1
 have e3:=Nat.eq_of_beq_eq_true h.2.2.1
 have e4:=Nat.eq_of_beq_eq_true h.2.2.2
 simp only at e1 e2 e3 e4
 subst e1 e2 e3 e4
 exact hc
theorem yNn {q:Nat×Nat×Nat×Nat} (h:inT q=true):(q.1,q.2.1,q.2.2.1)∈xWr:=by
 obtain ⟨c,hc,h⟩:=List.any_eq_true.1 h
 simp only [Bool.and_eq_true] at h
 obtain ⟨q1,q2,q3,q4⟩:=q
 obtain ⟨c1,c2,c3⟩:=c
 have e1:=Nat.eq_of_beq_eq_true h.1
 have e2:=Nat.eq_of_beq_eq_true h.2.1
 have e3:=Nat.eq_of_beq_eq_true h.2.2
 simp only at e1 e2 e3
 subst e1 e2 e3
 exact hc
theorem nO {α:Type} {p:α→Bool} {l:List α} (h:l.all p=true) {x:α} (hx:x∈l):p x=true:=List.all_eq_true.1 h x hx
theorem yFm {a n s d:Nat} (ha:a∈[0,2,3,4,5]) (hn:n<8) (hs:s<5) (hd:d<4):okD a n s d=true :=
 nO (nO (nO (nO zZa ha) (show n∈[0,1,2,3,4,5,6,7] by simp only [List.mem_cons,List.not_mem_nil,or_false]; omega)) (show s∈[0,1,2,3,4] by simp only [List.mem_cons,List.not_mem_nil,or_false]; omega)) (show d∈[0,1,2,3] by simp only [List.mem_cons,List.not_mem_nil,or_false]; omega)
theorem zZl {nm:List Nat} {a n k b s d:Nat} (ha:a∈[0,2,3,4,5]) (hn:n<8) (hk:k<6) (hb:b<2) (hs:s<5) (hd:d<4) :
  zP t49 [.agg (qP (bC nm a n k b s d))] (.int .i64 (.ofNat (bJ a n s d))):=by
 have h:=yFm ha hn hs hd
 unfold okD at h
 simp only [eqX,Bool.and_eq_true,Bool.or_eq_true,kE] at h
 generalize yD6 a n s d=q at h
 obtain ⟨⟨h1,h2,h3,h4,h5⟩,h⟩:=h
 have e1:=eq_of_beq h1
 have e2:=eq_of_beq h2
 have e3:=Nat.eq_of_beq_eq_true h3
 have e4:=eq_of_beq h4
 have e5:=Nat.eq_of_beq_eq_true h5
 have hp:∀ v,rZ q.1 q.2.1 q.2.2.1 v=rZ a n s v:=fun v=>by
  unfold rZ
  rw [← e1,← e2,← e3]
 rcases h with h | ⟨h,h6⟩
 ·have hm:([rZ q.1 q.2.1 q.2.2.1 (zi (drX q.1 q.2.1 q.2.2.2))],zi (.ofNat (bJ q.1 q.2.1 q.2.2.1 q.2.2.2)))∈xT9:=List.mem_map.2 ⟨q,yNm h,rfl⟩
  have hr:=wS (xH _ (kP (nm:=nm) (dr:=drX a n d) hk hb)) (yAd _ (List.mem_singleton.2 rfl) _ hm)
  rw [hp,← e4,← e5] at hr
  have hs':=xSd (nm:=nm) (dr:=drX a n d) (d:=d) (v:=zi (drX a n d)) hk hb ha hn hs rfl
  simp only [xK,hs'] at hr
  exact hr
 ·have hm:([rZ q.1 q.2.1 q.2.2.1 (.sym 1)],zi (.ofNat (bJ q.1 q.2.1 q.2.2.1 0)))∈yAn:=List.mem_map.2 ⟨(q.1,q.2.1,q.2.2.1),yNn h,rfl⟩
  have hr:=wS (xH _ (kP (nm:=nm) (dr:=drX a n d) hk hb)) (yAo _ (List.mem_singleton.2 rfl) _ hm)
  rw [hp,← Nat.eq_of_beq_eq_true h6,← e5] at hr
  have hs':=xSd (nm:=nm) (dr:=drX a n d) (d:=d) (v:=.sym 1) hk hb ha hn hs (zSf hk hb)
  simp only [xK,hs'] at hr
  exact hr
end Go.Abs.Sym
end
end
