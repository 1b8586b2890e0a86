/- A part of the proof that LibFinds answers true at every input: AbsSym7, AbsSym8, AbsSym9, AbsSym10, AbsSym11, AbsSym12. -/
import Derived.Test.YthfmfbbfaiohcaaGreatDoorFinds26
import Derived.Test.YthfmfbbfaiohcaaGreatDoorFinds27
section
namespace Go.Abs.Sym
open Go.Abs.T
open Go.Proofs
def Stp (I : Nat → St → Prop) (Q : Out → Prop) (m : Nat) : Out → Prop
  | .nrm s => ∃ m',m' < m ∧ I m' s
  | .exit i s => Q (.exit i s)
  | .ret s => Q (.ret s)
  | .panic v s => Q (.panic v s)
  | .bad n => Q (.bad n)
theorem stp_n (I : Nat → St → Prop) (Q : Out → Prop) (m : Nat) (s : St) : Stp I Q m (.nrm s) = ∃ m',m' < m ∧ I m' s := rfl
theorem stp_e (I : Nat → St → Prop) (Q : Out → Prop) (m i : Nat) (s : St) : Stp I Q m (.exit i s) = Q (.exit i s) := rfl
theorem stp_r (I : Nat → St → Prop) (Q : Out → Prop) (m : Nat) (s : St) : Stp I Q m (.ret s) = Q (.ret s) := rfl
theorem iter_rule {f : St → Out} (I : Nat → St → Prop) (Q : Out → Prop) (hs : ∀ m s,I m s → Stp I Q m (f s)) : ∀ (n m : Nat) (s : St),I m s → m < n → Q (iterA f n s)
  | 0,m,s,_,h => absurd h (Nat.not_lt_zero _)
  | n + 1,m,s,hi,h => by
    have h1 := hs m s hi
    cases hf : f s with
    | nrm s' =>
      rw [hf] at h1
      obtain ⟨m',h2,h3⟩ := h1
      have := iter_rule I Q hs n m' s' h3 (by omega)
      simpa only [iterA,hf] using this
    | exit i s' => rw [hf] at h1; simp only [iterA,hf]; exact h1
    | ret s' => rw [hf] at h1; simp only [iterA,hf]; exact h1
    | panic v s' => rw [hf] at h1; simp only [iterA,hf]; exact h1
    | bad k => rw [hf] at h1; simp only [iterA,hf]; exact h1
theorem eqI_dec (a b : Int) : eqI a b = decide (a = b) := by
  cases a with
  | ofNat a => cases b with
    | ofNat b =>
      show Nat.beq a b = _
      rw [nbeq]
      simp only [Int.ofNat.injEq]
    | negSucc b => exact (decide_eq_false (fun h => by cases h)).symm
  | negSucc a => cases b with
    | ofNat b => exact (decide_eq_false (fun h => by cases h)).symm
    | negSucc b =>
      show Nat.beq a b = _
      rw [nbeq]
      simp only [Int.negSucc.injEq]
theorem eqS_dec : ∀ a b : List Nat,eqS a b = decide (a = b)
  | [],[] => rfl
  | [],b :: y => rfl
  | a :: x,[] => rfl
  | a :: x,b :: y => by
    simp only [eqS,eqS_dec x y,nbeq,List.cons.injEq]
    by_cases h : a = b
    · simp only [h,decide_true,cond_true,true_and]
    · simp only [h,decide_false,cond_false,false_and]
theorem ltI_dec (a b : Nat) : ltI (.ofNat a) (.ofNat b) = decide (a < b) := by
  show Nat.blt a b = _
  rw [Nat.blt,nble]
  rfl
theorem bif_dec {α : Type} (p : Prop) [Decidable p] (a b : α) : (bif decide p then a else b) = if p then a else b := by
  by_cases h : p <;> simp only [h,decide_true,decide_false,cond_true,cond_false,if_true,if_false]
theorem eq_ed (x y : Ed) : eqFlat [.i,.i,.i,.i,.i,.i,.i] (edC x) (edC y) = some (decide (x = y)) := by
  obtain ⟨a,b,c,d,e,f,g⟩ := x
  obtain ⟨a',b',c',d',e',f',g'⟩ := y
  simp only [edC,eqFlat,eqK,kindNo,nbeq,decide_true,cond_true,eqI_dec,bif_dec,Ed.mk.injEq]
  repeat (first | rfl | (split <;> rename_i hh <;> simp only [hh,true_and,false_and,decide_false,decide_true]))
theorem eq_lg (x y : Lg) : eqFlat [.s,.i] (lgC x) (lgC y) = some (decide (x = y)) := by
  obtain ⟨a,b⟩ := x
  obtain ⟨a',b'⟩ := y
  simp only [lgC,eqFlat,eqK,kindNo,nbeq,decide_true,cond_true,eqI_dec,eqS_dec,bif_dec,Lg.mk.injEq]
  repeat (first | rfl | (split <;> rename_i hh <;> simp only [hh,true_and,false_and,decide_false,decide_true]))
theorem tk_app {a r : List AV} {n : Nat} (h : a.length = n) : takeD (a ++ r) 0 n = some a := by
  simp only [takeD,List.drop_zero]
  rw [List.take_left' h,nbeq,decide_eq_true h]
  rfl
theorem tk_ed (x : Ed) (r : List AV) : takeD (edC x ++ r) 0 7 = some (edC x) := tk_app rfl
theorem tk_lg (x : Lg) (r : List AV) : takeD (lgC x ++ r) 0 2 = some (lgC x) := tk_app rfl
theorem kf0 : K0.fuel = 100000 := rfl
theorem equal60 (a b : Sl Ed) (hl : a.l.length < 90000) : Ret (callN K0 50 (.fn t60 [] []) [slV edC a,slV edC b] h0) (fun v _ => v = .bool (decide (a.l = b.l))) := by
  have hs : ∀ xs,K0.sums t60 xs h0 = none := fun _ => rfl
  have hF : K0.funcs.get t60 = some c60 := rfl
  refine begin2 (hs _) hF fun fr t ga gb => ?_
  rw [c60_eq]
  by_cases hn : a.l.length = b.l.length
  · have hne : eqI (.ofNat a.l.length) (.ofNat b.l.length) = true := by rw [eqI_dec,hn]; exact decide_eq_true rfl
    simp +decide only [execA,opsA,wantedA,evalAll,evalA,oneA,st_mov,st_bin,st_len,binAV,eqAV,St.put,Tr.get_put,if_true,if_false,cond_true,nbeq,decide_true,Bool.not_true,eqK,kindNo,leaveA,resultA,resultsA,Option.map_some,len_slV,hne,kf0,ga,gb]
    generalize hit : iterA (execA K0 (callN K0 49) c60_l0) 100000 _ = o
    have hq : (∃ fr h,o = .exit 0 ⟨fr,[],h,.no,none,t60⟩ ∧ a.l = b.l) ∨ (∃ fr h,o = .ret ⟨fr,[],h,.no,none,t60⟩ ∧ fr.get t4 = some (.bool false) ∧ a.l ≠ b.l) := by
      rw [← hit]
      refine iter_rule (fun m s => ∃ fr h k,s = ⟨fr,[],h,.no,none,t60⟩ ∧ k + m = a.l.length ∧ a.l.take k = b.l.take k ∧ fr.get t0 = some (slV edC a) ∧ fr.get t1 = some (slV edC b) ∧ fr.get t11 = some (slV edC a) ∧ fr.get t12 = some (.int .i64 (.ofNat a.l.length)) ∧ fr.get t13 = some (.int .i64 (.ofNat k)))
        (fun o => (∃ fr h,o = .exit 0 ⟨fr,[],h,.no,none,t60⟩ ∧ a.l = b.l) ∨ (∃ fr h,o = .ret ⟨fr,[],h,.no,none,t60⟩ ∧ fr.get t4 = some (.bool false) ∧ a.l ≠ b.l)) ?_ 100000 a.l.length _ ?_ (by omega)
      · rintro m s ⟨fr,h,k,rfl,hk,hpre,g0,g1,g11,g12,g13⟩
        cases m with
        | zero =>
          have hkn : (k < a.l.length) = False := eq_false (by omega)
          simp +decide only [c60_l0,execA,opsA,wantedA,evalAll,evalA,oneA,st_bin,binAV,St.put,Tr.get_put,if_true,cond_true,nbeq,decide_true,decide_false,eqK,kindNo,g12,g13,ltI_dec,hkn,stp_e]
          refine .inl ⟨_,_,rfl,?_⟩
          rwa [List.take_of_length_le (by omega),List.take_of_length_le (by omega)] at hpre
        | succ m =>
          have hkn : (k < a.l.length) = True := eq_true (by omega)
          obtain ⟨x,hka⟩ : ∃ x,a.l[k]? = some x := ⟨_,List.getElem?_eq_getElem (by omega)⟩
          obtain ⟨y,hkb⟩ : ∃ y,b.l[k]? = some y := ⟨_,List.getElem?_eq_getElem (by omega)⟩
          have ia := at_slV (f := edC) (sz := 7) len_ed (by decide) hka
          have ib := at_slV (f := edC) (sz := 7) len_ed (by decide) hkb
          have hw := wr_add k 1 (by omega)
          by_cases he : x = y
          · simp +decide only [c60_l0,execA,opsA,wantedA,evalAll,evalA,oneA,dregA,dopsA,dstep,isMaker,withP_nil,takesP_nil,leavesP_nil,rd_mov,rd_load,rd_bin,rd_indexAddr,st_mov,st_load,st_bin,st_indexAddr,ld_rs,binAV,eqAV,St.put,Tr.get_put,if_true,if_false,cond_true,cond_false,Nat.zero_add,skip_up0,List.length,seesHeap,quiet,nbeq,decide_true,Nat.reduceAdd,Bool.and_true,Bool.and_false,Bool.or_true,Bool.not_true,List.all,eqK,kindNo,Option.map_some,g0,g1,g12,g13,ltI_dec,hkn,ia,ib,tk_ed,len_ed,eq_ed,he,hw,stp_n]
            refine ⟨m,by omega,_,_,k + 1,rfl,by omega,?_,?_,?_,?_,?_,?_⟩
            · rw [List.take_add_one,List.take_add_one,hpre,hka,hkb,he]
            all_goals simp +decide only [Tr.get_put,g0,g1,g11,g12,if_true,if_false]
          · simp +decide only [c60_l0,execA,opsA,wantedA,evalAll,evalA,oneA,dregA,dopsA,dstep,isMaker,withP_nil,takesP_nil,leavesP_nil,rd_mov,rd_load,rd_bin,rd_indexAddr,st_mov,st_load,st_bin,st_indexAddr,ld_rs,binAV,eqAV,St.put,Tr.get_put,if_true,if_false,cond_true,cond_false,Nat.zero_add,skip_up0,List.length,seesHeap,quiet,nbeq,decide_true,decide_false,Nat.reduceAdd,Bool.and_true,Bool.and_false,Bool.or_true,Bool.not_false,List.all,eqK,kindNo,Option.map_some,g0,g1,g12,g13,ltI_dec,hkn,ia,ib,tk_ed,len_ed,eq_ed,he,stp_r]
            refine .inr ⟨_,_,rfl,by simp +decide only [Tr.get_put,if_true,reduceIte],fun e => he ?_⟩
            rw [e,hkb] at hka
            exact (Option.some.inj hka).symm
      · refine ⟨_,_,0,rfl,by omega,rfl,?_,?_,?_,?_,?_⟩ <;> simp +decide only [Tr.get_put,ga,gb,if_true,if_false]
    rcases hq with ⟨fr,h,rfl,hab⟩ | ⟨fr,h,rfl,h4,hab⟩
    · simp +decide only [Tr.get_put,if_true,cond_true,decide_true,ret_iff,dfrsA,hab]
    · simp +decide only [decide_false,ret_iff,dfrsA,hab,h4]
  · have hne : eqI (.ofNat a.l.length) (.ofNat b.l.length) = false := by rw [eqI_dec]; exact decide_eq_false (fun h => hn (Int.ofNat.inj h))
    have hab : (a.l = b.l) = False := eq_false (fun h => hn (by rw [h]))
    simp +decide only [execA,opsA,wantedA,evalAll,evalA,oneA,st_mov,st_bin,st_len,binAV,eqAV,St.put,Tr.get_put,if_true,if_false,cond_true,nbeq,decide_true,decide_false,Bool.not_false,eqK,kindNo,ret_iff,leaveA,dfrsA,resultA,resultsA,Option.map_some,len_slV,hne,hab,ga,gb]
theorem equal60_sum (a b : Sl Ed) (hl : a.l.length < 90000) (h : H) : K1.sums t60 [slV edC a,slV edC b] h = some (.bool (decide (a.l = b.l))) := by
  obtain ⟨v,h1,hc,hv⟩ := equal60 a b hl
  rw [hv] at hc
  exact over_fz' rfl hc (by simp only [frzs,frz_slV frz_ed,Bool.and_self]) rfl h
theorem equal38 (a b : Sl Lg) (hl : a.l.length < 90000) : Ret (callN K0 50 (.fn t38 [] []) [slV lgC a,slV lgC b] h0) (fun v _ => v = .bool (decide (a.l = b.l))) := by
  have hs : ∀ xs,K0.sums t38 xs h0 = none := fun _ => rfl
  have hF : K0.funcs.get t38 = some c38 := rfl
  refine begin2 (hs _) hF fun fr t ga gb => ?_
  rw [c38_eq]
  by_cases hn : a.l.length = b.l.length
  · have hne : eqI (.ofNat a.l.length) (.ofNat b.l.length) = true := by rw [eqI_dec,hn]; exact decide_eq_true rfl
    simp +decide only [execA,opsA,wantedA,evalAll,evalA,oneA,st_mov,st_bin,st_len,binAV,eqAV,St.put,Tr.get_put,if_true,if_false,cond_true,nbeq,decide_true,Bool.not_true,eqK,kindNo,leaveA,resultA,resultsA,Option.map_some,len_slV,hne,kf0,ga,gb]
    generalize hit : iterA (execA K0 (callN K0 49) c38_l0) 100000 _ = o
    have hq : (∃ fr h,o = .exit 0 ⟨fr,[],h,.no,none,t38⟩ ∧ a.l = b.l) ∨ (∃ fr h,o = .ret ⟨fr,[],h,.no,none,t38⟩ ∧ fr.get t4 = some (.bool false) ∧ a.l ≠ b.l) := by
      rw [← hit]
      refine iter_rule (fun m s => ∃ fr h k,s = ⟨fr,[],h,.no,none,t38⟩ ∧ k + m = a.l.length ∧ a.l.take k = b.l.take k ∧ fr.get t0 = some (slV lgC a) ∧ fr.get t1 = some (slV lgC b) ∧ fr.get t11 = some (slV lgC a) ∧ fr.get t12 = some (.int .i64 (.ofNat a.l.length)) ∧ fr.get t13 = some (.int .i64 (.ofNat k)))
        (fun o => (∃ fr h,o = .exit 0 ⟨fr,[],h,.no,none,t38⟩ ∧ a.l = b.l) ∨ (∃ fr h,o = .ret ⟨fr,[],h,.no,none,t38⟩ ∧ fr.get t4 = some (.bool false) ∧ a.l ≠ b.l)) ?_ 100000 a.l.length _ ?_ (by omega)
      · rintro m s ⟨fr,h,k,rfl,hk,hpre,g0,g1,g11,g12,g13⟩
        cases m with
        | zero =>
          have hkn : (k < a.l.length) = False := eq_false (by omega)
          simp +decide only [c38_l0,execA,opsA,wantedA,evalAll,evalA,oneA,st_bin,binAV,St.put,Tr.get_put,if_true,cond_true,nbeq,decide_true,decide_false,eqK,kindNo,g12,g13,ltI_dec,hkn,stp_e]
          refine .inl ⟨_,_,rfl,?_⟩
          rwa [List.take_of_length_le (by omega),List.take_of_length_le (by omega)] at hpre
        | succ m =>
          have hkn : (k < a.l.length) = True := eq_true (by omega)
          obtain ⟨x,hka⟩ : ∃ x,a.l[k]? = some x := ⟨_,List.getElem?_eq_getElem (by omega)⟩
          obtain ⟨y,hkb⟩ : ∃ y,b.l[k]? = some y := ⟨_,List.getElem?_eq_getElem (by omega)⟩
          have ia := at_slV (f := lgC) (sz := 2) len_lg (by decide) hka
          have ib := at_slV (f := lgC) (sz := 2) len_lg (by decide) hkb
          have hw := wr_add k 1 (by omega)
          by_cases he : x = y
          · simp +decide only [c38_l0,execA,opsA,wantedA,evalAll,evalA,oneA,dregA,dopsA,dstep,isMaker,withP_nil,takesP_nil,leavesP_nil,rd_mov,rd_load,rd_bin,rd_indexAddr,st_mov,st_load,st_bin,st_indexAddr,ld_rs,binAV,eqAV,St.put,Tr.get_put,if_true,if_false,cond_true,cond_false,Nat.zero_add,skip_up0,List.length,seesHeap,quiet,nbeq,decide_true,Nat.reduceAdd,Bool.and_true,Bool.and_false,Bool.or_true,Bool.not_true,List.all,eqK,kindNo,Option.map_some,g0,g1,g12,g13,ltI_dec,hkn,ia,ib,tk_lg,len_lg,eq_lg,he,hw,stp_n]
            refine ⟨m,by omega,_,_,k + 1,rfl,by omega,?_,?_,?_,?_,?_,?_⟩
            · rw [List.take_add_one,List.take_add_one,hpre,hka,hkb,he]
            all_goals simp +decide only [Tr.get_put,g0,g1,g11,g12,if_true,if_false]
          · simp +decide only [c38_l0,execA,opsA,wantedA,evalAll,evalA,oneA,dregA,dopsA,dstep,isMaker,withP_nil,takesP_nil,leavesP_nil,rd_mov,rd_load,rd_bin,rd_indexAddr,st_mov,st_load,st_bin,st_indexAddr,ld_rs,binAV,eqAV,St.put,Tr.get_put,if_true,if_false,cond_true,cond_false,Nat.zero_add,skip_up0,List.length,seesHeap,quiet,nbeq,decide_true,decide_false,Nat.reduceAdd,Bool.and_true,Bool.and_false,Bool.or_true,Bool.not_false,List.all,eqK,kindNo,Option.map_some,g0,g1,g12,g13,ltI_dec,hkn,ia,ib,tk_lg,len_lg,eq_lg,he,stp_r]
            refine .inr ⟨_,_,rfl,by simp +decide only [Tr.get_put,if_true,reduceIte],fun e => he ?_⟩
            rw [e,hkb] at hka
            exact (Option.some.inj hka).symm
      · refine ⟨_,_,0,rfl,by omega,rfl,?_,?_,?_,?_,?_⟩ <;> simp +decide only [Tr.get_put,ga,gb,if_true,if_false]
    rcases hq with ⟨fr,h,rfl,hab⟩ | ⟨fr,h,rfl,h4,hab⟩
    · simp +decide only [Tr.get_put,if_true,cond_true,decide_true,ret_iff,dfrsA,hab]
    · simp +decide only [decide_false,ret_iff,dfrsA,hab,h4]
  · have hne : eqI (.ofNat a.l.length) (.ofNat b.l.length) = false := by rw [eqI_dec]; exact decide_eq_false (fun h => hn (Int.ofNat.inj h))
    have hab : (a.l = b.l) = False := eq_false (fun h => hn (by rw [h]))
    simp +decide only [execA,opsA,wantedA,evalAll,evalA,oneA,st_mov,st_bin,st_len,binAV,eqAV,St.put,Tr.get_put,if_true,if_false,cond_true,nbeq,decide_true,decide_false,Bool.not_false,eqK,kindNo,ret_iff,leaveA,dfrsA,resultA,resultsA,Option.map_some,len_slV,hne,hab,ga,gb]
theorem equal38_sum (a b : Sl Lg) (hl : a.l.length < 90000) (h : H) : K1.sums t38 [slV lgC a,slV lgC b] h = some (.bool (decide (a.l = b.l))) := by
  obtain ⟨v,h1,hc,hv⟩ := equal38 a b hl
  rw [hv] at hc
  exact over_fz' rfl hc (by simp only [frzs,frz_slV frz_lg,Bool.and_self]) rfl h
end Go.Abs.Sym
end
section
namespace Go.Abs.Sym
open Go.Abs.T
open Go.Proofs
def shV (k : Int) (e : Sl Ed) (r : Int) : AV := .agg [.int .i64 k,slV edC e,.int .i64 r]
def sameSh (k : Int) (e : Sl Ed) (r : Int) (k' : Int) (e' : Sl Ed) (r' : Int) : Bool := decide (k = k' ∧ r = r' ∧ e.l = e'.l)
theorem same12 (k : Int) (a : Sl Ed) (r k' : Int) (b : Sl Ed) (r' : Int) (hl : a.l.length < 90000) : Ret (callN K0 50 (.fn t12 [] []) [shV k a r,shV k' b r'] h0) (fun v _ => v = .bool (sameSh k a r k' b r')) := by
  have hs : ∀ xs,K0.sums t12 xs h0 = none := fun _ => rfl
  have hF : K0.funcs.get t12 = some c12 := rfl
  refine begin2 (hs _) hF fun fr t ga gb => ?_
  rw [c12_eq]
  simp only [shV] at ga gb
  by_cases hk : k = k'
  · by_cases hr : r = r'
    · by_cases hn : a.l.length = b.l.length
      · simp +decide only [execA,opsA,wantedA,evalAll,evalA,oneA,st_mov,st_box,st_load,st_bin,st_fieldAddr,st_pick,st_len,ld_ptr,H.cellsAt,H.newB,partA,tk_s,tk_0,tk_c,cl_agg,binAV,eqAV,St.put,Tr.get_put,if_true,if_false,cond_true,cond_false,Nat.zero_add,Nat.add_zero,up_succ,nbeq,decide_true,Nat.reduceAdd,Bool.not_true,eqK,kindNo,leaveA,resultA,resultsA,Option.map_some,beq_self_eq_true,sameSh,ga,gb,len_slV,eqI_dec,hk,hr,hn,true_and,kf0]
        generalize hit : iterA (execA K0 (callN K0 49) c12_l0) 100000 _ = o
        have hq : (∃ fr h,o = .exit 0 ⟨fr,[],h,.no,none,t12⟩ ∧ a.l = b.l) ∨ (∃ fr h,o = .ret ⟨fr,[],h,.no,none,t12⟩ ∧ fr.get t4 = some (.bool false) ∧ a.l ≠ b.l) := by
          rw [← hit]
          refine iter_rule (fun m s => ∃ fr h k,s = ⟨fr,[],h,.no,none,t12⟩ ∧ k + m = a.l.length ∧ a.l.take k = b.l.take k ∧ fr.get t2 = some (.ptr (up Pth.e 0) 0) ∧ fr.get t3 = some (.ptr (up Pth.e 1) 0) ∧ h.t.get (up Pth.e 0) = some (.cells [.int .i64 k',slV edC a,.int .i64 r'] false) ∧ h.t.get (up Pth.e 1) = some (.cells [.int .i64 k',slV edC b,.int .i64 r'] false) ∧ fr.get t5 = some (.int .i64 (.ofNat k)))
            (fun o => (∃ fr h,o = .exit 0 ⟨fr,[],h,.no,none,t12⟩ ∧ a.l = b.l) ∨ (∃ fr h,o = .ret ⟨fr,[],h,.no,none,t12⟩ ∧ fr.get t4 = some (.bool false) ∧ a.l ≠ b.l)) ?_ 100000 a.l.length _ ?_ (by omega)
          · rintro m s ⟨fr,h,k,rfl,hk,hpre,g2,g3,ha,hb,g5⟩
            cases m with
            | zero =>
              have hkn : (k < a.l.length) = False := eq_false (by omega)
              simp +decide only [c12_l0,execA,opsA,wantedA,evalAll,evalA,oneA,st_mov,st_load,st_bin,st_fieldAddr,st_len,ld_ptr,H.cellsAt,partA,tk_s,tk_0,tk_c,binAV,St.put,Tr.get_put,if_true,if_false,cond_true,Nat.zero_add,nbeq,decide_true,decide_false,eqK,kindNo,Option.map_some,len_slV,g2,ha,g5,ltI_dec,hkn,stp_e]
              refine .inl ⟨_,_,rfl,?_⟩
              rwa [List.take_of_length_le (by omega),List.take_of_length_le (by omega)] at hpre
            | succ m =>
              have hkn : (k < a.l.length) = True := eq_true (by omega)
              obtain ⟨x,hka⟩ : ∃ x,a.l[k]? = some x := ⟨_,List.getElem?_eq_getElem (by omega)⟩
              obtain ⟨y,hkb⟩ : ∃ y,b.l[k]? = some y := ⟨_,List.getElem?_eq_getElem (by omega)⟩
              have ia := at_slV (f := edC) (sz := 7) len_ed (by decide) hka
              have ib := at_slV (f := edC) (sz := 7) len_ed (by decide) hkb
              have hw := wr_add k 1 (by omega)
              by_cases he : x = y
              · simp +decide only [c12_l0,execA,opsA,wantedA,evalAll,evalA,oneA,dregA,dopsA,dstep,isMaker,withP_nil,takesP_nil,leavesP_nil,rd_mov,rd_load,rd_bin,rd_fieldp,rd_indexAddr,st_mov,st_load,st_bin,st_fieldAddr,st_indexAddr,st_len,ld_ptr,ld_rs,H.cellsAt,partA,tk_s,tk_0,tk_c,binAV,eqAV,St.put,Tr.get_put,if_true,if_false,cond_true,cond_false,Nat.zero_add,skip_up0,List.length,seesHeap,quiet,nbeq,decide_true,Nat.reduceAdd,Bool.and_true,Bool.and_false,Bool.or_true,Bool.not_true,List.all,eqK,kindNo,Option.map_some,len_slV,g2,g3,ha,hb,g5,ltI_dec,hkn,ia,ib,tk_ed,len_ed,eq_ed,he,hw,stp_n]
                refine ⟨m,by omega,_,_,k + 1,rfl,by omega,?_,?_,?_,ha,hb,?_⟩
                · rw [List.take_add_one,List.take_add_one,hpre,hka,hkb,he]
                all_goals simp +decide only [Tr.get_put,g2,g3,if_true,if_false]
              · simp +decide only [c12_l0,execA,opsA,wantedA,evalAll,evalA,oneA,dregA,dopsA,dstep,isMaker,withP_nil,takesP_nil,leavesP_nil,rd_mov,rd_load,rd_bin,rd_fieldp,rd_indexAddr,st_mov,st_load,st_bin,st_fieldAddr,st_indexAddr,st_len,ld_ptr,ld_rs,H.cellsAt,partA,tk_s,tk_0,tk_c,binAV,eqAV,St.put,Tr.get_put,if_true,if_false,cond_true,cond_false,Nat.zero_add,skip_up0,List.length,seesHeap,quiet,nbeq,decide_true,decide_false,Nat.reduceAdd,Bool.and_true,Bool.and_false,Bool.or_true,Bool.not_false,List.all,eqK,kindNo,Option.map_some,len_slV,g2,g3,ha,hb,g5,ltI_dec,hkn,ia,ib,tk_ed,len_ed,eq_ed,he,stp_r]
                refine .inr ⟨_,_,rfl,by simp +decide only [Tr.get_put,if_true,reduceIte],fun e => he ?_⟩
                rw [e,hkb] at hka
                exact (Option.some.inj hka).symm
          · refine ⟨_,_,0,rfl,by omega,rfl,?_,?_,?_,?_,?_⟩ <;> simp +decide only [Tr.get_put,if_true,if_false]
        rcases hq with ⟨fr,h,rfl,hab⟩ | ⟨fr,h,rfl,h4,hab⟩
        · simp +decide only [Tr.get_put,if_true,cond_true,decide_true,ret_iff,dfrsA,hab]
        · simp +decide only [decide_false,ret_iff,dfrsA,hab,h4]
      · have hab : (a.l = b.l) = False := eq_false (fun h => hn (by rw [h]))
        simp +decide only [execA,opsA,wantedA,evalAll,evalA,oneA,st_mov,st_box,st_load,st_bin,st_fieldAddr,st_pick,st_len,ld_ptr,H.cellsAt,H.newB,partA,tk_s,tk_0,tk_c,cl_agg,binAV,eqAV,St.put,Tr.get_put,if_true,if_false,cond_true,cond_false,Nat.zero_add,Nat.add_zero,up_succ,nbeq,decide_true,decide_false,Nat.reduceAdd,Bool.not_true,Bool.not_false,eqK,kindNo,ret_iff,leaveA,dfrsA,resultA,resultsA,Option.map_some,beq_self_eq_true,sameSh,ga,gb,len_slV,eqI_dec,Int.ofNat.injEq,hk,hr,hn,hab,and_false]
    · simp +decide only [execA,opsA,wantedA,evalAll,evalA,oneA,st_mov,st_box,st_load,st_bin,st_fieldAddr,st_pick,ld_ptr,H.cellsAt,H.newB,partA,tk_s,tk_0,tk_c,cl_agg,binAV,eqAV,St.put,Tr.get_put,if_true,if_false,cond_true,cond_false,Nat.zero_add,Nat.add_zero,up_succ,nbeq,decide_true,decide_false,Nat.reduceAdd,Bool.not_true,Bool.not_false,eqK,kindNo,ret_iff,leaveA,dfrsA,resultA,resultsA,Option.map_some,beq_self_eq_true,beq_f,sameSh,ga,gb,eqI_dec,hk,hr,and_false,false_and]
  · simp +decide only [execA,opsA,wantedA,evalAll,evalA,oneA,st_mov,st_box,st_load,st_bin,st_fieldAddr,st_pick,ld_ptr,H.cellsAt,H.newB,partA,tk_0,tk_c,cl_agg,binAV,eqAV,St.put,Tr.get_put,if_true,if_false,cond_true,Nat.zero_add,Nat.add_zero,up_succ,nbeq,decide_true,decide_false,Nat.reduceAdd,Bool.not_true,Bool.not_false,eqK,kindNo,ret_iff,leaveA,dfrsA,resultA,resultsA,Option.map_some,beq_f,sameSh,ga,gb,eqI_dec,hk,false_and]
theorem same12_sum (k : Int) (a : Sl Ed) (r k' : Int) (b : Sl Ed) (r' : Int) (hl : a.l.length < 90000) (h : H) : K1.sums t12 [shV k a r,shV k' b r'] h = some (.bool (sameSh k a r k' b r')) := by
  obtain ⟨v,h1,hc,hv⟩ := same12 k a r k' b r' hl
  rw [hv] at hc
  exact over_fz' rfl hc (by simp only [frzs,shV,frz,frz_slV frz_ed,Bool.and_self]) rfl h
theorem same35_sum (k : Int) (a : Sl Ed) (r k' : Int) (b : Sl Ed) (r' : Int) (hl : a.l.length < 90000) (h : H) : K2.sums t35 [shV k a r,shV k' b r'] h = some (.bool (sameSh k a r k' b r')) := by
  have hr : Ret (callN K1 50 (.fn t35 [] []) [shV k a r,shV k' b r'] h0) (fun v _ => v = .bool (sameSh k a r k' b r')) := by
    have hs : ∀ xs,K1.sums t35 xs h0 = none := fun _ => rfl
    have hF : K1.funcs.get t35 = some c35 := rfl
    refine begin2 (hs _) hF fun fr t ga gb => ?_
    simp only [shV] at ga gb
    have hc : ∀ h,callN K1 49 (.fn t60 [] []) [slV edC a,slV edC b] h = .ret (.bool (decide (a.l = b.l))) h := fun h => call_sum (equal60_sum a b hl h)
    by_cases hk : k = k'
    · by_cases hr : r = r'
      · simp +decide only [c35,execA,opsA,wantedA,evalAll,evalA,oneA,st_mov,st_box,st_load,st_bin,st_call,st_fieldAddr,st_pick,ld_ptr,H.cellsAt,H.newB,partA,tk_s,tk_0,tk_c,cl_agg,binAV,eqAV,St.put,Tr.get_put,if_true,if_false,cond_true,Nat.zero_add,Nat.add_zero,up_succ,nbeq,decide_true,Nat.reduceAdd,eqK,kindNo,ret_iff,leaveA,dfrsA,resultA,resultsA,Option.map_some,beq_self_eq_true,sameSh,ga,gb,eqI_dec,hk,hr,hc,true_and]
      · simp +decide only [c35,execA,opsA,wantedA,evalAll,evalA,oneA,st_mov,st_box,st_load,st_bin,st_fieldAddr,st_pick,ld_ptr,H.cellsAt,H.newB,partA,tk_s,tk_0,tk_c,cl_agg,binAV,eqAV,St.put,Tr.get_put,if_true,if_false,cond_true,cond_false,Nat.zero_add,Nat.add_zero,up_succ,nbeq,decide_true,decide_false,Nat.reduceAdd,eqK,kindNo,ret_iff,leaveA,dfrsA,resultA,resultsA,Option.map_some,beq_self_eq_true,beq_t,sameSh,ga,gb,eqI_dec,hk,hr,and_false,false_and]
    · simp +decide only [c35,execA,opsA,wantedA,evalAll,evalA,oneA,st_mov,st_box,st_load,st_bin,st_fieldAddr,st_pick,ld_ptr,H.cellsAt,H.newB,partA,tk_0,tk_c,cl_agg,binAV,eqAV,St.put,Tr.get_put,if_true,if_false,cond_true,cond_false,Nat.zero_add,Nat.add_zero,up_succ,nbeq,decide_true,decide_false,Nat.reduceAdd,eqK,kindNo,ret_iff,leaveA,dfrsA,resultA,resultsA,Option.map_some,beq_t,sameSh,ga,gb,eqI_dec,hk,false_and]
  obtain ⟨v,h1,hc,hv⟩ := hr
  rw [hv] at hc
  exact over_fz' rfl hc (by simp only [frzs,shV,frz,frz_slV frz_ed,Bool.and_self]) rfl h
end Go.Abs.Sym
end
section
namespace Go.Abs.Sym
open Go.Abs.T
open Go.Proofs
def plc {α : Type} (p : α → Bool) : List α → Nat → Int
  | [],_ => .negSucc 0
  | a :: l,k => bif p a then .ofNat k else plc p l (k + 1)
theorem plc_step {α : Type} {p : α → Bool} {l : List α} {k : Nat} {x : α} (h : l[k]? = some x) : plc p (l.drop k) k = bif p x then .ofNat k else plc p (l.drop (k + 1)) (k + 1) := by
  obtain ⟨hk,rfl⟩ := List.getElem?_eq_some_iff.1 h
  rw [List.drop_eq_getElem_cons hk]
  rfl
theorem tk_pad (x : PadD) (r : List AV) : takeD (padC x ++ r) 0 7 = some (padC x) := tk_app rfl
theorem tk_gate (x : GateD) (r : List AV) : takeD (gateC x ++ r) 0 2 = some (gateC x) := tk_app rfl
theorem tk_ty (x : TypD) (r : List AV) : takeD (tyC x ++ r) 0 3 = some (tyC x) := tk_app rfl
theorem index29 (T : TypD) (nm : List Nat) (hl : T.pads.l.length < 90000) : Ret (callN K0 50 (.fn t29 [] []) [.agg (tyC T),.str nm] h0) (fun v _ => v = .int .i64 (plc (fun p => eqS p.nm nm) T.pads.l 0)) := by
  have hs : ∀ xs,K0.sums t29 xs h0 = none := fun _ => rfl
  have hF : K0.funcs.get t29 = some c29 := rfl
  refine begin2 (hs _) hF fun fr t ga gb => ?_
  rw [c29_eq]
  simp +decide only [execA,opsA,wantedA,evalAll,evalA,oneA,st_mov,st_box,H.newB,cl_agg,St.put,Nat.zero_add,up_succ,nbeq,leaveA,resultA,resultsA,tyC,kf0,ga]
  generalize hit : iterA (execA K0 (callN K0 49) c29_l0) 100000 _ = o
  have hq : ∃ fr h,(o = .exit 0 ⟨fr,[],h,.no,none,t29⟩ ∧ plc (fun p => eqS p.nm nm) T.pads.l 0 = .negSucc 0) ∨ (o = .ret ⟨fr,[],h,.no,none,t29⟩ ∧ fr.get t4 = some (.int .i64 (plc (fun p => eqS p.nm nm) T.pads.l 0))) := by
    rw [← hit]
    refine iter_rule (fun m s => ∃ fr h k,s = ⟨fr,[],h,.no,none,t29⟩ ∧ k + m = T.pads.l.length ∧ plc (fun p => eqS p.nm nm) T.pads.l 0 = plc (fun p => eqS p.nm nm) (T.pads.l.drop k) k ∧ fr.get t1 = some (.str nm) ∧ fr.get t2 = some (.ptr (up Pth.e 0) 0) ∧ h.t.get (up Pth.e 0) = some (.cells [.str T.nm,slV padC T.pads,slV gateC T.gates] false) ∧ fr.get t5 = some (.int .i64 (.ofNat k)))
      (fun o => ∃ fr h,(o = .exit 0 ⟨fr,[],h,.no,none,t29⟩ ∧ plc (fun p => eqS p.nm nm) T.pads.l 0 = .negSucc 0) ∨ (o = .ret ⟨fr,[],h,.no,none,t29⟩ ∧ fr.get t4 = some (.int .i64 (plc (fun p => eqS p.nm nm) T.pads.l 0)))) ?_ 100000 T.pads.l.length _ ?_ (by omega)
    · rintro m s ⟨fr,h,k,rfl,hk,hpl,g1,g2,ha,g5⟩
      cases m with
      | zero =>
        have hkn : (k < T.pads.l.length) = False := eq_false (by omega)
        simp +decide only [c29_l0,execA,opsA,wantedA,evalAll,evalA,oneA,st_mov,st_load,st_bin,st_fieldAddr,st_len,ld_ptr,H.cellsAt,partA,tk_s,tk_0,tk_c,binAV,St.put,Tr.get_put,if_true,if_false,cond_true,Nat.zero_add,nbeq,decide_true,decide_false,eqK,kindNo,Option.map_some,len_slV,g2,ha,g5,ltI_dec,hkn,stp_e]
        refine ⟨_,_,.inl ⟨rfl,?_⟩⟩
        rw [hpl,List.drop_of_length_le (by omega)]
        rfl
      | succ m =>
        have hkn : (k < T.pads.l.length) = True := eq_true (by omega)
        obtain ⟨x,hka⟩ : ∃ x,T.pads.l[k]? = some x := ⟨_,List.getElem?_eq_getElem (by omega)⟩
        have ia := at_slV (f := padC) (sz := 7) (fun _ => rfl) (by decide) hka
        have hw := wr_add k 1 (by omega)
        rw [plc_step hka] at hpl
        cases he : eqS x.nm nm with
        | true =>
          simp only [he,cond_true] at hpl
          simp +decide only [c29_l0,execA,opsA,wantedA,evalAll,evalA,oneA,st_mov,st_load,st_bin,st_fieldAddr,st_indexAddr,st_fieldr,st_len,ld_ptr,ld_rn,H.cellsAt,partA,tk_s,tk_0,tk_c,binAV,eqAV,St.put,Tr.get_put,List.nil_append,List.cons_append,if_true,if_false,cond_true,Nat.zero_add,List.drop,List.length,nbeq,nble,decide_true,Nat.reduceLeDiff,eqK,kindNo,Option.map_some,padC,len_slV,g1,g2,ha,g5,ltI_dec,hkn,ia,he,stp_r]
          exact ⟨_,_,.inr ⟨rfl,by simp +decide only [Tr.get_put,hpl,if_true,reduceIte]⟩⟩
        | false =>
          simp only [he,cond_false] at hpl
          simp +decide only [c29_l0,execA,opsA,wantedA,evalAll,evalA,oneA,st_mov,st_load,st_bin,st_fieldAddr,st_indexAddr,st_fieldr,st_len,ld_ptr,ld_rn,H.cellsAt,partA,tk_s,tk_0,tk_c,binAV,eqAV,St.put,Tr.get_put,List.nil_append,List.cons_append,if_true,if_false,cond_true,Nat.zero_add,List.drop,List.length,nbeq,nble,decide_true,Nat.reduceLeDiff,eqK,kindNo,Option.map_some,padC,len_slV,g1,g2,ha,g5,ltI_dec,hkn,ia,he,hw,stp_n]
          refine ⟨m,by omega,_,_,k + 1,rfl,by omega,hpl,?_,?_,ha,?_⟩
          all_goals simp +decide only [Tr.get_put,g1,g2,if_true,if_false]
    · refine ⟨_,_,0,rfl,by omega,rfl,?_,?_,?_,?_⟩ <;> simp +decide only [Tr.get_put,gb,if_true,if_false]
  rcases hq with ⟨fr,h,⟨rfl,hab⟩ | ⟨rfl,h4⟩⟩
  · simp +decide only [Tr.get_put,if_true,cond_true,decide_true,ret_iff,dfrsA,hab]
  · simp +decide only [ret_iff,dfrsA,h4]
theorem index29_sum (T : TypD) (nm : List Nat) (hl : T.pads.l.length < 90000) (h : H) : K1.sums t29 [.agg (tyC T),.str nm] h = some (.int .i64 (plc (fun p => eqS p.nm nm) T.pads.l 0)) := by
  obtain ⟨v,h1,hc,hv⟩ := index29 T nm hl
  rw [hv] at hc
  exact over_fz' rfl hc (by simp only [frzs,frz,frz_ty,Bool.and_self]) rfl h
theorem plc_find {α : Type} (p : α → Bool) : ∀ (l : List α) (j : Nat),(plc p l j = .negSucc 0 ∧ l.find? p = none) ∨ ∃ k x,plc p l j = .ofNat (j + k) ∧ l[k]? = some x ∧ l.find? p = some x
  | [],j => .inl ⟨rfl,rfl⟩
  | a :: l,j => by
    cases ha : p a with
    | true => exact .inr ⟨0,a,by simp only [plc,ha,cond_true]; rfl,rfl,by simp [ha]⟩
    | false =>
      rcases plc_find p l (j + 1) with ⟨h1,h2⟩ | ⟨k,x,h1,h2,h3⟩
      · exact .inl ⟨by simp only [plc,ha,cond_false]; exact h1,by simp [ha,h2]⟩
      · exact .inr ⟨k + 1,x,by simp only [plc,ha,cond_false,h1]; congr 1; omega,h2,by simp [ha,h3]⟩
theorem slV_nil {α : Type} (f : α → List AV) : slV f ⟨0,[]⟩ = .nils := rfl
def findP (T : TypD) (nm : List Nat) : Option PadD := T.pads.l.find? (fun p => eqS p.nm nm)
def pad0 : PadD := ⟨[],0,⟨0,[]⟩,0,0,0,0⟩
def resP : Option PadD → AV
  | none => .tup [.agg (padC pad0),.bool false]
  | some p => .tup [.agg (padC p),.bool true]
theorem find9 (T : TypD) (nm : List Nat) (hl : T.pads.l.length < 90000) : Ret (callN K1 50 (.fn t9 [] []) [.agg (tyC T),.str nm] h0) (fun v _ => v = resP (findP T nm)) := by
  have hs : ∀ xs,K1.sums t9 xs h0 = none := fun _ => rfl
  have hF : K1.funcs.get t9 = some c9 := rfl
  refine begin2 (hs _) hF fun fr t ga gb => ?_
  have hc : ∀ h,callN K1 49 (.fn t29 [] []) [.agg (tyC T),.str nm] h = .ret (.int .i64 (plc (fun p => eqS p.nm nm) T.pads.l 0)) h := fun h => call_sum (index29_sum T nm hl h)
  simp only [tyC] at ga hc
  rcases plc_find (fun p : PadD => eqS p.nm nm) T.pads.l 0 with ⟨h1,h2⟩ | ⟨k,x,h1,h2,h3⟩
  · rw [h1] at hc
    have hk : ltI (.negSucc 0) (.ofNat 0) = true := rfl
    simp +decide only [c9,execA,opsA,wantedA,evalAll,evalA,oneA,st_mov,st_alloc,st_box,st_load,st_store,st_bin,st_call,st_build,ld_ptr,H.cellsAt,H.newB,partA,tk_0,tk_c,storeA,setAt,fillA,ones,cl_agg,on_int,on_str,on_nils,binAV,St.put,Tr.get_put,if_true,if_false,cond_true,Nat.zero_add,up_succ,List.length,nbeq,decide_true,Nat.reduceAdd,Bool.and_true,eqK,kindNo,ret_iff,leaveA,dfrsA,resultA,resultsA,Option.map_some,hk,ga,gb,hc,findP,h2,resP,pad0,padC,slV_nil]
    rfl
  · rw [h1,Nat.zero_add] at hc
    have ia := at_slV (f := padC) (sz := 7) (fun _ => rfl) (by decide) h2
    have hk : ltI (.ofNat k) (.ofNat 0) = false := rfl
    simp +decide only [c9,execA,opsA,wantedA,evalAll,evalA,oneA,st_mov,st_alloc,st_box,st_load,st_store,st_bin,st_call,st_fieldAddr,st_indexAddr,ld_ptr,ld_rs,H.cellsAt,H.newB,partA,tk_s,tk_0,tk_c,storeA,setAt,ones,cl_agg,on_int,on_str,on_slV,binAV,St.put,Tr.get_put,List.nil_append,List.cons_append,if_true,if_false,cond_true,Nat.zero_add,up_succ,List.length,nbeq,decide_true,Nat.reduceAdd,Bool.and_true,eqK,kindNo,ret_iff,leaveA,dfrsA,resultA,resultsA,Option.map_some,ga,gb,hc,findP,h3,resP,ia,hk,padC]
theorem find9_sum (T : TypD) (nm : List Nat) (hl : T.pads.l.length < 90000) (h : H) : K2.sums t9 [.agg (tyC T),.str nm] h = some (resP (findP T nm)) := by
  obtain ⟨v,h1,hc,hv⟩ := find9 T nm hl
  rw [hv] at hc
  refine over_fz' rfl hc (by simp only [frzs,frz,frz_ty,Bool.and_self]) ?_ h
  cases findP T nm <;> simp only [resP,frz,frzs,frz_pad,Bool.and_self]
end Go.Abs.Sym
end
section
namespace Go.Abs.Sym
open Go.Abs.T
open Go.Proofs
theorem Ext.up {h h' : H} (e : Ext h h') : ∃ j,h'.next = up h.next j := ⟨h'.next.num - h.next.num,Pth.num_inj (by rw [up_num]; have := e.next; omega)⟩
theorem View_slV {α : Type} {f : α → List AV} {sz : Nat} (hf : ∀ a,(f a).length = sz) (hsz : 0 < sz) (h : H) (s : Sl α) : View h sz (slV f s) (s.l.map f) := by
  refine ⟨by rw [len_slV,List.length_map],fun h' _ k e hk => ?_⟩
  rw [List.getElem?_map,Option.map_eq_some_iff] at hk
  obtain ⟨a,ha,rfl⟩ := hk
  exact ⟨_,at_slV hf hsz ha,by simp only [loadA,partA,tk_app (hf a),Option.map_some]⟩
theorem idxOf_map {α : Type} {f : α → List AV} {p : List AV → Bool} {q : α → Bool} (h : ∀ a,p (f a) = q a) : ∀ (l : List α) (k : Nat),idxOf p (l.map f) k = plc q l k
  | [],_ => rfl
  | a :: l,k => by simp only [List.map_cons,idxOf,plc,h,idxOf_map h l]
def hdIs (nm : List Nat) : List AV → Bool
  | .str s :: _ => eqS s nm
  | _ => false
theorem clos27 {X : Ctx} {n : Nat} {i : Pth} (hs : ∀ xs h,X.sums i xs h = none) (hF : X.funcs.get i = some c27) {b : Pth} {nm s : List Nat} {r : List AV} {h : H} (hb : b.num < h.next.num) (hg : h.t.get b = some (.cells [.str nm] false)) :
    callN X (n + 1) (.fn i [] [.ptr b 0]) [.agg (.str s :: r)] h = .ret (.bool (eqS s nm)) (h.newB (.cells (.str s :: r) false)) := by
  rw [call_fn (F := c27) (hs _ _) hF]
  have hne : (b = h.next) = False := eq_false (fun e => by rw [e] at hb; omega)
  have hne' : (h.next = b) = False := eq_false (fun e => by rw [e] at hb; omega)
  simp +decide only [c27,execA,opsA,wantedA,evalAll,evalA,oneA,st_mov,st_box,st_load,st_bin,st_fieldAddr,ld_ptr,H.cellsAt,H.newB,partA,tk_0,tk_c,cl_agg,binAV,eqAV,St.put,Tr.get_put,frameOf,Pth.succ,List.nil_append,List.cons_append,if_true,if_false,Nat.add_zero,leaveA,dfrsA,resultA,resultsA,Option.map_some,hg,hne]
theorem idx_nm {X : Ctx} {n : Nat} {i c : Pth} {sz : Nat} {sv : AV} {b : Pth} {nm : List Nat} {p : Pth} {j : Nat} {t : Tr AB} {es : List (List AV)}
    (hs : ∀ xs h,X.sums i xs h = none) (hF : X.funcs.get i = some (idxF sz)) (hsc : ∀ xs h,X.sums c xs h = none) (hFc : X.funcs.get c = some c27) (hfu : X.fuel = 100000)
    (hv : View ⟨up p j,t,.lf⟩ sz sv es) (hlen : es.length < 90000) (hes : ∀ e ∈ es,∃ s r,e = .str s :: r) (hb : b.num < (up p j).num) (hg : t.get b = some (.cells [.str nm] false)) :
    ∃ q t',callN X (n + 2) (.fn i [] []) [sv,.fn c [] [.ptr b 0]] ⟨up p j,t,.lf⟩ = .ret (.int .i64 (idxOf (hdIs nm) es 0)) ⟨up q 0,t',.lf⟩ ∧ (∀ id : Pth,id.num < (up p j).num → t'.get id = t.get id) ∧ (up p j).num ≤ q.num := by
  obtain ⟨h',hc,he⟩ := idx_ok (X := X) (n := n + 1) (i := i) (sv := sv) (fv := .fn c [] [.ptr b 0]) (p := hdIs nm) (hs _ _) hF hfu hv hlen (fun h hx e hm => by
    obtain ⟨s,r,rfl⟩ := hes e hm
    refine ⟨_,clos27 hsc hFc (h := h) (Nat.lt_of_lt_of_le hb hx.next) ((hx.t b hb).trans hg),Ext.newB _ _⟩)
  obtain ⟨nx,t',ro⟩ := h'
  have hro : ro = .lf := he.ro
  subst hro
  exact ⟨nx,t',hc,he.t,he.next⟩
theorem len_map {α β : Type} (f : α → β) (l : List α) : (l.map f).length = l.length := List.length_map ..
theorem idx_nm' {X : Ctx} {n : Nat} {i c : Pth} {sz : Nat} {sv : AV} {b : Pth} {nm : List Nat} {p : Pth} {j : Nat} {t : Tr AB} {α : Type} {f : α → List AV} {q : α → Bool} {l : List α} {R : CRes}
    (hs : ∀ xs h,X.sums i xs h = none) (hF : X.funcs.get i = some (idxF sz)) (hsc : ∀ xs h,X.sums c xs h = none) (hFc : X.funcs.get c = some c27) (hfu : X.fuel = 100000)
    (hv : View ⟨up p j,t,.lf⟩ sz sv (l.map f)) (hlen : l.length < 90000) (hes : ∀ a,∃ s r,f a = .str s :: r) (hpq : ∀ a,hdIs nm (f a) = q a) (hb : b.num < (up p j).num) (hg : t.get b = some (.cells [.str nm] false))
    (hR : callN X (n + 2) (.fn i [] []) [sv,.fn c [] [.ptr b 0]] ⟨up p j,t,.lf⟩ = R) :
    ∃ r t',R = .ret (.int .i64 (plc q l 0)) ⟨up r 0,t',.lf⟩ ∧ (∀ id : Pth,id.num < (up p j).num → t'.get id = t.get id) ∧ (up p j).num ≤ r.num := by
  rw [← idxOf_map (f := f) (p := hdIs nm) hpq,← hR]
  exact idx_nm hs hF hsc hFc hfu hv (by rw [len_map]; exact hlen) (fun e hm => by
    obtain ⟨a,_,rfl⟩ := List.mem_map.1 hm
    exact hes a) hb hg
theorem sums2_1 (i : Pth) (xs : List AV) (h : H) (h1 : memP i [t35,t9] = false) (h2 : memP i [t13] = false) : K2.sums i xs h = K1.sums i xs h := by
  simp only [K2,over,sumsOf,h1,h2,cond_false]
theorem clone28 (s : Sl Ed) (hl : s.l.length < 90000) : ∃ s' : Sl Ed,s'.l = s.l ∧ ∀ n h,callN K2 (n + 1) (.fn t28 [] []) [slV edC s] h = .ret (slV edC s') h := by
  obtain ⟨s',h1,h2⟩ := clone_sum (f := edC) len_ed frz_ed s hl
  exact ⟨s',h1,fun n h => call_sum (by rw [List.nil_append,List.append_nil,sums2_1 _ _ _ rfl rfl]; exact h2 h)⟩
theorem find8 (T : TypD) (nm : List Nat) (hl : T.pads.l.length < 90000) (he : ∀ p ∈ T.pads.l,p.es.l.length < 90000) : Ret (callN K2 50 (.fn t8 [] []) [.agg (tyC T),.str nm] h0)
    (fun v _ => (findP T nm = none ∧ v = resP none) ∨ ∃ (p : PadD) (s' : Sl Ed),findP T nm = some p ∧ s'.l = p.es.l ∧ v = resP (some { p with es := s' })) := by
  have hs : ∀ xs,K2.sums t8 xs h0 = none := fun _ => rfl
  have hF : K2.funcs.get t8 = some c8 := rfl
  refine begin2 (hs _) hF fun fr t ga gb => ?_
  simp only [tyC] at ga
  have hk1 : ltI (.negSucc 0) (.ofNat 0) = true := rfl
  have hk2 : ∀ k,ltI (.ofNat k) (.ofNat 0) = false := fun _ => rfl
  simp +decide only [c8,execA,opsA,wantedA,evalAll,evalA,oneA,st_mov,st_alloc,st_box,st_load,st_call,st_mkFn,st_fieldAddr,st_build,ld_ptr,H.cellsAt,H.newB,partA,tk_s,tk_0,tk_c,fillA,cl_agg,cl_str,St.put,Tr.get_put,if_true,if_false,Nat.zero_add,up_succ,List.drop,List.take,Nat.reduceAdd,leaveA,resultA,resultsA,Option.map_some,ga,gb]
  generalize hR : callN K2 49 (g t26) _ _ = R
  obtain ⟨q,t',rfl,hold,hq⟩ := idx_nm' (f := padC) (q := fun p => eqS p.nm nm) (fun _ _ => rfl) rfl (fun _ _ => rfl) rfl rfl (View_slV len_pad (by decide) _ _) hl (fun _ => ⟨_,_,rfl⟩) (fun _ => rfl) (by decide) (by simp +decide only [Tr.get_put,if_true,if_false]) hR
  have a0 := hold (up .e 0) (by decide)
  have a2 := hold (up .e 2) (by decide)
  simp +decide only [Tr.get_put,if_true,if_false] at a0 a2
  have n0 := Old.ne (n := q) (a := up .e 0) (Nat.lt_of_lt_of_le (by decide) hq)
  have n2 := Old.ne (n := q) (a := up .e 2) (Nat.lt_of_lt_of_le (by decide) hq)
  have m2 := Old.ne' (n := q) (a := up .e 2) (Nat.lt_of_lt_of_le (by decide) hq)
  rcases plc_find (fun p : PadD => eqS p.nm nm) T.pads.l 0 with ⟨h1,h2⟩ | ⟨k,x,h1,h2,h3⟩
  · simp +decide only [h1,st_mov,st_store,st_bin,ld_ptr,H.cellsAt,partA,tk_0,tk_c,storeA,setAt,ones,cl_agg,on_int,on_str,on_nils,binAV,Tr.get_put,if_true,if_false,cond_true,Nat.zero_add,List.length,nbeq,decide_true,Nat.reduceAdd,Bool.and_true,eqK,kindNo,ret_iff,dfrsA,Option.map_some,hk1,a2]
    exact .inl ⟨h2,rfl⟩
  · rw [Nat.zero_add] at h1
    have ia := at_slV (f := padC) (sz := 7) (fun _ => rfl) (by decide) h2
    obtain ⟨s',hs1,hs2⟩ := clone28 x.es (he x (List.mem_of_getElem? h2))
    simp +decide only [h1,st_mov,st_load,st_store,st_bin,st_call,st_fieldAddr,st_indexAddr,ld_ptr,ld_rs,H.cellsAt,partA,tk_s,tk_0,tk_c,storeA,setAt,ones,cl_agg,on_int,on_str,on_slV,cl_slV,binAV,Tr.get_put,List.nil_append,List.cons_append,if_true,if_false,cond_true,Nat.zero_add,up_succ,List.length,nbeq,decide_true,Nat.reduceAdd,Bool.and_true,eqK,kindNo,ret_iff,dfrsA,Option.map_some,hk2,a0,a2,n2,ia,padC,hs2]
    exact .inr ⟨x,s',h3,hs1,rfl⟩
end Go.Abs.Sym
end
section
namespace Go.Abs.Sym
open Go.Abs.T
open Go.Proofs
def all2 {α : Type} (p : α → α → Bool) : List α → List α → Bool
  | [],[] => true
  | a :: l,b :: m => p a b && all2 p l m
  | _,_ => false
theorem all2_step {α : Type} {p : α → α → Bool} {l m : List α} {k : Nat} {x y : α} (h : l[k]? = some x) (h' : m[k]? = some y) : all2 p (l.drop k) (m.drop k) = (p x y && all2 p (l.drop (k + 1)) (m.drop (k + 1))) := by
  obtain ⟨hk,rfl⟩ := List.getElem?_eq_some_iff.1 h
  obtain ⟨hk',rfl⟩ := List.getElem?_eq_some_iff.1 h'
  rw [List.drop_eq_getElem_cons hk,List.drop_eq_getElem_cons hk']
  rfl
theorem all2_len {α : Type} {p : α → α → Bool} : ∀ {l m : List α},l.length ≠ m.length → all2 p l m = false
  | [],[],h => absurd rfl h
  | [],_ :: _,_ => rfl
  | _ :: _,[],_ => rfl
  | a :: l,b :: m,h => by
    simp only [all2]
    rw [all2_len (fun e => h (by simp only [List.length_cons,e])),Bool.and_false]
theorem setAt_all : ∀ {z vs : List AV},z.length = vs.length → setAt z 0 vs = some vs
  | [],[],_ => rfl
  | _ :: _,[],h => by cases h
  | [],_ :: _,h => by cases h
  | a :: z,v :: vs,h => by
    simp only [setAt,setAt_all (Nat.succ.inj h),Option.map_some]
def eqfBody (sz : Nat) (z : List AV) : ACode := (.seq (.reg [⟨s18,.bin .lss .one,[v17,v16],none⟩]) (.seq (.cond (v18) .skip (.exit 0)) (.seq (.block 1 (.seq (.reg [⟨s19,.mov,[v17],none⟩,⟨s20,.indexAddr (.slc sz),[v15,v17],none⟩,⟨s21,.load (some sz),[v20],none⟩,⟨s8,.alloc z,[],none⟩,⟨s7,.mov,[v19],none⟩,⟨none,.store sz,[v8,v21],none⟩]) (.seq (.reg [⟨s22,.mov,[v1],none⟩,⟨s23,.mov,[v7],none⟩,⟨s24,.indexAddr (.slc sz),[v22,v23],none⟩,⟨s25,.load (some sz),[v24],none⟩,⟨s9,.alloc z,[],none⟩,⟨none,.store sz,[v9,v25],none⟩]) (.seq (.reg [⟨s26,.mov,[v2],none⟩,⟨s27,.load (some sz),[v8],none⟩,⟨s28,.load (some sz),[v9],none⟩,⟨s29,.call,[v26,v27,v28],none⟩,⟨s30,.un .not,[v29],none⟩]) (.cond (v30) (.seq (.reg [⟨s6,.mov,[.const (AV.bool false)],none⟩]) .ret) .skip))))) (.reg [⟨s31,.bin .add .one,[v17,.const i1],none⟩,⟨s17,.mov,[v31],none⟩]))))
def eqfF (sz : Nat) (z : List AV) : AFunc := ⟨32,[.tmp t6],(.seq (.reg [⟨s6,.mov,[.const (AV.bool false)],none⟩]) (.seq (.seq (.reg [⟨s10,.mov,[v0],none⟩,⟨s11,.len .slc,[v10],none⟩,⟨s12,.mov,[v1],none⟩,⟨s13,.len .slc,[v12],none⟩,⟨s14,.bin .neq .one,[v11,v13],none⟩]) (.cond (v14) (.seq (.reg [⟨s6,.mov,[.const (AV.bool false)],none⟩]) .ret) .skip)) (.seq (.seq (.reg [⟨s15,.mov,[v0],none⟩,⟨s16,.len .slc,[v15],none⟩,⟨s17,.mov,[.const i0],none⟩]) (.block 0 (.loop (eqfBody sz z)))) (.seq (.reg [⟨s6,.mov,[.const (AV.bool true)],none⟩]) .ret))))⟩
theorem eqf_ok {X : Ctx} {n : Nat} {i : Pth} {sz : Nat} {z : List AV} {α : Type} {f : α → List AV} {p : α → α → Bool} {a b : Sl α} {fv : AV}
    (hs : ∀ xs h,X.sums i xs h = none) (hF : X.funcs.get i = some (eqfF sz z)) (hfu : X.fuel = 100000) (hsz : ∀ a,(f a).length = sz) (hz : z.length = sz) (hone : ∀ a,ones (f a) = true) (hpos : 0 < sz) (hl : a.l.length < 90000)
    (hc : ∀ x ∈ a.l,∀ y ∈ b.l,∀ h,callN X n fv [.agg (f x),.agg (f y)] h = .ret (.bool (p x y)) h) (q : Pth) (j : Nat) (t : Tr AB) {R : CRes} (hR : callN X (n + 1) (.fn i [] []) [slV f a,slV f b,fv] ⟨up q j,t,.lf⟩ = R) :
    ∃ j' t',R = .ret (.bool (all2 p a.l b.l)) ⟨up q j',t',.lf⟩ ∧ j ≤ j' ∧ ∀ id : Pth,id.num < (up q j).num → t'.get id = t.get id := by
  rw [← hR,call_fn (F := eqfF sz z) (hs _ _) hF]
  have hset : ∀ a,setAt z 0 (f a) = some (f a) := fun a => setAt_all (by rw [hz,hsz])
  have htk : ∀ a,takeD (f a) 0 sz = some (f a) := fun a => takeD_all (hsz a)
  by_cases hn : a.l.length = b.l.length
  · simp +decide only [eqfF,execA,opsA,wantedA,evalAll,evalA,oneA,st_mov,st_bin,st_len,binAV,eqAV,St.put,Tr.get_put,frameOf,Pth.succ,List.nil_append,List.append_nil,if_true,if_false,cond_true,nbeq,decide_true,Bool.not_true,eqK,kindNo,leaveA,resultA,resultsA,Option.map_some,len_slV,eqI_dec,hn,hfu]
    generalize hit : iterA (execA X (callN X n) (eqfBody sz z)) 100000 _ = o
    have hq : ∃ fr j' t',((o = .exit 0 ⟨fr,[],⟨up q j',t',.lf⟩,.no,none,i⟩ ∧ all2 p a.l b.l = true) ∨ (o = .ret ⟨fr,[],⟨up q j',t',.lf⟩,.no,none,i⟩ ∧ fr.get t6 = some (.bool false) ∧ all2 p a.l b.l = false)) ∧ j ≤ j' ∧ ∀ id : Pth,id.num < (up q j).num → t'.get id = t.get id := by
      rw [← hit]
      refine iter_rule (fun m s => ∃ fr j' t' k,s = ⟨fr,[],⟨up q j',t',.lf⟩,.no,none,i⟩ ∧ k + m = a.l.length ∧ all2 p a.l b.l = all2 p (a.l.drop k) (b.l.drop k) ∧ j ≤ j' ∧ (∀ id : Pth,id.num < (up q j).num → t'.get id = t.get id) ∧ fr.get t1 = some (slV f b) ∧ fr.get t2 = some fv ∧ fr.get t15 = some (slV f a) ∧ fr.get t16 = some (.int .i64 (.ofNat a.l.length)) ∧ fr.get t17 = some (.int .i64 (.ofNat k)))
        (fun o => ∃ fr j' t',((o = .exit 0 ⟨fr,[],⟨up q j',t',.lf⟩,.no,none,i⟩ ∧ all2 p a.l b.l = true) ∨ (o = .ret ⟨fr,[],⟨up q j',t',.lf⟩,.no,none,i⟩ ∧ fr.get t6 = some (.bool false) ∧ all2 p a.l b.l = false)) ∧ j ≤ j' ∧ ∀ id : Pth,id.num < (up q j).num → t'.get id = t.get id) ?_ 100000 a.l.length _ ?_ (by omega)
      · rintro m s ⟨fr,j',t',k,rfl,hk,hpl,hj,hold,g1,g2,g15,g16,g17⟩
        cases m with
        | zero =>
          have hkn : (k < a.l.length) = False := eq_false (by omega)
          simp +decide only [eqfBody,execA,opsA,wantedA,evalAll,evalA,oneA,st_bin,binAV,St.put,Tr.get_put,if_true,cond_true,nbeq,decide_true,decide_false,eqK,kindNo,g16,g17,ltI_dec,hkn,stp_e]
          refine ⟨_,j',t',.inl ⟨rfl,?_⟩,hj,hold⟩
          rw [hpl,List.drop_of_length_le (by omega),List.drop_of_length_le (by omega)]
          rfl
        | succ m =>
          have hkn : (k < a.l.length) = True := eq_true (by omega)
          obtain ⟨x,hka⟩ : ∃ x,a.l[k]? = some x := ⟨_,List.getElem?_eq_getElem (by omega)⟩
          obtain ⟨y,hkb⟩ : ∃ y,b.l[k]? = some y := ⟨_,List.getElem?_eq_getElem (by omega)⟩
          have ia := at_slV (f := f) hsz hpos hka
          have ib := at_slV (f := f) hsz hpos hkb
          have hw := wr_add k 1 (by omega)
          have hcall := hc x (List.mem_of_getElem? hka) y (List.mem_of_getElem? hkb)
          have tka : ∀ r,takeD (f x ++ r) 0 sz = some (f x) := fun r => tk_app (hsz x)
          have tkb : ∀ r,takeD (f y ++ r) 0 sz = some (f y) := fun r => tk_app (hsz y)
          rw [all2_step hka hkb] at hpl
          have e1 : (j' = j' + 1) = False := eq_false (by omega)
          have e2 : (j' + 1 = j') = False := eq_false (by omega)
          have hnew : ∀ (u v : AB) (id : Pth),id.num < (up q j).num → ((((t'.put (up q j') u).put (up q j') v).put (up q (j' + 1)) u).put (up q (j' + 1)) v).get id = t.get id → True := fun _ _ _ _ _ => trivial
          have hfr : ∀ (u v u' v' : AB) (id : Pth),id.num < (up q j).num → ((((t'.put (up q j') u).put (up q j') v).put (up q (j' + 1)) u').put (up q (j' + 1)) v').get id = t.get id := by
            intro u v u' v' id hid
            have h1 : (id = up q j') = False := eq_false (fun e => by rw [e,up_num,up_num] at hid; omega)
            have h2 : (id = up q (j' + 1)) = False := eq_false (fun e => by rw [e,up_num,up_num] at hid; omega)
            simp only [Tr.get_put,h1,h2,if_false]
            exact hold id hid
          cases hp : p x y with
          | true =>
            rw [hp] at hcall hpl
            rw [Bool.true_and] at hpl
            simp +decide only [eqfBody,execA,opsA,wantedA,evalAll,evalA,oneA,st_mov,st_alloc,st_load,st_store,st_bin,st_not,st_call,st_indexAddr,ld_ptr,ld_rs,H.cellsAt,H.newB,partA,storeA,cl_agg,binAV,St.put,Tr.get_put,if_true,if_false,cond_true,up_succ,up_inj,nbeq,decide_true,Bool.and_true,Bool.not_true,eqK,kindNo,Option.map_some,g1,g2,g15,g16,g17,ltI_dec,hkn,ia,ib,tka,tkb,htk,hset,hone,hsz,hcall,hw,e1,e2,stp_n]
            refine ⟨m,by omega,_,j' + 2,_,k + 1,rfl,by omega,hpl,by omega,hfr _ _ _ _,?_,?_,?_,?_,?_⟩
            all_goals simp +decide only [Tr.get_put,g1,g2,g15,g16,if_true,if_false]
          | false =>
            rw [hp] at hcall hpl
            rw [Bool.false_and] at hpl
            simp +decide only [eqfBody,execA,opsA,wantedA,evalAll,evalA,oneA,st_mov,st_alloc,st_load,st_store,st_bin,st_not,st_call,st_indexAddr,ld_ptr,ld_rs,H.cellsAt,H.newB,partA,storeA,cl_agg,binAV,St.put,Tr.get_put,if_true,if_false,cond_true,up_succ,up_inj,nbeq,decide_true,Bool.and_true,Bool.not_false,eqK,kindNo,Option.map_some,g1,g2,g15,g16,g17,ltI_dec,hkn,ia,ib,tka,tkb,htk,hset,hone,hsz,hcall,e1,e2,stp_r]
            exact ⟨_,j' + 2,_,.inr ⟨rfl,by simp +decide only [Tr.get_put,if_true,reduceIte],hpl⟩,by omega,hfr _ _ _ _⟩
      · refine ⟨_,j,t,0,rfl,by omega,rfl,Nat.le_refl _,fun _ _ => rfl,?_,?_,?_,?_,?_⟩ <;> simp +decide only [Tr.get_put,hn,if_true,if_false]
    obtain ⟨fr,j',t',hq,hj,hold⟩ := hq
    refine ⟨j',t',?_,hj,hold⟩
    rcases hq with ⟨rfl,hab⟩ | ⟨rfl,h4,hab⟩
    · simp +decide only [Tr.get_put,if_true,cond_true,decide_true,dfrsA,hab]
    · simp +decide only [dfrsA,hab,h4]
  · refine ⟨j,t,?_,Nat.le_refl _,fun _ _ => rfl⟩
    have hab := all2_len (p := p) hn
    have hn' : ((a.l.length : Int) = (b.l.length : Int)) = False := eq_false (fun h => hn (by omega))
    simp +decide only [eqfF,execA,opsA,wantedA,evalAll,evalA,oneA,st_mov,st_bin,st_len,binAV,eqAV,St.put,Tr.get_put,frameOf,Pth.succ,List.nil_append,List.append_nil,if_true,if_false,cond_true,nbeq,decide_true,decide_false,Bool.not_false,eqK,kindNo,leaveA,dfrsA,resultA,resultsA,Option.map_some,len_slV,eqI_dec,Int.ofNat.injEq,hn,hab]
end Go.Abs.Sym
end
section
namespace Go.Abs.Sym
open Go.Abs.T
open Go.Proofs
def samePad (p q : PadD) : Bool := decide (p.nm = q.nm) && (decide (p.x = q.x ∧ p.y = q.y) && (decide (p.dr = q.dr) && sameSh p.kd p.es p.r q.kd q.es q.r))
def sameGate (g h : GateD) : Bool := decide (g.kd = h.kd) && decide (g.legs.l = h.legs.l)
def sameT (t u : TypD) : Bool := decide (t.nm = u.nm) && (all2 samePad t.pads.l u.pads.l && all2 sameGate t.gates.l u.gates.l)
theorem eq_pt (a b c d : Int) : eqFlat [.i,.i] [.int .i64 a,.int .i64 b] [.int .i64 c,.int .i64 d] = some (decide (a = c ∧ b = d)) := by
  simp only [eqFlat,eqK,kindNo,nbeq,decide_true,cond_true,eqI_dec,bif_dec]
  repeat (first | rfl | (split <;> rename_i hh <;> simp only [hh,true_and,false_and,decide_false,decide_true]))
theorem bin_flat (_o : BinOp) (ks : List CK) (xs ys : List AV) : eqAV (.flat ks) (.agg xs) (.agg ys) = bif Nat.beq xs.length ks.length && Nat.beq ys.length ks.length then eqFlat ks xs ys else none := rfl
theorem pad34 (p q : PadD) (hl : p.es.l.length < 90000) : Ret (callN K2 50 (.fn t34 [] []) [.agg (padC p),.agg (padC q)] h0) (fun v _ => v = .bool (samePad p q)) := by
  have hs : ∀ xs,K2.sums t34 xs h0 = none := fun _ => rfl
  have hF : K2.funcs.get t34 = some c34 := rfl
  refine begin2 (hs _) hF fun fr t ga gb => ?_
  have hc : ∀ h,callN K2 49 (.fn t35 [] []) [shV p.kd p.es p.r,shV q.kd q.es q.r] h = .ret (.bool (sameSh p.kd p.es p.r q.kd q.es q.r)) h := fun h => call_sum (same35_sum _ _ _ _ _ _ hl h)
  simp only [shV] at hc
  simp only [padC] at ga gb
  by_cases h1 : p.nm = q.nm
  · by_cases h2 : p.x = q.x ∧ p.y = q.y
    · by_cases h3 : p.dr = q.dr
      · simp +decide only [c34,execA,opsA,wantedA,evalAll,evalA,oneA,st_mov,st_box,st_load,st_bin,st_call,st_fieldAddr,st_pick,ld_ptr,H.cellsAt,H.newB,partA,tk_s,tk_0,tk_c,cl_agg,binAV,eqAV,St.put,Tr.get_put,if_true,if_false,cond_true,Nat.zero_add,Nat.add_zero,up_succ,List.length,nbeq,decide_true,Nat.reduceAdd,Bool.true_and,Bool.and_true,eqK,kindNo,ret_iff,leaveA,dfrsA,resultA,resultsA,Option.map_some,beq_self_eq_true,ga,gb,eqS_dec,eqI_dec,eq_pt,h1,h2,h3,hc,samePad]
      · simp +decide only [c34,execA,opsA,wantedA,evalAll,evalA,oneA,st_mov,st_box,st_load,st_bin,st_fieldAddr,st_pick,ld_ptr,H.cellsAt,H.newB,partA,tk_s,tk_0,tk_c,cl_agg,binAV,eqAV,St.put,Tr.get_put,if_true,if_false,cond_true,cond_false,Nat.zero_add,Nat.add_zero,up_succ,List.length,nbeq,decide_true,decide_false,Nat.reduceAdd,Bool.and_true,Bool.and_false,Bool.false_and,eqK,kindNo,ret_iff,leaveA,dfrsA,resultA,resultsA,Option.map_some,beq_self_eq_true,beq_t,ga,gb,eqS_dec,eqI_dec,eq_pt,h1,h2,h3,samePad]
    · simp +decide only [c34,execA,opsA,wantedA,evalAll,evalA,oneA,st_mov,st_box,st_load,st_bin,st_fieldAddr,st_pick,ld_ptr,H.cellsAt,H.newB,partA,tk_s,tk_0,tk_c,cl_agg,binAV,eqAV,St.put,Tr.get_put,if_true,if_false,cond_true,cond_false,Nat.zero_add,Nat.add_zero,up_succ,List.length,nbeq,decide_true,decide_false,Nat.reduceAdd,Bool.and_true,Bool.and_false,Bool.false_and,ret_iff,leaveA,dfrsA,resultA,resultsA,Option.map_some,beq_self_eq_true,beq_t,ga,gb,eqS_dec,eq_pt,h1,h2,samePad]
  · simp +decide only [c34,execA,opsA,wantedA,evalAll,evalA,oneA,st_mov,st_box,st_load,st_bin,st_fieldAddr,st_pick,ld_ptr,H.cellsAt,H.newB,partA,tk_0,tk_c,cl_agg,binAV,eqAV,St.put,Tr.get_put,if_true,if_false,cond_false,Nat.zero_add,Nat.add_zero,up_succ,decide_false,Nat.reduceAdd,Bool.false_and,ret_iff,leaveA,dfrsA,resultA,resultsA,Option.map_some,beq_t,ga,gb,eqS_dec,h1,samePad]
theorem pad34_sum (p q : PadD) (hl : p.es.l.length < 90000) (h : H) : K3.sums t34 [.agg (padC p),.agg (padC q)] h = some (.bool (samePad p q)) := by
  obtain ⟨v,h1,hc,hv⟩ := pad34 p q hl
  rw [hv] at hc
  exact over_fz' rfl hc (by simp only [frzs,frz,frz_pad,Bool.and_self]) rfl h
theorem gate37 (g k : GateD) (hl : g.legs.l.length < 90000) : Ret (callN K2 50 (.fn t37 [] []) [.agg (gateC g),.agg (gateC k)] h0) (fun v _ => v = .bool (sameGate g k)) := by
  have hs : ∀ xs,K2.sums t37 xs h0 = none := fun _ => rfl
  have hF : K2.funcs.get t37 = some c37 := rfl
  refine begin2 (hs _) hF fun fr t ga gb => ?_
  have hc : ∀ h,callN K2 49 (.fn t38 [] []) [slV lgC g.legs,slV lgC k.legs] h = .ret (.bool (decide (g.legs.l = k.legs.l))) h := fun h => call_sum (by
    rw [List.nil_append,List.append_nil,sums2_1 _ _ _ rfl rfl]
    exact equal38_sum _ _ hl h)
  simp only [gateC] at ga gb
  by_cases h1 : g.kd = k.kd
  · simp +decide only [c37,execA,opsA,wantedA,evalAll,evalA,oneA,st_mov,st_box,st_load,st_bin,st_call,st_fieldAddr,st_pick,ld_ptr,H.cellsAt,H.newB,partA,tk_s,tk_0,tk_c,cl_agg,binAV,eqAV,St.put,Tr.get_put,if_true,if_false,cond_true,Nat.zero_add,Nat.add_zero,up_succ,nbeq,decide_true,Nat.reduceAdd,Bool.true_and,eqK,kindNo,ret_iff,leaveA,dfrsA,resultA,resultsA,Option.map_some,beq_self_eq_true,ga,gb,eqI_dec,h1,hc,sameGate]
  · simp +decide only [c37,execA,opsA,wantedA,evalAll,evalA,oneA,st_mov,st_box,st_load,st_bin,st_fieldAddr,st_pick,ld_ptr,H.cellsAt,H.newB,partA,tk_0,tk_c,cl_agg,binAV,eqAV,St.put,Tr.get_put,if_true,if_false,cond_true,cond_false,Nat.zero_add,Nat.add_zero,up_succ,nbeq,decide_true,decide_false,Nat.reduceAdd,Bool.false_and,eqK,kindNo,ret_iff,leaveA,dfrsA,resultA,resultsA,Option.map_some,beq_t,ga,gb,eqI_dec,h1,sameGate]
theorem gate37_sum (g k : GateD) (hl : g.legs.l.length < 90000) (h : H) : K3.sums t37 [.agg (gateC g),.agg (gateC k)] h = some (.bool (sameGate g k)) := by
  obtain ⟨v,h1,hc,hv⟩ := gate37 g k hl
  rw [hv] at hc
  exact over_fz' rfl hc (by simp only [frzs,frz,frz_gate,Bool.and_self]) rfl h
theorem on_pad (p : PadD) : ones (padC p) = true := by simp only [padC,ones,on_slV]; rfl
theorem on_gate (p : GateD) : ones (gateC p) = true := by simp only [gateC,ones,on_slV]; rfl
structure Small (T : TypD) : Prop where
  pads : T.pads.l.length < 90000
  gates : T.gates.l.length < 90000
  es : ∀ p ∈ T.pads.l,p.es.l.length < 90000
  legs : ∀ g ∈ T.gates.l,g.legs.l.length < 90000
theorem lib14 (T U : TypD) (sm : Small T) : Ret (callN K3 50 (.fn t14 [] []) [.agg (tyC T),.agg (tyC U)] h0) (fun v _ => v = .bool (sameT T U)) := by
  have hs : ∀ xs,K3.sums t14 xs h0 = none := fun _ => rfl
  have hF : K3.funcs.get t14 = some c14 := rfl
  refine begin2 (hs _) hF fun fr t ga gb => ?_
  simp only [tyC] at ga gb
  simp +decide only [c14,execA,opsA,wantedA,evalAll,evalA,oneA,st_mov,st_box,st_load,st_call,st_fieldAddr,ld_ptr,H.cellsAt,H.newB,partA,tk_s,tk_0,tk_c,cl_agg,St.put,Tr.get_put,if_true,if_false,Nat.zero_add,up_succ,Nat.reduceAdd,leaveA,resultA,resultsA,Option.map_some,beq_t,ga,gb]
  generalize hR : callN K3 49 (g t33) _ _ = R
  obtain ⟨j,t',rfl,hj,hold⟩ := eqf_ok (f := padC) (p := samePad) (fun _ _ => rfl) rfl rfl len_pad rfl on_pad (by decide) sm.pads (fun x hx y _ h => call_sum (pad34_sum x y (sm.es x hx) h)) _ _ _ hR
  have a0 := hold (up .e 0) (by decide)
  have a1 := hold (up .e 1) (by decide)
  simp +decide only [Tr.get_put,if_true,if_false] at a0 a1
  simp +decide only [st_mov,st_load,st_call,st_fieldAddr,ld_ptr,H.cellsAt,partA,tk_s,tk_0,tk_c,Tr.get_put,if_true,if_false,Nat.zero_add,Option.map_some,a0,a1]
  generalize hR' : callN K3 49 (g t36) _ _ = R
  obtain ⟨j2,t2,rfl,hj2,hold2⟩ := eqf_ok (f := gateC) (p := sameGate) (fun _ _ => rfl) rfl rfl len_gate rfl on_gate (by decide) sm.gates (fun x hx y _ h => call_sum (gate37_sum x y (sm.legs x hx) h)) _ _ _ hR'
  have b0 := (hold2 (up .e 0) (by rw [up_num,up_num]; omega)).trans a0
  have b1 := (hold2 (up .e 1) (by rw [up_num,up_num]; omega)).trans a1
  by_cases h1 : T.nm = U.nm
  · cases h2 : all2 samePad T.pads.l U.pads.l with
    | true => simp +decide only [st_mov,st_load,st_bin,st_fieldAddr,st_pick,ld_ptr,H.cellsAt,partA,tk_0,tk_c,binAV,eqAV,Tr.get_put,if_true,if_false,cond_true,Nat.add_zero,decide_true,Bool.true_and,ret_iff,dfrsA,Option.map_some,b0,b1,eqS_dec,h1,h2,sameT]
    | false => simp +decide only [st_mov,st_load,st_bin,st_fieldAddr,st_pick,ld_ptr,H.cellsAt,partA,tk_0,tk_c,binAV,eqAV,Tr.get_put,if_true,if_false,cond_true,cond_false,Nat.add_zero,decide_true,Bool.and_false,Bool.false_and,ret_iff,dfrsA,Option.map_some,b0,b1,eqS_dec,h1,h2,sameT]
  · simp +decide only [st_mov,st_load,st_bin,st_fieldAddr,st_pick,ld_ptr,H.cellsAt,partA,tk_0,tk_c,binAV,eqAV,Tr.get_put,if_true,if_false,cond_false,Nat.add_zero,decide_false,Bool.false_and,ret_iff,dfrsA,Option.map_some,b0,b1,eqS_dec,h1,sameT]
theorem lib14_sum (T U : TypD) (sm : Small T) (v w : AV) {h : H} (hv : deep 8 h v = .agg (tyC T)) (hw : deep 8 h w = .agg (tyC U)) : K4.sums t14 [v,w] h = some (.bool (sameT T U)) := by
  obtain ⟨x,h1,hc,hx⟩ := lib14 T U sm
  rw [hx] at hc
  have e : [v,w].map (deep 8 h) = [.agg (tyC T),.agg (tyC U)] := by simp only [List.map_cons,List.map_nil,hv,hw]
  refine over_dp rfl rfl (by rw [e]; exact hc) (by rw [e]; simp only [frzs,frz,frz_ty,Bool.and_self]) rfl
end Go.Abs.Sym
end
