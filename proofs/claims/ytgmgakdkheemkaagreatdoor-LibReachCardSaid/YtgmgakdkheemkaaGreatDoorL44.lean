/- A part of the proof that LibSwaps answers true at every input: AbsSym21, AbsSym40, AbsKol, AbsKom, AbsKon2. -/
import Derived.Test.YtgmgakdkheemkaaGreatDoorL26
import Derived.Test.YtgmgakdkheemkaaGreatDoorL25
import Derived.Test.YtgmgakdkheemkaaGreatDoorL20
import Derived.Test.YtgmgakdkheemkaaGreatDoorL27
import Derived.KernelRfl
section
namespace Go.Abs.Sym
open Go.Abs.T
open Go.Proofs
theorem made22_sum (L : Sl Int) (hL : L.l.length < 9223372036854775808) (nm : List Nat) : ∃ cs gs,2 ≤ cs.length ∧ cs.length ≤ 6 ∧ (∀ c ∈ cs,CodeOK c) ∧ GOK cs.length gs ∧ ∀ h,K3.sums t18 [slV inC L,.str nm] h = some (.agg (tyC (tyOf nm cs gs))) := by
  obtain ⟨v,h1,hc,cs,gs,k1,k2,k3,k4,hd⟩ := made22 L hL nm
  refine ⟨cs,gs,k1,k2,k3,k4,fun h => ?_⟩
  have := over_fz (fz := [t18,t19]) (dp := []) rfl hc (by simp only [frzs,frz_slV frz_in,frz,Bool.and_self]) (by rw [hd]; simp only [frz,frz_ty]) h
  rw [hd] at this
  exact this
def strC (s : List Nat) : List AV := [.str s]
theorem len_str (s : List Nat) : (strC s).length = 1 := rfl
theorem frz_str (s : List Nat) : frzs (strC s) = true := rfl
def net5 : Nat → List Nat
  | 0 => [97] | 1 => [98] | 2 => [99] | 3 => [100] | _ => []
def StrR (r : List AV) : Prop := ∃ x,x < 5 ∧ r = strC (net5 x)
theorem StrR.len {r : List AV} (h : StrR r) : r.length = 1 := by
  obtain ⟨s,_,rfl⟩ := h
  rfl
theorem str_deep {d : Nat} {h : H} : ∀ rs : List (List AV),(∀ r ∈ rs,StrR r) → ∃ l : List Nat,l.length = rs.length ∧ (∀ x ∈ l,x < 5) ∧ rs.flatten.map (deep d h) = (l.map net5).flatMap strC
  | [],_ => ⟨[],rfl,fun _ h => absurd h List.not_mem_nil,rfl⟩
  | r :: rs,hr => by
    obtain ⟨x,hx,rfl⟩ := hr r List.mem_cons_self
    obtain ⟨l,h1,h2,h3⟩ := str_deep (d := d) (h := h) rs (fun x hx => hr x (List.mem_cons_of_mem _ hx))
    refine ⟨x :: l,by simp only [List.length_cons,h1],fun y hy => ?_,?_⟩
    · rcases List.mem_cons.1 hy with rfl | hy
      · exact hx
      · exact h2 y hy
    · rw [List.flatten_cons,List.map_append,h3]
      cases d <;> rfl
theorem NetsI_deep {t : Tr AB} {nx : Pth} {lo hi nb : Nat} {pv : AV} {rs : List (List AV)} (h0 : 0 < rs.length) (hg : Grow 1 t lo hi nb pv rs) (hr : ∀ r ∈ rs,StrR r) : ∃ l : List Nat,l.length = rs.length ∧ (∀ x ∈ l,x < 5) ∧ deep 8 ⟨nx,t,.lf⟩ pv = slV strC ⟨1,l.map net5⟩ := by
  obtain ⟨l,h1,h2,h3⟩ := str_deep (d := 7) (h := ⟨nx,t,.lf⟩) rs hr
  refine ⟨l,h1,h2,?_⟩
  rcases hg with ⟨rfl,rfl,_⟩ | ⟨_,rfl,h5,_⟩
  · exact absurd h0 (by simp)
  · have htk : takeD rs.flatten 0 (rs.length * 1) = some rs.flatten := takeD_all (rows_len (Rw := fun r => r.length = 1) (fun _ h => h) rs (fun r h => (hr r h).len))
    rw [deep_slc (cellsAt_t h5) htk,h3,slV_rslc,List.length_map,h1]
def NetsI (T : TypD) (L : Sl Int) (m : Nat) (s : St) : Prop :=
  ∃ fr j t nb pv rs,s = ⟨fr,[],⟨up .e j,t,.lf⟩,.no,none,t19⟩ ∧ 2 ≤ j ∧ rs.length + m = T.pads.l.length ∧
    fr.get t2 = some (.ptr (up .e 0) 0) ∧ fr.get t5 = some (.ptr (up .e 1) 0) ∧ fr.get t6 = some pv ∧ fr.get t7 = some (.int .i64 (.ofNat rs.length)) ∧
    t.get (up .e 0) = some (.cells [.str T.nm,slV padC T.pads,slV gateC T.gates] false) ∧ DrawAt t (up .e 1) L ∧ Grow 1 t 2 j nb pv rs ∧ (∀ r ∈ rs,StrR r)
set_option maxHeartbeats 1000000 in
theorem nets_round (T : TypD) (hT : T.pads.l.length < 90000) (L : Sl Int) (hL : L.l.length < 9223372036854775808) (m : Nat) (s : St) (h : NetsI T L m s) :
    Stp (NetsI T L) (fun o => ∃ s,o = .exit 0 s ∧ NetsI T L 0 s) m (execA K2 (callN K2 49) c19_l0 s) := by
  have h' := h
  obtain ⟨fr,j,t,nb,pv,rs,rfl,hj,hk,g2,g5,g6,g7,a0,ad,hg,hr⟩ := h
  have hnb : nb < j := by
    rcases hg with ⟨_,_,h⟩ | ⟨_,_,_,_,h⟩ <;> omega
  cases m with
  | zero =>
    have hkn : (rs.length < T.pads.l.length) = False := eq_false (by omega)
    simp +decide (disch := omega) only [c19_l0,execA,opsA,wantedA,evalAll,evalA,oneA,st_mov,st_load,st_bin,st_fieldAddr,st_len,ld_ptr,H.cellsAt,partA,tk_s,tk_0,tk_c,binAV,St.put,Tr.get_put,if_true,if_false,cond_true,Nat.zero_add,nbeq,decide_true,decide_false,eqK,kindNo,Option.map_some,g2,g7,a0,len_slV,ltI_dec,hkn,stp_e]
    refine ⟨_,rfl,_,j,t,nb,pv,rs,rfl,hj,hk,?_,?_,?_,?_,a0,ad,hg,hr⟩
    all_goals simp +decide only [Tr.get_put,g2,g5,g6,g7,if_false]
  | succ m =>
    have hkn : (rs.length < T.pads.l.length) = True := eq_true (by omega)
    have hw := wr_add rs.length 1 (by omega)
    obtain ⟨x,p,j1,hN,hx,hj1,hp⟩ := next2 (n := 5) (by decide) (by decide) hL (j := j + 1) (q := .e) rfl (ad.put (i := 1) (j := j) (by omega) (.cells [.str [97],.str [98],.str [99],.str [100],e0] false))
    have hs : ∃ st,x < 5 ∧ indexAddrA (.slc 1) (.slc (up .e j) 0 5 1 (some 5)) (.int .i64 (.ofNat x)) = some (.ptr (up .e j) x) ∧ takeD [.str [97],.str [98],.str [99],.str [100],e0] x 1 = some [.str st] ∧ st = net5 x := by
      match x,hx with
      | 0,_ => exact ⟨[97],by decide,rfl,rfl,rfl⟩
      | 1,_ => exact ⟨[98],by decide,rfl,rfl,rfl⟩
      | 2,_ => exact ⟨[99],by decide,rfl,rfl,rfl⟩
      | 3,_ => exact ⟨[100],by decide,rfl,rfl,rfl⟩
      | 4,_ => exact ⟨[],by decide,rfl,rfl,rfl⟩
    obtain ⟨st,_,hi,hp',hst⟩ := hs
    simp +decide (disch := omega) only [c19_l0,execA,opsA,wantedA,evalAll,evalA,oneA,st_mov,st_load,st_bin,st_call,st_fieldAddr,st_indexAddr,st_len,st_buildSl,st_append,ld_ptr,H.cellsAt,H.newB,partA,tk_s,tk_0,tk_c,setAt,fillS,cl_str,binAV,St.put,Tr.get_put,if_true,if_false,cond_true,Nat.zero_add,Nat.zero_mul,Nat.one_mul,up_succ,up_ne,Bool.and_self,List.length,nbeq,nble,decide_true,Nat.reduceAdd,Nat.reduceMul,eqK,kindNo,Option.map_some,g2,g5,g6,g7,a0,len_slV,ltI_dec,hkn,hN,hi,hp']
    generalize hA : appendA _ 1 16 _ _ = A
    obtain ⟨t2,rfl,b1,b2,b3⟩ := Grow.append (hg.keep (hi' := j1 + 1) (by omega) (fun _ _ => by simp +decide (disch := omega) only [Tr.get_put,up_ne,if_false])) hA (sp := false)
      (by rw [Tr.get_put,if_pos rfl]) rfl rfl (fun r h => (hr r h).len) (by decide) (by omega) (by omega)
    have q0 := (b2 0 (by omega) (fun _ _ => by omega)).trans (by simp +decide (disch := omega) only [Tr.get_put,up_ne,if_false]; exact a0)
    have q1 : DrawAt t2 (up .e 1) L := by
      refine ⟨p,hp,(b2 1 (by omega) (fun _ _ => by omega)).trans ?_⟩
      simp +decide (disch := omega) only [Tr.get_put,up_ne,if_true,if_false]
    simp +decide (disch := omega) only [st_mov,st_bin,binAV,Tr.get_put,if_true,if_false,cond_true,nbeq,decide_true,eqK,kindNo,g7,hw,stp_n]
    refine ⟨m,by omega,_,_,_,_,_,_,rfl,by omega,?_,?_,?_,?_,?_,q0,q1,b3,fun r h => ?_⟩
    · rw [List.length_append]; simp only [List.length_cons,List.length_nil]; omega
    any_goals simp +decide (disch := omega) only [Tr.get_put,g2,g5,List.length_append,List.length_cons,List.length_nil,if_true,if_false,Nat.zero_add]
    rcases List.mem_append.1 h with h | h
    · exact hr r h
    · rw [List.mem_singleton.1 h]; exact ⟨x,hx,by rw [hst]; rfl⟩
theorem nets23 (T : TypD) (hp0 : 0 < T.pads.l.length) (hT : T.pads.l.length < 90000) (L : Sl Int) (hL : L.l.length < 9223372036854775808) : Ret (callN K2 50 (.fn t19 [] []) [.agg (tyC T),slV inC L] h0) (fun v h1 => ∃ l : List Nat,l.length = T.pads.l.length ∧ (∀ x ∈ l,x < 5) ∧ deep 8 h1 v = slV strC ⟨1,l.map net5⟩) := by
  have hs : ∀ xs,K2.sums t19 xs h0 = none := fun _ => rfl
  have hF : K2.funcs.get t19 = some c19 := rfl
  refine begin2 (hs _) hF fun fr t ga gb => ?_
  rw [c19_eq]
  simp only [tyC] at ga
  simp +decide (disch := omega) only [execA,opsA,wantedA,evalAll,evalA,oneA,st_mov,st_box,st_build,H.newB,setAt,fillA,cl_agg,cl_slV,St.put,Tr.get_put,if_true,if_false,cond_true,Nat.zero_add,up_succ,Bool.and_self,List.length,nbeq,nble,decide_true,Nat.reduceAdd,Option.map_some,ga,gb,kf2]
  generalize hit : iterA (execA K2 (callN K2 49) c19_l0) 100000 _ = o
  have ho : ∃ s,o = .exit 0 s ∧ NetsI T L 0 s := by
    rw [← hit]
    refine iter_rule (NetsI T L) (fun o => ∃ s,o = .exit 0 s ∧ NetsI T L 0 s) (fun m s h => nets_round T hT L hL m s h) 100000 T.pads.l.length _ ⟨_,2,_,0,.nils,[],rfl,by omega,by simp,?_,?_,?_,?_,?_,⟨0,Nat.zero_le _,?_⟩,.inl ⟨rfl,rfl,rfl⟩,fun _ h => absurd h List.not_mem_nil⟩ (by omega)
    all_goals simp +decide (disch := omega) only [Tr.get_put,if_true,if_false,List.length_nil]
  obtain ⟨s,rfl,hs⟩ := ho
  obtain ⟨fr,j,t,nb,pv,rs,rfl,hj,hk,g2,g5,g6,g7,a0,ad,hg,hr⟩ := hs
  simp +decide (disch := omega) only [st_mov,Tr.get_put,if_true,if_false,cond_true,decide_true,ret_iff,leaveA,dfrsA,resultA,resultsA,g6]
  obtain ⟨l,q1,q2,q3⟩ := NetsI_deep (nx := up .e j) (by omega) hg hr
  exact ⟨l,by omega,q2,q3⟩
theorem nets23_sum (T : TypD) (hp0 : 0 < T.pads.l.length) (hT : T.pads.l.length < 90000) (L : Sl Int) (hL : L.l.length < 9223372036854775808) : ∃ l : List Nat,l.length = T.pads.l.length ∧ (∀ x ∈ l,x < 5) ∧ ∀ h,K3.sums t19 [.agg (tyC T),slV inC L] h = some (slV strC ⟨1,l.map net5⟩) := by
  obtain ⟨v,h1,hc,l,q1,q2,hf⟩ := nets23 T hp0 hT L hL
  refine ⟨l,q1,q2,fun h => ?_⟩
  have := over_fz (fz := [t18,t19]) (dp := []) rfl hc (by simp only [frzs,frz_slV frz_in,frz,frz_ty,Bool.and_self]) (by rw [hf]; exact frz_slV frz_str _) h
  rw [hf] at this
  exact this
end Go.Abs.Sym
end
section
namespace Go.Abs.Sym
open Go.Abs.T
open Go.Proofs
theorem ld1_str (x : List Nat) (r : List AV) (h : H) : loadA h none (.rptr (strC x ++ r)) = some (.str x) := rfl
theorem strsV_eq (l : List (List Nat)) : strsV l = slV strC ⟨1,l⟩ := by
  rw [slV_rslc]
  have : l.map AV.str = l.flatMap strC := by
    induction l with
    | nil => rfl
    | cons a l ih => rw [List.map_cons,List.flatMap_cons,ih]; rfl
  rw [← this]
  rfl
theorem equal52 (a b : Sl (List Nat)) (hl : a.l.length < 90000) : Ret (callN K0 50 (.fn t37 [] []) [slV strC a,slV strC b] h0) (fun v _ => v = .bool (decide (a.l = b.l))) := by
  have hs : ∀ xs,K0.sums t37 xs h0 = none := fun _ => rfl
  have hF : K0.funcs.get t37 = some c37 := rfl
  refine begin2 (hs _) hF fun fr t ga gb => ?_
  rw [c37_eq]
  by_cases hn : a.l.length = b.l.length
  · have hne : eqI (.ofNat a.l.length) (.ofNat b.l.length) = true := by rw [eqI_dec,hn]; exact decide_eq_true rfl
    simp +decide only [execA,opsA,wantedA,evalAll,evalA,oneA,st_mov,st_bin,st_len,binAV,eqAV,St.put,Tr.get_put,if_true,if_false,cond_true,nbeq,decide_true,Bool.not_true,eqK,kindNo,leaveA,resultA,resultsA,Option.map_some,len_slV,hne,kf0,ga,gb]
    generalize hit : iterA (execA K0 (callN K0 49) c37_l0) 100000 _ = o
    have hq : (∃ fr h,o = .exit 0 ⟨fr,[],h,.no,none,t37⟩ ∧ a.l = b.l) ∨ (∃ fr h,o = .ret ⟨fr,[],h,.no,none,t37⟩ ∧ fr.get t4 = some (.bool false) ∧ a.l ≠ b.l) := by
      rw [← hit]
      refine iter_rule (fun m s => ∃ fr h k,s = ⟨fr,[],h,.no,none,t37⟩ ∧ k + m = a.l.length ∧ a.l.take k = b.l.take k ∧ fr.get t0 = some (slV strC a) ∧ fr.get t1 = some (slV strC b) ∧ fr.get t11 = some (slV strC a) ∧ fr.get t12 = some (.int .i64 (.ofNat a.l.length)) ∧ fr.get t13 = some (.int .i64 (.ofNat k)))
        (fun o => (∃ fr h,o = .exit 0 ⟨fr,[],h,.no,none,t37⟩ ∧ a.l = b.l) ∨ (∃ fr h,o = .ret ⟨fr,[],h,.no,none,t37⟩ ∧ fr.get t4 = some (.bool false) ∧ a.l ≠ b.l)) ?_ 100000 a.l.length _ ?_ (by omega)
      · rintro m s ⟨fr,h,k,rfl,hk,hpre,g0,g1,g11,g12,g13⟩
        cases m with
        | zero =>
          have hkn : (k < a.l.length) = False := eq_false (by omega)
          simp +decide only [c37_l0,execA,opsA,wantedA,evalAll,evalA,oneA,st_bin,binAV,St.put,Tr.get_put,if_true,cond_true,nbeq,decide_true,decide_false,eqK,kindNo,g12,g13,ltI_dec,hkn,stp_e]
          refine .inl ⟨_,_,rfl,?_⟩
          rwa [List.take_of_length_le (by omega),List.take_of_length_le (by omega)] at hpre
        | succ m =>
          have hkn : (k < a.l.length) = True := eq_true (by omega)
          obtain ⟨x,hka⟩ : ∃ x,a.l[k]? = some x := ⟨_,List.getElem?_eq_getElem (by omega)⟩
          obtain ⟨y,hkb⟩ : ∃ y,b.l[k]? = some y := ⟨_,List.getElem?_eq_getElem (by omega)⟩
          have ia := at_slV (f := strC) (sz := 1) len_str (by decide) hka
          have ib := at_slV (f := strC) (sz := 1) len_str (by decide) hkb
          have hw := wr_add k 1 (by omega)
          by_cases he : x = y
          · simp +decide only [c37_l0,execA,opsA,wantedA,evalAll,evalA,oneA,dregA,dopsA,dstep,isMaker,withP_nil,takesP_nil,leavesP_nil,rd_mov,rd_load,rd_bin,rd_indexAddr,st_mov,st_load,st_bin,st_indexAddr,binAV,eqAV,St.put,Tr.get_put,if_true,if_false,cond_true,cond_false,Nat.zero_add,skip_up0,List.length,seesHeap,quiet,nbeq,decide_true,Nat.reduceAdd,Bool.and_false,Bool.or_true,Bool.not_true,List.all,eqK,kindNo,Option.map_some,g0,g1,g12,g13,ltI_dec,hkn,ia,ib,ld1_str,eqS_dec,he,hw,stp_n]
            refine ⟨m,by omega,_,_,k + 1,rfl,by omega,?_,?_,?_,?_,?_,?_⟩
            · rw [List.take_add_one,List.take_add_one,hpre,hka,hkb,he]
            all_goals simp +decide only [Tr.get_put,g0,g1,g11,g12,if_true,if_false]
          · simp +decide only [c37_l0,execA,opsA,wantedA,evalAll,evalA,oneA,dregA,dopsA,dstep,isMaker,withP_nil,takesP_nil,leavesP_nil,rd_mov,rd_load,rd_bin,rd_indexAddr,st_mov,st_load,st_bin,st_indexAddr,binAV,eqAV,St.put,Tr.get_put,if_true,if_false,cond_true,cond_false,Nat.zero_add,skip_up0,List.length,seesHeap,quiet,nbeq,decide_true,decide_false,Nat.reduceAdd,Bool.and_false,Bool.or_true,Bool.not_false,List.all,eqK,kindNo,Option.map_some,g0,g1,g12,g13,ltI_dec,hkn,ia,ib,ld1_str,eqS_dec,he,stp_r]
            refine .inr ⟨_,_,rfl,by simp +decide only [Tr.get_put,if_true,reduceIte],fun e => he ?_⟩
            rw [e,hkb] at hka
            exact (Option.some.inj hka).symm
      · refine ⟨_,_,0,rfl,by omega,rfl,?_,?_,?_,?_,?_⟩ <;> simp +decide only [Tr.get_put,ga,gb,if_true,if_false]
    rcases hq with ⟨fr,h,rfl,hab⟩ | ⟨fr,h,rfl,h4,hab⟩
    · simp +decide only [Tr.get_put,if_true,cond_true,decide_true,ret_iff,dfrsA,hab]
    · simp +decide only [decide_false,ret_iff,dfrsA,hab,h4]
  · have hne : eqI (.ofNat a.l.length) (.ofNat b.l.length) = false := by rw [eqI_dec]; exact decide_eq_false (fun h => hn (Int.ofNat.inj h))
    have hab : (a.l = b.l) = False := eq_false (fun h => hn (by rw [h]))
    simp +decide only [execA,opsA,wantedA,evalAll,evalA,oneA,st_mov,st_bin,st_len,binAV,eqAV,St.put,Tr.get_put,if_true,if_false,cond_true,nbeq,decide_true,decide_false,Bool.not_false,eqK,kindNo,ret_iff,leaveA,dfrsA,resultA,resultsA,Option.map_some,len_slV,hne,hab,ga,gb]
theorem equal52_sum (a b : Sl (List Nat)) (hl : a.l.length < 90000) (h : H) : K1.sums t37 [slV strC a,slV strC b] h = some (.bool (decide (a.l = b.l))) := by
  obtain ⟨v,h1,hc,hv⟩ := equal52 a b hl
  rw [hv] at hc
  exact over_fz' rfl hc (by simp only [frzs,frz_slV frz_str,Bool.and_self]) rfl h
theorem less55 (a : Sl (List Nat)) (hl : a.l.length < 90000) : Ret (callN K0 50 (.fn t36 [] []) [slV strC a,slV strC a] h0) (fun v _ => v = .bool false) := by
  have hs : ∀ xs,K0.sums t36 xs h0 = none := fun _ => rfl
  have hF : K0.funcs.get t36 = some c36 := rfl
  refine begin2 (hs _) hF fun fr t ga gb => ?_
  rw [c36_eq]
  simp +decide only [execA,opsA,wantedA,evalAll,evalA,oneA,st_mov,St.put,nbeq,leaveA,resultA,resultsA,kf0]
  generalize hit : iterA (execA K0 (callN K0 49) c36_l0) 100000 _ = o
  have hq : ∃ fr h,o = .exit 0 ⟨fr,[],h,.no,none,t36⟩ ∧ fr.get t0 = some (slV strC a) ∧ fr.get t1 = some (slV strC a) := by
    rw [← hit]
    refine iter_rule (fun m s => ∃ fr h k,s = ⟨fr,[],h,.no,none,t36⟩ ∧ k + m = a.l.length ∧ fr.get t0 = some (slV strC a) ∧ fr.get t1 = some (slV strC a) ∧ fr.get t5 = some (.int .i64 (.ofNat k)))
      (fun o => ∃ fr h,o = .exit 0 ⟨fr,[],h,.no,none,t36⟩ ∧ fr.get t0 = some (slV strC a) ∧ fr.get t1 = some (slV strC a)) ?_ 100000 a.l.length _ ?_ (by omega)
    · rintro m s ⟨fr,h,k,rfl,hk,g0,g1,g5⟩
      cases m with
      | zero =>
        have hkn : (k < a.l.length) = False := eq_false (by omega)
        simp +decide only [c36_l0,execA,opsA,wantedA,evalAll,evalA,oneA,st_mov,st_bin,st_pick,st_len,binAV,St.put,Tr.get_put,if_true,if_false,cond_true,cond_false,nbeq,decide_true,decide_false,eqK,kindNo,beq_t,g0,g5,len_slV,ltI_dec,hkn,stp_e]
        refine ⟨_,_,rfl,?_,?_⟩ <;> simp +decide only [Tr.get_put,g0,g1,if_false]
      | succ m =>
        have hkn : (k < a.l.length) = True := eq_true (by omega)
        obtain ⟨x,hka⟩ : ∃ x,a.l[k]? = some x := ⟨_,List.getElem?_eq_getElem (by omega)⟩
        have ia := at_slV (f := strC) (sz := 1) len_str (by decide) hka
        have hw := wr_add k 1 (by omega)
        simp +decide only [c36_l0,execA,opsA,wantedA,evalAll,evalA,oneA,dregA,dopsA,dstep,isMaker,withP_nil,takesP_nil,leavesP_nil,rd_mov,rd_load,rd_bin,rd_indexAddr,st_mov,st_load,st_bin,st_indexAddr,st_pick,st_len,binAV,eqAV,St.put,Tr.get_put,if_true,if_false,cond_true,cond_false,Nat.zero_add,skip_up0,List.length,seesHeap,quiet,nbeq,decide_true,Nat.reduceAdd,Bool.and_false,Bool.or_true,Bool.not_true,List.all,eqK,kindNo,Option.map_some,beq_self_eq_true,g0,g1,g5,len_slV,ltI_dec,hkn,ia,ld1_str,eqS_dec,hw,stp_n]
        refine ⟨m,by omega,_,_,k + 1,rfl,by omega,?_,?_,?_⟩ <;> simp +decide only [Tr.get_put,g0,g1,if_true,if_false]
    · refine ⟨_,_,0,rfl,by omega,?_,?_,?_⟩ <;> simp +decide only [Tr.get_put,ga,gb,if_true,if_false]
  obtain ⟨fr,h,rfl,g0,g1⟩ := hq
  have hkn : (a.l.length < a.l.length) = False := eq_false (by omega)
  simp +decide only [st_mov,st_bin,st_len,binAV,Tr.get_put,if_true,if_false,cond_true,nbeq,decide_true,decide_false,eqK,kindNo,ret_iff,dfrsA,g0,g1,len_slV,ltI_dec,hkn]
theorem less55_sum (a : Sl (List Nat)) (hl : a.l.length < 90000) (h : H) : K1.sums t36 [slV strC a,slV strC a] h = some (.bool false) := by
  obtain ⟨v,h1,hc,hv⟩ := less55 a hl
  rw [hv] at hc
  exact over_fz' rfl hc (by simp only [frzs,frz_slV frz_str,Bool.and_self]) rfl h
theorem same19 (a : Sl (List Nat)) (hl : a.l.length < 90000) : Ret (callN K1 50 (.fn t11 [] []) [slV strC a,slV strC a] h0) (fun v _ => v = .bool true) := by
  have hs : ∀ xs,K1.sums t11 xs h0 = none := fun _ => rfl
  have hF : K1.funcs.get t11 = some c11 := rfl
  refine begin2 (hs _) hF fun fr t ga gb => ?_
  have c1 : ∀ h,callN K1 49 (g t36) [slV strC a,slV strC a] h = .ret (.bool false) h := fun h => call_sum (less55_sum a hl h)
  simp +decide only [c11,execA,opsA,wantedA,evalAll,evalA,oneA,st_mov,st_not,st_call,st_pick,St.put,Tr.get_put,if_true,if_false,cond_true,Bool.not_false,ret_iff,leaveA,dfrsA,resultA,resultsA,beq_self_eq_true,ga,gb,c1]
theorem same19_sum (a : Sl (List Nat)) (hl : a.l.length < 90000) (h : H) : K2.sums t11 [slV strC a,slV strC a] h = some (.bool true) := by
  obtain ⟨v,h1,hc,hv⟩ := same19 a hl
  rw [hv] at hc
  exact over_fz' rfl hc (by simp only [frzs,frz_slV frz_str,Bool.and_self]) rfl h
theorem lt_total : ∀ a b : List Nat,(!(bytesLt a b || eqS a b)) = bytesLt b a
  | [],[] => rfl
  | [],_ :: _ => rfl
  | _ :: _,[] => rfl
  | a :: x,b :: y => by
    have ih := lt_total x y
    simp only [bytesLt,eqS]
    by_cases h : a = b
    · subst h
      have h1 : Nat.blt a a = false := by rw [Nat.blt,nble]; exact decide_eq_false (by omega)
      have h2 : Nat.beq a a = true := by rw [nbeq]; exact decide_eq_true rfl
      simp only [h1,h2,Bool.false_or,Bool.true_and,cond_true]
      exact ih
    · have h2 : Nat.beq a b = false := by rw [nbeq]; exact decide_eq_false h
      have h3 : Nat.beq b a = false := by rw [nbeq]; exact decide_eq_false (fun e => h e.symm)
      simp only [h2,h3,Bool.false_and,Bool.or_false,cond_false]
      by_cases hl : a < b
      · have e1 : Nat.blt a b = true := by rw [Nat.blt,nble]; exact decide_eq_true (by omega)
        have e2 : Nat.blt b a = false := by rw [Nat.blt,nble]; exact decide_eq_false (by omega)
        rw [e1,e2]; rfl
      · have e1 : Nat.blt a b = false := by rw [Nat.blt,nble]; exact decide_eq_false (by omega)
        have e2 : Nat.blt b a = true := by rw [Nat.blt,nble]; exact decide_eq_true (by omega)
        rw [e1,e2]; rfl
theorem nan144 (n : Nat) (a : List Nat) (h : H) : callN K0 (n + 1) (g t125) [.str a] h = .ret (.bool false) h := by
  rw [call_fn (F := c125) rfl rfl]
  simp +decide only [c125,execA,opsA,wantedA,evalAll,evalA,oneA,st_mov,st_bin,binAV,eqAV,St.put,Tr.get_put,frameOf,List.nil_append,List.append_nil,if_true,if_false,decide_true,Bool.not_true,leaveA,dfrsA,resultA,resultsA,Option.map_some,frameOf,List.nil_append,List.append_nil,eqS_dec,decide_true]
theorem cmp100 (n : Nat) (a b : List Nat) (h : H) : callN K0 (n + 2) (g t83) [.str a,.str b] h = .ret (.int .i64 (cmpS a b)) h := by
  rw [call_fn (F := c83) rfl rfl]
  have n1 := fun h => nan144 n a h
  have n2 := fun h => nan144 n b h
  have ht := lt_total a b
  cases h1 : bytesLt a b with
  | true =>
    simp +decide only [c83,execA,opsA,wantedA,evalAll,evalA,oneA,st_mov,st_bin,st_call,binAV,St.put,Tr.get_put,frameOf,Pth.succ,List.nil_append,List.append_nil,if_true,if_false,cond_true,leaveA,dfrsA,resultA,resultsA,frameOf,Pth.succ,List.nil_append,List.append_nil,n1,n2,h1,cmpS]
    rfl
  | false =>
    rw [h1] at ht
    cases h2 : bytesLt b a with
    | true =>
      have h3 : eqS a b = false := by
        rw [h2] at ht
        cases h : eqS a b with
        | false => rfl
        | true => rw [h] at ht; cases ht
      simp +decide only [c83,execA,opsA,wantedA,evalAll,evalA,oneA,st_mov,st_bin,st_call,binAV,St.put,Tr.get_put,frameOf,Pth.succ,List.nil_append,List.append_nil,if_true,if_false,cond_true,cond_false,Bool.or_false,Bool.not_false,leaveA,dfrsA,resultA,resultsA,frameOf,Pth.succ,List.nil_append,List.append_nil,n1,n2,h1,h2,h3,cmpS]
      first | done | rfl
    | false =>
      have h3 : eqS a b = true := by
        rw [h2] at ht
        cases h : eqS a b with
        | true => rfl
        | false => rw [h] at ht; cases ht
      simp +decide only [c83,execA,opsA,wantedA,evalAll,evalA,oneA,st_mov,st_bin,st_call,binAV,St.put,Tr.get_put,frameOf,Pth.succ,List.nil_append,List.append_nil,if_true,if_false,cond_false,Bool.or_true,Bool.not_true,leaveA,dfrsA,resultA,resultsA,frameOf,Pth.succ,List.nil_append,List.append_nil,n1,n2,h1,h2,h3,cmpS]
      first | done | rfl
theorem leI_dec (a b : Nat) : leI (.ofNat a) (.ofNat b) = decide (a ≤ b) := by
  show Nat.ble a b = _
  exact nble a b
theorem compare70 (a b : Sl (List Nat)) (hl : a.l.length < 90000) : Ret (callN K0 50 (.fn t59 [] []) [slV strC a,slV strC b] h0) (fun v _ => v = .int .i64 (cmpL a.l b.l)) := by
  have hs : ∀ xs,K0.sums t59 xs h0 = none := fun _ => rfl
  have hF : K0.funcs.get t59 = some c59 := rfl
  refine begin2 (hs _) hF fun fr t ga gb => ?_
  rw [c59_eq]
  simp +decide only [execA,opsA,wantedA,evalAll,evalA,oneA,st_mov,st_len,St.put,Tr.get_put,if_true,if_false,nbeq,leaveA,resultA,resultsA,len_slV,kf0,ga]
  generalize hit : iterA (execA K0 (callN K0 49) c59_l0) 100000 _ = o
  have hq : (∃ fr h,o = .exit 0 ⟨fr,[],h,.no,none,t59⟩ ∧ fr.get t0 = some (slV strC a) ∧ fr.get t1 = some (slV strC b) ∧ a.l.length ≤ b.l.length ∧ cmpL [] (b.l.drop a.l.length) = cmpL a.l b.l) ∨ (∃ fr h,o = .ret ⟨fr,[],h,.no,none,t59⟩ ∧ fr.get t4 = some (.int .i64 (cmpL a.l b.l))) := by
    rw [← hit]
    refine iter_rule (fun m s => ∃ fr h k,s = ⟨fr,[],h,.no,none,t59⟩ ∧ k + m = a.l.length ∧ k ≤ b.l.length ∧ cmpL (a.l.drop k) (b.l.drop k) = cmpL a.l b.l ∧ fr.get t0 = some (slV strC a) ∧ fr.get t1 = some (slV strC b) ∧ fr.get t9 = some (slV strC a) ∧ fr.get t10 = some (.int .i64 (.ofNat a.l.length)) ∧ fr.get t11 = some (.int .i64 (.ofNat k)))
      (fun o => (∃ fr h,o = .exit 0 ⟨fr,[],h,.no,none,t59⟩ ∧ fr.get t0 = some (slV strC a) ∧ fr.get t1 = some (slV strC b) ∧ a.l.length ≤ b.l.length ∧ cmpL [] (b.l.drop a.l.length) = cmpL a.l b.l) ∨ (∃ fr h,o = .ret ⟨fr,[],h,.no,none,t59⟩ ∧ fr.get t4 = some (.int .i64 (cmpL a.l b.l)))) ?_ 100000 a.l.length _ ?_ (by omega)
    · rintro m s ⟨fr,h,k,rfl,hk,hkb,hpre,g0,g1,g9,g10,g11⟩
      cases m with
      | zero =>
        have hkn : (k < a.l.length) = False := eq_false (by omega)
        have hke : k = a.l.length := by omega
        simp +decide only [c59_l0,execA,opsA,wantedA,evalAll,evalA,oneA,st_bin,binAV,St.put,Tr.get_put,if_true,cond_true,nbeq,decide_true,decide_false,eqK,kindNo,g10,g11,ltI_dec,hkn,stp_e]
        refine .inl ⟨_,_,rfl,?_,?_,by omega,?_⟩
        · simp +decide only [Tr.get_put,g0,if_false]
        · simp +decide only [Tr.get_put,g1,if_false]
        · rw [hke,List.drop_length] at hpre
          exact hpre
      | succ m =>
        have hkn : (k < a.l.length) = True := eq_true (by omega)
        obtain ⟨x,hka⟩ : ∃ x,a.l[k]? = some x := ⟨_,List.getElem?_eq_getElem (by omega)⟩
        have ia := at_slV (f := strC) (sz := 1) len_str (by decide) hka
        have hw := wr_add k 1 (by omega)
        have hda : a.l.drop k = x :: a.l.drop (k + 1) := by
          rw [List.drop_eq_getElem_cons (by omega),(List.getElem?_eq_some_iff.1 hka).2]
        by_cases hb : k < b.l.length
        · have hbn : (b.l.length ≤ k) = False := eq_false (by omega)
          obtain ⟨y,hkb⟩ : ∃ y,b.l[k]? = some y := ⟨_,List.getElem?_eq_getElem hb⟩
          have ib := at_slV (f := strC) (sz := 1) len_str (by decide) hkb
          have hdb : b.l.drop k = y :: b.l.drop (k + 1) := by
            rw [List.drop_eq_getElem_cons hb,(List.getElem?_eq_some_iff.1 hkb).2]
          have hc := fun h => cmp100 47 x y h
          rw [hda,hdb,cmpL] at hpre
          by_cases he : cmpS x y = 0
          · rw [if_pos he] at hpre
            simp +decide only [c59_l0,execA,opsA,wantedA,evalAll,evalA,oneA,st_mov,st_load,st_bin,st_call,st_indexAddr,st_len,binAV,eqAV,St.put,Tr.get_put,if_true,if_false,cond_true,nbeq,decide_true,decide_false,Bool.not_true,eqK,kindNo,Option.map_some,g1,g9,g10,g11,len_slV,ltI_dec,leI_dec,hkn,hbn,ia,ib,ld1_str,hc,eqI_dec,he,hw,stp_n]
            refine ⟨m,by omega,_,_,k + 1,rfl,by omega,by omega,hpre,?_,?_,?_,?_,?_⟩
            all_goals simp +decide only [Tr.get_put,g0,g1,g9,g10,if_true,if_false]
          · rw [if_neg he] at hpre
            have he' : (cmpS x y = Int.ofNat 0) = False := eq_false he
            simp +decide only [c59_l0,execA,opsA,wantedA,evalAll,evalA,oneA,st_mov,st_load,st_bin,st_call,st_indexAddr,st_len,binAV,eqAV,St.put,Tr.get_put,if_true,if_false,cond_true,nbeq,decide_true,decide_false,Bool.not_false,eqK,kindNo,Option.map_some,g1,g9,g10,g11,len_slV,ltI_dec,leI_dec,hkn,hbn,ia,ib,ld1_str,hc,eqI_dec,he',stp_r]
            refine .inr ⟨_,_,rfl,?_⟩
            simp +decide only [Tr.get_put,hpre,if_true,if_false]
        · have hbn : (b.l.length ≤ k) = True := eq_true (by omega)
          rw [hda,show b.l.drop k = [] from List.drop_eq_nil_of_le (by omega),cmpL] at hpre
          simp +decide only [c59_l0,execA,opsA,wantedA,evalAll,evalA,oneA,st_mov,st_load,st_bin,st_indexAddr,st_len,binAV,St.put,Tr.get_put,if_true,if_false,cond_true,nbeq,decide_true,eqK,kindNo,g1,g9,g10,g11,len_slV,ltI_dec,leI_dec,hkn,hbn,ia,ld1_str,stp_r]
          refine .inr ⟨_,_,rfl,?_⟩
          simp +decide only [Tr.get_put,← hpre,if_true,if_false]
          rfl
    · refine ⟨_,_,0,rfl,by omega,by omega,rfl,?_,?_,?_,?_,?_⟩ <;> simp +decide only [Tr.get_put,ga,gb,if_true,if_false]
  rcases hq with ⟨fr,h,rfl,g0,g1,hle,hab⟩ | ⟨fr,h,rfl,h4⟩
  · by_cases hlt : a.l.length < b.l.length
    · have hn : cmpL a.l b.l = -1 := by
        rw [← hab,List.drop_eq_getElem_cons hlt,cmpL]
      have hkn : (a.l.length < b.l.length) = True := eq_true hlt
      simp +decide only [st_mov,st_bin,st_len,binAV,Tr.get_put,if_true,if_false,cond_true,nbeq,decide_true,eqK,kindNo,ret_iff,dfrsA,g0,g1,len_slV,ltI_dec,hkn,hn]
      rfl
    · have hn : cmpL a.l b.l = 0 := by
        rw [← hab,List.drop_eq_nil_of_le (by omega),cmpL]
      have hkn : (a.l.length < b.l.length) = False := eq_false hlt
      simp +decide only [st_mov,st_bin,st_len,binAV,Tr.get_put,if_true,if_false,cond_true,nbeq,decide_true,decide_false,eqK,kindNo,ret_iff,dfrsA,g0,g1,len_slV,ltI_dec,hkn,hn]
      rfl
  · simp +decide only [ret_iff,dfrsA,h4]
end Go.Abs.Sym
end
section
namespace Go.Abs.Sym
open Go.Abs.T
def nthS : List (List Nat) → Nat → List Nat
  | [],_ => []
  | a :: _,0 => a
  | _ :: l,n + 1 => nthS l n
def setS : List (List Nat) → Nat → List Nat → List (List Nat)
  | [],_,_ => []
  | _ :: l,0,x => x :: l
  | a :: l,n + 1,x => a :: setS l n x
def takeS (r : List (List Nat)) (ps : List Nat) : List (List Nat) := ps.map (nthS r)
def putS : List (List Nat) → List Nat → List (List Nat) → List (List Nat)
  | r,p :: ps,x :: xs => putS (setS r p x) ps xs
  | r,_,_ => r
def putSs : List (List Nat) → List (List Nat) → List (List (List Nat)) → List (List Nat)
  | r,p :: ps,x :: xs => putSs (putS r p x) ps xs
  | r,_,_ => r
def insS (x : List (List Nat)) : List (List (List Nat)) → List (List (List Nat)) → List (List (List Nat))
  | [],after => x :: after
  | y :: ys,after => if cmpL x y = -1 then insS x ys (y :: after) else ys.reverse ++ y :: x :: after
def sortS : List (List (List Nat)) → List (List (List Nat)) → List (List (List Nat))
  | [],done => done
  | x :: xs,done => sortS xs (insS x done.reverse [])
def sortedS (ps : List (List Nat)) (r : List (List Nat)) : List (List Nat) := putSs r ps (sortS (ps.map (takeS r)) [])
def legsP (g : Nat × List (Nat × Nat)) : List (List Nat) := (g.2.filter (fun l => Nat.beq l.2 1)).map (fun l => [l.1])
def kindP (n : Nat) (gs : List (Nat × List (Nat × Nat))) : List (List Nat) := (gs.filter (fun g => Nat.beq g.1 n)).map (fun g => g.2.map (·.1))
def legsS : List (Nat × List (Nat × Nat)) → List (List Nat) → List (List Nat)
  | [],r => r
  | g :: gs,r => legsS gs (sortedS (legsP g) r)
def canonS (g : Nat) (l : List (List Nat)) : List (List Nat) := sortedS (kindP 2 (gtOf g)) (sortedS (kindP 1 (gtOf g)) (legsS (gtOf g) l))
section
variable (σ : Nat → List Nat)
def insT (x : List Nat) : List (List Nat) → List (List Nat) → List (List Nat)
  | [],after => x :: after
  | y :: ys,after => if cmpL (x.map σ) (y.map σ) = -1 then insT x ys (y :: after) else ys.reverse ++ y :: x :: after
def sortT : List (List Nat) → List (List Nat) → List (List Nat)
  | [],done => done
  | x :: xs,done => sortT xs (insT σ x done.reverse [])
theorem insDT_eval (x : List Nat) (k : List (List Nat) → DT) : ∀ ys after,(insDT x ys after k).eval σ = (k (insT σ x ys after)).eval σ
  | [],after => rfl
  | y :: ys,after => by
    simp only [insDT,DT.eval,insT]
    by_cases h : cmpL (x.map σ) (y.map σ) = -1
    · rw [if_pos h,if_pos h]
      exact insDT_eval x k ys (y :: after)
    · rw [if_neg h,if_neg h]
      split <;> rfl
theorem sortDT_eval (k : List (List Nat) → DT) : ∀ xs done,(sortDT xs done k).eval σ = (k (sortT σ xs done)).eval σ
  | [],done => rfl
  | x :: xs,done => by
    simp only [sortDT,sortT]
    rw [insDT_eval]
    exact sortDT_eval k xs _
theorem insT_map (x : List Nat) : ∀ ys after,(insT σ x ys after).map (List.map σ) = insS (x.map σ) (ys.map (List.map σ)) (after.map (List.map σ))
  | [],after => rfl
  | y :: ys,after => by
    simp only [insT,insS,List.map_cons]
    by_cases h : cmpL (x.map σ) (y.map σ) = -1
    · rw [if_pos h,if_pos h,insT_map x ys (y :: after)]
      rfl
    · rw [if_neg h,if_neg h,List.map_append,List.map_reverse]
      rfl
theorem sortT_map : ∀ xs done,(sortT σ xs done).map (List.map σ) = sortS (xs.map (List.map σ)) (done.map (List.map σ))
  | [],done => rfl
  | x :: xs,done => by
    simp only [sortT,sortS,List.map_cons]
    rw [sortT_map xs _,insT_map,List.map_reverse]
    rfl
theorem nthS_map : ∀ (r : List Nat) (p : Nat),p < r.length → nthS (r.map σ) p = σ (nthN r p)
  | [],_p,h => absurd h (Nat.not_lt_zero _)
  | _a :: _r,0,_ => rfl
  | _a :: r,p + 1,h => nthS_map r p (Nat.lt_of_succ_lt_succ h)
theorem setS_map : ∀ (r : List Nat) (p x : Nat),(setN r p x).map σ = setS (r.map σ) p (σ x)
  | [],p,x => rfl
  | a :: r,0,x => rfl
  | a :: r,p + 1,x => by simp only [setN,List.map_cons,setS,setS_map r p x]
theorem len_setN : ∀ (r : List Nat) (p x : Nat),(setN r p x).length = r.length
  | [],p,x => rfl
  | a :: r,0,x => rfl
  | a :: r,p + 1,x => by simp only [setN,List.length_cons,len_setN r p x]
theorem putS_map : ∀ (ps : List Nat) (r xs : List Nat),(putL r ps xs).map σ = putS (r.map σ) ps (xs.map σ) ∧ (putL r ps xs).length = r.length
  | [],r,xs => by cases xs <;> exact ⟨rfl,rfl⟩
  | p :: ps,r,[] => ⟨rfl,rfl⟩
  | p :: ps,r,x :: xs => by
    obtain ⟨h1,h2⟩ := putS_map ps (setN r p x) xs
    rw [len_setN] at h2
    rw [setS_map] at h1
    exact ⟨h1,h2⟩
theorem putSs_map : ∀ (ps : List (List Nat)) (r : List Nat) (xs : List (List Nat)),(putLs r ps xs).map σ = putSs (r.map σ) ps (xs.map (List.map σ)) ∧ (putLs r ps xs).length = r.length
  | [],r,xs => by cases xs <;> exact ⟨rfl,rfl⟩
  | p :: ps,r,[] => ⟨rfl,rfl⟩
  | p :: ps,r,x :: xs => by
    obtain ⟨h0,h0'⟩ := putS_map σ p r x
    obtain ⟨h1,h2⟩ := putSs_map ps (putL r p x) xs
    rw [h0'] at h2
    rw [h0] at h1
    exact ⟨h1,h2⟩
theorem sorted_eval {ps : List (List Nat)} {r : List Nat} (hp : ∀ p ∈ ps,∀ i ∈ p,i < r.length) (k : List Nat → DT) :
    ∃ r',(sortedDT ps r k).eval σ = (k r').eval σ ∧ r'.map σ = sortedS ps (r.map σ) ∧ r'.length = r.length := by
  refine ⟨_,sortDT_eval σ _ _ _,?_,(putSs_map σ ps r _).2⟩
  rw [(putSs_map σ ps r _).1,sortT_map]
  have h : (ps.map (takeL r)).map (List.map σ) = ps.map (takeS (r.map σ)) := by
    rw [List.map_map]
    refine List.map_congr_left fun p hpm => ?_
    simp only [Function.comp,takeL,takeS,List.map_map]
    exact List.map_congr_left fun i hi => (nthS_map σ r i (hp p hpm i hi)).symm
  rw [h]
  rfl
def inR (m : Nat) (gs : List (Nat × List (Nat × Nat))) : Prop := ∀ g ∈ gs,∀ l ∈ g.2,l.1 < m
theorem legs_eval : ∀ (gs : List (Nat × List (Nat × Nat))) (r : List Nat) (k : List Nat → DT),inR r.length gs → ∃ r',(legsDT gs r k).eval σ = (k r').eval σ ∧ r'.map σ = legsS gs (r.map σ) ∧ r'.length = r.length
  | [],r,k,_ => ⟨r,rfl,rfl,rfl⟩
  | g :: gs,r,k,h => by
    obtain ⟨r1,h1,h2,h3⟩ := sorted_eval σ (ps := legsP g) (r := r) (fun p hp i hi => by
      obtain ⟨l,hl,rfl⟩ := List.mem_map.1 hp
      rw [List.mem_singleton.1 hi]
      exact h g List.mem_cons_self l (List.mem_filter.1 hl).1) (fun r => legsDT gs r k)
    obtain ⟨r2,e1,e2,e3⟩ := legs_eval gs r1 k (fun x hx l hl => by rw [h3]; exact h x (List.mem_cons_of_mem _ hx) l hl)
    exact ⟨r2,h1.trans e1,by rw [e2,h2]; rfl,e3.trans h3⟩
theorem kind_eval (n : Nat) (gs : List (Nat × List (Nat × Nat))) (r : List Nat) (k : List Nat → DT) (h : inR r.length gs) : ∃ r',(kindDT n gs r k).eval σ = (k r').eval σ ∧ r'.map σ = sortedS (kindP n gs) (r.map σ) ∧ r'.length = r.length :=
  sorted_eval σ (fun p hp i hi => by
    obtain ⟨g,hg,rfl⟩ := List.mem_map.1 hp
    obtain ⟨l,hl,rfl⟩ := List.mem_map.1 hi
    exact h g (List.mem_filter.1 hg).1 l hl) k
theorem canon_eval {m g : Nat} (hr : inR (rngL m).length (gtOf g)) : ((kindT g ((legsT m g).eval σ)).eval σ).map σ = canonS g ((rngL m).map σ) := by
  obtain ⟨r1,h1,h2,h3⟩ := legs_eval σ (gtOf g) (rngL m) .leaf hr
  have e1 : (legsT m g).eval σ = r1 := h1
  rw [e1]
  obtain ⟨r2,k1,k2,k3⟩ := kind_eval σ 1 (gtOf g) r1 (fun r => kindDT 2 (gtOf g) r .leaf) (by rw [h3]; exact hr)
  obtain ⟨r3,q1,q2,q3⟩ := kind_eval σ 2 (gtOf g) r2 .leaf (by rw [k3,h3]; exact hr)
  have e2 : (kindT g r1).eval σ = r3 := k1.trans q1
  rw [e2,q2,k2,h2]
  rfl
end
end Go.Abs.Sym
end
section
namespace Go.Abs.Sym
open Go.Abs.T
theorem bytesLt_iff : ∀ {a b : List Nat},bytesLt a b = true ↔ a < b
  | [],[] => by simp [bytesLt]
  | [],_ :: _ => by simp [bytesLt]
  | _ :: _,[] => by simp [bytesLt]
  | a :: x,b :: y => by
    have ih := bytesLt_iff (a := x) (b := y)
    simp only [bytesLt,Bool.or_eq_true,Bool.and_eq_true,Nat.blt,nble,nbeq,decide_eq_true_eq,ih,List.cons_lt_cons_iff]
    constructor
    · rintro (h | h)
      · exact .inl h
      · exact .inr h
    · rintro (h | h)
      · exact .inl h
      · exact .inr h
theorem cmpS_iff (a b : List Nat) : (cmpS a b = -1 ↔ a < b) ∧ (cmpS a b = 0 ↔ a = b) ∧ (cmpS a b = 1 ↔ b < a) := by
  have f : ∀ {a b : List Nat},¬ a < b → bytesLt a b = false := fun {a b} h => by
    cases hb : bytesLt a b with
    | false => rfl
    | true => exact absurd (bytesLt_iff.1 hb) h
  by_cases h1 : a < b
  · have e : cmpS a b = -1 := by simp only [cmpS,bytesLt_iff.2 h1,cond_true]
    rw [e]
    exact ⟨iff_of_true rfl h1,iff_of_false (by decide) (fun e => by rw [e] at h1; exact List.lt_irrefl _ h1),iff_of_false (by decide) (List.lt_asymm h1)⟩
  · by_cases h2 : b < a
    · have e : cmpS a b = 1 := by simp only [cmpS,f h1,bytesLt_iff.2 h2,cond_true,cond_false]
      rw [e]
      exact ⟨iff_of_false (by decide) h1,iff_of_false (by decide) (fun e => by rw [e] at h2; exact List.lt_irrefl _ h2),iff_of_true rfl h2⟩
    · have e : cmpS a b = 0 := by simp only [cmpS,f h1,f h2,cond_false]
      rw [e]
      exact ⟨iff_of_false (by decide) h1,iff_of_true rfl (List.le_antisymm (List.not_lt.1 h2) (List.not_lt.1 h1)),iff_of_false (by decide) h2⟩
theorem cmpL_iff : ∀ (x y : List (List Nat)),(cmpL x y = -1 ↔ x < y) ∧ (cmpL x y = 0 ↔ x = y) ∧ (cmpL x y = 1 ↔ y < x)
  | [],[] => by simp [cmpL]
  | [],_ :: _ => by simp [cmpL]
  | _ :: _,[] => by simp [cmpL]
  | a :: x,b :: y => by
    obtain ⟨h1,h2,h3⟩ := cmpS_iff a b
    obtain ⟨i1,i2,i3⟩ := cmpL_iff x y
    simp only [cmpL,List.cons_lt_cons_iff,List.cons.injEq]
    by_cases h : cmpS a b = 0
    · have e := h2.1 h
      subst e
      simp only [h,if_true,i1,i2,i3,true_and,List.lt_irrefl,false_or,and_self]
    · rw [if_neg h]
      have hne : a ≠ b := fun e => h (h2.2 e)
      have hne' : b ≠ a := fun e => hne e.symm
      simp only [h1,h2,h3,hne,hne',false_and,or_false,and_self]
abbrev Ls := List (List Nat)
theorem tri (x y : Ls) : x < y ∨ x = y ∨ y < x := by
  rcases cmpL_cases x y with h | h | h
  · exact .inl ((cmpL_iff x y).1.1 h)
  · exact .inr (.inl ((cmpL_iff x y).2.1.1 h))
  · exact .inr (.inr ((cmpL_iff x y).2.2.1 h))
theorem sort2_eq (x y : Ls) : sortS [x,y] [] = if y < x then [y,x] else [x,y] := by
  simp only [sortS,insS,List.reverse_nil,List.reverse_cons,List.nil_append,(cmpL_iff y x).1]
theorem sort2_comm (x y : Ls) : sortS [x,y] [] = sortS [y,x] [] := by
  rw [sort2_eq,sort2_eq]
  rcases tri x y with h | h | h
  · rw [if_neg (List.lt_asymm h),if_pos h]
  · subst h; rfl
  · rw [if_pos h,if_neg (List.lt_asymm h)]
theorem sort3_eq (x y z : Ls) : sortS [x,y,z] [] = if y < x then (if z < x then (if z < y then [z,y,x] else [y,z,x]) else [y,x,z]) else (if z < y then (if z < x then [z,x,y] else [x,z,y]) else [x,y,z]) := by
  simp only [sortS,insS,List.reverse_nil,List.reverse_cons,List.nil_append,(cmpL_iff y x).1]
  split
  · simp only [List.reverse_cons,List.reverse_nil,List.nil_append,List.cons_append,insS,(cmpL_iff _ _).1]
    repeat (first | rfl | split)
  · simp only [List.reverse_cons,List.reverse_nil,List.nil_append,List.cons_append,insS,(cmpL_iff _ _).1]
    repeat (first | rfl | split)
theorem sort3_12 (x y z : Ls) : sortS [x,y,z] [] = sortS [y,x,z] [] := by
  rw [sort3_eq,sort3_eq]
  rcases tri x y with h | h | h
  · rw [if_neg (List.lt_asymm h),if_pos h]
  · subst h; rfl
  · rw [if_pos h,if_neg (List.lt_asymm h)]
theorem sort3_23 (x y z : Ls) : sortS [x,y,z] [] = sortS [x,z,y] [] := by
  rw [sort3_eq,sort3_eq]
  have tr : ∀ {a b c : Ls},a < b → b < c → a < c := fun h h' => List.lt_trans h h'
  have ir : ∀ {a : Ls},¬ a < a := fun {a} => List.lt_irrefl a
  have as' : ∀ {a b : Ls},a < b → ¬ b < a := fun h h' => ir (tr h h')
  rcases tri x y with h1 | h1 | h1 <;> rcases tri x z with h2 | h2 | h2 <;> rcases tri y z with h3 | h3 | h3
  all_goals try subst h1
  all_goals try subst h2
  all_goals try subst h3
  all_goals try (exact absurd h1 ir)
  all_goals try (exact absurd h2 ir)
  all_goals try (exact absurd h3 ir)
  all_goals first
    | rfl
    | simp only [if_pos, *,as' h1,as' h2,as' h3,if_false]; done
    | simp only [*,as' h1,as' h2,if_true,if_false]; done
    | simp only [*,as' h1,as' h3,if_true,if_false]; done
    | simp only [*,as' h2,as' h3,if_true,if_false]; done
    | exact absurd (tr h1 h3) (as' h2)
    | exact absurd (tr h3 h1) (as' h2)
    | exact absurd h3 (as' h1)
    | exact absurd h2 (as' h3)
    | exact absurd h3 (as' h2)
    | exact absurd h2 (as' h1)
def s2a (a b : List Nat) : List Nat := if ([b] : Ls) < [a] then b else a
def s2b (a b : List Nat) : List Nat := if ([b] : Ls) < [a] then a else b
theorem s2_comm (a b : List Nat) : s2a a b = s2a b a ∧ s2b a b = s2b b a := by
  unfold s2a s2b
  rcases tri [a] [b] with h | h | h
  · rw [if_neg (List.lt_asymm h),if_pos h,if_neg (List.lt_asymm h),if_pos h]
    exact ⟨rfl,rfl⟩
  · cases h
    exact ⟨rfl,rfl⟩
  · rw [if_pos h,if_neg (List.lt_asymm h),if_pos h,if_neg (List.lt_asymm h)]
    exact ⟨rfl,rfl⟩
theorem b01 (a b : List Nat) (t : Ls) : sortedS [[0],[1]] (a :: b :: t) = s2a a b :: s2b a b :: t := by
  show putSs (a :: b :: t) [[0],[1]] (sortS [[a],[b]] []) = _
  rw [sort2_eq]
  unfold s2a s2b
  split <;> rfl
theorem b23 (x y a b : List Nat) (t : Ls) : sortedS [[2],[3]] (x :: y :: a :: b :: t) = x :: y :: s2a a b :: s2b a b :: t := by
  show putSs (x :: y :: a :: b :: t) [[2],[3]] (sortS [[a],[b]] []) = _
  rw [sort2_eq]
  unfold s2a s2b
  split <;> rfl
theorem b54 (x y z w e f : List Nat) : sortedS [[5],[4]] [x,y,z,w,e,f] = [x,y,z,w,s2b f e,s2a f e] := by
  show putSs [x,y,z,w,e,f] [[5],[4]] (sortS [[f],[e]] []) = _
  rw [sort2_eq]
  unfold s2a s2b
  split <;> rfl
theorem g02 (a b c d : List Nat) (t : Ls) : sortedS [[0,1],[2,3]] (c :: d :: a :: b :: t) = sortedS [[0,1],[2,3]] (a :: b :: c :: d :: t) := by
  show putSs (c :: d :: a :: b :: t) [[0,1],[2,3]] (sortS [[c,d],[a,b]] []) = putSs (a :: b :: c :: d :: t) [[0,1],[2,3]] (sortS [[a,b],[c,d]] [])
  rw [sort2_comm [c,d] [a,b],sort2_eq]
  split <;> rfl
theorem k12 (a b c d e f : List Nat) : sortedS [[0,1],[2,3],[5,4]] [c,d,a,b,e,f] = sortedS [[0,1],[2,3],[5,4]] [a,b,c,d,e,f] := by
  show putSs [c,d,a,b,e,f] [[0,1],[2,3],[5,4]] (sortS [[c,d],[a,b],[f,e]] []) = putSs [a,b,c,d,e,f] [[0,1],[2,3],[5,4]] (sortS [[a,b],[c,d],[f,e]] [])
  rw [sort3_12 [c,d] [a,b],sort3_eq]
  repeat (first | rfl | split)
theorem k23 (a b c d e f : List Nat) : sortedS [[0,1],[2,3],[5,4]] [a,b,f,e,d,c] = sortedS [[0,1],[2,3],[5,4]] [a,b,c,d,e,f] := by
  show putSs [a,b,f,e,d,c] [[0,1],[2,3],[5,4]] (sortS [[a,b],[f,e],[c,d]] []) = putSs [a,b,c,d,e,f] [[0,1],[2,3],[5,4]] (sortS [[a,b],[c,d],[f,e]] [])
  rw [sort3_23 [a,b] [f,e],sort3_eq]
  repeat (first | rfl | split)
theorem k13 (a b c d e f : List Nat) : sortedS [[0,1],[2,3],[5,4]] [f,e,c,d,b,a] = sortedS [[0,1],[2,3],[5,4]] [a,b,c,d,e,f] := by
  rw [k12 c d f e b a,k23 c d a b e f,k12 a b c d e f]
theorem cn2 (a b : List Nat) (t : Ls) : canonS 2 (a :: b :: t) = s2a a b :: s2b a b :: t := b01 a b t
theorem cn3 (l : Ls) : canonS 3 l = sortedS [[0,1],[2,3]] l := rfl
theorem cn4 (a b c d : List Nat) (t : Ls) : canonS 4 (a :: b :: c :: d :: t) = sortedS [[0,1],[2,3]] (s2a a b :: s2b a b :: s2a c d :: s2b c d :: t) := by
  show sortedS [[0,1],[2,3]] (sortedS [[2],[3]] (sortedS [[0],[1]] (a :: b :: c :: d :: t))) = _
  rw [b01,b23]
theorem cn5 (l : Ls) : canonS 5 l = sortedS [[0,1],[2,3]] l := rfl
theorem cn6 (l : Ls) : canonS 6 l = sortedS [[0,1],[2,3],[5,4]] l := rfl
theorem cn7 (l : Ls) : canonS 7 l = sortedS [[5,4]] (sortedS [[0,1],[2,3]] l) := rfl
theorem cn8 (a b c d e f : List Nat) : canonS 8 [a,b,c,d,e,f] = sortedS [[0,1],[2,3]] [s2a a b,s2b a b,s2a c d,s2b c d,s2b f e,s2a f e] := by
  show sortedS [[0,1],[2,3]] (sortedS [[5],[4]] (sortedS [[2],[3]] (sortedS [[0],[1]] [a,b,c,d,e,f]))) = _
  rw [b01,b23,b54]
theorem sorted0 (l : Ls) : sortedS [] l = l := rfl
theorem legs9 (l : Ls) : legsS (gtOf 9) l = sortedS [[5],[4]] (sortedS [[2],[3]] (sortedS [[0],[1]] l)) := rfl
theorem kp91 : kindP 1 (gtOf 9) = [[0,1],[2,3],[5,4]] := rfl
theorem kp92 : kindP 2 (gtOf 9) = [] := rfl
theorem cn9 (a b c d e f : List Nat) : canonS 9 [a,b,c,d,e,f] = sortedS [[0,1],[2,3],[5,4]] [s2a a b,s2b a b,s2a c d,s2b c d,s2b f e,s2a f e] := by
  rw [canonS,kp92,kp91,sorted0,legs9,b01,b23,b54]
theorem cn10 (a b c d e f : List Nat) : canonS 10 [a,b,c,d,e,f] = sortedS [[5,4]] (sortedS [[0,1],[2,3]] [s2a a b,s2b a b,s2a c d,s2b c d,s2b f e,s2a f e]) := by
  show sortedS [[5,4]] (sortedS [[0,1],[2,3]] (sortedS [[5],[4]] (sortedS [[2],[3]] (sortedS [[0],[1]] [a,b,c,d,e,f])))) = _
  rw [b01,b23,b54]
def swL (m g : Nat) : List (List Nat) :=
  let p1 := setN (setN (rngL m) 0 1) 1 0
  let p2 := setN (setN (rngL m) 2 3) 3 2
  let p3 := setN (setN (rngL m) 4 5) 5 4
  let q := putL (rngL m) [0,1,2,3] [2,3,0,1]
  match g with
  | 2 => [p1] | 3 => [q] | 4 => [p1,p2,q] | 5 => [q] | 6 => [q,[5,4,2,3,1,0],[0,1,5,4,3,2]] | 7 => [q] | 8 => [p1,p2,p3,q] | 9 => [p1,p2,p3,q,[5,4,2,3,1,0],[0,1,5,4,3,2]] | 10 => [p1,p2,p3,q] | _ => []
def swIn (m g : Nat) (o : Option (List Nat)) : Bool := match o with
  | some r => (swL m g).any (eqS r) && (eqS (takeL r r) (rngL m) && r.all (fun p => Nat.blt p m))
  | none => true
theorem swAllIn : vars.all (fun v => (rngL v.1).all fun i => (rngL v.1).all fun j => swIn v.1 v.2 (swapR v.1 v.2 i j false) && swIn v.1 v.2 (swapR v.1 v.2 i j true)) = true := by kernel_rfl
end Go.Abs.Sym
end
section
namespace Go.Abs.Sym
open Go.Abs.T
theorem w2 (a b : List Nat) (t : Ls) : canonS 2 (b :: a :: t) = canonS 2 (a :: b :: t) := by rw [cn2,cn2,(s2_comm a b).1,(s2_comm a b).2]
theorem w3 (a b c d : List Nat) (t : Ls) : canonS 3 (c :: d :: a :: b :: t) = canonS 3 (a :: b :: c :: d :: t) := by rw [cn3,cn3]; exact g02 a b c d t
theorem w4a (a b c d : List Nat) (t : Ls) : canonS 4 (b :: a :: c :: d :: t) = canonS 4 (a :: b :: c :: d :: t) := by rw [cn4,cn4,(s2_comm a b).1,(s2_comm a b).2]
theorem w4b (a b c d : List Nat) (t : Ls) : canonS 4 (a :: b :: d :: c :: t) = canonS 4 (a :: b :: c :: d :: t) := by rw [cn4,cn4,(s2_comm c d).1,(s2_comm c d).2]
theorem w4q (a b c d : List Nat) (t : Ls) : canonS 4 (c :: d :: a :: b :: t) = canonS 4 (a :: b :: c :: d :: t) := by rw [cn4,cn4]; exact g02 _ _ _ _ _
theorem w5 (a b c d : List Nat) (t : Ls) : canonS 5 (c :: d :: a :: b :: t) = canonS 5 (a :: b :: c :: d :: t) := by rw [cn5,cn5]; exact g02 a b c d t
theorem w6q (a b c d e f : List Nat) : canonS 6 [c,d,a,b,e,f] = canonS 6 [a,b,c,d,e,f] := by rw [cn6,cn6]; exact k12 _ _ _ _ _ _
theorem w6r (a b c d e f : List Nat) : canonS 6 [f,e,c,d,b,a] = canonS 6 [a,b,c,d,e,f] := by rw [cn6,cn6]; exact k13 _ _ _ _ _ _
theorem w6s (a b c d e f : List Nat) : canonS 6 [a,b,f,e,d,c] = canonS 6 [a,b,c,d,e,f] := by rw [cn6,cn6]; exact k23 _ _ _ _ _ _
theorem w7 (a b c d : List Nat) (t : Ls) : canonS 7 (c :: d :: a :: b :: t) = canonS 7 (a :: b :: c :: d :: t) := by rw [cn7,cn7,g02 a b c d t]
theorem w8a (a b c d e f : List Nat) : canonS 8 [b,a,c,d,e,f] = canonS 8 [a,b,c,d,e,f] := by rw [cn8,cn8,(s2_comm a b).1,(s2_comm a b).2]
theorem w8b (a b c d e f : List Nat) : canonS 8 [a,b,d,c,e,f] = canonS 8 [a,b,c,d,e,f] := by rw [cn8,cn8,(s2_comm c d).1,(s2_comm c d).2]
theorem w8c (a b c d e f : List Nat) : canonS 8 [a,b,c,d,f,e] = canonS 8 [a,b,c,d,e,f] := by rw [cn8,cn8,(s2_comm e f).1,(s2_comm e f).2]
theorem w8q (a b c d e f : List Nat) : canonS 8 [c,d,a,b,e,f] = canonS 8 [a,b,c,d,e,f] := by rw [cn8,cn8]; exact g02 _ _ _ _ _
theorem w9a (a b c d e f : List Nat) : canonS 9 [b,a,c,d,e,f] = canonS 9 [a,b,c,d,e,f] := by rw [cn9,cn9,(s2_comm a b).1,(s2_comm a b).2]
theorem w9b (a b c d e f : List Nat) : canonS 9 [a,b,d,c,e,f] = canonS 9 [a,b,c,d,e,f] := by rw [cn9,cn9,(s2_comm c d).1,(s2_comm c d).2]
theorem w9c (a b c d e f : List Nat) : canonS 9 [a,b,c,d,f,e] = canonS 9 [a,b,c,d,e,f] := by rw [cn9,cn9,(s2_comm e f).1,(s2_comm e f).2]
theorem w9q (a b c d e f : List Nat) : canonS 9 [c,d,a,b,e,f] = canonS 9 [a,b,c,d,e,f] := by rw [cn9,cn9]; exact k12 _ _ _ _ _ _
theorem w9r (a b c d e f : List Nat) : canonS 9 [f,e,c,d,b,a] = canonS 9 [a,b,c,d,e,f] := by
  rw [cn9,cn9,(s2_comm a b).1,(s2_comm a b).2,(s2_comm f e).1,(s2_comm f e).2]
  exact k13 _ _ _ _ _ _
theorem w9s (a b c d e f : List Nat) : canonS 9 [a,b,f,e,d,c] = canonS 9 [a,b,c,d,e,f] := by
  rw [cn9,cn9]
  exact k23 _ _ _ _ _ _
theorem w10a (a b c d e f : List Nat) : canonS 10 [b,a,c,d,e,f] = canonS 10 [a,b,c,d,e,f] := by rw [cn10,cn10,(s2_comm a b).1,(s2_comm a b).2]
theorem w10b (a b c d e f : List Nat) : canonS 10 [a,b,d,c,e,f] = canonS 10 [a,b,c,d,e,f] := by rw [cn10,cn10,(s2_comm c d).1,(s2_comm c d).2]
theorem w10c (a b c d e f : List Nat) : canonS 10 [a,b,c,d,f,e] = canonS 10 [a,b,c,d,e,f] := by rw [cn10,cn10,(s2_comm e f).1,(s2_comm e f).2]
theorem w10q (a b c d e f : List Nat) : canonS 10 [c,d,a,b,e,f] = canonS 10 [a,b,c,d,e,f] := by rw [cn10,cn10,g02]
theorem swap_canon {m g : Nat} (hv : (m,g) ∈ vars) {r : List Nat} (hr : r ∈ swL m g) {l : Ls} (hl : l.length = m) : canonS g (r.map (nthS l)) = canonS g l := by
  simp only [vars,List.mem_cons,Prod.mk.injEq,List.not_mem_nil,or_false] at hv
  rcases hv with ⟨rfl,rfl⟩ | ⟨rfl,rfl⟩ | ⟨rfl,rfl⟩ | ⟨rfl,rfl⟩ | ⟨rfl,rfl⟩ | ⟨rfl,rfl⟩ | ⟨rfl,rfl⟩ | ⟨rfl,rfl⟩ | ⟨rfl,rfl⟩ | ⟨rfl,rfl⟩ | ⟨rfl,rfl⟩ | ⟨rfl,rfl⟩ | ⟨rfl,rfl⟩ | ⟨rfl,rfl⟩ | ⟨rfl,rfl⟩ | ⟨rfl,rfl⟩ | ⟨rfl,rfl⟩ | ⟨rfl,rfl⟩ | ⟨rfl,rfl⟩ | ⟨rfl,rfl⟩ | ⟨rfl,rfl⟩
  all_goals simp only [swL,rngL,setN,putL,List.mem_cons,List.not_mem_nil,or_false] at hr
  · match l,hl with
    | [a,b],_ => subst hr; exact w2 a b []
  · match l,hl with
    | [a,b,c],_ => subst hr; exact w2 a b [c]
  · match l,hl with
    | [a,b,c,d],_ => subst hr; exact w3 a b c d []
  · match l,hl with
    | [a,b,c,d],_ =>
      rcases hr with rfl | rfl | rfl
      · exact w4a a b c d []
      · exact w4b a b c d []
      · exact w4q a b c d []
  · match l,hl with
    | [a,b,c,d,e],_ => subst hr; exact w3 a b c d [e]
  · match l,hl with
    | [a,b,c,d,e],_ =>
      rcases hr with rfl | rfl | rfl
      · exact w4a a b c d [e]
      · exact w4b a b c d [e]
      · exact w4q a b c d [e]
  · match l,hl with
    | [a,b,c,d,e,f],_ => subst hr; exact w3 a b c d [e,f]
  · match l,hl with
    | [a,b,c,d,e,f],_ =>
      rcases hr with rfl | rfl | rfl
      · exact w4a a b c d [e,f]
      · exact w4b a b c d [e,f]
      · exact w4q a b c d [e,f]
  · match l,hl with
    | [a,b,c,d,e,f],_ => subst hr; exact w5 a b c d [e,f]
  · match l,hl with
    | [a,b,c,d,e,f],_ =>
      rcases hr with rfl | rfl | rfl
      · exact w6q a b c d e f
      · exact w6r a b c d e f
      · exact w6s a b c d e f
  · match l,hl with
    | [a,b,c,d,e,f],_ => subst hr; exact w7 a b c d [e,f]
  · match l,hl with
    | [a,b,c,d,e,f],_ =>
      rcases hr with rfl | rfl | rfl | rfl
      · exact w8a a b c d e f
      · exact w8b a b c d e f
      · exact w8c a b c d e f
      · exact w8q a b c d e f
  · match l,hl with
    | [a,b,c,d,e,f],_ =>
      rcases hr with rfl | rfl | rfl | rfl | rfl | rfl
      · exact w9a a b c d e f
      · exact w9b a b c d e f
      · exact w9c a b c d e f
      · exact w9q a b c d e f
      · exact w9r a b c d e f
      · exact w9s a b c d e f
  · match l,hl with
    | [a,b,c,d,e,f],_ =>
      rcases hr with rfl | rfl | rfl | rfl
      · exact w10a a b c d e f
      · exact w10b a b c d e f
      · exact w10c a b c d e f
      · exact w10q a b c d e f
end Go.Abs.Sym
end
