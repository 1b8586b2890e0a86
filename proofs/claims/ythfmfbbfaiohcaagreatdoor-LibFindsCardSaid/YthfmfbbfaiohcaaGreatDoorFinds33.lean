/- A part of the proof that LibFinds answers true at every input: AbsSym29, AbsSym30, AbsSym31, AbsSym32, AbsSym33, AbsSym34. -/
import Derived.Test.YthfmfbbfaiohcaaGreatDoorFinds32
section
namespace Go.Abs.Sym
open Go.Abs.T
open Go.Proofs
theorem OddB.setl {q0 q1 q2 : Int} {nm : List Nat} {fr fr' : Tr AV} {j j' : Nat} {t t' : Tr AB} {pv : AV} {rs : List (List AV)} {nb : Nat} {gv : AV} {gs : List (List AV)} {gb : Nat} {Lt : Nat → Nat → Prop} (ob : OddB q0 q1 q2 nm fr j t pv rs nb gv gs gb Lt)
    (f3 : fr'.get t3 = some (.ptr (up .e 1) 0)) (f4 : fr'.get t4 = some (.ptr (up .e 2) 0)) (f5 : fr'.get t5 = some (.ptr (up .e 10) 0)) (hj : j ≤ j') {i n : Nat} (hi : Lt i n) {ls ls' : List Lg} {sp sp' : Bool} (h0' : t.get (up .e i) = some (.cells (ls.flatMap lgC) sp)) (hlen : ls'.length = ls.length)
    (hset : t'.get (up .e i) = some (.cells (ls'.flatMap lgC) sp')) (hk : ∀ k,k < j → k ≠ i → t'.get (up .e k) = t.get (up .e k)) : OddB q0 q1 q2 nm fr' j' t' pv rs nb gv gs gb Lt := by
  have h1 := ob.lt i n hi
  have hj0 := ob.hj
  exact {
    f3 := f3,f4 := f4,f5 := f5,hj := by omega
    a1 := (hk 1 (by omega) (by omega)).trans ob.a1
    a2 := (hk 2 (by omega) (by omega)).trans ob.a2
    a10 := (hk 10 (by omega) (by omega)).trans ob.a10
    gp := ob.gp.keep hj (fun _ h2 => hk nb h2 (by omega))
    pr := ob.pr
    gg := ob.gg.keep hj (fun _ h2 => hk gb h2 (by omega))
    gr := ob.gr
    ty := fun k q h => by
      obtain ⟨l2,s2,k1,k2⟩ := ob.ty k q h
      have := ob.lt k q h
      by_cases hki : k = i
      · subst hki
        rw [h0'] at k2
        simp only [Option.some.injEq,AB.cells.injEq] at k2
        have hl : l2.length = ls.length := by
          have e := congrArg List.length k2.1
          rw [len_flat len_lg,len_flat len_lg] at e
          omega
        exact ⟨ls',sp',by omega,hset⟩
      · exact ⟨l2,s2,k1,(hk k (by omega) hki).trans k2⟩
    lt := fun k q h => by
      have := ob.lt k q h
      omega
    ne := ob.ne
    sp := ob.sp
    sg := ob.sg }
theorem set_lg {l : Lg} {ls : List Lg} (v : AV) (o : Nat) (h : o < 2) : setAt ((l :: ls).flatMap lgC) o [v] = some ((if o = 0 then [v,.int .i64 l.gr] else [.str l.pad,v]) ++ ls.flatMap lgC) := by
  match o,h with
  | 0,_ => rw [List.flatMap_cons]; cases hc : ls.flatMap lgC <;> rfl
  | 1,_ => rw [List.flatMap_cons]; cases hc : ls.flatMap lgC <;> rfl
theorem OddB.gate {q0 q1 q2 : Int} {nm : List Nat} {fr : Tr AV} {j : Nat} {t : Tr AB} {pv : AV} {rs : List (List AV)} {nb : Nat} {gv : AV} {gs : List (List AV)} {gb : Nat} {Lt : Nat → Nat → Prop} (ob : OddB q0 q1 q2 nm fr j t pv rs nb gv gs gb Lt)
    {p : Nat} (hp : p < gs.length) : gv = .slc (up .e gb) 0 gs.length 2 none ∧ 11 ≤ gb ∧ gb < j ∧ t.get (up .e gb) = some (.cells gs.flatten true) ∧ (∀ c,indexAddrA (.slc 2) (.slc (up .e gb) 0 gs.length 2 c) (.int .i64 (.ofNat p)) = some (.ptr (up .e gb) (p * 2))) ∧
      ∃ kd i n c,n < 90000 ∧ Lt i n ∧ (∀ k,c = some k → n ≤ k) ∧ (∀ o k l,o + k ≤ 2 → takeD [.int .i64 kd,.slc (up .e i) 0 n 2 c] o k = some l → takeD gs.flatten (p * 2 + o) k = some l) ∧
        (∀ o vs l,vs ≠ [] → o + vs.length ≤ 2 → setAt [.int .i64 kd,.slc (up .e i) 0 n 2 c] o vs = some l → setAt gs.flatten (p * 2 + o) vs = some (gs.set p l).flatten) := by
  rcases ob.gg with ⟨h,_⟩ | ⟨_,h,h1,h2,h3⟩
  · rw [h] at hp; simp at hp
  · have hrow := List.getElem?_eq_getElem hp
    obtain ⟨kd,i,n,c,e,he1,he2,he3⟩ := ob.gr gs[p] (List.getElem_mem hp)
    rw [e] at hrow
    refine ⟨h,h2,h3,h1,fun c => by rw [ia_slc hp,Nat.zero_add],kd,i,n,c,he1,he2,he3,fun o k l ho ht => take_row (fun r h => (ob.gr r h).len) hrow ho ht,fun o vs l hv ho ht => set_row hv (fun r h => (ob.gr r h).len) hrow ho ht⟩
theorem OddB.setg {q0 q1 q2 : Int} {nm : List Nat} {fr fr' : Tr AV} {j j' : Nat} {t t' : Tr AB} {pv : AV} {rs : List (List AV)} {nb : Nat} {gv : AV} {gs : List (List AV)} {gb : Nat} {Lt Lt' : Nat → Nat → Prop} (ob : OddB q0 q1 q2 nm fr j t pv rs nb gv gs gb Lt)
    {p : Nat} {row : List AV} (hp : p < gs.length) (hrow : GateL Lt' row) (hL : ∀ i n,Lt' i n → ∃ m,n ≤ m ∧ Lt i m) (hL2 : ∀ i n,Lt i n → Lt' i n) (f3 : fr'.get t3 = some (.ptr (up .e 1) 0)) (f4 : fr'.get t4 = some (.ptr (up .e 2) 0)) (f5 : fr'.get t5 = some (.ptr (up .e 10) 0)) (hj : j ≤ j')
    (hset : t'.get (up .e gb) = some (.cells (gs.set p row).flatten true)) (hk : ∀ i,i < j → i ≠ gb → t'.get (up .e i) = t.get (up .e i)) :
    OddB q0 q1 q2 nm fr' j' t' pv rs nb gv (gs.set p row) gb Lt' := by
  obtain ⟨h1,h2,h3,_⟩ := ob.gate hp
  have hpl := ob.gp.lt
  have hne := ob.ne
  have hj0 := ob.hj
  exact {
    f3 := f3,f4 := f4,f5 := f5,hj := by omega
    a1 := (hk 1 (by omega) (by omega)).trans ob.a1
    a2 := (hk 2 (by omega) (by omega)).trans ob.a2
    a10 := (hk 10 (by omega) (by omega)).trans ob.a10
    gp := ob.gp.keep hj (fun k1 k2 => hk nb k2 (by have := hne k1 h2; omega))
    pr := ob.pr
    gg := .inr ⟨by rw [List.length_set]; omega,by rw [List.length_set]; exact h1,hset,h2,by omega⟩
    gr := fun r hr => by
      rcases List.mem_or_eq_of_mem_set hr with h | rfl
      · exact (ob.gr r h).mono hL2
      · exact hrow
    ty := fun i n h => by
      obtain ⟨m,hm,h⟩ := hL i n h
      obtain ⟨ls,sp,k1,k2⟩ := ob.ty i m h
      have := ob.lt i m h
      exact ⟨ls,sp,by omega,(hk i (by omega) (by omega)).trans k2⟩
    lt := fun i n h => by
      obtain ⟨m,hm,h⟩ := hL i n h
      have := ob.lt i m h
      omega
    ne := ob.ne
    sp := ob.sp
    sg := by rw [List.length_set]; exact ob.sg }
theorem odd_k10 {q0 q1 q2 : Int} {nm : List Nat} {fr : Tr AV} {j : Nat} {t : Tr AB} {pv : AV} {rs : List (List AV)} {nb : Nat} {gv : AV} {gs : List (List AV)} {gb : Nat} {Lt : Nat → Nat → Prop} (ob : OddB q0 q1 q2 nm fr j t pv rs nb gv gs gb Lt)
    {x : Nat} (g7 : fr.get t7 = some (.int .i64 (wrapA .i64 (.ofNat x - .ofNat 1)))) : OddF (execA K2 (callN K2 49) c7_k10 ⟨fr,[],⟨up .e j,t,.lf⟩,.no,none,t7⟩) := by
  have hj := ob.hj
  have g5 := ob.f5
  have a10 := ob.a10
  have hsg := ob.sg
  have hln := fun h => ob.gg.ln h
  by_cases h0 : gs.length = 0
  · have hl : ltI (.ofNat 0) (.ofNat gs.length) = false := by rw [b_lt]; exact decide_eq_false (by omega)
    simp +decide only [c7_k10,c7_k10a,execA,opsA,wantedA,evalAll,evalA,oneA,st_mov,st_load,st_bin,st_fieldAddr,st_pick,st_len,ld_ptr,H.cellsAt,partA,tk_s,tk_0,tk_c,binAV,St.put,Tr.get_put,if_true,if_false,cond_true,cond_false,Nat.zero_add,nbeq,decide_true,eqK,kindNo,Option.map_some,beq_t,g5,a10,hln,hl]
    refine OddB.fin (OddB.move ob ?_ ?_ ?_ (Nat.le_refl j) a10 (fun _ _ _ => rfl))
    all_goals simp +decide only [Tr.get_put,ob.f3,ob.f4,ob.f5,if_false]
  · have hl : ltI (.ofNat 0) (.ofNat gs.length) = true := by rw [b_lt]; exact decide_eq_true (by omega)
    have hw := wr_sub gs.length 1 (by omega) (by omega)
    obtain ⟨hgv,hb1,hb2,hb3,hip,kd,i,n,c,he1,he2,he3,htk,hst⟩ := ob.gate (p := gs.length - 1) (by omega)
    have htk1 := htk 1 1 [.slc (up .e i) 0 n 2 c] (by decide) rfl
    obtain ⟨ls,sp,k1,k2⟩ := ob.ty i n he2
    have hil := ob.lt i n he2
    by_cases h0n : n = 0
    · subst h0n
      have hl2 : ltI (.ofNat 0) (.ofNat 0) = false := rfl
      simp +decide only [c7_k10,c7_k10a,execA,opsA,wantedA,evalAll,evalA,oneA,st_mov,st_load,st_bin,st_fieldAddr,st_indexAddr,st_pick,st_len,ld_ptr,H.cellsAt,partA,tk_s,tk_0,tk_c,ln_slc,binAV,St.put,Tr.get_put,if_true,if_false,cond_true,Nat.zero_add,nbeq,decide_true,eqK,kindNo,Option.map_some,beq_self_eq_true,g5,a10,hl,hw,hgv,hb3,hip,htk1,hl2]
      refine OddB.fin (OddB.move ob ?_ ?_ ?_ (Nat.le_refl j) a10 (fun _ _ _ => rfl))
      all_goals simp +decide only [Tr.get_put,ob.f3,ob.f4,ob.f5,if_false]
    · have hl2 : ltI (.ofNat 0) (.ofNat n) = true := by rw [b_lt]; exact decide_eq_true (by omega)
      cases ls with
      | nil => simp only [List.length_nil] at k1; omega
      | cons l ls =>
        have hia := ia_slc (id := up .e i) (n := n) (sz := 2) (p := 0) (c := c) (by omega)
        have hset := fun v => set_lg (l := l) (ls := ls) v 1 (by decide)
        simp +decide only [c7_k10,c7_k10a,execA,opsA,wantedA,evalAll,evalA,oneA,st_mov,st_load,st_store,st_bin,st_fieldAddr,st_indexAddr,st_pick,st_len,ld_ptr,H.cellsAt,partA,tk_s,tk_0,tk_c,storeA,ones,on_int,cl_int,ln_slc,binAV,St.put,Tr.get_put,List.nil_append,List.cons_append,if_true,if_false,cond_true,Nat.zero_add,Nat.add_zero,Nat.zero_mul,List.length,nbeq,decide_true,Bool.and_true,eqK,kindNo,Option.map_some,beq_self_eq_true,g5,g7,a10,hl,hw,hgv,hb3,hip,htk1,hl2,hia,k2,hset]
        rw [← hgv]
        refine OddB.fin (OddB.setl ob ?_ ?_ ?_ (Nat.le_refl j) he2 (ls' := ⟨l.pad,wrapA .i64 (.ofNat x - .ofNat 1)⟩ :: ls) k2 (by simp only [List.length_cons]) ((Tr.get_put _ _ _ _).trans (if_pos rfl)) (fun k h1 h2 => ?_))
        all_goals simp +decide (disch := omega) only [Tr.get_put,up_ne,ob.f3,ob.f4,ob.f5,if_false]
theorem odd_k11 {q0 q1 q2 : Int} {nm : List Nat} {fr : Tr AV} {j : Nat} {t : Tr AB} {pv : AV} {rs : List (List AV)} {nb : Nat} {gv : AV} {gs : List (List AV)} {gb : Nat} {Lt : Nat → Nat → Prop} (ob : OddB q0 q1 q2 nm fr j t pv rs nb gv gs gb Lt)
    {p : Nat} (hp : p < rs.length) (g8 : fr.get t8 = some (.int .i64 (.ofNat p))) : OddF (execA K2 (callN K2 49) c7_k11 ⟨fr,[],⟨up .e j,t,.lf⟩,.no,none,t7⟩) := by
  have hj := ob.hj
  have g5 := ob.f5
  have a10 := ob.a10
  have hsg := ob.sg
  have hln := fun h => ob.gg.ln h
  by_cases h0 : gs.length = 0
  · have hl : ltI (.ofNat 0) (.ofNat gs.length) = false := by rw [b_lt]; exact decide_eq_false (by omega)
    simp +decide only [c7_k11,c7_k11a,execA,opsA,wantedA,evalAll,evalA,oneA,st_mov,st_load,st_bin,st_fieldAddr,st_pick,st_len,ld_ptr,H.cellsAt,partA,tk_s,tk_0,tk_c,binAV,St.put,Tr.get_put,if_true,if_false,cond_true,cond_false,Nat.zero_add,nbeq,decide_true,eqK,kindNo,Option.map_some,beq_t,g5,a10,hln,hl]
    refine OddB.fin (OddB.move ob ?_ ?_ ?_ (Nat.le_refl j) a10 (fun _ _ _ => rfl))
    all_goals simp +decide only [Tr.get_put,ob.f3,ob.f4,ob.f5,if_false]
  · have hl : ltI (.ofNat 0) (.ofNat gs.length) = true := by rw [b_lt]; exact decide_eq_true (by omega)
    obtain ⟨hgv,hb1,hb2,hb3,hip,kd,i,n,c,he1,he2,he3,htk,hst⟩ := ob.gate (p := 0) (by omega)
    have htk1 := htk 1 1 [.slc (up .e i) 0 n 2 c] (by decide) rfl
    simp only [Nat.zero_mul,Nat.zero_add] at htk1 hip
    obtain ⟨ls,sp,k1,k2⟩ := ob.ty i n he2
    have hil := ob.lt i n he2
    by_cases h0n : n = 0
    · subst h0n
      have hl2 : ltI (.ofNat 0) (.ofNat 0) = false := rfl
      simp +decide only [c7_k11,c7_k11a,execA,opsA,wantedA,evalAll,evalA,oneA,st_mov,st_load,st_bin,st_fieldAddr,st_indexAddr,st_pick,st_len,ld_ptr,H.cellsAt,partA,tk_s,tk_0,tk_c,ln_slc,binAV,St.put,Tr.get_put,if_true,if_false,cond_true,Nat.zero_add,nbeq,decide_true,eqK,kindNo,Option.map_some,beq_self_eq_true,g5,a10,hl,hgv,hb3,hip,htk1,hl2]
      refine OddB.fin (OddB.move ob ?_ ?_ ?_ (Nat.le_refl j) a10 (fun _ _ _ => rfl))
      all_goals simp +decide only [Tr.get_put,ob.f3,ob.f4,ob.f5,if_false]
    · have hl2 : ltI (.ofNat 0) (.ofNat n) = true := by rw [b_lt]; exact decide_eq_true (by omega)
      obtain ⟨hpv,pb1,pb2,pb3,pip,pn,pkd,ev,r,xx,yy,dr,phe,phtk,phst⟩ := ob.pad hp
      have phtk0 := phtk 0 1 [.str pn] (by decide) rfl
      rw [Nat.add_zero] at phtk0
      cases ls with
      | nil => simp only [List.length_nil] at k1; omega
      | cons l ls =>
        have hia := ia_slc (id := up .e i) (n := n) (sz := 2) (p := 0) (c := c) (by omega)
        have hset := fun v => set_lg (l := l) (ls := ls) v 0 (by decide)
        simp +decide only [c7_k11,c7_k11a,execA,opsA,wantedA,evalAll,evalA,oneA,dregA,dopsA,dstep,isMaker,withP_nil,takesP_nil,leavesP_nil,rd_mov,rd_load,rd_fieldp,rd_indexAddr,st_mov,st_load,st_store,st_bin,st_fieldAddr,st_indexAddr,st_pick,st_len,ld_ptr,H.cellsAt,partA,tk_s,tk_0,tk_c,storeA,ones,on_str,cl_str,ln_slc,binAV,St.put,Tr.get_put,List.nil_append,List.cons_append,if_true,if_false,cond_true,cond_false,Nat.zero_add,Nat.add_zero,Nat.zero_mul,skip_up0,up_up,up_succ,List.length,seesHeap,quiet,nbeq,decide_true,Nat.reduceAdd,Bool.and_true,Bool.and_false,Bool.or_true,List.all,eqK,kindNo,Option.map_some,beq_self_eq_true,Bool.and_self,Nat.add_assoc,g5,g8,a10,hl,hgv,hb3,hip,htk1,hl2,hia,k2,hset,hpv,pip,pb3,phtk0]
        rw [← hgv,← hpv]
        refine OddB.fin (OddB.setl ob ?_ ?_ ?_ (Nat.le_add_right j 14) he2 (ls' := ⟨pn,l.gr⟩ :: ls) k2 (by simp only [List.length_cons]) ((Tr.get_put _ _ _ _).trans (if_pos rfl)) (fun k h1 h2 => ?_))
        all_goals simp +decide (disch := omega) only [Tr.get_put,up_ne,ob.f3,ob.f4,ob.f5,if_false]
theorem odd_k12 {q0 q1 q2 : Int} {nm : List Nat} {fr : Tr AV} {j : Nat} {t : Tr AB} {pv : AV} {rs : List (List AV)} {nb : Nat} {gv : AV} {gs : List (List AV)} {gb : Nat} {Lt : Nat → Nat → Prop} (ob : OddB q0 q1 q2 nm fr j t pv rs nb gv gs gb Lt)
    {x : Nat} (hx : x < 8) (g7 : fr.get t7 = some (.int .i64 (wrapA .i64 (.ofNat x - .ofNat 1)))) : OddF (execA K2 (callN K2 49) c7_k12 ⟨fr,[],⟨up .e j,t,.lf⟩,.no,none,t7⟩) := by
  have hj := ob.hj
  have g5 := ob.f5
  have a10 := ob.a10
  have hsg := ob.sg
  have hln := fun h => ob.gg.ln h
  have hn := wr_n1 (x := x) (by omega)
  by_cases h0 : gs.length = 0
  · have hl : ltI (.ofNat 0) (.ofNat gs.length) = false := by rw [b_lt]; exact decide_eq_false (by omega)
    simp +decide only [c7_k12,c7_k12a,execA,opsA,wantedA,evalAll,evalA,oneA,st_load,st_bin,st_fieldAddr,st_len,ld_ptr,H.cellsAt,partA,tk_s,tk_0,tk_c,binAV,St.put,Tr.get_put,if_true,if_false,cond_true,Nat.zero_add,nbeq,decide_true,eqK,kindNo,Option.map_some,g5,a10,hln,hl]
    refine OddB.fin (OddB.move ob ?_ ?_ ?_ (Nat.le_refl j) a10 (fun _ _ _ => rfl))
    all_goals simp +decide only [Tr.get_put,ob.f3,ob.f4,ob.f5,if_false]
  · have hl : ltI (.ofNat 0) (.ofNat gs.length) = true := by rw [b_lt]; exact decide_eq_true (by omega)
    obtain ⟨hgv,hb1,hb2,hb3,hip,kd,i,n,c,he1,he2,he3,htk,hst⟩ := ob.gate (p := 0) (by omega)
    have htk1 := htk 1 1 [.slc (up .e i) 0 n 2 c] (by decide) rfl
    have hset := fun v => hst 1 [v] _ (by simp) (by simp) rfl
    simp only [Nat.zero_mul,Nat.zero_add] at htk1 hip hset
    obtain ⟨ls,sp,k1,k2⟩ := ob.ty i n he2
    have hil := ob.lt i n he2
    have hrm : eqI (.ofNat 2) 0 = false := rfl
    have hmod : (Int.ofNat x).tmod (.ofNat 2) = .ofNat (x % 2) := rfl
    have hmn := min_nat n (x % 2)
    have hsl : sliceA (.slc 2) false true false [.slc (up .e i) 0 n 2 c,.int .i64 (.ofNat (min n (x % 2)))] = some (.slc (up .e i) 0 (min n (x % 2)) 2 c) := by
      have hle : min n (x % 2) ≤ c.getD n := by
        cases c with
        | none => simp only [Option.getD_none]; omega
        | some k => have := he3 k rfl; simp only [Option.getD_some]; omega
      simp only [sliceA,nbeq,decide_true,cond_true,bounds,natIn_le hle]
      cases c with
      | none => rfl
      | some k =>
        simp only [Nat.sub_zero,Nat.zero_mul,Nat.add_zero]
        cases decide (k = 0) <;> rfl
    simp +decide only [c7_k12,c7_k12a,execA,opsA,wantedA,evalAll,evalA,oneA,dregA,dopsA,dstep,isMaker,withP_nil,takesP_nil,leavesP_nil,rd_mov,rd_load,rd_bin,rd_slice,rd_fieldp,rd_indexAddr,rd_len,rd_min,st_mov,st_load,st_store,st_bin,st_fieldAddr,st_indexAddr,st_slice,st_len,st_min,ld_ptr,H.cellsAt,partA,tk_s,tk_0,tk_c,storeA,ones,on_slc,cl_slc,ln_slc,binAV,St.put,Tr.get_put,if_true,if_false,cond_true,cond_false,Nat.zero_add,skip_up0,up_up,up_succ,List.length,seesHeap,quiet,nbeq,decide_true,Nat.reduceAdd,Bool.and_true,Bool.and_false,Bool.or_true,List.all,eqK,kindNo,Option.map_some,Bool.and_self,Nat.add_assoc,g5,g7,a10,hl,hgv,hb3,hip,htk1,hn,hrm,hmod,hmn,hsl,hset]
    rw [← hgv]
    refine OddB.fin (OddB.setg ob (p := 0) (Lt' := fun k m => Lt k m ∨ k = i ∧ m = min n (x % 2)) (by omega) ?_ (fun k m h => ?_) (fun _ _ h => .inl h) ?_ ?_ ?_ (Nat.le_add_right j 21) ((Tr.get_put _ _ _ _).trans (if_pos rfl)) (fun k h1 h2 => ?_))
    · exact ⟨_,i,_,_,rfl,by omega,.inr ⟨rfl,rfl⟩,fun k hk => by have := he3 k hk; omega⟩
    · rcases h with h | ⟨rfl,rfl⟩
      · exact ⟨m,Nat.le_refl m,h⟩
      · exact ⟨n,by omega,he2⟩
    all_goals simp +decide (disch := omega) only [Tr.get_put,up_ne,ob.f3,ob.f4,ob.f5,if_false]
end Go.Abs.Sym
end
section
namespace Go.Abs.Sym
open Go.Abs.T
open Go.Proofs
theorem block_odd {a : ACode} {s : St} (h : OddF (execA K2 (callN K2 49) a s)) : OddF (execA K2 (callN K2 49) (.block 2 a) s) := by
  obtain ⟨fr,j,t,nm,pv,gv,e,h⟩ := h
  refine ⟨fr,j,t,nm,pv,gv,?_,h⟩
  simp only [execA,e]
theorem odd_sw {q0 q1 q2 : Int} {nm : List Nat} {fr : Tr AV} {j : Nat} {t : Tr AB} {pv : AV} {rs : List (List AV)} {nb : Nat} {gv : AV} {gs : List (List AV)} {gb : Nat} {Lt : Nat → Nat → Prop} {o : Out} (hX : execA K2 (callN K2 49) c7_sw ⟨fr,[],⟨up .e j,t,.lf⟩,.no,none,t7⟩ = o)
    (ob : OddB q0 q1 q2 nm fr j t pv rs nb gv gs gb Lt) (hrs : rs.length < 900) (hgs : gs.length < 900)
    {x p c : Nat} (hx : x < 8) (hp : p < rs.length) (hc : c < 14) (g7 : fr.get t7 = some (.int .i64 (wrapA .i64 (.ofNat x - .ofNat 1)))) (g8 : fr.get t8 = some (.int .i64 (.ofNat p))) (g62 : fr.get t62 = some (.int .i64 (.ofNat c))) : OddF o := by
  have mv : ∀ fr' : Tr AV,fr'.get t3 = fr.get t3 → fr'.get t4 = fr.get t4 → fr'.get t5 = fr.get t5 → OddB q0 q1 q2 nm fr' j t pv rs nb gv gs gb Lt := fun fr' h3 h4 h5 =>
    OddB.move ob (h3.trans ob.f3) (h4.trans ob.f4) (h5.trans ob.f5) (Nat.le_refl j) ob.a10 (fun _ _ _ => rfl)
  rw [← hX]
  rw [c7_sw]
  refine block_odd ?_
  match c,hc with
  | 0,_ =>
    simp +decide only [execA,opsA,wantedA,evalAll,evalA,oneA,st_mov,st_bin,binAV,eqAV,St.put,Tr.get_put,if_true,if_false,cond_true,nbeq,decide_true,eqK,kindNo,Option.map_some,g62,(show eqI (.ofNat 0) (.ofNat 0) = true from rfl)]
    exact odd_k0 (mv _ (by simp +decide only [Tr.get_put,if_false]) (by simp +decide only [Tr.get_put,if_false]) (by simp +decide only [Tr.get_put,if_false])) hx (by simp +decide only [Tr.get_put,g7,if_false])
  | 1,_ =>
    simp +decide only [execA,opsA,wantedA,evalAll,evalA,oneA,st_mov,st_bin,binAV,eqAV,St.put,Tr.get_put,if_true,if_false,cond_true,nbeq,decide_true,eqK,kindNo,Option.map_some,g62,(show eqI (.ofNat 1) (.ofNat 0) = false from rfl),(show eqI (.ofNat 1) (.ofNat 1) = true from rfl)]
    exact odd_k1 (mv _ (by simp +decide only [Tr.get_put,if_false]) (by simp +decide only [Tr.get_put,if_false]) (by simp +decide only [Tr.get_put,if_false])) hx hp (by simp +decide only [Tr.get_put,g7,if_false]) (by simp +decide only [Tr.get_put,g8,if_false])
  | 2,_ =>
    simp +decide only [execA,opsA,wantedA,evalAll,evalA,oneA,st_mov,st_bin,binAV,eqAV,St.put,Tr.get_put,if_true,if_false,cond_true,nbeq,decide_true,eqK,kindNo,Option.map_some,g62,(show eqI (.ofNat 2) (.ofNat 0) = false from rfl),(show eqI (.ofNat 2) (.ofNat 1) = false from rfl),(show eqI (.ofNat 2) (.ofNat 2) = true from rfl)]
    exact odd_k2 (x := x) (mv _ (by simp +decide only [Tr.get_put,if_false]) (by simp +decide only [Tr.get_put,if_false]) (by simp +decide only [Tr.get_put,if_false])) hp (by simp +decide only [Tr.get_put,g7,if_false]) (by simp +decide only [Tr.get_put,g8,if_false])
  | 3,_ =>
    simp +decide only [execA,opsA,wantedA,evalAll,evalA,oneA,st_mov,st_bin,binAV,eqAV,St.put,Tr.get_put,if_true,if_false,cond_true,nbeq,decide_true,eqK,kindNo,Option.map_some,g62,(show eqI (.ofNat 3) (.ofNat 0) = false from rfl),(show eqI (.ofNat 3) (.ofNat 1) = false from rfl),(show eqI (.ofNat 3) (.ofNat 2) = false from rfl),(show eqI (.ofNat 3) (.ofNat 3) = true from rfl)]
    exact odd_k3 (x := x) (mv _ (by simp +decide only [Tr.get_put,if_false]) (by simp +decide only [Tr.get_put,if_false]) (by simp +decide only [Tr.get_put,if_false])) hp (by simp +decide only [Tr.get_put,g7,if_false]) (by simp +decide only [Tr.get_put,g8,if_false])
  | 4,_ =>
    simp +decide only [execA,opsA,wantedA,evalAll,evalA,oneA,st_mov,st_bin,binAV,eqAV,St.put,Tr.get_put,if_true,if_false,cond_true,nbeq,decide_true,eqK,kindNo,Option.map_some,g62,(show eqI (.ofNat 4) (.ofNat 0) = false from rfl),(show eqI (.ofNat 4) (.ofNat 1) = false from rfl),(show eqI (.ofNat 4) (.ofNat 2) = false from rfl),(show eqI (.ofNat 4) (.ofNat 3) = false from rfl),(show eqI (.ofNat 4) (.ofNat 4) = true from rfl)]
    exact odd_k4 (x := x) (mv _ (by simp +decide only [Tr.get_put,if_false]) (by simp +decide only [Tr.get_put,if_false]) (by simp +decide only [Tr.get_put,if_false])) hp (by simp +decide only [Tr.get_put,g7,if_false]) (by simp +decide only [Tr.get_put,g8,if_false])
  | 5,_ =>
    simp +decide only [execA,opsA,wantedA,evalAll,evalA,oneA,st_mov,st_bin,binAV,eqAV,St.put,Tr.get_put,if_true,if_false,cond_true,nbeq,decide_true,eqK,kindNo,Option.map_some,g62,(show eqI (.ofNat 5) (.ofNat 0) = false from rfl),(show eqI (.ofNat 5) (.ofNat 1) = false from rfl),(show eqI (.ofNat 5) (.ofNat 2) = false from rfl),(show eqI (.ofNat 5) (.ofNat 3) = false from rfl),(show eqI (.ofNat 5) (.ofNat 4) = false from rfl),(show eqI (.ofNat 5) (.ofNat 5) = true from rfl)]
    exact odd_k5 (x := x) (mv _ (by simp +decide only [Tr.get_put,if_false]) (by simp +decide only [Tr.get_put,if_false]) (by simp +decide only [Tr.get_put,if_false])) hp (by simp +decide only [Tr.get_put,g7,if_false]) (by simp +decide only [Tr.get_put,g8,if_false])
  | 6,_ =>
    simp +decide only [execA,opsA,wantedA,evalAll,evalA,oneA,st_mov,st_bin,binAV,eqAV,St.put,Tr.get_put,if_true,if_false,cond_true,nbeq,decide_true,eqK,kindNo,Option.map_some,g62,(show eqI (.ofNat 6) (.ofNat 0) = false from rfl),(show eqI (.ofNat 6) (.ofNat 1) = false from rfl),(show eqI (.ofNat 6) (.ofNat 2) = false from rfl),(show eqI (.ofNat 6) (.ofNat 3) = false from rfl),(show eqI (.ofNat 6) (.ofNat 4) = false from rfl),(show eqI (.ofNat 6) (.ofNat 5) = false from rfl),(show eqI (.ofNat 6) (.ofNat 6) = true from rfl)]
    show OddF (execA K2 (callN K2 49) (.seq c7_k6a c7_k6b) ⟨_,[],_,.no,none,t7⟩)
    exact odd_k6 (x := x) (mv _ (by simp +decide only [Tr.get_put,if_false]) (by simp +decide only [Tr.get_put,if_false]) (by simp +decide only [Tr.get_put,if_false])) hp (by simp +decide only [Tr.get_put,g7,if_false]) (by simp +decide only [Tr.get_put,g8,if_false])
  | 7,_ =>
    simp +decide only [execA,opsA,wantedA,evalAll,evalA,oneA,st_mov,st_bin,binAV,eqAV,St.put,Tr.get_put,if_true,if_false,cond_true,nbeq,decide_true,eqK,kindNo,Option.map_some,g62,(show eqI (.ofNat 7) (.ofNat 0) = false from rfl),(show eqI (.ofNat 7) (.ofNat 1) = false from rfl),(show eqI (.ofNat 7) (.ofNat 2) = false from rfl),(show eqI (.ofNat 7) (.ofNat 3) = false from rfl),(show eqI (.ofNat 7) (.ofNat 4) = false from rfl),(show eqI (.ofNat 7) (.ofNat 5) = false from rfl),(show eqI (.ofNat 7) (.ofNat 6) = false from rfl),(show eqI (.ofNat 7) (.ofNat 7) = true from rfl)]
    exact odd_k7 (mv _ (by simp +decide only [Tr.get_put,if_false]) (by simp +decide only [Tr.get_put,if_false]) (by simp +decide only [Tr.get_put,if_false]))
  | 8,_ =>
    simp +decide only [execA,opsA,wantedA,evalAll,evalA,oneA,st_mov,st_bin,binAV,eqAV,St.put,Tr.get_put,if_true,if_false,cond_true,nbeq,decide_true,eqK,kindNo,Option.map_some,g62,(show eqI (.ofNat 8) (.ofNat 0) = false from rfl),(show eqI (.ofNat 8) (.ofNat 1) = false from rfl),(show eqI (.ofNat 8) (.ofNat 2) = false from rfl),(show eqI (.ofNat 8) (.ofNat 3) = false from rfl),(show eqI (.ofNat 8) (.ofNat 4) = false from rfl),(show eqI (.ofNat 8) (.ofNat 5) = false from rfl),(show eqI (.ofNat 8) (.ofNat 6) = false from rfl),(show eqI (.ofNat 8) (.ofNat 7) = false from rfl),(show eqI (.ofNat 8) (.ofNat 8) = true from rfl)]
    exact odd_k8 (mv _ (by simp +decide only [Tr.get_put,if_false]) (by simp +decide only [Tr.get_put,if_false]) (by simp +decide only [Tr.get_put,if_false])) hrs hx (by simp +decide only [Tr.get_put,g7,if_false])
  | 9,_ =>
    simp +decide only [execA,opsA,wantedA,evalAll,evalA,oneA,st_mov,st_bin,binAV,eqAV,St.put,Tr.get_put,if_true,if_false,cond_true,nbeq,decide_true,eqK,kindNo,Option.map_some,g62,(show eqI (.ofNat 9) (.ofNat 0) = false from rfl),(show eqI (.ofNat 9) (.ofNat 1) = false from rfl),(show eqI (.ofNat 9) (.ofNat 2) = false from rfl),(show eqI (.ofNat 9) (.ofNat 3) = false from rfl),(show eqI (.ofNat 9) (.ofNat 4) = false from rfl),(show eqI (.ofNat 9) (.ofNat 5) = false from rfl),(show eqI (.ofNat 9) (.ofNat 6) = false from rfl),(show eqI (.ofNat 9) (.ofNat 7) = false from rfl),(show eqI (.ofNat 9) (.ofNat 8) = false from rfl),(show eqI (.ofNat 9) (.ofNat 9) = true from rfl)]
    exact odd_k9 (x := x) (mv _ (by simp +decide only [Tr.get_put,if_false]) (by simp +decide only [Tr.get_put,if_false]) (by simp +decide only [Tr.get_put,if_false])) (by omega) hp (by simp +decide only [Tr.get_put,g7,if_false]) (by simp +decide only [Tr.get_put,g8,if_false])
  | 10,_ =>
    simp +decide only [execA,opsA,wantedA,evalAll,evalA,oneA,st_mov,st_bin,binAV,eqAV,St.put,Tr.get_put,if_true,if_false,cond_true,nbeq,decide_true,eqK,kindNo,Option.map_some,g62,(show eqI (.ofNat 10) (.ofNat 0) = false from rfl),(show eqI (.ofNat 10) (.ofNat 1) = false from rfl),(show eqI (.ofNat 10) (.ofNat 2) = false from rfl),(show eqI (.ofNat 10) (.ofNat 3) = false from rfl),(show eqI (.ofNat 10) (.ofNat 4) = false from rfl),(show eqI (.ofNat 10) (.ofNat 5) = false from rfl),(show eqI (.ofNat 10) (.ofNat 6) = false from rfl),(show eqI (.ofNat 10) (.ofNat 7) = false from rfl),(show eqI (.ofNat 10) (.ofNat 8) = false from rfl),(show eqI (.ofNat 10) (.ofNat 9) = false from rfl),(show eqI (.ofNat 10) (.ofNat 10) = true from rfl)]
    exact odd_k10 (x := x) (mv _ (by simp +decide only [Tr.get_put,if_false]) (by simp +decide only [Tr.get_put,if_false]) (by simp +decide only [Tr.get_put,if_false])) (by simp +decide only [Tr.get_put,g7,if_false])
  | 11,_ =>
    simp +decide only [execA,opsA,wantedA,evalAll,evalA,oneA,st_mov,st_bin,binAV,eqAV,St.put,Tr.get_put,if_true,if_false,cond_true,nbeq,decide_true,eqK,kindNo,Option.map_some,g62,(show eqI (.ofNat 11) (.ofNat 0) = false from rfl),(show eqI (.ofNat 11) (.ofNat 1) = false from rfl),(show eqI (.ofNat 11) (.ofNat 2) = false from rfl),(show eqI (.ofNat 11) (.ofNat 3) = false from rfl),(show eqI (.ofNat 11) (.ofNat 4) = false from rfl),(show eqI (.ofNat 11) (.ofNat 5) = false from rfl),(show eqI (.ofNat 11) (.ofNat 6) = false from rfl),(show eqI (.ofNat 11) (.ofNat 7) = false from rfl),(show eqI (.ofNat 11) (.ofNat 8) = false from rfl),(show eqI (.ofNat 11) (.ofNat 9) = false from rfl),(show eqI (.ofNat 11) (.ofNat 10) = false from rfl),(show eqI (.ofNat 11) (.ofNat 11) = true from rfl)]
    exact odd_k11 (mv _ (by simp +decide only [Tr.get_put,if_false]) (by simp +decide only [Tr.get_put,if_false]) (by simp +decide only [Tr.get_put,if_false])) hp (by simp +decide only [Tr.get_put,g8,if_false])
  | 12,_ =>
    simp +decide only [execA,opsA,wantedA,evalAll,evalA,oneA,st_mov,st_bin,binAV,eqAV,St.put,Tr.get_put,if_true,if_false,cond_true,nbeq,decide_true,eqK,kindNo,Option.map_some,g62,(show eqI (.ofNat 12) (.ofNat 0) = false from rfl),(show eqI (.ofNat 12) (.ofNat 1) = false from rfl),(show eqI (.ofNat 12) (.ofNat 2) = false from rfl),(show eqI (.ofNat 12) (.ofNat 3) = false from rfl),(show eqI (.ofNat 12) (.ofNat 4) = false from rfl),(show eqI (.ofNat 12) (.ofNat 5) = false from rfl),(show eqI (.ofNat 12) (.ofNat 6) = false from rfl),(show eqI (.ofNat 12) (.ofNat 7) = false from rfl),(show eqI (.ofNat 12) (.ofNat 8) = false from rfl),(show eqI (.ofNat 12) (.ofNat 9) = false from rfl),(show eqI (.ofNat 12) (.ofNat 10) = false from rfl),(show eqI (.ofNat 12) (.ofNat 11) = false from rfl),(show eqI (.ofNat 12) (.ofNat 12) = true from rfl)]
    exact odd_k12 (mv _ (by simp +decide only [Tr.get_put,if_false]) (by simp +decide only [Tr.get_put,if_false]) (by simp +decide only [Tr.get_put,if_false])) hx (by simp +decide only [Tr.get_put,g7,if_false])
  | 13,_ =>
    simp +decide only [execA,opsA,wantedA,evalAll,evalA,oneA,st_mov,st_bin,binAV,eqAV,St.put,Tr.get_put,if_true,if_false,cond_true,nbeq,decide_true,eqK,kindNo,Option.map_some,g62,(show eqI (.ofNat 13) (.ofNat 0) = false from rfl),(show eqI (.ofNat 13) (.ofNat 1) = false from rfl),(show eqI (.ofNat 13) (.ofNat 2) = false from rfl),(show eqI (.ofNat 13) (.ofNat 3) = false from rfl),(show eqI (.ofNat 13) (.ofNat 4) = false from rfl),(show eqI (.ofNat 13) (.ofNat 5) = false from rfl),(show eqI (.ofNat 13) (.ofNat 6) = false from rfl),(show eqI (.ofNat 13) (.ofNat 7) = false from rfl),(show eqI (.ofNat 13) (.ofNat 8) = false from rfl),(show eqI (.ofNat 13) (.ofNat 9) = false from rfl),(show eqI (.ofNat 13) (.ofNat 10) = false from rfl),(show eqI (.ofNat 13) (.ofNat 11) = false from rfl),(show eqI (.ofNat 13) (.ofNat 12) = false from rfl),(show eqI (.ofNat 13) (.ofNat 13) = true from rfl)]
    exact odd_k13 (mv _ (by simp +decide only [Tr.get_put,if_false]) (by simp +decide only [Tr.get_put,if_false]) (by simp +decide only [Tr.get_put,if_false])) hgs hx (by simp +decide only [Tr.get_put,g7,if_false])
end Go.Abs.Sym
end
section
namespace Go.Abs.Sym
open Go.Abs.T
open Go.Proofs
theorem PV.putL {t : Tr AB} {pv : AV} (h : PV t pv) {i : Nat} (hi : i < 3) (x : AB) : PV (t.put (up .e i) x) pv := by
  rcases h with h | ⟨nb,n,c,rs,sp,h1,k1,k2,k3,k4,k5⟩
  · exact .inl h
  · refine .inr ⟨nb,n,c,rs,sp,h1,k1,k2,?_,k4,k5⟩
    rw [Tr.get_put,if_neg (fun e => by rw [up_inj] at e; omega)]
    exact k3
theorem pads_deep2 {t : Tr AB} {nx : Pth} {pv : AV} (h : PV t pv) : ∃ ps : Sl PadD,ps.l.length < 90000 ∧ (∀ p ∈ ps.l,p.es.l.length < 90000) ∧ deep 7 ⟨nx,t,.lf⟩ pv = slV padC ps := by
  rcases h with rfl | ⟨nb,n,c,rs,sp,rfl,k1,k2,k3,k4,_⟩
  · exact ⟨⟨0,[]⟩,by decide,fun _ h => absurd h List.not_mem_nil,rfl⟩
  · obtain ⟨ps,h1,h2,h3⟩ := rows_deep (f := padC) (B := fun p => p.es.l.length < 90000) (fun r h => PadR.deep (nx := nx) (t := t) (fun _ _ h => h.elim) h 5) rs k4
    have htk : takeD rs.flatten 0 (n * 7) = some rs.flatten := takeD_all (by rw [rows_len (fun _ h => h.len) rs k4,k1])
    refine ⟨⟨1,ps⟩,by show ps.length < 90000; omega,h2,?_⟩
    rw [deep_slc (cellsAt_t k3) htk,h3,slV_rslc,h1,k1]
theorem odd7 (T : TypD) (sm : Small T) (h0p : 0 < T.pads.l.length) (hpl : T.pads.l.length < 800) (hgl : T.gates.l.length < 800) (q0 q1 q2 : Int) : Ret (callN K2 50 (.fn t7 [] []) [.agg (tyC T),.agg [.int .i64 q0,.int .i64 q1,.int .i64 q2]] h0) (fun v h1 => ∃ T' : TypD,Small T' ∧ deep 8 h1 v = .agg (tyC T')) := by
  have hs : ∀ xs,K2.sums t7 xs h0 = none := fun _ => rfl
  have hF : K2.funcs.get t7 = some c7 := rfl
  refine begin2 (hs _) hF fun fr t ga gb => ?_
  rw [c7_p]
  simp only [tyC] at ga
  simp +decide only [c7_h,execA,opsA,wantedA,evalAll,evalA,oneA,dregA,dopsA,dstep,isMaker,withP_nil,takesP_nil,leavesP_nil,rd_build,rd_load,rd_fieldp,st_mov,st_alloc,st_box,st_load,st_fieldAddr,st_build,st_buildSl,st_append,mk_alloc,mk_buildSl,ld_ptr,H.cellsAt,H.newB,partA,tk_s,tk_0,tk_c,fillS,cl_agg,St.put,Tr.get_put,if_true,if_false,cond_true,cond_false,Nat.zero_add,Nat.add_zero,skip_up0,up_up,up_succ,List.length,seesHeap,quiet,recheck,nbeq,nble,decide_true,decide_false,Nat.reduceAdd,Bool.true_and,Bool.and_true,Bool.and_false,Bool.false_and,Bool.or_false,Bool.or_true,List.all,Option.map_some,beq_rfl,Bool.and_self,cont_c,cont_n,tkP_c,lvP_c,withP_c,ga,gb]
  generalize hA : appendA _ 7 80 _ _ = A
  have hx5 : ((((t.put (up .e 0) (.cells [.str T.nm,slV padC T.pads,slV gateC T.gates] false)).put (up .e 1) (.cells [.int .i64 q0,.int .i64 q1,.int .i64 q2] false)).put (up .e 2) (.cells [e0,.nils,.nils] false)).put (up .e 5) (.cells [] false)).get (up .e 5) = some (.cells [] false) := by rw [Tr.get_put,if_pos rfl]
  have ap := app_copy len_pad hA hx5 (by decide) (by omega) (by decide)
  obtain ⟨i,c,m',t',hA2,hi,hm1,hm2,hi2,hkeep,_,hcap,hpos⟩ := ap
  obtain ⟨rfl,rfl,rfl,hblk⟩ := hpos h0p
  subst hA2
  have b0 := (hkeep 0 (by decide)).trans (by simp +decide (disch := omega) only [Tr.get_put,if_true,if_false]; rfl)
  have b1 := (hkeep 1 (by decide)).trans (by simp +decide (disch := omega) only [Tr.get_put,if_true,if_false]; rfl)
  have b2 := (hkeep 2 (by decide)).trans (by simp +decide (disch := omega) only [Tr.get_put,if_true,if_false]; rfl)
  clear hkeep hx5 hA
  simp +decide only [withP_nil,takesP_nil,leavesP_nil,rd_load,st_store,ld_ptr,H.cellsAt,partA,tk_0,tk_c,storeA,setAt,fillA,ones,cl_agg,on_str,cl_str,on_nils,on_slc,cl_slc,Tr.get_put,if_true,if_false,cond_true,cond_false,Nat.zero_add,List.length,recheck,nbeq,nble,decide_true,decide_false,Nat.reduceAdd,Nat.reduceLeDiff,Bool.and_false,List.all,Option.map_some,beq_rfl,Bool.and_self,b0,kf2]
  generalize hit : iterA (execA K2 (callN K2 49) c7_l0) 100000 _ = o
  have hll : (T.pads.l.map padC).length = T.pads.l.length := List.length_map ..
  have hfl : (T.pads.l.map padC).flatten = T.pads.l.flatMap padC := rfl
  have hpr : ∀ r ∈ T.pads.l.map padC,PadR (fun _ _ => False) r := by
    intro r hr
    obtain ⟨p,hp,rfl⟩ := List.mem_map.1 hr
    exact ⟨_,_,_,_,_,_,_,rfl,.inl ⟨p.es,sm.es p hp,rfl⟩⟩
  have ho : ∃ s,o = .exit 0 s ∧ OddI T q0 q1 q2 T.nm (.slc (up .e 12) 0 T.pads.l.length 7 none) (T.pads.l.map padC) 12 0 s := by
    rw [← hit]
    refine iter_rule (OddI T q0 q1 q2 T.nm (.slc (up .e 12) 0 T.pads.l.length 7 none) (T.pads.l.map padC) 12) (fun o => ∃ s,o = .exit 0 s ∧ OddI T q0 q1 q2 T.nm (.slc (up .e 12) 0 T.pads.l.length 7 none) (T.pads.l.map padC) 12 0 s)
      (fun m s h => odd_round T sm (by omega) q0 q1 q2 T.nm _ _ 12 m s h) 100000 T.gates.l.length _ ⟨_,13,_,0,.nils,[],fun _ _ => False,rfl,by simp,⟨?_,?_,?_,by decide,?_,?_,?_,.inr ⟨by omega,by rw [hll],?_,by decide,by decide⟩,hpr,.inl ⟨rfl,rfl,rfl⟩,fun _ h => absurd h List.not_mem_nil,fun _ _ h => h.elim,fun _ _ h => h.elim,by omega,by omega,by simp⟩,?_,?_,?_⟩ (by omega)
    any_goals simp +decide (disch := omega) only [Tr.get_put,b0,b1,b2,hblk,hfl,if_true,if_false,List.length_nil]
  obtain ⟨s,rfl,fr,j,t,gb,gv,gs,Lt,rfl,hk,ob,g2,g6,a0⟩ := ho
  have g3 := ob.f3
  have g5 := ob.f5
  have a1 := ob.a1
  have a10 := ob.a10
  have ia0 : ∀ id,indexAddrA (.arr 3 1) (.ptr id 0) i0 = some (.ptr id 0) := fun _ => rfl
  have ia1 : ∀ id,indexAddrA (.arr 3 1) (.ptr id 0) i1 = some (.ptr id 1) := fun _ => rfl
  have ia2 : ∀ id,indexAddrA (.arr 3 1) (.ptr id 0) i2 = some (.ptr id 2) := fun _ => rfl
  obtain ⟨x,hx,hx2⟩ := mod2 8 (by decide) (by decide) q1
  obtain ⟨p,hp,hp2⟩ := mod2 T.pads.l.length h0p (by omega) q2
  obtain ⟨c,hc,hc2⟩ := mod2 14 (by decide) (by decide) q0
  have cx : ∀ h,callN K2 49 (g t24) [.int .i64 q1,i8] h = .ret (.int .i64 (.ofNat x)) h := fun h => call_sum (hx2 h)
  have cp : ∀ h,callN K2 49 (g t24) [.int .i64 q2,.int .i64 (.ofNat T.pads.l.length)] h = .ret (.int .i64 (.ofNat p)) h := fun h => call_sum (hp2 h)
  have cc : ∀ h,callN K2 49 (g t24) [.int .i64 q0,i14] h = .ret (.int .i64 (.ofNat c)) h := fun h => call_sum (hc2 h)
  have hz : eqI (.ofNat T.pads.l.length) (.ofNat 0) = false := by rw [b_eq]; exact decide_eq_false (by omega)
  simp +decide only [st_mov,st_load,st_bin,st_call,st_fieldAddr,st_indexAddr,st_len,ld_ptr,H.cellsAt,partA,tk_s,tk_0,tk_c,ln_slc,binAV,eqAV,Tr.get_put,if_true,if_false,cond_true,Nat.zero_add,nbeq,decide_true,eqK,kindNo,Option.map_some,g3,g5,a1,a10,ia0,ia1,ia2,cx,cp,cc,hz]
  generalize hX : execA K2 (callN K2 49) c7_sw _ = o
  have hsw := odd_sw hX (OddB.move ob (by simp +decide only [Tr.get_put,ob.f3,if_false]) (by simp +decide only [Tr.get_put,ob.f4,if_false]) (by simp +decide only [Tr.get_put,ob.f5,if_false]) (Nat.le_refl j) ob.a10 (fun _ _ _ => rfl)) (by rw [hll]; omega) (by omega) hx (by rw [hll]; exact hp) hc
    (by simp +decide only [Tr.get_put,if_true,if_false]) (by simp +decide only [Tr.get_put,if_true,if_false]) (by simp +decide only [Tr.get_put,if_true,if_false])
  obtain ⟨fr3,j3,t3,nm3,pv3,gv3,rfl,f4,f5,c2,c10,hPV,hGV,o1,o2⟩ := hsw
  clear hX
  simp +decide (disch := omega) only [st_load,st_store,ld_ptr,H.cellsAt,partA,tk_0,tk_c,storeA,setAt,ones,cl_agg,on_str,Tr.get_put,if_true,if_false,cond_true,Nat.zero_add,Bool.and_self,List.length,nbeq,decide_true,Nat.reduceAdd,ret_iff,leaveA,dfrsA,resultA,resultsA,Option.map_some,f4,f5,c2,c10,o1,o2]
  obtain ⟨ps,h1,h2,h3⟩ := pads_deep2 (nx := up .e j3) (hPV.putL (i := 2) (by decide) (.cells [.str nm3,pv3,gv3] false))
  obtain ⟨qs,q1',q2',q3'⟩ := gates_deep (nx := up .e j3) (hGV.putL (i := 2) (by decide) (.cells [.str nm3,pv3,gv3] false))
  refine ⟨⟨nm3,ps,qs⟩,⟨h1,q1',h2,q2'⟩,?_⟩
  rw [deep_agg]
  simp only [List.map_cons,List.map_nil,h3,q3']
  rfl
theorem odd7_sum (T : TypD) (sm : Small T) (h0p : 0 < T.pads.l.length) (hpl : T.pads.l.length < 800) (hgl : T.gates.l.length < 800) (q0 q1 q2 : Int) : ∃ T' : TypD,Small T' ∧ ∀ h,K3.sums t7 [.agg (tyC T),.agg [.int .i64 q0,.int .i64 q1,.int .i64 q2]] h = some (.agg (tyC T')) := by
  obtain ⟨v,h1,hc,T',k1,hd⟩ := odd7 T sm h0p hpl hgl q0 q1 q2
  refine ⟨T',k1,fun h => ?_⟩
  have := over_fz (fz := [t34,t37,t22,t23,t7,t6,t8]) (dp := []) rfl hc (by simp only [frzs,frz,frz_ty,Bool.and_self]) (by rw [hd]; simp only [frz,frz_ty]) h
  rw [hd] at this
  exact this
end Go.Abs.Sym
end
section
namespace Go.Abs.Sym
open Go.Abs.T
open Go.Proofs
structure CaseD where
  ty : Sl Int
  nets : Sl Int
  other : Sl Int
  o0 : Int
  o1 : Int
  o2 : Int
  s0 : Int
  s1 : Int
  gate : Bool
def caseC (c : CaseD) : List AV := [slV inC c.ty,slV inC c.nets,slV inC c.other,.int .i64 c.o0,.int .i64 c.o1,.int .i64 c.o2,.int .u8 c.s0,.int .u8 c.s1,.bool c.gate]
def CaseOK (c : CaseD) : Prop := c.ty.l.length < 9223372036854775808 ∧ c.nets.l.length < 9223372036854775808 ∧ c.other.l.length < 9223372036854775808
theorem frz_case (c : CaseD) : frzs (caseC c) = true := by
  simp only [caseC,frzs,frz_slV frz_in,frz,Bool.and_self]
theorem one_frz_ty (T : TypD) : ones (tyC T) = true := by simp only [tyC,ones,on_str,on_slV,Bool.and_self]
theorem made5 (c : CaseD) (hc : CaseOK c) : Ret (callN K3 50 (.fn t5 [] []) [.agg (caseC c)] h0) (fun v _ => ∃ (T : TypD) (n1 n2 : AV),T.nm = [112,97,114,116] ∧ 2 ≤ T.pads.l.length ∧ T.pads.l.length ≤ 6 ∧ T.gates.l.length ≤ 3 ∧ Small T ∧ frz n1 = true ∧ frz n2 = true ∧ v = .tup [.agg (tyC T),n1,n2]) := by
  have hs : ∀ xs,K3.sums t5 xs h0 = none := fun _ => rfl
  have hF : K3.funcs.get t5 = some c5 := rfl
  refine begin1 (hs _) hF fun fr t ga => ?_
  obtain ⟨h1,h2,h3⟩ := hc
  obtain ⟨T,k1,k2,k3,k4,k5,k6⟩ := made22_sum c.ty h1 [112,97,114,116]
  obtain ⟨n1,f1,e1⟩ := nets23_sum T k5.pads c.nets h2
  obtain ⟨n2,f2,e2⟩ := nets23_sum T k5.pads c.other h3
  have c1 : ∀ h,callN K3 49 (g t22) [slV inC c.ty,.str [112,97,114,116]] h = .ret (.agg (tyC T)) h := fun h => call_sum (k6 h)
  have c2 : ∀ h,callN K3 49 (g t23) [.agg (tyC T),slV inC c.nets] h = .ret n1 h := fun h => call_sum (e1 h)
  have c3 : ∀ h,callN K3 49 (g t23) [.agg (tyC T),slV inC c.other] h = .ret n2 h := fun h => call_sum (e2 h)
  simp only [caseC] at ga
  simp only [tyC] at c1 c2 c3 ⊢
  simp +decide only [c5,execA,opsA,wantedA,evalAll,evalA,oneA,dregA,dopsA,dstep,isMaker,withP_nil,takesP_nil,leavesP_nil,rd_mov,rd_load,rd_fieldp,st_mov,st_alloc,st_box,st_load,st_store,st_call,st_fieldAddr,ld_ptr,H.cellsAt,H.newB,partA,tk_s,tk_0,tk_c,storeA,setAt,ones,cl_agg,on_str,on_slV,St.put,Tr.get_put,if_true,if_false,cond_true,cond_false,Nat.zero_add,Nat.add_zero,skip_up0,up_up,up_succ,List.length,seesHeap,quiet,recheck,nbeq,nble,decide_true,decide_false,Nat.reduceAdd,Bool.and_true,Bool.and_false,Bool.or_true,List.all,ret_iff,leaveA,dfrsA,resultA,resultsA,Option.map_some,beq_rfl,Bool.and_self,ga,c1,c2,c3]
  exact ⟨T,n1,n2,k1,k2,k3,k4,k5,f1,f2,rfl⟩
theorem made5_sum (c : CaseD) (hc : CaseOK c) : ∃ (T : TypD) (n1 n2 : AV),T.nm = [112,97,114,116] ∧ 2 ≤ T.pads.l.length ∧ T.pads.l.length ≤ 6 ∧ T.gates.l.length ≤ 3 ∧ Small T ∧ ∀ h,K4.sums t5 [.agg (caseC c)] h = some (.tup [.agg (tyC T),n1,n2]) := by
  obtain ⟨v,h1,hc,T,n1,n2,k1,k2,k3,k4,k5,f1,f2,rfl⟩ := made5 c hc
  exact ⟨T,n1,n2,k1,k2,k3,k4,k5,fun h => over_fz' rfl hc (by simp only [frzs,frz,frz_case,Bool.and_self]) (by simp only [frzs,frz,frz_ty,f1,f2,Bool.and_self]) h⟩
def PadK (p q : PadD) : Prop := ∃ s : Sl Ed,s.l = p.es.l ∧ q = { p with es := s }
def GateK (p q : GateD) : Prop := ∃ s : Sl Lg,s.l = p.legs.l ∧ q = { p with legs := s }
def LiveT (t : Tr AB) (lo hi : Nat) (v : AV) (T : TypD) : Prop :=
  ∃ pv gv,v = .agg [.str T.nm,pv,gv] ∧
    ((pv = .nils ∧ T.pads = ⟨0,[]⟩) ∨ ∃ i,pv = .slc (up .e i) 0 T.pads.l.length 7 none ∧ lo ≤ i ∧ i < hi ∧ T.pads.kind = 1 ∧ t.get (up .e i) = some (.cells (T.pads.l.flatMap padC) true)) ∧
    ((gv = .nils ∧ T.gates = ⟨0,[]⟩) ∨ ∃ i,gv = .slc (up .e i) 0 T.gates.l.length 2 none ∧ lo ≤ i ∧ i < hi ∧ T.gates.kind = 1 ∧ t.get (up .e i) = some (.cells (T.gates.l.flatMap gateC) true))
theorem LiveT.keep {t t' : Tr AB} {lo hi : Nat} {v : AV} {T : TypD} (h : LiveT t lo hi v T) (hk : ∀ i,lo ≤ i → i < hi → t'.get (up .e i) = t.get (up .e i)) : LiveT t' lo hi v T := by
  obtain ⟨pv,gv,h1,h2,h3⟩ := h
  refine ⟨pv,gv,h1,?_,?_⟩
  · rcases h2 with h | ⟨i,k1,k2,k3,k4,k5⟩
    · exact .inl h
    · exact .inr ⟨i,k1,k2,k3,k4,(hk i k2 k3).trans k5⟩
  · rcases h3 with h | ⟨i,k1,k2,k3,k4,k5⟩
    · exact .inl h
    · exact .inr ⟨i,k1,k2,k3,k4,(hk i k2 k3).trans k5⟩
theorem deep_live {α : Type} {f : α → List AV} {sz : Nat} (hf : ∀ a,(f a).length = sz) (hz : ∀ a,frzs (f a) = true) {t : Tr AB} {nx : Pth} {i : Nat} {l : List α} {sp : Bool} {c : Option Nat} (h : t.get (up .e i) = some (.cells (l.flatMap f) sp)) (d : Nat) :
    deep (d + 1) ⟨nx,t,.lf⟩ (.slc (up .e i) 0 l.length sz c) = slV f ⟨1,l⟩ := by
  have htk : takeD (l.flatMap f) 0 (l.length * sz) = some (l.flatMap f) := takeD_all (len_flat hf l)
  rw [deep_slc (cellsAt_t h) htk,slV_rslc,deeps_frz _ _ _ (frzs_flat hz l)]
theorem LiveT.deep {t : Tr AB} {lo hi : Nat} {v : AV} {T : TypD} (h : LiveT t lo hi v T) (nx : Pth) : deep 8 ⟨nx,t,.lf⟩ v = .agg (tyC T) := by
  obtain ⟨pv,gv,rfl,h2,h3⟩ := h
  obtain ⟨nm,ps,gs⟩ := T
  have e1 : Abs.deep 7 ⟨nx,t,.lf⟩ pv = slV padC ps := by
    rcases h2 with ⟨rfl,h⟩ | ⟨i,rfl,_,_,k4,k5⟩
    · simp only at h
      subst h
      rfl
    · obtain ⟨kd,l⟩ := ps
      simp only at k4
      subst k4
      exact deep_live len_pad frz_pad k5 6
  have e2 : Abs.deep 7 ⟨nx,t,.lf⟩ gv = slV gateC gs := by
    rcases h3 with ⟨rfl,h⟩ | ⟨i,rfl,_,_,k4,k5⟩
    · simp only at h
      subst h
      rfl
    · obtain ⟨kd,l⟩ := gs
      simp only at k4
      subst k4
      exact deep_live len_gate frz_gate k5 6
  rw [deep_agg]
  simp only [List.map_cons,List.map_nil,e1,e2]
  rfl
theorem LiveT.ones {t : Tr AB} {lo hi : Nat} {v : AV} {T : TypD} (h : LiveT t lo hi v T) : ∃ pv gv,v = .agg [.str T.nm,pv,gv] ∧ pv.one = true ∧ gv.one = true := by
  obtain ⟨pv,gv,rfl,h2,h3⟩ := h
  refine ⟨pv,gv,rfl,?_,?_⟩
  · rcases h2 with ⟨rfl,_⟩ | ⟨i,rfl,_⟩ <;> rfl
  · rcases h3 with ⟨rfl,_⟩ | ⟨i,rfl,_⟩ <;> rfl
end Go.Abs.Sym
end
section
namespace Go.Abs.Sym
open Go.Abs.T
open Go.Proofs
theorem sums4 (i : Pth) (xs : List AV) (h : H) (h1 : memP i [t5] = false) (h2 : memP i [t14] = false) : K4.sums i xs h = K3.sums i xs h := by
  simp only [K4,over,sumsOf,h1,h2,cond_false]
theorem sums3 (i : Pth) (xs : List AV) (h : H) (h1 : memP i [t34,t37,t22,t23,t7,t6,t8] = false) : K3.sums i xs h = K2.sums i xs h := by
  have h2 : memP i [] = false := rfl
  simp only [K3,over,sumsOf,h1,h2,cond_false]
theorem clone28' (s : Sl Ed) (hl : s.l.length < 90000) : ∃ s' : Sl Ed,s'.l = s.l ∧ ∀ n h,callN K4 (n + 1) (.fn t28 [] []) [slV edC s] h = .ret (slV edC s') h := by
  obtain ⟨s',h1,h2⟩ := clone_sum (f := edC) len_ed frz_ed s hl
  exact ⟨s',h1,fun n h => call_sum (by rw [List.nil_append,List.append_nil,sums4 _ _ _ rfl rfl,sums3 _ _ _ rfl,sums2_1 _ _ _ rfl rfl]; exact h2 h)⟩
theorem clone32_sum (s : Sl Lg) (hl : s.l.length < 90000) : ∃ s' : Sl Lg,s'.l = s.l ∧ ∀ h,K1.sums t32 [slV lgC s] h = some (slV lgC s') := by
  have hs : ∀ xs,K0.sums t32 xs h0 = none := fun _ => rfl
  have hF : K0.funcs.get t32 = some c32 := rfl
  obtain ⟨kd,l⟩ := s
  cases l with
  | nil =>
    match kd with
    | 0 => exact ⟨⟨0,[]⟩,rfl,fun h => by rw [show slV lgC ⟨0,[]⟩ = .nils from rfl]; kernel_rfl⟩
    | k + 1 => exact ⟨⟨1,[]⟩,rfl,fun h => by rw [show slV lgC ⟨k + 1,[]⟩ = .rslc 0 [] from rfl,show slV lgC ⟨1,[]⟩ = .rslc 0 [] from rfl]; kernel_rfl⟩
  | cons a l =>
    refine ⟨⟨kd,a :: l⟩,rfl,?_⟩
    have hv : slV lgC ⟨kd,a :: l⟩ = .rslc (l.length + 1) (lgC a ++ l.flatMap lgC) := rfl
    have hlen : (lgC a ++ l.flatMap lgC).length = (l.length + 1) * 2 := len_flat len_lg (a :: l)
    have htk := takeD_all hlen
    simp only [List.length_cons] at hl
    have hb1 := big_lt (n := (l.length + 1) * 24) (by omega)
    have hb2 := big_lt (n := l.length + 1) (by omega)
    have hb3 : (l.length + 1 ≤ 0) = False := eq_false (by omega)
    have hb4 : (l.length + 1 = 0) = False := eq_false (by omega)
    have hr : Ret (callN K0 50 (.fn t32 [] []) [slV lgC ⟨kd,a :: l⟩] h0) (fun v h1 => deep 8 h1 v = .rslc (l.length + 1) ((lgC a ++ l.flatMap lgC).map (deep 7 h1))) := by
      rw [call_fn (hs _) hF,hv,show h0 = ⟨up Pth.e 0,.lf,.lf⟩ from rfl]
      simp +decide only [c32,execA,opsA,wantedA,evalAll,evalA,oneA,st_mov,st_bin,st_buildSl,st_append,H.cellsAt,H.newB,tk_0,fillS,binAV,eqAV,St.put,Tr.get_put,frameOf,List.nil_append,List.append_nil,if_true,if_false,cond_true,cond_false,Nat.zero_add,Nat.add_zero,Nat.zero_mul,up_succ,nbeq,nble,decide_true,decide_false,Nat.reduceAdd,Bool.or_false,ret_iff,leaveA,dfrsA,resultA,resultsA,Option.map_some,appendA,lenA,firstA,htk,hb1,hb2,hb3,hb4,Nat.le_refl,Nat.zero_add,List.nil_append,deep]
    obtain ⟨v,h1,hc,hd⟩ := hr
    rw [deeps_frz _ _ _ (by rw [frzs_append,frz_lg,frzs_flat frz_lg]; rfl),← hv] at hd
    intro h
    have := over_fz (fz := [t24,t58,t25,t59,t28,t32,t60,t38,t12,t29]) (dp := []) rfl hc (by rw [frzs,frz_slV frz_lg]; rfl) (by rw [hd]; exact frz_slV frz_lg _) h
    rw [hd] at this
    exact this
theorem clone32' (s : Sl Lg) (hl : s.l.length < 90000) : ∃ s' : Sl Lg,s'.l = s.l ∧ ∀ n h,callN K4 (n + 1) (.fn t32 [] []) [slV lgC s] h = .ret (slV lgC s') h := by
  obtain ⟨s',h1,h2⟩ := clone32_sum s hl
  exact ⟨s',h1,fun n h => call_sum (by rw [List.nil_append,List.append_nil,sums4 _ _ _ rfl rfl,sums3 _ _ _ rfl,sums2_1 _ _ _ rfl rfl]; exact h2 h)⟩
inductive Cps {α : Type} (K : α → α → Prop) : List α → List α → Prop where
  | nil : Cps K [] []
  | snoc {l m : List α} {a b : α} : Cps K l m → K a b → Cps K (l ++ [a]) (m ++ [b])
theorem Cps.len {α : Type} {K : α → α → Prop} {l m : List α} (h : Cps K l m) : l.length = m.length := by
  induction h with
  | nil => rfl
  | snoc _ _ ih => simp only [List.length_append,ih,List.length_cons,List.length_nil]
def GetI (T : TypD) (nm : List Nat) (_j0 b ri : Nat) (av kv : AV) (t0' : Tr AB) (m : Nat) (s : St) : Prop :=
  ∃ fr j t nb pv ps,s = ⟨fr,[],⟨up .e j,t,.lf⟩,.no,none,t10⟩ ∧ b < j ∧ ps.length + m = T.pads.l.length ∧ Cps PadK (T.pads.l.take ps.length) ps ∧
    fr.get t0 = some av ∧ fr.get t6 = some kv ∧ fr.get t4 = some (.ptr (up .e ri) 0) ∧ fr.get t7 = some (.ptr (up .e b) 0) ∧ fr.get t24 = some (slV padC T.pads) ∧ fr.get t25 = some (.int .i64 (.ofNat T.pads.l.length)) ∧ fr.get t26 = some (.int .i64 (.ofNat ps.length)) ∧
    t.get (up .e b) = some (.cells [.str nm,pv,.nils] false) ∧ Grow 7 t (b + 1) j nb pv (ps.map padC) ∧ (∀ i,i < b → t.get (up .e i) = t0'.get (up .e i))
set_option maxHeartbeats 1000000 in
theorem get_round (T : TypD) (sm : Small T) (nm : List Nat) (j0 b ri : Nat) (av kv : AV) (t0' : Tr AB) (m : Nat) (s : St) (h : GetI T nm j0 b ri av kv t0' m s) :
    Stp (GetI T nm j0 b ri av kv t0') (fun o => ∃ s,o = .exit 0 s ∧ GetI T nm j0 b ri av kv t0' 0 s) m (execA K4 (callN K4 58) c10_l0 s) := by
  obtain ⟨fr,j,t,nb,pv,ps,rfl,hj,hk,hc,f0,f6,f4,g7,g24,g25,g26,ab,hg,hold⟩ := h
  cases m with
  | zero =>
    have hkn : (ps.length < T.pads.l.length) = False := eq_false (by omega)
    simp +decide only [c10_l0,execA,opsA,wantedA,evalAll,evalA,oneA,st_bin,binAV,St.put,Tr.get_put,if_true,cond_true,nbeq,decide_true,decide_false,eqK,kindNo,g25,g26,ltI_dec,hkn,stp_e]
    refine ⟨_,rfl,_,j,t,nb,pv,ps,rfl,hj,hk,hc,?_,?_,?_,?_,?_,?_,?_,ab,hg,hold⟩
    all_goals simp +decide only [Tr.get_put,f0,f6,f4,g7,g24,g25,g26,if_false]
  | succ m =>
    have hkn0 : ps.length < T.pads.l.length := by omega
    have hkn := eq_true hkn0
    have hpl := sm.pads
    have hw := wr_add ps.length 1 (by omega)
    obtain ⟨x,hka⟩ : ∃ x,T.pads.l[ps.length]? = some x := ⟨_,List.getElem?_eq_getElem hkn0⟩
    have ia := at_slV (f := padC) (sz := 7) len_pad (by decide) hka
    obtain ⟨s',hs1,hs2⟩ := clone28' x.es (sm.es x (List.mem_of_getElem? hka))
    have zb := z_ne (i := b) (j := j) (by omega)
    have yb := z_ne' (i := b) (j := j) (by omega)
    simp +decide only [c10_l0,execA,opsA,wantedA,evalAll,evalA,oneA,st_alloc,st_load,st_store,st_bin,st_call,st_fieldAddr,st_indexAddr,st_buildSl,st_append,ld_ptr,ld_rs,H.cellsAt,H.newB,partA,tk_s,tk_0,tk_c,storeA,setAt,fillS,ones,cl_agg,on_int,on_str,on_slV,cl_slV,binAV,St.put,Tr.get_put,List.nil_append,List.cons_append,if_true,if_false,cond_true,Nat.zero_add,Nat.zero_mul,up_succ,up_inj,List.length,nbeq,nble,decide_true,Nat.reduceAdd,eqK,kindNo,Option.map_some,Bool.and_self,Nat.add_assoc,padC,zb,g7,g24,g25,g26,ltI_dec,hkn,ia,hs2,ab]
    generalize hA : appendA _ 7 80 _ _ = A
    generalize hTT : Tr.put _ (up .e (j + 1)) _ = TT at hA
    have k0 : TT.get (up .e (j + 1)) = some (.cells (padC { x with es := s' }) false) := by
      rw [← hTT,Tr.get_put,if_pos rfl]
      rfl
    have kold : ∀ i,i < j → TT.get (up .e i) = t.get (up .e i) := fun i hi => by
      rw [← hTT]
      simp +decide (disch := omega) only [Tr.get_put,up_ne,if_false]
    have hg2 : Grow 7 TT (b + 1) (j + 2) nb pv (ps.map padC) := hg.keep (by omega) (fun _ h => kold nb h)
    have k2 : (ps.map padC).length < 1000000 := by rw [len_map]; omega
    have k3 : b + 1 ≤ j + 2 := by omega
    have k4 : ∀ r ∈ ps.map padC,r.length = 7 := fun r h => by
      obtain ⟨p,_,rfl⟩ := List.mem_map.1 h
      rfl
    have ap := Grow.append hg2 hA k0 (len_pad _) (on_pad _) k4 (by decide) k2 k3
    obtain ⟨t2,hA4,b1,b2,b3⟩ := ap
    subst hA4
    have rb := (b2 b (by omega) (fun _ _ => by omega)).trans ((kold b (by omega)).trans ab)
    simp +decide only [st_mov,st_store,st_bin,st_fieldAddr,storeA,setAt,ones,on_slc,cl_slc,binAV,Tr.get_put,if_true,if_false,cond_true,Nat.zero_add,List.length,nbeq,decide_true,Nat.reduceAdd,eqK,kindNo,Option.map_some,Bool.and_self,Nat.add_assoc,g7,g26,rb,hw,stp_n]
    have hll : (ps ++ [{ x with es := s' }]).length = ps.length + 1 := by rw [List.length_append]; rfl
    have hkb : ∀ X : AB,∀ i,i ≠ b → (t2.put (up .e b) X).get (up .e i) = t2.get (up .e i) := fun X i hi => by
      rw [Tr.get_put,if_neg (fun e => hi (by rw [up_inj] at e; exact e))]
    have hcp : Cps PadK (T.pads.l.take (ps ++ [{ x with es := s' }]).length) (ps ++ [{ x with es := s' }]) := by
      rw [hll,List.take_add_one,hka]
      exact .snoc hc ⟨s',hs1,rfl⟩
    have hmp : (ps ++ [{ x with es := s' }]).map padC = ps.map padC ++ [padC { x with es := s' }] := by rw [List.map_append]; rfl
    refine ⟨m,by omega,_,j + 3,_,j + 2,_,ps ++ [{ x with es := s' }],rfl,by omega,by omega,hcp,?_,?_,?_,?_,?_,?_,?_,(Tr.get_put _ _ _ _).trans (if_pos rfl),?_,fun i hi => ?_⟩
    any_goals simp +decide (disch := omega) only [Tr.get_put,f0,f6,f4,g7,g24,g25,hll,if_true,if_false]
    · rw [hmp]
      exact b3.keep (Nat.le_refl _) (fun _ _ => hkb _ _ (by omega))
    · rw [if_neg (fun e => by rw [up_inj] at e; omega)]
      exact (b2 i (by omega) (fun h1 _ => by omega)).trans ((kold i (by omega)).trans (hold i hi))
end Go.Abs.Sym
end
section
namespace Go.Abs.Sym
open Go.Abs.T
open Go.Proofs
def GetJ (T : TypD) (nm : List Nat) (b ri : Nat) (pv : AV) (ps : List PadD) (nb : Nat) (t0' : Tr AB) (m : Nat) (s : St) : Prop :=
  ∃ fr j t gb gv gs,s = ⟨fr,[],⟨up .e j,t,.lf⟩,.no,none,t10⟩ ∧ b < j ∧ gs.length + m = T.gates.l.length ∧ Cps GateK (T.gates.l.take gs.length) gs ∧
    fr.get t4 = some (.ptr (up .e ri) 0) ∧ fr.get t7 = some (.ptr (up .e b) 0) ∧ fr.get t47 = some (slV gateC T.gates) ∧ fr.get t48 = some (.int .i64 (.ofNat T.gates.l.length)) ∧ fr.get t49 = some (.int .i64 (.ofNat gs.length)) ∧
    t.get (up .e b) = some (.cells [.str nm,pv,gv] false) ∧ Grow 7 t (b + 1) j nb pv (ps.map padC) ∧ Grow 2 t (b + 1) j gb gv (gs.map gateC) ∧ (b + 1 ≤ nb → b + 1 ≤ gb → nb ≠ gb) ∧ (∀ i,i < b → t.get (up .e i) = t0'.get (up .e i))
set_option maxHeartbeats 1000000 in
theorem get_round2 (T : TypD) (sm : Small T) (nm : List Nat) (b ri : Nat) (pv : AV) (ps : List PadD) (nb : Nat) (t0' : Tr AB) (m : Nat) (s : St) (h : GetJ T nm b ri pv ps nb t0' m s) :
    Stp (GetJ T nm b ri pv ps nb t0') (fun o => ∃ s,o = .exit 2 s ∧ GetJ T nm b ri pv ps nb t0' 0 s) m (execA K4 (callN K4 58) c10_l1 s) := by
  obtain ⟨fr,j,t,gb,gv,gs,rfl,hj,hk,hc,f4,g7,g47,g48,g49,ab,hp,hg,hne,hold⟩ := h
  cases m with
  | zero =>
    have hkn : (gs.length < T.gates.l.length) = False := eq_false (by omega)
    simp +decide only [c10_l1,execA,opsA,wantedA,evalAll,evalA,oneA,st_bin,binAV,St.put,Tr.get_put,if_true,cond_true,nbeq,decide_true,decide_false,eqK,kindNo,g48,g49,ltI_dec,hkn,stp_e]
    refine ⟨_,rfl,_,j,t,gb,gv,gs,rfl,hj,hk,hc,?_,?_,?_,?_,?_,ab,hp,hg,hne,hold⟩
    all_goals simp +decide only [Tr.get_put,f4,g7,g47,g48,g49,if_false]
  | succ m =>
    have hkn0 : gs.length < T.gates.l.length := by omega
    have hkn := eq_true hkn0
    have hgl := sm.gates
    have hw := wr_add gs.length 1 (by omega)
    obtain ⟨x,hka⟩ : ∃ x,T.gates.l[gs.length]? = some x := ⟨_,List.getElem?_eq_getElem hkn0⟩
    have ia := at_slV (f := gateC) (sz := 2) len_gate (by decide) hka
    obtain ⟨s',hs1,hs2⟩ := clone32' x.legs (sm.legs x (List.mem_of_getElem? hka))
    have zb := z_ne (i := b) (j := j) (by omega)
    have yb := z_ne' (i := b) (j := j) (by omega)
    simp +decide only [c10_l1,execA,opsA,wantedA,evalAll,evalA,oneA,dregA,dopsA,dstep,isMaker,withP_nil,takesP_nil,leavesP_nil,rd_build,rd_load,rd_fieldp,st_alloc,st_load,st_store,st_bin,st_call,st_fieldAddr,st_indexAddr,st_build,st_buildSl,st_append,mk_buildSl,ld_ptr,ld_rs,H.cellsAt,H.newB,partA,tk_s,tk_0,tk_c,storeA,setAt,fillA,fillS,ones,cl_agg,on_int,cl_int,on_slV,cl_slV,binAV,St.put,Tr.get_put,List.nil_append,List.cons_append,if_true,if_false,cond_true,cond_false,Nat.zero_add,Nat.add_zero,Nat.zero_mul,skip_up0,up_up,up_succ,up_inj,List.length,seesHeap,quiet,recheck,nbeq,nble,decide_true,Nat.reduceAdd,Bool.true_and,Bool.and_true,Bool.and_false,Bool.false_and,Bool.or_false,Bool.or_true,List.all,eqK,kindNo,Option.map_some,beq_rfl,Bool.and_self,Nat.add_assoc,cont_c,cont_n,tkP_c,lvP_c,withP_c,gateC,zb,g7,g47,g48,g49,ltI_dec,hkn,ia,hs2,ab]
    generalize hA : appendA _ 2 32 _ _ = A
    generalize hTT : Tr.put _ (up .e (j + 9)) _ = TT at hA
    have k0 : TT.get (up .e (j + 9)) = some (.cells (gateC { x with legs := s' }) false) := by
      rw [← hTT,Tr.get_put,if_pos rfl]
      rfl
    have kold : ∀ i,i < j → TT.get (up .e i) = t.get (up .e i) := fun i hi => by
      rw [← hTT]
      simp +decide (disch := omega) only [Tr.get_put,up_ne,if_false]
    have hg2 : Grow 2 TT (b + 1) (j + 13) gb gv (gs.map gateC) := hg.keep (by omega) (fun _ h => kold gb h)
    have k2 : (gs.map gateC).length < 1000000 := by rw [len_map]; omega
    have k3 : b + 1 ≤ j + 13 := by omega
    have k4 : ∀ r ∈ gs.map gateC,r.length = 2 := fun r h => by
      obtain ⟨p,_,rfl⟩ := List.mem_map.1 h
      rfl
    have ap := Grow.append hg2 hA k0 (len_gate _) (on_gate _) k4 (by decide) k2 k3
    obtain ⟨t2,hA4,b1,b2,b3⟩ := ap
    subst hA4
    have rb := (b2 b (by omega) (fun _ _ => by omega)).trans ((kold b (by omega)).trans ab)
    have hpv := hp.one
    simp +decide only [withP_nil,takesP_nil,leavesP_nil,rd_load,rd_fieldp,st_mov,st_store,st_bin,ld_ptr,H.cellsAt,partA,tk_s,tk_0,tk_c,storeA,setAt,ones,on_slc,cl_slc,binAV,Tr.get_put,if_true,if_false,cond_true,cond_false,Nat.zero_add,up_inj,List.length,recheck,nbeq,nble,decide_true,decide_false,Nat.reduceAdd,Nat.reduceLeDiff,Bool.and_false,List.all,eqK,kindNo,Option.map_some,beq_rfl,Bool.and_self,Nat.add_assoc,zb,g7,g49,ab,rb,hw,stp_n]
    have hpn := hp.lt
    have hll : (gs ++ [{ x with legs := s' }]).length = gs.length + 1 := by rw [List.length_append]; rfl
    have hkb : ∀ X : AB,∀ i,i ≠ b → (t2.put (up .e b) X).get (up .e i) = t2.get (up .e i) := fun X i hi => by
      rw [Tr.get_put,if_neg (fun e => hi (by rw [up_inj] at e; exact e))]
    have hcp : Cps GateK (T.gates.l.take (gs ++ [{ x with legs := s' }]).length) (gs ++ [{ x with legs := s' }]) := by
      rw [hll,List.take_add_one,hka]
      exact .snoc hc ⟨s',hs1,rfl⟩
    have hmp : (gs ++ [{ x with legs := s' }]).map gateC = gs.map gateC ++ [gateC { x with legs := s' }] := by rw [List.map_append]; rfl
    refine ⟨m,by omega,_,j + 14,_,j + 13,_,gs ++ [{ x with legs := s' }],rfl,by omega,by omega,hcp,?_,?_,?_,?_,?_,(Tr.get_put _ _ _ _).trans (if_pos rfl),hp.keep (by omega) (fun h1 h2 => ?_),?_,by omega,fun i hi => ?_⟩
    any_goals simp +decide (disch := omega) only [Tr.get_put,f4,g7,g47,g48,hll,if_true,if_false]
    · rw [if_neg (fun e => by rw [up_inj] at e; omega)]
      exact (b2 nb (by omega) (fun h3 _ => hne h1 h3)).trans (kold nb h2)
    · rw [hmp]
      exact b3.keep (Nat.le_refl _) (fun _ _ => hkb _ _ (by omega))
    · rw [if_neg (fun e => by rw [up_inj] at e; omega)]
      exact (b2 i (by omega) (fun h1 _ => by omega)).trans ((kold i (by omega)).trans (hold i hi))
end Go.Abs.Sym
end
