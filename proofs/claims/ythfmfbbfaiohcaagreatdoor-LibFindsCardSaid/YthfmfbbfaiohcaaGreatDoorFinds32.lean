/- A part of the proof that LibFinds answers true at every input: AbsSym25, AbsSym26, AbsSym27, AbsSym28. -/
import Derived.Test.YthfmfbbfaiohcaaGreatDoorFinds31
section
namespace Go.Abs.Sym
open Go.Abs.T
open Go.Proofs
def PV (t : Tr AB) (pv : AV) : Prop :=
  pv = .nils ∨ ∃ (nb n : Nat) (c : Option Nat) (rs : List (List AV)) (sp : Bool),pv = .slc (up .e nb) 0 n 7 c ∧ rs.length = n ∧ n < 90000 ∧ t.get (up .e nb) = some (.cells rs.flatten sp) ∧ (∀ r ∈ rs,PadR (fun _ _ => False) r) ∧ 3 ≤ nb
def OddF (o : Out) : Prop :=
  ∃ fr j t nm pv gv,o = .nrm ⟨fr,[],⟨up .e j,t,.lf⟩,.no,none,t7⟩ ∧ fr.get t4 = some (.ptr (up .e 2) 0) ∧ fr.get t5 = some (.ptr (up .e 10) 0) ∧
    t.get (up .e 2) = some (.cells [e0,.nils,.nils] false) ∧ t.get (up .e 10) = some (.cells [.str nm,pv,gv] false) ∧ PV t pv ∧ GV t gv ∧ pv.one = true ∧ gv.one = true
theorem PV.of {t : Tr AB} {lo hi nb : Nat} {pv : AV} {rs : List (List AV)} (h : Grow 7 t lo hi nb pv rs) (hlo : 3 ≤ lo) (hr : ∀ r ∈ rs,PadR (fun _ _ => False) r) (hn : rs.length < 90000) : PV t pv := by
  rcases h with ⟨_,h,_⟩ | ⟨k1,k2,k3,k4,k5⟩
  · exact .inl h
  · exact .inr ⟨nb,rs.length,none,rs,true,k2,rfl,hn,k3,hr,by omega⟩
theorem GV.of {t : Tr AB} {lo hi nb : Nat} {gv : AV} {gs : List (List AV)} {Lt : Nat → Nat → Prop} (h : Grow 2 t lo hi nb gv gs) (hlo : 3 ≤ lo) (hr : ∀ r ∈ gs,GateR Lt r) (hT : Typed lgC Lt t) (hE : ∀ i n,Lt i n → 3 ≤ i) (hn : gs.length < 90000) : GV t gv := by
  rcases h with ⟨_,h,_⟩ | ⟨k1,k2,k3,k4,k5⟩
  · exact .inl h
  · exact .inr ⟨nb,gs.length,none,gs,true,Lt,k2,rfl,hn,k3,hr,hT,by omega,hE⟩
theorem OddB.fin {q0 q1 q2 : Int} {nm : List Nat} {fr : Tr AV} {j : Nat} {t : Tr AB} {pv : AV} {rs : List (List AV)} {nb : Nat} {gv : AV} {gs : List (List AV)} {gb : Nat} {Lt : Nat → Nat → Prop} (ob : OddB q0 q1 q2 nm fr j t pv rs nb gv gs gb Lt) :
    OddF (.nrm ⟨fr,[],⟨up .e j,t,.lf⟩,.no,none,t7⟩) :=
  ⟨fr,j,t,nm,pv,gv,rfl,ob.f4,ob.f5,ob.a2,ob.a10,PV.of ob.gp (by decide) ob.pr (by have := ob.sp; omega),GV.of ob.gg (by decide) (fun r h => (ob.gr r h).r) ob.ty (fun i n h => by have := ob.lt i n h; omega) (by have := ob.sg; omega),ob.gp.one,ob.gg.one⟩
theorem OddB.move {q0 q1 q2 : Int} {nm nm' : List Nat} {fr fr' : Tr AV} {j j' : Nat} {t t' : Tr AB} {pv : AV} {rs : List (List AV)} {nb : Nat} {gv : AV} {gs : List (List AV)} {gb : Nat} {Lt : Nat → Nat → Prop} (ob : OddB q0 q1 q2 nm fr j t pv rs nb gv gs gb Lt)
    (f3 : fr'.get t3 = some (.ptr (up .e 1) 0)) (f4 : fr'.get t4 = some (.ptr (up .e 2) 0)) (f5 : fr'.get t5 = some (.ptr (up .e 10) 0)) (hj : j ≤ j') (a10 : t'.get (up .e 10) = some (.cells [.str nm',pv,gv] false)) (hk : ∀ i,i < j → i ≠ 10 → t'.get (up .e i) = t.get (up .e i)) :
    OddB q0 q1 q2 nm' fr' j' t' pv rs nb gv gs gb Lt where
  f3 := f3
  f4 := f4
  f5 := f5
  hj := by have := ob.hj; omega
  a1 := (hk 1 (by have := ob.hj; omega) (by omega)).trans ob.a1
  a2 := (hk 2 (by have := ob.hj; omega) (by omega)).trans ob.a2
  a10 := a10
  gp := ob.gp.keep hj (fun h1 h2 => hk nb h2 (by omega))
  pr := ob.pr
  gg := ob.gg.keep hj (fun h1 h2 => hk gb h2 (by omega))
  gr := ob.gr
  ty := fun i n h => by
    obtain ⟨ls,sp,h1,h2⟩ := ob.ty i n h
    have := ob.lt i n h
    exact ⟨ls,sp,h1,(hk i (by omega) (by omega)).trans h2⟩
  lt := fun i n h => by have := ob.lt i n h; omega
  ne := ob.ne
  sp := ob.sp
  sg := ob.sg
theorem set_app {a b vs : List AV} {o : Nat} (h : o + vs.length ≤ a.length) : setAt (a ++ b) o vs = (setAt a o vs).map (· ++ b) := by
  induction a generalizing o vs with
  | nil =>
    cases vs with
    | nil => simp only [List.nil_append,setAt,Option.map_some]
    | cons v vs => simp only [List.length_cons,List.length_nil] at h; omega
  | cons c a ih =>
    cases vs with
    | nil => simp only [List.cons_append,setAt,Option.map_some]
    | cons v vs =>
      cases o with
      | zero =>
        simp only [List.length_cons] at h
        simp only [List.cons_append,setAt]
        rw [ih (o := 0) (vs := vs) (by omega)]
        cases setAt a 0 vs <;> rfl
      | succ o =>
        simp only [List.length_cons] at h
        simp only [List.cons_append,setAt]
        rw [ih (o := o) (vs := v :: vs) (by simp only [List.length_cons]; omega)]
        cases setAt a o (v :: vs) <;> rfl
theorem set_skip {a b vs : List AV} {o : Nat} (hv : vs ≠ []) : setAt (a ++ b) (a.length + o) vs = (setAt b o vs).map (a ++ ·) := by
  induction a with
  | nil => simp only [List.nil_append,List.length_nil,Nat.zero_add]; cases setAt b o vs <;> rfl
  | cons c a ih =>
    cases vs with
    | nil => exact absurd rfl hv
    | cons v vs =>
      rw [List.length_cons,show a.length + 1 + o = (a.length + o) + 1 by omega]
      simp only [List.cons_append,setAt,ih]
      cases setAt b o (v :: vs) <;> rfl
theorem set_row {sz : Nat} {vs : List AV} {o : Nat} (hv : vs ≠ []) : ∀ {rs : List (List AV)} {p : Nat} {row row' : List AV},(∀ r ∈ rs,r.length = sz) → rs[p]? = some row → o + vs.length ≤ sz → setAt row o vs = some row' → setAt rs.flatten (p * sz + o) vs = some (rs.set p row').flatten
  | [],p,row,row',_,h,_,_ => by simp at h
  | r :: rs,0,row,row',hl,h,ho,hr => by
    simp only [List.getElem?_cons_zero,Option.some.injEq] at h
    subst h
    rw [Nat.zero_mul,Nat.zero_add,List.flatten_cons,set_app (by rw [hl _ List.mem_cons_self]; exact ho),hr]
    rfl
  | r :: rs,p + 1,row,row',hl,h,ho,hr => by
    have hlen := hl r List.mem_cons_self
    rw [List.flatten_cons,show (p + 1) * sz + o = r.length + (p * sz + o) by rw [hlen,Nat.succ_mul]; omega,set_skip hv,set_row hv (fun x hx => hl x (List.mem_cons_of_mem _ hx)) (by simpa using h) ho hr]
    rfl
theorem take_row {sz o n : Nat} : ∀ {rs : List (List AV)} {p : Nat} {row l : List AV},(∀ r ∈ rs,r.length = sz) → rs[p]? = some row → o + n ≤ sz → takeD row o n = some l → takeD rs.flatten (p * sz + o) n = some l
  | [],p,row,l,_,h,_,_ => by simp at h
  | r :: rs,0,row,l,hl,h,ho,hr => by
    simp only [List.getElem?_cons_zero,Option.some.injEq] at h
    subst h
    rw [Nat.zero_mul,Nat.zero_add,List.flatten_cons]
    simp only [takeD] at hr ⊢
    rw [List.drop_append_of_le_length (by rw [hl _ List.mem_cons_self]; omega),List.take_append_of_le_length (by rw [List.length_drop,hl _ List.mem_cons_self]; omega)]
    exact hr
  | r :: rs,p + 1,row,l,hl,h,ho,hr => by
    have hlen := hl r List.mem_cons_self
    have ih := take_row (rs := rs) (fun x hx => hl x (List.mem_cons_of_mem _ hx)) (by simpa using h) ho hr
    simp only [takeD] at ih ⊢
    rw [List.flatten_cons,show (p + 1) * sz + o = r.length + (p * sz + o) by rw [hlen,Nat.succ_mul]; omega,← List.drop_drop,List.drop_left']
    · exact ih
    · rfl
theorem strs_at (ss : List (List Nat)) {x : Nat} (h : x < ss.length) : ∃ s,takeD (ss.map AV.str) x 1 = some [.str s] := by
  refine ⟨ss[x],?_⟩
  simp only [takeD]
  rw [List.drop_eq_getElem_cons (by simpa using h)]
  simp only [List.take_succ_cons,List.take_zero,List.getElem_map]
  rfl
theorem wr_n1 {x : Nat} (h : x < 1000) : wrapA .i64 (wrapA .i64 (.ofNat x - .ofNat 1) + .ofNat 1) = .ofNat x := by
  have h1 : wrapA .i64 (Int.ofNat x - .ofNat 1) = Int.ofNat x - .ofNat 1 := wr_id (by simp only [Int.ofNat_eq_natCast]; omega) (by simp only [Int.ofNat_eq_natCast]; omega)
  rw [h1]
  have h2 : Int.ofNat x - .ofNat 1 + .ofNat 1 = .ofNat x := by simp only [Int.ofNat_eq_natCast]; omega
  rw [h2]
  exact wr_id (by simp only [Int.ofNat_eq_natCast]; omega) (by simp only [Int.ofNat_eq_natCast]; omega)
theorem ia_slc {id : Pth} {n sz p : Nat} {c : Option Nat} (h : p < n) : indexAddrA (.slc sz) (.slc id 0 n sz c) (.int .i64 (.ofNat p)) = some (.ptr id (0 + p * sz)) := by
  have h1 : leI 0 (.ofNat p) = true := rfl
  have h2 : ltI (.ofNat p) (.ofNat n) = true := by rw [b_lt]; exact decide_eq_true h
  simp only [indexAddrA,nbeq,decide_true,h1,h2,Bool.and_self,cond_true,Int.toNat]
theorem odd_k0 {q0 q1 q2 : Int} {nm : List Nat} {fr : Tr AV} {j : Nat} {t : Tr AB} {pv : AV} {rs : List (List AV)} {nb : Nat} {gv : AV} {gs : List (List AV)} {gb : Nat} {Lt : Nat → Nat → Prop} (ob : OddB q0 q1 q2 nm fr j t pv rs nb gv gs gb Lt)
    {x : Nat} (hx : x < 8) (g7 : fr.get t7 = some (.int .i64 (wrapA .i64 (.ofNat x - .ofNat 1)))) : OddF (execA K2 (callN K2 49) c7_k0 ⟨fr,[],⟨up .e j,t,.lf⟩,.no,none,t7⟩) := by
  have hj := ob.hj
  have g5 := ob.f5
  have a10 := ob.a10
  have hpv := ob.gp.one
  have hgv := ob.gg.one
  have hn := wr_n1 (x := x) (by omega)
  obtain ⟨s,hs⟩ := strs_at [[],[49,97],[97,32,98],[97,98,99,100,101,102,103,104,105,106,107,108,109,110,111,112],[97,98,99,100,101,102,103,104,105,106,107,108,109,110,111,112,113],[43,97],[95],[97,47,98]] (x := x) hx
  simp only [List.map_cons,List.map_nil] at hs
  have hi := ia_slc (id := up .e j) (n := 8) (sz := 1) (p := x) (c := some 8) hx
  simp only [Nat.zero_add,Nat.mul_one] at hi
  simp +decide (disch := omega) only [c7_k0,execA,opsA,wantedA,evalAll,evalA,oneA,st_mov,st_load,st_store,st_bin,st_fieldAddr,st_indexAddr,st_buildSl,ld_ptr,H.cellsAt,H.newB,partA,storeA,setAt,fillS,ones,on_str,cl_str,binAV,St.put,Tr.get_put,if_true,if_false,cond_true,Nat.zero_add,Nat.add_zero,Nat.zero_mul,Nat.one_mul,up_succ,up_ne,Bool.and_self,List.length,nbeq,nble,decide_true,Nat.reduceAdd,Nat.reduceMul,eqK,kindNo,Option.map_some,g5,g7,a10,hn,hi,hs]
  refine OddB.fin (OddB.move ob ?_ ?_ ?_ (Nat.le_succ j) (nm' := s) ?_ (fun i h1 h2 => ?_))
  all_goals simp +decide (disch := omega) only [Tr.get_put,up_ne,ob.f3,ob.f4,ob.f5,if_true,if_false]
theorem OddB.setp {q0 q1 q2 : Int} {nm : List Nat} {fr fr' : Tr AV} {j j' : Nat} {t t' : Tr AB} {pv : AV} {rs : List (List AV)} {nb : Nat} {gv : AV} {gs : List (List AV)} {gb : Nat} {Lt : Nat → Nat → Prop} (ob : OddB q0 q1 q2 nm fr j t pv rs nb gv gs gb Lt)
    {p : Nat} {row : List AV} (hp : p < rs.length) (hrow : PadR (fun _ _ => False) row) (f3 : fr'.get t3 = some (.ptr (up .e 1) 0)) (f4 : fr'.get t4 = some (.ptr (up .e 2) 0)) (f5 : fr'.get t5 = some (.ptr (up .e 10) 0)) (hj : j ≤ j')
    (hset : t'.get (up .e nb) = some (.cells (rs.set p row).flatten true)) (hk : ∀ i,i < j → i ≠ nb → t'.get (up .e i) = t.get (up .e i)) :
    OddB q0 q1 q2 nm fr' j' t' pv (rs.set p row) nb gv gs gb Lt := by
  have hgp : pv = .slc (up .e nb) 0 rs.length 7 none ∧ 11 ≤ nb ∧ nb < j := by
    rcases ob.gp with ⟨h,_⟩ | ⟨_,h,_,h2,h3⟩
    · rw [h] at hp; simp at hp
    · exact ⟨h,h2,h3⟩
  obtain ⟨h1,h2,h3⟩ := hgp
  have hgl := ob.gg.lt
  have hne := ob.ne
  have hj0 := ob.hj
  exact {
    f3 := f3,f4 := f4,f5 := f5,hj := by omega
    a1 := (hk 1 (by omega) (by omega)).trans ob.a1
    a2 := (hk 2 (by omega) (by omega)).trans ob.a2
    a10 := (hk 10 (by omega) (by omega)).trans ob.a10
    gp := .inr ⟨by rw [List.length_set]; omega,by rw [List.length_set]; exact h1,hset,h2,by omega⟩
    pr := fun r hr => by
      rcases List.mem_or_eq_of_mem_set hr with h | rfl
      · exact ob.pr r h
      · exact hrow
    gg := ob.gg.keep hj (fun k1 k2 => hk gb k2 (by have := hne h2 k1; omega))
    gr := ob.gr
    ty := fun i n h => by
      obtain ⟨ls,sp,k1,k2⟩ := ob.ty i n h
      have := ob.lt i n h
      exact ⟨ls,sp,k1,(hk i (by omega) (by omega)).trans k2⟩
    lt := fun i n h => by have := ob.lt i n h; omega
    ne := ob.ne
    sp := by rw [List.length_set]; exact ob.sp
    sg := ob.sg }
theorem OddB.pad {q0 q1 q2 : Int} {nm : List Nat} {fr : Tr AV} {j : Nat} {t : Tr AB} {pv : AV} {rs : List (List AV)} {nb : Nat} {gv : AV} {gs : List (List AV)} {gb : Nat} {Lt : Nat → Nat → Prop} (ob : OddB q0 q1 q2 nm fr j t pv rs nb gv gs gb Lt)
    {p : Nat} (hp : p < rs.length) : pv = .slc (up .e nb) 0 rs.length 7 none ∧ 11 ≤ nb ∧ nb < j ∧ t.get (up .e nb) = some (.cells rs.flatten true) ∧ (∀ c,indexAddrA (.slc 7) (.slc (up .e nb) 0 rs.length 7 c) (.int .i64 (.ofNat p)) = some (.ptr (up .e nb) (p * 7))) ∧
      ∃ n kd ev r x y dr,SlT edC 7 (fun _ _ => False) ev ∧ (∀ o k l,o + k ≤ 7 → takeD [.str n,.int .i64 kd,ev,.int .i64 r,.int .i64 x,.int .i64 y,.int .i64 dr] o k = some l → takeD rs.flatten (p * 7 + o) k = some l) ∧
        (∀ o vs l,vs ≠ [] → o + vs.length ≤ 7 → setAt [.str n,.int .i64 kd,ev,.int .i64 r,.int .i64 x,.int .i64 y,.int .i64 dr] o vs = some l → setAt rs.flatten (p * 7 + o) vs = some (rs.set p l).flatten) := by
  rcases ob.gp with ⟨h,_⟩ | ⟨_,h,h1,h2,h3⟩
  · rw [h] at hp; simp at hp
  · have hrow := List.getElem?_eq_getElem hp
    obtain ⟨n,kd,ev,r,x,y,dr,e,he⟩ := ob.pr rs[p] (List.getElem_mem hp)
    rw [e] at hrow
    refine ⟨h,h2,h3,h1,fun c => by rw [ia_slc hp,Nat.zero_add],n,kd,ev,r,x,y,dr,he,fun o k l ho ht => take_row (fun r h => (ob.pr r h).len) hrow ho ht,fun o vs l hv ho ht => set_row hv (fun r h => (ob.pr r h).len) hrow ho ht⟩
theorem odd_k1 {q0 q1 q2 : Int} {nm : List Nat} {fr : Tr AV} {j : Nat} {t : Tr AB} {pv : AV} {rs : List (List AV)} {nb : Nat} {gv : AV} {gs : List (List AV)} {gb : Nat} {Lt : Nat → Nat → Prop} (ob : OddB q0 q1 q2 nm fr j t pv rs nb gv gs gb Lt)
    {x p : Nat} (hx : x < 8) (hp : p < rs.length) (g7 : fr.get t7 = some (.int .i64 (wrapA .i64 (.ofNat x - .ofNat 1)))) (g8 : fr.get t8 = some (.int .i64 (.ofNat p))) : OddF (execA K2 (callN K2 49) c7_k1 ⟨fr,[],⟨up .e j,t,.lf⟩,.no,none,t7⟩) := by
  have hj := ob.hj
  have g5 := ob.f5
  have a10 := ob.a10
  have hn := wr_n1 (x := x) (by omega)
  obtain ⟨s,hs⟩ := strs_at [[],[80,49],[80,32,49],[80,55],[68,91,51,93],[68,91,51,46,46,51,93],[68,91,49,46,46,48,93],[68,91,48,51,93]] (x := x) hx
  simp only [List.map_cons,List.map_nil] at hs
  have hi := ia_slc (id := up .e (j + 3)) (n := 8) (sz := 1) (p := x) (c := some 8) hx
  simp only [Nat.zero_add,Nat.mul_one] at hi
  obtain ⟨hpv,hb1,hb2,hb3,hip,n,kd,ev,r,xx,yy,dr,he,htk,hst⟩ := ob.pad hp
  have hset := hst 0 [.str s] _ (by simp) (by simp) rfl
  rw [Nat.add_zero] at hset
  have y1 := z_ne' (i := 10) (j := j) (by omega)
  have y2 := z_ne' (i := nb) (j := j) (by omega)
  simp +decide only [c7_k1,execA,wantedA,evalAll,evalA,oneA,dregA,dopsA,dstep,isMaker,withP_nil,takesP_nil,leavesP_nil,rd_mov,rd_load,rd_bin,rd_fieldp,rd_indexAddr,st_mov,st_load,st_store,st_bin,st_fieldAddr,st_indexAddr,st_buildSl,mk_buildSl,ld_ptr,H.cellsAt,H.newB,partA,tk_s,tk_0,tk_c,storeA,setAt,fillS,ones,on_str,cl_str,binAV,St.put,Tr.get_put,if_true,if_false,cond_true,cond_false,Nat.zero_add,Nat.add_zero,Nat.zero_mul,Nat.one_mul,skip_up0,up_up,up_succ,up_inj,List.length,seesHeap,quiet,nbeq,nble,decide_true,Nat.reduceAdd,Nat.reduceMul,Bool.and_true,Bool.and_false,Bool.or_false,Bool.or_true,List.all,eqK,kindNo,Option.map_some,Bool.and_self,Nat.add_assoc,cont_c,cont_n,tkP_c,lvP_c,withP_c,y2,g5,g7,g8,a10,hn,hi,hs,hpv,hip,hb3,hset]
  rw [← hpv]
  refine OddB.fin (OddB.setp ob hp (row := [.str s,.int .i64 kd,ev,.int .i64 r,.int .i64 xx,.int .i64 yy,.int .i64 dr]) ⟨_,_,_,_,_,_,_,rfl,he⟩ ?_ ?_ ?_ (Nat.le_add_right j 11) ?_ (fun i h1 h2 => ?_))
  all_goals simp +decide (disch := omega) only [Tr.get_put,up_ne,ob.f3,ob.f4,ob.f5,if_true,if_false]
theorem odd_k2 {q0 q1 q2 : Int} {nm : List Nat} {fr : Tr AV} {j : Nat} {t : Tr AB} {pv : AV} {rs : List (List AV)} {nb : Nat} {gv : AV} {gs : List (List AV)} {gb : Nat} {Lt : Nat → Nat → Prop} (ob : OddB q0 q1 q2 nm fr j t pv rs nb gv gs gb Lt)
    {x p : Nat} (hp : p < rs.length) (g7 : fr.get t7 = some (.int .i64 (wrapA .i64 (.ofNat x - .ofNat 1)))) (g8 : fr.get t8 = some (.int .i64 (.ofNat p))) : OddF (execA K2 (callN K2 49) c7_k2 ⟨fr,[],⟨up .e j,t,.lf⟩,.no,none,t7⟩) := by
  have hj := ob.hj
  have g5 := ob.f5
  have a10 := ob.a10
  obtain ⟨hpv,hb1,hb2,hb3,hip,n,kd,ev,r,xx,yy,dr,he,htk,hst⟩ := ob.pad hp
  have y1 := z_ne' (i := 10) (j := j) (by omega)
  have y2 := z_ne' (i := nb) (j := j) (by omega)
  have htk4 := htk 4 1 [.int .i64 xx] (by decide) rfl
  have hset := fun v => hst 4 [.int .i64 v] _ (by simp) (by simp) rfl
  simp +decide only [c7_k2,execA,wantedA,evalAll,evalA,oneA,dregA,dopsA,dstep,isMaker,withP_nil,takesP_nil,leavesP_nil,rd_mov,rd_load,rd_bin,rd_fieldp,rd_indexAddr,st_mov,st_load,st_store,st_bin,st_fieldAddr,st_indexAddr,ld_ptr,H.cellsAt,partA,tk_s,tk_0,tk_c,storeA,ones,on_int,cl_int,binAV,St.put,Tr.get_put,if_true,if_false,cond_true,cond_false,Nat.zero_add,Nat.add_zero,skip_up0,up_up,up_succ,List.length,seesHeap,quiet,nbeq,decide_true,Nat.reduceAdd,Bool.and_true,Bool.and_false,Bool.or_true,List.all,eqK,kindNo,Option.map_some,Bool.and_self,Nat.add_assoc,g5,g7,g8,a10,hpv,hip,hb3,hset,htk4]
  rw [← hpv]
  refine OddB.fin (OddB.setp ob hp ?_ ?_ ?_ ?_ (Nat.le_add_right j 17) ((Tr.get_put _ _ _ _).trans (if_pos rfl)) (fun i h1 h2 => ?_))
  · exact ⟨_,_,_,_,_,_,_,rfl,he⟩
  all_goals simp +decide (disch := omega) only [Tr.get_put,up_ne,ob.f3,ob.f4,ob.f5,if_false]
theorem odd_k3 {q0 q1 q2 : Int} {nm : List Nat} {fr : Tr AV} {j : Nat} {t : Tr AB} {pv : AV} {rs : List (List AV)} {nb : Nat} {gv : AV} {gs : List (List AV)} {gb : Nat} {Lt : Nat → Nat → Prop} (ob : OddB q0 q1 q2 nm fr j t pv rs nb gv gs gb Lt)
    {x p : Nat} (hp : p < rs.length) (g7 : fr.get t7 = some (.int .i64 (wrapA .i64 (.ofNat x - .ofNat 1)))) (g8 : fr.get t8 = some (.int .i64 (.ofNat p))) : OddF (execA K2 (callN K2 49) c7_k3 ⟨fr,[],⟨up .e j,t,.lf⟩,.no,none,t7⟩) := by
  have hj := ob.hj
  have g5 := ob.f5
  have a10 := ob.a10
  obtain ⟨hpv,hb1,hb2,hb3,hip,n,kd,ev,r,xx,yy,dr,he,htk,hst⟩ := ob.pad hp
  have y1 := z_ne' (i := 10) (j := j) (by omega)
  have y2 := z_ne' (i := nb) (j := j) (by omega)
  have hset := fun v => hst 6 [.int .i64 v] _ (by simp) (by simp) rfl
  simp +decide only [c7_k3,execA,opsA,wantedA,evalAll,evalA,oneA,st_mov,st_load,st_store,st_bin,st_fieldAddr,st_indexAddr,ld_ptr,H.cellsAt,partA,tk_s,tk_0,tk_c,storeA,ones,on_int,cl_int,binAV,St.put,Tr.get_put,if_true,if_false,cond_true,Nat.zero_add,List.length,nbeq,decide_true,eqK,kindNo,Option.map_some,Bool.and_self,g5,g7,g8,a10,hpv,hip,hb3,hset]
  rw [← hpv]
  refine OddB.fin (OddB.setp ob hp ?_ ?_ ?_ ?_ (Nat.le_refl j) ((Tr.get_put _ _ _ _).trans (if_pos rfl)) (fun i h1 h2 => ?_))
  · exact ⟨_,_,_,_,_,_,_,rfl,he⟩
  all_goals simp +decide (disch := omega) only [Tr.get_put,up_ne,ob.f3,ob.f4,ob.f5,if_false]
theorem odd_k4 {q0 q1 q2 : Int} {nm : List Nat} {fr : Tr AV} {j : Nat} {t : Tr AB} {pv : AV} {rs : List (List AV)} {nb : Nat} {gv : AV} {gs : List (List AV)} {gb : Nat} {Lt : Nat → Nat → Prop} (ob : OddB q0 q1 q2 nm fr j t pv rs nb gv gs gb Lt)
    {x p : Nat} (hp : p < rs.length) (g7 : fr.get t7 = some (.int .i64 (wrapA .i64 (.ofNat x - .ofNat 1)))) (g8 : fr.get t8 = some (.int .i64 (.ofNat p))) : OddF (execA K2 (callN K2 49) c7_k4 ⟨fr,[],⟨up .e j,t,.lf⟩,.no,none,t7⟩) := by
  have hj := ob.hj
  have g5 := ob.f5
  have a10 := ob.a10
  obtain ⟨hpv,hb1,hb2,hb3,hip,n,kd,ev,r,xx,yy,dr,he,htk,hst⟩ := ob.pad hp
  have y1 := z_ne' (i := 10) (j := j) (by omega)
  have y2 := z_ne' (i := nb) (j := j) (by omega)
  have hset := fun v => hst 6 [.int .i64 v] _ (by simp) (by simp) rfl
  simp +decide only [c7_k4,execA,opsA,wantedA,evalAll,evalA,oneA,st_mov,st_load,st_store,st_fieldAddr,st_indexAddr,ld_ptr,H.cellsAt,partA,tk_s,tk_0,tk_c,storeA,ones,on_int,cl_int,St.put,Tr.get_put,if_true,if_false,cond_true,Nat.zero_add,List.length,nbeq,decide_true,Option.map_some,Bool.and_self,g5,g7,g8,a10,hpv,hip,hb3,hset]
  rw [← hpv]
  refine OddB.fin (OddB.setp ob hp ?_ ?_ ?_ ?_ (Nat.le_refl j) ((Tr.get_put _ _ _ _).trans (if_pos rfl)) (fun i h1 h2 => ?_))
  · exact ⟨_,_,_,_,_,_,_,rfl,he⟩
  all_goals simp +decide (disch := omega) only [Tr.get_put,up_ne,ob.f3,ob.f4,ob.f5,if_false]
theorem odd_k5 {q0 q1 q2 : Int} {nm : List Nat} {fr : Tr AV} {j : Nat} {t : Tr AB} {pv : AV} {rs : List (List AV)} {nb : Nat} {gv : AV} {gs : List (List AV)} {gb : Nat} {Lt : Nat → Nat → Prop} (ob : OddB q0 q1 q2 nm fr j t pv rs nb gv gs gb Lt)
    {x p : Nat} (hp : p < rs.length) (g7 : fr.get t7 = some (.int .i64 (wrapA .i64 (.ofNat x - .ofNat 1)))) (g8 : fr.get t8 = some (.int .i64 (.ofNat p))) : OddF (execA K2 (callN K2 49) c7_k5 ⟨fr,[],⟨up .e j,t,.lf⟩,.no,none,t7⟩) := by
  have hj := ob.hj
  have g5 := ob.f5
  have a10 := ob.a10
  obtain ⟨hpv,hb1,hb2,hb3,hip,n,kd,ev,r,xx,yy,dr,he,htk,hst⟩ := ob.pad hp
  have y1 := z_ne' (i := 10) (j := j) (by omega)
  have y2 := z_ne' (i := nb) (j := j) (by omega)
  have hset := fun v => hst 3 [.int .i64 v] _ (by simp) (by simp) rfl
  simp +decide only [c7_k5,execA,opsA,wantedA,evalAll,evalA,oneA,st_mov,st_load,st_store,st_fieldAddr,st_indexAddr,st_neg,ld_ptr,H.cellsAt,partA,tk_s,tk_0,tk_c,storeA,ones,on_int,cl_int,St.put,Tr.get_put,if_true,if_false,cond_true,Nat.zero_add,List.length,nbeq,decide_true,Nat.reduceAdd,Option.map_some,Bool.and_self,Nat.add_assoc,g5,g7,g8,a10,hpv,hip,hb3,hset]
  rw [← hpv]
  refine OddB.fin (OddB.setp ob hp ?_ ?_ ?_ ?_ (Nat.le_refl j) ((Tr.get_put _ _ _ _).trans (if_pos rfl)) (fun i h1 h2 => ?_))
  · exact ⟨_,_,_,_,_,_,_,rfl,he⟩
  all_goals simp +decide (disch := omega) only [Tr.get_put,up_ne,ob.f3,ob.f4,ob.f5,if_false]
theorem odd_k7 {q0 q1 q2 : Int} {nm : List Nat} {fr : Tr AV} {j : Nat} {t : Tr AB} {pv : AV} {rs : List (List AV)} {nb : Nat} {gv : AV} {gs : List (List AV)} {gb : Nat} {Lt : Nat → Nat → Prop} (ob : OddB q0 q1 q2 nm fr j t pv rs nb gv gs gb Lt) :
    OddF (execA K2 (callN K2 49) c7_k7 ⟨fr,[],⟨up .e j,t,.lf⟩,.no,none,t7⟩) := by
  have hj := ob.hj
  have g5 := ob.f5
  have a10 := ob.a10
  have hgl := ob.gg.lt
  simp +decide only [c7_k7,execA,opsA,wantedA,evalAll,evalA,oneA,st_store,st_fieldAddr,storeA,setAt,ones,on_nils,cl_nils,St.put,Tr.get_put,if_true,cond_true,Nat.zero_add,List.length,nbeq,decide_true,Option.map_some,Bool.and_self,g5,a10]
  refine ⟨_,j,_,nm,.nils,gv,rfl,?_,?_,?_,?_,.inl rfl,GV.of (ob.gg.keep (Nat.le_refl _) (fun h1 h2 => ?_)) (by decide) (fun r h => (ob.gr r h).r) (ob.ty.put (fun i n h => by have := ob.lt i n h; omega) _) (fun i n h => by have := ob.lt i n h; omega) (by have := ob.sg; omega),rfl,ob.gg.one⟩
  all_goals simp +decide (disch := omega) only [Tr.get_put,up_ne,ob.f4,ob.f5,ob.a2,if_true,if_false]
theorem odd_k6 {q0 q1 q2 : Int} {nm : List Nat} {fr : Tr AV} {j : Nat} {t : Tr AB} {pv : AV} {rs : List (List AV)} {nb : Nat} {gv : AV} {gs : List (List AV)} {gb : Nat} {Lt : Nat → Nat → Prop} (ob : OddB q0 q1 q2 nm fr j t pv rs nb gv gs gb Lt)
    {x p : Nat} (hp : p < rs.length) (g7 : fr.get t7 = some (.int .i64 (wrapA .i64 (.ofNat x - .ofNat 1)))) (g8 : fr.get t8 = some (.int .i64 (.ofNat p))) : OddF (execA K2 (callN K2 49) (.seq c7_k6a c7_k6b) ⟨fr,[],⟨up .e j,t,.lf⟩,.no,none,t7⟩) := by
  have hj := ob.hj
  have g5 := ob.f5
  have a10 := ob.a10
  obtain ⟨hpv,hb1,hb2,hb3,hip,n,kd,ev,r,xx,yy,dr,he,htk,hst⟩ := ob.pad hp
  have y1 := z_ne' (i := 10) (j := j) (by omega)
  have y2 := z_ne' (i := nb) (j := j) (by omega)
  have hset := fun v w => hst 4 [.int .i64 v,.int .i64 w] _ (by simp) (by simp) rfl
  have h1 : ∃ fr2 t2 v,execA K2 (callN K2 49) c7_k6a ⟨fr,[],⟨up .e j,t,.lf⟩,.no,none,t7⟩ = .nrm ⟨fr2,[],⟨up .e j,t2,.lf⟩,.no,none,t7⟩ ∧ OddB q0 q1 q2 nm fr2 j t2 pv (rs.set p [.str n,.int .i64 kd,ev,.int .i64 r,.int .i64 v,.int .i64 0,.int .i64 dr]) nb gv gs gb Lt ∧ fr2.get t7 = fr.get t7 ∧ fr2.get t8 = fr.get t8 := by
    simp +decide only [c7_k6a,execA,opsA,wantedA,evalAll,evalA,oneA,st_mov,st_load,st_store,st_bin,st_fieldAddr,st_indexAddr,st_build,ld_ptr,H.cellsAt,partA,tk_s,tk_0,tk_c,storeA,setAt,fillA,ones,cl_agg,on_int,cl_int,binAV,St.put,Tr.get_put,if_true,if_false,cond_true,Nat.zero_add,List.length,nbeq,nble,decide_true,Nat.reduceAdd,eqK,kindNo,Option.map_some,Bool.and_self,g5,g7,g8,a10,hpv,hip,hb3,hset]
    refine ⟨_,_,wrapA .i64 (.ofNat 1048576 + wrapA .i64 (.ofNat x - .ofNat 1)),rfl,?_,?_,?_⟩
    · rw [← hpv]
      refine OddB.setp ob hp ?_ ?_ ?_ ?_ (Nat.le_refl j) ((Tr.get_put _ _ _ _).trans (if_pos rfl)) (fun i h1 h2 => ?_)
      · exact ⟨_,_,_,_,_,_,_,rfl,he⟩
      all_goals simp +decide (disch := omega) only [Tr.get_put,up_ne,ob.f3,ob.f4,ob.f5,if_false]
    all_goals simp +decide only [Tr.get_put,g7,g8,if_false]
  obtain ⟨fr2,t2,v,e,ob2,k7,k8⟩ := h1
  rw [g7] at k7
  rw [g8] at k8
  simp only [execA,e]
  have hp2 : p < (rs.set p [.str n,.int .i64 kd,ev,.int .i64 r,.int .i64 v,.int .i64 0,.int .i64 dr]).length := by rw [List.length_set]; exact hp
  generalize rs.set p [.str n,.int .i64 kd,ev,.int .i64 r,.int .i64 v,.int .i64 0,.int .i64 dr] = rs2 at ob2 hp2
  have g5 := ob2.f5
  have a10 := ob2.a10
  clear he htk hst hip hb3 hpv hset ob
  obtain ⟨hpv,hb1,hb2,hb3,hip,n,kd,ev,r,xx,yy,dr,he,htk,hst⟩ := ob2.pad hp2
  have hset := fun u z w => hst 1 [.int .i64 u,slV edC z,.int .i64 w] _ (by simp) (by simp) rfl
  simp +decide only [c7_k6b,execA,wantedA,evalAll,evalA,oneA,dregA,dopsA,dstep,isMaker,withP_nil,takesP_nil,leavesP_nil,rd_mov,rd_build,rd_load,rd_bin,rd_fieldp,rd_indexAddr,st_mov,st_load,st_store,st_bin,st_call,st_fieldAddr,st_indexAddr,st_build,ld_ptr,H.cellsAt,partA,tk_s,tk_0,tk_c,storeA,setAt,fillA,ones,cl_agg,on_int,cl_int,on_slV,binAV,St.put,Tr.get_put,if_true,if_false,cond_true,cond_false,Nat.zero_add,skip_up0,up_up,up_succ,up_inj,List.length,seesHeap,quiet,recheck,nbeq,nble,decide_true,decide_false,Nat.reduceAdd,Bool.and_true,Bool.and_false,Bool.or_true,List.all,eqK,kindNo,Option.map_some,beq_rfl,Bool.and_self,Nat.add_assoc,g5,k7,k8,a10,hpv,hip,hb3,hset,disc2]
  rw [← hpv]
  refine OddB.fin (OddB.setp ob2 hp2 ?_ ?_ ?_ ?_ (Nat.le_add_right j 10) ((Tr.get_put _ _ _ _).trans (if_pos rfl)) (fun i h1 h2 => ?_))
  · exact ⟨_,_,_,_,_,_,_,rfl,.inl ⟨_,by show (1 : Nat) < 90000; decide,rfl⟩⟩
  all_goals simp +decide (disch := omega) only [Tr.get_put,up_ne,ob2.f3,ob2.f4,ob2.f5,if_false]
end Go.Abs.Sym
end
section
namespace Go.Abs.Sym
open Go.Abs.T
open Go.Proofs
theorem OddB.addg {q0 q1 q2 : Int} {nm : List Nat} {fr fr' : Tr AV} {j j' : Nat} {t t' : Tr AB} {pv : AV} {rs : List (List AV)} {nb : Nat} {gv gv' : AV} {gs : List (List AV)} {gb m : Nat} {Lt Lt' : Nat → Nat → Prop} {row : List AV} (ob : OddB q0 q1 q2 nm fr j t pv rs nb gv gs gb Lt)
    (f3 : fr'.get t3 = some (.ptr (up .e 1) 0)) (f4 : fr'.get t4 = some (.ptr (up .e 2) 0)) (f5 : fr'.get t5 = some (.ptr (up .e 10) 0)) (hm : j ≤ m) (hmj : m < j') (a10 : t'.get (up .e 10) = some (.cells [.str nm,pv,gv'] false))
    (hgg : Grow 2 t' 11 j' m gv' (gs ++ [row])) (hrow : GateL Lt' row) (hL : ∀ i n,Lt' i n → Lt i n ∨ (j ≤ i ∧ i < j' ∧ i ≠ m ∧ ∃ (ls : List Lg) (sp : Bool),n ≤ ls.length ∧ t'.get (up .e i) = some (.cells (ls.flatMap lgC) sp))) (hL2 : ∀ i n,Lt i n → Lt' i n)
    (hk : ∀ i,i < j → i ≠ 10 → (11 ≤ gb → gb < j → i ≠ gb) → t'.get (up .e i) = t.get (up .e i)) (hs : gs.length + 1 ≤ 1000) : OddB q0 q1 q2 nm fr' j' t' pv rs nb gv' (gs ++ [row]) m Lt' := by
  have hgl := ob.gg.lt
  have hpl := ob.gp.lt
  have hj := ob.hj
  have hne := ob.ne
  exact {
    f3 := f3,f4 := f4,f5 := f5,hj := by omega
    a1 := (hk 1 (by omega) (by omega) (fun _ _ => by omega)).trans ob.a1
    a2 := (hk 2 (by omega) (by omega) (fun _ _ => by omega)).trans ob.a2
    a10 := a10
    gp := ob.gp.keep (by omega) (fun h1 h2 => hk nb h2 (by omega) (fun h3 _ => hne h1 h3))
    pr := ob.pr
    gg := hgg
    gr := fun r h => by
      rcases List.mem_append.1 h with h | h
      · exact (ob.gr r h).mono hL2
      · rw [List.mem_singleton.1 h]; exact hrow
    ty := fun i n h => by
      rcases hL i n h with h | ⟨_,_,_,h⟩
      · obtain ⟨ls,sp,k1,k2⟩ := ob.ty i n h
        have := ob.lt i n h
        exact ⟨ls,sp,k1,(hk i (by omega) (by omega) (fun _ _ => by omega)).trans k2⟩
      · exact h
    lt := fun i n h => by
      rcases hL i n h with h | ⟨h1,h2,h3,_⟩
      · have := ob.lt i n h
        omega
      · omega
    ne := by omega
    sp := ob.sp
    sg := by rw [List.length_append]; exact hs }
theorem OddB.addp {q0 q1 q2 : Int} {nm : List Nat} {fr fr' : Tr AV} {j j' : Nat} {t t' : Tr AB} {pv pv' : AV} {rs : List (List AV)} {nb : Nat} {gv : AV} {gs : List (List AV)} {gb m : Nat} {Lt : Nat → Nat → Prop} {row : List AV} (ob : OddB q0 q1 q2 nm fr j t pv rs nb gv gs gb Lt)
    (f3 : fr'.get t3 = some (.ptr (up .e 1) 0)) (f4 : fr'.get t4 = some (.ptr (up .e 2) 0)) (f5 : fr'.get t5 = some (.ptr (up .e 10) 0)) (hm : j ≤ m) (hmj : m < j') (a10 : t'.get (up .e 10) = some (.cells [.str nm,pv',gv] false))
    (hgg : Grow 7 t' 11 j' m pv' (rs ++ [row])) (hrow : PadR (fun _ _ => False) row)
    (hk : ∀ i,i < j → i ≠ 10 → (11 ≤ nb → nb < j → i ≠ nb) → t'.get (up .e i) = t.get (up .e i)) (hs : rs.length + 1 ≤ 1000) : OddB q0 q1 q2 nm fr' j' t' pv' (rs ++ [row]) m gv gs gb Lt := by
  have hgl := ob.gg.lt
  have hpl := ob.gp.lt
  have hj := ob.hj
  have hne := ob.ne
  exact {
    f3 := f3,f4 := f4,f5 := f5,hj := by omega
    a1 := (hk 1 (by omega) (by omega) (fun _ _ => by omega)).trans ob.a1
    a2 := (hk 2 (by omega) (by omega) (fun _ _ => by omega)).trans ob.a2
    a10 := a10
    gp := hgg
    pr := fun r h => by
      rcases List.mem_append.1 h with h | h
      · exact ob.pr r h
      · rw [List.mem_singleton.1 h]; exact hrow
    gg := ob.gg.keep (by omega) (fun h1 h2 => hk gb h2 (by omega) (fun h3 _ => by have := hne h3 h1; omega))
    gr := ob.gr
    ty := fun i n h => by
      obtain ⟨ls,sp,k1,k2⟩ := ob.ty i n h
      have := ob.lt i n h
      exact ⟨ls,sp,k1,(hk i (by omega) (by omega) (fun _ _ => by omega)).trans k2⟩
    lt := fun i n h => by
      have := ob.lt i n h
      omega
    ne := by omega
    sp := by rw [List.length_append]; exact hs
    sg := ob.sg }
theorem odd_k9 {q0 q1 q2 : Int} {nm : List Nat} {fr : Tr AV} {j : Nat} {t : Tr AB} {pv : AV} {rs : List (List AV)} {nb : Nat} {gv : AV} {gs : List (List AV)} {gb : Nat} {Lt : Nat → Nat → Prop} (ob : OddB q0 q1 q2 nm fr j t pv rs nb gv gs gb Lt) (hgs : gs.length < 1000)
    {x p : Nat} (hp : p < rs.length) (g7 : fr.get t7 = some (.int .i64 (wrapA .i64 (.ofNat x - .ofNat 1)))) (g8 : fr.get t8 = some (.int .i64 (.ofNat p))) : OddF (execA K2 (callN K2 49) c7_k9 ⟨fr,[],⟨up .e j,t,.lf⟩,.no,none,t7⟩) := by
  have hj := ob.hj
  have g5 := ob.f5
  have a10 := ob.a10
  have hpv1 := ob.gp.one
  have hgl := ob.gg.lt
  obtain ⟨hpv,hb1,hb2,hb3,hip,n,kd,ev,r,xx,yy,dr,he,htk,hst⟩ := ob.pad hp
  have htk0 := htk 0 1 [.str n] (by decide) rfl
  rw [Nat.add_zero] at htk0
  have y1 := z_ne' (i := 10) (j := j) (by omega)
  have y2 := z_ne' (i := nb) (j := j) (by omega)
  simp +decide only [c7_k9,execA,wantedA,evalAll,evalA,oneA,dregA,dopsA,dstep,isMaker,withP_nil,takesP_nil,leavesP_nil,rd_mov,rd_build,rd_load,rd_fieldp,rd_indexAddr,st_mov,st_load,st_fieldAddr,st_indexAddr,st_build,st_buildSl,st_append,mk_buildSl,ld_ptr,H.cellsAt,H.newB,partA,tk_s,tk_0,tk_c,setAt,fillA,fillS,cl_agg,cl_int,cl_str,cl_slc,St.put,Tr.get_put,if_true,if_false,cond_true,cond_false,Nat.zero_add,Nat.add_zero,Nat.zero_mul,skip_up0,up_up,up_succ,List.length,seesHeap,quiet,recheck,nbeq,nble,decide_true,decide_false,Nat.reduceAdd,Bool.true_and,Bool.and_true,Bool.and_false,Bool.false_and,Bool.or_false,Bool.or_true,List.all,Option.map_some,Bool.and_self,Nat.add_assoc,cont_c,cont_n,tkP_c,lvP_c,withP_c,g5,g7,g8,a10,hpv,hip,hb3,htk0]
  generalize hA : appendA _ 2 32 _ _ = A
  generalize hTT : Tr.put _ (up .e (j + 10)) _ = TT at hA
  have k0 : TT.get (up .e (j + 12)) = some (.cells [.int .i64 (wrapA .i64 (.ofNat x - .ofNat 1)),.slc (up .e (j + 10)) 0 1 2 (some 1)] false) := by
    rw [← hTT]
    simp +decide (disch := omega) only [Tr.get_put,up_ne,if_true,if_false]
  have kl : TT.get (up .e (j + 10)) = some (.cells [.str n,i0] false) := by
    rw [← hTT,Tr.get_put,if_pos rfl]
  have kold : ∀ i,i < j → TT.get (up .e i) = t.get (up .e i) := fun i hi => by
    rw [← hTT]
    simp +decide (disch := omega) only [Tr.get_put,up_ne,if_false]
  have hrow : GateL (fun k n => Lt k n ∨ k = j + 10 ∧ n = 1) [.int .i64 (wrapA .i64 (.ofNat x - .ofNat 1)),.slc (up .e (j + 10)) 0 1 2 (some 1)] := ⟨_,j + 10,1,_,rfl,by decide,.inr ⟨rfl,rfl⟩,fun k hk => by cases hk; exact Nat.le_refl 1⟩
  have hl2 : [AV.int .i64 (wrapA .i64 (.ofNat x - .ofNat 1)),.slc (up .e (j + 10)) 0 1 2 (some 1)].length = 2 := rfl
  have hon : ones [AV.int .i64 (wrapA .i64 (.ofNat x - .ofNat 1)),.slc (up .e (j + 10)) 0 1 2 (some 1)] = true := rfl
  generalize [AV.int .i64 (wrapA .i64 (.ofNat x - .ofNat 1)),.slc (up .e (j + 10)) 0 1 2 (some 1)] = row at k0 hl2 hon hrow
  have k1 : Grow 2 TT 11 (j + 16) gb gv gs := ob.gg.keep (by omega) (fun _ h => kold gb h)
  have k2 : gs.length < 1000000 := by omega
  have k3 : 11 ≤ j + 16 := by omega
  have k4 : ∀ r ∈ gs,r.length = 2 := fun r h => (ob.gr r h).len
  have ap := Grow.append k1 hA k0 hl2 hon k4 (by decide) k2 k3
  obtain ⟨t2,hA4,b1,b2,b3⟩ := ap
  subst hA4
  have r10 := (b2 10 (by omega) (fun _ _ => by omega)).trans ((kold 10 (by omega)).trans a10)
  rw [hpv] at r10
  simp +decide only [withP_nil,takesP_nil,leavesP_nil,rd_fieldp,st_store,storeA,setAt,ones,on_slc,cl_slc,Tr.get_put,if_true,if_false,cond_true,Nat.zero_add,List.length,nbeq,decide_true,Nat.reduceAdd,List.all,Option.map_some,Bool.and_self,Nat.add_assoc,g5,r10]
  rw [← hpv]
  have hk10 : ∀ X : AB,∀ i,i ≠ 10 → (t2.put (up .e 10) X).get (up .e i) = t2.get (up .e i) := fun X i hi => by
    rw [Tr.get_put,if_neg (fun e => hi (by rw [up_inj] at e; exact e))]
  refine OddB.fin (OddB.addg (m := j + 16) (j' := j + 17) (Lt' := fun k n => Lt k n ∨ k = j + 10 ∧ n = 1) ob ?_ ?_ ?_ (by omega) (by omega) ((Tr.get_put _ _ _ _).trans (if_pos rfl)) (b3.keep (Nat.le_refl _) (fun _ _ => hk10 _ _ (by omega))) hrow (fun i q h => ?_) (fun _ _ h => .inl h) (fun i h1 h2 h3 => ?_) (by omega))
  any_goals simp +decide (disch := omega) only [Tr.get_put,up_ne,ob.f3,ob.f4,ob.f5,if_false]
  · rcases h with h | ⟨rfl,rfl⟩
    · exact .inl h
    · refine .inr ⟨by omega,by omega,by omega,[⟨n,0⟩],false,Nat.le_refl 1,?_⟩
      rw [if_neg (by rw [up_inj]; omega)]
      exact (b2 _ (by omega) (fun _ _ => by omega)).trans kl
  · exact (b2 i (by omega) (fun k1 k2 => h3 k1 (by omega))).trans (kold i h1)
end Go.Abs.Sym
end
section
namespace Go.Abs.Sym
open Go.Abs.T
open Go.Proofs
theorem wr_up {a x : Nat} (ha : 1 ≤ a) (ha' : a < 1000) (h : x < 1000) : wrapA .i64 (.ofNat a + wrapA .i64 (.ofNat x - .ofNat 1)) = .ofNat (a - 1 + x) := by
  have h1 : wrapA .i64 (Int.ofNat x - .ofNat 1) = Int.ofNat x - .ofNat 1 := wr_id (by simp only [Int.ofNat_eq_natCast]; omega) (by simp only [Int.ofNat_eq_natCast]; omega)
  rw [h1]
  have h2 : Int.ofNat a + (Int.ofNat x - .ofNat 1) = .ofNat (a - 1 + x) := by simp only [Int.ofNat_eq_natCast]; omega
  rw [h2]
  exact wr_id (by simp only [Int.ofNat_eq_natCast]; omega) (by simp only [Int.ofNat_eq_natCast]; omega)
def K13 (q0 q1 q2 : Int) (nm : List Nat) (pv : AV) (rs : List (List AV)) (nb x m : Nat) (s : St) : Prop :=
  ∃ fr j t gv gs gb Lt k,s = ⟨fr,[],⟨up .e j,t,.lf⟩,.no,none,t7⟩ ∧ OddB q0 q1 q2 nm fr j t pv rs nb gv gs gb Lt ∧ fr.get t7 = some (.int .i64 (wrapA .i64 (.ofNat x - .ofNat 1))) ∧ fr.get t10 = some (.int .i64 (.ofNat k)) ∧ k + m = 3 + x ∧ gs.length + m ≤ 1000
theorem k13_round {q0 q1 q2 : Int} {nm : List Nat} {pv : AV} {rs : List (List AV)} {nb x : Nat} (hx : x < 8) (m : Nat) (s : St) (h : K13 q0 q1 q2 nm pv rs nb x m s) :
    Stp (K13 q0 q1 q2 nm pv rs nb x) (fun o => ∃ s,o = .exit 5 s ∧ K13 q0 q1 q2 nm pv rs nb x 0 s) m (execA K2 (callN K2 49) c7_l2 s) := by
  obtain ⟨fr,j,t,gv,gs,gb,Lt,k,rfl,ob,g7,g10,hk,hg⟩ := h
  have hj := ob.hj
  have g5 := ob.f5
  have a10 := ob.a10
  have hgl := ob.gg.lt
  have hb := wr_up (a := 4) (x := x) (by decide) (by decide) (by omega)
  rw [show 4 - 1 + x = 3 + x from rfl] at hb
  cases m with
  | zero =>
    have hkn : (k < 3 + x) = False := eq_false (by omega)
    simp +decide only [c7_l2,execA,opsA,wantedA,evalAll,evalA,oneA,st_mov,st_bin,binAV,St.put,Tr.get_put,if_true,if_false,cond_true,nbeq,decide_true,decide_false,eqK,kindNo,g7,g10,hb,ltI_dec,hkn,stp_e]
    refine ⟨_,rfl,_,j,t,gv,gs,gb,Lt,k,rfl,OddB.move ob ?_ ?_ ?_ (Nat.le_refl j) a10 (fun _ _ _ => rfl),?_,?_,hk,hg⟩
    all_goals simp +decide only [Tr.get_put,ob.f3,ob.f4,ob.f5,g7,g10,if_false]
  | succ m =>
    have hkn : (k < 3 + x) = True := eq_true (by omega)
    have hw := wr_add k 1 (by omega)
    have z1 := z_ne (i := 10) (j := j) (by omega)
    have y1 := z_ne' (i := 10) (j := j) (by omega)
    simp +decide only [c7_l2,execA,opsA,wantedA,evalAll,evalA,oneA,st_mov,st_load,st_bin,st_fieldAddr,st_build,st_buildSl,st_append,ld_ptr,H.cellsAt,H.newB,partA,tk_s,tk_0,tk_c,setAt,fillA,fillS,cl_agg,cl_str,cl_slc,binAV,St.put,Tr.get_put,if_true,if_false,cond_true,Nat.zero_add,Nat.zero_mul,up_succ,List.length,nbeq,nble,decide_true,Nat.reduceAdd,eqK,kindNo,Option.map_some,Bool.and_self,Nat.add_assoc,g5,g7,g10,a10,hb,ltI_dec,hkn]
    generalize hA : appendA _ 2 32 _ _ = A
    generalize hTT : Tr.put _ (up .e (j + 1)) _ = TT at hA
    have k0 : TT.get (up .e (j + 1)) = some (.cells [i0,.slc (up .e j) 0 1 2 (some 1)] false) := by
      rw [← hTT,Tr.get_put,if_pos rfl]
    have kl : TT.get (up .e j) = some (.cells [.str [80,57],i0] false) := by
      rw [← hTT]
      simp +decide (disch := omega) only [Tr.get_put,up_ne,if_true,if_false]
    have kold : ∀ i,i < j → TT.get (up .e i) = t.get (up .e i) := fun i hi => by
      rw [← hTT]
      simp +decide (disch := omega) only [Tr.get_put,up_ne,if_false]
    have hrow : GateL (fun k n => Lt k n ∨ k = j ∧ n = 1) [i0,.slc (up .e j) 0 1 2 (some 1)] := ⟨_,j,1,_,rfl,by decide,.inr ⟨rfl,rfl⟩,fun k hk => by cases hk; exact Nat.le_refl 1⟩
    have hl2 : [i0,AV.slc (up .e j) 0 1 2 (some 1)].length = 2 := rfl
    have hon : ones [i0,AV.slc (up .e j) 0 1 2 (some 1)] = true := rfl
    generalize [i0,AV.slc (up .e j) 0 1 2 (some 1)] = row at k0 hl2 hon hrow
    have k1 : Grow 2 TT 11 (j + 2) gb gv gs := ob.gg.keep (by omega) (fun _ h => kold gb h)
    have k2 : gs.length < 1000000 := by omega
    have k3 : 11 ≤ j + 2 := by omega
    have k4 : ∀ r ∈ gs,r.length = 2 := fun r h => (ob.gr r h).len
    have ap := Grow.append k1 hA k0 hl2 hon k4 (by decide) k2 k3
    obtain ⟨t2,hA4,b1,b2,b3⟩ := ap
    subst hA4
    have r10 := (b2 10 (by omega) (fun _ _ => by omega)).trans ((kold 10 (by omega)).trans a10)
    have hpv := ob.gp.one
    simp +decide only [st_mov,st_store,st_bin,st_fieldAddr,storeA,setAt,ones,on_slc,cl_slc,binAV,Tr.get_put,if_true,if_false,cond_true,Nat.zero_add,List.length,nbeq,decide_true,Nat.reduceAdd,eqK,kindNo,Option.map_some,Bool.and_self,Nat.add_assoc,g5,g10,r10,hw,stp_n]
    have hk10 : ∀ X : AB,∀ i,i ≠ 10 → (t2.put (up .e 10) X).get (up .e i) = t2.get (up .e i) := fun X i hi => by
      rw [Tr.get_put,if_neg (fun e => hi (by rw [up_inj] at e; exact e))]
    refine ⟨m,by omega,_,j + 3,_,_,gs ++ [row],j + 2,fun k n => Lt k n ∨ k = j ∧ n = 1,k + 1,rfl,OddB.addg ob ?_ ?_ ?_ (by omega) (by omega) ((Tr.get_put _ _ _ _).trans (if_pos rfl)) (b3.keep (Nat.le_refl _) (fun _ _ => hk10 _ _ (by omega))) hrow (fun i q h => ?_) (fun _ _ h => .inl h) (fun i h1 h2 h3 => ?_) (by omega),?_,?_,by omega,?_⟩
    any_goals simp +decide (disch := omega) only [Tr.get_put,up_ne,ob.f3,ob.f4,ob.f5,g7,if_true,if_false]
    · rcases h with h | ⟨rfl,rfl⟩
      · exact .inl h
      · refine .inr ⟨by omega,by omega,by omega,[⟨[80,57],0⟩],false,Nat.le_refl 1,?_⟩
        rw [if_neg (by rw [up_inj]; omega)]
        exact (b2 _ (by omega) (fun _ _ => by omega)).trans kl
    · exact (b2 i (by omega) (fun k1 k2 => h3 k1 (by omega))).trans (kold i h1)
    · rw [List.length_append]; simp only [List.length_cons,List.length_nil]; omega
theorem odd_k13 {q0 q1 q2 : Int} {nm : List Nat} {fr : Tr AV} {j : Nat} {t : Tr AB} {pv : AV} {rs : List (List AV)} {nb : Nat} {gv : AV} {gs : List (List AV)} {gb : Nat} {Lt : Nat → Nat → Prop} (ob : OddB q0 q1 q2 nm fr j t pv rs nb gv gs gb Lt) (hgs : gs.length < 900)
    {x : Nat} (hx : x < 8) (g7 : fr.get t7 = some (.int .i64 (wrapA .i64 (.ofNat x - .ofNat 1)))) : OddF (execA K2 (callN K2 49) c7_k13 ⟨fr,[],⟨up .e j,t,.lf⟩,.no,none,t7⟩) := by
  simp +decide only [c7_k13,execA,opsA,wantedA,evalAll,evalA,oneA,st_mov,St.put,nbeq,kf2]
  generalize hit : iterA (execA K2 (callN K2 49) c7_l2) 100000 _ = o
  have ho : ∃ s,o = .exit 5 s ∧ K13 q0 q1 q2 nm pv rs nb x 0 s := by
    rw [← hit]
    refine iter_rule (K13 q0 q1 q2 nm pv rs nb x) (fun o => ∃ s,o = .exit 5 s ∧ K13 q0 q1 q2 nm pv rs nb x 0 s) (fun m s h => k13_round hx m s h) 100000 (3 + x) _ ⟨_,j,t,gv,gs,gb,Lt,0,rfl,OddB.move ob ?_ ?_ ?_ (Nat.le_refl j) ob.a10 (fun _ _ _ => rfl),?_,?_,by omega,by omega⟩ (by omega)
    all_goals simp +decide only [Tr.get_put,ob.f3,ob.f4,ob.f5,g7,if_true,if_false]
  obtain ⟨s,rfl,fr,j,t,gv,gs,gb,Lt,k,rfl,ob,_⟩ := ho
  simp +decide only
  exact ob.fin
end Go.Abs.Sym
end
section
namespace Go.Abs.Sym
open Go.Abs.T
open Go.Proofs
def K8 (q0 q1 q2 : Int) (nm : List Nat) (gv : AV) (gs : List (List AV)) (gb x m : Nat) (s : St) : Prop :=
  ∃ fr j t pv rs nb Lt k,s = ⟨fr,[],⟨up .e j,t,.lf⟩,.no,none,t7⟩ ∧ OddB q0 q1 q2 nm fr j t pv rs nb gv gs gb Lt ∧ fr.get t7 = some (.int .i64 (wrapA .i64 (.ofNat x - .ofNat 1))) ∧ fr.get t9 = some (.int .i64 (.ofNat k)) ∧ k + m = 19 + x ∧ rs.length + m ≤ 1000
theorem wr_u8 {n : Nat} (h : n < 256) : wrapA .u8 (.ofNat n) = .ofNat n := by
  simp only [wrapA,topOf]
  have : Nat.blt n 256 = true := Nat.ble_eq_true_of_le h
  rw [this]; rfl
theorem k8_round {q0 q1 q2 : Int} {nm : List Nat} {gv : AV} {gs : List (List AV)} {gb x : Nat} (hx : x < 8) (m : Nat) (s : St) (h : K8 q0 q1 q2 nm gv gs gb x m s) :
    Stp (K8 q0 q1 q2 nm gv gs gb x) (fun o => ∃ s,o = .exit 3 s ∧ K8 q0 q1 q2 nm gv gs gb x 0 s) m (execA K2 (callN K2 49) c7_l1 s) := by
  obtain ⟨fr,j,t,pv,rs,nb,Lt,k,rfl,ob,g7,g9,hk,hg⟩ := h
  have hj := ob.hj
  have g5 := ob.f5
  have a10 := ob.a10
  have hpl := ob.gp.lt
  have hb := wr_up (a := 20) (x := x) (by decide) (by decide) (by omega)
  rw [show 20 - 1 + x = 19 + x from rfl] at hb
  cases m with
  | zero =>
    have hkn : (k < 19 + x) = False := eq_false (by omega)
    simp +decide only [c7_l1,execA,opsA,wantedA,evalAll,evalA,oneA,st_mov,st_bin,binAV,St.put,Tr.get_put,if_true,if_false,cond_true,nbeq,decide_true,decide_false,eqK,kindNo,g7,g9,hb,ltI_dec,hkn,stp_e]
    refine ⟨_,rfl,_,j,t,pv,rs,nb,Lt,k,rfl,OddB.move ob ?_ ?_ ?_ (Nat.le_refl j) a10 (fun _ _ _ => rfl),?_,?_,hk,hg⟩
    all_goals simp +decide only [Tr.get_put,ob.f3,ob.f4,ob.f5,g7,g9,if_false]
  | succ m =>
    have hkn : (k < 19 + x) = True := eq_true (by omega)
    have hw := wr_add k 1 (by omega)
    have hw2 := wr_add 97 k (by omega)
    have hw3 := wr_u8 (n := 97 + k) (by omega)
    have hl1 : leI 0 (.ofNat (97 + k)) = true := rfl
    have hl3 : ltI (.ofNat (97 + k)) 256 = true := by
      show ltI (.ofNat (97 + k)) (.ofNat 256) = true
      rw [b_lt]; exact decide_eq_true (by omega)
    have hbb : Nat.blt 2 bigBytes = true := rfl
    have z1 := z_ne (i := 10) (j := j) (by omega)
    have y1 := z_ne' (i := 10) (j := j) (by omega)
    simp +decide only [c7_l1,execA,opsA,wantedA,evalAll,evalA,oneA,dregA,dopsA,dstep,isMaker,withP_nil,takesP_nil,leavesP_nil,rd_mov,rd_build,rd_load,rd_bin,rd_fieldp,rd_conv,st_mov,st_load,st_bin,st_call,st_fieldAddr,st_build,st_conv,st_buildSl,st_append,mk_buildSl,ld_ptr,H.cellsAt,H.newB,partA,tk_s,tk_0,tk_c,setAt,fillA,fillS,cl_agg,cl_int,cl_str,binAV,St.put,Tr.get_put,List.nil_append,List.cons_append,if_true,if_false,cond_true,cond_false,Nat.zero_add,Nat.zero_mul,skip_up0,up_up,up_succ,List.length,seesHeap,quiet,recheck,nbeq,nble,decide_true,decide_false,Nat.reduceAdd,Bool.true_and,Bool.and_true,Bool.false_and,Bool.or_false,Bool.or_true,List.all,eqK,kindNo,Option.map_some,beq_rfl,Bool.and_self,Nat.add_assoc,cont_c,cont_n,tkP_c,lvP_c,withP_c,convA,convA.go,g5,g7,g9,a10,hb,hw2,hw3,hl1,hl3,hbb,ltI_dec,hkn,disc2]
    generalize hA : appendA _ 7 80 _ _ = A
    generalize hTT : Tr.put _ (up .e (j + 5)) _ = TT at hA
    have k0 : TT.get (up .e (j + 11)) = some (.cells [.str [81,(Int.ofNat (97 + k)).toNat],.int .i64 1,slV edC (discE (.ofNat 0) (.ofNat 0)),.int .i64 (.ofNat 1),i0,i0,i0] false) := by
      rw [← hTT]
      simp +decide (disch := omega) only [Tr.get_put,up_ne,if_true,if_false]
    have kold : ∀ i,i < j → TT.get (up .e i) = t.get (up .e i) := fun i hi => by
      rw [← hTT]
      simp +decide (disch := omega) only [Tr.get_put,up_ne,if_false]
    have hrow : PadR (fun _ _ => False) [.str [81,(Int.ofNat (97 + k)).toNat],.int .i64 1,slV edC (discE (.ofNat 0) (.ofNat 0)),.int .i64 (.ofNat 1),i0,i0,i0] := ⟨_,_,_,_,_,_,_,rfl,.inl ⟨_,by show (1 : Nat) < 90000; decide,rfl⟩⟩
    have hl2 : [AV.str [81,(Int.ofNat (97 + k)).toNat],.int .i64 1,slV edC (discE (.ofNat 0) (.ofNat 0)),.int .i64 (.ofNat 1),i0,i0,i0].length = 7 := rfl
    have hon : ones [AV.str [81,(Int.ofNat (97 + k)).toNat],.int .i64 1,slV edC (discE (.ofNat 0) (.ofNat 0)),.int .i64 (.ofNat 1),i0,i0,i0] = true := by simp only [ones,on_str,on_int,on_slV,Bool.and_self]
    generalize [AV.str [81,(Int.ofNat (97 + k)).toNat],.int .i64 1,slV edC (discE (.ofNat 0) (.ofNat 0)),.int .i64 (.ofNat 1),i0,i0,i0] = row at k0 hl2 hon hrow
    have k1 : Grow 7 TT 11 (j + 15) nb pv rs := ob.gp.keep (by omega) (fun _ h => kold nb h)
    have k2 : rs.length < 1000000 := by omega
    have k3 : 11 ≤ j + 15 := by omega
    have k4 : ∀ r ∈ rs,r.length = 7 := fun r h => (ob.pr r h).len
    have ap := Grow.append k1 hA k0 hl2 hon k4 (by decide) k2 k3
    obtain ⟨t2,hA4,b1,b2,b3⟩ := ap
    subst hA4
    have r10 := (b2 10 (by omega) (fun _ _ => by omega)).trans ((kold 10 (by omega)).trans a10)
    have hgv := ob.gg.one
    simp +decide only [withP_nil,takesP_nil,leavesP_nil,rd_load,rd_fieldp,rd_conv,st_mov,st_store,st_bin,ld_ptr,H.cellsAt,partA,tk_s,tk_0,tk_c,storeA,setAt,ones,on_slc,cl_slc,binAV,Tr.get_put,if_true,if_false,cond_true,cond_false,Nat.zero_add,up_inj,List.length,recheck,nbeq,nble,decide_true,decide_false,Nat.reduceAdd,Nat.reduceEqDiff,Nat.reduceLeDiff,Bool.and_false,List.all,eqK,kindNo,Option.map_some,beq_rfl,Bool.and_self,Nat.add_assoc,Nat.reduceEqDiff,withP_c,convA,convA.go,hl1,hl3,g5,g9,a10,r10,hw,stp_n]
    have hk10 : ∀ X : AB,∀ i,i ≠ 10 → (t2.put (up .e 10) X).get (up .e i) = t2.get (up .e i) := fun X i hi => by
      rw [Tr.get_put,if_neg (fun e => hi (by rw [up_inj] at e; exact e))]
    refine ⟨m,by omega,_,j + 16,_,_,rs ++ [row],j + 15,Lt,k + 1,rfl,OddB.addp ob ?_ ?_ ?_ (by omega) (by omega) ((Tr.get_put _ _ _ _).trans (if_pos rfl)) (b3.keep (Nat.le_refl _) (fun _ _ => hk10 _ _ (by omega))) hrow (fun i h1 h2 h3 => ?_) (by omega),?_,?_,by omega,?_⟩
    any_goals simp +decide (disch := omega) only [Tr.get_put,up_ne,ob.f3,ob.f4,ob.f5,g7,if_true,if_false]
    · exact (b2 i (by omega) (fun k1 k2 => h3 k1 (by omega))).trans (kold i h1)
    · rw [List.length_append]; simp only [List.length_cons,List.length_nil]; omega
theorem odd_k8 {q0 q1 q2 : Int} {nm : List Nat} {fr : Tr AV} {j : Nat} {t : Tr AB} {pv : AV} {rs : List (List AV)} {nb : Nat} {gv : AV} {gs : List (List AV)} {gb : Nat} {Lt : Nat → Nat → Prop} (ob : OddB q0 q1 q2 nm fr j t pv rs nb gv gs gb Lt) (hrs : rs.length < 900)
    {x : Nat} (hx : x < 8) (g7 : fr.get t7 = some (.int .i64 (wrapA .i64 (.ofNat x - .ofNat 1)))) : OddF (execA K2 (callN K2 49) c7_k8 ⟨fr,[],⟨up .e j,t,.lf⟩,.no,none,t7⟩) := by
  simp +decide only [c7_k8,execA,opsA,wantedA,evalAll,evalA,oneA,st_mov,St.put,nbeq,kf2]
  generalize hit : iterA (execA K2 (callN K2 49) c7_l1) 100000 _ = o
  have ho : ∃ s,o = .exit 3 s ∧ K8 q0 q1 q2 nm gv gs gb x 0 s := by
    rw [← hit]
    refine iter_rule (K8 q0 q1 q2 nm gv gs gb x) (fun o => ∃ s,o = .exit 3 s ∧ K8 q0 q1 q2 nm gv gs gb x 0 s) (fun m s h => k8_round hx m s h) 100000 (19 + x) _ ⟨_,j,t,pv,rs,nb,Lt,0,rfl,OddB.move ob ?_ ?_ ?_ (Nat.le_refl j) ob.a10 (fun _ _ _ => rfl),?_,?_,by omega,by omega⟩ (by omega)
    all_goals simp +decide only [Tr.get_put,ob.f3,ob.f4,ob.f5,g7,if_true,if_false]
  obtain ⟨s,rfl,fr,j,t,pv,rs,nb,Lt,k,rfl,ob,_⟩ := ho
  simp +decide only
  exact ob.fin
end Go.Abs.Sym
end
