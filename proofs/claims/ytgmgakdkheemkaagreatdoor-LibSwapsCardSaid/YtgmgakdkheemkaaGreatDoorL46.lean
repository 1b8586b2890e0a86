/- LibSwaps: the run of the law; what it returns, lifted. -/
import Derived.Test.YtgmgakdkheemkaaGreatDoorTie
import Derived.Test.YtgmgakdkheemkaaGreatDoorCards
import Derived.Test.YtgmgakdkheemkaaGreatDoorL45
section
namespace Go.Abs.Sym
open Go.Abs.T
open Go.Proofs
set_option maxHeartbeats 4000000 in
set_option maxRecDepth 10000 in
theorem law_swaps (c : CaseD) (hc : CaseOK c) : ∃ X : Ctx,@Lev triv X ∧ X.sums t3 [.agg (caseC c)] h0 = none ∧ X.funcs.get t3 = some T.c3 ∧ Ret (callN X 60 (.fn t3 [] []) [.agg (caseC c)] h0) (fun v _ => v = .bool true) := by
  obtain ⟨cs,gs,n1,n2,k2,k6,hcs,hgs,f1,f2,f3,f4,hmade⟩ := made7_sum c hc
  obtain ⟨g,hg,rfl⟩ := vars_of k2 k6 hgs
  have hne : cs ≠ [] := by
    intro e
    rw [e] at k2
    exact absurd k2 (by decide)
  have hlT : (tyOf [112,97,114,116] cs (gsOf g)).pads.l.length = cs.length := len_padsOf 0 cs
  obtain ⟨i,j,p,q,hp,hq,hsw⟩ := cswap_sum c hc (tyOf [112,97,114,116] cs (gsOf g)) (by omega) (by omega)
  obtain ⟨hi,ep⟩ := padsOf_get 0 cs i p hp
  obtain ⟨hj,eq⟩ := padsOf_get 0 cs j q hq
  rw [Nat.zero_add] at ep eq
  rw [ep,eq] at hsw
  have hlev := levKT hcs k6 hg hne
  generalize hT : tyOf [112,97,114,116] cs (gsOf g) = T at hmade hsw hlev
  generalize hM : cs.length = m at *
  have hl : (n1.map net5).length = m := by rw [List.length_map]; exact f1
  generalize n1.map net5 = l at *
  generalize n2.map net5 = l2 at *
  have hX : ∀ f xs h,Pth.beq f t12 = false → Pth.beq f t10 = false → Pth.beq f t9 = false → (KU m g T).sums f xs h = K5.sums f xs h := fun f xs h h1 h2 h3 => (ku_rest m g T f h1 xs h).trans (kt_rest m g T f h2 h3 xs h)
  refine ⟨KU m g T,@Lev.over triv _ hlev _ _,by rw [hX t3 _ _ rfl rfl rfl]; rfl,rfl,?_⟩
  have hs : ∀ xs,(KU m g T).sums t3 xs h0 = none := fun xs => by rw [hX t3 _ _ rfl rfl rfl]; rfl
  have hF : (KU m g T).funcs.get t3 = some c3 := rfl
  refine begin1 (hs _) hF fun fr t ga => ?_
  have c6 : ∀ h,callN (KU m g T) 59 (.fn t6 [] []) [] h = .ret (.bool true) h := fun h => call_sum (by rw [List.nil_append,List.append_nil,hX t6 _ _ rfl rfl rfl,k5_6]; rfl)
  have c7 : ∀ h,callN (KU m g T) 59 (.fn t7 [] []) [.agg (caseC c)] h = .ret (.tup [.agg (tyC T),slV strC ⟨1,l⟩,slV strC ⟨1,l2⟩]) h := fun h => call_sum (by rw [List.nil_append,List.append_nil,hX t7 _ _ rfl rfl rfl]; exact hmade h)
  have c8 : ∀ h,callN (KU m g T) 59 (.fn t8 [] []) [.agg (caseC c),.agg (tyC T)] h = .ret (.agg [.str [],.str (nmOf i),.str (nmOf j),.bool c.gate]) h := fun h => call_sum (by rw [List.nil_append,List.append_nil,hX t8 _ _ rfl rfl rfl]; exact hsw h)
  have c9 : ∀ (x : List (List Nat)),x.length = m → ∀ h,callN (KU m g T) 59 (.fn t9 [] []) [.agg (tyC T),strsV x,.agg [.str [],.str (nmOf i),.str (nmOf j),.bool c.gate]] h = .ret (swpV (swapF m g i j c.gate x)) h := fun x hx h => call_sum (by
    rw [List.nil_append,List.append_nil,ku_rest m g T t9 rfl]; exact kt_swap m g T x hx k6 hi hj c.gate h)
  have c10 : ∀ (x : List (List Nat)),x.length = m → ∀ h,callN (KU m g T) 59 (.fn t10 [] []) [.agg (tyC T),strsV x] h = .ret (.tup [strsV (canonF m g x),.bool true]) h := fun x hx h => call_sum (by
    rw [List.nil_append,List.append_nil,ku_rest m g T t10 rfl]; exact kt_canon m g T x hx h)
  have hcl : ∀ x : List (List Nat),x.length = m → (canonF m g x).length < 90000 := fun x hx => by rw [canonF_eq hg k6 hx,len_canonS]; omega
  have c12 : ∀ (x y : List (List Nat)),x.length = m → y.length = m → ∀ h,callN (KU m g T) 59 (.fn t12 [] []) [.agg (tyC T),strsV x,strsV y] h = .ret (.bool (decide (canonF m g x = canonF m g y))) h := fun x y hx hy h => call_sum (by
    rw [List.nil_append,List.append_nil]; exact ku_12 m g T x y hx hy (hcl x hx) h)
  have c11 : ∀ (x : List (List Nat)),x.length < 90000 → ∀ h,callN (KU m g T) 59 (.fn t11 [] []) [strsV x,strsV x] h = .ret (.bool true) h := fun x hx h => call_sum (by
    rw [List.nil_append,List.append_nil,hX t11 _ _ rfl rfl rfl,k5_11,strsV_eq]; exact same19_sum ⟨1,x⟩ hx h)
  have c9l := c9 l hl
  rw [← strsV_eq] at c7
  have hl9 : l.length < 90000 := by omega
  have e1 : eqI (.ofNat 27) (.ofNat 0) = false := rfl
  have e2 : eqI (.ofNat 0) (.ofNat 0) = true := rfl
  have e3 : eqI (.ofNat 27) (.ofNat 27) = true := rfl
  cases hsf : swapF m g i j c.gate l with
  | none =>
    rw [hsf] at c9l
    simp only [swpV] at c9l
    have hln : ∀ H,lenVal H .slc .nils = some (.int .i64 (.ofNat 0)) := fun _ => rfl
    simp only [caseC] at ga c7 c8
    simp only [tyC] at c7 c8 c9l
    simp only [strsV] at c7 c9l
    simp +decide only [c3,execA,opsA,wantedA,evalAll,evalA,oneA,st_mov,st_alloc,st_box,st_load,st_store,st_bin,st_call,st_extract,st_pick,st_len,ld_ptr,H.cellsAt,H.newB,partA,tk_0,tk_c,storeA,setAt,ones,cl_agg,on_bool,on_str,on_slV,binAV,eqAV,St.put,Tr.get_put,if_true,if_false,cond_true,Nat.zero_add,up_succ,List.length,nbeq,decide_true,Nat.reduceAdd,Bool.not_false,eqK,kindNo,ret_iff,leaveA,dfrsA,resultA,resultsA,Option.map_some,beq_self_eq_true,Bool.and_self,ex_0,ex_1,ex_2,ga,c6,c7,c8,c9l,hln,e1,e2,e3]
  | some b =>
    obtain ⟨hb,hback,hcb⟩ := swap_some hg k6 hi hj hl hsf
    rw [hsf] at c9l
    have c9b := c9 b hb
    rw [hback] at c9b
    simp only [swpV] at c9l c9b
    have c10l := c10 l hl
    have c10b := c10 b hb
    rw [hcb] at c10b
    have c11l := c11 l hl9
    have c11c := c11 (canonF m g l) (hcl l hl)
    have c12a := c12 l b hl hb
    have c12b := c12 b l hb hl
    rw [hcb] at c12a c12b
    rw [decide_eq_true rfl] at c12a c12b
    simp only [caseC] at ga c7 c8
    simp only [tyC] at c7 c8 c9l c9b c10l c10b c12a c12b
    simp only [strsV] at c7 c9l c9b c10l c10b c11l c11c c12a c12b
    simp +decide only [c3,execA,opsA,wantedA,evalAll,evalA,oneA,st_mov,st_alloc,st_box,st_load,st_store,st_bin,st_call,st_extract,st_pick,ld_ptr,H.cellsAt,H.newB,partA,tk_0,tk_c,storeA,setAt,ones,cl_agg,on_bool,on_str,on_slV,binAV,eqAV,St.put,Tr.get_put,if_true,if_false,cond_true,Nat.zero_add,up_succ,List.length,nbeq,decide_true,Nat.reduceAdd,Bool.not_true,eqK,kindNo,ret_iff,leaveA,dfrsA,resultA,resultsA,Option.map_some,beq_self_eq_true,Bool.and_self,ex_0,ex_1,ex_2,ga,c6,c7,c8,c9l,c9b,c10l,c10b,c11l,c11c,c12a,c12b,e2]
end Go.Abs.Sym
end
section
namespace Go.Proofs.YtgmgakdkheemkaaGreatDoor
open Go.ChangeShapes Go.WideShapes Go.ChangeAt Go.RowKit
open Go.Abs Go.Abs.Sym
theorem own : ownKnob Tryz.prog.godebug = none := by kernel_rfl
theorem kids : Kids Tryz.prog (· < Tryz.prog.types.size) := kids_rows (by kernel_rfl) (by kernel_rfl)
theorem full : ∀ t e,t < Tryz.prog.types.size → Tryz.prog.underlying t = some (.slice e) → 0 < Tryz.prog.cellsOf e := slices_full_of Tryz.prog (by kernel_rfl)
theorem params_lt : ∀ t ∈ Tryz.f3.params.toList,t < Tryz.prog.types.size := by
  rw [Tryz.params3]
  have h : ([26].all fun t => decide (t < Tryz.prog.types.size)) = true := by kernel_rfl
  intro t ht
  simpa using List.all_eq_true.1 h t ht
theorem run (W : World) (v0 : Value) (a : List AV) (hv : @VRs triv W (ρ0 W) (Lv (ρ0 W) Abs.h0) [.agg a] [v0]) (ha : HasTy caseTy a) :
    Calls Tryz.prog 3 #[v0] W (fun e w' => e = .returned (.bool true) ∧ (∀ b,b < W.heap.size → w'.heap[b]? = W.heap[b]?) ∧ W.heap.size ≤ w'.heap.size ∧ w'.os = W.os ∧ w'.output = W.output) := by
  obtain ⟨c,rfl,hc⟩ := case_of ha
  obtain ⟨X,lev,hs,hF,v,h1,hcall,rfl⟩ := law_swaps c hc
  have := calls_ok (envI := triv) (@Lev.ok triv _ lev) (n := 59) hcall hs (HR.empty (envI := triv) (P := Tryz.prog) (w := W) (@Lev.globs triv _ lev)) (avs := #[v0]) hv ⟨_,hF⟩
  refine this.mono fun e w' ⟨vv,he,hB⟩ => ?_
  have hk := Back.kept (envI := triv) hB
  obtain ⟨ρ',_,_,hvv⟩ := hB
  simp only [VR] at hvv
  rw [he,hvv]
  exact ⟨rfl,hk.1,hk.2.1,hk.2.2.1,hk.2.2.2.1⟩
set_option maxRecDepth 10000 in
theorem agg_of {W : World} {base : Nat} {t : TypeId} {v : Value} {fs : Array Field} (hd : Tryz.prog.underlying t = some (.struct fs)) (h : Value.okWide Tryz.prog W .any base t v) : ∃ cs,v = .agg cs := by
  unfold Value.okWide at h
  rw [hd] at h
  obtain ⟨cs,h,_⟩ := h
  exact ⟨cs,h⟩
theorem sameAt_of {W W' : World} (hk : ∀ b,b < W.heap.size → W'.heap[b]? = W.heap[b]?) {p : MemPlace} (hp : p.block < W.heap.size) : W.sameAt W' p := by
  cases p with
  | cell b off =>
    show _ = _
    simp only [World.cell?]
    rw [hk b hp]
  | map b => exact hk b hp
theorem trodAll_carry {H : Type} {enc : TypeId × Value → H} {P : Program} {W W' : World} {base : Nat} {spare : Nat → Bool} {held : Bool} : ∀ {ts : List TypeId} {vs : List Value} {ds : List (DataW H)} {ps : List MemPlace},
    DataW.TrodAll enc P W base spare held ts vs ds ps → (∀ p ∈ ps,W.sameAt W' p) → DataW.TrodAll enc P W' base spare held ts vs ds ps
  | [],[],[],_,h,_ => h
  | _ :: _,_ :: _,_ :: _,_,⟨p,q,⟨n,h1⟩,h2,e⟩,hs => ⟨p,q,⟨n,DataW.trod_carry n _ _ _ h1 (fun x hx => hs x (by rw [e]; exact List.mem_append_left _ hx))⟩,trodAll_carry h2 (fun x hx => hs x (by rw [e]; exact List.mem_append_right _ hx)),e⟩
theorem door_met (os : Os) (args : Array Value) : laidMetH Tryz.prog Rows.libSwapsRow.laid ((World.doorLaid Tryz.prog 400 os).forCall (fun _ _ => 0) ⟨#[],args,[]⟩).memory :=
  laidMetH_of_parts3 (fuel := 8) (laidMet_of_run' 8 (by kernel_rfl) (by kernel_rfl)) (by kernel_rfl) (by kernel_rfl)
set_option maxRecDepth 100000 in
theorem lifted (os : Os) (started : os.Started) (H : Type) (enc : TypeId × Value → H) :
    ReturnsInHanded {} Tryz.checked os 3 .any (fun w args => (Rows.libSwapsSpec.pre enc Tryz.prog Tryz.f3 [] false w args ∧ laidMetH Tryz.prog Rows.libSwapsRow.laid w) ∧ sizedMet enc Tryz.prog Tryz.f3 (OpenSpec.ofChange Rows.libSwapsSpec) false w args)
      (Rows.libSwapsSpec.post enc Tryz.prog Tryz.f3 false true false false) := by
  refine returnsInHanded_of_change_and (C := Tryz.checked) (X := fun w _ => laidMetH Tryz.prog Rows.libSwapsRow.laid w) (fun _ _ _ hh h => h.of_heap hh) own started (by kernel_rfl) Tryz.func3
    (ChangeSpec.witness_shaped (enc := enc) (C := Tryz.checked) (os := os) (X := fun w _ => laidMetH Tryz.prog Rows.libSwapsRow.laid w) false (World.doorLaid Tryz.prog 400 os)
      #[.agg #[.slice none 0 0,.slice none 0 0,.slice none 0 0,.int .i64 0,.int .i64 0,.int .i64 0,.int .u8 0,.int .u8 0,.bool false]] 8 rfl (World.shaped_of_RefB (by kernel_rfl) (by kernel_rfl)) (by kernel_rfl) (by kernel_rfl) (by kernel_rfl) (door_met os _)) ?_
  intro W base args ds gs before hval0 hW _ _ _ _
  have hval : ∀ (j : Nat) t v,Tryz.f3.params[j]? = some t → args[j]? = some v → Value.okWide Tryz.prog W .any base t v := hval0
  have hW' := hW
  obtain ⟨p,q,hA0,hV,rfl,hfz,hnd⟩ := hW
  have hA : DataW.TrodAll enc Tryz.prog W 0 (fun _ => true) true Tryz.f3.params.toList args.toList ds p := hA0
  have hAk := hA
  rw [Tryz.params3] at hA hval
  obtain ⟨v0,d0,rfl,rfl,h0⟩ := trodAll_one hA
  obtain ⟨rfl,rfl⟩ := trodVars_none hV
  obtain ⟨c0,rfl⟩ := agg_of (t := 26) Tryz.underlying26 (hval 0 26 v0 rfl rfl)
  obtain ⟨f0,h0⟩ := h0
  obtain ⟨a,ha,va⟩ := trod_av (envI := triv) caseTy ok26 h0
  have hv : @VRs triv W (ρ0 W) (Lv (ρ0 W) Abs.h0) [.agg a] [.agg c0] := by
    simp only [VRs,VR]
    exact ⟨_,_,rfl,⟨_,rfl,va⟩,rfl⟩
  refine (run W _ a hv ha).mono fun e W' ⟨he,hk,hsz,hos,hout⟩ => ⟨_,he,?_⟩
  have hlt := DataW.TrodAll.lt hAk
  refine ⟨[d0],[],_,[],p,[],hW',?_,?_,rfl,?_,fun h => by cases h⟩
  · exact trodAll_mk1 (shut_bool Tryz.underlying4 true)
  · exact trodAll_carry (DataW.TrodAll.respare kids full params_lt hAk (fun p hp => by simpa using hlt p hp)) (fun p hp => sameAt_of hk (hlt p hp))
  · refine ⟨hos,hout,fun i hi => ?_⟩
    rw [hk i hi]
    cases W.heap[i]? with
    | none => rfl
    | some o => cases o <;> simp
end Go.Proofs.YtgmgakdkheemkaaGreatDoor
end
