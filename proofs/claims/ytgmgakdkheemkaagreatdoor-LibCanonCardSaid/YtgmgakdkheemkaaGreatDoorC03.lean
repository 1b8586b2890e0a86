/- LibCanon holds: for every case the call returns true; its argument reads as before. The listed package-level variables are tied to the program's text; other packages' code of the project is not spoken of (pruned copy). -/
import Derived.Test.YtgmgakdkheemkaaGreatDoorC02
import Derived.Test.YtgmgakdkheemkaaGreatDoorTie
import Derived.Test.YtgmgakdkheemkaaGreatDoorCards
section
namespace Go.Proofs.YtgmgakdkheemkaaGreatDoor
open Go.ChangeShapes Go.WideShapes Go.ChangeAt Go.RowKit
open Go.Abs Go.Abs.Sym
theorem own : ownKnob Tryz.prog.godebug = none := by kernel_rfl
theorem kids : Kids Tryz.prog (· < Tryz.prog.types.size) := kids_rows (by kernel_rfl) (by kernel_rfl)
theorem full : ∀ t e,t < Tryz.prog.types.size → Tryz.prog.underlying t = some (.slice e) → 0 < Tryz.prog.cellsOf e := slices_full_of Tryz.prog (by kernel_rfl)
theorem params_lt : ∀ t ∈ Tryz.f4.params.toList,t < Tryz.prog.types.size := by
  rw [Tryz.params4]
  have h : ([26].all fun t => decide (t < Tryz.prog.types.size)) = true := by kernel_rfl
  intro t ht
  simpa using List.all_eq_true.1 h t ht
theorem run (W : World) (v0 : Value) (a : List AV) (hv : @VRs triv W (ρ0 W) (Lv (ρ0 W) Abs.h0) [.agg a] [v0]) (ha : HasTy caseTy a) :
    Calls Tryz.prog 4 #[v0] W (fun e w' => e = .returned (.bool true) ∧ (∀ b,b < W.heap.size → w'.heap[b]? = W.heap[b]?) ∧ W.heap.size ≤ w'.heap.size ∧ w'.os = W.os ∧ w'.output = W.output) := by
  obtain ⟨c,rfl,hc⟩ := case_of ha
  obtain ⟨X,lev,hs,hF,v,h1,hcall,rfl⟩ := law_canon c hc
  have := calls_ok (envI := triv) (@Lev.ok triv _ lev) (n := 59) hcall hs (HR.empty (envI := triv) (P := Tryz.prog) (w := W) (@Lev.globs triv _ lev)) (avs := #[v0]) hv ⟨_,hF⟩
  refine this.mono fun e w' ⟨vv,he,hB⟩ => ?_
  have hk := Back.kept (envI := triv) hB
  obtain ⟨ρ',_,_,hvv⟩ := hB
  simp only [VR] at hvv
  rw [he,hvv]
  exact ⟨rfl,hk.1,hk.2.1,hk.2.2.1,hk.2.2.2.1⟩
set_option maxRecDepth 10000 in
theorem agg_of {W : World} {base : Nat} {t : TypeId} {v : Value} {fs : Array Field} (hd : Tryz.prog.underlying t = some (.struct fs)) (h : Value.okWide Tryz.prog W .any base t v) : ∃ cs,v = .agg cs := by
  unfold Value.okWide at h
  rw [hd] at h
  obtain ⟨cs,h,_⟩ := h
  exact ⟨cs,h⟩
theorem sameAt_of {W W' : World} (hk : ∀ b,b < W.heap.size → W'.heap[b]? = W.heap[b]?) {p : MemPlace} (hp : p.block < W.heap.size) : W.sameAt W' p := by
  cases p with
  | cell b off =>
    show _ = _
    simp only [World.cell?]
    rw [hk b hp]
  | map b => exact hk b hp
theorem trodAll_carry {H : Type} {enc : TypeId × Value → H} {P : Program} {W W' : World} {base : Nat} {spare : Nat → Bool} {held : Bool} : ∀ {ts : List TypeId} {vs : List Value} {ds : List (DataW H)} {ps : List MemPlace},
    DataW.TrodAll enc P W base spare held ts vs ds ps → (∀ p ∈ ps,W.sameAt W' p) → DataW.TrodAll enc P W' base spare held ts vs ds ps
  | [],[],[],_,h,_ => h
  | _ :: _,_ :: _,_ :: _,_,⟨p,q,⟨n,h1⟩,h2,e⟩,hs => ⟨p,q,⟨n,DataW.trod_carry n _ _ _ h1 (fun x hx => hs x (by rw [e]; exact List.mem_append_left _ hx))⟩,trodAll_carry h2 (fun x hx => hs x (by rw [e]; exact List.mem_append_right _ hx)),e⟩
theorem door_met (os : Os) (args : Array Value) : laidMetH Tryz.prog Rows.libCanonRow.laid ((World.doorLaid Tryz.prog 400 os).forCall (fun _ _ => 0) ⟨#[],args,[]⟩).memory :=
  laidMetH_of_parts3 (fuel := 8) (laidMet_of_run' 8 (by kernel_rfl) (by kernel_rfl)) (by kernel_rfl) (by kernel_rfl)
set_option maxRecDepth 100000 in
theorem lifted (os : Os) (started : os.Started) (H : Type) (enc : TypeId × Value → H) :
    ReturnsInHanded {} Tryz.checked os 4 .any (fun w args => (Rows.libCanonSpec.pre enc Tryz.prog Tryz.f4 [] false w args ∧ laidMetH Tryz.prog Rows.libCanonRow.laid w) ∧ sizedMet enc Tryz.prog Tryz.f4 (OpenSpec.ofChange Rows.libCanonSpec) false w args)
      (Rows.libCanonSpec.post enc Tryz.prog Tryz.f4 false true false false) := by
  refine returnsInHanded_of_change_and (C := Tryz.checked) (X := fun w _ => laidMetH Tryz.prog Rows.libCanonRow.laid w) (fun _ _ _ hh h => h.of_heap hh) own started (by kernel_rfl) Tryz.func4
    (ChangeSpec.witness_shaped (enc := enc) (C := Tryz.checked) (os := os) (X := fun w _ => laidMetH Tryz.prog Rows.libCanonRow.laid w) false (World.doorLaid Tryz.prog 400 os)
      #[.agg #[.slice none 0 0,.slice none 0 0,.slice none 0 0,.int .i64 0,.int .i64 0,.int .i64 0,.int .u8 0,.int .u8 0,.bool false]] 8 rfl (World.shaped_of_RefB (by kernel_rfl) (by kernel_rfl)) (by kernel_rfl) (by kernel_rfl) (by kernel_rfl) (door_met os _)) ?_
  intro W base args ds gs before hval0 hW _ _ _ _
  have hval : ∀ (j : Nat) t v,Tryz.f4.params[j]? = some t → args[j]? = some v → Value.okWide Tryz.prog W .any base t v := hval0
  have hW' := hW
  obtain ⟨p,q,hA0,hV,rfl,hfz,hnd⟩ := hW
  have hA : DataW.TrodAll enc Tryz.prog W 0 (fun _ => true) true Tryz.f4.params.toList args.toList ds p := hA0
  have hAk := hA
  rw [Tryz.params4] at hA hval
  obtain ⟨v0,d0,rfl,rfl,h0⟩ := trodAll_one hA
  obtain ⟨rfl,rfl⟩ := trodVars_none hV
  obtain ⟨c0,rfl⟩ := agg_of (t := 26) Tryz.underlying26 (hval 0 26 v0 rfl rfl)
  obtain ⟨f0,h0⟩ := h0
  obtain ⟨a,ha,va⟩ := trod_av (envI := triv) caseTy ok26 h0
  have hv : @VRs triv W (ρ0 W) (Lv (ρ0 W) Abs.h0) [.agg a] [.agg c0] := by
    simp only [VRs,VR]
    exact ⟨_,_,rfl,⟨_,rfl,va⟩,rfl⟩
  refine (run W _ a hv ha).mono fun e W' ⟨he,hk,hsz,hos,hout⟩ => ⟨_,he,?_⟩
  have hlt := DataW.TrodAll.lt hAk
  refine ⟨[d0],[],_,[],p,[],hW',?_,?_,rfl,?_,fun h => by cases h⟩
  · exact trodAll_mk1 (shut_bool Tryz.underlying4 true)
  · exact trodAll_carry (DataW.TrodAll.respare kids full params_lt hAk (fun p hp => by simpa using hlt p hp)) (fun p hp => sameAt_of hk (hlt p hp))
  · refine ⟨hos,hout,fun i hi => ?_⟩
    rw [hk i hi]
    cases W.heap[i]? with
    | none => rfl
    | some o => cases o <;> simp
end Go.Proofs.YtgmgakdkheemkaaGreatDoor
end
