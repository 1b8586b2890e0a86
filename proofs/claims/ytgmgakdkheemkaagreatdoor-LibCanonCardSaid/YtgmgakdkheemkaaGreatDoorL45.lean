/- A part of the proof that LibSwaps answers true at every input: AbsKis, AbsSym41, AbsSym42, AbsSym43, AbsIn, AbsBr. -/
import Derived.Test.YtgmgakdkheemkaaGreatDoorL38
import Derived.Test.YtgmgakdkheemkaaGreatDoorL43
import Derived.Test.YtgmgakdkheemkaaGreatDoorL44
import Derived.OpenShut
import Derived.Test.YtgmgakdkheemkaaGreatDoorL15
import Derived.Test.YtgmgakdkheemkaaGreatDoorRows
import Derived.ProofKit
import Derived.LaidMore
import Derived.Stop.Joined
import Derived.ReadAgain
section
namespace Go.Abs.Sym
open Go.Abs.T
open Go.Proofs
theorem row_call [envI : Env] {P : Program} {X0 : Ctx} (xo : XOK P X0) (hg : X0.globs = .lf) {n : Nat} {f : Pth} {args : List AV} {v : AV} {h1 : H} (hc : callN X0 n (.fn f [] []) args h0 = .ret v h1) {w : World} {avs : Array Value}
    (hv : VRs w (ρ0 w) (Lv (ρ0 w) h0) args avs.toList) : CallR P X0 (ρ0 w) h0 w (callFunc f.num avs) (.ret v h1) := by
  have hR := callN_ok xo n (.fn f [] []) args h0 (ρ0 w) w (.func (.func f.num) #[] #[]) avs (HR.empty hg) (by simp only [VR,VRs]; exact ⟨#[],#[],rfl,rfl,rfl⟩) hv
  rw [hc] at hR
  have hinv : invk (.func (.func f.num) #[] #[]) avs = callFunc f.num avs := by
    simp only [invk,Deferred.ofValue,pure_bind,invoke,Array.empty_append,Array.append_empty]
  rwa [hinv] at hR
theorem deep_int {d : Nat} {h : H} {v : AV} {k : IntKind} {n : Int} (e : deep (d + 1) h v = .int k n) : v = .int k n := by
  cases v <;> simp only [deep,reduceCtorEq] at e
  case int => exact e
  case slc id off len sz c =>
    cases hc : h.cellsAt id with
    | none => rw [hc] at e; cases e
    | some cs =>
      rw [hc] at e
      simp only at e
      cases ht : takeD cs off (len * sz) with
      | none => rw [ht] at e; cases e
      | some l => rw [ht] at e; cases e
section
variable {cs : List (Nat × Nat × Nat)} (hcs : ∀ c ∈ cs,CodeOK c) (h6 : cs.length ≤ 6) (σ : Nat → List Nat)
include hcs h6 in
theorem pad_fact {k : Nat} (hk : k < cs.length) (w : World) (avs : Array Value) (hv : @VRs triv w (ρ0 w) (Lv (ρ0 w) h0) [(padTok k).subst (kinT cs σ)] avs.toList) : ∃ X0 h1,@CallR triv Tryz.prog X0 (ρ0 w) h0 w (callFunc f_padErr.num avs) (.ret i0 h1) := by
  obtain ⟨c,hc⟩ : ∃ c,cs[k]? = some c := ⟨_,List.getElem?_eq_getElem hk⟩
  obtain ⟨c1,c2,c3⟩ := hcs c (List.mem_of_getElem? hc)
  have hp : (padTok k).subst (kinT cs σ) = .agg (padC (padOf k c.1 c.2.1 c.2.2)) := by
    simp only [padTok,AV.subst,padTok_subst hc]
  rw [hp] at hv
  obtain ⟨X,xo,hgl,_,_,n,v1,h1,e1,e2⟩ := rowsP k c.1 c.2.1 c.2.2 (by omega) c1 c2 c3
  have e3 := deep_int e2
  subst e3
  exact ⟨X,h1,row_call (envI := triv) xo hgl e1 hv⟩
include hcs h6 in
theorem padS_ok (X : Ctx) : ∀ (m : Nat),m ≤ cs.length → ∀ more,@SumsOK (kinT cs σ).env Tryz.prog X more → @SumsOK (kinT cs σ).env Tryz.prog X (padS m more)
  | 0,_,more,h => h
  | m + 1,hm,more,h => oneSums_ok (kinT cs σ) (a := padTok m) (by simp only [padTok,padTokC,frz,frzs,Bool.and_self]) rfl (pad_fact hcs h6 σ (by omega)) (padS_ok X m (by omega) more h)
include hcs h6 in
theorem okC : @XOK (kinT cs σ).env Tryz.prog (XC cs.length) :=
  @XOK.mk (kinT cs σ).env _ _ mixed funcs_ok (exts_ok (envI := (kinT cs σ).env)) (padS_ok hcs h6 σ _ cs.length (Nat.le_refl _) _ (tabSums_ok (envI := (kinT cs σ).env) (ok0 (envI := (kinT cs σ).env)) rfl rowsN.ok (noSums_ok (envI := (kinT cs σ).env))))
variable {g : Nat} (hg : (cs.length,g) ∈ vars) (hne : cs ≠ [])
include hcs h6 hg hne in
theorem chk_fact (w : World) (avs : Array Value) (hv : @VRs triv w (ρ0 w) (Lv (ρ0 w) h0) [(tyTok cs.length (gsOf g)).subst (kinT cs σ)] avs.toList) : ∃ X0 h1,@CallR triv Tryz.prog X0 (ρ0 w) h0 w (callFunc f_check.num avs) (.ret i0 h1) := by
  have _ := hne
  have hb : chkB cs.length g = true := List.all_eq_true.1 chkAll _ hg
  rw [chkB,F.callC_eq] at hb
  obtain ⟨h',hc⟩ := isV_ret hb
  have hv0 := (VRs_subst (t := kinT cs σ) [tyTok cs.length (gsOf g)] avs.toList).2 hv
  have hR := row_call (envI := (kinT cs σ).env) (okC hcs h6 σ) rfl hc hv0
  exact ⟨XR,h0,CallR.lift (envI := triv) (kinT cs σ).env (X := XR) (HR.empty (envI := triv) rfl) rfl hR⟩
include hcs h6 hg hne in
theorem okK {k : Known} (hk : Known.ok σ k) (hl : ∀ e ∈ k,(∀ i ∈ e.1,i < 100) ∧ (∀ i ∈ e.2.1,i < 100) ∧ e.1.length < 90000 ∧ e.2.1.length < 90000) : @XOK (kinT cs σ).env Tryz.prog (XK cs.length g k) :=
  @XOK.mk (kinT cs σ).env _ _ mixed funcs_ok (exts_ok (envI := (kinT cs σ).env)) (cmpSums_ok (@Lev.ok triv _ (@lev0 triv)) rfl (kinT cs σ) hk (fun e he => ⟨fun i hi => tok_str ((hl e he).1 i hi),fun i hi => tok_str ((hl e he).2.1 i hi)⟩)
    (fun x y hx _ => by
      obtain ⟨v,h1,hc,hv⟩ := compare70 ⟨1,x⟩ ⟨1,y⟩ hx
      rw [hv] at hc
      exact ⟨50,h1,by rw [strsV_eq,strsV_eq]; exact hc⟩)
    (fun e he => (hl e he).2.2)
    (oneSums_ok (kinT cs σ) (frz_tyTok _ _) rfl (chk_fact hcs h6 σ hg hne) (noSums_ok (envI := (kinT cs σ).env))))
end
def canonF (m g : Nat) (l : List (List Nat)) : List (List Nat) := ((kindT g ((legsT m g).eval (nthS l))).eval (nthS l)).map (nthS l)
def swapF (m g i j : Nat) (b : Bool) (l : List (List Nat)) : Option (List (List Nat)) := (swapR m g i j b).map (fun r => r.map (nthS l))
def strs : List AV → Option (List (List Nat))
  | [] => some []
  | .str s :: vs => match strs vs with | some l => some (s :: l) | none => none
  | _ :: _ => none
def strsOf : AV → Option (List (List Nat))
  | .rslc n cs => match strs cs with | some l => bif Nat.beq n l.length then some l else none | none => none
  | _ => none
theorem strs_map : ∀ l : List (List Nat),strs (l.map .str) = some l
  | [] => rfl
  | a :: l => by simp only [List.map_cons,strs,strs_map l]
theorem strsOf_V (l : List (List Nat)) : strsOf (strsV l) = some l := by
  simp only [strsOf,strsV,strs_map,nbeq,decide_true,cond_true]
theorem strs_eq : ∀ {cs : List AV} {l : List (List Nat)},strs cs = some l → cs = l.map .str
  | [],l,h => by cases h; rfl
  | v :: vs,l,h => by
    cases v <;> simp only [strs,reduceCtorEq] at h
    cases hv : strs vs with
    | none => rw [hv] at h; cases h
    | some l' =>
      rw [hv] at h
      cases h
      rw [strs_eq hv]
      rfl
theorem strsOf_eq {v : AV} {l : List (List Nat)} (h : strsOf v = some l) : v = strsV l := by
  cases v <;> simp only [strsOf,reduceCtorEq] at h
  rename_i n cs
  cases hs : strs cs with
  | none => rw [hs] at h; cases h
  | some l' =>
    rw [hs] at h
    simp only at h
    cases hn : Nat.beq n l'.length with
    | false => rw [hn] at h; cases h
    | true =>
      rw [hn] at h
      cases h
      rw [Nat.eq_of_beq_eq_true hn,strs_eq hs]
      rfl
def ixNm : List Nat → List Nat → Option Nat
  | [],_ => none
  | k :: l,s => bif eqS (nmOf k) s then some k else ixNm l s
theorem ixNm_eq : ∀ {l s : List Nat} {k : Nat},ixNm l s = some k → k ∈ l ∧ s = nmOf k
  | [],s,k,h => by cases h
  | a :: l,s,k,h => by
    simp only [ixNm] at h
    cases hb : eqS (nmOf a) s with
    | true => rw [hb] at h; cases h; exact ⟨List.mem_cons_self,(eqS_iff.1 hb).symm⟩
    | false =>
      rw [hb] at h
      obtain ⟨h1,h2⟩ := ixNm_eq h
      exact ⟨List.mem_cons_of_mem _ h1,h2⟩
def swpV : Option (List (List Nat)) → AV
  | some l => .tup [strsV l,i0]
  | none => .tup [.nils,.int .i64 (.ofNat 27)]
def kinS (m g : Nat) (T : AV) (more : Pth → List AV → H → Option AV) (i : Pth) (args : List AV) (h : H) : Option AV :=
  bif Pth.beq i f_canon then (match args with
    | [t,n] => bif AV.beq t T then (match strsOf n with | some l => bif Nat.beq l.length m then some (.tup [strsV (canonF m g l),.bool true]) else none | none => none) else none
    | _ => none)
  else bif Pth.beq i f_swap then (match args with
    | [t,n,.agg [.str [],.str a,.str b,.bool q]] => bif AV.beq t T then (match strsOf n,ixNm (rngL m) a,ixNm (rngL m) b with
      | some l,some i,some j => bif Nat.beq l.length m then some (swpV (swapF m g i j q l)) else none
      | _,_,_ => none) else none
    | _ => none)
  else more i args h
theorem nthS_rng {m : Nat} {l : List (List Nat)} (hl : l.length = m) (hm : m ≤ 6) : (rngL m).map (nthS l) = l := by
  subst hl
  match l,hm with
  | [],_ => rfl
  | [a],_ => rfl
  | [a,b],_ => rfl
  | [a,b,c],_ => rfl
  | [a,b,c,d],_ => rfl
  | [a,b,c,d,e],_ => rfl
  | [a,b,c,d,e,f],_ => rfl
  | a :: b :: c :: d :: e :: f :: g :: l,h => simp only [List.length_cons] at h; omega
theorem rngL_lt {m : Nat} : ∀ i ∈ rngL m,i < 100 := by
  unfold rngL
  split <;> decide
section
variable {cs : List (Nat × Nat × Nat)} (hcs : ∀ c ∈ cs,CodeOK c) (h6 : cs.length ≤ 6) {g : Nat} (hg : (cs.length,g) ∈ vars) (hne : cs ≠ [])
include hcs h6 hg hne in
theorem kinS_ok (X : Ctx) {more : Pth → List AV → H → Option AV} (hm : @SumsOK triv Tryz.prog X more) : @SumsOK triv Tryz.prog X (kinS cs.length g (.agg (tyC (tyOf [112,97,114,116] cs (gsOf g)))) more) := by
  intro i args h v hs ρ w avs hr hv
  unfold kinS at hs
  cases hi : Pth.beq i f_canon with
  | true =>
    rw [hi] at hs
    simp only [cond_true] at hs
    match args,hs with
    | [t, n], hs =>
      cases hb : AV.beq t (.agg (tyC (tyOf [112,97,114,116] cs (gsOf g)))) with
      | false => simp only [hb,cond_false,reduceCtorEq] at hs
      | true =>
        cases hl : strsOf n with
        | none => simp only [hb,hl,cond_true,reduceCtorEq] at hs
        | some l =>
          cases hn : Nat.beq l.length cs.length with
          | false => simp only [hb,hl,hn,cond_true,cond_false,reduceCtorEq] at hs
          | true =>
            simp only [hb,hl,hn,cond_true,Option.some.injEq] at hs
            subst hs
            have e1 := AV.beq_eq _ _ hb
            have e2 := strsOf_eq hl
            subst e1 e2
            have hlen := Nat.eq_of_beq_eq_true hn
            obtain ⟨k1,hk1,hmem⟩ := leaves_path (σ := nthS l) (legsT cs.length g) [] (fun _ h => absurd h List.not_mem_nil)
            obtain ⟨i1,hi1⟩ := List.mem_iff_getElem?.1 hmem
            have hcb := canAll _ hg i1
            simp only [canI,hi1] at hcb
            obtain ⟨k,hk,hp⟩ := DT.path (σ := nthS l) _ _ hcb hk1
            simp only [canP,Bool.and_eq_true,List.all_eq_true] at hp
            obtain ⟨hrun,hr100,hk100⟩ := hp
            rw [F.callC_eq] at hrun
            obtain ⟨v1,h1,hc,hd⟩ := isD_ret hrun
            have hk' : ∀ e ∈ k,(∀ i ∈ e.1,i < 100) ∧ (∀ i ∈ e.2.1,i < 100) ∧ e.1.length < 90000 ∧ e.2.1.length < 90000 := fun e he => by
              obtain ⟨⟨a1,a2⟩,a3,a4⟩ := hk100 e he
              exact ⟨fun i hi => Nat.le_of_ble_eq_true (a1 i hi),fun i hi => Nat.le_of_ble_eq_true (a2 i hi),Nat.le_of_ble_eq_true a3,Nat.le_of_ble_eq_true a4⟩
            have hR := tok_sum (kinT cs (nthS l)) (okK hcs h6 (nthS l) hg hne hk hk') rfl (d := 8) hc (by simp only [frzs,frz_tyTok,frz_netTok,Bool.and_self]) (by rw [hd]; simp only [canR,frz,frzs,frz_netTok,Bool.and_self]) hr (avs := avs)
              (by simp only [substs,tyTok_subst hne,netTok_subst (cs := cs) (σ := nthS l) (rngL_lt (m := cs.length)),nthS_rng hlen h6]; exact hv)
            rw [hd] at hR
            have hsub : (canR ((kindT g ((legsT cs.length g).eval (nthS l))).eval (nthS l))).subst (kinT cs (nthS l)) = .tup [strsV (canonF cs.length g l),.bool true] := by
              simp only [canR,AV.subst,substs,netTok_subst (cs := cs) (σ := nthS l) (fun i hi => Nat.le_of_ble_eq_true (hr100 i hi)),canonF]
            rw [hsub] at hR
            rw [Pth.beq_iff.1 hi]
            exact hR
  | false =>
    rw [hi] at hs
    simp only [cond_false] at hs
    cases hj : Pth.beq i f_swap with
    | false => rw [hj] at hs; exact hm i args h v hs ρ w avs hr hv
    | true =>
      rw [hj] at hs
      simp only [cond_true] at hs
      match args,hs with
      | [t, n, .agg [.str [],.str a,.str b,.bool q]],hs =>
        cases hb : AV.beq t (.agg (tyC (tyOf [112,97,114,116] cs (gsOf g)))) with
        | false => simp only [hb,cond_false,reduceCtorEq] at hs
        | true =>
          cases hl : strsOf n with
          | none => simp only [hb,hl,cond_true,reduceCtorEq] at hs
          | some l =>
            cases ha : ixNm (rngL cs.length) a with
            | none => simp only [hb,hl,ha,cond_true,reduceCtorEq] at hs
            | some x =>
              cases hb' : ixNm (rngL cs.length) b with
              | none => simp only [hb,hl,ha,hb',cond_true,reduceCtorEq] at hs
              | some y =>
                cases hn : Nat.beq l.length cs.length with
                | false => simp only [hb,hl,ha,hb',hn,cond_true,cond_false,reduceCtorEq] at hs
                | true =>
                  simp only [hb,hl,ha,hb',hn,cond_true,Option.some.injEq] at hs
                  subst hs
                  have e1 := AV.beq_eq _ _ hb
                  have e2 := strsOf_eq hl
                  obtain ⟨x1,x2⟩ := ixNm_eq ha
                  obtain ⟨y1,y2⟩ := ixNm_eq hb'
                  subst e1 e2 x2 y2
                  have hlen := Nat.eq_of_beq_eq_true hn
                  have hsa : swpA cs.length g = true := swpAll _ hg
                  have hsb : swpB cs.length g x y q = true := by
                    have := List.all_eq_true.1 (List.all_eq_true.1 hsa x x1) y y1
                    rw [Bool.and_eq_true] at this
                    cases q
                    · exact this.1
                    · exact this.2
                  rw [swpB,F.callC_eq] at hsb
                  obtain ⟨v1,h1,hc,hd⟩ := isD_ret hsb
                  have hr100 : ∀ r,swapR cs.length g x y q = some r → ∀ i ∈ r,i < 100 := fun r hr i hi => by
                    have h1 := List.all_eq_true.1 (List.all_eq_true.1 (List.all_eq_true.1 swpLt _ hg) x x1) y y1
                    have h2 : (match swapR cs.length g x y q with | some r => r.all (fun i => Nat.blt i 100) | none => true) = true := by
                      rw [Bool.and_eq_true] at h1
                      cases q
                      · exact h1.1
                      · exact h1.2
                    rw [hr] at h2
                    exact Nat.le_of_ble_eq_true (List.all_eq_true.1 h2 i hi)
                  have hfr : frz (swpR (swapR cs.length g x y q)) = true := by
                    cases swapR cs.length g x y q with
                    | none => rfl
                    | some r => simp only [swpR,frz,frzs,frz_netTok,Bool.and_self]
                  have hR := tok_sum (kinT cs (nthS l)) (okK hcs h6 (nthS l) hg hne (k := []) (fun _ h => absurd h List.not_mem_nil) (fun _ h => absurd h List.not_mem_nil)) rfl (d := 8) hc (by simp only [frzs,frz_tyTok,frz_netTok,frz,Bool.and_self]) (by rw [hd]; exact hfr) hr (avs := avs)
                    (by simp only [substs,AV.subst,tyTok_subst hne,netTok_subst (cs := cs) (σ := nthS l) (rngL_lt (m := cs.length)),nthS_rng hlen h6]; exact hv)
                  rw [hd] at hR
                  have hsub : (swpR (swapR cs.length g x y q)).subst (kinT cs (nthS l)) = swpV (swapF cs.length g x y q l) := by
                    cases hsr : swapR cs.length g x y q with
                    | none => simp only [swapF,hsr]; rfl
                    | some r => simp only [swapF,hsr,swpR,AV.subst,substs,netTok_subst (cs := cs) (σ := nthS l) (hr100 r hsr),Option.map_some,swpV]
                  rw [hsub] at hR
                  rw [Pth.beq_iff.1 hj]
                  exact hR
end
end Go.Abs.Sym
end
section
namespace Go.Abs.Sym
open Go.Abs.T
open Go.Proofs
structure CaseD where
  ty : Sl Int
  nets : Sl Int
  other : Sl Int
  o0 : Int
  o1 : Int
  o2 : Int
  s0 : Nat
  s1 : Nat
  gate : Bool
def caseC (c : CaseD) : List AV := [slV inC c.ty,slV inC c.nets,slV inC c.other,.int .i64 c.o0,.int .i64 c.o1,.int .i64 c.o2,.int .u8 (.ofNat c.s0),.int .u8 (.ofNat c.s1),.bool c.gate]
def CaseOK (c : CaseD) : Prop := c.ty.l.length < 9223372036854775808 ∧ c.nets.l.length < 9223372036854775808 ∧ c.other.l.length < 9223372036854775808 ∧ c.s0 < 256 ∧ c.s1 < 256
theorem frz_case (c : CaseD) : frzs (caseC c) = true := by
  simp only [caseC,frzs,frz_slV frz_in,frz,Bool.and_self]
def K5 : Ctx := over K3 [t7,t8] []
theorem lev5 [Env] : Lev K5 := (((lev0.over _ _).over _ _).over _ _).over _ _
def partN : List Nat := [112,97,114,116]
set_option maxHeartbeats 1000000 in
theorem made7 (c : CaseD) (hc : CaseOK c) : Ret (callN K3 50 (.fn t7 [] []) [.agg (caseC c)] h0) (fun v _ => ∃ (cs : List (Nat × Nat × Nat)) (gs : List GateD) (n1 n2 : List Nat),2 ≤ cs.length ∧ cs.length ≤ 6 ∧ (∀ c ∈ cs,CodeOK c) ∧ GOK cs.length gs ∧
    n1.length = cs.length ∧ n2.length = cs.length ∧ (∀ x ∈ n1,x < 5) ∧ (∀ x ∈ n2,x < 5) ∧ v = .tup [.agg (tyC (tyOf [112,97,114,116] cs gs)),slV strC ⟨1,n1.map net5⟩,slV strC ⟨1,n2.map net5⟩]) := by
  have hs : ∀ xs,K3.sums t7 xs h0 = none := fun _ => rfl
  have hF : K3.funcs.get t7 = some c7 := rfl
  refine begin1 (hs _) hF fun fr t ga => ?_
  obtain ⟨h1,h2,h3,_,_⟩ := hc
  obtain ⟨cs,gs,k1,k2,k3,k4,k6⟩ := made22_sum c.ty h1 [112,97,114,116]
  have hl : (tyOf [112,97,114,116] cs gs).pads.l.length = cs.length := len_padsOf 0 cs
  obtain ⟨n1,f1,f1',e1⟩ := nets23_sum (tyOf [112,97,114,116] cs gs) (by omega) (by omega) c.nets h2
  obtain ⟨n2,f2,f2',e2⟩ := nets23_sum (tyOf [112,97,114,116] cs gs) (by omega) (by omega) c.other h3
  rw [hl] at f1 f2
  refine ?_
  have key : ∀ T : TypD,tyOf [112,97,114,116] cs gs = T → Ret (leaveA (dcallN K3 49) c7 (execA K3 (callN K3 49) c7.body ⟨fr,[],⟨up .e 0,t,.lf⟩,.no,none,t7⟩)) (fun v _ => v = .tup [.agg (tyC T),slV strC ⟨1,n1.map net5⟩,slV strC ⟨1,n2.map net5⟩]) := by
    intro T hT
    rw [hT] at k6 e1 e2
    have c1 : ∀ h,callN K3 49 (g t18) [slV inC c.ty,.str [112,97,114,116]] h = .ret (.agg (tyC T)) h := fun h => call_sum (k6 h)
    have c2 : ∀ h,callN K3 49 (g t19) [.agg (tyC T),slV inC c.nets] h = .ret (slV strC ⟨1,n1.map net5⟩) h := fun h => call_sum (e1 h)
    have c3 : ∀ h,callN K3 49 (g t19) [.agg (tyC T),slV inC c.other] h = .ret (slV strC ⟨1,n2.map net5⟩) h := fun h => call_sum (e2 h)
    simp only [caseC] at ga
    simp only [tyC] at c1 c2 c3 ⊢
    simp +decide only [c7,execA,opsA,wantedA,evalAll,evalA,oneA,dregA,dopsA,dstep,isMaker,withP_nil,takesP_nil,leavesP_nil,rd_mov,rd_load,rd_fieldp,st_mov,st_alloc,st_box,st_load,st_store,st_call,st_fieldAddr,ld_ptr,H.cellsAt,H.newB,partA,tk_s,tk_0,tk_c,storeA,setAt,ones,cl_agg,on_str,on_slV,St.put,Tr.get_put,if_true,if_false,cond_true,cond_false,Nat.zero_add,Nat.add_zero,skip_up0,up_up,up_succ,List.length,seesHeap,quiet,recheck,nbeq,nble,decide_true,decide_false,Nat.reduceAdd,Bool.and_true,Bool.and_false,Bool.or_true,List.all,ret_iff,leaveA,dfrsA,resultA,resultsA,Option.map_some,beq_rfl,Bool.and_self,ga,c1,c2,c3]
  obtain ⟨v,h',e,hv⟩ := key _ rfl
  exact ⟨v,h',e,cs,gs,n1,n2,k1,k2,k3,k4,f1,f2,f1',f2',hv⟩
theorem made7_sum (c : CaseD) (hc : CaseOK c) : ∃ (cs : List (Nat × Nat × Nat)) (gs : List GateD) (n1 n2 : List Nat),2 ≤ cs.length ∧ cs.length ≤ 6 ∧ (∀ c ∈ cs,CodeOK c) ∧ GOK cs.length gs ∧
    n1.length = cs.length ∧ n2.length = cs.length ∧ (∀ x ∈ n1,x < 5) ∧ (∀ x ∈ n2,x < 5) ∧ ∀ h,K5.sums t7 [.agg (caseC c)] h = some (.tup [.agg (tyC (tyOf [112,97,114,116] cs gs)),slV strC ⟨1,n1.map net5⟩,slV strC ⟨1,n2.map net5⟩]) := by
  obtain ⟨v,h1,hc,cs,gs,n1,n2,k1,k2,k3,k4,f1,f2,f3,f4,rfl⟩ := made7 c hc
  exact ⟨cs,gs,n1,n2,k1,k2,k3,k4,f1,f2,f3,f4,fun h => over_fz' rfl hc (by simp only [frzs,frz,frz_case,Bool.and_self]) (by simp only [frzs,frz,frz_ty,frz_slV frz_str,Bool.and_self]) h⟩
theorem rem_nat (a m : Nat) : (Int.ofNat a).tmod (Int.ofNat m) = Int.ofNat (a % m) := (Int.ofNat_tmod a m).symm
set_option maxHeartbeats 1000000 in
theorem cswap8 (c : CaseD) (hc : CaseOK c) (T : TypD) (h0p : 0 < T.pads.l.length) (_hl : T.pads.l.length < 90000) : Ret (callN K3 50 (.fn t8 [] []) [.agg (caseC c),.agg (tyC T)] h0)
    (fun v _ => ∃ (i j : Nat) (p q : PadD),T.pads.l[i]? = some p ∧ T.pads.l[j]? = some q ∧ v = .agg [.str [],.str p.nm,.str q.nm,.bool c.gate]) := by
  have hs : ∀ xs,K3.sums t8 xs h0 = none := fun _ => rfl
  have hF : K3.funcs.get t8 = some c8 := rfl
  refine begin2 (hs _) hF fun fr t ga gb => ?_
  obtain ⟨_,_,_,h4,h5⟩ := hc
  have hz := eqI_pos h0p
  have hi := Nat.mod_lt c.s0 h0p
  have hj := Nat.mod_lt c.s1 h0p
  obtain ⟨p,hp⟩ : ∃ p,T.pads.l[c.s0 % T.pads.l.length]? = some p := ⟨_,List.getElem?_eq_getElem hi⟩
  obtain ⟨q,hq⟩ : ∃ q,T.pads.l[c.s1 % T.pads.l.length]? = some q := ⟨_,List.getElem?_eq_getElem hj⟩
  have ip := at_slV (f := padC) (sz := 7) len_pad (by decide) hp
  have iq := at_slV (f := padC) (sz := 7) len_pad (by decide) hq
  have w0 : wrapA .i64 (.ofNat c.s0) = .ofNat c.s0 := wr_id (by simp only [Int.ofNat_eq_natCast]; omega) (by simp only [Int.ofNat_eq_natCast]; omega)
  have w1 : wrapA .i64 (.ofNat c.s1) = .ofNat c.s1 := wr_id (by simp only [Int.ofNat_eq_natCast]; omega) (by simp only [Int.ofNat_eq_natCast]; omega)
  have ia0 : ∀ id,indexAddrA (.arr 2 1) (.ptr id 6) i0 = some (.ptr id 6) := fun _ => rfl
  have ia1 : ∀ id,indexAddrA (.arr 2 1) (.ptr id 6) i1 = some (.ptr id 7) := fun _ => rfl
  have cv : ∀ h n,(convA h (.int .i64) (.int .u8 n)).map (fun x => x.1) = some (.int .i64 (wrapA .i64 n)) := fun _ _ => rfl
  simp only [caseC] at ga
  simp only [tyC] at gb
  simp only [padC] at ip iq
  simp +decide only [c8,execA,opsA,wantedA,evalAll,evalA,oneA,dregA,dopsA,dstep,isMaker,withP_nil,takesP_nil,leavesP_nil,rd_build,rd_load,rd_bin,rd_fieldp,rd_fieldr,rd_indexAddr,rd_len,rd_conv,st_alloc,st_box,st_load,st_store,st_bin,st_fieldAddr,st_indexAddr,st_build,st_fieldr,st_len,st_conv,ld_ptr,ld_rn,H.cellsAt,H.newB,partA,tk_s,tk_0,tk_c,storeA,setAt,fillA,ones,cl_agg,on_bool,cl_bool,on_str,cl_str,binAV,St.put,Tr.get_put,List.nil_append,List.cons_append,if_true,if_false,cond_true,cond_false,Nat.zero_add,skip_up0,up_up,up_succ,List.drop,List.length,seesHeap,quiet,nbeq,nble,decide_true,Nat.reduceAdd,Nat.reduceLeDiff,Bool.and_true,Bool.and_false,Bool.or_true,List.all,eqK,kindNo,ret_iff,leaveA,dfrsA,resultA,resultsA,Option.map_some,Bool.and_self,Nat.add_assoc,ga,gb,len_slV,w0,w1,hz,rem_nat,ip,iq,ia0,ia1,cv]
  exact ⟨_,_,p,q,hp,hq,rfl⟩
end Go.Abs.Sym
end
section
namespace Go.Abs.Sym
open Go.Abs.T
open Go.Proofs
theorem padsOf_get : ∀ (k : Nat) (cs : List (Nat × Nat × Nat)) (i : Nat) (p : PadD),(padsOf k cs)[i]? = some p → i < cs.length ∧ p.nm = nmOf (k + i)
  | k,[],i,p,h => by cases i <;> cases h
  | k,c :: cs,0,p,h => by
    cases h
    exact ⟨Nat.succ_pos _,rfl⟩
  | k,c :: cs,i + 1,p,h => by
    obtain ⟨h1,h2⟩ := padsOf_get (k + 1) cs i p h
    exact ⟨Nat.succ_lt_succ h1,by rw [h2,show k + 1 + i = k + (i + 1) by omega]⟩
theorem ixNm_rng {m i : Nat} (hm : m ≤ 6) (hi : i < m) : ixNm (rngL m) (nmOf i) = some i ∧ i ∈ rngL m := by
  have h : ∀ m : Fin 7,∀ i : Fin 7,i.1 < m.1 → ixNm (rngL m) (nmOf i) = some i.1 ∧ i.1 ∈ rngL m := by decide
  exact h ⟨m,by omega⟩ ⟨i,by omega⟩ hi
section
variable (m g : Nat) (T : TypD)
def KT : Ctx := { K5 with sums := kinS m g (.agg (tyC T)) K5.sums }
theorem kt_canon (l : List (List Nat)) (hl : l.length = m) (h : H) : (KT m g T).sums t10 [.agg (tyC T),strsV l] h = some (.tup [strsV (canonF m g l),.bool true]) := by
  have h1 : Pth.beq t10 f_canon = true := rfl
  have h2 : Nat.beq l.length m = true := by rw [nbeq]; exact decide_eq_true hl
  simp only [KT,kinS,h1,cond_true,beq_rfl,strsOf_V,h2]
theorem kt_swap (l : List (List Nat)) (hl : l.length = m) {i j : Nat} (hm : m ≤ 6) (hi : i < m) (hj : j < m) (q : Bool) (h : H) : (KT m g T).sums t9 [.agg (tyC T),strsV l,.agg [.str [],.str (nmOf i),.str (nmOf j),.bool q]] h = some (swpV (swapF m g i j q l)) := by
  have h0 : Pth.beq t9 f_canon = false := rfl
  have h1 : Pth.beq t9 f_swap = true := rfl
  have h2 : Nat.beq l.length m = true := by rw [nbeq]; exact decide_eq_true hl
  simp only [KT,kinS,h0,h1,cond_true,cond_false,beq_rfl,strsOf_V,h2,(ixNm_rng hm hi).1,(ixNm_rng hm hj).1]
theorem kt_rest (f : Pth) (h1 : Pth.beq f t10 = false) (h2 : Pth.beq f t9 = false) (xs : List AV) (h : H) : (KT m g T).sums f xs h = K5.sums f xs h := by
  have h1' : Pth.beq f f_canon = false := h1
  have h2' : Pth.beq f f_swap = false := h2
  simp only [KT,kinS,h1',h2',cond_false]
theorem over_rest {X : Ctx} {fz dp : List Pth} {f : Pth} (h1 : memP f fz = false) (h2 : memP f dp = false) (xs : List AV) (h : H) : (over X fz dp).sums f xs h = X.sums f xs h := by
  simp only [over,sumsOf,h1,h2,cond_false]
theorem k5_11 (xs : List AV) (h : H) : K5.sums t11 xs h = K2.sums t11 xs h := (over_rest (X := K3) rfl rfl xs h).trans (over_rest (X := K2) rfl rfl xs h)
theorem k5_37 (xs : List AV) (h : H) : K5.sums t37 xs h = K1.sums t37 xs h := ((over_rest (X := K3) rfl rfl xs h).trans (over_rest (X := K2) rfl rfl xs h)).trans (over_rest (X := K1) rfl rfl xs h)
theorem k5_6 (xs : List AV) (h : H) : K5.sums t6 xs h = sanS t6 xs h := ((over_rest (X := K3) rfl rfl xs h).trans (over_rest (X := K2) rfl rfl xs h)).trans ((over_rest (X := K1) rfl rfl xs h).trans (over_rest (X := K0) rfl rfl xs h))
theorem ex_0 (a : AV) (l : List AV) : (a :: l)[0]? = some a := rfl
theorem ex_1 (a b : AV) (l : List AV) : (a :: b :: l)[1]? = some b := rfl
theorem ex_2 (a b c : AV) (l : List AV) : (a :: b :: c :: l)[2]? = some c := rfl
set_option maxHeartbeats 1000000 in
theorem allowed12 (a b : List (List Nat)) (ha : a.length = m) (hb : b.length = m) (hc : (canonF m g a).length < 90000) : Ret (callN (KT m g T) 50 (.fn t12 [] []) [.agg (tyC T),strsV a,strsV b] h0) (fun v _ => v = .bool (decide (canonF m g a = canonF m g b))) := by
  have hs : ∀ xs,(KT m g T).sums t12 xs h0 = none := fun xs => by rw [kt_rest m g T t12 rfl rfl]; rfl
  have hF : (KT m g T).funcs.get t12 = some c12 := rfl
  refine begin3 (hs _) hF fun fr t ga gb gc => ?_
  have c1 : ∀ h,callN (KT m g T) 49 (.fn t10 [] []) [.agg (tyC T),strsV a] h = .ret (.tup [strsV (canonF m g a),.bool true]) h := fun h => call_sum (kt_canon m g T a ha h)
  have c2 : ∀ h,callN (KT m g T) 49 (.fn t10 [] []) [.agg (tyC T),strsV b] h = .ret (.tup [strsV (canonF m g b),.bool true]) h := fun h => call_sum (kt_canon m g T b hb h)
  have c3 : ∀ h,callN (KT m g T) 49 (.fn t37 [] []) [strsV (canonF m g a),strsV (canonF m g b)] h = .ret (.bool (decide (canonF m g a = canonF m g b))) h := fun h => call_sum (by
    rw [List.nil_append,List.append_nil,kt_rest m g T t37 rfl rfl,k5_37,strsV_eq,strsV_eq]
    exact equal52_sum ⟨1,canonF m g a⟩ ⟨1,canonF m g b⟩ hc h)
  simp only [tyC] at ga c1 c2
  simp only [strsV] at gb gc c1 c2 c3
  simp +decide only [c12,execA,opsA,wantedA,evalAll,evalA,oneA,st_mov,st_box,st_load,st_call,st_extract,st_pick,ld_ptr,H.cellsAt,H.newB,partA,tk_0,tk_c,cl_agg,St.put,Tr.get_put,if_true,if_false,cond_true,Nat.zero_add,up_succ,ret_iff,leaveA,dfrsA,resultA,resultsA,Option.map_some,beq_self_eq_true,ex_0,ex_1,ga,gb,gc,c1,c2,c3]
def KU : Ctx := over (KT m g T) [t12] []
theorem ku_12 (a b : List (List Nat)) (ha : a.length = m) (hb : b.length = m) (hc : (canonF m g a).length < 90000) (h : H) : (KU m g T).sums t12 [.agg (tyC T),strsV a,strsV b] h = some (.bool (decide (canonF m g a = canonF m g b))) := by
  obtain ⟨v,h1,hcall,hv⟩ := allowed12 m g T a b ha hb hc
  rw [hv] at hcall
  exact over_fz' rfl hcall (by simp only [strsV_eq,frzs,frz,frz_ty,frz_slV frz_str,Bool.and_self]) rfl h
theorem ku_rest (f : Pth) (h1 : Pth.beq f t12 = false) (xs : List AV) (h : H) : (KU m g T).sums f xs h = (KT m g T).sums f xs h := by
  simp only [KU,over,sumsOf,memP,h1,Bool.or_self,cond_false]
end
end Go.Abs.Sym
end
section
namespace Go.Abs.Sym
open Go.Abs.T
open Go.Proofs
theorem len_setS : ∀ (r : List (List Nat)) (p : Nat) (x : List Nat),(setS r p x).length = r.length
  | [],p,x => rfl
  | a :: r,0,x => rfl
  | a :: r,p + 1,x => by simp only [setS,List.length_cons,len_setS r p x]
theorem len_putS : ∀ (ps : List Nat) (r xs : List (List Nat)),(putS r ps xs).length = r.length
  | [],r,xs => by cases xs <;> rfl
  | p :: ps,r,[] => rfl
  | p :: ps,r,x :: xs => by rw [putS,len_putS ps,len_setS]
theorem len_putSs : ∀ (ps : List (List Nat)) (r : List (List Nat)) (xs : List (List (List Nat))),(putSs r ps xs).length = r.length
  | [],r,xs => by cases xs <;> rfl
  | p :: ps,r,[] => rfl
  | p :: ps,r,x :: xs => by rw [putSs,len_putSs ps,len_putS]
theorem len_legsS : ∀ (gs : List (Nat × List (Nat × Nat))) (r : List (List Nat)),(legsS gs r).length = r.length
  | [],r => rfl
  | g :: gs,r => by rw [legsS,len_legsS gs,sortedS,len_putSs]
theorem len_canonS (g : Nat) (l : List (List Nat)) : (canonS g l).length = l.length := by
  rw [canonS,sortedS,len_putSs,sortedS,len_putSs,len_legsS]
theorem inR_all : ∀ v ∈ vars,inR (rngL v.1).length (gtOf v.2) := by
  have h : vars.all (fun v => (gtOf v.2).all (fun g => g.2.all (fun l => decide (l.1 < (rngL v.1).length)))) = true := by decide
  intro v hv g hg l hl
  exact of_decide_eq_true (List.all_eq_true.1 (List.all_eq_true.1 (List.all_eq_true.1 h v hv) g hg) l hl)
section
variable {m g : Nat} (hv : (m,g) ∈ vars) (hm : m ≤ 6)
include hv hm
theorem canonF_eq {l : List (List Nat)} (hl : l.length = m) : canonF m g l = canonS g l := by
  rw [canonF,canon_eval (nthS l) (inR_all _ hv),nthS_rng hl hm]
theorem swap_some {i j : Nat} (hi : i < m) (hj : j < m) {q : Bool} {l b : List (List Nat)} (hl : l.length = m) (h : swapF m g i j q l = some b) : b.length = m ∧ swapF m g i j q b = some l ∧ canonF m g b = canonF m g l := by
  obtain ⟨r,hr,rfl⟩ := Option.map_eq_some_iff.1 h
  have h1 := List.all_eq_true.1 (List.all_eq_true.1 (List.all_eq_true.1 swAllIn _ hv) i (ixNm_rng hm hi).2) j (ixNm_rng hm hj).2
  have h2 : swIn m g (some r) = true := by
    rw [← hr]
    rw [Bool.and_eq_true] at h1
    cases q
    · exact h1.1
    · exact h1.2
  simp only [swIn,Bool.and_eq_true,List.any_eq_true,List.all_eq_true] at h2
  obtain ⟨⟨x,hx,e⟩,e2,e3⟩ := h2
  have e := eqS_iff.1 e
  subst e
  have e2 := eqS_iff.1 e2
  have hlen : r.length = m := by
    have := congrArg List.length e2
    rw [takeL,List.length_map] at this
    rw [this]
    have : ∀ m : Fin 7,(rngL m).length = m.1 := by decide
    exact this ⟨m,by omega⟩
  have hb : (r.map (nthS l)).length = m := by rw [List.length_map]; exact hlen
  refine ⟨hb,?_,?_⟩
  · rw [swapF,hr,Option.map_some]
    congr 1
    have : r.map (nthS (r.map (nthS l))) = (takeL r r).map (nthS l) := by
      rw [takeL,List.map_map]
      exact List.map_congr_left fun p hp => nthS_map (nthS l) r p (by rw [hlen]; exact Nat.le_of_ble_eq_true (e3 p hp))
    rw [this,e2,nthS_rng hl hm]
  · rw [canonF_eq hv hm hb,canonF_eq hv hm hl]
    exact swap_canon hv hx hl
end
theorem levKT {cs : List (Nat × Nat × Nat)} (hcs : ∀ c ∈ cs,CodeOK c) (h6 : cs.length ≤ 6) {g : Nat} (hg : (cs.length,g) ∈ vars) (hne : cs ≠ []) : @Lev triv (KT cs.length g (tyOf [112,97,114,116] cs (gsOf g))) :=
  @Lev.mk triv _ (@XOK.mk triv _ _ mixed funcs_ok (exts_ok (envI := triv)) (kinS_ok hcs h6 hg hne _ (@Lev.sums triv _ (@lev5 triv) _))) rfl (fun _ => kinS_ok hcs h6 hg hne _ (@Lev.sums triv _ (@lev5 triv) _)) (fun _ i args v => exts_ok (envI := triv) i args v)
theorem cswap_sum (c : CaseD) (hc : CaseOK c) (T : TypD) (h0p : 0 < T.pads.l.length) (hl : T.pads.l.length < 90000) : ∃ (i j : Nat) (p q : PadD),T.pads.l[i]? = some p ∧ T.pads.l[j]? = some q ∧ ∀ h,K5.sums t8 [.agg (caseC c),.agg (tyC T)] h = some (.agg [.str [],.str p.nm,.str q.nm,.bool c.gate]) := by
  obtain ⟨v,h1,hcall,i,j,p,q,e1,e2,rfl⟩ := cswap8 c hc T h0p hl
  exact ⟨i,j,p,q,e1,e2,fun h => over_fz' rfl hcall (by simp only [frzs,frz,frz_case,frz_ty,Bool.and_self]) rfl h⟩
end Go.Abs.Sym
end
section
namespace Go.Abs
variable [envI : Env]
inductive Ty where
  | bool
  | int (k : IntKind)
  | str
  | slc (e : Ty)
  | agg (fs : List Ty)
  deriving Inhabited
mutual
def Ty.size : Ty → Nat
  | .agg fs => Ty.sizes fs
  | _ => 1
def Ty.sizes : List Ty → Nat
  | [] => 0
  | f :: fs => f.size + Ty.sizes fs
end
mutual
def HasTy : Ty → List AV → Prop
  | .bool,al => ∃ b,al = [.bool b]
  | .int k,al => ∃ n,(Lit.int k n).wf = true ∧ al = [.int k n]
  | .str,al => ∃ s : List Nat,s.length ≤ maxLen ∧ (∀ b ∈ s,b < 256) ∧ al = [.str s]
  | .slc e,al => al = [.nils] ∨ ∃ ess : List (List AV),ess.length ≤ maxLen ∧ (∀ es ∈ ess,HasTy e es) ∧ al = [.rslc ess.length ess.flatten]
  | .agg fs,al => HasTys fs al
def HasTys : List Ty → List AV → Prop
  | [],al => al = []
  | f :: fs,al => ∃ a b,HasTy f a ∧ HasTys fs b ∧ al = a ++ b
end
mutual
def tyOK (P : Program) : Ty → TypeId → Bool
  | .bool,t => match P.underlying t with | some .bool => true | _ => false
  | .int k,t => match P.underlying t with | some (.int k') => eqK k' k | _ => false
  | .str,t => match P.underlying t with | some .string => true | _ => false
  | .slc e,t => match P.underlying t with | some (.slice e') => Nat.beq (P.cellsOf e') e.size && tyOK P e e' | _ => false
  | .agg fs,t => Nat.beq (P.cellsOf t) (Ty.sizes fs) && (match P.underlying t with
    | some (.struct fs') => tysOK P fs 0 (fs'.toList.map fun f => (f.type,f.offset))
    | some (.array n e) => tysOK P fs 0 ((List.range n).map fun i => (e,i * P.cellsOf e))
    | _ => false)
def tysOK (P : Program) : List Ty → Nat → List (TypeId × Nat) → Bool
  | [],_,[] => true
  | f :: fs,off,(t,o) :: l => Nat.beq o off && Nat.beq (P.cellsOf t) f.size && tyOK P f t && tysOK P fs (off + f.size) l
  | _,_,_ => false
end
omit envI in
mutual
theorem HasTy.frz : ∀ {ty : Ty} {al : List AV},HasTy ty al → frzs al = true
  | .bool,al,h => by
    simp only [HasTy] at h
    obtain ⟨b,rfl⟩ := h
    rfl
  | .int k,al,h => by
    simp only [HasTy] at h
    obtain ⟨n,_,rfl⟩ := h
    rfl
  | .str,al,h => by
    simp only [HasTy] at h
    obtain ⟨s,_,_,rfl⟩ := h
    rfl
  | .slc e, al,h => by
    simp only [HasTy] at h
    rcases h with rfl | ⟨ess,_,h,rfl⟩
    · rfl
    · have : ∀ l : List (List AV),(∀ es ∈ l,HasTy e es) → frzs l.flatten = true := by
        intro l
        induction l with
        | nil => intro _; rfl
        | cons es l ih =>
          intro h
          have happ : ∀ a b : List AV,frzs (a ++ b) = (frzs a && frzs b) := by
            intro a b
            induction a with
            | nil => simp only [List.nil_append,frzs,Bool.true_and]
            | cons v a ih => simp only [List.cons_append,frzs,ih,Bool.and_assoc]
          rw [List.flatten_cons,happ,HasTy.frz (h es (List.mem_cons_self ..)),ih (fun x hx => h x (List.mem_cons_of_mem _ hx))]
          rfl
      simp only [frzs,Abs.frz,this ess h,Bool.and_true]
  | .agg fs,al,h => by
    simp only [HasTy] at h
    exact HasTys.frz h
theorem HasTys.frz : ∀ {fs : List Ty} {al : List AV},HasTys fs al → frzs al = true
  | [],al,h => by
    simp only [HasTys] at h
    subst h
    rfl
  | f :: fs,al,h => by
    simp only [HasTys] at h
    obtain ⟨a,b,h1,h2,rfl⟩ := h
    have happ : ∀ a b : List AV,frzs (a ++ b) = (frzs a && frzs b) := by
      intro a b
      induction a with
      | nil => simp only [List.nil_append,frzs,Bool.true_and]
      | cons v a ih => simp only [List.cons_append,frzs,ih,Bool.and_assoc]
    rw [happ,HasTy.frz h1,HasTys.frz h2]
    rfl
end
omit envI in
mutual
theorem HasTy.size : ∀ {ty : Ty} {al : List AV},HasTy ty al → al.length = ty.size
  | .bool,al,h => by simp only [HasTy] at h; obtain ⟨b,rfl⟩ := h; rfl
  | .int k,al,h => by simp only [HasTy] at h; obtain ⟨n,_,rfl⟩ := h; rfl
  | .str,al,h => by simp only [HasTy] at h; obtain ⟨s,_,_,rfl⟩ := h; rfl
  | .slc e,al,h => by
    simp only [HasTy] at h
    rcases h with rfl | ⟨ess,_,h,rfl⟩ <;> rfl
  | .agg fs,al,h => by
    simp only [HasTy] at h
    exact HasTys.size h
theorem HasTys.size : ∀ {fs : List Ty} {al : List AV},HasTys fs al → al.length = Ty.sizes fs
  | [],al,h => by simp only [HasTys] at h; subst h; rfl
  | f :: fs,al,h => by
    simp only [HasTys] at h
    obtain ⟨a,b,h1,h2,rfl⟩ := h
    rw [List.length_append,HasTy.size h1,HasTys.size h2]
    rfl
end
section
variable {H : Type} {enc : TypeId × Value → H} {P : Program} {w : World} {spare : Nat → Bool} {held : Bool}
theorem VRs_append {w : World} {ρ : Nm} {L : Nat → Prop} : ∀ {a b : List AV} {x y : List Value},VRs w ρ L a x → VRs w ρ L b y → VRs w ρ L (a ++ b) (x ++ y)
  | [],b,x,y,h1,h2 => by
    simp only [VRs] at h1
    subst h1
    exact h2
  | v :: a,b,x,y,h1,h2 => by
    simp only [VRs] at h1
    obtain ⟨u,us,rfl,h3,h4⟩ := h1
    simp only [List.cons_append,VRs]
    exact ⟨u,us ++ y,rfl,h3,VRs_append h4 h2⟩
theorem VRp_of_VRs {w : World} {ρ : Nm} {L : Nat → Prop} : ∀ {a : List AV} {x z : List Value},VRs w ρ L a x → VRp w ρ L a (x ++ z)
  | [],x,z,h => by simp only [VRp]
  | v :: a,x,z,h => by
    simp only [VRs] at h
    obtain ⟨u,us,rfl,h3,h4⟩ := h
    simp only [List.cons_append,VRp]
    exact ⟨u,us ++ z,rfl,h3,VRp_of_VRs h4⟩
omit envI in
theorem nl0 {b : Nat} (h : b < w.heap.size) : NL (ρ0 w) (Lv (ρ0 w) h0) b := ⟨no_live b,h⟩
omit envI in
theorem mapM_cells {α : Type} {f : Nat → Option α} : ∀ {l : List Nat} {xs : List α},l.mapM f = some xs → xs.length = l.length ∧ ∀ i (h : i < l.length),f l[i] = xs[i]? := by
  intro l
  induction l with
  | nil => intro xs h; simp at h; subst h; exact ⟨rfl,fun i h => absurd h (Nat.not_lt_zero _)⟩
  | cons a l ih =>
    intro xs h
    simp only [List.mapM_cons,Option.bind_eq_bind,Option.bind_eq_some_iff,Option.pure_def,Option.some.injEq] at h
    obtain ⟨x,h1,xs',h2,rfl⟩ := h
    obtain ⟨h3,h4⟩ := ih h2
    refine ⟨by simp [h3],fun i hi => ?_⟩
    cases i with
    | zero => simp [h1]
    | succ i => simp at hi ⊢; exact h4 i hi
omit envI in
theorem cells_at {a : Addr} {n : Nat} {cs : List Value} (h : w.cells? 0 a n = some cs) (hn : 0 < n) : ∃ b off c el fz,a = ⟨b,off,none⟩ ∧ w.heap[b]? = some (.cells c el fz) ∧ cs.length = n ∧ cs = (c.toList.drop off).take n ∧ off + n ≤ c.size := by
  unfold World.cells? at h
  rw [if_pos (Nat.zero_le _)] at h
  obtain ⟨hl,hi⟩ := mapM_cells h
  rw [List.length_range] at hl
  have hget : ∀ i,i < n → w.cell? (a.add i) = cs[i]? := by
    intro i hin
    have := hi i (by rw [List.length_range]; exact hin)
    rwa [List.getElem_range] at this
  have h0' := hget 0 hn
  rw [List.getElem?_eq_getElem (by omega)] at h0'
  have hsp : a.spot = none := by
    have := World.cell?_spot h0'
    obtain ⟨b,off,spot⟩ := a
    simpa only [Addr.add,if_true,reduceIte] using this
  obtain ⟨b,off,spot⟩ := a
  simp only at hsp
  subst hsp
  rw [add_plain] at h0'
  unfold World.cell? at h0'
  simp only at h0'
  cases hb : w.heap[b]? with
  | none => rw [hb] at h0'; cases h0'
  | some o =>
    rw [hb] at h0'
    cases o with
    | cells c el fz =>
      have hall : ∀ i,i < n → c[off + i]? = cs[i]? := by
        intro i hin
        have := hget i hin
        rw [add_plain] at this
        unfold World.cell? at this
        simp only [hb] at this
        exact this
      have hsz : off + n ≤ c.size := by
        have := hall (n - 1) (by omega)
        rw [List.getElem?_eq_getElem (by omega)] at this
        obtain ⟨hlt,_⟩ := Array.getElem?_eq_some_iff.1 this
        omega
      refine ⟨b,off,c,el,fz,rfl,hb,hl,?_,hsz⟩
      apply List.ext_getElem?
      intro i
      rcases Nat.lt_or_ge i n with hin | hin
      · rw [← hall i hin,List.getElem?_take_of_lt hin,List.getElem?_drop,Array.getElem?_toList]
      · rw [List.getElem?_eq_none (by omega),List.getElem?_eq_none (by simp; omega)]
    | _ => cases h0'
omit envI in
theorem take_drop_split {α : Type} (l : List α) (a n m : Nat) : (l.drop a).take (n + m) = (l.drop a).take n ++ (l.drop (a + n)).take m := by
  rw [List.take_add,List.drop_drop]
theorem VRp_prefix {ρ : Nm} {L : Nat → Prop} {al : List AV} {l : List Value} {n : Nat} (h : VRs w ρ L al (l.take n)) : VRp w ρ L al l := by
  have := VRp_of_VRs (z := l.drop n) h
  rwa [List.take_append_drop] at this
theorem VRs_nil' {ρ : Nm} {L : Nat → Prop} : VRs w ρ L [] [] := by simp only [VRs]
theorem row_av {e : Ty} {e' : TypeId} {a : Addr} {len sz fuel : Nat} (_hsz : sz = e.size) (hpos : 0 < sz) (hlen : 0 < len)
    (ih : ∀ {cs : List Value} {x : DataW H × List MemPlace},DataW.trod enc P w 0 spare held fuel e' cs = some x → ∃ al,HasTy e al ∧ VRs w (ρ0 w) (Lv (ρ0 w) h0) al cs)
    (hel : ∀ i,i < len → ∃ x,(w.cells? 0 (a.add (i * sz)) sz).bind (DataW.trod enc P w 0 spare held fuel e') = some x) :
    ∃ b off c el fz,a = ⟨b,off,none⟩ ∧ w.heap[b]? = some (.cells c el fz) ∧ ∀ n,n ≤ len → ∃ ess : List (List AV),ess.length = n ∧ (∀ es ∈ ess,HasTy e es) ∧ VRs w (ρ0 w) (Lv (ρ0 w) h0) ess.flatten ((c.toList.drop off).take (n * sz)) := by
  obtain ⟨x0,hx0⟩ := hel 0 hlen
  obtain ⟨cs0,hc0,_⟩ := Option.bind_eq_some_iff.1 hx0
  obtain ⟨b,off,c,el,fz,ha,hb,_⟩ := cells_at hc0 hpos
  have ha' : a = ⟨b,off,none⟩ := by
    obtain ⟨b0,o0,s0⟩ := a
    simp only [Addr.add,Nat.zero_mul,Nat.add_zero] at ha
    exact ha
  refine ⟨b,off,c,el,fz,ha',hb,?_⟩
  intro n
  induction n with
  | zero => intro _; exact ⟨[],rfl,fun _ h => absurd h (List.not_mem_nil),by rw [Nat.zero_mul,List.take_zero]; exact VRs_nil'⟩
  | succ n ihn =>
    intro hn
    obtain ⟨ess,h1,h2,h3⟩ := ihn (by omega)
    obtain ⟨x,hx⟩ := hel n (by omega)
    obtain ⟨cs,hc,hx⟩ := Option.bind_eq_some_iff.1 hx
    obtain ⟨al,g1,g2⟩ := ih hx
    obtain ⟨b',off',c',el',fz',hadd,hb',_,hcs,hle⟩ := cells_at hc hpos
    rw [ha'] at hadd
    rw [add_plain] at hadd
    simp only [Addr.mk.injEq] at hadd
    obtain ⟨rfl,rfl,_⟩ := hadd
    rw [hb] at hb'
    cases hb'
    refine ⟨ess ++ [al],by rw [List.length_append,h1]; rfl,?_,?_⟩
    · intro es hes
      rcases List.mem_append.1 hes with h | h
      · exact h2 es h
      · rw [List.mem_singleton.1 h]; exact g1
    · rw [List.flatten_append,show (n + 1) * sz = n * sz + sz from Nat.succ_mul n sz,take_drop_split]
      refine VRs_append h3 ?_
      rw [← hcs]
      simpa using g2
mutual
theorem trod_av : ∀ (ty : Ty) {t : TypeId},tyOK P ty t = true → ∀ {fuel : Nat} {cs : List Value} {x : DataW H × List MemPlace},DataW.trod enc P w 0 spare held fuel t cs = some x →
    ∃ al,HasTy ty al ∧ VRs w (ρ0 w) (Lv (ρ0 w) h0) al cs
  | .bool,t,hty,fuel,cs,x,h => by
    simp only [tyOK] at hty
    split at hty
    · rename_i hu
      obtain ⟨b,rfl,_⟩ := DataW.trod_bool hu h
      exact ⟨[.bool b],by simp only [HasTy]; exact ⟨b,rfl⟩,by simp only [VRs,VR]; exact ⟨_,_,rfl,rfl,rfl⟩⟩
    · cases hty
  | .int k,t,hty,fuel,cs,x,h => by
    simp only [tyOK] at hty
    split at hty
    · rename_i k' hu
      obtain ⟨n,rfl,_,hw⟩ := DataW.trod_int hu h
      obtain rfl : k' = k := by cases k' <;> cases k <;> first | rfl | cases hty
      exact ⟨[.int k' n],by simp only [HasTy]; exact ⟨n,hw,rfl⟩,by simp only [VRs,VR]; exact ⟨_,_,rfl,rfl,rfl⟩⟩
    · cases hty
  | .str,t,hty,fuel,cs,x,h => by
    simp only [tyOK] at hty
    split at hty
    · rename_i hu
      obtain ⟨s,rfl,_,hs⟩ := DataW.trod_string hu h
      refine ⟨[.str (bytesL s)],?_,by simp only [VRs,VR]; exact ⟨_,_,rfl,⟨s,rfl,rfl⟩,rfl⟩⟩
      simp only [HasTy]
      refine ⟨_,?_,?_,rfl⟩
      · simp only [bytesL,List.length_map,Array.length_toList]
        exact hs
      · intro b hb
        simp only [bytesL,List.mem_map] at hb
        obtain ⟨u,_,rfl⟩ := hb
        exact u.toNat_lt
    · cases hty
  | .slc e, t, hty,fuel,cs,x,h => by
    simp only [tyOK] at hty
    split at hty
    · rename_i e' hu
      simp only [Bool.and_eq_true] at hty
      have hsz : P.cellsOf e' = e.size := Nat.eq_of_beq_eq_true hty.1
      rcases DataW.trod_slice hu h with ⟨rfl,_⟩ | ⟨a,len,cap,elems,rest,n,rfl,rfl,_,_,hlc,hcm,hel,hat,_⟩
      · exact ⟨[.nils],by simp only [HasTy]; exact .inl trivial,by simp only [VRs,VR]; exact ⟨_,_,rfl,rfl,rfl⟩⟩
      · have hat' : ∀ i,i < len → ∃ x,(w.cells? 0 (a.add (i * P.cellsOf e')) (P.cellsOf e')).bind (DataW.trod enc P w 0 spare held n e') = some x := by
          intro i hi
          exact ⟨elems[i]'(by omega),by rw [hat i hi,List.getElem?_eq_getElem]⟩
        rcases Nat.eq_zero_or_pos len with h0' | hpos
        · subst h0'
          refine ⟨[.rslc 0 []],?_,?_⟩
          · simp only [HasTy]
            exact .inr ⟨[],Nat.zero_le _,fun _ h => absurd h (List.not_mem_nil),rfl⟩
          · simp only [VRs,VR]
            exact ⟨_,_,rfl,⟨some a,cap,rfl,hlc,.inl ⟨trivial,rfl⟩⟩,rfl⟩
        · rcases Nat.eq_zero_or_pos (P.cellsOf e') with hz | hz
          · have hess : ∀ k,k ≤ len → ∃ ess : List (List AV),ess.length = k ∧ (∀ es ∈ ess,HasTy e es) := by
              intro k
              induction k with
              | zero => intro _; exact ⟨[],rfl,fun _ h => absurd h (List.not_mem_nil)⟩
              | succ k ih =>
                intro hk
                obtain ⟨ess,g1,g2⟩ := ih (by omega)
                obtain ⟨x,hx⟩ := hat' k (by omega)
                obtain ⟨cs,hc,hx⟩ := Option.bind_eq_some_iff.1 hx
                obtain ⟨al,k1,_⟩ := trod_av e hty.2 hx
                exact ⟨al :: ess,by rw [List.length_cons,g1],fun es hes => by
                  rcases List.mem_cons.1 hes with rfl | h
                  · exact k1
                  · exact g2 es h⟩
            obtain ⟨ess,g1,g2⟩ := hess len (Nat.le_refl _)
            have hfl : ess.flatten = [] := by
              rw [List.flatten_eq_nil_iff]
              intro es hes
              exact List.eq_nil_of_length_eq_zero (by rw [(g2 es hes).size,← hsz,hz])
            refine ⟨[.rslc len []],?_,?_⟩
            · simp only [HasTy]
              exact .inr ⟨ess,by omega,g2,by rw [hfl,g1]⟩
            · simp only [VRs,VR]
              exact ⟨_,_,rfl,⟨some a,cap,rfl,hlc,.inl ⟨trivial,rfl⟩⟩,rfl⟩
          · obtain ⟨b,off,c,el,fz,rfl,hb,hrow⟩ := row_av hsz hz hpos (fun hx => trod_av e hty.2 hx) hat'
            obtain ⟨ess,g1,g2,g3⟩ := hrow len (Nat.le_refl _)
            refine ⟨[.rslc len ess.flatten],?_,?_⟩
            · simp only [HasTy]
              exact .inr ⟨ess,by omega,g2,by rw [g1]⟩
            · simp only [VRs,VR]
              exact ⟨_,_,rfl,⟨_,cap,rfl,hlc,.inr ⟨b,off,c,el,fz,rfl,nl0 (lt_of_heap hb),hb,VRp_prefix g3⟩⟩,rfl⟩
    · cases hty
  | .agg fs,t,hty,fuel,cs,x,h => by
    simp only [tyOK,Bool.and_eq_true] at hty
    obtain ⟨hsz,hty⟩ := hty
    have hsz := Nat.eq_of_beq_eq_true hsz
    split at hty
    · rename_i fs' hu
      obtain ⟨xs,n,rfl,_,hl,hxs,hat⟩ := DataW.trod_struct hu h
      obtain ⟨al,g1,g2⟩ := trods_av fs hty (fuel := n) (cs := cs) (by
        intro t o hm
        obtain ⟨f,hf,he⟩ := List.mem_map.1 hm
        simp only [Prod.mk.injEq] at he
        obtain ⟨rfl,rfl⟩ := he
        obtain ⟨i,hi,rfl⟩ := List.getElem_of_mem hf
        rw [Array.length_toList] at hi
        exact ⟨xs[i]'(by omega),by rw [← List.getElem?_eq_getElem,← hat i _ (Array.getElem?_eq_getElem hi)]; rfl⟩) (by omega)
      refine ⟨al,by simp only [HasTy]; exact g1,?_⟩
      rwa [List.drop_zero,List.take_of_length_le (by omega)] at g2
    · rename_i m e hu
      obtain ⟨xs,n,rfl,_,hl,hxs,hat⟩ := DataW.trod_array hu h
      obtain ⟨al,g1,g2⟩ := trods_av fs hty (fuel := n) (cs := cs) (by
        intro t o hm
        obtain ⟨i,hi,he⟩ := List.mem_map.1 hm
        simp only [Prod.mk.injEq] at he
        obtain ⟨rfl,rfl⟩ := he
        rw [List.mem_range] at hi
        exact ⟨xs[i]'(by omega),by rw [← List.getElem?_eq_getElem,← hat i hi]⟩) (by omega)
      refine ⟨al,by simp only [HasTy]; exact g1,?_⟩
      rwa [List.drop_zero,List.take_of_length_le (by omega)] at g2
    · cases hty
theorem trods_av : ∀ (fs : List Ty) {off : Nat} {l : List (TypeId × Nat)},tysOK P fs off l = true → ∀ {fuel : Nat} {cs : List Value},
    (∀ t o,(t,o) ∈ l → ∃ x,DataW.trod enc P w 0 spare held fuel t ((cs.drop o).take (P.cellsOf t)) = some x) → off + Ty.sizes fs ≤ cs.length →
    ∃ al,HasTys fs al ∧ VRs w (ρ0 w) (Lv (ρ0 w) h0) al ((cs.drop off).take (Ty.sizes fs))
  | [],off,l,hl,fuel,cs,h,hle => ⟨[],by simp only [HasTys],by simp only [Ty.sizes,List.take_zero]; exact VRs_nil'⟩
  | f :: fs,off,[],hl,fuel,cs,h,hle => by simp [tysOK] at hl
  | f :: fs,off,(t,o) :: l,hl,fuel,cs,h,hle => by
    simp only [tysOK,Bool.and_eq_true] at hl
    obtain ⟨⟨⟨h1,h2⟩,h3⟩,h4⟩ := hl
    have h1 := Nat.eq_of_beq_eq_true h1
    have h2 := Nat.eq_of_beq_eq_true h2
    subst h1
    simp only [Ty.sizes] at hle
    obtain ⟨x,hx⟩ := h t o (List.mem_cons_self ..)
    obtain ⟨al,g1,g2⟩ := trod_av f h3 hx
    obtain ⟨bs,k1,k2⟩ := trods_av fs h4 (cs := cs) (fun t o hm => h t o (List.mem_cons_of_mem _ hm)) (by omega)
    refine ⟨al ++ bs,by simp only [HasTys]; exact ⟨al,bs,g1,k1,rfl⟩,?_⟩
    simp only [Ty.sizes]
    rw [take_drop_split]
    rw [h2] at g2
    exact VRs_append g2 k2
end
end
end Go.Abs
end
section
namespace Go.Abs.Sym
open Go.Abs.T
open Go.Proofs
def caseTy : Ty := .agg [.slc (.int .i64),.slc (.int .i64),.slc (.int .i64),.agg [.int .i64,.int .i64,.int .i64],.agg [.int .u8,.int .u8],.bool]
theorem ok26 : tyOK Tryz.prog caseTy 26 = true := by kernel_rfl
theorem list_of {α : Type} {f : α → List AV} : ∀ {ess : List (List AV)},(∀ es ∈ ess,∃ a,es = f a) → ∃ l : List α,ess = l.map f
  | [],_ => ⟨[],rfl⟩
  | es :: ess,h => by
    obtain ⟨a,ha⟩ := h es List.mem_cons_self
    obtain ⟨l,hl⟩ := list_of (fun x hx => h x (List.mem_cons_of_mem _ hx))
    exact ⟨a :: l,by rw [ha,hl]; rfl⟩
theorem slc_of {α : Type} {f : α → List AV} {e : Ty} (he : ∀ es,HasTy e es → ∃ a,es = f a) {xs : List AV} (h : HasTy (.slc e) xs) : ∃ s : Sl α,s.l.length ≤ maxLen ∧ xs = [slV f s] := by
  simp only [HasTy] at h
  rcases h with rfl | ⟨ess,h1,h2,rfl⟩
  · exact ⟨⟨0,[]⟩,Nat.zero_le _,rfl⟩
  · obtain ⟨l,rfl⟩ := list_of (fun es hes => he es (h2 es hes))
    refine ⟨⟨1,l⟩,by rwa [List.length_map] at h1,?_⟩
    rw [slV_rslc,List.length_map]
    rfl
theorem int_of {es : List AV} (h : HasTy (.int .i64) es) : ∃ a,es = inC a := by
  simp only [HasTy] at h
  obtain ⟨n,_,rfl⟩ := h
  exact ⟨n,rfl⟩
theorem u8_of {n : Int} (h : (Lit.int .u8 n).wf = true) : ∃ a : Nat,a < 256 ∧ n = .ofNat a := by
  have h1 : (IntKind.u8).min = 0 := rfl
  have h2 : (IntKind.u8).max = 255 := rfl
  simp only [Lit.wf,h1,h2,Bool.and_eq_true,decide_eq_true_eq] at h
  exact ⟨n.toNat,by omega,by simp only [Int.ofNat_eq_natCast]; omega⟩
theorem case_of {es : List AV} (h : HasTy caseTy es) : ∃ c,es = caseC c ∧ CaseOK c := by
  simp only [caseTy] at h
  rw [HasTy] at h
  simp only [HasTys] at h
  obtain ⟨a,b,h1,⟨a2,b2,h2,⟨a3,b3,h3,⟨a4,b4,h4,⟨a5,b5,h5,⟨a6,b6,h6,rfl,rfl⟩,rfl⟩,rfl⟩,rfl⟩,rfl⟩,rfl⟩ := h
  obtain ⟨l1,e1,rfl⟩ := slc_of (fun _ h => int_of h) h1
  obtain ⟨l2,e2,rfl⟩ := slc_of (fun _ h => int_of h) h2
  obtain ⟨l3,e3,rfl⟩ := slc_of (fun _ h => int_of h) h3
  simp only [HasTy,HasTys] at h4 h5 h6
  obtain ⟨_,_,⟨o0,_,rfl⟩,⟨_,_,⟨o1,_,rfl⟩,⟨_,_,⟨o2,_,rfl⟩,rfl,rfl⟩,rfl⟩,rfl⟩ := h4
  obtain ⟨_,_,⟨s0,w0,rfl⟩,⟨_,_,⟨s1,w1,rfl⟩,rfl,rfl⟩,rfl⟩ := h5
  obtain ⟨g,rfl⟩ := h6
  obtain ⟨x0,b0,rfl⟩ := u8_of w0
  obtain ⟨x1,b1,rfl⟩ := u8_of w1
  have hm : maxLen < 9223372036854775808 := by decide
  exact ⟨⟨l1,l2,l3,o0,o1,o2,x0,x1,g⟩,rfl,by show l1.l.length < _; omega,by show l2.l.length < _; omega,by show l3.l.length < _; omega,b0,b1⟩
end Go.Abs.Sym
end
