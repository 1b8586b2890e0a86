/- A part of the proof that LibFinds answers true at every input: AbsSym2, AbsSym3. -/
import Derived.Test.YthfmfbbfaiohcaaGreatDoorFinds02
import Derived.Test.YthfmfbbfaiohcaaGreatDoorFinds03
section
namespace Go.Abs.Sym
open Go.Abs.T
structure Ext (h h' : H) : Prop where
  next : h.next.num ≤ h'.next.num
  t : ∀ id : Pth,id.num < h.next.num → h'.t.get id = h.t.get id
  ro : h'.ro = h.ro
theorem Ext.refl (h : H) : Ext h h := ⟨Nat.le_refl _,fun _ _ => rfl,rfl⟩
theorem Ext.trans {h h' h'' : H} (a : Ext h h') (b : Ext h' h'') : Ext h h'' :=
  ⟨Nat.le_trans a.next b.next,fun id hi => (b.t id (Nat.lt_of_lt_of_le hi a.next)).trans (a.t id hi),b.ro.trans a.ro⟩
theorem Ext.newB (h : H) (b : AB) : Ext h (h.newB b) :=
  ⟨by show _ ≤ h.next.succ.num; rw [Pth.num_succ]; omega,fun id hi => by
    show (h.t.put h.next b).get id = _
    rw [Tr.get_put,if_neg (fun e => by rw [e] at hi; omega)],rfl⟩
theorem newB_get (h : H) (b : AB) : (h.newB b).t.get h.next = some b := by
  show (h.t.put h.next b).get h.next = _
  rw [Tr.get_put,if_pos rfl]
def idxBody (sz : Nat) : ACode := (.seq (.reg [⟨s9,.bin .lss .one,[v8,v7],none⟩]) (.seq (.cond (v9) .skip (.exit 0)) (.seq (.block 1 (.seq (.reg [⟨s10,.mov,[v8],none⟩,⟨s5,.mov,[v10],none⟩]) (.seq (.reg [⟨s11,.mov,[v1],none⟩,⟨s12,.mov,[v0],none⟩,⟨s13,.mov,[v5],none⟩,⟨s14,.indexAddr (.slc sz),[v12,v13],none⟩,⟨s15,.load (some sz),[v14],none⟩,⟨s16,.call,[v11,v15],none⟩]) (.cond (v16) (.seq (.reg [⟨s17,.mov,[v5],none⟩,⟨s4,.mov,[v17],none⟩]) .ret) .skip)))) (.reg [⟨s18,.bin .add .one,[v8,.const i1],none⟩,⟨s8,.mov,[v18],none⟩]))))
def idxF (sz : Nat) : AFunc := ⟨19,[.tmp t4],(.seq (.reg [⟨s4,.mov,[.const i0],none⟩]) (.seq (.seq (.reg [⟨s6,.mov,[v0],none⟩,⟨s7,.len .slc,[v6],none⟩,⟨s8,.mov,[.const i0],none⟩]) (.block 0 (.loop (idxBody sz)))) (.seq (.reg [⟨s4,.mov,[.const (.int .i64 (.negSucc 0))],none⟩]) .ret)))⟩
def View (h : H) (sz : Nat) (sv : AV) (es : List (List AV)) : Prop :=
  lenVal h .slc sv = some (.int .i64 (.ofNat es.length)) ∧
  ∀ h',Ext h h' → ∀ k e,es[k]? = some e → ∃ p,indexAddrA (.slc sz) sv (.int .i64 (.ofNat k)) = some p ∧ loadA h' (some sz) p = some (.agg e)
theorem View.ext {h h' : H} {sz : Nat} {sv : AV} {es : List (List AV)} (hv : View h sz sv es) (he : Ext h h') : View h' sz sv es :=
  ⟨hv.1,fun h'' e k x hk => hv.2 h'' (he.trans e) k x hk⟩
def idxOf (p : List AV → Bool) : List (List AV) → Nat → Int
  | [],_ => .negSucc 0
  | e :: es,k => bif p e then .ofNat k else idxOf p es (k + 1)
theorem ltI_nat (a b : Nat) : ltI (.ofNat a) (.ofNat b) = Nat.blt a b := rfl
theorem wrap_small {k : Nat} (h : k < 9223372036854775808) : wrapA .i64 (Int.ofNat k) = .ofNat k := by
  simp only [wrapA,topOf]
  have : Nat.blt k 9223372036854775808 = true := Nat.ble_eq_true_of_le h
  rw [this]; rfl
theorem idx_loop {X : Ctx} {call : CallF} {sz : Nat} {sv fv : AV} {p : List AV → Bool} {h0 : H} {es : List (List AV)} (hv : View h0 sz sv es) (hlen : es.length < 1000000)
    (hc : ∀ h,Ext h0 h → ∀ e ∈ es,∃ h',call fv [.agg e] h = .ret (.bool (p e)) h' ∧ Ext h h') :
    ∀ (m k : Nat) (h : H) (fr : Tr AV) (s : St) (fuel : Nat),es.length = k + m → m < fuel → Ext h0 h → fr.get t0 = some sv → fr.get t1 = some fv → fr.get t7 = some (.int .i64 (.ofNat es.length)) → fr.get t8 = some (.int .i64 (.ofNat k)) →
      ∃ h' fr',Ext h0 h' ∧
        ((idxOf p (es.drop k) k = .negSucc 0 ∧ iterA (execA X call (idxBody sz)) fuel { s with fr := fr,h := h } = .exit 0 { s with fr := fr',h := h' }) ∨
         (iterA (execA X call (idxBody sz)) fuel { s with fr := fr,h := h } = .ret { s with fr := fr',h := h' } ∧ fr'.get t4 = some (.int .i64 (idxOf p (es.drop k) k)))) := by
  intro m
  induction m with
  | zero =>
    intro k h fr s fuel hk hf he h0' h1 h7 h8
    obtain ⟨fuel,rfl⟩ : ∃ f,fuel = f + 1 := ⟨fuel - 1,by omega⟩
    have hb : Nat.blt k es.length = false := by
      cases hh : Nat.blt k es.length with
      | false => rfl
      | true => have := Nat.le_of_ble_eq_true hh; omega
    have hR := Eq.refl (execA X call (idxBody sz) { s with fr := fr,h := h })
    conv at hR =>
      rhs
      simp (config := { decide := true }) only [idxBody,execA,opsA,wantedA,evalAll,evalA,oneA,st_bin,St.put,Tr.get_put,h7,h8,bin_lss,ltI_nat,hb,if_true,if_false,reduceIte]
    exact ⟨h,_,he,.inl ⟨by rw [List.drop_of_length_le (by omega)]; rfl,by simp only [iterA,hR]; rfl⟩⟩
  | succ m ih =>
    intro k h fr s fuel hk hf he h0' h1 h7 h8
    obtain ⟨fuel,rfl⟩ : ∃ f,fuel = f + 1 := ⟨fuel - 1,by omega⟩
    have hklt : k < es.length := by omega
    have hb : Nat.blt k es.length = true := Nat.ble_eq_true_of_le hklt
    have hek : es[k]? = some es[k] := List.getElem?_eq_getElem hklt
    obtain ⟨pp,hi,hl⟩ := hv.2 h he k _ hek
    obtain ⟨h',hcall,hext⟩ := hc h he es[k] (List.getElem_mem hklt)
    have hdrop : es.drop k = es[k] :: es.drop (k + 1) := List.drop_eq_getElem_cons hklt
    have hw : wrapA .i64 (Int.ofNat k + Int.ofNat 1) = .ofNat (k + 1) := by
      rw [show Int.ofNat k + Int.ofNat 1 = Int.ofNat (k + 1) from rfl]
      exact wrap_small (by omega)
    cases hp : p es[k] with
    | true =>
      rw [hp] at hcall
      have hR := Eq.refl (execA X call (idxBody sz) { s with fr := fr,h := h })
      conv at hR =>
        rhs
        simp (config := { decide := true }) only [idxBody,execA,opsA,wantedA,evalAll,evalA,oneA,st_mov,st_bin,st_indexAddr,st_load,st_call,St.put,Tr.get_put,h0',h1,h7,h8,bin_lss,ltI_nat,hb,hi,hl,hcall,if_true,if_false,reduceIte]
      refine ⟨h',_,he.trans hext,.inr ⟨by simp only [iterA,hR]; rfl,?_⟩⟩
      rw [hdrop]
      simp only [idxOf,hp,cond_true]
      exact (Tr.get_put _ _ _ _).trans (if_pos rfl)
    | false =>
      rw [hp] at hcall
      have := ih (k + 1) h' (((((((((((fr.put t9 (AV.bool true)).put t10 (AV.int IntKind.i64 (Int.ofNat k))).put t5 (AV.int IntKind.i64 (Int.ofNat k))).put t11 fv).put t12 sv).put t13 (AV.int IntKind.i64 (Int.ofNat k))).put t14 pp).put t15 (AV.agg es[k])).put t16 (AV.bool false)).put t18 (.int .i64 (.ofNat (k + 1)))).put t8 (.int .i64 (.ofNat (k + 1)))) s fuel (by omega) (by omega) (he.trans hext)
        (by simp (config := { decide := true }) only [Tr.get_put,h0',if_false]) (by simp (config := { decide := true }) only [Tr.get_put,h1,if_false]) (by simp (config := { decide := true }) only [Tr.get_put,h7,if_false]) (by simp (config := { decide := true }) only [Tr.get_put,if_true,reduceIte])
      have hstep : iterA (execA X call (idxBody sz)) (fuel + 1) { s with fr := fr,h := h } = iterA (execA X call (idxBody sz)) fuel { s with h := h',fr := (((((((((((fr.put t9 (AV.bool true)).put t10 (AV.int IntKind.i64 (Int.ofNat k))).put t5 (AV.int IntKind.i64 (Int.ofNat k))).put t11 fv).put t12 sv).put t13 (AV.int IntKind.i64 (Int.ofNat k))).put t14 pp).put t15 (AV.agg es[k])).put t16 (AV.bool false)).put t18 (.int .i64 (.ofNat (k + 1)))).put t8 (.int .i64 (.ofNat (k + 1)))) } := by
        have hbody : execA X call (idxBody sz) { s with fr := fr,h := h } = .nrm { s with h := h',fr := (((((((((((fr.put t9 (AV.bool true)).put t10 (AV.int IntKind.i64 (Int.ofNat k))).put t5 (AV.int IntKind.i64 (Int.ofNat k))).put t11 fv).put t12 sv).put t13 (AV.int IntKind.i64 (Int.ofNat k))).put t14 pp).put t15 (AV.agg es[k])).put t16 (AV.bool false)).put t18 (.int .i64 (.ofNat (k + 1)))).put t8 (.int .i64 (.ofNat (k + 1)))) } := by
          simp (config := { decide := true }) only [idxBody,execA,opsA,wantedA,evalAll,evalA,oneA,st_mov,st_bin,st_indexAddr,st_load,st_call,St.put,Tr.get_put,h0',h1,h7,h8,bin_lss,bin_add,hw,ltI_nat,hb,hi,hl,hcall,if_true,if_false]
        simp only [iterA,hbody]
      rw [hstep,hdrop]
      simp only [idxOf,hp,cond_false]
      exact this
end Go.Abs.Sym
end
section
namespace Go.Abs.Sym
open Go.Abs.T
theorem call_fn {X : Ctx} {n : Nat} {i : Pth} {fs cs as : List AV} {h : H} {F : AFunc} (hs : X.sums i (fs ++ as ++ cs) h = none) (hF : X.funcs.get i = some F) :
    callN X (n + 1) (.fn i fs cs) as h = leaveA (dcallN X n) F (execA X (callN X n) F.body { fr := frameOf .e (fs ++ as ++ cs) .lf,df := [],h := h,rc := .no,rd := none,fnid := i }) := by
  simp only [callN,hs,hF]
theorem call_sum {X : Ctx} {n : Nat} {i : Pth} {fs cs as : List AV} {h : H} {v : AV} (hs : X.sums i (fs ++ as ++ cs) h = some v) : callN X (n + 1) (.fn i fs cs) as h = .ret v h := by
  simp only [callN,hs]
theorem leave_n {callD : AV → List AV → Md → H → DRes} {F : AFunc} {fr : Tr AV} {h : H} {rc : Rc} {rd : Option Pth} {f : Pth} {v : AV} (hr : resultA h fr F.results = some v) : leaveA callD F (.nrm ⟨fr,[],h,rc,rd,f⟩) = .ret v h := by
  simp only [leaveA,dfrsA,hr]
theorem leave_r {callD : AV → List AV → Md → H → DRes} {F : AFunc} {fr : Tr AV} {h : H} {rc : Rc} {rd : Option Pth} {f : Pth} {v : AV} (hr : resultA h fr F.results = some v) : leaveA callD F (.ret ⟨fr,[],h,rc,rd,f⟩) = .ret v h := by
  simp only [leaveA,dfrsA,hr]
theorem res1 {h : H} {fr : Tr AV} {t : Pth} {v : AV} (hg : fr.get t = some v) : resultA h fr [.tmp t] = some v := by
  simp only [resultA,resultsA,hg]
theorem idx_ok {X : Ctx} {n : Nat} {i : Pth} {sz : Nat} {sv fv : AV} {p : List AV → Bool} {h0 : H} {es : List (List AV)} (hs : X.sums i [sv,fv] h0 = none) (hF : X.funcs.get i = some (idxF sz)) (hfu : X.fuel = 100000) (hv : View h0 sz sv es) (hlen : es.length < 90000)
    (hc : ∀ h,Ext h0 h → ∀ e ∈ es,∃ h',callN X n fv [.agg e] h = .ret (.bool (p e)) h' ∧ Ext h h') :
    ∃ h',callN X (n + 1) (.fn i [] []) [sv,fv] h0 = .ret (.int .i64 (idxOf p es 0)) h' ∧ Ext h0 h' := by
  rw [call_fn (F := idxF sz) hs hF]
  have h7 := hv.1
  have hloop := idx_loop (X := X) (call := callN X n) hv (by omega) hc es.length 0 h0
    (((((frameOf .e [sv,fv] .lf).put t4 i0).put t6 sv).put t7 (.int .i64 (.ofNat es.length))).put t8 i0) ⟨.lf,[],h0,.no,none,i⟩ X.fuel (by omega) (by rw [hfu]; omega) (Ext.refl _)
    (by simp +decide only [Tr.get_put,frameOf,Pth.succ,if_true,if_false]) (by simp +decide only [Tr.get_put,frameOf,Pth.succ,if_true,if_false])
    (by simp +decide only [Tr.get_put,if_true,if_false]) (by simp +decide only [Tr.get_put,if_true,if_false])
  obtain ⟨h',fr',he,hor⟩ := hloop
  have hg0 : (frameOf .e [sv,fv] .lf).get t0 = some sv := by simp +decide only [Tr.get_put,frameOf,Pth.succ,if_true,if_false]
  have hd : es.drop 0 = es := rfl
  rw [hd] at hor
  refine ⟨h',?_,he⟩
  rcases hor with ⟨hn,hit⟩ | ⟨hit,hg⟩
  · rw [hn]
    simp +decide only [idxF,execA,opsA,wantedA,evalAll,evalA,oneA,st_mov,st_len_slc,St.put,Tr.get_put,List.nil_append,List.append_nil,hg0,h7,hit,if_true,if_false,leaveA,resultA,resultsA]
    simp +decide only [Nat.beq,cond_true,Tr.get_put,if_true,dfrsA]
  · simp +decide only [idxF,execA,opsA,wantedA,evalAll,evalA,oneA,st_mov,st_len_slc,St.put,Tr.get_put,List.nil_append,List.append_nil,hg0,h7,hit,if_true,if_false,leaveA,dfrsA,resultA,resultsA,hg]
end Go.Abs.Sym
end
