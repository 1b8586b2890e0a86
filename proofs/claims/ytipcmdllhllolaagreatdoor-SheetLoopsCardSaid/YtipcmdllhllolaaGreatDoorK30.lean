/- Walks over a map, in any order: a state of the executor that every order may come to. -/
import Derived.Test.YtipcmdllhllolaaGreatDoorK16
noncomputable section
namespace Go.Abs
variable [envI:Env]
section
variable {P:Program} {X:Ctx} {ρ:Nm} {h:H} {w:World}
theorem nextAny_ok (hr:HR P X ρ h w) {id m:Pth} {n k:Nat} {b:Nat} {qs:Option (List Nat)} {es:List (AV×AV)} (hb:ρ id=some b) (hg:h.t.get id=some (.miter (some m) n k qs)) (hgm:h.t.get m=some (.amap es))
  (hln:es.length=n) (hk:k<n) (ty:TypeId):∃ i e v w', es[i]?=some e∧(∀ l, qs=some l→i∉l)∧(Instr.next (.pointer (some ⟨b, 0, none⟩)) false ty).run P w=.ok v w' ∧
   HR P X ρ { h with t:=h.t.put id (.miter (some m) n (k+1) (qs.map (i :: ·))) } w'∧Sim ρ (Lv ρ h) w ρ (Lv ρ { h with t:=h.t.put id (.miter (some m) n (k+1) (qs.map (i :: ·))) }) w' ∧
   VR w' ρ (Lv ρ { h with t:=h.t.put id (.miter (some m) n (k+1) (qs.map (i :: ·))) }) (.tup [.bool true, e.1, e.2]) v:=by
 obtain ⟨b', o, hb', ho, hbr⟩:=hr.live id _ hg
 cases hb.symm.trans hb'
 obtain ⟨bm, since, seen, ms, clock, hm, rfl, hms, hle, hst⟩:=hbr
 obtain ⟨bm', o, hm', ho', ms', clock', rfl, h1, h2, hwf⟩:=hr.live m _ hgm
 cases hm.symm.trans hm'
 rw [ho'] at hms
 cases hms
 have hlen:ms.size=n:=by
  have:=h1.length
  simp only [List.length_map, Array.length_toList] at this
  omega
 obtain ⟨rfl, rfl, hnd, hsub, hq⟩:=hst hlen
 have hgo:(getObj b).run P w=.ok (.mapIter (some bm) clock seen clock) w:=by simp [getObj, Sem.run, ho]
 have hgm':(getObj bm).run P w=.ok (.map ms clock) w:=by simp [getObj, Sem.run, ho']
 have htest:(!seen.isEmpty && !ms.isEmpty&&ms.all (fun x=>decide (x.born≥clock)))=false:=by
  cases hE:ms.isEmpty with
  | true=>simp
  | false =>
   have : ms.all (fun x=>decide (x.born≥clock))=false:=by
    rw [Bool.eq_false_iff]
    intro hA
    rw [Array.all_eq_true_iff_forall_mem] at hA
    have h0:0<ms.size:=by
     rcases Nat.eq_zero_or_pos ms.size with h0 | h0
     ·simp [Array.isEmpty, h0] at hE
     ·exact h0
    have hx:=hA _ (Array.getElem_mem h0)
    have hy:=hwf.2 ms[0].born (List.mem_map.2 ⟨ms[0], by simp, rfl⟩)
    simp at hx
    omega
   simp [this]
 have hF:∀ x∈(ms.filter fun e => !seen.contains e.born), x.born<clock:=fun x hx=>hwf.2 _ (List.mem_map.2 ⟨x, by simp at hx ⊢; exact hx.1, rfl⟩)
 generalize hLe:(ms.filter fun e => !seen.contains e.born)=L at hF
 have e1:L.filter (fun x=>decide (x.born<clock))=L:=Array.filter_eq_self.2 (fun x hx=>by simpa using hF x hx)
 have e2:L.filter (fun x=>decide (x.born≥clock)) = #[]:=by
  rw [Array.filter_eq_empty_iff]
  intro x hx
  have:=hF x hx
  simp
  omega
 have hne:L.isEmpty=false:=by
  obtain ⟨x, hx1, hx2⟩:=left_ne (B:=seen.toList) hwf.1 (by simp only [List.length_map, Array.length_toList]; omega)
  obtain ⟨y, hy1, rfl⟩:=List.mem_map.1 hx1
  have:y∈L:=by
   rw [← hLe]
   simp at hy1 hx2 ⊢
   exact ⟨hy1, hx2⟩
  rw [Bool.eq_false_iff]
  intro hE
  rw [Array.isEmpty_iff] at hE
  rw [hE] at this
  simp at this
 have hsz:0<L.size:=by
  rcases Nat.eq_zero_or_pos L.size with h0 | h0
  ·simp [Array.isEmpty, h0] at hne
  ·exact h0
 have hch:∃ (j d:Nat), j<L.size∧(choose (Question.mapNext L.size)).run P w=.ok j { w with drawn:=d }:=by
  by_cases hf:L.size≤1
  ·exact ⟨0, w.drawn, hsz, by simp [Question.forced, hf]⟩
  ·exact ⟨w.tape w.drawn (Question.mapNext L.size) % L.size, w.drawn+1, Nat.mod_lt _ hsz, by simp [Question.forced, hf, Question.cut]⟩
 obtain ⟨j, d, hj, hrun⟩:=hch
 have hmem:L[j]∈ms∧L[j].born∉seen.toList:=by
  have hx:∀ x∈L, x∈ms∧x.born∉seen.toList:=by
   rw [← hLe]
   intro x hx
   simp at hx
   exact ⟨hx.1, by simpa using hx.2⟩
  exact hx _ (Array.getElem_mem hj)
 obtain ⟨i, hi, hei⟩:=List.mem_iff_getElem.1 (show L[j]∈ms.toList by simpa using hmem.1)
 have hborn:(ms.toList.map (·.born))[i]?=some L[j].born:=by rw [List.getElem?_map, List.getElem?_eq_getElem hi, hei]; rfl
 obtain ⟨a1, f1, f2⟩:=h1.of_get (show (ms.toList.map (·.key))[i]?=some L[j].key by rw [List.getElem?_map, List.getElem?_eq_getElem hi, hei]; rfl)
 obtain ⟨a2, f3, f4⟩:=h2.of_get (show (ms.toList.map (·.val))[i]?=some L[j].val by rw [List.getElem?_map, List.getElem?_eq_getElem hi, hei]; rfl)
 simp only [List.getElem?_map, Option.map_eq_some_iff] at f1 f3
 obtain ⟨e, f5, rfl⟩:=f1
 obtain ⟨e', f6, rfl⟩:=f3
 cases f5.symm.trans f6
 obtain ⟨hr1, hs1⟩:=hr.drawn d
 have ho1:({ w with drawn:=d }:World).heap[b]?=some (.mapIter (some bm) clock seen clock):=ho
 have hfin:=hr1.set hg hb ho1 (x':=.miter (some m) n (seen.size+1) (qs.map (i :: ·))) (o':=.mapIter (some bm) clock (seen.push L[j].born) clock) (by
  unfold bsz; rw [setO_get _ _ _ _ (lt_of_heap ho1), if_pos rfl, ho1]) (fun ρ' L' w' hs=>by
  obtain ⟨ms2, c2, f1, f2, f3⟩:=(hs.cells bm (hr1.bound _ _ hm)).2 _ ho' ms clock rfl
  refine ⟨bm, clock, seen.push L[j].born, ms2, c2, hs.names _ _ hm, rfl, f1, by omega, fun e9 => ?_⟩
  obtain ⟨f4, f5⟩:=f3 (by omega)
  refine ⟨f4, by simp, ?_, fun x hx => ?_, fun l hl => ?_⟩
  ·rw [Array.toList_push]
   exact List.nodup_append.2 ⟨hnd, by simp, fun x hx y hy=>by
    simp only [List.mem_singleton] at hy
    subst hy
    exact fun e=>hmem.2 (e▸hx)⟩
  ·rw [f5]
   rw [Array.toList_push] at hx
   rcases List.mem_append.1 hx with hx | hx
   ·exact hsub x hx
   ·simp only [List.mem_singleton] at hx
    subst hx
    exact List.mem_map.2 ⟨_, by simpa using hmem.1, rfl⟩
  ·cases qs with
   | none=>cases hl
   | some l0 =>
    cases hl
    rw [f5, Array.toList_push, List.reverse_append, List.map_append]
    simp only [List.reverse_cons, List.reverse_nil, List.nil_append, List.map_cons, List.map_nil, List.cons_append]
    rw [hborn, hq l0 rfl])
 refine ⟨i, e, .tuple #[.bool true, L[j].key, L[j].val], _, f5, ?_, ?_, hfin.1, hs1.trans hfin.2, ?_⟩
 ·intro l hl hil
  have h9:=hq l hl
  have h8:some L[j].born∈l.map fun i=>(ms.toList.map (·.born))[i]?:=List.mem_map.2 ⟨i, hil, hborn⟩
  rw [← h9] at h8
  obtain ⟨x, h7, h6⟩:=List.mem_map.1 h8
  cases h6
  exact hmem.2 (List.mem_reverse.1 h7)
 ·have hset:(setObj b (.mapIter (some bm) clock (seen.push L[j].born) clock)).run P { w with drawn:=d }=.ok () (setO { w with drawn:=d } b (.mapIter (some bm) clock (seen.push L[j].born) clock)):=by
   simp only [setObj, Sem.run, ho1, setO]
  simp only [Instr.next, Sem.run_bind, hgo, hgm', Result.andThen_ok, htest, Bool.false_eq_true, if_false, hLe, e1, e2, hne, Array.append_empty, Array.empty_append, Array.size_map, hrun, Array.getElem?_map, Array.getElem?_eq_getElem hj, Option.map_some, hset, Sem.run_pure]
 ·simp only [VR, VRs]
  exact ⟨_, rfl, _, _, rfl, rfl, _, _, rfl, (f2.mono hs1 hr.bound).mono hfin.2 hr1.bound, _, _, rfl, (f4.mono hs1 hr.bound).mono hfin.2 hr1.bound, rfl⟩
end
def nextP (X:Ctx) (call:CallF) (s:St) (Q:Out→Prop):List AOper→Prop
 | ⟨dst, .next false, [a], none⟩::os=>∃ id m n k q es, evalA X s.fr a=some (.ptr id 0)∧s.h.t.get id=some (.miter (some m) n k q)∧s.h.t.get m=some (.amap es)∧es.length=n∧k<n ∧
   ∀ i e, es[i]?=some e→(∀ l, q=some l→i∉l)→Q (opsA X call os (({ s with h:={ s.h with t:=s.h.t.put id (.miter (some m) n (k+1) (q.map (i :: ·))) } }:St).put dst (.tup [.bool true, e.1, e.2])))
 | _=>False
def wpA (X:Ctx) (call:CallF):ACode→St→(Out→Prop)→Prop
 | .seq a b, s, Q=>wpA X call a s fun o=>match o with
  | .nrm s'=>wpA X call b s' Q
  | o=>Q o
 | .cond c a b, s, Q=>match evalA X s.fr c with
  | some (.bool true)=>wpA X call a s Q
  | some (.bool false)=>wpA X call b s Q
  | _=>False
 | .block id a, s, Q=>wpA X call a s fun o=>match o with
  | .exit j s'=>match Nat.beq id j with
   | true=>Q (.nrm s')
   | false=>Q (.exit j s')
  | o=>Q o
 | .loop a, s, Q=>∃ (I:Nat→St→Prop) (n:Nat), I n s∧∀ n s, I n s→wpA X call a s fun o=>match o with
  | .nrm s'=>∃ n', n'<n∧I n' s'
  | o=>Q o
 | .reg ops, s, Q=>nextP X call s Q ops∨Q (opsA X call ops s)
 | .skip, s, Q=>Q (.nrm s)
 | .exit id, s, Q=>Q (.exit id s)
 | .ret, s, Q=>Q (.ret s)
 | c, s, Q=>Q (execA X call c s)
omit envI in
theorem wp_det {X:Ctx} {call:CallF}:∀ (c:ACode) (s:St) (Q:Out→Prop), (∀ n, execA X call c s≠.bad n)→Q (execA X call c s)→wpA X call c s Q
 | .seq a b, s, Q, hb, hq=>by
  simp only [wpA]
  have hd:=fun Q=>wp_det (X:=X) (call:=call) a s Q
  simp only [execA] at hb hq
  cases ha:execA X call a s with
  | bad n=>rw [ha] at hb; exact absurd rfl (hb n)
  | nrm s' =>
   rw [ha] at hb hq hd
   exact hd _ (by intro n e; cases e) (wp_det b s' Q hb hq)
  | exit j s'=>rw [ha] at hq hd; exact hd _ (by intro n e; cases e) hq
  | ret s'=>rw [ha] at hq hd; exact hd _ (by intro n e; cases e) hq
  | panic v s'=>rw [ha] at hq hd; exact hd _ (by intro n e; cases e) hq
 | .cond c a b, s, Q, hb, hq=>by
  simp only [wpA]
  simp only [execA] at hb hq
  cases hc:evalA X s.fr c with
  | none=>rw [hc] at hb; exact absurd rfl (hb 30)
  | some v =>
   rw [hc] at hb hq
   cases v<;>try exact absurd rfl (hb 30)
   rename_i bb
   cases bb with
   | true=>exact wp_det a s Q hb hq
   | false=>exact wp_det b s Q hb hq
 | .block id a, s, Q, hb, hq=>by
  simp only [wpA]
  have hd:=fun Q=>wp_det (X:=X) (call:=call) a s Q
  simp only [execA] at hb hq
  cases ha:execA X call a s with
  | bad n=>rw [ha] at hb; exact absurd rfl (hb n)
  | exit j s' =>
   rw [ha] at hb hq hd
   refine hd _ (by intro n e; cases e) ?_
   dsimp only at hq ⊢
   cases hj:Nat.beq id j<;>rw [hj] at hq<;>exact hq
  | nrm s'=>rw [ha] at hq hd; exact hd _ (by intro n e; cases e) hq
  | ret s'=>rw [ha] at hq hd; exact hd _ (by intro n e; cases e) hq
  | panic v s'=>rw [ha] at hq hd; exact hd _ (by intro n e; cases e) hq
 | .loop a, s, Q, hb, hq=>by
  simp only [wpA]
  simp only [execA] at hb hq
  refine ⟨fun n s'=>iterA (execA X call a) n s'=iterA (execA X call a) X.fuel s, X.fuel, rfl, fun n s' he => ?_⟩
  cases n with
  | zero=>exact absurd he.symm (hb 5)
  | succ n =>
   have hd:=fun Q=>wp_det (X:=X) (call:=call) a s' Q
   simp only [iterA] at he
   cases ha:execA X call a s' with
   | bad n=>rw [ha] at he; exact absurd he.symm (hb n)
   | nrm s1 =>
    rw [ha] at he hd
    exact hd _ (by intro n e; cases e) ⟨n, Nat.lt_succ_self n, he⟩
   | exit j s1=>rw [ha] at he hd; exact hd _ (by intro n e; cases e) (by dsimp only at he ⊢; rw [he]; exact hq)
   | ret s1=>rw [ha] at he hd; exact hd _ (by intro n e; cases e) (by dsimp only at he ⊢; rw [he]; exact hq)
   | panic v s1=>rw [ha] at he hd; exact hd _ (by intro n e; cases e) (by dsimp only at he ⊢; rw [he]; exact hq)
 | .reg ops, s, Q, hb, hq=>.inr hq
 | .skip, s, Q, hb, hq=>hq
 | .exit id, s, Q, hb, hq=>hq
 | .ret, s, Q, hb, hq=>hq
 | .dreg ops, s, Q, hb, hq=>hq
 | .rangeFunc f ps a b, s, Q, hb, hq=>hq
 | .bad, s, Q, hb, hq=>hq
omit envI in
theorem wp_mono {X:Ctx} {call:CallF}:∀ (c:ACode) (s:St) (Q R:Out→Prop), (∀ o, Q o→R o)→wpA X call c s Q→wpA X call c s R
 | .seq a b, s, Q, R, h, hw=>by
  simp only [wpA] at hw ⊢
  refine wp_mono a s _ _ (fun o ho => ?_) hw
  cases o with
  | nrm s'=>exact wp_mono b s' Q R h ho
  | _=>exact h _ ho
 | .cond c a b, s, Q, R, h, hw=>by
  simp only [wpA] at hw ⊢
  cases hc:evalA X s.fr c with
  | none=>rw [hc] at hw; exact hw
  | some v =>
   rw [hc] at hw
   cases v<;>try exact hw
   rename_i bb
   cases bb with
   | true=>exact wp_mono a s Q R h hw
   | false=>exact wp_mono b s Q R h hw
 | .block id a, s, Q, R, h, hw=>by
  simp only [wpA] at hw ⊢
  refine wp_mono a s _ _ (fun o ho => ?_) hw
  cases o with
  | exit j s' =>
   dsimp only at ho ⊢
   cases hj:Nat.beq id j<;>rw [hj] at ho<;>exact h _ ho
  | _=>exact h _ ho
 | .loop a, s, Q, R, h, hw=>by
  simp only [wpA] at hw ⊢
  obtain ⟨I, n, hI, hst⟩:=hw
  refine ⟨I, n, hI, fun n s hI=>wp_mono a s _ _ (fun o ho => ?_) (hst n s hI)⟩
  cases o with
  | nrm s'=>exact ho
  | _=>exact h _ ho
 | .reg ops, s, Q, R, h, hw=>by
  rcases hw with hw | hw
  ·refine .inl ?_
   unfold nextP at hw ⊢
   split at hw
   ·obtain ⟨id, m, n, k, q, es, w1, w2, w3, w4, w5, w6⟩:=hw
    exact ⟨id, m, n, k, q, es, w1, w2, w3, w4, w5, fun i e h1 h2=>h _ (w6 i e h1 h2)⟩
   ·exact hw.elim
  ·exact .inr (h _ hw)
 | .skip, s, Q, R, h, hw=>h _ hw
 | .exit id, s, Q, R, h, hw=>h _ hw
 | .ret, s, Q, R, h, hw=>h _ hw
 | .dreg ops, s, Q, R, h, hw=>h _ hw
 | .rangeFunc f ps a b, s, Q, R, h, hw=>h _ hw
 | .bad, s, Q, R, h, hw=>h _ hw
section
variable {P:Program} {X:Ctx} {N:Nat} {b:Frame} {cs:List Frame}
def EndsQ (P:Program) (X:Ctx) (N:Nat) (b:Frame) (cs:List Frame) (k:List Item) (ρ0:Nm) (h0:H) (w0:World) (m:Machine) (Q:Out→Prop):Prop:=∃ o, Q o∧Ends P X N b cs k ρ0 h0 w0 m o
theorem EndsQ.of_steps {k:List Item} {ρ0 ρ:Nm} {h0 h:H} {w0 w:World} {m m':Machine} {Q:Out→Prop} (hs:Steps P m m') (hsim:Sim ρ0 (Lv ρ0 h0) w0 ρ (Lv ρ h) w) (he:EndsQ P X N b cs k ρ h w m' Q):EndsQ P X N b cs k ρ0 h0 w0 m Q:=by
 obtain ⟨o, h1, h2⟩:=he
 exact ⟨o, h1, h2.of_steps hs hsim⟩
theorem EndsQ.bind {x:Item} {k:List Item} {ρ0:Nm} {h0:H} {w0:World} {m:Machine} {R Q:Out→Prop} (hx:∀ id, exitTo id (x::k)=exitTo id k)
  (hg:∀ s ρ a w, R (.nrm s)→SR P X N b cs s ρ a w→EndsQ P X N b cs k ρ s.h w (lone (at' b a (x::k)) (csOf s.rc cs) w) Q)
  (hn:∀ o, (∀ s, o≠.nrm s)→R o→Q o)
  (h:EndsQ P X N b cs (x::k) ρ0 h0 w0 m R):EndsQ P X N b cs k ρ0 h0 w0 m Q:=by
 obtain ⟨o, hR, h⟩:=h
 cases o with
 | nrm s =>
  obtain ⟨ρ1, a, w1, h1, h2, h3⟩:=h
  exact (hg s ρ1 a w1 hR h1).of_steps h3 h2
 | exit id s =>
  obtain ⟨ρ1, a, w1, k2, h1, h2, h3, h4⟩:=h
  exact ⟨.exit id s, hn _ (by intro _ e; cases e) hR, ρ1, a, w1, k2, h1, h2, h3.trans (hx id), h4⟩
 | ret s=>exact ⟨.ret s, hn _ (by intro _ e; cases e) hR, h⟩
 | panic v s=>exact ⟨.panic v s, hn _ (by intro _ e; cases e) hR, h⟩
 | bad n=>exact ⟨.bad n, hn _ (by intro _ e; cases e) hR, trivial⟩
theorem wp_loop {c:Code} {k:List Item} {Q:Out→Prop} {I:Nat→St→Prop}
  (hf:∀ n s ρ a w, I n s→SR P X N b cs s ρ a w→EndsQ P X N b cs (.inLoop c::k) ρ s.h w (lone (at' b a (.code c::.inLoop c::k)) (csOf s.rc cs) w) fun o=>match o with
   | .nrm s'=>∃ n', n'<n∧I n' s'
   | o=>Q o) :
  ∀ n s ρ a w, I n s→SR P X N b cs s ρ a w→EndsQ P X N b cs k ρ s.h w (lone (at' b a (.code c::.inLoop c::k)) (csOf s.rc cs) w) Q:=by
 intro n
 induction n using Nat.strongRecOn with
 | _ n ih =>
  intro s ρ a w hI hs
  refine EndsQ.bind (x:=.inLoop c) (fun id=>rfl) (fun s ρ a w hR hs => ?_) (fun o ho hR => ?_) (hf n s ρ a w hI hs)
  ·obtain ⟨n', hn, hI'⟩:=hR
   exact (ih n' hn s ρ a w hI' hs).of_steps (.one go_inLoop) (Sim.refl ..)
  ·cases o with
   | nrm s=>exact absurd rfl (ho s)
   | _=>exact hR
theorem wp_ok {call:CallF} (hcall:CallOK P X call) (hmix:P.follows .mixedOrders=true):∀ (C:Code) (k:List Item) (s:St) (ρ:Nm) (a:Act) (w:World) (Q:Out→Prop), SR P X N b cs s ρ a w→wpA X call (compCode P N C) s Q →
  EndsQ P X N b cs k ρ s.h w (lone (at' b a (.code C::k)) (csOf s.rc cs) w) Q
 | .seq c1 c2, k, s, ρ, a, w, Q, hs, hw=>by
  simp only [compCode, wpA] at hw
  have h1:=wp_ok hcall hmix c1 (.code c2::k) s ρ a w _ hs hw
  refine EndsQ.of_steps (.one go_seq) (Sim.refl ..) (EndsQ.bind (fun _=>rfl) (fun s ρ a w hR hs=>wp_ok hcall hmix c2 k s ρ a w Q hs hR) (fun o ho hR => ?_) h1)
  cases o with
  | nrm s=>exact absurd rfl (ho s)
  | _=>exact hR
 | .cond c t e, k, s, ρ, a, w, Q, hs, hw=>by
  simp only [compCode] at hw
  cases hc:opd c with
  | none=>rw [hc] at hw; exact ⟨_, hw, trivial⟩
  | some o =>
   rw [hc] at hw
   simp only [wpA] at hw
   cases he:evalA X s.fr o with
   | none=>rw [he] at hw; exact hw.elim
   | some v =>
    rw [he] at hw
    cases v<;>try exact hw.elim
    rename_i bb
    have hv:=opd_rel hs.hr hs.fr hc he
    simp only [VR] at hv
    cases bb with
    | true=>exact (wp_ok hcall hmix t k s ρ a w Q hs hw).of_steps (.one (go_cond hv)) (Sim.refl ..)
    | false=>exact (wp_ok hcall hmix e k s ρ a w Q hs hw).of_steps (.one (go_cond hv)) (Sim.refl ..)
 | .block id c, k, s, ρ, a, w, Q, hs, hw=>by
  simp only [compCode, wpA] at hw
  obtain ⟨o, hR, h1⟩:=wp_ok hcall hmix c (.inBlock id::k) s ρ a w _ hs hw
  cases o with
  | nrm s1 =>
   obtain ⟨ρ1, a1, w1, g1, g2, g3⟩:=h1
   exact ⟨.nrm s1, hR, ρ1, a1, w1, g1, g2, .head go_block (g3.trans (.one go_inBlock))⟩
  | exit j s1 =>
   obtain ⟨ρ1, a1, w1, k2, g1, g2, g3, g4⟩:=h1
   dsimp only at hR
   cases hj:Nat.beq id j with
   | true =>
    rw [hj] at hR
    have e:=Nat.eq_of_beq_eq_true hj
    subst e
    have hx:exitTo id k2=some k:=by rw [g3]; simp [exitTo]
    exact ⟨.nrm s1, hR, ρ1, a1, w1, g1, g2, .head go_block (g4.trans (.one (go_exit hx)))⟩
   | false =>
    rw [hj] at hR
    have hne:(id==j)=false:=by
     cases h:id==j with
     | false=>rfl
     | true=>rw [show id=j from by simpa using h] at hj; simp at hj
    exact ⟨.exit j s1, hR, ρ1, a1, w1, k2, g1, g2, by rw [g3]; simp [exitTo, hne], .head go_block g4⟩
  | ret s1=>exact ⟨.ret s1, hR, Ends.of_steps (.one go_block) (Sim.refl ..) h1⟩
  | panic v s1=>exact ⟨.panic v s1, hR, Ends.of_steps (.one go_block) (Sim.refl ..) h1⟩
  | bad n=>exact ⟨.bad n, hR, trivial⟩
 | .loop c, k, s, ρ, a, w, Q, hs, hw=>by
  simp only [compCode, wpA] at hw
  obtain ⟨I, n, hI, hst⟩:=hw
  exact EndsQ.of_steps (.one go_loop) (Sim.refl ..) (wp_loop (I:=I) (fun n s ρ a w hI hs=>wp_ok hcall hmix c (.inLoop c::k) s ρ a w _ hs (hst n s hI)) n s ρ a w hI hs)
 | .region id ops draw, k, s, ρ, a, w, Q, hs, hw=>by
  have hE:=execA_ok hcall hmix (.region id ops draw) k s ρ a w hs
  simp only [compCode] at hw hE
  cases hc:compReg P N ops draw with
  | none=>rw [hc] at hw; exact ⟨_, hw, trivial⟩
  | some c =>
   rw [hc] at hw hE
   simp only [Option.getD_some] at hw hE
   cases draw with
   | true =>
    obtain ⟨ds, rfl⟩:=compReg_dreg hc
    exact ⟨_, hw, hE⟩
   | false =>
    obtain ⟨os, hm, rfl⟩:=compReg_text hc
    rcases hw with hw | hw
    ·unfold nextP at hw
     split at hw
     ·rename_i dst a0 os'
      obtain ⟨id, m, n, kk, q, es, w1, w2, w3, w4, w5, w6⟩:=hw
      obtain ⟨hl, hg⟩:=mapM_get hm
      have hlt:0<ops.size:=by
       have:=hl
       simp only [List.length_cons, Array.length_toList] at this
       omega
      have ho:ops[0]?=some ops[0]:=by simp [hlt]
      obtain ⟨ao, g1, hco⟩:=hg 0 ops[0] (by simp)
      simp only [List.getElem?_cons_zero, Option.some.injEq] at g1
      subst g1
      obtain ⟨hop, hd⟩:=compOper_op hco
      have hwt:=wanted_ok (t:=true) hco hs.fr rfl
      rcases compOp_chain hop with hp | ⟨t, ad, x, ho2⟩ | ⟨t, m2, k2, x, ho2⟩ | ⟨it, s2, ho2⟩ | ⟨args, ts, ho2⟩ | ⟨args, ts, ho2⟩ | ⟨ty, x, ho2, ha⟩ | ⟨it, ho2⟩
      ·simp [isChainV] at hp
      ·rw [ho2] at hop
       simp [compOp, Option.bind_eq_some_iff] at hop
      ·rcases ho2 with ho2 | ho2 <;>
       ·rw [ho2] at hop
        simp only [compOp, Option.bind_eq_bind] at hop
        exfalso
        revert hop
        repeat' split
        all_goals simp [Option.bind_eq_some_iff]
      ·have hop2:=hop
       rw [ho2] at hop2
       simp only [compOp, Option.bind_eq_bind, Option.bind_eq_some_iff, Option.pure_def, Option.some.injEq, Prod.mk.injEq, AOp.next.injEq] at hop2
       obtain ⟨x1, hx, rfl, hx2⟩:=hop2
       simp only [List.cons.injEq, and_true] at hx2
       subst hx2
       have hv:=opd_rel hs.hr hs.fr hx w1
       simp only [VR] at hv
       obtain ⟨bb, hbb, hv⟩:=hv
       obtain ⟨i, e, v, w', n1, n2, n3, n4, n5, n6⟩:=nextAny_ok (P:=P) hs.hr hbb w2 w3 w4 w5 ops[0].type
       have hst:=go_value (P:=P) (b:=b) (a:=a) (k:=k) (cs:=csOf s.rc cs) (w:=w) (ops:=ops) (i:=0) (rest:=List.range' 1 (ops.size - 1)) (n:=.value v) (v:=v) (w':=w') ho hwt (.inl (by rw [ho2]; intro c hc; cases hc)) (by
        simp only [execOp, ho2, hv, Sem.run_bind, n3, Result.andThen_ok, Sem.run_pure]) (.inl rfl)
       have hs1:=(hs.step n4 n5).put hd n6
       have h2:=opsA_ok (ops:=ops) (b:=b) (cs:=cs) (k:=k) hcall (ops.size - 1) 1 os' _ ρ _ w' (by omega) (by
        have:=hl
        simp only [List.length_cons, Array.length_toList] at this
        omega) (fun j o hj=>by
        obtain ⟨y, g1, g2⟩:=hg (j+1) o (by rw [Nat.add_comm j 1, Array.getElem?_toList]; exact hj)
        exact ⟨y, by simpa using g1, g2⟩) hs1
       have hrc:∀ (s:St) (v:AV), (s.put dst v).rc=s.rc∧(s.put dst v).h=s.h:=by intro s v; cases dst<;>exact ⟨rfl, rfl⟩
       rw [(hrc _ _).1, (hrc _ _).2] at h2
       refine ⟨_, w6 i e n1 n2, Ends.of_steps (.head go_region ?_) n5 h2⟩
       rw [List.range_eq_range', show ops.size=(ops.size - 1)+1 from by omega, List.range'_succ]
       exact .one hst
      ·rw [ho2] at hop
       simp only [compOp, Option.bind_eq_bind, Option.bind_eq_some_iff] at hop
       obtain ⟨_, _, hop⟩:=hop
       exfalso
       revert hop
       repeat' split
       all_goals simp [Option.bind_eq_some_iff]
      ·rw [ho2] at hop
       simp only [compOp, Option.bind_eq_bind, Option.bind_eq_some_iff] at hop
       obtain ⟨_, _, hop⟩:=hop
       exfalso
       revert hop
       repeat' split
       all_goals simp [Option.bind_eq_some_iff]
      ·simp at ha
      ·rw [ho2] at hop; simp [compOp, Option.bind_eq_some_iff] at hop
     ·exact hw.elim
    ·exact ⟨_, hw, hE⟩
 | .skip, k, s, ρ, a, w, Q, hs, hw=>⟨_, hw, execA_ok hcall hmix .skip k s ρ a w hs⟩
 | .exit id, k, s, ρ, a, w, Q, hs, hw=>⟨_, hw, execA_ok hcall hmix (.exit id) k s ρ a w hs⟩
 | .scope c, k, s, ρ, a, w, Q, hs, hw=>by
  obtain ⟨o, h1, h2⟩:=wp_ok hcall hmix c (.inScope c::k) s ρ a w Q hs hw
  exact ⟨o, h1, Ends.of_steps (.one go_scope) (Sim.refl ..) (Ends.pop (fun _=>rfl) (fun _ _ _=>go_inScope) h2)⟩
 | .label l, k, s, ρ, a, w, Q, hs, hw=>⟨_, hw, execA_ok hcall hmix (.label l) k s ρ a w hs⟩
 | .goto l, k, s, ρ, a, w, Q, hs, hw=>⟨_, hw, trivial⟩
 | .ret, k, s, ρ, a, w, Q, hs, hw=>⟨_, hw, execA_ok hcall hmix .ret k s ρ a w hs⟩
 | .refuse t, k, s, ρ, a, w, Q, hs, hw=>⟨_, hw, trivial⟩
 | .rangeFunc f ps as bd, k, s, ρ, a, w, Q, hs, hw=>by
  have hE:=execA_ok hcall hmix (.rangeFunc f ps as bd) k s ρ a w hs
  simp only [compCode] at hw hE
  cases hc:opd f with
  | none=>rw [hc] at hw; exact ⟨_, hw, trivial⟩
  | some o =>
   rw [hc] at hw hE
   dsimp only at hw hE
   split at hw
   ·rename_i hp
    rw [if_pos hp] at hE
    exact ⟨_, hw, hE⟩
   ·exact ⟨_, hw, trivial⟩
end
section
variable {P:Program} {X:Ctx} {ρ:Nm} {h:H} {w:World}
theorem sum_wp {X0:Ctx} (xo:XOK P X0) (hg:X0.globs=.lf) {n:Nat} {i:Pth} {F:AFunc} (hF:X0.funcs.get i=some F) {args:List AV} {v:AV}
  (hw:wpA X0 (callN X0 n) F.body { fr:=frameOf .e args .lf, df:=[], h:=h0, rc:=.no, rd:=none, fnid:=i } fun o=>∃ h1, leaveA (dcallN X0 n) F o=.ret v h1) (hp:plainA v=true) (hf:frzs args=true)
  (hr:HR P X ρ h w) {avs:Array Value} (hv:VRs w ρ (Lv ρ h) args avs.toList):CallR P X ρ h w (callFunc i.num avs) (.ret v h):=by
 have nolive:∀ b, ¬ Lv (ρf ρ) h0 b:=fun b ⟨id, x, e, _⟩=>by cases id<;>cases e
 have hv0:VRs w (ρf ρ) (Lv (ρf ρ) h0) args avs.toList:=VRs.frzG (ρ:=ρ) (L:=Lv ρ h) (ρ2:=ρf ρ) (L2:=Lv (ρf ρ) h0) (fun b _ hb=>⟨nolive b, hb.2⟩) hv hf
 have hr0:HR P X0 (ρf ρ) h0 w:=HR.emptyF hg hr.low hr.opn.1 hr.opn.2
 have back:∀ {vv w' h1}, Back P X0 (ρf ρ) h0 w v h1 vv w'→Back P X ρ h w v h vv w':=by
  intro vv w' h1 hb
  obtain ⟨k1, k2, k3, k4, k5⟩:=hb.kept
  obtain ⟨ρ', _, _, g3⟩:=hb
  have hsim:=kept_sim (ρ:=ρ) (L:=Lv ρ h) k1 k2 k3 k4 k5
  exact ⟨ρ, hr.later k1 k2 hsim, hsim, g3.plain hp⟩
 obtain ⟨fn, body, h1, h2, h3, h4⟩:=xo.funcs i F hF
 obtain ⟨body', g1, g2, _⟩:=compFunc_some h4
 cases h2.symm.trans g1
 refine ⟨_, w, run_callFunc_enter (P:=P) h1 h2 h3 avs w, .inr ⟨_, rfl, fun c cs => ?_⟩⟩
 obtain ⟨hs, hb⟩:=enter_ok hr0 hv0 h1 h2 (kind:=.normal) (cs:=c::cs) (rc:=.no) (fun b hk=>by simp only [RcR]; unfold tryRecover; simp [hk])
 rw [g2] at hw
 obtain ⟨o, ⟨hx, hL⟩, hE⟩:=wp_ok (callN_both xo n).1 xo.mix body [] _ _ _ w _ hs hw
 rw [← hb] at hE
 have:=leave_ok (callN_both xo n).2 h4 (b:=Frame.enter P i.num avs .normal) (c:=c) (cs:=cs) (by exact h1) rfl rfl hE
 rw [hL] at this
 obtain ⟨vv, w', hb, hst⟩:=this
 exact ⟨vv, w', back hb, hst⟩
end
end Go.Abs
end
