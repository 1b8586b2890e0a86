/- The open variable has a cell of an int. -/
import Derived.Test.YtipcmdllhllolaaGreatDoorK46
import Derived.Test.YtipcmdllhllolaaGreatDoorK45
import Derived.DataShut
import Derived.Handed
import Derived.Lay
import Derived.MakeChecks
noncomputable section
section
namespace Go.Proofs.YtipcmdllhllolaaGreatDoor
open Go.ChangeShapes Go.WideShapes Go.ChangeAt Go.RowKit
open Go.Abs Go.Abs.Sym
noncomputable def first0 (P:Program):Bool:=match ((begin P (fun _ _=>0) default).world.heap[0]?).bind Obj.row? with
 | some (z, t)=>decide (0<P.globals.size)&&z.size==1&&P.buildable t&&P.cellTypes P.depth t==some [t]&&(match P.underlying t with | some (.int .i64)=>true | _=>false)
 | none=>false
theorem opn_gen {P:Program} {w:World} (hf:first0 P=true) (h:w.ShapedOpen P):OpnW w:=by
 have h1:=h.1
 unfold first0 at hf
 cases hz:((begin P (fun _ _=>0) default).world.heap[0]?).bind Obj.row? with
 | none=>rw [hz] at hf; cases hf
 | some zt =>
  obtain ⟨z, t⟩:=zt
  rw [hz] at hf
  simp only [Bool.and_eq_true, decide_eq_true_eq, beq_iff_eq] at hf
  obtain ⟨⟨⟨⟨g0, g1⟩, g2⟩, g3⟩, g4⟩:=hf
  obtain ⟨cs, e1, e2, e3⟩:=h1 0 z t g0 hz
  obtain ⟨ts, k1, _, k2⟩:=e3 g2
  rw [g3] at k1
  cases k1
  have hsz:cs.size=1:=by rw [e2, g1]
  obtain ⟨u, u1, u2⟩:=k2 0 cs[0] (by simp [hsz])
  simp only [List.length_cons, List.length_nil, Nat.zero_mod, List.getElem?_cons_zero, Option.some.injEq] at u1
  subst u1
  have g5:P.underlying t=some (.int .i64):=by
   split at g4
   ·assumption
   ·cases g4
  obtain ⟨m, hm⟩:∃ m:Int, cs[0]=.int .i64 m:=by
   unfold Cell.ok at u2
   rw [g5] at u2
   cases hv:cs[0]<;>rw [hv] at u2<;>simp only at u2
   exact ⟨_, by rw [u2.1]⟩
  refine ⟨cs, _, _, [], m, e1, ?_⟩
  have : cs.toList=[cs[0]]:=by
   apply List.ext_getElem
   ·simp [hsz]
   ·intro i h1 h2
    simp at h2
    subst h2
    simp
  rw [this, hm]
theorem first_ok:first0 Tryz.prog=true:=by kernel_rfl
theorem opn_of {w:World} (h:w.ShapedOpen Tryz.prog):OpnW w:=opn_gen first_ok h
end Go.Proofs.YtipcmdllhllolaaGreatDoor
end
section
namespace Go.Abs.Sym
open Go.Abs.T
open Go.Proofs
theorem sl8 (Ls:Sl (Sl Int)):∃ Ls':Sl (Sl Int), sliceA (.slc 1) false true false [slV liC Ls, .int .i64 (.ofNat (min Ls.l.length 8))]=some (slV liC Ls')∧∀ L∈Ls'.l, L∈Ls.l:=by
 obtain ⟨kd, l⟩:=Ls
 cases l with
 | nil =>
  cases kd with
  | zero=>exact ⟨⟨0, []⟩, rfl, fun _ h=>h⟩
  | succ k=>exact ⟨⟨1, []⟩, rfl, fun _ h=>h⟩
 | cons a l =>
  refine ⟨⟨1, (a::l).take (min (a::l).length 8)⟩, slice_slV len_li (List.cons_ne_nil _ _) (Nat.min_le_left _ _), fun L h=>List.mem_of_mem_take h⟩
theorem law_loops (Ls:Sl (Sl Int)) (hLs:∀ L∈Ls.l, L.l.length<9223372036854775808) {p q:Nat} (hp:p<256) (hq:q<256) :
  ∃ X, @Lev triv X∧(∀ xs h, X.sums t5 xs h=none)∧(∃ F, X.funcs.get t5=some F)∧∃ v h1, callN X 50 (.fn t5 [] []) [slV liC Ls, .agg [u8V p, u8V q]] h0=.ret v h1∧v=.bool true:=by
 obtain ⟨Ls', h1, h2⟩:=sl8 Ls
 obtain ⟨d, hd, hm⟩:=made14_sum Ls' (fun L h=>hLs L (h2 L h))
 have hF:=loopF_of hd
 obtain ⟨va, cnt, cs, cs', gs, gs', ⟨a1, a2, a3, a4⟩, ⟨b1, b2, b3, b4⟩, c1, c3, hl, hva, hmod, htl, hvl, hnm, hdes⟩:=hF.ex
 have hpn:p % cnt<cnt:=Nat.mod_lt _ (by omega)
 have hqb:q % (p % cnt+1)≤p % cnt:=by
  have:=Nat.mod_lt q (show 0<p % cnt+1 by omega)
  omega
 have K:=hdes (p % cnt) (q % (p % cnt+1)) hpn hqb
 exact ⟨_, levL K ⟨_, cs, gs, rfl, by simp, a1, a2, a3, a4⟩ ⟨_, cs', gs', rfl, by simp, b1, b2, b3, b4⟩, fun _ _=>rfl, ⟨_, rfl⟩, law5 hp hq h1 hm htl hvl hmod c1 c3 hl hva hnm rfl K.top⟩
theorem u8_of {es:List AV} (h:HasTy (.agg [.int .u8, .int .u8]) es):∃ p q, p<256∧q<256∧es=[u8V p, u8V q]:=by
 have one:∀ n:Int, (Lit.int .u8 n).wf=true→∃ p:Nat, p<256∧n=.ofNat p:=fun n hn=>by
  obtain ⟨h1, h2⟩:=(Lit.wf_int_iff .u8 n).1 hn
  have e1:IntKind.u8.min=0:=by decide
  have e2:IntKind.u8.max=255:=by decide
  rw [e1] at h1
  rw [e2] at h2
  exact ⟨n.toNat, by omega, (Int.toNat_of_nonneg h1).symm⟩
 simp only [HasTy, HasTys] at h
 obtain ⟨a, b, ⟨n, h1, rfl⟩, ⟨c, e, ⟨k, h2, rfl⟩, rfl, rfl⟩, rfl⟩:=h
 obtain ⟨p, hp, rfl⟩:=one n h1
 obtain ⟨q, hq, rfl⟩:=one k h2
 exact ⟨p, q, hp, hq, rfl⟩
theorem arg_of {es:List AV} (h:HasTy (.slc (.slc (.int .i64))) es):∃ Ls:Sl (Sl Int), es=[slV liC Ls]∧∀ L∈Ls.l, L.l.length<9223372036854775808:=by
 have hm:maxLen<9223372036854775808:=by decide
 have h1:∀ es, HasTy (.slc (.int .i64)) es→∃ a:{L:Sl Int // L.l.length<9223372036854775808}, es=liC a.1:=fun es he=>by
  obtain ⟨L, e1, e2⟩:=slc_of (fun _ h=>int_of h) he
  exact ⟨⟨L, by omega⟩, e2⟩
 obtain ⟨s, _, rfl⟩:=slc_of h1 h
 refine ⟨⟨s.kind, s.l.map (·.1)⟩, ?_, fun L hL => ?_⟩
 ·obtain ⟨kd, l⟩:=s
  cases l with
  | nil=>rfl
  | cons a l =>
   simp only [slV, List.map_cons, List.length_map, List.flatMap_map]
 ·obtain ⟨a, _, rfl⟩:=List.mem_map.1 hL
  exact a.2
theorem ok22:tyOK Tryz.prog (.slc (.slc (.int .i64))) 22=true:=by kernel_rfl
theorem ok38:tyOK Tryz.prog (.agg [.int .u8, .int .u8]) 38=true:=by kernel_rfl
end Go.Abs.Sym
end
section
namespace Go.Proofs.YtipcmdllhllolaaGreatDoor
open Go.ChangeShapes Go.WideShapes Go.ChangeAt Go.RowKit
open Go.Abs Go.Abs.Sym
theorem own:ownKnob Tryz.prog.godebug=none:=by kernel_rfl
theorem kids:Kids Tryz.prog (· < Tryz.prog.types.size):=kids_rows (by kernel_rfl) (by kernel_rfl)
theorem full:∀ t e, t<Tryz.prog.types.size→Tryz.prog.underlying t=some (.slice e)→0<Tryz.prog.cellsOf e:=slices_full_of Tryz.prog (by kernel_rfl)
theorem params_lt:∀ t∈Tryz.f5.params.toList, t<Tryz.prog.types.size:=by
 rw [Tryz.params5]
 have h:([22, 38].all fun t=>decide (t<Tryz.prog.types.size))=true:=by kernel_rfl
 intro t ht
 simpa using List.all_eq_true.1 h t ht
theorem sameAt_of {W W':World} (hk:∀ b, b<W.heap.size→W'.heap[b]?=W.heap[b]?) {p:MemPlace} (hp:p.block<W.heap.size):W.sameAt W' p:=by
 cases p with
 | cell b off =>
  show _=_
  simp only [World.cell?]
  rw [hk b hp]
 | map b=>exact hk b hp
theorem trodAll_carry {H:Type} {enc:TypeId×Value→H} {P:Program} {W W':World} {base:Nat} {spare:Nat→Bool} {held:Bool}:∀ {ts:List TypeId} {vs:List Value} {ds:List (DataW H)} {ps:List MemPlace},
  DataW.TrodAll enc P W base spare held ts vs ds ps→(∀ p∈ps, W.sameAt W' p)→DataW.TrodAll enc P W' base spare held ts vs ds ps
 | [], [], [], _, h, _=>h
 | _::_, _::_, _::_, _, ⟨p, q, ⟨n, h1⟩, h2, e⟩, hs=>⟨p, q, ⟨n, DataW.trod_carry n _ _ _ h1 (fun x hx=>hs x (by rw [e]; exact List.mem_append_left _ hx))⟩, trodAll_carry h2 (fun x hx=>hs x (by rw [e]; exact List.mem_append_right _ hx)), e⟩
theorem vrs_two {W:World} {ρ:Nm} {L:Nat→Prop} {a:AV} {v:Value} {b:List AV} {cs:Array Value} (h:@VR triv W ρ L a v) (hw:@VRs triv W ρ L b cs.toList):@VRs triv W ρ L [a, .agg b] [v, .agg cs]:=by
 simp only [VRs, VR]
 exact ⟨_, _, rfl, h, _, _, rfl, ⟨_, rfl, hw⟩, rfl⟩
theorem run (W:World) (ho:OpnW W) (v0:Value) (cs:Array Value) (a b:List AV) (hv:@VRs triv W (ρ0 W) (Lv (ρ0 W) Abs.h0) a [v0]) (ha:HasTy (.slc (.slc (.int .i64))) a) (hw:@VRs triv W (ρ0 W) (Lv (ρ0 W) Abs.h0) b cs.toList) (hb:HasTy (.agg [.int .u8, .int .u8]) b) :
  Calls Tryz.prog 5 #[v0, .agg cs] W (fun e w'=>e=.returned (.bool true)∧(∀ b, b<W.heap.size→w'.heap[b]?=W.heap[b]?)∧W.heap.size≤w'.heap.size∧w'.os=W.os∧w'.output=W.output):=by
 obtain ⟨Ls, rfl, hLs⟩:=arg_of ha
 obtain ⟨p, q, hp, hq, rfl⟩:=u8_of hb
 obtain ⟨X, lev, hs, hF, v, h1, hcall, rfl⟩:=law_loops Ls hLs hp hq
 have hvw:@VRs triv W (ρ0 W) (Lv (ρ0 W) Abs.h0) [slV liC Ls, .agg [u8V p, u8V q]] [v0, .agg cs]:=by
  simp only [VRs] at hv
  obtain ⟨v, vs, e, hv0, rfl⟩:=hv
  cases e
  exact vrs_two hv0 hw
 have:=calls_ok (envI:=triv) (@Lev.ok triv _ lev) (n:=49) hcall (hs _ _) (HR.empty (envI:=triv) (P:=Tryz.prog) (w:=W) (@Lev.globs triv _ lev) ho) (avs := #[v0, .agg cs]) hvw hF
 refine this.mono fun e w' ⟨vv, he, hB⟩ => ?_
 have hk:=Back.kept (envI:=triv) hB
 obtain ⟨ρ', _, _, hvv⟩:=hB
 simp only [VR] at hvv
 rw [he, hvv]
 exact ⟨rfl, hk.1, hk.2.1, hk.2.2.1, hk.2.2.2.1⟩
end Go.Proofs.YtipcmdllhllolaaGreatDoor
end
section
namespace Go.Proofs.YtipcmdllhllolaaGreatDoor
open Go.ChangeShapes Go.WideShapes Go.ChangeAt Go.RowKit
open Go.Abs Go.Abs.Sym
theorem returns_shaped {H:Type} {enc:TypeId×Value→H} {a:Assume} {C:Checked} {os:Os} {f:FuncId} {fn:Func} {s:ChangeSpec} {conds:List PathCond} {apart fresh handsOn again:Bool} {X:World→Array Value→Prop}
  (hX:∀ (w w':World) (args:Array Value), w.heap=w'.heap→X w args→X w' args)
  (own:ownKnob C.prog.godebug=none) (started:os.Started) (noInit:C.prog.inits.idxOf? f=none) (hfn:C.prog.funcs[f]?=some fn)
  (witness:∃ (w:World) (tape:Tape) (i:Input), w.os=os∧(w.forCall tape i).Shaped C.prog∧i.vars=[]∧Input.okWide C.prog (w.forCall tape i) .any w.heap.size f i ∧
   ((s.pre enc C.prog fn conds apart (w.forCall tape i).memory i.args∧X (w.forCall tape i).memory i.args)∧sizedMet enc C.prog fn (OpenSpec.ofChange s) apart (w.forCall tape i).memory i.args)∧a.holds C.prog (lone (Frame.enter C.prog f i.args .normal) [] (w.forCall tape i)))
  (contract:∀ (W:World) (base:Nat) (args:Array Value) (ds gs:List (DataW H)) (before:List MemPlace), W.ShapedOpen C.prog →
   (∀ (j:Nat) t v, fn.params[j]?=some t→args[j]?=some v→Value.okWide C.prog W .any base t v) →
   DataW.Whole enc C.prog fn.params.toList s.vars apart W args.toList ds gs before →
   Calls C.prog f args W fun e W'=>∃ v, e=.returned v∧s.post enc C.prog fn apart fresh handsOn again W args v W') :
  ReturnsInHanded a C os f .any (fun w args=>(s.pre enc C.prog fn conds apart w args∧X w args)∧sizedMet enc C.prog fn (OpenSpec.ofChange s) apart w args) (s.post enc C.prog fn apart fresh handsOn again):=by
 have _:=hX
 refine returnsInHanded_of_calls own started noInit witness ?_
 intro w tape i _ hsh _ hok hpre _
 obtain ⟨_, _, _, fn', hfn', _, _, _, _, hval⟩:=hok
 have e:fn'=fn:=Option.some.inj (hfn'.symm.trans hfn)
 subst e
 obtain ⟨⟨⟨ds, gs, before, hw, _⟩, _⟩, _⟩:=hpre
 have hw':=DataW.Whole.of_heap (w':=w.forCall tape i) (by rfl) hw
 refine (contract (w.forCall tape i) w.heap.size i.args ds gs before hsh hval hw').mono fun e W' ⟨v, he, hp⟩ => ?_
 subst he
 exact ChangeSpec.post_blind hp
theorem slc_val {P:Program} {W:World} {base:Nat} {t e:TypeId} {v:Value} (hd:P.underlying t=some (.slice e)) (h:Value.okWide P W .any base t v):v.cells.toList=[v]:=by
 unfold Value.okWide at h
 rw [hd] at h
 simp only at h
 unfold Cell.okWide Cell.ok at h
 rw [hd] at h
 cases v<;>first | rfl | exact absurd h id
theorem u38:(match Tryz.prog.underlying 38 with | some (.array _ _)=>true | _=>false)=true:=by kernel_rfl
set_option maxRecDepth 100000 in
theorem agg38 {W:World} {base:Nat} {v:Value} (h:Value.okWide Tryz.prog W .any base 38 v):∃ cs, v=.agg cs:=by
 have hu:=u38
 unfold Value.okWide at h
 generalize Tryz.prog.underlying 38=u at h hu
 cases u with
 | none=>cases hu
 | some d =>
  cases d with
  | array n e =>
   obtain ⟨cs, h, _⟩:=h
   exact ⟨cs, h⟩
  | _=>cases hu
set_option maxRecDepth 100000 in
theorem lifted (os:Os) (started:os.Started) (H:Type) (enc:TypeId×Value→H) :
  ReturnsInHanded {} Tryz.checked os 5 .any (fun w args=>(Rows.sheetLoopsSpec.pre enc Tryz.prog Tryz.f5 [] false w args∧laidMetH Tryz.prog Rows.sheetLoopsRow.laid w)∧sizedMet enc Tryz.prog Tryz.f5 (OpenSpec.ofChange Rows.sheetLoopsSpec) false w args)
   (Rows.sheetLoopsSpec.post enc Tryz.prog Tryz.f5 false true false false):=by
 refine returns_shaped (C:=Tryz.checked) (X:=fun w _=>laidMetH Tryz.prog Rows.sheetLoopsRow.laid w) (fun _ _ _ hh h=>h.of_heap hh) own started (by kernel_rfl) Tryz.func5
  (ChangeSpec.witness_shaped (enc:=enc) (C:=Tryz.checked) (os:=os) (X:=fun w _=>laidMetH Tryz.prog Rows.sheetLoopsRow.laid w) false (World.laidAll Tryz.prog os Rows.sheetLoopsRow.laid)
   #[.slice none 0 0, .agg #[.int .u8 0, .int .u8 0]] 8 (World.laidAll_os _ _ _) (World.shaped_of_ZipB (by kernel_rfl) (by kernel_rfl)) (by kernel_rfl) (by kernel_rfl) (by kernel_rfl)
   (by rw [MakeChecks.laidMetH_plain _ _ _ (by kernel_rfl)]; exact laidMet_laidAll _ (by kernel_rfl) (by kernel_rfl))) ?_
 intro W base args ds gs before hsh hval0 hW
 have hval:∀ (j:Nat) t v, Tryz.f5.params[j]?=some t→args[j]?=some v→Value.okWide Tryz.prog W .any base t v:=hval0
 have hop:=opn_of hsh
 have hW':=hW
 obtain ⟨p, q, hA0, hV, rfl, hfz, hnd⟩:=hW
 have hA:DataW.TrodAll enc Tryz.prog W 0 (fun _=>true) true Tryz.f5.params.toList args.toList ds p:=hA0
 have hAk:=hA
 rw [Tryz.params5] at hA hval
 obtain ⟨v0, v1, d0, d1, p0, p1, rfl, rfl, rfl, h0, h1⟩:=trodAll_two hA
 obtain ⟨rfl, rfl⟩:=trodVars_none hV
 obtain ⟨cs, rfl⟩:=agg38 (hval 1 38 v1 rfl rfl)
 obtain ⟨f0, h0⟩:=h0
 obtain ⟨f1, h1⟩:=h1
 obtain ⟨a, ha, va⟩:=trod_av (envI:=triv) (.slc (.slc (.int .i64))) ok22 h0
 obtain ⟨b, hb, vb⟩:=trod_av (envI:=triv) (.agg [.int .u8, .int .u8]) ok38 h1
 rw [slc_val Tryz.underlying22 (hval 0 22 v0 rfl rfl)] at va
 refine (run W hop v0 cs a b va ha vb hb).mono fun e W' ⟨he, hk, hsz, hos, hout⟩=>⟨_, he, ?_⟩
 have hlt:=DataW.TrodAll.lt hAk
 refine ⟨[d0, d1], [], _, [], p0++p1, [], hW', ?_, ?_, rfl, ?_, fun h=>by cases h⟩
 ·exact trodAll_mk1 (shut_bool Tryz.underlying4 true)
 ·exact trodAll_carry (DataW.TrodAll.respare kids full params_lt hAk (fun p hp=>by simpa using hlt p hp)) (fun p hp=>sameAt_of hk (hlt p hp))
 ·refine ⟨hos, hout, fun i hi => ?_⟩
  rw [hk i hi]
  cases W.heap[i]? with
  | none=>rfl
  | some o=>cases o<;>simp
end Go.Proofs.YtipcmdllhllolaaGreatDoor
end
end
