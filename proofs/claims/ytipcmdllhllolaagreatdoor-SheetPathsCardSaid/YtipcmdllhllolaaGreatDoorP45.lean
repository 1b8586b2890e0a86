/- SheetPaths: what it returns, lifted. -/
import Derived.Test.YtipcmdllhllolaaGreatDoorP44
import Derived.Test.YtipcmdllhllolaaGreatDoorP43
import Derived.Handed
import Derived.Lay
import Derived.MakeChecks
namespace Go.Proofs.YtipcmdllhllolaaGreatDoor
open Go.ChangeShapes Go.WideShapes Go.ChangeAt Go.RowKit
open Go.Abs Go.Abs.Sym
theorem returns_shaped {H:Type} {enc:TypeId×Value→H} {a:Assume} {C:Checked} {os:Os} {f:FuncId} {fn:Func} {s:ChangeSpec} {conds:List PathCond} {apart fresh handsOn again:Bool} {X:World→Array Value→Prop}
  (hX:∀ (w w':World) (args:Array Value),w.heap=w'.heap→X w args→X w' args)
  (own:ownKnob C.prog.godebug=none) (started:os.Started) (noInit:C.prog.inits.idxOf? f=none) (hfn:C.prog.funcs[f]?=some fn)
  (witness:∃ (w:World) (tape:Tape) (i:Input),w.os=os∧(w.forCall tape i).Shaped C.prog∧i.vars=[]∧Input.okWide C.prog (w.forCall tape i) .any w.heap.size f i ∧
   ((s.pre enc C.prog fn conds apart (w.forCall tape i).memory i.args∧X (w.forCall tape i).memory i.args)∧sizedMet enc C.prog fn (OpenSpec.ofChange s) apart (w.forCall tape i).memory i.args)∧a.holds C.prog (lone (Frame.enter C.prog f i.args .normal) [] (w.forCall tape i)))
  (contract:∀ (W:World) (base:Nat) (args:Array Value) (ds gs:List (DataW H)) (before:List MemPlace),W.ShapedOpen C.prog →
   (∀ (j:Nat) t v,fn.params[j]?=some t→args[j]?=some v→Value.okWide C.prog W .any base t v) →
   DataW.Whole enc C.prog fn.params.toList s.vars apart W args.toList ds gs before →
   Calls C.prog f args W fun e W'=>∃ v,e=.returned v∧s.post enc C.prog fn apart fresh handsOn again W args v W') :
  ReturnsInHanded a C os f .any (fun w args=>(s.pre enc C.prog fn conds apart w args∧X w args)∧sizedMet enc C.prog fn (OpenSpec.ofChange s) apart w args) (s.post enc C.prog fn apart fresh handsOn again):=by
 have _:=hX
 refine returnsInHanded_of_calls own started noInit witness ?_
 intro w tape i _ hsh _ hok hpre _
 obtain ⟨_,_,_,fn',hfn',_,_,_,_,hval⟩:=hok
 have e:fn'=fn:=Option.some.inj (hfn'.symm.trans hfn)
 subst e
 obtain ⟨⟨⟨ds,gs,before,hw,_⟩,_⟩,_⟩:=hpre
 have hw':=DataW.Whole.of_heap (w':=w.forCall tape i) (by rfl) hw
 refine (contract (w.forCall tape i) w.heap.size i.args ds gs before hsh hval hw').mono fun e W' ⟨v,he,hp⟩ => ?_
 subst he
 exact ChangeSpec.post_blind hp
theorem slc_val {P:Program} {W:World} {base:Nat} {t e:TypeId} {v:Value} (hd:P.underlying t=some (.slice e)) (h:Value.okWide P W .any base t v):v.cells.toList=[v]:=by
 unfold Value.okWide at h
 rw [hd] at h
 simp only at h
 unfold Cell.okWide Cell.ok at h
 rw [hd] at h
 cases v<;>first | rfl | exact absurd h id
set_option maxRecDepth 100000 in
theorem lifted (os:Os) (started:os.Started) (H:Type) (enc:TypeId×Value→H) :
  ReturnsInHanded {} Tryz.checked os 4 .any (fun w args=>(Rows.sheetPathsSpec.pre enc Tryz.prog Tryz.f4 [] false w args∧laidMetH Tryz.prog Rows.sheetPathsRow.laid w)∧sizedMet enc Tryz.prog Tryz.f4 (OpenSpec.ofChange Rows.sheetPathsSpec) false w args)
   (Rows.sheetPathsSpec.post enc Tryz.prog Tryz.f4 false true false false):=by
 refine returns_shaped (C:=Tryz.checked) (X:=fun w _=>laidMetH Tryz.prog Rows.sheetPathsRow.laid w) (fun _ _ _ hh h=>h.of_heap hh) own started (by kernel_rfl) Tryz.func4
  (ChangeSpec.witness_shaped (enc:=enc) (C:=Tryz.checked) (os:=os) (X:=fun w _=>laidMetH Tryz.prog Rows.sheetPathsRow.laid w) false (World.laidAll Tryz.prog os Rows.sheetPathsRow.laid)
   #[.slice none 0 0] 8 (World.laidAll_os _ _ _) (World.shaped_of_ZipB (by kernel_rfl) (by kernel_rfl)) (by kernel_rfl) (by kernel_rfl) (by kernel_rfl)
   (by rw [MakeChecks.laidMetH_plain _ _ _ (by kernel_rfl)]; exact laidMet_laidAll _ (by kernel_rfl) (by kernel_rfl))) ?_
 intro W base args ds gs before hsh hval0 hW
 have hval:∀ (j:Nat) t v,Tryz.f4.params[j]?=some t→args[j]?=some v→Value.okWide Tryz.prog W .any base t v:=hval0
 have hop:=opn_of hsh
 have hW':=hW
 obtain ⟨p,q,hA0,hV,rfl,hfz,hnd⟩:=hW
 have hA:DataW.TrodAll enc Tryz.prog W 0 (fun _=>true) true Tryz.f4.params.toList args.toList ds p:=hA0
 have hAk:=hA
 rw [Tryz.params4] at hA hval
 obtain ⟨v0,d0,rfl,rfl,h0⟩:=trodAll_one hA
 obtain ⟨rfl,rfl⟩:=trodVars_none hV
 obtain ⟨f0,h0⟩:=h0
 obtain ⟨a,ha,va⟩:=trod_av (envI:=triv) (.slc (.slc (.int .i64))) ok22 h0
 rw [slc_val Tryz.underlying22 (hval 0 22 v0 rfl rfl)] at va
 refine (run W hop v0 a va ha).mono fun e W' ⟨he,hk,hsz,hos,hout⟩=>⟨_,he,?_⟩
 have hlt:=DataW.TrodAll.lt hAk
 refine ⟨[d0],[],_,[],p,[],hW',?_,?_,rfl,?_,fun h=>by cases h⟩
 ·exact trodAll_mk1 (shut_bool Tryz.underlying4 true)
 ·exact trodAll_carry (DataW.TrodAll.respare kids full params_lt hAk (fun p hp=>by simpa using hlt p hp)) (fun p hp=>sameAt_of hk (hlt p hp))
 ·refine ⟨hos,hout,fun i hi => ?_⟩
  rw [hk i hi]
  cases W.heap[i]? with
  | none=>rfl
  | some o=>cases o<;>simp
end Go.Proofs.YtipcmdllhllolaaGreatDoor
