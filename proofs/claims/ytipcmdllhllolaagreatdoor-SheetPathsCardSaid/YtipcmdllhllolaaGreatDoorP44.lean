/- SheetPaths: the run of the law; what it returns, lifted. -/
import Derived.Test.YtipcmdllhllolaaGreatDoorP43
namespace Go.Proofs.YtipcmdllhllolaaGreatDoor
open Go.ChangeShapes Go.WideShapes Go.ChangeAt Go.RowKit
open Go.Abs Go.Abs.Sym
theorem own:ownKnob Tryz.prog.godebug=none:=by kernel_rfl
theorem kids:Kids Tryz.prog (· < Tryz.prog.types.size):=kids_rows (by kernel_rfl) (by kernel_rfl)
theorem full:∀ t e,t<Tryz.prog.types.size→Tryz.prog.underlying t=some (.slice e)→0<Tryz.prog.cellsOf e:=slices_full_of Tryz.prog (by kernel_rfl)
theorem params_lt:∀ t∈Tryz.f4.params.toList,t<Tryz.prog.types.size:=by
 rw [Tryz.params4]
 have h:([22].all fun t=>decide (t<Tryz.prog.types.size))=true:=by kernel_rfl
 intro t ht
 simpa using List.all_eq_true.1 h t ht
theorem sameAt_of {W W':World} (hk:∀ b,b<W.heap.size→W'.heap[b]?=W.heap[b]?) {p:MemPlace} (hp:p.block<W.heap.size):W.sameAt W' p:=by
 cases p with
 | cell b off =>
  show _=_
  simp only [World.cell?]
  rw [hk b hp]
 | map b=>exact hk b hp
theorem trodAll_carry {H:Type} {enc:TypeId×Value→H} {P:Program} {W W':World} {base:Nat} {spare:Nat→Bool} {held:Bool}:∀ {ts:List TypeId} {vs:List Value} {ds:List (DataW H)} {ps:List MemPlace},
  DataW.TrodAll enc P W base spare held ts vs ds ps→(∀ p∈ps,W.sameAt W' p)→DataW.TrodAll enc P W' base spare held ts vs ds ps
 | [],[],[],_,h,_=>h
 | _::_,_::_,_::_,_,⟨p,q,⟨n,h1⟩,h2,e⟩,hs=>⟨p,q,⟨n,DataW.trod_carry n _ _ _ h1 (fun x hx=>hs x (by rw [e]; exact List.mem_append_left _ hx))⟩,trodAll_carry h2 (fun x hx=>hs x (by rw [e]; exact List.mem_append_right _ hx)),e⟩
theorem run (W:World) (ho:OpnW W) (v0:Value) (a:List AV) (hv:@VRs triv W (ρ0 W) (Lv (ρ0 W) Abs.h0) a [v0]) (ha:HasTy (.slc (.slc (.int .i64))) a) :
  Calls Tryz.prog 4 #[v0] W (fun e w'=>e=.returned (.bool true)∧(∀ b,b<W.heap.size→w'.heap[b]?=W.heap[b]?)∧W.heap.size≤w'.heap.size∧w'.os=W.os∧w'.output=W.output):=by
 obtain ⟨Ls,rfl,hLs⟩:=arg_of ha
 obtain ⟨X,lev,hs,hF,v,h1,hcall,rfl⟩:=law_paths Ls hLs
 have:=calls_ok (envI:=triv) (@Lev.ok triv _ lev) (n:=49) hcall (hs _ _) (HR.empty (envI:=triv) (P:=Tryz.prog) (w:=W) (@Lev.globs triv _ lev) ho) (avs := #[v0]) hv hF
 refine this.mono fun e w' ⟨vv,he,hB⟩ => ?_
 have hk:=Back.kept (envI:=triv) hB
 obtain ⟨ρ',_,_,hvv⟩:=hB
 simp only [VR] at hvv
 rw [he,hvv]
 exact ⟨rfl,hk.1,hk.2.1,hk.2.2.1,hk.2.2.2.1⟩
end Go.Proofs.YtipcmdllhllolaaGreatDoor
