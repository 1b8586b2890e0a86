/- A part of the proof that LibSwaps answers true at every input: AbsSym2, AbsSym3. -/
import Derived.Test.YtipcmdllhllolaaGreatDoorK02
import Derived.Test.YtipcmdllhllolaaGreatDoorK03
section
namespace Go.Abs.Sym
open Go.Abs.T
structure Ext (h h':H):Prop where
 next:h.next.num≤h'.next.num
 t:∀ id:Pth,id.num<h.next.num→h'.t.get id=h.t.get id
 ro:h'.ro=h.ro
theorem Ext.refl (h:H):Ext h h:=⟨Nat.le_refl _,fun _ _=>rfl,rfl⟩
theorem Ext.trans {h h' h'':H} (a:Ext h h') (b:Ext h' h''):Ext h h'' :=
 ⟨Nat.le_trans a.next b.next,fun id hi=>(b.t id (Nat.lt_of_lt_of_le hi a.next)).trans (a.t id hi),b.ro.trans a.ro⟩
theorem Ext.newB (h:H) (b:AB):Ext h (h.newB b) :=
 ⟨by show _≤h.next.succ.num; rw [Pth.num_succ]; omega,fun id hi=>by
  show (h.t.put h.next b).get id=_
  rw [gp,if_neg (fun e=>by rw [e] at hi; omega)],rfl⟩
def idxBody (sz:Nat):ACode:=(.seq (.reg [⟨s9,.bin .lss .one,[v8,v7],none⟩]) (.seq (.cond (v9) .skip (.exit 0)) (.seq (.block 1 (.seq (.reg [⟨s10,.mov,[v8],none⟩,⟨s5,.mov,[v10],none⟩]) (.seq (.reg [⟨s11,.mov,[v1],none⟩,⟨s12,.mov,[v0],none⟩,⟨s13,.mov,[v5],none⟩,⟨s14,.indexAddr (.slc sz),[v12,v13],none⟩,⟨s15,.load (some sz),[v14],none⟩,⟨s16,.call,[v11,v15],none⟩]) (.cond (v16) (.seq (.reg [⟨s17,.mov,[v5],none⟩,⟨s4,.mov,[v17],none⟩]) .ret) .skip)))) (.reg [⟨s18,.bin .add .one,[v8,.const i1],none⟩,⟨s8,.mov,[v18],none⟩]))))
def idxF (sz:Nat):AFunc:=⟨19,[.tmp t4],(.seq (.reg [⟨s4,.mov,[.const i0],none⟩]) (.seq (.seq (.reg [⟨s6,.mov,[v0],none⟩,⟨s7,.len .slc,[v6],none⟩,⟨s8,.mov,[.const i0],none⟩]) (.block 0 (.loop (idxBody sz)))) (.seq (.reg [⟨s4,.mov,[.const (.int .i64 (.negSucc 0))],none⟩]) .ret)))⟩
def View (h:H) (sz:Nat) (sv:AV) (es:List (List AV)):Prop :=
 lenVal h .slc sv=some (.int .i64 (.ofNat es.length)) ∧
 ∀ h',Ext h h'→∀ k e,es[k]?=some e→∃ p,indexAddrA (.slc sz) sv (.int .i64 (.ofNat k))=some p∧loadA h' (some sz) p=some (.agg e)
def idxOf (p:List AV→Bool):List (List AV)→Nat→Int
 | [],_=>.negSucc 0
 | e::es,k=>bif p e then .ofNat k else idxOf p es (k+1)
theorem wrap_small {k:Nat} (h:k<9223372036854775808):wrapA .i64 (Int.ofNat k)=.ofNat k:=by
 simp only [wrapA,topOf]
 have:Nat.blt k 9223372036854775808=true:=Nat.ble_eq_true_of_le h
 rw [this]; rfl
end Go.Abs.Sym
end
section
namespace Go.Abs.Sym
open Go.Abs.T
theorem call_fn {X:Ctx} {n:Nat} {i:Pth} {fs cs as:List AV} {h:H} {F:AFunc} (hs:X.sums i (fs++as++cs) h=none) (hF:X.funcs.get i=some F) :
  callN X (n+1) (.fn i fs cs) as h=leaveA (dcallN X n) F (execA X (callN X n) F.body { fr:=frameOf .e (fs++as++cs) .lf,df:=[],h:=h,rc:=.no,rd:=none,fnid:=i }):=by
 simp only [callN,hs,hF]
theorem call_sum {X:Ctx} {n:Nat} {i:Pth} {fs cs as:List AV} {h:H} {v:AV} (hs:X.sums i (fs++as++cs) h=some v):callN X (n+1) (.fn i fs cs) as h=.ret v h:=by
 simp only [callN,hs]
theorem leave_r {callD:AV→List AV→Md→H→DRes} {F:AFunc} {fr:Tr AV} {h:H} {rc:Rc} {rd:Option Pth} {f:Pth} {v:AV} (hr:resultA h fr F.results=some v):leaveA callD F (.ret ⟨fr,[],h,rc,rd,f⟩)=.ret v h:=by
 simp only [leaveA,dfrsA,hr]
end Go.Abs.Sym
end
