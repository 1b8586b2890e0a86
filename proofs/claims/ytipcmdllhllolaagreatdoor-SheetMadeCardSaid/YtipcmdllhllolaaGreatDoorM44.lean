/- The reference's geometry of pads at a place, as tables. -/
import Derived.Test.YtipcmdllhllolaaGreatDoorM34
import Derived.KernelRfl
noncomputable section
namespace Go.Abs.T
open AV
open Go.Abs.Sym
open Go.Proofs
set_option maxRecDepth 10000
def rtQ (a b:Int) (l:AV):AV:=agg [zi a,zi b,bool false,l,bool false,rslc 1 [uN 1]]
abbrev l36:AV:=rslc 1 [uN 36]
abbrev l72:AV:=rslc 1 [uN 72]
def tabG0:List RWq:=[(t243,[rtQ 0 1 l36,rtQ 0 1 l36],i0),(t243,[rtQ 0 1 l36,rtQ 0 1 l72],zi (-1)),(t243,[rtQ 0 1 l72,rtQ 0 1 l72],i0)]
def tabG1:List RWq:=[(t197,[rtQ (-1) 1 l36,i0],i1),(t197,[rtQ (-2) 1 l36,i0],i1),(t197,[rtQ (-3) 1 l36,i0],i1),(t197,[rtQ 0 0 nils,i1],zi (-1)),(t197,[rtQ 0 0 nils,i2],zi (-1)),(t197,[rtQ 0 0 nils,i3],zi (-1)),(t197,[rtQ 0 0 nils,i4],zi (-1)),(t197,[rtQ 0 0 nils,i5],zi (-1))]
def tabG2:List RWq:=[(t283,[i0,i1,zi 72,zi 144],rtQ 0 1 l36),(t283,[i0,i1,i0,i16],rtQ 0 0 nils),(t326,[rtQ 0 1 l36,zi (-1)],tup [rtQ (-1) 1 l36,bool true]),(t326,[rtQ 0 1 l36,zi (-2)],tup [rtQ (-2) 1 l36,bool true]),(t326,[rtQ 0 1 l36,zi (-3)],tup [rtQ (-3) 1 l36,bool true]),(t287,[i0,i1,zi 72],rtQ 0 1 l72),(t287,[i0,i1,i0],rtQ 0 0 nils)]
def tabG:List RWq:=tabG0++(tabG1++tabG2)
theorem gG0:rowB X0 100 (tabG.getD 0 (t0,[],i0))=true:=by kernel_rfl
theorem gG1:rowB X0 100 (tabG.getD 1 (t0,[],i0))=true:=by kernel_rfl
theorem gG2:rowB X0 100 (tabG.getD 2 (t0,[],i0))=true:=by kernel_rfl
theorem gG3:rowB X0 100 (tabG.getD 3 (t0,[],i0))=true:=by kernel_rfl
theorem gG4:rowB X0 100 (tabG.getD 4 (t0,[],i0))=true:=by kernel_rfl
theorem gG5:rowB X0 100 (tabG.getD 5 (t0,[],i0))=true:=by kernel_rfl
theorem gG6:rowB X0 100 (tabG.getD 6 (t0,[],i0))=true:=by kernel_rfl
theorem gG7:rowB X0 100 (tabG.getD 7 (t0,[],i0))=true:=by kernel_rfl
theorem gG8:rowB X0 100 (tabG.getD 8 (t0,[],i0))=true:=by kernel_rfl
theorem gG9:rowB X0 100 (tabG.getD 9 (t0,[],i0))=true:=by kernel_rfl
theorem gG10:rowB X0 100 (tabG.getD 10 (t0,[],i0))=true:=by kernel_rfl
theorem gG11:rowB X0 100 (tabG.getD 11 (t0,[],i0))=true:=by kernel_rfl
theorem gG12:rowB X0 100 (tabG.getD 12 (t0,[],i0))=true:=by kernel_rfl
theorem gG13:rowB X0 100 (tabG.getD 13 (t0,[],i0))=true:=by kernel_rfl
theorem gG14:rowB X0 100 (tabG.getD 14 (t0,[],i0))=true:=by kernel_rfl
theorem gG15:rowB X0 100 (tabG.getD 15 (t0,[],i0))=true:=by kernel_rfl
theorem gG16:rowB X0 100 (tabG.getD 16 (t0,[],i0))=true:=by kernel_rfl
theorem gG17:rowB X0 100 (tabG.getD 17 (t0,[],i0))=true:=by kernel_rfl
theorem rowsG:Rows X0 tabG:=.s gG0 (.s gG1 (.s gG2 (.s gG3 (.s gG4 (.s gG5 (.s gG6 (.s gG7 (.s gG8 (.s gG9 (.s gG10 (.s gG11 (.s gG12 (.s gG13 (.s gG14 (.s gG15 (.s gG16 (.s gG17 (.z))))))))))))))))))
def XG:Ctx:={ X0 with sums:=tabSums tabG (fun _ _ _=>none) }
def XGe (e:List RWq):Ctx:={ X0 with sums:=tabSums e (tabSums tabG (fun _ _ _=>none)) }
def XGm (e m:List RWq):Ctx:={ X0 with sums:=tabSums m (tabSums e (tabSums tabG (fun _ _ _=>none))) }
theorem okG [envI:Env]:XOK Tryz.prog XG:=⟨mixed,funcs_ok,exts_ok,tabSums_ok ok0 rfl rowsG.ok noSums_ok⟩
theorem okGe [envI:Env] {e:List RWq} (he:Rows XG e):XOK Tryz.prog (XGe e):=⟨mixed,funcs_ok,exts_ok,tabSums_ok okG rfl he.ok (tabSums_ok ok0 rfl rowsG.ok noSums_ok)⟩
theorem okGm [envI:Env] {e m:List RWq} (he:Rows XG e) (hm:Rows (XGe e) m):XOK Tryz.prog (XGm e m):=⟨mixed,funcs_ok,exts_ok,tabSums_ok (okGe he) rfl hm.ok (tabSums_ok okG rfl he.ok (tabSums_ok ok0 rfl rowsG.ok noSums_ok))⟩
section
variable (x y:Int)
def eeQ (e:List AV) (d:AV):RWq:=(t325,[agg e,agg (ptE x y)],tup [rtQ 0 1 l36,d,stQ x y])
def tabGe:List RWq:=[eeQ x y (ege (x-6) (y-6) (x+6) (y-6)) (dirQ (x-6) (y-6) 12 0 72 144),eeQ x y (ege (x+6) (y-6) (x+6) (y+6)) (dirQ (x+6) (y-6) 0 12 72 144),eeQ x y (ege (x+6) (y+6) (x-6) (y+6)) (dirQ (x+6) (y+6) (-12) 0 72 144),eeQ x y (ege (x-6) (y+6) (x-6) (y-6)) (dirQ (x-6) (y+6) 0 (-12) 72 144),
 (t196,[agg (ptE x y),cenQ x y],tup [rtQ 0 0 nils,stQ x y]),(t196,[agg (lnE x y),cenQ x y],tup [rtQ 0 0 nils,dirQ (x-2) y 4 0 8 16])]
def gmQ (k:Int) (es:List (List AV)) (r a b:Int):List RWq:=[(t153,[shQ k es r],i0),(t154,[shQ k es r],agg [zi (x-a),zi (y-b),zi (x+a),zi (y+b)]),(t156,[shQ k es r,cenQ x y],bool true)]
def tabGm:List RWq:=gmQ x y 2 (rcE x y) 0 6 6++(gmQ x y 1 [ptE x y] 4 4 4++(gmQ x y 1 [ptE x y] 5 5 5++(gmQ x y 1 [ptE x y] 6 6 6++gmQ x y 1 [lnE x y] 4 6 4)))
end
def tabGp (k b:Nat):List RWq:=[0,1,2,3,4].flatMap fun s=>[1,2,3].map fun d=>(t157,[.agg (padC (padOf k b s d))],bool true)
end Go.Abs.T
end
