/- The reference's pads: rows with tokens. -/
import Derived.Test.YtipcmdllhllolaaGreatDoorM38
import Derived.Test.YtipcmdllhllolaaGreatDoorM44
import Derived.KernelRfl
noncomputable section
section
namespace Go.Abs.T
open Go.Abs.Sym
open Go.Proofs
def tyPad (m k b s d:Nat):AV:=.agg [.sym 200, .rslc m (padToks 0 k++(padC (padOf k b s d)++padToks (k+1) (m - k - 1))), .sym 201]
def XPd (k b:Nat):Ctx:=XGm (tabGp k b) (tabGm (30*k) (10*b))
noncomputable def rpB (m k b s d:Nat):Bool:=F.callC (XPd k b) 100 (.fn t120 [] []) [tyPad m k b s d, .int .i64 (.ofNat k)] h0 (isV i0)
end Go.Abs.T
end
section
namespace Go.Abs.T
theorem rp200:([0,1,2,3,4].all fun s=>[0,1,2,3].all fun d=>rpB 2 0 0 s d)=true:=by kernel_rfl
theorem rp600:([0,1,2,3,4].all fun s=>[0,1,2,3].all fun d=>rpB 6 0 0 s d)=true:=by kernel_rfl
theorem rp501:([0,1,2,3,4].all fun s=>[0,1,2,3].all fun d=>rpB 5 0 1 s d)=true:=by kernel_rfl
theorem rp410:([0,1,2,3,4].all fun s=>[0,1,2,3].all fun d=>rpB 4 1 0 s d)=true:=by kernel_rfl
theorem rp311:([0,1,2,3,4].all fun s=>[0,1,2,3].all fun d=>rpB 3 1 1 s d)=true:=by kernel_rfl
theorem rp320:([0,1,2,3,4].all fun s=>[0,1,2,3].all fun d=>rpB 3 2 0 s d)=true:=by kernel_rfl
theorem rp321:([0,1,2,3,4].all fun s=>[0,1,2,3].all fun d=>rpB 3 2 1 s d)=true:=by kernel_rfl
theorem rp430:([0,1,2,3,4].all fun s=>[0,1,2,3].all fun d=>rpB 4 3 0 s d)=true:=by kernel_rfl
theorem rp531:([0,1,2,3,4].all fun s=>[0,1,2,3].all fun d=>rpB 5 3 1 s d)=true:=by kernel_rfl
theorem rp541:([0,1,2,3,4].all fun s=>[0,1,2,3].all fun d=>rpB 5 4 1 s d)=true:=by kernel_rfl
end Go.Abs.T
end
section
namespace Go.Abs.T
theorem rp300:([0,1,2,3,4].all fun s=>[0,1,2,3].all fun d=>rpB 3 0 0 s d)=true:=by kernel_rfl
theorem rp201:([0,1,2,3,4].all fun s=>[0,1,2,3].all fun d=>rpB 2 0 1 s d)=true:=by kernel_rfl
theorem rp601:([0,1,2,3,4].all fun s=>[0,1,2,3].all fun d=>rpB 6 0 1 s d)=true:=by kernel_rfl
theorem rp510:([0,1,2,3,4].all fun s=>[0,1,2,3].all fun d=>rpB 5 1 0 s d)=true:=by kernel_rfl
theorem rp411:([0,1,2,3,4].all fun s=>[0,1,2,3].all fun d=>rpB 4 1 1 s d)=true:=by kernel_rfl
theorem rp420:([0,1,2,3,4].all fun s=>[0,1,2,3].all fun d=>rpB 4 2 0 s d)=true:=by kernel_rfl
theorem rp421:([0,1,2,3,4].all fun s=>[0,1,2,3].all fun d=>rpB 4 2 1 s d)=true:=by kernel_rfl
theorem rp530:([0,1,2,3,4].all fun s=>[0,1,2,3].all fun d=>rpB 5 3 0 s d)=true:=by kernel_rfl
theorem rp631:([0,1,2,3,4].all fun s=>[0,1,2,3].all fun d=>rpB 6 3 1 s d)=true:=by kernel_rfl
theorem rp641:([0,1,2,3,4].all fun s=>[0,1,2,3].all fun d=>rpB 6 4 1 s d)=true:=by kernel_rfl
end Go.Abs.T
end
section
namespace Go.Abs.T
theorem rp400:([0,1,2,3,4].all fun s=>[0,1,2,3].all fun d=>rpB 4 0 0 s d)=true:=by kernel_rfl
theorem rp301:([0,1,2,3,4].all fun s=>[0,1,2,3].all fun d=>rpB 3 0 1 s d)=true:=by kernel_rfl
theorem rp210:([0,1,2,3,4].all fun s=>[0,1,2,3].all fun d=>rpB 2 1 0 s d)=true:=by kernel_rfl
theorem rp610:([0,1,2,3,4].all fun s=>[0,1,2,3].all fun d=>rpB 6 1 0 s d)=true:=by kernel_rfl
theorem rp511:([0,1,2,3,4].all fun s=>[0,1,2,3].all fun d=>rpB 5 1 1 s d)=true:=by kernel_rfl
theorem rp520:([0,1,2,3,4].all fun s=>[0,1,2,3].all fun d=>rpB 5 2 0 s d)=true:=by kernel_rfl
theorem rp521:([0,1,2,3,4].all fun s=>[0,1,2,3].all fun d=>rpB 5 2 1 s d)=true:=by kernel_rfl
theorem rp630:([0,1,2,3,4].all fun s=>[0,1,2,3].all fun d=>rpB 6 3 0 s d)=true:=by kernel_rfl
theorem rp540:([0,1,2,3,4].all fun s=>[0,1,2,3].all fun d=>rpB 5 4 0 s d)=true:=by kernel_rfl
theorem rp650:([0,1,2,3,4].all fun s=>[0,1,2,3].all fun d=>rpB 6 5 0 s d)=true:=by kernel_rfl
end Go.Abs.T
end
section
namespace Go.Abs.T
theorem rp500:([0,1,2,3,4].all fun s=>[0,1,2,3].all fun d=>rpB 5 0 0 s d)=true:=by kernel_rfl
theorem rp401:([0,1,2,3,4].all fun s=>[0,1,2,3].all fun d=>rpB 4 0 1 s d)=true:=by kernel_rfl
theorem rp310:([0,1,2,3,4].all fun s=>[0,1,2,3].all fun d=>rpB 3 1 0 s d)=true:=by kernel_rfl
theorem rp211:([0,1,2,3,4].all fun s=>[0,1,2,3].all fun d=>rpB 2 1 1 s d)=true:=by kernel_rfl
theorem rp611:([0,1,2,3,4].all fun s=>[0,1,2,3].all fun d=>rpB 6 1 1 s d)=true:=by kernel_rfl
theorem rp620:([0,1,2,3,4].all fun s=>[0,1,2,3].all fun d=>rpB 6 2 0 s d)=true:=by kernel_rfl
theorem rp621:([0,1,2,3,4].all fun s=>[0,1,2,3].all fun d=>rpB 6 2 1 s d)=true:=by kernel_rfl
theorem rp431:([0,1,2,3,4].all fun s=>[0,1,2,3].all fun d=>rpB 4 3 1 s d)=true:=by kernel_rfl
theorem rp640:([0,1,2,3,4].all fun s=>[0,1,2,3].all fun d=>rpB 6 4 0 s d)=true:=by kernel_rfl
theorem rp651:([0,1,2,3,4].all fun s=>[0,1,2,3].all fun d=>rpB 6 5 1 s d)=true:=by kernel_rfl
end Go.Abs.T
end
end
