/- The geometry of pads, at any place: the reference's rows, the edges. -/
import Derived.Test.YtaendaokfclnoaaGreatDoorC27
import Derived.Test.YtaendaokfclnoaaGreatDoorC29
noncomputable section
namespace Go.Abs.T
open Go.Abs.Sym
theorem xGb:xB (yZ++xJ) t294 ((jT.drop 0).take 6)=true:=by kernel_rfl
theorem xGc:xB (yZ++xJ) t294 ((jT.drop 6).take 6)=true:=by kernel_rfl
theorem xEn:xB (yZ++xJ) t294 ((jT.drop 12).take 6)=true:=by kernel_rfl
theorem xEo:xB (yZ++xJ) t294 ((jT.drop 18).take 6)=true:=by kernel_rfl
theorem xEp:xB (yZ++xJ) t294 ((jT.drop 24).take 6)=true:=by kernel_rfl
theorem xGa:GOK [(t294,jT)]:=xA (zE.app xD) xGb (xA (zE.app xD) xGc (xA (zE.app xD) xEn (xA (zE.app xD) xEo (xL (zE.app xD) (yB (Nat.le_of_ble_eq_true (by kernel_rfl)) xEp)))))
theorem xGe:xB (yZ++xJ) t152 ((pJ.drop 0).take 6)=true:=by kernel_rfl
theorem xGf:xB (yZ++xJ) t152 ((pJ.drop 6).take 6)=true:=by kernel_rfl
theorem xEq:xB (yZ++xJ) t152 ((pJ.drop 12).take 6)=true:=by kernel_rfl
theorem xGd:GOK [(t152,pJ)]:=xA (zE.app xD) xGe (xA (zE.app xD) xGf (xL (zE.app xD) (yB (Nat.le_of_ble_eq_true (by kernel_rfl)) xEq)))
theorem xU:GOK zR:=GOK.cons xGa (GOK.cons xGd (GOK.nil))
end Go.Abs.T
end
