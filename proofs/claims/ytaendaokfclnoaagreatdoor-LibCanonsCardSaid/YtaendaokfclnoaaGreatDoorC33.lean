/- The geometry of pads, at any place: the reference's rows, the shapes. -/
import Derived.Test.YtaendaokfclnoaaGreatDoorC32
noncomputable section
namespace Go.Abs.T
open Go.Abs.Sym
theorem xKh:xB (zR++(yZ++xJ)) t97 ((mG.drop 0).take 6)=true:=by kernel_rfl
theorem xKi:xB (zR++(yZ++xJ)) t97 ((mG.drop 6).take 6)=true:=by kernel_rfl
theorem xI5:xB (zR++(yZ++xJ)) t97 ((mG.drop 12).take 6)=true:=by kernel_rfl
theorem xI6:xB (zR++(yZ++xJ)) t97 ((mG.drop 18).take 6)=true:=by kernel_rfl
theorem xI7:xB (zR++(yZ++xJ)) t97 ((mG.drop 24).take 6)=true:=by kernel_rfl
theorem xKg:GOK [(t97,mG)]:=xA (xU.app (zE.app xD)) xKh (xA (xU.app (zE.app xD)) xKi (xA (xU.app (zE.app xD)) xI5 (xA (xU.app (zE.app xD)) xI6 (xL (xU.app (zE.app xD)) (yB (Nat.le_of_ble_eq_true (by kernel_rfl)) xI7)))))
theorem xGh:xB (zR++(yZ++xJ)) t96 ((qH.drop 0).take 6)=true:=by kernel_rfl
theorem xGi:xB (zR++(yZ++xJ)) t96 ((qH.drop 6).take 6)=true:=by kernel_rfl
theorem xEr:xB (zR++(yZ++xJ)) t96 ((qH.drop 12).take 6)=true:=by kernel_rfl
theorem xEs:xB (zR++(yZ++xJ)) t96 ((qH.drop 18).take 6)=true:=by kernel_rfl
theorem xEt:xB (zR++(yZ++xJ)) t96 ((qH.drop 24).take 6)=true:=by kernel_rfl
theorem xEu:xB (zR++(yZ++xJ)) t96 ((qH.drop 30).take 6)=true:=by kernel_rfl
theorem xEv:xB (zR++(yZ++xJ)) t96 ((qH.drop 36).take 6)=true:=by kernel_rfl
theorem xEw:xB (zR++(yZ++xJ)) t96 ((qH.drop 42).take 6)=true:=by kernel_rfl
theorem xEx:xB (zR++(yZ++xJ)) t96 ((qH.drop 48).take 6)=true:=by kernel_rfl
theorem xGg:GOK [(t96,qH)]:=xA (xU.app (zE.app xD)) xGh (xA (xU.app (zE.app xD)) xGi (xA (xU.app (zE.app xD)) xEr (xA (xU.app (zE.app xD)) xEs (xA (xU.app (zE.app xD)) xEt (xA (xU.app (zE.app xD)) xEu (xA (xU.app (zE.app xD)) xEv (xA (xU.app (zE.app xD)) xEw (xL (xU.app (zE.app xD)) (yB (Nat.le_of_ble_eq_true (by kernel_rfl)) xEx)))))))))
theorem xEz:xB (zR++(yZ++xJ)) t99 ((zV.drop 0).take 6)=true:=by kernel_rfl
theorem xF0:xB (zR++(yZ++xJ)) t99 ((zV.drop 6).take 6)=true:=by kernel_rfl
theorem xDe:xB (zR++(yZ++xJ)) t99 ((zV.drop 12).take 6)=true:=by kernel_rfl
theorem xDf:xB (zR++(yZ++xJ)) t99 ((zV.drop 18).take 6)=true:=by kernel_rfl
theorem xDg:xB (zR++(yZ++xJ)) t99 ((zV.drop 24).take 6)=true:=by kernel_rfl
theorem xDh:xB (zR++(yZ++xJ)) t99 ((zV.drop 30).take 6)=true:=by kernel_rfl
theorem xDi:xB (zR++(yZ++xJ)) t99 ((zV.drop 36).take 6)=true:=by kernel_rfl
theorem xDj:xB (zR++(yZ++xJ)) t99 ((zV.drop 42).take 6)=true:=by kernel_rfl
theorem xDk:xB (zR++(yZ++xJ)) t99 ((zV.drop 48).take 6)=true:=by kernel_rfl
theorem xDl:xB (zR++(yZ++xJ)) t99 ((zV.drop 54).take 6)=true:=by kernel_rfl
theorem xDm:xB (zR++(yZ++xJ)) t99 ((zV.drop 60).take 6)=true:=by kernel_rfl
theorem xEy:GOK [(t99,zV)]:=xA (xU.app (zE.app xD)) xEz (xA (xU.app (zE.app xD)) xF0 (xA (xU.app (zE.app xD)) xDe (xA (xU.app (zE.app xD)) xDf (xA (xU.app (zE.app xD)) xDg (xA (xU.app (zE.app xD)) xDh (xA (xU.app (zE.app xD)) xDi (xA (xU.app (zE.app xD)) xDj (xA (xU.app (zE.app xD)) xDk (xA (xU.app (zE.app xD)) xDl (xL (xU.app (zE.app xD)) (yB (Nat.le_of_ble_eq_true (by kernel_rfl)) xDm)))))))))))
theorem yN:GOK wA:=GOK.cons xKg (GOK.cons xGg (GOK.cons xEy (GOK.nil)))
end Go.Abs.T
end
