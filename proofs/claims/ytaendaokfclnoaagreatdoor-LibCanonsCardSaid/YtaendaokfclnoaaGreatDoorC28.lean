/- Numbers and roots: the rows, program. -/
import Derived.Test.YtaendaokfclnoaaGreatDoorC27
noncomputable section
namespace Go.Abs.T
open Go.Abs.Sym
theorem xIh:xB ([]:Grp) t183 ((gG.drop 0).take 27)=true:=by kernel_rfl
theorem xDo:xB ([]:Grp) t316 ((pZ.drop 0).take 56)=true:=by kernel_rfl
theorem xIg:GOK [(t183,gG)]:=xL (t:=gG) GOK.nil (by have h:=xIh; rwa [List.drop_zero,List.take_of_length_le (Nat.le_of_ble_eq_true (by kernel_rfl))] at h)
theorem xDn:GOK [(t316,pZ)]:=xL (t:=pZ) GOK.nil (by have h:=xDo; rwa [List.drop_zero,List.take_of_length_le (Nat.le_of_ble_eq_true (by kernel_rfl))] at h)
theorem qA:GOK wL:=GOK.cons xIg (GOK.cons xDn (GOK.nil))
theorem xGv:xB (wL) t281 ((bW.drop 0).take 70)=true:=by kernel_rfl
theorem xGx:xB (wL) t317 ((bX.drop 0).take 15)=true:=by kernel_rfl
theorem xH1:xB (wL) t279 ((bZ.drop 0).take 88)=true:=by kernel_rfl
theorem xGt:xB (wL) t283 ((bV.drop 0).take 62)=true:=by kernel_rfl
theorem xGz:xB (wL) t319 ((bY.drop 0).take 7)=true:=by kernel_rfl
theorem xGu:GOK [(t281,bW)]:=xL (t:=bW) qA (by have h:=xGv; rwa [List.drop_zero,List.take_of_length_le (Nat.le_of_ble_eq_true (by kernel_rfl))] at h)
theorem xGw:GOK [(t317,bX)]:=xL (t:=bX) qA (by have h:=xGx; rwa [List.drop_zero,List.take_of_length_le (Nat.le_of_ble_eq_true (by kernel_rfl))] at h)
theorem xH0:GOK [(t279,bZ)]:=xL (t:=bZ) qA (by have h:=xH1; rwa [List.drop_zero,List.take_of_length_le (Nat.le_of_ble_eq_true (by kernel_rfl))] at h)
theorem xGs:GOK [(t283,bV)]:=xL (t:=bV) qA (by have h:=xGt; rwa [List.drop_zero,List.take_of_length_le (Nat.le_of_ble_eq_true (by kernel_rfl))] at h)
theorem xGy:GOK [(t319,bY)]:=xL (t:=bY) qA (by have h:=xGz; rwa [List.drop_zero,List.take_of_length_le (Nat.le_of_ble_eq_true (by kernel_rfl))] at h)
theorem vT:GOK rT:=GOK.cons xGu (GOK.cons xGw (GOK.cons xH0 (GOK.cons xGs (GOK.cons xGy (GOK.nil)))))
theorem xH3:xB (wL++rT) t318 ((vA.drop 0).take 17)=true:=by kernel_rfl
theorem xH2:GOK [(t318,vA)]:=xL (t:=vA) (qA.app vT) (by have h:=xH3; rwa [List.drop_zero,List.take_of_length_le (Nat.le_of_ble_eq_true (by kernel_rfl))] at h)
theorem dD:GOK xAi:=GOK.cons xH2 (GOK.nil)
theorem xIj:xB (wL++rT++xAi) t277 ((gH.drop 0).take 10)=true:=by kernel_rfl
theorem xIk:xB (wL++rT++xAi) t277 ((gH.drop 10).take 10)=true:=by kernel_rfl
theorem xDq:xB (wL++rT++xAi) t222 ((nA.drop 0).take 10)=true:=by kernel_rfl
theorem xH5:xB (wL++rT++xAi) t182 ((pM.drop 0).take 10)=true:=by kernel_rfl
theorem xH6:xB (wL++rT++xAi) t182 ((pM.drop 10).take 10)=true:=by kernel_rfl
theorem xH7:xB (wL++rT++xAi) t182 ((pM.drop 20).take 10)=true:=by kernel_rfl
theorem xF9:xB (wL++rT++xAi) t278 ((nQ.drop 0).take 10)=true:=by kernel_rfl
theorem xFa:xB (wL++rT++xAi) t278 ((nQ.drop 10).take 10)=true:=by kernel_rfl
theorem xCh:xB (wL++rT++xAi) t122 ((jF.drop 0).take 10)=true:=by kernel_rfl
theorem xCi:xB (wL++rT++xAi) t122 ((jF.drop 10).take 10)=true:=by kernel_rfl
theorem xCj:xB (wL++rT++xAi) t122 ((jF.drop 20).take 10)=true:=by kernel_rfl
theorem xCk:xB (wL++rT++xAi) t122 ((jF.drop 30).take 10)=true:=by kernel_rfl
theorem xIi:GOK [(t277,gH)]:=xA ((qA.app vT).app dD) xIj (xL ((qA.app vT).app dD) (yB (Nat.le_of_ble_eq_true (by kernel_rfl)) xIk))
theorem xDp:GOK [(t222,nA)]:=xL (t:=nA) ((qA.app vT).app dD) (by have h:=xDq; rwa [List.drop_zero,List.take_of_length_le (Nat.le_of_ble_eq_true (by kernel_rfl))] at h)
theorem xH4:GOK [(t182,pM)]:=xA ((qA.app vT).app dD) xH5 (xA ((qA.app vT).app dD) xH6 (xL ((qA.app vT).app dD) (yB (Nat.le_of_ble_eq_true (by kernel_rfl)) xH7)))
theorem xF8:GOK [(t278,nQ)]:=xA ((qA.app vT).app dD) xF9 (xL ((qA.app vT).app dD) (yB (Nat.le_of_ble_eq_true (by kernel_rfl)) xFa))
theorem xCg:GOK [(t122,jF)]:=xA ((qA.app vT).app dD) xCh (xA ((qA.app vT).app dD) xCi (xA ((qA.app vT).app dD) xCj (xL ((qA.app vT).app dD) (yB (Nat.le_of_ble_eq_true (by kernel_rfl)) xCk))))
theorem bP:GOK xAj:=GOK.cons xIi (GOK.cons xDp (GOK.cons xH4 (GOK.cons xF8 (GOK.cons xCg (GOK.nil)))))
end Go.Abs.T
end
