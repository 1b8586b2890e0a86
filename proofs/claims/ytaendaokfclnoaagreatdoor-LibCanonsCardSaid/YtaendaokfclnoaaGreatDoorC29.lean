/- Numbers and roots: the rows, reference. -/
import Derived.Test.YtaendaokfclnoaaGreatDoorC27
noncomputable section
namespace Go.Abs.T
open Go.Abs.Sym
theorem xKm:xB ([]:Grp) t239 ((dS.drop 0).take 44)=true:=by kernel_rfl
theorem xFc:xB ([]:Grp) t286 ((nR.drop 0).take 82)=true:=by kernel_rfl
theorem xKl:GOK [(t239,dS)]:=xL (t:=dS) GOK.nil (by have h:=xKm; rwa [List.drop_zero,List.take_of_length_le (Nat.le_of_ble_eq_true (by kernel_rfl))] at h)
theorem xFb:GOK [(t286,nR)]:=xL (t:=nR) GOK.nil (by have h:=xFc; rwa [List.drop_zero,List.take_of_length_le (Nat.le_of_ble_eq_true (by kernel_rfl))] at h)
theorem xD:GOK xJ:=GOK.cons xKl (GOK.cons xFb (GOK.nil))
theorem xIs:xB (xJ) t238 ((gL.drop 0).take 79)=true:=by kernel_rfl
theorem xIo:xB (xJ) t240 ((gJ.drop 0).take 102)=true:=by kernel_rfl
theorem xH9:xB (xJ) t328 ((vB.drop 0).take 23)=true:=by kernel_rfl
theorem xIu:xB (xJ) t298 ((gM.drop 0).take 74)=true:=by kernel_rfl
theorem xIm:xB (xJ) t300 ((gI.drop 0).take 26)=true:=by kernel_rfl
theorem xIq:xB (xJ) t327 ((gK.drop 0).take 8)=true:=by kernel_rfl
theorem xIr:GOK [(t238,gL)]:=xL (t:=gL) xD (by have h:=xIs; rwa [List.drop_zero,List.take_of_length_le (Nat.le_of_ble_eq_true (by kernel_rfl))] at h)
theorem xIn:GOK [(t240,gJ)]:=xL (t:=gJ) xD (by have h:=xIo; rwa [List.drop_zero,List.take_of_length_le (Nat.le_of_ble_eq_true (by kernel_rfl))] at h)
theorem xH8:GOK [(t328,vB)]:=xL (t:=vB) xD (by have h:=xH9; rwa [List.drop_zero,List.take_of_length_le (Nat.le_of_ble_eq_true (by kernel_rfl))] at h)
theorem xIt:GOK [(t298,gM)]:=xL (t:=gM) xD (by have h:=xIu; rwa [List.drop_zero,List.take_of_length_le (Nat.le_of_ble_eq_true (by kernel_rfl))] at h)
theorem xIl:GOK [(t300,gI)]:=xL (t:=gI) xD (by have h:=xIm; rwa [List.drop_zero,List.take_of_length_le (Nat.le_of_ble_eq_true (by kernel_rfl))] at h)
theorem xIp:GOK [(t327,gK)]:=xL (t:=gK) xD (by have h:=xIq; rwa [List.drop_zero,List.take_of_length_le (Nat.le_of_ble_eq_true (by kernel_rfl))] at h)
theorem zO:GOK yS:=GOK.cons xIr (GOK.cons xIn (GOK.cons xH8 (GOK.cons xIt (GOK.cons xIl (GOK.cons xIp (GOK.nil))))))
theorem xJ1:xB (xJ++yS) t323 ((mP.drop 0).take 8)=true:=by kernel_rfl
theorem xJ2:xB (xJ++yS) t323 ((mP.drop 8).take 8)=true:=by kernel_rfl
theorem xJ3:xB (xJ++yS) t323 ((mP.drop 16).take 8)=true:=by kernel_rfl
theorem xJ4:xB (xJ++yS) t323 ((mP.drop 24).take 8)=true:=by kernel_rfl
theorem xIw:xB (xJ++yS) t324 ((mO.drop 0).take 8)=true:=by kernel_rfl
theorem xIx:xB (xJ++yS) t324 ((mO.drop 8).take 8)=true:=by kernel_rfl
theorem xIy:xB (xJ++yS) t324 ((mO.drop 16).take 8)=true:=by kernel_rfl
theorem xIz:xB (xJ++yS) t324 ((mO.drop 24).take 8)=true:=by kernel_rfl
theorem xJ0:GOK [(t323,mP)]:=xA (xD.app zO) xJ1 (xA (xD.app zO) xJ2 (xA (xD.app zO) xJ3 (xL (xD.app zO) (yB (Nat.le_of_ble_eq_true (by kernel_rfl)) xJ4))))
theorem xIv:GOK [(t324,mO)]:=xA (xD.app zO) xIw (xA (xD.app zO) xIx (xA (xD.app zO) xIy (xL (xD.app zO) (yB (Nat.le_of_ble_eq_true (by kernel_rfl)) xIz))))
theorem yG:GOK qU:=GOK.cons xJ0 (GOK.cons xIv (GOK.nil))
theorem xOf:xB (xJ++yS++qU) t291 ((xA3.drop 0).take 4)=true:=by kernel_rfl
theorem xOg:xB (xJ++yS++qU) t291 ((xA3.drop 4).take 4)=true:=by kernel_rfl
theorem xFp:xB (xJ++yS++qU) t251 ((jI.drop 0).take 4)=true:=by kernel_rfl
theorem xFq:xB (xJ++yS++qU) t251 ((jI.drop 4).take 4)=true:=by kernel_rfl
theorem xFr:xB (xJ++yS++qU) t251 ((jI.drop 8).take 4)=true:=by kernel_rfl
theorem xFs:xB (xJ++yS++qU) t251 ((jI.drop 12).take 4)=true:=by kernel_rfl
theorem xFt:xB (xJ++yS++qU) t251 ((jI.drop 16).take 4)=true:=by kernel_rfl
theorem xCm:xB (xJ++yS++qU) t247 ((kJ.drop 0).take 4)=true:=by kernel_rfl
theorem xCn:xB (xJ++yS++qU) t247 ((kJ.drop 4).take 4)=true:=by kernel_rfl
theorem xCo:xB (xJ++yS++qU) t247 ((kJ.drop 8).take 4)=true:=by kernel_rfl
theorem xKo:xB (xJ++yS++qU) t202 ((yR.drop 0).take 4)=true:=by kernel_rfl
theorem xKp:xB (xJ++yS++qU) t202 ((yR.drop 4).take 4)=true:=by kernel_rfl
theorem xKq:xB (xJ++yS++qU) t202 ((yR.drop 8).take 4)=true:=by kernel_rfl
theorem xKr:xB (xJ++yS++qU) t202 ((yR.drop 12).take 4)=true:=by kernel_rfl
theorem xKs:xB (xJ++yS++qU) t202 ((yR.drop 16).take 4)=true:=by kernel_rfl
theorem xKt:xB (xJ++yS++qU) t202 ((yR.drop 20).take 4)=true:=by kernel_rfl
theorem xKu:xB (xJ++yS++qU) t202 ((yR.drop 24).take 4)=true:=by kernel_rfl
theorem xKv:xB (xJ++yS++qU) t202 ((yR.drop 28).take 4)=true:=by kernel_rfl
theorem xKw:xB (xJ++yS++qU) t202 ((yR.drop 32).take 4)=true:=by kernel_rfl
theorem xKx:xB (xJ++yS++qU) t202 ((yR.drop 36).take 4)=true:=by kernel_rfl
theorem xJ5:xB (xJ++yS++qU) t202 ((yR.drop 40).take 4)=true:=by kernel_rfl
theorem xJ6:xB (xJ++yS++qU) t202 ((yR.drop 44).take 4)=true:=by kernel_rfl
theorem xJ7:xB (xJ++yS++qU) t202 ((yR.drop 48).take 4)=true:=by kernel_rfl
theorem xJ9:xB (xJ++yS++qU) t295 ((mQ.drop 0).take 4)=true:=by kernel_rfl
theorem xJa:xB (xJ++yS++qU) t295 ((mQ.drop 4).take 4)=true:=by kernel_rfl
theorem xJb:xB (xJ++yS++qU) t295 ((mQ.drop 8).take 4)=true:=by kernel_rfl
theorem xJc:xB (xJ++yS++qU) t295 ((mQ.drop 12).take 4)=true:=by kernel_rfl
theorem xFe:xB (xJ++yS++qU) t153 ((zA.drop 0).take 4)=true:=by kernel_rfl
theorem xFf:xB (xJ++yS++qU) t153 ((zA.drop 4).take 4)=true:=by kernel_rfl
theorem xFg:xB (xJ++yS++qU) t153 ((zA.drop 8).take 4)=true:=by kernel_rfl
theorem xFh:xB (xJ++yS++qU) t153 ((zA.drop 12).take 4)=true:=by kernel_rfl
theorem xFi:xB (xJ++yS++qU) t153 ((zA.drop 16).take 4)=true:=by kernel_rfl
theorem xFj:xB (xJ++yS++qU) t153 ((zA.drop 20).take 4)=true:=by kernel_rfl
theorem xFk:xB (xJ++yS++qU) t153 ((zA.drop 24).take 4)=true:=by kernel_rfl
theorem xFl:xB (xJ++yS++qU) t153 ((zA.drop 28).take 4)=true:=by kernel_rfl
theorem xFm:xB (xJ++yS++qU) t153 ((zA.drop 32).take 4)=true:=by kernel_rfl
theorem xFn:xB (xJ++yS++qU) t153 ((zA.drop 36).take 4)=true:=by kernel_rfl
theorem xDr:xB (xJ++yS++qU) t153 ((zA.drop 40).take 4)=true:=by kernel_rfl
theorem xDs:xB (xJ++yS++qU) t153 ((zA.drop 44).take 4)=true:=by kernel_rfl
theorem xDt:xB (xJ++yS++qU) t153 ((zA.drop 48).take 4)=true:=by kernel_rfl
theorem xDu:xB (xJ++yS++qU) t153 ((zA.drop 52).take 4)=true:=by kernel_rfl
theorem xDv:xB (xJ++yS++qU) t153 ((zA.drop 56).take 4)=true:=by kernel_rfl
theorem xDw:xB (xJ++yS++qU) t153 ((zA.drop 60).take 4)=true:=by kernel_rfl
theorem xOe:GOK [(t291,xA3)]:=xA ((xD.app zO).app yG) xOf (xL ((xD.app zO).app yG) (yB (Nat.le_of_ble_eq_true (by kernel_rfl)) xOg))
theorem xFo:GOK [(t251,jI)]:=xA ((xD.app zO).app yG) xFp (xA ((xD.app zO).app yG) xFq (xA ((xD.app zO).app yG) xFr (xA ((xD.app zO).app yG) xFs (xL ((xD.app zO).app yG) (yB (Nat.le_of_ble_eq_true (by kernel_rfl)) xFt)))))
theorem xCl:GOK [(t247,kJ)]:=xA ((xD.app zO).app yG) xCm (xA ((xD.app zO).app yG) xCn (xL ((xD.app zO).app yG) (yB (Nat.le_of_ble_eq_true (by kernel_rfl)) xCo)))
theorem xKn:GOK [(t202,yR)]:=xA ((xD.app zO).app yG) xKo (xA ((xD.app zO).app yG) xKp (xA ((xD.app zO).app yG) xKq (xA ((xD.app zO).app yG) xKr (xA ((xD.app zO).app yG) xKs (xA ((xD.app zO).app yG) xKt (xA ((xD.app zO).app yG) xKu (xA ((xD.app zO).app yG) xKv (xA ((xD.app zO).app yG) xKw (xA ((xD.app zO).app yG) xKx (xA ((xD.app zO).app yG) xJ5 (xA ((xD.app zO).app yG) xJ6 (xL ((xD.app zO).app yG) (yB (Nat.le_of_ble_eq_true (by kernel_rfl)) xJ7)))))))))))))
theorem xJ8:GOK [(t295,mQ)]:=xA ((xD.app zO).app yG) xJ9 (xA ((xD.app zO).app yG) xJa (xA ((xD.app zO).app yG) xJb (xL ((xD.app zO).app yG) (yB (Nat.le_of_ble_eq_true (by kernel_rfl)) xJc))))
theorem xFd:GOK [(t153,zA)]:=xA ((xD.app zO).app yG) xFe (xA ((xD.app zO).app yG) xFf (xA ((xD.app zO).app yG) xFg (xA ((xD.app zO).app yG) xFh (xA ((xD.app zO).app yG) xFi (xA ((xD.app zO).app yG) xFj (xA ((xD.app zO).app yG) xFk (xA ((xD.app zO).app yG) xFl (xA ((xD.app zO).app yG) xFm (xA ((xD.app zO).app yG) xFn (xA ((xD.app zO).app yG) xDr (xA ((xD.app zO).app yG) xDs (xA ((xD.app zO).app yG) xDt (xA ((xD.app zO).app yG) xDu (xA ((xD.app zO).app yG) xDv (xL ((xD.app zO).app yG) (yB (Nat.le_of_ble_eq_true (by kernel_rfl)) xDw))))))))))))))))
theorem zE:GOK yZ:=GOK.cons xOe (GOK.cons xFo (GOK.cons xCl (GOK.cons xKn (GOK.cons xJ8 (GOK.cons xFd (GOK.nil))))))
end Go.Abs.T
end
