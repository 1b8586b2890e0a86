/- The geometry of pads, at any place: the program's rows. -/
import Derived.Test.YtaendaokfclnoaaGreatDoorC27
import Derived.Test.YtaendaokfclnoaaGreatDoorC28
noncomputable section
namespace Go.Abs.T
open Go.Abs.Sym
theorem xDa:GOK [(t109,vV)]:=xL GOK.nil (by kernel_rfl:xB ([]:Grp) t109 vV=true)
theorem jS:GOK mU:=GOK.cons xDa (GOK.nil)
theorem xDb:GOK [(t275,pS)]:=xA (jS.app (bP.app qA)) (by kernel_rfl:xB (mU++(xAj++wL)) t275 ((pS.drop 0).take 12)=true) (xL (jS.app (bP.app qA)) (by kernel_rfl:xB (mU++(xAj++wL)) t275 (pS.drop 12)=true))
theorem xDc:GOK [(t276,pT)]:=xA (jS.app (bP.app qA)) (by kernel_rfl:xB (mU++(xAj++wL)) t276 ((pT.drop 0).take 12)=true) (xL (jS.app (bP.app qA)) (by kernel_rfl:xB (mU++(xAj++wL)) t276 (pT.drop 12)=true))
theorem xDd:GOK [(t121,vW)]:=xL (jS.app (bP.app qA)) (by kernel_rfl:xB (mU++(xAj++wL)) t121 vW=true)
theorem xEm:GOK [(t81,dE)]:=xL (jS.app (bP.app qA)) (by kernel_rfl:xB (mU++(xAj++wL)) t81 dE=true)
theorem xCa:GOK [(t80,jE)]:=xA (jS.app (bP.app qA)) (by kernel_rfl:xB (mU++(xAj++wL)) t80 ((jE.drop 0).take 12)=true) (xA (jS.app (bP.app qA)) (by kernel_rfl:xB (mU++(xAj++wL)) t80 ((jE.drop 12).take 12)=true) (xA (jS.app (bP.app qA)) (by kernel_rfl:xB (mU++(xAj++wL)) t80 ((jE.drop 24).take 12)=true) (xL (jS.app (bP.app qA)) (by kernel_rfl:xB (mU++(xAj++wL)) t80 (jE.drop 36)=true))))
theorem vU:GOK rU:=GOK.cons xDb (GOK.cons xDc (GOK.cons xDd (GOK.cons xEm (GOK.cons xCa (GOK.nil)))))
theorem xBn:GOK [(t83,wV)]:=xA (jS.app vU) (by kernel_rfl:xB (mU++rU) t83 ((wV.drop 0).take 12)=true) (xA (jS.app vU) (by kernel_rfl:xB (mU++rU) t83 ((wV.drop 12).take 12)=true) (xA (jS.app vU) (by kernel_rfl:xB (mU++rU) t83 ((wV.drop 24).take 12)=true) (xL (jS.app vU) (by kernel_rfl:xB (mU++rU) t83 (wV.drop 36)=true))))
theorem xB8:GOK xE3:=GOK.cons xBn (GOK.nil)
end Go.Abs.T
end
