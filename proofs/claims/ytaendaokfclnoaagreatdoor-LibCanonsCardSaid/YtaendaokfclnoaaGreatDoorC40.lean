/- Rows: right types. -/
import Derived.Test.YtaendaokfclnoaaGreatDoorC24
noncomputable section
namespace Go.Abs.Sym
open Go.Abs.T
open Go.Proofs
theorem s6_32_0:sP 6 xPx 0 3=true:=by kernel_rfl
theorem s6_41_0:sP 6 xQ2 0 3=true:=by kernel_rfl
theorem s6_46_0:sP 6 xM9 0 3=true:=by kernel_rfl
theorem s6_37_2:sP 6 xM2 2 2=true:=by kernel_rfl
theorem s6_47_4:sP 6 xJl 4 2=true:=by kernel_rfl
theorem s6_53_0:sP 6 xMc 0 2=true:=by kernel_rfl
theorem s6_56_2:sP 6 xJp 2 2=true:=by kernel_rfl
theorem s6_59_4:sP 6 xMh 4 2=true:=by kernel_rfl
theorem s6_63_0:sP 6 vI 0 2=true:=by kernel_rfl
theorem s6_66_2:sP 6 xJt 2 2=true:=by kernel_rfl
theorem s5_19_0:sP 5 xZp 0 6=true:=by kernel_rfl
theorem zH4:cP 6 vI 20 5=true:=by kernel_rfl
theorem s5_29_0:sP 5 xPq 0 2=true:=by kernel_rfl
theorem s5_35_2:sP 5 xLz 2 2=true:=by kernel_rfl
theorem s5_28_3:sP 5 xU0 3 3=true:=by kernel_rfl
theorem s5_37_3:sP 5 xPv 3 3=true:=by kernel_rfl
theorem s6_19_0:sP 6 xU8 0 4=true:=by kernel_rfl
theorem s6_29_0:sP 6 xUi 0 4=true:=by kernel_rfl
theorem zWe:cP 6 xJl 4 4=true:=by kernel_rfl
theorem zWz:cP 6 xDz 8 4=true:=by kernel_rfl
theorem zX9:cP 6 xJs 0 4=true:=by kernel_rfl
theorem s6_13_4:sP 6 xU2 4 3=true:=by kernel_rfl
theorem s6_16_4:sP 6 xU5 4 3=true:=by kernel_rfl
theorem s6_26_4:sP 6 xUf 4 3=true:=by kernel_rfl
theorem zV0:cP 5 xPt 0 4=true:=by kernel_rfl
theorem zW7:cP 6 xM7 0 4=true:=by kernel_rfl
theorem yOv:rA 3 yLj=true:=by kernel_rfl
theorem yHl:rA 3 yC3=true:=by kernel_rfl
theorem yPk:rA 6 yM8=true:=by kernel_rfl
theorem yIe:rA 6 yCw=true:=by kernel_rfl
theorem s6_54_6:sP 6 xMd 6 1=true:=by kernel_rfl
theorem s6_64_6:sP 6 xE0 6 1=true:=by kernel_rfl
theorem zWq:cP 6 xMd 0 2=true:=by kernel_rfl
theorem yPd:rA 5 yM1=true:=by kernel_rfl
theorem yOn:rA 2 yLb=true:=by kernel_rfl
theorem s6_33_6:sP 6 xPy 6 1=true:=by kernel_rfl
theorem s6_51_6:sP 6 xMa 6 1=true:=by kernel_rfl
theorem zU9:cP 3 xZg 0 2=true:=by kernel_rfl
theorem zVw:cP 6 xQ0 0 2=true:=by kernel_rfl
theorem yOu:rA 3 yLi=true:=by kernel_rfl
theorem zUh:cP 5 xZl 0 1=true:=by kernel_rfl
theorem zUo:cP 5 xZs 0 1=true:=by kernel_rfl
theorem zVc:cP 6 xU4 0 1=true:=by kernel_rfl
theorem zVm:cP 6 xUe 0 1=true:=by kernel_rfl
theorem yKf:xR 6 xJl=true:=by kernel_rfl
theorem yKr:xR 6 xMh=true:=by kernel_rfl
theorem yIn:xR 3 xZg=true:=by kernel_rfl
theorem yJb:xR 5 xPs=true:=by kernel_rfl
theorem yK9:xR 6 xQ2=true:=by kernel_rfl
theorem yIs:xR 5 xZj=true:=by kernel_rfl
theorem yJ2:xR 5 xZt=true:=by kernel_rfl
theorem yJo:xR 6 xU9=true:=by kernel_rfl
theorem yJy:xR 6 xUj=true:=by kernel_rfl
end Go.Abs.Sym
end
