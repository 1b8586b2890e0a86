/- Rows: right types. -/
import Derived.Test.YtaendaokfclnoaaGreatDoorC24
noncomputable section
namespace Go.Abs.Sym
open Go.Abs.T
open Go.Proofs
theorem s6_33_3:sP 6 xPy 3 3=true:=by kernel_rfl
theorem s6_42_3:sP 6 xM5 3 3=true:=by kernel_rfl
theorem s6_51_3:sP 6 xMa 3 3=true:=by kernel_rfl
theorem s6_38_2:sP 6 xM3 2 2=true:=by kernel_rfl
theorem s6_48_4:sP 6 xJm 4 2=true:=by kernel_rfl
theorem s6_54_0:sP 6 xMd 0 2=true:=by kernel_rfl
theorem s6_57_2:sP 6 xMf 2 2=true:=by kernel_rfl
theorem s6_60_4:sP 6 xDz 4 2=true:=by kernel_rfl
theorem s6_64_0:sP 6 xE0 0 2=true:=by kernel_rfl
theorem s5_12_0:sP 5 xZi 0 6=true:=by kernel_rfl
theorem s5_22_0:sP 5 xZs 0 6=true:=by kernel_rfl
theorem zH7:cP 6 vI 35 5=true:=by kernel_rfl
theorem s5_30_0:sP 5 xPr 0 2=true:=by kernel_rfl
theorem s5_36_2:sP 5 xM0 2 2=true:=by kernel_rfl
theorem s5_32_0:sP 5 xPs 0 3=true:=by kernel_rfl
theorem yI1:rA 4 yCj=true:=by kernel_rfl
theorem yIa:rA 4 yCs=true:=by kernel_rfl
theorem s6_26_0:sP 6 xUf 0 4=true:=by kernel_rfl
theorem zV6:cP 5 xM0 0 4=true:=by kernel_rfl
theorem zWk:cP 6 xJo 4 4=true:=by kernel_rfl
theorem zX6:cP 6 xE0 0 4=true:=by kernel_rfl
theorem yHu:rA 3 yCc=true:=by kernel_rfl
theorem s6_14_4:sP 6 xU3 4 3=true:=by kernel_rfl
theorem s6_24_4:sP 6 xUd 4 3=true:=by kernel_rfl
theorem zUy:cP 5 xPs 0 4=true:=by kernel_rfl
theorem zW5:cP 6 xM6 0 4=true:=by kernel_rfl
theorem zWn:cP 6 xMb 0 4=true:=by kernel_rfl
theorem yHj:rA 3 yC1=true:=by kernel_rfl
theorem yPi:rA 6 yM6=true:=by kernel_rfl
theorem yIc:rA 6 yCu=true:=by kernel_rfl
theorem s6_50_6:sP 6 xJo 6 1=true:=by kernel_rfl
theorem s6_62_6:sP 6 xJr 6 1=true:=by kernel_rfl
theorem zVy:cP 6 xM2 0 2=true:=by kernel_rfl
theorem yP9:rA 5 yLx=true:=by kernel_rfl
theorem yOj:rA 2 yL7=true:=by kernel_rfl
theorem yHa:rA 2 yBs=true:=by kernel_rfl
theorem s6_42_6:sP 6 xM5 6 1=true:=by kernel_rfl
theorem yP3:rA 4 yLr=true:=by kernel_rfl
theorem zUu:cP 5 xU0 0 2=true:=by kernel_rfl
theorem yOo:rA 3 yLc=true:=by kernel_rfl
theorem yOh:rA 2 yL5=true:=by kernel_rfl
theorem zUq:cP 5 xZu 0 1=true:=by kernel_rfl
theorem zVe:cP 6 xU6 0 1=true:=by kernel_rfl
theorem zVo:cP 6 xUg 0 1=true:=by kernel_rfl
theorem yKh:xR 6 xJn=true:=by kernel_rfl
theorem yKt:xR 6 xJq=true:=by kernel_rfl
theorem yIp:xR 4 xPp=true:=by kernel_rfl
theorem yK0:xR 6 xPx=true:=by kernel_rfl
theorem yKe:xR 6 xM9=true:=by kernel_rfl
theorem yIx:xR 5 xZo=true:=by kernel_rfl
theorem yJj:xR 6 xU4=true:=by kernel_rfl
theorem yJt:xR 6 xUe=true:=by kernel_rfl
end Go.Abs.Sym
end
