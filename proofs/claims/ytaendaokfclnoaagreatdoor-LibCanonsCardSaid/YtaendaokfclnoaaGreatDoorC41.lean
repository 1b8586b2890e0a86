/- Rows: right types. -/
import Derived.Test.YtaendaokfclnoaaGreatDoorC24
noncomputable section
namespace Go.Abs.Sym
open Go.Abs.T
open Go.Proofs
theorem s6_32_3:sP 6 xPx 3 3=true:=by kernel_rfl
theorem s6_41_3:sP 6 xQ2 3 3=true:=by kernel_rfl
theorem s6_46_3:sP 6 xM9 3 3=true:=by kernel_rfl
theorem s6_37_4:sP 6 xM2 4 2=true:=by kernel_rfl
theorem s6_48_0:sP 6 xJm 0 2=true:=by kernel_rfl
theorem s6_53_2:sP 6 xMc 2 2=true:=by kernel_rfl
theorem s6_56_4:sP 6 xJp 4 2=true:=by kernel_rfl
theorem s6_60_0:sP 6 xDz 0 2=true:=by kernel_rfl
theorem s6_63_2:sP 6 vI 2 2=true:=by kernel_rfl
theorem s6_66_4:sP 6 xJt 4 2=true:=by kernel_rfl
theorem s5_20_0:sP 5 xZq 0 6=true:=by kernel_rfl
theorem zH5:cP 6 vI 25 5=true:=by kernel_rfl
theorem s5_29_2:sP 5 xPq 2 2=true:=by kernel_rfl
theorem s5_35_4:sP 5 xLz 4 2=true:=by kernel_rfl
theorem s5_31_0:sP 5 xU1 0 3=true:=by kernel_rfl
theorem yP7:rA 4 yLv=true:=by kernel_rfl
theorem yI8:rA 4 yCq=true:=by kernel_rfl
theorem s6_24_0:sP 6 xUd 0 4=true:=by kernel_rfl
theorem zV4:cP 5 xLz 0 4=true:=by kernel_rfl
theorem zWi:cP 6 xJn 4 4=true:=by kernel_rfl
theorem zX2:cP 6 xJr 0 4=true:=by kernel_rfl
theorem s4_21_0:sP 4 xTx 0 3=true:=by kernel_rfl
theorem s6_19_4:sP 6 xU8 4 3=true:=by kernel_rfl
theorem s6_29_4:sP 6 xUi 4 3=true:=by kernel_rfl
theorem zV9:cP 5 xPv 4 4=true:=by kernel_rfl
theorem zWc:cP 6 xM9 4 4=true:=by kernel_rfl
theorem yHg:rA 3 yBy=true:=by kernel_rfl
theorem yHt:rA 3 yCb=true:=by kernel_rfl
theorem yPp:rA 6 yMd=true:=by kernel_rfl
theorem s6_47_6:sP 6 xJl 6 1=true:=by kernel_rfl
theorem s6_59_6:sP 6 xMh 6 1=true:=by kernel_rfl
theorem yHb:rA 2 yBt=true:=by kernel_rfl
theorem zWp:cP 6 xMc 0 2=true:=by kernel_rfl
theorem yPc:rA 5 yM0=true:=by kernel_rfl
theorem yOm:rA 2 yLa=true:=by kernel_rfl
theorem s6_32_6:sP 6 xPx 6 1=true:=by kernel_rfl
theorem s6_45_6:sP 6 xM8 6 1=true:=by kernel_rfl
theorem zU7:cP 3 xZe 0 2=true:=by kernel_rfl
theorem zVs:cP 6 xPw 0 2=true:=by kernel_rfl
theorem yOq:rA 3 yLe=true:=by kernel_rfl
theorem zUd:cP 5 xZh 0 1=true:=by kernel_rfl
theorem zUk:cP 5 xZo 0 1=true:=by kernel_rfl
theorem yJe:xR 5 xLz=true:=by kernel_rfl
theorem zVi:cP 6 xUa 0 1=true:=by kernel_rfl
theorem yK4:xR 6 xM1=true:=by kernel_rfl
theorem yKn:xR 6 xMe=true:=by kernel_rfl
theorem yKx:xR 6 xJs=true:=by kernel_rfl
theorem yJd:xR 5 xPu=true:=by kernel_rfl
theorem yKb:xR 6 xM6=true:=by kernel_rfl
theorem yIu:xR 5 xZl=true:=by kernel_rfl
theorem yJ4:xR 5 xZv=true:=by kernel_rfl
theorem yJq:xR 6 xUb=true:=by kernel_rfl
end Go.Abs.Sym
end
