/- Rows: right types. -/
import Derived.Test.YtaendaokfclnoaaGreatDoorC24
noncomputable section
namespace Go.Abs.Sym
open Go.Abs.T
open Go.Proofs
theorem s6_31_3:sP 6 xPw 3 3=true:=by kernel_rfl
theorem s6_40_3:sP 6 xQ1 3 3=true:=by kernel_rfl
theorem s6_45_3:sP 6 xM8 3 3=true:=by kernel_rfl
theorem s6_37_0:sP 6 xM2 0 2=true:=by kernel_rfl
theorem s6_47_2:sP 6 xJl 2 2=true:=by kernel_rfl
theorem s6_50_4:sP 6 xJo 4 2=true:=by kernel_rfl
theorem s6_56_0:sP 6 xJp 0 2=true:=by kernel_rfl
theorem s6_59_2:sP 6 xMh 2 2=true:=by kernel_rfl
theorem s6_62_4:sP 6 xJr 4 2=true:=by kernel_rfl
theorem s6_66_0:sP 6 xJt 0 2=true:=by kernel_rfl
theorem s5_18_0:sP 5 xZo 0 6=true:=by kernel_rfl
theorem zH3:cP 6 vI 15 5=true:=by kernel_rfl
theorem yHp:rA 3 yC7=true:=by kernel_rfl
theorem s5_28_0:sP 5 xU0 0 3=true:=by kernel_rfl
theorem s5_37_0:sP 5 xPv 0 3=true:=by kernel_rfl
theorem yI7:rA 4 yCp=true:=by kernel_rfl
theorem s6_18_0:sP 6 xU7 0 4=true:=by kernel_rfl
theorem s6_28_0:sP 6 xUh 0 4=true:=by kernel_rfl
theorem zWd:cP 6 xJl 0 4=true:=by kernel_rfl
theorem zWy:cP 6 xDz 4 4=true:=by kernel_rfl
theorem zHc:cP 6 xE0 12 4=true:=by kernel_rfl
theorem yHz:rA 3 yCh=true:=by kernel_rfl
theorem s6_18_4:sP 6 xU7 4 3=true:=by kernel_rfl
theorem s6_28_4:sP 6 xUh 4 3=true:=by kernel_rfl
theorem zV2:cP 5 xPu 0 4=true:=by kernel_rfl
theorem zW9:cP 6 xM8 0 4=true:=by kernel_rfl
theorem yOx:rA 3 yLl=true:=by kernel_rfl
theorem yHq:rA 3 yC8=true:=by kernel_rfl
theorem yPm:rA 6 yMa=true:=by kernel_rfl
theorem s6_37_6:sP 6 xM2 6 1=true:=by kernel_rfl
theorem s6_56_6:sP 6 xJp 6 1=true:=by kernel_rfl
theorem s6_66_6:sP 6 xJt 6 1=true:=by kernel_rfl
theorem zWu:cP 6 xMf 0 2=true:=by kernel_rfl
theorem yPf:rA 5 yM3=true:=by kernel_rfl
theorem yH7:rA 2 yBp=true:=by kernel_rfl
theorem s6_35_6:sP 6 xQ0 6 1=true:=by kernel_rfl
theorem yOy:rA 4 yLm=true:=by kernel_rfl
theorem yP1:rA 4 yLp=true:=by kernel_rfl
theorem zUs:cP 5 xTy 0 2=true:=by kernel_rfl
theorem zW2:cP 6 xQ2 0 2=true:=by kernel_rfl
theorem zUi:cP 5 xZm 0 1=true:=by kernel_rfl
theorem yJ8:xR 5 xPq=true:=by kernel_rfl
theorem zVg:cP 6 xU8 0 1=true:=by kernel_rfl
theorem zVq:cP 6 xUi 0 1=true:=by kernel_rfl
theorem yKl:xR 6 xMc=true:=by kernel_rfl
theorem yKv:xR 6 vI=true:=by kernel_rfl
theorem yJ6:xR 5 xTz=true:=by kernel_rfl
theorem yK2:xR 6 xPz=true:=by kernel_rfl
theorem yKk:xR 6 xMb=true:=by kernel_rfl
theorem yJ1:xR 5 xZs=true:=by kernel_rfl
theorem yJn:xR 6 xU8=true:=by kernel_rfl
theorem yJx:xR 6 xUi=true:=by kernel_rfl
end Go.Abs.Sym
end
