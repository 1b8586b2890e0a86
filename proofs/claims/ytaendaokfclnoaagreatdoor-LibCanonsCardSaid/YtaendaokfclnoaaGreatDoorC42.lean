/- Rows: right types. -/
import Derived.Test.YtaendaokfclnoaaGreatDoorC24
noncomputable section
namespace Go.Abs.Sym
open Go.Abs.T
open Go.Proofs
theorem s6_33_0:sP 6 xPy 0 3=true:=by kernel_rfl
theorem s6_42_0:sP 6 xM5 0 3=true:=by kernel_rfl
theorem s6_51_0:sP 6 xMa 0 3=true:=by kernel_rfl
theorem s6_38_0:sP 6 xM3 0 2=true:=by kernel_rfl
theorem s6_48_2:sP 6 xJm 2 2=true:=by kernel_rfl
theorem s6_53_4:sP 6 xMc 4 2=true:=by kernel_rfl
theorem s6_57_0:sP 6 xMf 0 2=true:=by kernel_rfl
theorem s6_60_2:sP 6 xDz 2 2=true:=by kernel_rfl
theorem s6_63_4:sP 6 vI 4 2=true:=by kernel_rfl
theorem s5_11_0:sP 5 xZh 0 6=true:=by kernel_rfl
theorem s5_21_0:sP 5 xZr 0 6=true:=by kernel_rfl
theorem zH6:cP 6 vI 30 5=true:=by kernel_rfl
theorem s5_29_4:sP 5 xPq 4 2=true:=by kernel_rfl
theorem s5_36_0:sP 5 xM0 0 2=true:=by kernel_rfl
theorem s5_31_3:sP 5 xU1 3 3=true:=by kernel_rfl
theorem yI0:rA 4 yCi=true:=by kernel_rfl
theorem yI9:rA 4 yCr=true:=by kernel_rfl
theorem s6_25_0:sP 6 xUe 0 4=true:=by kernel_rfl
theorem zV5:cP 5 xLz 4 4=true:=by kernel_rfl
theorem zWj:cP 6 xJo 0 4=true:=by kernel_rfl
theorem zX3:cP 6 xJr 4 4=true:=by kernel_rfl
theorem s4_22_0:sP 4 xPp 0 3=true:=by kernel_rfl
theorem s6_20_4:sP 6 xU9 4 3=true:=by kernel_rfl
theorem s6_30_4:sP 6 xUj 4 3=true:=by kernel_rfl
theorem zW3:cP 6 xM5 0 4=true:=by kernel_rfl
theorem zWl:cP 6 xMa 0 4=true:=by kernel_rfl
theorem yHh:rA 3 yBz=true:=by kernel_rfl
theorem yHx:rA 3 yCf=true:=by kernel_rfl
theorem yPq:rA 6 yMe=true:=by kernel_rfl
theorem s6_48_6:sP 6 xJm 6 1=true:=by kernel_rfl
theorem s6_60_6:sP 6 xDz 6 1=true:=by kernel_rfl
theorem zUv:cP 5 xPq 0 2=true:=by kernel_rfl
theorem zVx:cP 6 xM1 0 2=true:=by kernel_rfl
theorem yP8:rA 5 yLw=true:=by kernel_rfl
theorem yIb:rA 5 yCt=true:=by kernel_rfl
theorem s6_31_6:sP 6 xPw 6 1=true:=by kernel_rfl
theorem s6_44_6:sP 6 xM7 6 1=true:=by kernel_rfl
theorem yP6:rA 4 yLu=true:=by kernel_rfl
theorem zVu:cP 6 xPy 0 2=true:=by kernel_rfl
theorem yOs:rA 3 yLg=true:=by kernel_rfl
theorem zUf:cP 5 xZj 0 1=true:=by kernel_rfl
theorem zUm:cP 5 xZq 0 1=true:=by kernel_rfl
theorem zVa:cP 6 xU2 0 1=true:=by kernel_rfl
theorem zVk:cP 6 xUc 0 1=true:=by kernel_rfl
theorem yK6:xR 6 xM3=true:=by kernel_rfl
theorem yKp:xR 6 xMf=true:=by kernel_rfl
theorem yIl:xR 3 xZe=true:=by kernel_rfl
theorem yJ7:xR 5 xU0=true:=by kernel_rfl
theorem yK3:xR 6 xQ0=true:=by kernel_rfl
theorem yIq:xR 5 xZh=true:=by kernel_rfl
theorem yIy:xR 5 xZp=true:=by kernel_rfl
theorem yJk:xR 6 xU5=true:=by kernel_rfl
theorem yJu:xR 6 xUf=true:=by kernel_rfl
end Go.Abs.Sym
end
