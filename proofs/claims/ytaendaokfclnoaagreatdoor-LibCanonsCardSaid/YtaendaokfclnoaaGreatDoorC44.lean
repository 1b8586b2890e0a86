/- Rows: right types. -/
import Derived.Test.YtaendaokfclnoaaGreatDoorC24
noncomputable section
namespace Go.Abs.Sym
open Go.Abs.T
open Go.Proofs
theorem s6_34_0:sP 6 xPz 0 3=true:=by kernel_rfl
theorem s6_43_0:sP 6 xM6 0 3=true:=by kernel_rfl
theorem s6_52_0:sP 6 xMb 0 3=true:=by kernel_rfl
theorem s6_38_4:sP 6 xM3 4 2=true:=by kernel_rfl
theorem s6_49_0:sP 6 xJn 0 2=true:=by kernel_rfl
theorem s6_54_2:sP 6 xMd 2 2=true:=by kernel_rfl
theorem s6_57_4:sP 6 xMf 4 2=true:=by kernel_rfl
theorem s6_61_0:sP 6 xJq 0 2=true:=by kernel_rfl
theorem s6_64_2:sP 6 xE0 2 2=true:=by kernel_rfl
theorem s5_13_0:sP 5 xZj 0 6=true:=by kernel_rfl
theorem s5_23_0:sP 5 xZt 0 6=true:=by kernel_rfl
theorem zH8:cP 6 vI 40 5=true:=by kernel_rfl
theorem s5_30_2:sP 5 xPr 2 2=true:=by kernel_rfl
theorem s5_36_4:sP 5 xM0 4 2=true:=by kernel_rfl
theorem s5_32_3:sP 5 xPs 3 3=true:=by kernel_rfl
theorem yI2:rA 4 yCk=true:=by kernel_rfl
theorem s6_13_0:sP 6 xU2 0 4=true:=by kernel_rfl
theorem s6_20_0:sP 6 xU9 0 4=true:=by kernel_rfl
theorem s6_30_0:sP 6 xUj 0 4=true:=by kernel_rfl
theorem zWs:cP 6 xJp 0 4=true:=by kernel_rfl
theorem zX7:cP 6 xE0 4 4=true:=by kernel_rfl
theorem yHv:rA 3 yCd=true:=by kernel_rfl
theorem s6_15_4:sP 6 xU4 4 3=true:=by kernel_rfl
theorem s6_25_4:sP 6 xUe 4 3=true:=by kernel_rfl
theorem zUz:cP 5 xPs 4 4=true:=by kernel_rfl
theorem zW6:cP 6 xM6 4 4=true:=by kernel_rfl
theorem zWo:cP 6 xMb 4 4=true:=by kernel_rfl
theorem yHk:rA 3 yC2=true:=by kernel_rfl
theorem yPj:rA 6 yM7=true:=by kernel_rfl
theorem yId:rA 6 yCv=true:=by kernel_rfl
theorem s6_53_6:sP 6 xMc 6 1=true:=by kernel_rfl
theorem s6_63_6:sP 6 vI 6 1=true:=by kernel_rfl
theorem zW0:cP 6 xM4 0 2=true:=by kernel_rfl
theorem yPb:rA 5 yLz=true:=by kernel_rfl
theorem yOl:rA 2 yL9=true:=by kernel_rfl
theorem yHd:rA 2 yBv=true:=by kernel_rfl
theorem s6_46_6:sP 6 xM9 6 1=true:=by kernel_rfl
theorem zU8:cP 3 xZf 0 2=true:=by kernel_rfl
theorem zVv:cP 6 xPz 0 2=true:=by kernel_rfl
theorem yOt:rA 3 yLh=true:=by kernel_rfl
theorem zUg:cP 5 xZk 0 1=true:=by kernel_rfl
theorem zUn:cP 5 xZr 0 1=true:=by kernel_rfl
theorem zVb:cP 6 xU3 0 1=true:=by kernel_rfl
theorem zVl:cP 6 xUd 0 1=true:=by kernel_rfl
theorem yK7:xR 6 xM4=true:=by kernel_rfl
theorem yKq:xR 6 xMg=true:=by kernel_rfl
theorem yIm:xR 3 xZf=true:=by kernel_rfl
theorem yJa:xR 5 xU1=true:=by kernel_rfl
theorem yK8:xR 6 xQ1=true:=by kernel_rfl
theorem yIr:xR 5 xZi=true:=by kernel_rfl
theorem yJ0:xR 5 xZr=true:=by kernel_rfl
theorem yJm:xR 6 xU7=true:=by kernel_rfl
theorem yJw:xR 6 xUh=true:=by kernel_rfl
end Go.Abs.Sym
end
