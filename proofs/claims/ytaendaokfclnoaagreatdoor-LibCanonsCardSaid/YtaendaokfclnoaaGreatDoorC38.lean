/- Rows: right types. -/
import Derived.Test.YtaendaokfclnoaaGreatDoorC24
noncomputable section
namespace Go.Abs.Sym
open Go.Abs.T
open Go.Proofs
theorem s6_31_0:sP 6 xPw 0 3=true:=by kernel_rfl
theorem s6_40_0:sP 6 xQ1 0 3=true:=by kernel_rfl
theorem s6_45_0:sP 6 xM8 0 3=true:=by kernel_rfl
theorem s6_36_4:sP 6 xM1 4 2=true:=by kernel_rfl
theorem s6_47_0:sP 6 xJl 0 2=true:=by kernel_rfl
theorem s6_50_2:sP 6 xJo 2 2=true:=by kernel_rfl
theorem s6_55_4:sP 6 xMe 4 2=true:=by kernel_rfl
theorem s6_59_0:sP 6 xMh 0 2=true:=by kernel_rfl
theorem s6_62_2:sP 6 xJr 2 2=true:=by kernel_rfl
theorem s6_65_4:sP 6 xJs 4 2=true:=by kernel_rfl
theorem s5_17_0:sP 5 xZn 0 6=true:=by kernel_rfl
theorem zH2:cP 6 vI 10 5=true:=by kernel_rfl
theorem yHo:rA 3 yC6=true:=by kernel_rfl
theorem s5_27_3:sP 5 xTz 3 3=true:=by kernel_rfl
theorem s5_34_3:sP 5 xPu 3 3=true:=by kernel_rfl
theorem yI6:rA 4 yCo=true:=by kernel_rfl
theorem s6_17_0:sP 6 xU6 0 4=true:=by kernel_rfl
theorem s6_27_0:sP 6 xUg 0 4=true:=by kernel_rfl
theorem zV7:cP 5 xM0 4 4=true:=by kernel_rfl
theorem zWx:cP 6 xDz 0 4=true:=by kernel_rfl
theorem zX8:cP 6 xE0 8 4=true:=by kernel_rfl
theorem yHw:rA 3 yCe=true:=by kernel_rfl
theorem s6_17_4:sP 6 xU6 4 3=true:=by kernel_rfl
theorem s6_27_4:sP 6 xUg 4 3=true:=by kernel_rfl
theorem zV1:cP 5 xPt 4 4=true:=by kernel_rfl
theorem zW8:cP 6 xM7 4 4=true:=by kernel_rfl
theorem yOw:rA 3 yLk=true:=by kernel_rfl
theorem yHm:rA 3 yC4=true:=by kernel_rfl
theorem yPl:rA 6 yM9=true:=by kernel_rfl
theorem s6_36_6:sP 6 xM1 6 1=true:=by kernel_rfl
theorem s6_55_6:sP 6 xMe 6 1=true:=by kernel_rfl
theorem s6_65_6:sP 6 xJs 6 1=true:=by kernel_rfl
theorem zWr:cP 6 xMe 0 2=true:=by kernel_rfl
theorem yPe:rA 5 yM2=true:=by kernel_rfl
theorem yH6:rA 2 yBo=true:=by kernel_rfl
theorem s6_34_6:sP 6 xPz 6 1=true:=by kernel_rfl
theorem s6_52_6:sP 6 xMb 6 1=true:=by kernel_rfl
theorem zUa:cP 4 xTx 0 2=true:=by kernel_rfl
theorem zW1:cP 6 xQ1 0 2=true:=by kernel_rfl
theorem yOe:rA 2 yL2=true:=by kernel_rfl
theorem yOf:rA 2 yL3=true:=by kernel_rfl
theorem zUj:cP 5 xZn 0 1=true:=by kernel_rfl
theorem yJ9:xR 5 xPr=true:=by kernel_rfl
theorem zVh:cP 6 xU9 0 1=true:=by kernel_rfl
theorem zVr:cP 6 xUj 0 1=true:=by kernel_rfl
theorem yKm:xR 6 xMd=true:=by kernel_rfl
theorem yKw:xR 6 xE0=true:=by kernel_rfl
theorem yJc:xR 5 xPt=true:=by kernel_rfl
theorem yKa:xR 6 xM5=true:=by kernel_rfl
theorem yIt:xR 5 xZk=true:=by kernel_rfl
theorem yJ3:xR 5 xZu=true:=by kernel_rfl
theorem yJp:xR 6 xUa=true:=by kernel_rfl
end Go.Abs.Sym
end
