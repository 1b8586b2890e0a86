/- Rows: right types. -/
import Derived.Test.YtaendaokfclnoaaGreatDoorC24
noncomputable section
namespace Go.Abs.Sym
open Go.Abs.T
open Go.Proofs
theorem s6_35_3:sP 6 xQ0 3 3=true:=by kernel_rfl
theorem s6_44_3:sP 6 xM7 3 3=true:=by kernel_rfl
theorem s6_36_2:sP 6 xM1 2 2=true:=by kernel_rfl
theorem s6_39_4:sP 6 xM4 4 2=true:=by kernel_rfl
theorem s6_50_0:sP 6 xJo 0 2=true:=by kernel_rfl
theorem s6_55_2:sP 6 xMe 2 2=true:=by kernel_rfl
theorem s6_58_4:sP 6 xMg 4 2=true:=by kernel_rfl
theorem s6_62_0:sP 6 xJr 0 2=true:=by kernel_rfl
theorem s6_65_2:sP 6 xJs 2 2=true:=by kernel_rfl
theorem s5_16_0:sP 5 xZm 0 6=true:=by kernel_rfl
theorem zX4:cP 6 vI 0 5=true:=by kernel_rfl
theorem zX5:cP 6 vI 5 5=true:=by kernel_rfl
theorem yHn:rA 3 yC5=true:=by kernel_rfl
theorem s5_27_0:sP 5 xTz 0 3=true:=by kernel_rfl
theorem s5_34_0:sP 5 xPu 0 3=true:=by kernel_rfl
theorem yI5:rA 4 yCn=true:=by kernel_rfl
theorem s6_16_0:sP 6 xU5 0 4=true:=by kernel_rfl
theorem s6_23_0:sP 6 xUc 0 4=true:=by kernel_rfl
theorem s3_31_0:sP 3 xZg 0 4=true:=by kernel_rfl
theorem zWh:cP 6 xJn 0 4=true:=by kernel_rfl
theorem zX1:cP 6 xJq 4 4=true:=by kernel_rfl
theorem zXc:cP 6 xJt 4 4=true:=by kernel_rfl
theorem s6_23_4:sP 6 xUc 4 3=true:=by kernel_rfl
theorem zUc:cP 4 xPp 4 4=true:=by kernel_rfl
theorem zV8:cP 5 xPv 0 4=true:=by kernel_rfl
theorem zWb:cP 6 xM9 0 4=true:=by kernel_rfl
theorem yHf:rA 3 yBx=true:=by kernel_rfl
theorem yHs:rA 3 yCa=true:=by kernel_rfl
theorem yPo:rA 6 yMc=true:=by kernel_rfl
theorem s6_39_6:sP 6 xM4 6 1=true:=by kernel_rfl
theorem s6_58_6:sP 6 xMg 6 1=true:=by kernel_rfl
theorem s4_22_3:sP 4 xPp 3 2=true:=by kernel_rfl
theorem zWw:cP 6 xMh 0 2=true:=by kernel_rfl
theorem yPh:rA 5 yM5=true:=by kernel_rfl
theorem yH9:rA 2 yBr=true:=by kernel_rfl
theorem s6_41_6:sP 6 xQ2 6 1=true:=by kernel_rfl
theorem yP0:rA 4 yLo=true:=by kernel_rfl
theorem yP4:rA 4 yLs=true:=by kernel_rfl
theorem zUx:cP 5 xU1 0 2=true:=by kernel_rfl
theorem yOp:rA 3 yLd=true:=by kernel_rfl
theorem yOi:rA 2 yL6=true:=by kernel_rfl
theorem zUr:cP 5 xZv 0 1=true:=by kernel_rfl
theorem zVf:cP 6 xU7 0 1=true:=by kernel_rfl
theorem zVp:cP 6 xUh 0 1=true:=by kernel_rfl
theorem yKi:xR 6 xJo=true:=by kernel_rfl
theorem yKu:xR 6 xJr=true:=by kernel_rfl
theorem yJ5:xR 5 xTy=true:=by kernel_rfl
theorem yK1:xR 6 xPy=true:=by kernel_rfl
theorem yKj:xR 6 xMa=true:=by kernel_rfl
theorem yIz:xR 5 xZq=true:=by kernel_rfl
theorem yJl:xR 6 xU6=true:=by kernel_rfl
theorem yJv:xR 6 xUg=true:=by kernel_rfl
end Go.Abs.Sym
end
