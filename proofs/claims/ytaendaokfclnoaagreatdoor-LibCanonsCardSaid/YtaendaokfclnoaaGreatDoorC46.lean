/- Rows: right types. -/
import Derived.Test.YtaendaokfclnoaaGreatDoorC24
noncomputable section
namespace Go.Abs.Sym
open Go.Abs.T
open Go.Proofs
theorem s6_35_0:sP 6 xQ0 0 3=true:=by kernel_rfl
theorem s6_44_0:sP 6 xM7 0 3=true:=by kernel_rfl
theorem s6_36_0:sP 6 xM1 0 2=true:=by kernel_rfl
theorem s6_39_2:sP 6 xM4 2 2=true:=by kernel_rfl
theorem s6_49_4:sP 6 xJn 4 2=true:=by kernel_rfl
theorem s6_55_0:sP 6 xMe 0 2=true:=by kernel_rfl
theorem s6_58_2:sP 6 xMg 2 2=true:=by kernel_rfl
theorem s6_61_4:sP 6 xJq 4 2=true:=by kernel_rfl
theorem s6_65_0:sP 6 xJs 0 2=true:=by kernel_rfl
theorem s5_15_0:sP 5 xZl 0 6=true:=by kernel_rfl
theorem s5_25_0:sP 5 xZv 0 6=true:=by kernel_rfl
theorem zHa:cP 6 vI 50 5=true:=by kernel_rfl
theorem s5_35_0:sP 5 xLz 0 2=true:=by kernel_rfl
theorem s5_26_3:sP 5 xTy 3 3=true:=by kernel_rfl
theorem s5_33_3:sP 5 xPt 3 3=true:=by kernel_rfl
theorem yI4:rA 4 yCm=true:=by kernel_rfl
theorem s6_15_0:sP 6 xU4 0 4=true:=by kernel_rfl
theorem s6_22_0:sP 6 xUb 0 4=true:=by kernel_rfl
theorem s3_30_0:sP 3 xZf 0 4=true:=by kernel_rfl
theorem zWg:cP 6 xJm 4 4=true:=by kernel_rfl
theorem zX0:cP 6 xJq 0 4=true:=by kernel_rfl
theorem zXb:cP 6 xJt 0 4=true:=by kernel_rfl
theorem s6_22_4:sP 6 xUb 4 3=true:=by kernel_rfl
theorem zUb:cP 4 xPp 0 4=true:=by kernel_rfl
theorem zV3:cP 5 xPu 4 4=true:=by kernel_rfl
theorem zWa:cP 6 xM8 4 4=true:=by kernel_rfl
theorem yHe:rA 3 yBw=true:=by kernel_rfl
theorem yHr:rA 3 yC9=true:=by kernel_rfl
theorem yPn:rA 6 yMb=true:=by kernel_rfl
theorem s6_38_6:sP 6 xM3 6 1=true:=by kernel_rfl
theorem s6_57_6:sP 6 xMf 6 1=true:=by kernel_rfl
theorem s4_21_3:sP 4 xTx 3 2=true:=by kernel_rfl
theorem zWv:cP 6 xMg 0 2=true:=by kernel_rfl
theorem yPg:rA 5 yM4=true:=by kernel_rfl
theorem yH8:rA 2 yBq=true:=by kernel_rfl
theorem s6_40_6:sP 6 xQ1 6 1=true:=by kernel_rfl
theorem yOz:rA 4 yLn=true:=by kernel_rfl
theorem yP2:rA 4 yLq=true:=by kernel_rfl
theorem zUt:cP 5 xTz 0 2=true:=by kernel_rfl
theorem zHb:cP 6 vI 55 1=true:=by kernel_rfl
theorem yOg:rA 2 yL4=true:=by kernel_rfl
theorem zUp:cP 5 xZt 0 1=true:=by kernel_rfl
theorem zVd:cP 6 xU5 0 1=true:=by kernel_rfl
theorem zVn:cP 6 xUf 0 1=true:=by kernel_rfl
theorem yKg:xR 6 xJm=true:=by kernel_rfl
theorem yKs:xR 6 xDz=true:=by kernel_rfl
theorem yIo:xR 4 xTx=true:=by kernel_rfl
theorem yJz:xR 6 xPw=true:=by kernel_rfl
theorem yKd:xR 6 xM8=true:=by kernel_rfl
theorem yIw:xR 5 xZn=true:=by kernel_rfl
theorem yJi:xR 6 xU3=true:=by kernel_rfl
theorem yJs:xR 6 xUd=true:=by kernel_rfl
end Go.Abs.Sym
end
