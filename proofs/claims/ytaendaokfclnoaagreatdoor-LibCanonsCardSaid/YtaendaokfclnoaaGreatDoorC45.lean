/- Rows: right types. -/
import Derived.Test.YtaendaokfclnoaaGreatDoorC24
noncomputable section
namespace Go.Abs.Sym
open Go.Abs.T
open Go.Proofs
theorem s6_34_3:sP 6 xPz 3 3=true:=by kernel_rfl
theorem s6_43_3:sP 6 xM6 3 3=true:=by kernel_rfl
theorem s6_52_3:sP 6 xMb 3 3=true:=by kernel_rfl
theorem s6_39_0:sP 6 xM4 0 2=true:=by kernel_rfl
theorem s6_49_2:sP 6 xJn 2 2=true:=by kernel_rfl
theorem s6_54_4:sP 6 xMd 4 2=true:=by kernel_rfl
theorem s6_58_0:sP 6 xMg 0 2=true:=by kernel_rfl
theorem s6_61_2:sP 6 xJq 2 2=true:=by kernel_rfl
theorem s6_64_4:sP 6 xE0 4 2=true:=by kernel_rfl
theorem s5_14_0:sP 5 xZk 0 6=true:=by kernel_rfl
theorem s5_24_0:sP 5 xZu 0 6=true:=by kernel_rfl
theorem zH9:cP 6 vI 45 5=true:=by kernel_rfl
theorem s5_30_4:sP 5 xPr 4 2=true:=by kernel_rfl
theorem s5_26_0:sP 5 xTy 0 3=true:=by kernel_rfl
theorem s5_33_0:sP 5 xPt 0 3=true:=by kernel_rfl
theorem yI3:rA 4 yCl=true:=by kernel_rfl
theorem s6_14_0:sP 6 xU3 0 4=true:=by kernel_rfl
theorem s6_21_0:sP 6 xUa 0 4=true:=by kernel_rfl
theorem s3_29_0:sP 3 xZe 0 4=true:=by kernel_rfl
theorem zWf:cP 6 xJm 0 4=true:=by kernel_rfl
theorem zH1:cP 6 xDz 12 4=true:=by kernel_rfl
theorem zXa:cP 6 xJs 4 4=true:=by kernel_rfl
theorem s6_21_4:sP 6 xUa 4 3=true:=by kernel_rfl
theorem zWt:cP 6 xJp 4 3=true:=by kernel_rfl
theorem zW4:cP 6 xM5 4 4=true:=by kernel_rfl
theorem zWm:cP 6 xMa 4 4=true:=by kernel_rfl
theorem yHi:rA 3 yC0=true:=by kernel_rfl
theorem yHy:rA 3 yCg=true:=by kernel_rfl
theorem yPr:rA 6 yMf=true:=by kernel_rfl
theorem s6_49_6:sP 6 xJn 6 1=true:=by kernel_rfl
theorem s6_61_6:sP 6 xJq 6 1=true:=by kernel_rfl
theorem zUw:cP 5 xPr 0 2=true:=by kernel_rfl
theorem zVz:cP 6 xM3 0 2=true:=by kernel_rfl
theorem yPa:rA 5 yLy=true:=by kernel_rfl
theorem yOk:rA 2 yL8=true:=by kernel_rfl
theorem yHc:rA 2 yBu=true:=by kernel_rfl
theorem s6_43_6:sP 6 xM6 6 1=true:=by kernel_rfl
theorem yP5:rA 4 yLt=true:=by kernel_rfl
theorem zVt:cP 6 xPx 0 2=true:=by kernel_rfl
theorem yOr:rA 3 yLf=true:=by kernel_rfl
theorem zUe:cP 5 xZi 0 1=true:=by kernel_rfl
theorem zUl:cP 5 xZp 0 1=true:=by kernel_rfl
theorem yJf:xR 5 xM0=true:=by kernel_rfl
theorem zVj:cP 6 xUb 0 1=true:=by kernel_rfl
theorem yK5:xR 6 xM2=true:=by kernel_rfl
theorem yKo:xR 6 xJp=true:=by kernel_rfl
theorem yKy:xR 6 xJt=true:=by kernel_rfl
theorem yJg:xR 5 xPv=true:=by kernel_rfl
theorem yKc:xR 6 xM7=true:=by kernel_rfl
theorem yIv:xR 5 xZm=true:=by kernel_rfl
theorem yJh:xR 6 xU2=true:=by kernel_rfl
theorem yJr:xR 6 xUc=true:=by kernel_rfl
end Go.Abs.Sym
end
