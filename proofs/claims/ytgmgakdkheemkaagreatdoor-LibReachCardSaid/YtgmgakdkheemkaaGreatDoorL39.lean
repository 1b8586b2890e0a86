/- A part of the proof that LibSwaps answers true at every input: AbsKp00, AbsKp01, AbsKp10. -/
import Derived.Test.YtgmgakdkheemkaaGreatDoorL21
section
namespace Go.Abs.T
open AV
abbrev RW39 : Type := Pth × List AV × AV
set_option maxRecDepth 10000
abbrev a00_0 : AV := rslc 4 [i1,(nN 5),(nN 5),i6,(nN 5),i0,i0,i1,i6,(nN 5),i6,i6,i0,i0,i1,i6,i6,(nN 5),i6,i0,i0,i1,(nN 5),i6,(nN 5),(nN 5),i0,i0]
abbrev a00_1 : AV := rslc 1 [i1,i0,i0,i0,i0,i0,i0]
abbrev a00_2 : AV := agg [i0,i1,(bool false),(rslc 1 [(uN 36)]),(bool false),(rslc 1 [(uN 1)])]
abbrev a00_3 : AV := agg [i1,i0,i0,i0,i0,i0,i0]
abbrev a00_4 : AV := rslc 1 [i1,(nN 1),i0,i2,i0,i0,i0]
abbrev a00_5 : AV := agg [i0,i0,i0,i0,i0,i1,i0]
abbrev a00_6 : AV := agg [i1,(nN 5),(nN 5),i6,(nN 5),i0,i0]
abbrev a00_7 : AV := agg [i1,(nN 5),i6,(nN 5),(nN 5),i0,i0]
abbrev a00_8 : AV := agg [i0,i0,(bool false),nils,(bool false),(rslc 1 [(uN 1)])]
abbrev a00_9 : AV := agg [i1,i6,(nN 5),i6,i6,i0,i0]
abbrev a00_10 : AV := agg [i1,i6,i6,(nN 5),i6,i0,i0]
def E00_0 : RW39 := (f_edgeCheck,[a00_6],i0)
def E00_1 : RW39 := (f_edgeCheck,[a00_9],i0)
def E00_2 : RW39 := (f_edgeCheck,[a00_10],i0)
def E00_3 : RW39 := (f_edgeCheck,[a00_7],i0)
def E00_4 : RW39 := (f_edgeCheck,[a00_3],i0)
def E00_5 : RW39 := (f_edgeCheck,[(agg [i1,(nN 1),i0,i2,i0,i0,i0])],i0)
def tabE00 : List RW39 := [E00_0,E00_1,E00_2,E00_3,E00_4,E00_5]
def M00_0 : RW39 := (f_shCheck,[(agg [i2,a00_0,i0])],i0)
def M00_1 : RW39 := (f_shBox,[(agg [i2,a00_0,i0])],(agg [(nN 5),(nN 5),i6,i6]))
def M00_2 : RW39 := (f_shInside,[(agg [i2,a00_0,i0]),(agg [i0,i0])],(bool true))
def M00_3 : RW39 := (f_shCheck,[(agg [i1,a00_0,i0])],i0)
def M00_4 : RW39 := (f_meetEdges,[a00_6,a00_3],(bool false))
def M00_5 : RW39 := (f_nearEdges,[a00_6,a00_3],(tup [a00_2,(agg [(nN 5),(nN 5),i12,i0,(jN 72),(jN 144),i0]),a00_5]))
def M00_6 : RW39 := (f_meetEdges,[a00_9,a00_3],(bool false))
def M00_7 : RW39 := (f_nearEdges,[a00_9,a00_3],(tup [a00_2,(agg [i6,(nN 5),i0,i12,(jN 72),(jN 144),i0]),a00_5]))
def M00_8 : RW39 := (f_meetEdges,[a00_10,a00_3],(bool false))
def M00_9 : RW39 := (f_nearEdges,[a00_10,a00_3],(tup [a00_2,(agg [i6,i6,(nN 11),i0,(jN 72),(jN 144),i0]),a00_5]))
def M00_10 : RW39 := (f_meetEdges,[a00_7,a00_3],(bool false))
def M00_11 : RW39 := (f_nearEdges,[a00_7,a00_3],(tup [a00_2,(agg [(nN 5),i6,i0,(nN 11),(jN 72),(jN 144),i0]),a00_5]))
def M00_12 : RW39 := (f_shCheck,[(agg [i1,a00_1,i4])],i0)
def M00_13 : RW39 := (f_shBox,[(agg [i1,a00_1,i4])],(agg [(nN 3),(nN 3),i4,i4]))
def M00_14 : RW39 := (f_shInside,[(agg [i1,a00_1,i4]),(agg [i0,i0])],(bool true))
def M00_15 : RW39 := (f_nearPoint,[a00_3,(agg [i0,i0])],(tup [a00_8,a00_5]))
def M00_16 : RW39 := (f_shCheck,[(agg [i1,a00_1,i5])],i0)
def M00_17 : RW39 := (f_shBox,[(agg [i1,a00_1,i5])],(agg [(nN 4),(nN 4),i5,i5]))
def M00_18 : RW39 := (f_shInside,[(agg [i1,a00_1,i5]),(agg [i0,i0])],(bool true))
def M00_19 : RW39 := (f_shCheck,[(agg [i1,a00_1,i6])],i0)
def M00_20 : RW39 := (f_shBox,[(agg [i1,a00_1,i6])],(agg [(nN 5),(nN 5),i6,i6]))
def M00_21 : RW39 := (f_shInside,[(agg [i1,a00_1,i6]),(agg [i0,i0])],(bool true))
def M00_22 : RW39 := (f_shCheck,[(agg [i1,a00_4,i4])],i0)
def M00_23 : RW39 := (f_shBox,[(agg [i1,a00_4,i4])],(agg [(nN 5),(nN 3),i6,i4]))
def M00_24 : RW39 := (f_shInside,[(agg [i1,a00_4,i4]),(agg [i0,i0])],(bool true))
def M00_25 : RW39 := (f_nearPoint,[(agg [i1,(nN 1),i0,i2,i0,i0,i0]),(agg [i0,i0])],(tup [a00_8,(agg [(nN 1),i0,i4,i0,i8,i16,i0])]))
def tabM00 : List RW39 := [M00_0,M00_1,M00_2,M00_3,M00_4,M00_5,M00_6,M00_7,M00_8,M00_9,M00_10,M00_11,M00_12,M00_13,M00_14,M00_15,M00_16,M00_17,M00_18,M00_19,M00_20,M00_21,M00_22,M00_23,M00_24,M00_25]
def P00_0 : RW39 := (f_padErr,[(agg [(str [80,49]),i2,a00_0,i0,i0,i0,i0])],i0)
def P00_1 : RW39 := (f_padErr,[(agg [(str [80,49]),i2,a00_0,i0,i0,i0,i2])],i0)
def P00_2 : RW39 := (f_padErr,[(agg [(str [80,49]),i2,a00_0,i0,i0,i0,i4])],i0)
def P00_3 : RW39 := (f_padErr,[(agg [(str [80,49]),i2,a00_0,i0,i0,i0,i6])],i0)
def P00_4 : RW39 := (f_padErr,[(agg [(str [80,49]),i1,a00_1,i4,i0,i0,i0])],i0)
def P00_5 : RW39 := (f_padErr,[(agg [(str [80,49]),i1,a00_1,i4,i0,i0,i2])],i0)
def P00_6 : RW39 := (f_padErr,[(agg [(str [80,49]),i1,a00_1,i4,i0,i0,i4])],i0)
def P00_7 : RW39 := (f_padErr,[(agg [(str [80,49]),i1,a00_1,i4,i0,i0,i6])],i0)
def P00_8 : RW39 := (f_padErr,[(agg [(str [80,49]),i1,a00_1,i5,i0,i0,i0])],i0)
def P00_9 : RW39 := (f_padErr,[(agg [(str [80,49]),i1,a00_1,i5,i0,i0,i2])],i0)
def P00_10 : RW39 := (f_padErr,[(agg [(str [80,49]),i1,a00_1,i5,i0,i0,i4])],i0)
def P00_11 : RW39 := (f_padErr,[(agg [(str [80,49]),i1,a00_1,i5,i0,i0,i6])],i0)
def P00_12 : RW39 := (f_padErr,[(agg [(str [80,49]),i1,a00_1,i6,i0,i0,i0])],i0)
def P00_13 : RW39 := (f_padErr,[(agg [(str [80,49]),i1,a00_1,i6,i0,i0,i2])],i0)
def P00_14 : RW39 := (f_padErr,[(agg [(str [80,49]),i1,a00_1,i6,i0,i0,i4])],i0)
def P00_15 : RW39 := (f_padErr,[(agg [(str [80,49]),i1,a00_1,i6,i0,i0,i6])],i0)
def P00_16 : RW39 := (f_padErr,[(agg [(str [80,49]),i1,a00_4,i4,i0,i0,i0])],i0)
def P00_17 : RW39 := (f_padErr,[(agg [(str [80,49]),i1,a00_4,i4,i0,i0,i2])],i0)
def P00_18 : RW39 := (f_padErr,[(agg [(str [80,49]),i1,a00_4,i4,i0,i0,i4])],i0)
def P00_19 : RW39 := (f_padErr,[(agg [(str [80,49]),i1,a00_4,i4,i0,i0,i6])],i0)
def tabP00 : List RW39 := [P00_0,P00_1,P00_2,P00_3,P00_4,P00_5,P00_6,P00_7,P00_8,P00_9,P00_10,P00_11,P00_12,P00_13,P00_14,P00_15,P00_16,P00_17,P00_18,P00_19]
noncomputable abbrev ra00 (r : RW39) : Bool := rowB XR 100 r
theorem hE00_0 : ra00 E00_0 = true := by kernel_rfl
theorem hE00_1 : ra00 E00_1 = true := by kernel_rfl
theorem hE00_2 : ra00 E00_2 = true := by kernel_rfl
theorem hE00_3 : ra00 E00_3 = true := by kernel_rfl
theorem hE00_4 : ra00 E00_4 = true := by kernel_rfl
theorem hE00_5 : ra00 E00_5 = true := by kernel_rfl
theorem rowsE00 : Rows XR tabE00 := .s hE00_0 (.s hE00_1 (.s hE00_2 (.s hE00_3 (.s hE00_4 (.s hE00_5 (.z))))))
noncomputable abbrev rb00 (r : RW39) : Bool := rowB (XEof tabE00) 100 r
theorem hM00_0 : rb00 M00_0 = true := by kernel_rfl
theorem hM00_1 : rb00 M00_1 = true := by kernel_rfl
theorem hM00_2 : rb00 M00_2 = true := by kernel_rfl
theorem hM00_3 : rb00 M00_3 = true := by kernel_rfl
theorem hM00_4 : rb00 M00_4 = true := by kernel_rfl
theorem hM00_5 : rb00 M00_5 = true := by kernel_rfl
theorem hM00_6 : rb00 M00_6 = true := by kernel_rfl
theorem hM00_7 : rb00 M00_7 = true := by kernel_rfl
theorem hM00_8 : rb00 M00_8 = true := by kernel_rfl
theorem hM00_9 : rb00 M00_9 = true := by kernel_rfl
theorem hM00_10 : rb00 M00_10 = true := by kernel_rfl
theorem hM00_11 : rb00 M00_11 = true := by kernel_rfl
theorem hM00_12 : rb00 M00_12 = true := by kernel_rfl
theorem hM00_13 : rb00 M00_13 = true := by kernel_rfl
theorem hM00_14 : rb00 M00_14 = true := by kernel_rfl
theorem hM00_15 : rb00 M00_15 = true := by kernel_rfl
theorem hM00_16 : rb00 M00_16 = true := by kernel_rfl
theorem hM00_17 : rb00 M00_17 = true := by kernel_rfl
theorem hM00_18 : rb00 M00_18 = true := by kernel_rfl
theorem hM00_19 : rb00 M00_19 = true := by kernel_rfl
theorem hM00_20 : rb00 M00_20 = true := by kernel_rfl
theorem hM00_21 : rb00 M00_21 = true := by kernel_rfl
theorem hM00_22 : rb00 M00_22 = true := by kernel_rfl
theorem hM00_23 : rb00 M00_23 = true := by kernel_rfl
theorem hM00_24 : rb00 M00_24 = true := by kernel_rfl
theorem hM00_25 : rb00 M00_25 = true := by kernel_rfl
theorem rowsM00 : Rows (XEof tabE00) tabM00 := .s hM00_0 (.s hM00_1 (.s hM00_2 (.s hM00_3 (.s hM00_4 (.s hM00_5 (.s hM00_6 (.s hM00_7 (.s hM00_8 (.s hM00_9 (.s hM00_10 (.s hM00_11 (.s hM00_12 (.s hM00_13 (.s hM00_14 (.s hM00_15 (.s hM00_16 (.s hM00_17 (.s hM00_18 (.s hM00_19 (.s hM00_20 (.s hM00_21 (.s hM00_22 (.s hM00_23 (.s hM00_24 (.s hM00_25 (.z))))))))))))))))))))))))))
noncomputable abbrev rc00 (r : RW39) : Bool := rowB (XMof tabE00 tabM00) 100 r
theorem hP00_0 : rc00 P00_0 = true := by kernel_rfl
theorem hP00_1 : rc00 P00_1 = true := by kernel_rfl
theorem hP00_2 : rc00 P00_2 = true := by kernel_rfl
theorem hP00_3 : rc00 P00_3 = true := by kernel_rfl
theorem hP00_4 : rc00 P00_4 = true := by kernel_rfl
theorem hP00_5 : rc00 P00_5 = true := by kernel_rfl
theorem hP00_6 : rc00 P00_6 = true := by kernel_rfl
theorem hP00_7 : rc00 P00_7 = true := by kernel_rfl
theorem hP00_8 : rc00 P00_8 = true := by kernel_rfl
theorem hP00_9 : rc00 P00_9 = true := by kernel_rfl
theorem hP00_10 : rc00 P00_10 = true := by kernel_rfl
theorem hP00_11 : rc00 P00_11 = true := by kernel_rfl
theorem hP00_12 : rc00 P00_12 = true := by kernel_rfl
theorem hP00_13 : rc00 P00_13 = true := by kernel_rfl
theorem hP00_14 : rc00 P00_14 = true := by kernel_rfl
theorem hP00_15 : rc00 P00_15 = true := by kernel_rfl
theorem hP00_16 : rc00 P00_16 = true := by kernel_rfl
theorem hP00_17 : rc00 P00_17 = true := by kernel_rfl
theorem hP00_18 : rc00 P00_18 = true := by kernel_rfl
theorem hP00_19 : rc00 P00_19 = true := by kernel_rfl
theorem rowsP00 : Rows (XMof tabE00 tabM00) tabP00 := .s hP00_0 (.s hP00_1 (.s hP00_2 (.s hP00_3 (.s hP00_4 (.s hP00_5 (.s hP00_6 (.s hP00_7 (.s hP00_8 (.s hP00_9 (.s hP00_10 (.s hP00_11 (.s hP00_12 (.s hP00_13 (.s hP00_14 (.s hP00_15 (.s hP00_16 (.s hP00_17 (.s hP00_18 (.s hP00_19 (.z))))))))))))))))))))
end Go.Abs.T
end
section
namespace Go.Abs.T
open AV
set_option maxRecDepth 10000
abbrev a01_0 : AV := rslc 4 [i1,(nN 5),i4,i6,i4,i0,i0,i1,i6,i4,i6,i16,i0,i0,i1,i6,i16,(nN 5),i16,i0,i0,i1,(nN 5),i16,(nN 5),i4,i0,i0]
abbrev a01_1 : AV := rslc 1 [i1,i0,i10,i0,i10,i0,i0]
abbrev a01_2 : AV := agg [i1,i0,i10,i0,i10,i0,i0]
abbrev a01_3 : AV := agg [i0,i1,(bool false),(rslc 1 [(uN 36)]),(bool false),(rslc 1 [(uN 1)])]
abbrev a01_4 : AV := rslc 1 [i1,(nN 1),i10,i2,i10,i0,i0]
abbrev a01_5 : AV := agg [i0,i10,i0,i0,i0,i1,i0]
abbrev a01_6 : AV := agg [i1,(nN 5),i16,(nN 5),i4,i0,i0]
abbrev a01_7 : AV := agg [i1,i6,i16,(nN 5),i16,i0,i0]
abbrev a01_8 : AV := agg [i0,i0,(bool false),nils,(bool false),(rslc 1 [(uN 1)])]
abbrev a01_9 : AV := agg [i1,(nN 5),i4,i6,i4,i0,i0]
def E01_0 : RW39 := (f_edgeCheck,[a01_9],i0)
def E01_1 : RW39 := (f_edgeCheck,[(agg [i1,i6,i4,i6,i16,i0,i0])],i0)
def E01_2 : RW39 := (f_edgeCheck,[a01_7],i0)
def E01_3 : RW39 := (f_edgeCheck,[a01_6],i0)
def E01_4 : RW39 := (f_edgeCheck,[a01_2],i0)
def E01_5 : RW39 := (f_edgeCheck,[(agg [i1,(nN 1),i10,i2,i10,i0,i0])],i0)
def tabE01 : List RW39 := [E01_0,E01_1,E01_2,E01_3,E01_4,E01_5]
def M01_0 : RW39 := (f_shCheck,[(agg [i2,a01_0,i0])],i0)
def M01_1 : RW39 := (f_shBox,[(agg [i2,a01_0,i0])],(agg [(nN 5),i4,i6,i16]))
def M01_2 : RW39 := (f_shInside,[(agg [i2,a01_0,i0]),(agg [i0,i10])],(bool true))
def M01_3 : RW39 := (f_shCheck,[(agg [i1,a01_0,i0])],i0)
def M01_4 : RW39 := (f_meetEdges,[a01_9,a01_2],(bool false))
def M01_5 : RW39 := (f_nearEdges,[a01_9,a01_2],(tup [a01_3,(agg [(nN 5),i4,i12,i0,(jN 72),(jN 144),i0]),a01_5]))
def M01_6 : RW39 := (f_meetEdges,[(agg [i1,i6,i4,i6,i16,i0,i0]),a01_2],(bool false))
def M01_7 : RW39 := (f_nearEdges,[(agg [i1,i6,i4,i6,i16,i0,i0]),a01_2],(tup [a01_3,(agg [i6,i4,i0,i12,(jN 72),(jN 144),i0]),a01_5]))
def M01_8 : RW39 := (f_meetEdges,[a01_7,a01_2],(bool false))
def M01_9 : RW39 := (f_nearEdges,[a01_7,a01_2],(tup [a01_3,(agg [i6,i16,(nN 11),i0,(jN 72),(jN 144),i0]),a01_5]))
def M01_10 : RW39 := (f_meetEdges,[a01_6,a01_2],(bool false))
def M01_11 : RW39 := (f_nearEdges,[a01_6,a01_2],(tup [a01_3,(agg [(nN 5),i16,i0,(nN 11),(jN 72),(jN 144),i0]),a01_5]))
def M01_12 : RW39 := (f_shCheck,[(agg [i1,a01_1,i4])],i0)
def M01_13 : RW39 := (f_shBox,[(agg [i1,a01_1,i4])],(agg [(nN 3),i6,i4,i14]))
def M01_14 : RW39 := (f_shInside,[(agg [i1,a01_1,i4]),(agg [i0,i10])],(bool true))
def M01_15 : RW39 := (f_nearPoint,[a01_2,(agg [i0,i10])],(tup [a01_8,a01_5]))
def M01_16 : RW39 := (f_shCheck,[(agg [i1,a01_1,i5])],i0)
def M01_17 : RW39 := (f_shBox,[(agg [i1,a01_1,i5])],(agg [(nN 4),i5,i5,i15]))
def M01_18 : RW39 := (f_shInside,[(agg [i1,a01_1,i5]),(agg [i0,i10])],(bool true))
def M01_19 : RW39 := (f_shCheck,[(agg [i1,a01_1,i6])],i0)
def M01_20 : RW39 := (f_shBox,[(agg [i1,a01_1,i6])],(agg [(nN 5),i4,i6,i16]))
def M01_21 : RW39 := (f_shInside,[(agg [i1,a01_1,i6]),(agg [i0,i10])],(bool true))
def M01_22 : RW39 := (f_shCheck,[(agg [i1,a01_4,i4])],i0)
def M01_23 : RW39 := (f_shBox,[(agg [i1,a01_4,i4])],(agg [(nN 5),i6,i6,i14]))
def M01_24 : RW39 := (f_shInside,[(agg [i1,a01_4,i4]),(agg [i0,i10])],(bool true))
def M01_25 : RW39 := (f_nearPoint,[(agg [i1,(nN 1),i10,i2,i10,i0,i0]),(agg [i0,i10])],(tup [a01_8,(agg [(nN 1),i10,i4,i0,i8,i16,i0])]))
def tabM01 : List RW39 := [M01_0,M01_1,M01_2,M01_3,M01_4,M01_5,M01_6,M01_7,M01_8,M01_9,M01_10,M01_11,M01_12,M01_13,M01_14,M01_15,M01_16,M01_17,M01_18,M01_19,M01_20,M01_21,M01_22,M01_23,M01_24,M01_25]
def P01_0 : RW39 := (f_padErr,[(agg [(str [80,49]),i2,a01_0,i0,i0,i10,i0])],i0)
def P01_1 : RW39 := (f_padErr,[(agg [(str [80,49]),i2,a01_0,i0,i0,i10,i2])],i0)
def P01_2 : RW39 := (f_padErr,[(agg [(str [80,49]),i2,a01_0,i0,i0,i10,i4])],i0)
def P01_3 : RW39 := (f_padErr,[(agg [(str [80,49]),i2,a01_0,i0,i0,i10,i6])],i0)
def P01_4 : RW39 := (f_padErr,[(agg [(str [80,49]),i1,a01_1,i4,i0,i10,i0])],i0)
def P01_5 : RW39 := (f_padErr,[(agg [(str [80,49]),i1,a01_1,i4,i0,i10,i2])],i0)
def P01_6 : RW39 := (f_padErr,[(agg [(str [80,49]),i1,a01_1,i4,i0,i10,i4])],i0)
def P01_7 : RW39 := (f_padErr,[(agg [(str [80,49]),i1,a01_1,i4,i0,i10,i6])],i0)
def P01_8 : RW39 := (f_padErr,[(agg [(str [80,49]),i1,a01_1,i5,i0,i10,i0])],i0)
def P01_9 : RW39 := (f_padErr,[(agg [(str [80,49]),i1,a01_1,i5,i0,i10,i2])],i0)
def P01_10 : RW39 := (f_padErr,[(agg [(str [80,49]),i1,a01_1,i5,i0,i10,i4])],i0)
def P01_11 : RW39 := (f_padErr,[(agg [(str [80,49]),i1,a01_1,i5,i0,i10,i6])],i0)
def P01_12 : RW39 := (f_padErr,[(agg [(str [80,49]),i1,a01_1,i6,i0,i10,i0])],i0)
def P01_13 : RW39 := (f_padErr,[(agg [(str [80,49]),i1,a01_1,i6,i0,i10,i2])],i0)
def P01_14 : RW39 := (f_padErr,[(agg [(str [80,49]),i1,a01_1,i6,i0,i10,i4])],i0)
def P01_15 : RW39 := (f_padErr,[(agg [(str [80,49]),i1,a01_1,i6,i0,i10,i6])],i0)
def P01_16 : RW39 := (f_padErr,[(agg [(str [80,49]),i1,a01_4,i4,i0,i10,i0])],i0)
def P01_17 : RW39 := (f_padErr,[(agg [(str [80,49]),i1,a01_4,i4,i0,i10,i2])],i0)
def P01_18 : RW39 := (f_padErr,[(agg [(str [80,49]),i1,a01_4,i4,i0,i10,i4])],i0)
def P01_19 : RW39 := (f_padErr,[(agg [(str [80,49]),i1,a01_4,i4,i0,i10,i6])],i0)
def tabP01 : List RW39 := [P01_0,P01_1,P01_2,P01_3,P01_4,P01_5,P01_6,P01_7,P01_8,P01_9,P01_10,P01_11,P01_12,P01_13,P01_14,P01_15,P01_16,P01_17,P01_18,P01_19]
noncomputable abbrev ra01 (r : RW39) : Bool := rowB XR 100 r
theorem hE01_0 : ra01 E01_0 = true := by kernel_rfl
theorem hE01_1 : ra01 E01_1 = true := by kernel_rfl
theorem hE01_2 : ra01 E01_2 = true := by kernel_rfl
theorem hE01_3 : ra01 E01_3 = true := by kernel_rfl
theorem hE01_4 : ra01 E01_4 = true := by kernel_rfl
theorem hE01_5 : ra01 E01_5 = true := by kernel_rfl
theorem rowsE01 : Rows XR tabE01 := .s hE01_0 (.s hE01_1 (.s hE01_2 (.s hE01_3 (.s hE01_4 (.s hE01_5 (.z))))))
noncomputable abbrev rb01 (r : RW39) : Bool := rowB (XEof tabE01) 100 r
theorem hM01_0 : rb01 M01_0 = true := by kernel_rfl
theorem hM01_1 : rb01 M01_1 = true := by kernel_rfl
theorem hM01_2 : rb01 M01_2 = true := by kernel_rfl
theorem hM01_3 : rb01 M01_3 = true := by kernel_rfl
theorem hM01_4 : rb01 M01_4 = true := by kernel_rfl
theorem hM01_5 : rb01 M01_5 = true := by kernel_rfl
theorem hM01_6 : rb01 M01_6 = true := by kernel_rfl
theorem hM01_7 : rb01 M01_7 = true := by kernel_rfl
theorem hM01_8 : rb01 M01_8 = true := by kernel_rfl
theorem hM01_9 : rb01 M01_9 = true := by kernel_rfl
theorem hM01_10 : rb01 M01_10 = true := by kernel_rfl
theorem hM01_11 : rb01 M01_11 = true := by kernel_rfl
theorem hM01_12 : rb01 M01_12 = true := by kernel_rfl
theorem hM01_13 : rb01 M01_13 = true := by kernel_rfl
theorem hM01_14 : rb01 M01_14 = true := by kernel_rfl
theorem hM01_15 : rb01 M01_15 = true := by kernel_rfl
theorem hM01_16 : rb01 M01_16 = true := by kernel_rfl
theorem hM01_17 : rb01 M01_17 = true := by kernel_rfl
theorem hM01_18 : rb01 M01_18 = true := by kernel_rfl
theorem hM01_19 : rb01 M01_19 = true := by kernel_rfl
theorem hM01_20 : rb01 M01_20 = true := by kernel_rfl
theorem hM01_21 : rb01 M01_21 = true := by kernel_rfl
theorem hM01_22 : rb01 M01_22 = true := by kernel_rfl
theorem hM01_23 : rb01 M01_23 = true := by kernel_rfl
theorem hM01_24 : rb01 M01_24 = true := by kernel_rfl
theorem hM01_25 : rb01 M01_25 = true := by kernel_rfl
theorem rowsM01 : Rows (XEof tabE01) tabM01 := .s hM01_0 (.s hM01_1 (.s hM01_2 (.s hM01_3 (.s hM01_4 (.s hM01_5 (.s hM01_6 (.s hM01_7 (.s hM01_8 (.s hM01_9 (.s hM01_10 (.s hM01_11 (.s hM01_12 (.s hM01_13 (.s hM01_14 (.s hM01_15 (.s hM01_16 (.s hM01_17 (.s hM01_18 (.s hM01_19 (.s hM01_20 (.s hM01_21 (.s hM01_22 (.s hM01_23 (.s hM01_24 (.s hM01_25 (.z))))))))))))))))))))))))))
noncomputable abbrev rc01 (r : RW39) : Bool := rowB (XMof tabE01 tabM01) 100 r
theorem hP01_0 : rc01 P01_0 = true := by kernel_rfl
theorem hP01_1 : rc01 P01_1 = true := by kernel_rfl
theorem hP01_2 : rc01 P01_2 = true := by kernel_rfl
theorem hP01_3 : rc01 P01_3 = true := by kernel_rfl
theorem hP01_4 : rc01 P01_4 = true := by kernel_rfl
theorem hP01_5 : rc01 P01_5 = true := by kernel_rfl
theorem hP01_6 : rc01 P01_6 = true := by kernel_rfl
theorem hP01_7 : rc01 P01_7 = true := by kernel_rfl
theorem hP01_8 : rc01 P01_8 = true := by kernel_rfl
theorem hP01_9 : rc01 P01_9 = true := by kernel_rfl
theorem hP01_10 : rc01 P01_10 = true := by kernel_rfl
theorem hP01_11 : rc01 P01_11 = true := by kernel_rfl
theorem hP01_12 : rc01 P01_12 = true := by kernel_rfl
theorem hP01_13 : rc01 P01_13 = true := by kernel_rfl
theorem hP01_14 : rc01 P01_14 = true := by kernel_rfl
theorem hP01_15 : rc01 P01_15 = true := by kernel_rfl
theorem hP01_16 : rc01 P01_16 = true := by kernel_rfl
theorem hP01_17 : rc01 P01_17 = true := by kernel_rfl
theorem hP01_18 : rc01 P01_18 = true := by kernel_rfl
theorem hP01_19 : rc01 P01_19 = true := by kernel_rfl
theorem rowsP01 : Rows (XMof tabE01 tabM01) tabP01 := .s hP01_0 (.s hP01_1 (.s hP01_2 (.s hP01_3 (.s hP01_4 (.s hP01_5 (.s hP01_6 (.s hP01_7 (.s hP01_8 (.s hP01_9 (.s hP01_10 (.s hP01_11 (.s hP01_12 (.s hP01_13 (.s hP01_14 (.s hP01_15 (.s hP01_16 (.s hP01_17 (.s hP01_18 (.s hP01_19 (.z))))))))))))))))))))
end Go.Abs.T
end
section
namespace Go.Abs.T
open AV
set_option maxRecDepth 10000
abbrev a10_0 : AV := rslc 4 [i1,i24,(nN 5),(jN 36),(nN 5),i0,i0,i1,(jN 36),(nN 5),(jN 36),i6,i0,i0,i1,(jN 36),i6,i24,i6,i0,i0,i1,i24,i6,i24,(nN 5),i0,i0]
abbrev a10_1 : AV := rslc 1 [i1,i30,i0,i30,i0,i0,i0]
abbrev a10_2 : AV := agg [i1,i30,i0,i30,i0,i0,i0]
abbrev a10_3 : AV := agg [i0,i1,(bool false),(rslc 1 [(uN 36)]),(bool false),(rslc 1 [(uN 1)])]
abbrev a10_4 : AV := rslc 1 [i1,i28,i0,i32,i0,i0,i0]
abbrev a10_5 : AV := agg [i30,i0,i0,i0,i0,i1,i0]
abbrev a10_6 : AV := agg [i1,i24,(nN 5),(jN 36),(nN 5),i0,i0]
abbrev a10_7 : AV := agg [i1,(jN 36),(nN 5),(jN 36),i6,i0,i0]
abbrev a10_8 : AV := agg [i1,(jN 36),i6,i24,i6,i0,i0]
abbrev a10_9 : AV := agg [i1,i24,i6,i24,(nN 5),i0,i0]
abbrev a10_10 : AV := agg [i0,i0,(bool false),nils,(bool false),(rslc 1 [(uN 1)])]
def E10_0 : RW39 := (f_edgeCheck,[a10_6],i0)
def E10_1 : RW39 := (f_edgeCheck,[a10_7],i0)
def E10_2 : RW39 := (f_edgeCheck,[a10_8],i0)
def E10_3 : RW39 := (f_edgeCheck,[a10_9],i0)
def E10_4 : RW39 := (f_edgeCheck,[a10_2],i0)
def E10_5 : RW39 := (f_edgeCheck,[(agg [i1,i28,i0,i32,i0,i0,i0])],i0)
def tabE10 : List RW39 := [E10_0,E10_1,E10_2,E10_3,E10_4,E10_5]
def M10_0 : RW39 := (f_shCheck,[(agg [i2,a10_0,i0])],i0)
def M10_1 : RW39 := (f_shBox,[(agg [i2,a10_0,i0])],(agg [i24,(nN 5),(jN 36),i6]))
def M10_2 : RW39 := (f_shInside,[(agg [i2,a10_0,i0]),(agg [i30,i0])],(bool true))
def M10_3 : RW39 := (f_shCheck,[(agg [i1,a10_0,i0])],i0)
def M10_4 : RW39 := (f_meetEdges,[a10_6,a10_2],(bool false))
def M10_5 : RW39 := (f_nearEdges,[a10_6,a10_2],(tup [a10_3,(agg [i24,(nN 5),i12,i0,(jN 72),(jN 144),i0]),a10_5]))
def M10_6 : RW39 := (f_meetEdges,[a10_7,a10_2],(bool false))
def M10_7 : RW39 := (f_nearEdges,[a10_7,a10_2],(tup [a10_3,(agg [(jN 36),(nN 5),i0,i12,(jN 72),(jN 144),i0]),a10_5]))
def M10_8 : RW39 := (f_meetEdges,[a10_8,a10_2],(bool false))
def M10_9 : RW39 := (f_nearEdges,[a10_8,a10_2],(tup [a10_3,(agg [(jN 36),i6,(nN 11),i0,(jN 72),(jN 144),i0]),a10_5]))
def M10_10 : RW39 := (f_meetEdges,[a10_9,a10_2],(bool false))
def M10_11 : RW39 := (f_nearEdges,[a10_9,a10_2],(tup [a10_3,(agg [i24,i6,i0,(nN 11),(jN 72),(jN 144),i0]),a10_5]))
def M10_12 : RW39 := (f_shCheck,[(agg [i1,a10_1,i4])],i0)
def M10_13 : RW39 := (f_shBox,[(agg [i1,a10_1,i4])],(agg [i26,(nN 3),(jN 34),i4]))
def M10_14 : RW39 := (f_shInside,[(agg [i1,a10_1,i4]),(agg [i30,i0])],(bool true))
def M10_15 : RW39 := (f_nearPoint,[a10_2,(agg [i30,i0])],(tup [a10_10,a10_5]))
def M10_16 : RW39 := (f_shCheck,[(agg [i1,a10_1,i5])],i0)
def M10_17 : RW39 := (f_shBox,[(agg [i1,a10_1,i5])],(agg [i25,(nN 4),(jN 35),i5]))
def M10_18 : RW39 := (f_shInside,[(agg [i1,a10_1,i5]),(agg [i30,i0])],(bool true))
def M10_19 : RW39 := (f_shCheck,[(agg [i1,a10_1,i6])],i0)
def M10_20 : RW39 := (f_shBox,[(agg [i1,a10_1,i6])],(agg [i24,(nN 5),(jN 36),i6]))
def M10_21 : RW39 := (f_shInside,[(agg [i1,a10_1,i6]),(agg [i30,i0])],(bool true))
def M10_22 : RW39 := (f_shCheck,[(agg [i1,a10_4,i4])],i0)
def M10_23 : RW39 := (f_shBox,[(agg [i1,a10_4,i4])],(agg [i24,(nN 3),(jN 36),i4]))
def M10_24 : RW39 := (f_shInside,[(agg [i1,a10_4,i4]),(agg [i30,i0])],(bool true))
def M10_25 : RW39 := (f_nearPoint,[(agg [i1,i28,i0,i32,i0,i0,i0]),(agg [i30,i0])],(tup [a10_10,(agg [i28,i0,i4,i0,i8,i16,i0])]))
def tabM10 : List RW39 := [M10_0,M10_1,M10_2,M10_3,M10_4,M10_5,M10_6,M10_7,M10_8,M10_9,M10_10,M10_11,M10_12,M10_13,M10_14,M10_15,M10_16,M10_17,M10_18,M10_19,M10_20,M10_21,M10_22,M10_23,M10_24,M10_25]
def P10_0 : RW39 := (f_padErr,[(agg [(str [80,50]),i2,a10_0,i0,i30,i0,i0])],i0)
def P10_1 : RW39 := (f_padErr,[(agg [(str [80,50]),i2,a10_0,i0,i30,i0,i2])],i0)
def P10_2 : RW39 := (f_padErr,[(agg [(str [80,50]),i2,a10_0,i0,i30,i0,i4])],i0)
def P10_3 : RW39 := (f_padErr,[(agg [(str [80,50]),i2,a10_0,i0,i30,i0,i6])],i0)
def P10_4 : RW39 := (f_padErr,[(agg [(str [80,50]),i1,a10_1,i4,i30,i0,i0])],i0)
def P10_5 : RW39 := (f_padErr,[(agg [(str [80,50]),i1,a10_1,i4,i30,i0,i2])],i0)
def P10_6 : RW39 := (f_padErr,[(agg [(str [80,50]),i1,a10_1,i4,i30,i0,i4])],i0)
def P10_7 : RW39 := (f_padErr,[(agg [(str [80,50]),i1,a10_1,i4,i30,i0,i6])],i0)
def P10_8 : RW39 := (f_padErr,[(agg [(str [80,50]),i1,a10_1,i5,i30,i0,i0])],i0)
def P10_9 : RW39 := (f_padErr,[(agg [(str [80,50]),i1,a10_1,i5,i30,i0,i2])],i0)
def P10_10 : RW39 := (f_padErr,[(agg [(str [80,50]),i1,a10_1,i5,i30,i0,i4])],i0)
def P10_11 : RW39 := (f_padErr,[(agg [(str [80,50]),i1,a10_1,i5,i30,i0,i6])],i0)
def P10_12 : RW39 := (f_padErr,[(agg [(str [80,50]),i1,a10_1,i6,i30,i0,i0])],i0)
def P10_13 : RW39 := (f_padErr,[(agg [(str [80,50]),i1,a10_1,i6,i30,i0,i2])],i0)
def P10_14 : RW39 := (f_padErr,[(agg [(str [80,50]),i1,a10_1,i6,i30,i0,i4])],i0)
def P10_15 : RW39 := (f_padErr,[(agg [(str [80,50]),i1,a10_1,i6,i30,i0,i6])],i0)
def P10_16 : RW39 := (f_padErr,[(agg [(str [80,50]),i1,a10_4,i4,i30,i0,i0])],i0)
def P10_17 : RW39 := (f_padErr,[(agg [(str [80,50]),i1,a10_4,i4,i30,i0,i2])],i0)
def P10_18 : RW39 := (f_padErr,[(agg [(str [80,50]),i1,a10_4,i4,i30,i0,i4])],i0)
def P10_19 : RW39 := (f_padErr,[(agg [(str [80,50]),i1,a10_4,i4,i30,i0,i6])],i0)
def tabP10 : List RW39 := [P10_0,P10_1,P10_2,P10_3,P10_4,P10_5,P10_6,P10_7,P10_8,P10_9,P10_10,P10_11,P10_12,P10_13,P10_14,P10_15,P10_16,P10_17,P10_18,P10_19]
noncomputable abbrev ra10 (r : RW39) : Bool := rowB XR 100 r
theorem hE10_0 : ra10 E10_0 = true := by kernel_rfl
theorem hE10_1 : ra10 E10_1 = true := by kernel_rfl
theorem hE10_2 : ra10 E10_2 = true := by kernel_rfl
theorem hE10_3 : ra10 E10_3 = true := by kernel_rfl
theorem hE10_4 : ra10 E10_4 = true := by kernel_rfl
theorem hE10_5 : ra10 E10_5 = true := by kernel_rfl
theorem rowsE10 : Rows XR tabE10 := .s hE10_0 (.s hE10_1 (.s hE10_2 (.s hE10_3 (.s hE10_4 (.s hE10_5 (.z))))))
noncomputable abbrev rb10 (r : RW39) : Bool := rowB (XEof tabE10) 100 r
theorem hM10_0 : rb10 M10_0 = true := by kernel_rfl
theorem hM10_1 : rb10 M10_1 = true := by kernel_rfl
theorem hM10_2 : rb10 M10_2 = true := by kernel_rfl
theorem hM10_3 : rb10 M10_3 = true := by kernel_rfl
theorem hM10_4 : rb10 M10_4 = true := by kernel_rfl
theorem hM10_5 : rb10 M10_5 = true := by kernel_rfl
theorem hM10_6 : rb10 M10_6 = true := by kernel_rfl
theorem hM10_7 : rb10 M10_7 = true := by kernel_rfl
theorem hM10_8 : rb10 M10_8 = true := by kernel_rfl
theorem hM10_9 : rb10 M10_9 = true := by kernel_rfl
theorem hM10_10 : rb10 M10_10 = true := by kernel_rfl
theorem hM10_11 : rb10 M10_11 = true := by kernel_rfl
theorem hM10_12 : rb10 M10_12 = true := by kernel_rfl
theorem hM10_13 : rb10 M10_13 = true := by kernel_rfl
theorem hM10_14 : rb10 M10_14 = true := by kernel_rfl
theorem hM10_15 : rb10 M10_15 = true := by kernel_rfl
theorem hM10_16 : rb10 M10_16 = true := by kernel_rfl
theorem hM10_17 : rb10 M10_17 = true := by kernel_rfl
theorem hM10_18 : rb10 M10_18 = true := by kernel_rfl
theorem hM10_19 : rb10 M10_19 = true := by kernel_rfl
theorem hM10_20 : rb10 M10_20 = true := by kernel_rfl
theorem hM10_21 : rb10 M10_21 = true := by kernel_rfl
theorem hM10_22 : rb10 M10_22 = true := by kernel_rfl
theorem hM10_23 : rb10 M10_23 = true := by kernel_rfl
theorem hM10_24 : rb10 M10_24 = true := by kernel_rfl
theorem hM10_25 : rb10 M10_25 = true := by kernel_rfl
theorem rowsM10 : Rows (XEof tabE10) tabM10 := .s hM10_0 (.s hM10_1 (.s hM10_2 (.s hM10_3 (.s hM10_4 (.s hM10_5 (.s hM10_6 (.s hM10_7 (.s hM10_8 (.s hM10_9 (.s hM10_10 (.s hM10_11 (.s hM10_12 (.s hM10_13 (.s hM10_14 (.s hM10_15 (.s hM10_16 (.s hM10_17 (.s hM10_18 (.s hM10_19 (.s hM10_20 (.s hM10_21 (.s hM10_22 (.s hM10_23 (.s hM10_24 (.s hM10_25 (.z))))))))))))))))))))))))))
noncomputable abbrev rc10 (r : RW39) : Bool := rowB (XMof tabE10 tabM10) 100 r
theorem hP10_0 : rc10 P10_0 = true := by kernel_rfl
theorem hP10_1 : rc10 P10_1 = true := by kernel_rfl
theorem hP10_2 : rc10 P10_2 = true := by kernel_rfl
theorem hP10_3 : rc10 P10_3 = true := by kernel_rfl
theorem hP10_4 : rc10 P10_4 = true := by kernel_rfl
theorem hP10_5 : rc10 P10_5 = true := by kernel_rfl
theorem hP10_6 : rc10 P10_6 = true := by kernel_rfl
theorem hP10_7 : rc10 P10_7 = true := by kernel_rfl
theorem hP10_8 : rc10 P10_8 = true := by kernel_rfl
theorem hP10_9 : rc10 P10_9 = true := by kernel_rfl
theorem hP10_10 : rc10 P10_10 = true := by kernel_rfl
theorem hP10_11 : rc10 P10_11 = true := by kernel_rfl
theorem hP10_12 : rc10 P10_12 = true := by kernel_rfl
theorem hP10_13 : rc10 P10_13 = true := by kernel_rfl
theorem hP10_14 : rc10 P10_14 = true := by kernel_rfl
theorem hP10_15 : rc10 P10_15 = true := by kernel_rfl
theorem hP10_16 : rc10 P10_16 = true := by kernel_rfl
theorem hP10_17 : rc10 P10_17 = true := by kernel_rfl
theorem hP10_18 : rc10 P10_18 = true := by kernel_rfl
theorem hP10_19 : rc10 P10_19 = true := by kernel_rfl
theorem rowsP10 : Rows (XMof tabE10 tabM10) tabP10 := .s hP10_0 (.s hP10_1 (.s hP10_2 (.s hP10_3 (.s hP10_4 (.s hP10_5 (.s hP10_6 (.s hP10_7 (.s hP10_8 (.s hP10_9 (.s hP10_10 (.s hP10_11 (.s hP10_12 (.s hP10_13 (.s hP10_14 (.s hP10_15 (.s hP10_16 (.s hP10_17 (.s hP10_18 (.s hP10_19 (.z))))))))))))))))))))
end Go.Abs.T
end
