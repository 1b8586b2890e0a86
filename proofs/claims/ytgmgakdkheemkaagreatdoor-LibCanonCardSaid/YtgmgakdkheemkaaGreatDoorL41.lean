/- A part of the proof that LibSwaps answers true at every input: AbsKp30, AbsKp31, AbsKp40. -/
import Derived.Test.YtgmgakdkheemkaaGreatDoorL21
section
namespace Go.Abs.T
open AV
abbrev RW41 : Type := Pth × List AV × AV
set_option maxRecDepth 10000
abbrev a30_0 : AV := rslc 4 [i1,(jN 84),(nN 5),(jN 96),(nN 5),i0,i0,i1,(jN 96),(nN 5),(jN 96),i6,i0,i0,i1,(jN 96),i6,(jN 84),i6,i0,i0,i1,(jN 84),i6,(jN 84),(nN 5),i0,i0]
abbrev a30_1 : AV := rslc 1 [i1,(jN 90),i0,(jN 90),i0,i0,i0]
abbrev a30_2 : AV := agg [i1,(jN 90),i0,(jN 90),i0,i0,i0]
abbrev a30_3 : AV := rslc 1 [i1,(jN 88),i0,(jN 92),i0,i0,i0]
abbrev a30_4 : AV := agg [i0,i1,(bool false),(rslc 1 [(uN 36)]),(bool false),(rslc 1 [(uN 1)])]
abbrev a30_5 : AV := agg [(jN 90),i0,i0,i0,i0,i1,i0]
abbrev a30_6 : AV := agg [i1,(jN 84),(nN 5),(jN 96),(nN 5),i0,i0]
abbrev a30_7 : AV := agg [(jN 90),i0]
abbrev a30_8 : AV := agg [i1,(jN 96),(nN 5),(jN 96),i6,i0,i0]
abbrev a30_9 : AV := agg [i1,(jN 84),i6,(jN 84),(nN 5),i0,i0]
abbrev a30_10 : AV := agg [i1,(jN 96),i6,(jN 84),i6,i0,i0]
abbrev a30_11 : AV := agg [i0,i0,(bool false),nils,(bool false),(rslc 1 [(uN 1)])]
def E30_0 : RW41 := (f_edgeCheck,[a30_6],i0)
def E30_1 : RW41 := (f_edgeCheck,[a30_8],i0)
def E30_2 : RW41 := (f_edgeCheck,[a30_10],i0)
def E30_3 : RW41 := (f_edgeCheck,[a30_9],i0)
def E30_4 : RW41 := (f_edgeCheck,[a30_2],i0)
def E30_5 : RW41 := (f_edgeCheck,[(agg [i1,(jN 88),i0,(jN 92),i0,i0,i0])],i0)
def tabE30 : List RW41 := [E30_0,E30_1,E30_2,E30_3,E30_4,E30_5]
def M30_0 : RW41 := (f_shCheck,[(agg [i2,a30_0,i0])],i0)
def M30_1 : RW41 := (f_shBox,[(agg [i2,a30_0,i0])],(agg [(jN 84),(nN 5),(jN 96),i6]))
def M30_2 : RW41 := (f_shInside,[(agg [i2,a30_0,i0]),a30_7],(bool true))
def M30_3 : RW41 := (f_shCheck,[(agg [i1,a30_0,i0])],i0)
def M30_4 : RW41 := (f_meetEdges,[a30_6,a30_2],(bool false))
def M30_5 : RW41 := (f_nearEdges,[a30_6,a30_2],(tup [a30_4,(agg [(jN 84),(nN 5),i12,i0,(jN 72),(jN 144),i0]),a30_5]))
def M30_6 : RW41 := (f_meetEdges,[a30_8,a30_2],(bool false))
def M30_7 : RW41 := (f_nearEdges,[a30_8,a30_2],(tup [a30_4,(agg [(jN 96),(nN 5),i0,i12,(jN 72),(jN 144),i0]),a30_5]))
def M30_8 : RW41 := (f_meetEdges,[a30_10,a30_2],(bool false))
def M30_9 : RW41 := (f_nearEdges,[a30_10,a30_2],(tup [a30_4,(agg [(jN 96),i6,(nN 11),i0,(jN 72),(jN 144),i0]),a30_5]))
def M30_10 : RW41 := (f_meetEdges,[a30_9,a30_2],(bool false))
def M30_11 : RW41 := (f_nearEdges,[a30_9,a30_2],(tup [a30_4,(agg [(jN 84),i6,i0,(nN 11),(jN 72),(jN 144),i0]),a30_5]))
def M30_12 : RW41 := (f_shCheck,[(agg [i1,a30_1,i4])],i0)
def M30_13 : RW41 := (f_shBox,[(agg [i1,a30_1,i4])],(agg [(jN 86),(nN 3),(jN 94),i4]))
def M30_14 : RW41 := (f_shInside,[(agg [i1,a30_1,i4]),a30_7],(bool true))
def M30_15 : RW41 := (f_nearPoint,[a30_2,a30_7],(tup [a30_11,a30_5]))
def M30_16 : RW41 := (f_shCheck,[(agg [i1,a30_1,i5])],i0)
def M30_17 : RW41 := (f_shBox,[(agg [i1,a30_1,i5])],(agg [(jN 85),(nN 4),(jN 95),i5]))
def M30_18 : RW41 := (f_shInside,[(agg [i1,a30_1,i5]),a30_7],(bool true))
def M30_19 : RW41 := (f_shCheck,[(agg [i1,a30_1,i6])],i0)
def M30_20 : RW41 := (f_shBox,[(agg [i1,a30_1,i6])],(agg [(jN 84),(nN 5),(jN 96),i6]))
def M30_21 : RW41 := (f_shInside,[(agg [i1,a30_1,i6]),a30_7],(bool true))
def M30_22 : RW41 := (f_shCheck,[(agg [i1,a30_3,i4])],i0)
def M30_23 : RW41 := (f_shBox,[(agg [i1,a30_3,i4])],(agg [(jN 84),(nN 3),(jN 96),i4]))
def M30_24 : RW41 := (f_shInside,[(agg [i1,a30_3,i4]),a30_7],(bool true))
def M30_25 : RW41 := (f_nearPoint,[(agg [i1,(jN 88),i0,(jN 92),i0,i0,i0]),a30_7],(tup [a30_11,(agg [(jN 88),i0,i4,i0,i8,i16,i0])]))
def tabM30 : List RW41 := [M30_0,M30_1,M30_2,M30_3,M30_4,M30_5,M30_6,M30_7,M30_8,M30_9,M30_10,M30_11,M30_12,M30_13,M30_14,M30_15,M30_16,M30_17,M30_18,M30_19,M30_20,M30_21,M30_22,M30_23,M30_24,M30_25]
def P30_0 : RW41 := (f_padErr,[(agg [(str [80,52]),i2,a30_0,i0,(jN 90),i0,i0])],i0)
def P30_1 : RW41 := (f_padErr,[(agg [(str [80,52]),i2,a30_0,i0,(jN 90),i0,i2])],i0)
def P30_2 : RW41 := (f_padErr,[(agg [(str [80,52]),i2,a30_0,i0,(jN 90),i0,i4])],i0)
def P30_3 : RW41 := (f_padErr,[(agg [(str [80,52]),i2,a30_0,i0,(jN 90),i0,i6])],i0)
def P30_4 : RW41 := (f_padErr,[(agg [(str [80,52]),i1,a30_1,i4,(jN 90),i0,i0])],i0)
def P30_5 : RW41 := (f_padErr,[(agg [(str [80,52]),i1,a30_1,i4,(jN 90),i0,i2])],i0)
def P30_6 : RW41 := (f_padErr,[(agg [(str [80,52]),i1,a30_1,i4,(jN 90),i0,i4])],i0)
def P30_7 : RW41 := (f_padErr,[(agg [(str [80,52]),i1,a30_1,i4,(jN 90),i0,i6])],i0)
def P30_8 : RW41 := (f_padErr,[(agg [(str [80,52]),i1,a30_1,i5,(jN 90),i0,i0])],i0)
def P30_9 : RW41 := (f_padErr,[(agg [(str [80,52]),i1,a30_1,i5,(jN 90),i0,i2])],i0)
def P30_10 : RW41 := (f_padErr,[(agg [(str [80,52]),i1,a30_1,i5,(jN 90),i0,i4])],i0)
def P30_11 : RW41 := (f_padErr,[(agg [(str [80,52]),i1,a30_1,i5,(jN 90),i0,i6])],i0)
def P30_12 : RW41 := (f_padErr,[(agg [(str [80,52]),i1,a30_1,i6,(jN 90),i0,i0])],i0)
def P30_13 : RW41 := (f_padErr,[(agg [(str [80,52]),i1,a30_1,i6,(jN 90),i0,i2])],i0)
def P30_14 : RW41 := (f_padErr,[(agg [(str [80,52]),i1,a30_1,i6,(jN 90),i0,i4])],i0)
def P30_15 : RW41 := (f_padErr,[(agg [(str [80,52]),i1,a30_1,i6,(jN 90),i0,i6])],i0)
def P30_16 : RW41 := (f_padErr,[(agg [(str [80,52]),i1,a30_3,i4,(jN 90),i0,i0])],i0)
def P30_17 : RW41 := (f_padErr,[(agg [(str [80,52]),i1,a30_3,i4,(jN 90),i0,i2])],i0)
def P30_18 : RW41 := (f_padErr,[(agg [(str [80,52]),i1,a30_3,i4,(jN 90),i0,i4])],i0)
def P30_19 : RW41 := (f_padErr,[(agg [(str [80,52]),i1,a30_3,i4,(jN 90),i0,i6])],i0)
def tabP30 : List RW41 := [P30_0,P30_1,P30_2,P30_3,P30_4,P30_5,P30_6,P30_7,P30_8,P30_9,P30_10,P30_11,P30_12,P30_13,P30_14,P30_15,P30_16,P30_17,P30_18,P30_19]
noncomputable abbrev ra30 (r : RW41) : Bool := rowB XR 100 r
theorem hE30_0 : ra30 E30_0 = true := by kernel_rfl
theorem hE30_1 : ra30 E30_1 = true := by kernel_rfl
theorem hE30_2 : ra30 E30_2 = true := by kernel_rfl
theorem hE30_3 : ra30 E30_3 = true := by kernel_rfl
theorem hE30_4 : ra30 E30_4 = true := by kernel_rfl
theorem hE30_5 : ra30 E30_5 = true := by kernel_rfl
theorem rowsE30 : Rows XR tabE30 := .s hE30_0 (.s hE30_1 (.s hE30_2 (.s hE30_3 (.s hE30_4 (.s hE30_5 (.z))))))
noncomputable abbrev rb30 (r : RW41) : Bool := rowB (XEof tabE30) 100 r
theorem hM30_0 : rb30 M30_0 = true := by kernel_rfl
theorem hM30_1 : rb30 M30_1 = true := by kernel_rfl
theorem hM30_2 : rb30 M30_2 = true := by kernel_rfl
theorem hM30_3 : rb30 M30_3 = true := by kernel_rfl
theorem hM30_4 : rb30 M30_4 = true := by kernel_rfl
theorem hM30_5 : rb30 M30_5 = true := by kernel_rfl
theorem hM30_6 : rb30 M30_6 = true := by kernel_rfl
theorem hM30_7 : rb30 M30_7 = true := by kernel_rfl
theorem hM30_8 : rb30 M30_8 = true := by kernel_rfl
theorem hM30_9 : rb30 M30_9 = true := by kernel_rfl
theorem hM30_10 : rb30 M30_10 = true := by kernel_rfl
theorem hM30_11 : rb30 M30_11 = true := by kernel_rfl
theorem hM30_12 : rb30 M30_12 = true := by kernel_rfl
theorem hM30_13 : rb30 M30_13 = true := by kernel_rfl
theorem hM30_14 : rb30 M30_14 = true := by kernel_rfl
theorem hM30_15 : rb30 M30_15 = true := by kernel_rfl
theorem hM30_16 : rb30 M30_16 = true := by kernel_rfl
theorem hM30_17 : rb30 M30_17 = true := by kernel_rfl
theorem hM30_18 : rb30 M30_18 = true := by kernel_rfl
theorem hM30_19 : rb30 M30_19 = true := by kernel_rfl
theorem hM30_20 : rb30 M30_20 = true := by kernel_rfl
theorem hM30_21 : rb30 M30_21 = true := by kernel_rfl
theorem hM30_22 : rb30 M30_22 = true := by kernel_rfl
theorem hM30_23 : rb30 M30_23 = true := by kernel_rfl
theorem hM30_24 : rb30 M30_24 = true := by kernel_rfl
theorem hM30_25 : rb30 M30_25 = true := by kernel_rfl
theorem rowsM30 : Rows (XEof tabE30) tabM30 := .s hM30_0 (.s hM30_1 (.s hM30_2 (.s hM30_3 (.s hM30_4 (.s hM30_5 (.s hM30_6 (.s hM30_7 (.s hM30_8 (.s hM30_9 (.s hM30_10 (.s hM30_11 (.s hM30_12 (.s hM30_13 (.s hM30_14 (.s hM30_15 (.s hM30_16 (.s hM30_17 (.s hM30_18 (.s hM30_19 (.s hM30_20 (.s hM30_21 (.s hM30_22 (.s hM30_23 (.s hM30_24 (.s hM30_25 (.z))))))))))))))))))))))))))
noncomputable abbrev rc30 (r : RW41) : Bool := rowB (XMof tabE30 tabM30) 100 r
theorem hP30_0 : rc30 P30_0 = true := by kernel_rfl
theorem hP30_1 : rc30 P30_1 = true := by kernel_rfl
theorem hP30_2 : rc30 P30_2 = true := by kernel_rfl
theorem hP30_3 : rc30 P30_3 = true := by kernel_rfl
theorem hP30_4 : rc30 P30_4 = true := by kernel_rfl
theorem hP30_5 : rc30 P30_5 = true := by kernel_rfl
theorem hP30_6 : rc30 P30_6 = true := by kernel_rfl
theorem hP30_7 : rc30 P30_7 = true := by kernel_rfl
theorem hP30_8 : rc30 P30_8 = true := by kernel_rfl
theorem hP30_9 : rc30 P30_9 = true := by kernel_rfl
theorem hP30_10 : rc30 P30_10 = true := by kernel_rfl
theorem hP30_11 : rc30 P30_11 = true := by kernel_rfl
theorem hP30_12 : rc30 P30_12 = true := by kernel_rfl
theorem hP30_13 : rc30 P30_13 = true := by kernel_rfl
theorem hP30_14 : rc30 P30_14 = true := by kernel_rfl
theorem hP30_15 : rc30 P30_15 = true := by kernel_rfl
theorem hP30_16 : rc30 P30_16 = true := by kernel_rfl
theorem hP30_17 : rc30 P30_17 = true := by kernel_rfl
theorem hP30_18 : rc30 P30_18 = true := by kernel_rfl
theorem hP30_19 : rc30 P30_19 = true := by kernel_rfl
theorem rowsP30 : Rows (XMof tabE30 tabM30) tabP30 := .s hP30_0 (.s hP30_1 (.s hP30_2 (.s hP30_3 (.s hP30_4 (.s hP30_5 (.s hP30_6 (.s hP30_7 (.s hP30_8 (.s hP30_9 (.s hP30_10 (.s hP30_11 (.s hP30_12 (.s hP30_13 (.s hP30_14 (.s hP30_15 (.s hP30_16 (.s hP30_17 (.s hP30_18 (.s hP30_19 (.z))))))))))))))))))))
end Go.Abs.T
end
section
namespace Go.Abs.T
open AV
set_option maxRecDepth 10000
abbrev a31_0 : AV := rslc 4 [i1,(jN 84),i4,(jN 96),i4,i0,i0,i1,(jN 96),i4,(jN 96),i16,i0,i0,i1,(jN 96),i16,(jN 84),i16,i0,i0,i1,(jN 84),i16,(jN 84),i4,i0,i0]
abbrev a31_1 : AV := rslc 1 [i1,(jN 90),i10,(jN 90),i10,i0,i0]
abbrev a31_2 : AV := agg [i1,(jN 90),i10,(jN 90),i10,i0,i0]
abbrev a31_3 : AV := rslc 1 [i1,(jN 88),i10,(jN 92),i10,i0,i0]
abbrev a31_4 : AV := agg [i0,i1,(bool false),(rslc 1 [(uN 36)]),(bool false),(rslc 1 [(uN 1)])]
abbrev a31_5 : AV := agg [(jN 90),i10,i0,i0,i0,i1,i0]
abbrev a31_6 : AV := agg [(jN 90),i10]
abbrev a31_7 : AV := agg [i1,(jN 96),i16,(jN 84),i16,i0,i0]
abbrev a31_8 : AV := agg [i1,(jN 96),i4,(jN 96),i16,i0,i0]
abbrev a31_9 : AV := agg [i1,(jN 84),i16,(jN 84),i4,i0,i0]
abbrev a31_10 : AV := agg [i1,(jN 84),i4,(jN 96),i4,i0,i0]
abbrev a31_11 : AV := agg [i0,i0,(bool false),nils,(bool false),(rslc 1 [(uN 1)])]
def E31_0 : RW41 := (f_edgeCheck,[a31_10],i0)
def E31_1 : RW41 := (f_edgeCheck,[a31_8],i0)
def E31_2 : RW41 := (f_edgeCheck,[a31_7],i0)
def E31_3 : RW41 := (f_edgeCheck,[a31_9],i0)
def E31_4 : RW41 := (f_edgeCheck,[a31_2],i0)
def E31_5 : RW41 := (f_edgeCheck,[(agg [i1,(jN 88),i10,(jN 92),i10,i0,i0])],i0)
def tabE31 : List RW41 := [E31_0,E31_1,E31_2,E31_3,E31_4,E31_5]
def M31_0 : RW41 := (f_shCheck,[(agg [i2,a31_0,i0])],i0)
def M31_1 : RW41 := (f_shBox,[(agg [i2,a31_0,i0])],(agg [(jN 84),i4,(jN 96),i16]))
def M31_2 : RW41 := (f_shInside,[(agg [i2,a31_0,i0]),a31_6],(bool true))
def M31_3 : RW41 := (f_shCheck,[(agg [i1,a31_0,i0])],i0)
def M31_4 : RW41 := (f_meetEdges,[a31_10,a31_2],(bool false))
def M31_5 : RW41 := (f_nearEdges,[a31_10,a31_2],(tup [a31_4,(agg [(jN 84),i4,i12,i0,(jN 72),(jN 144),i0]),a31_5]))
def M31_6 : RW41 := (f_meetEdges,[a31_8,a31_2],(bool false))
def M31_7 : RW41 := (f_nearEdges,[a31_8,a31_2],(tup [a31_4,(agg [(jN 96),i4,i0,i12,(jN 72),(jN 144),i0]),a31_5]))
def M31_8 : RW41 := (f_meetEdges,[a31_7,a31_2],(bool false))
def M31_9 : RW41 := (f_nearEdges,[a31_7,a31_2],(tup [a31_4,(agg [(jN 96),i16,(nN 11),i0,(jN 72),(jN 144),i0]),a31_5]))
def M31_10 : RW41 := (f_meetEdges,[a31_9,a31_2],(bool false))
def M31_11 : RW41 := (f_nearEdges,[a31_9,a31_2],(tup [a31_4,(agg [(jN 84),i16,i0,(nN 11),(jN 72),(jN 144),i0]),a31_5]))
def M31_12 : RW41 := (f_shCheck,[(agg [i1,a31_1,i4])],i0)
def M31_13 : RW41 := (f_shBox,[(agg [i1,a31_1,i4])],(agg [(jN 86),i6,(jN 94),i14]))
def M31_14 : RW41 := (f_shInside,[(agg [i1,a31_1,i4]),a31_6],(bool true))
def M31_15 : RW41 := (f_nearPoint,[a31_2,a31_6],(tup [a31_11,a31_5]))
def M31_16 : RW41 := (f_shCheck,[(agg [i1,a31_1,i5])],i0)
def M31_17 : RW41 := (f_shBox,[(agg [i1,a31_1,i5])],(agg [(jN 85),i5,(jN 95),i15]))
def M31_18 : RW41 := (f_shInside,[(agg [i1,a31_1,i5]),a31_6],(bool true))
def M31_19 : RW41 := (f_shCheck,[(agg [i1,a31_1,i6])],i0)
def M31_20 : RW41 := (f_shBox,[(agg [i1,a31_1,i6])],(agg [(jN 84),i4,(jN 96),i16]))
def M31_21 : RW41 := (f_shInside,[(agg [i1,a31_1,i6]),a31_6],(bool true))
def M31_22 : RW41 := (f_shCheck,[(agg [i1,a31_3,i4])],i0)
def M31_23 : RW41 := (f_shBox,[(agg [i1,a31_3,i4])],(agg [(jN 84),i6,(jN 96),i14]))
def M31_24 : RW41 := (f_shInside,[(agg [i1,a31_3,i4]),a31_6],(bool true))
def M31_25 : RW41 := (f_nearPoint,[(agg [i1,(jN 88),i10,(jN 92),i10,i0,i0]),a31_6],(tup [a31_11,(agg [(jN 88),i10,i4,i0,i8,i16,i0])]))
def tabM31 : List RW41 := [M31_0,M31_1,M31_2,M31_3,M31_4,M31_5,M31_6,M31_7,M31_8,M31_9,M31_10,M31_11,M31_12,M31_13,M31_14,M31_15,M31_16,M31_17,M31_18,M31_19,M31_20,M31_21,M31_22,M31_23,M31_24,M31_25]
def P31_0 : RW41 := (f_padErr,[(agg [(str [80,52]),i2,a31_0,i0,(jN 90),i10,i0])],i0)
def P31_1 : RW41 := (f_padErr,[(agg [(str [80,52]),i2,a31_0,i0,(jN 90),i10,i2])],i0)
def P31_2 : RW41 := (f_padErr,[(agg [(str [80,52]),i2,a31_0,i0,(jN 90),i10,i4])],i0)
def P31_3 : RW41 := (f_padErr,[(agg [(str [80,52]),i2,a31_0,i0,(jN 90),i10,i6])],i0)
def P31_4 : RW41 := (f_padErr,[(agg [(str [80,52]),i1,a31_1,i4,(jN 90),i10,i0])],i0)
def P31_5 : RW41 := (f_padErr,[(agg [(str [80,52]),i1,a31_1,i4,(jN 90),i10,i2])],i0)
def P31_6 : RW41 := (f_padErr,[(agg [(str [80,52]),i1,a31_1,i4,(jN 90),i10,i4])],i0)
def P31_7 : RW41 := (f_padErr,[(agg [(str [80,52]),i1,a31_1,i4,(jN 90),i10,i6])],i0)
def P31_8 : RW41 := (f_padErr,[(agg [(str [80,52]),i1,a31_1,i5,(jN 90),i10,i0])],i0)
def P31_9 : RW41 := (f_padErr,[(agg [(str [80,52]),i1,a31_1,i5,(jN 90),i10,i2])],i0)
def P31_10 : RW41 := (f_padErr,[(agg [(str [80,52]),i1,a31_1,i5,(jN 90),i10,i4])],i0)
def P31_11 : RW41 := (f_padErr,[(agg [(str [80,52]),i1,a31_1,i5,(jN 90),i10,i6])],i0)
def P31_12 : RW41 := (f_padErr,[(agg [(str [80,52]),i1,a31_1,i6,(jN 90),i10,i0])],i0)
def P31_13 : RW41 := (f_padErr,[(agg [(str [80,52]),i1,a31_1,i6,(jN 90),i10,i2])],i0)
def P31_14 : RW41 := (f_padErr,[(agg [(str [80,52]),i1,a31_1,i6,(jN 90),i10,i4])],i0)
def P31_15 : RW41 := (f_padErr,[(agg [(str [80,52]),i1,a31_1,i6,(jN 90),i10,i6])],i0)
def P31_16 : RW41 := (f_padErr,[(agg [(str [80,52]),i1,a31_3,i4,(jN 90),i10,i0])],i0)
def P31_17 : RW41 := (f_padErr,[(agg [(str [80,52]),i1,a31_3,i4,(jN 90),i10,i2])],i0)
def P31_18 : RW41 := (f_padErr,[(agg [(str [80,52]),i1,a31_3,i4,(jN 90),i10,i4])],i0)
def P31_19 : RW41 := (f_padErr,[(agg [(str [80,52]),i1,a31_3,i4,(jN 90),i10,i6])],i0)
def tabP31 : List RW41 := [P31_0,P31_1,P31_2,P31_3,P31_4,P31_5,P31_6,P31_7,P31_8,P31_9,P31_10,P31_11,P31_12,P31_13,P31_14,P31_15,P31_16,P31_17,P31_18,P31_19]
noncomputable abbrev ra31 (r : RW41) : Bool := rowB XR 100 r
theorem hE31_0 : ra31 E31_0 = true := by kernel_rfl
theorem hE31_1 : ra31 E31_1 = true := by kernel_rfl
theorem hE31_2 : ra31 E31_2 = true := by kernel_rfl
theorem hE31_3 : ra31 E31_3 = true := by kernel_rfl
theorem hE31_4 : ra31 E31_4 = true := by kernel_rfl
theorem hE31_5 : ra31 E31_5 = true := by kernel_rfl
theorem rowsE31 : Rows XR tabE31 := .s hE31_0 (.s hE31_1 (.s hE31_2 (.s hE31_3 (.s hE31_4 (.s hE31_5 (.z))))))
noncomputable abbrev rb31 (r : RW41) : Bool := rowB (XEof tabE31) 100 r
theorem hM31_0 : rb31 M31_0 = true := by kernel_rfl
theorem hM31_1 : rb31 M31_1 = true := by kernel_rfl
theorem hM31_2 : rb31 M31_2 = true := by kernel_rfl
theorem hM31_3 : rb31 M31_3 = true := by kernel_rfl
theorem hM31_4 : rb31 M31_4 = true := by kernel_rfl
theorem hM31_5 : rb31 M31_5 = true := by kernel_rfl
theorem hM31_6 : rb31 M31_6 = true := by kernel_rfl
theorem hM31_7 : rb31 M31_7 = true := by kernel_rfl
theorem hM31_8 : rb31 M31_8 = true := by kernel_rfl
theorem hM31_9 : rb31 M31_9 = true := by kernel_rfl
theorem hM31_10 : rb31 M31_10 = true := by kernel_rfl
theorem hM31_11 : rb31 M31_11 = true := by kernel_rfl
theorem hM31_12 : rb31 M31_12 = true := by kernel_rfl
theorem hM31_13 : rb31 M31_13 = true := by kernel_rfl
theorem hM31_14 : rb31 M31_14 = true := by kernel_rfl
theorem hM31_15 : rb31 M31_15 = true := by kernel_rfl
theorem hM31_16 : rb31 M31_16 = true := by kernel_rfl
theorem hM31_17 : rb31 M31_17 = true := by kernel_rfl
theorem hM31_18 : rb31 M31_18 = true := by kernel_rfl
theorem hM31_19 : rb31 M31_19 = true := by kernel_rfl
theorem hM31_20 : rb31 M31_20 = true := by kernel_rfl
theorem hM31_21 : rb31 M31_21 = true := by kernel_rfl
theorem hM31_22 : rb31 M31_22 = true := by kernel_rfl
theorem hM31_23 : rb31 M31_23 = true := by kernel_rfl
theorem hM31_24 : rb31 M31_24 = true := by kernel_rfl
theorem hM31_25 : rb31 M31_25 = true := by kernel_rfl
theorem rowsM31 : Rows (XEof tabE31) tabM31 := .s hM31_0 (.s hM31_1 (.s hM31_2 (.s hM31_3 (.s hM31_4 (.s hM31_5 (.s hM31_6 (.s hM31_7 (.s hM31_8 (.s hM31_9 (.s hM31_10 (.s hM31_11 (.s hM31_12 (.s hM31_13 (.s hM31_14 (.s hM31_15 (.s hM31_16 (.s hM31_17 (.s hM31_18 (.s hM31_19 (.s hM31_20 (.s hM31_21 (.s hM31_22 (.s hM31_23 (.s hM31_24 (.s hM31_25 (.z))))))))))))))))))))))))))
noncomputable abbrev rc31 (r : RW41) : Bool := rowB (XMof tabE31 tabM31) 100 r
theorem hP31_0 : rc31 P31_0 = true := by kernel_rfl
theorem hP31_1 : rc31 P31_1 = true := by kernel_rfl
theorem hP31_2 : rc31 P31_2 = true := by kernel_rfl
theorem hP31_3 : rc31 P31_3 = true := by kernel_rfl
theorem hP31_4 : rc31 P31_4 = true := by kernel_rfl
theorem hP31_5 : rc31 P31_5 = true := by kernel_rfl
theorem hP31_6 : rc31 P31_6 = true := by kernel_rfl
theorem hP31_7 : rc31 P31_7 = true := by kernel_rfl
theorem hP31_8 : rc31 P31_8 = true := by kernel_rfl
theorem hP31_9 : rc31 P31_9 = true := by kernel_rfl
theorem hP31_10 : rc31 P31_10 = true := by kernel_rfl
theorem hP31_11 : rc31 P31_11 = true := by kernel_rfl
theorem hP31_12 : rc31 P31_12 = true := by kernel_rfl
theorem hP31_13 : rc31 P31_13 = true := by kernel_rfl
theorem hP31_14 : rc31 P31_14 = true := by kernel_rfl
theorem hP31_15 : rc31 P31_15 = true := by kernel_rfl
theorem hP31_16 : rc31 P31_16 = true := by kernel_rfl
theorem hP31_17 : rc31 P31_17 = true := by kernel_rfl
theorem hP31_18 : rc31 P31_18 = true := by kernel_rfl
theorem hP31_19 : rc31 P31_19 = true := by kernel_rfl
theorem rowsP31 : Rows (XMof tabE31 tabM31) tabP31 := .s hP31_0 (.s hP31_1 (.s hP31_2 (.s hP31_3 (.s hP31_4 (.s hP31_5 (.s hP31_6 (.s hP31_7 (.s hP31_8 (.s hP31_9 (.s hP31_10 (.s hP31_11 (.s hP31_12 (.s hP31_13 (.s hP31_14 (.s hP31_15 (.s hP31_16 (.s hP31_17 (.s hP31_18 (.s hP31_19 (.z))))))))))))))))))))
end Go.Abs.T
end
section
namespace Go.Abs.T
open AV
set_option maxRecDepth 10000
abbrev a40_0 : AV := rslc 4 [i1,(jN 114),(nN 5),(jN 126),(nN 5),i0,i0,i1,(jN 126),(nN 5),(jN 126),i6,i0,i0,i1,(jN 126),i6,(jN 114),i6,i0,i0,i1,(jN 114),i6,(jN 114),(nN 5),i0,i0]
abbrev a40_1 : AV := rslc 1 [i1,(jN 120),i0,(jN 120),i0,i0,i0]
abbrev a40_2 : AV := agg [i1,(jN 120),i0,(jN 120),i0,i0,i0]
abbrev a40_3 : AV := rslc 1 [i1,(jN 118),i0,(jN 122),i0,i0,i0]
abbrev a40_4 : AV := agg [i0,i1,(bool false),(rslc 1 [(uN 36)]),(bool false),(rslc 1 [(uN 1)])]
abbrev a40_5 : AV := agg [(jN 120),i0,i0,i0,i0,i1,i0]
abbrev a40_6 : AV := agg [i1,(jN 114),(nN 5),(jN 126),(nN 5),i0,i0]
abbrev a40_7 : AV := agg [(jN 120),i0]
abbrev a40_8 : AV := agg [i1,(jN 126),(nN 5),(jN 126),i6,i0,i0]
abbrev a40_9 : AV := agg [i1,(jN 114),i6,(jN 114),(nN 5),i0,i0]
abbrev a40_10 : AV := agg [i1,(jN 126),i6,(jN 114),i6,i0,i0]
abbrev a40_11 : AV := agg [i0,i0,(bool false),nils,(bool false),(rslc 1 [(uN 1)])]
def E40_0 : RW41 := (f_edgeCheck,[a40_6],i0)
def E40_1 : RW41 := (f_edgeCheck,[a40_8],i0)
def E40_2 : RW41 := (f_edgeCheck,[a40_10],i0)
def E40_3 : RW41 := (f_edgeCheck,[a40_9],i0)
def E40_4 : RW41 := (f_edgeCheck,[a40_2],i0)
def E40_5 : RW41 := (f_edgeCheck,[(agg [i1,(jN 118),i0,(jN 122),i0,i0,i0])],i0)
def tabE40 : List RW41 := [E40_0,E40_1,E40_2,E40_3,E40_4,E40_5]
def M40_0 : RW41 := (f_shCheck,[(agg [i2,a40_0,i0])],i0)
def M40_1 : RW41 := (f_shBox,[(agg [i2,a40_0,i0])],(agg [(jN 114),(nN 5),(jN 126),i6]))
def M40_2 : RW41 := (f_shInside,[(agg [i2,a40_0,i0]),a40_7],(bool true))
def M40_3 : RW41 := (f_shCheck,[(agg [i1,a40_0,i0])],i0)
def M40_4 : RW41 := (f_meetEdges,[a40_6,a40_2],(bool false))
def M40_5 : RW41 := (f_nearEdges,[a40_6,a40_2],(tup [a40_4,(agg [(jN 114),(nN 5),i12,i0,(jN 72),(jN 144),i0]),a40_5]))
def M40_6 : RW41 := (f_meetEdges,[a40_8,a40_2],(bool false))
def M40_7 : RW41 := (f_nearEdges,[a40_8,a40_2],(tup [a40_4,(agg [(jN 126),(nN 5),i0,i12,(jN 72),(jN 144),i0]),a40_5]))
def M40_8 : RW41 := (f_meetEdges,[a40_10,a40_2],(bool false))
def M40_9 : RW41 := (f_nearEdges,[a40_10,a40_2],(tup [a40_4,(agg [(jN 126),i6,(nN 11),i0,(jN 72),(jN 144),i0]),a40_5]))
def M40_10 : RW41 := (f_meetEdges,[a40_9,a40_2],(bool false))
def M40_11 : RW41 := (f_nearEdges,[a40_9,a40_2],(tup [a40_4,(agg [(jN 114),i6,i0,(nN 11),(jN 72),(jN 144),i0]),a40_5]))
def M40_12 : RW41 := (f_shCheck,[(agg [i1,a40_1,i4])],i0)
def M40_13 : RW41 := (f_shBox,[(agg [i1,a40_1,i4])],(agg [(jN 116),(nN 3),(jN 124),i4]))
def M40_14 : RW41 := (f_shInside,[(agg [i1,a40_1,i4]),a40_7],(bool true))
def M40_15 : RW41 := (f_nearPoint,[a40_2,a40_7],(tup [a40_11,a40_5]))
def M40_16 : RW41 := (f_shCheck,[(agg [i1,a40_1,i5])],i0)
def M40_17 : RW41 := (f_shBox,[(agg [i1,a40_1,i5])],(agg [(jN 115),(nN 4),(jN 125),i5]))
def M40_18 : RW41 := (f_shInside,[(agg [i1,a40_1,i5]),a40_7],(bool true))
def M40_19 : RW41 := (f_shCheck,[(agg [i1,a40_1,i6])],i0)
def M40_20 : RW41 := (f_shBox,[(agg [i1,a40_1,i6])],(agg [(jN 114),(nN 5),(jN 126),i6]))
def M40_21 : RW41 := (f_shInside,[(agg [i1,a40_1,i6]),a40_7],(bool true))
def M40_22 : RW41 := (f_shCheck,[(agg [i1,a40_3,i4])],i0)
def M40_23 : RW41 := (f_shBox,[(agg [i1,a40_3,i4])],(agg [(jN 114),(nN 3),(jN 126),i4]))
def M40_24 : RW41 := (f_shInside,[(agg [i1,a40_3,i4]),a40_7],(bool true))
def M40_25 : RW41 := (f_nearPoint,[(agg [i1,(jN 118),i0,(jN 122),i0,i0,i0]),a40_7],(tup [a40_11,(agg [(jN 118),i0,i4,i0,i8,i16,i0])]))
def tabM40 : List RW41 := [M40_0,M40_1,M40_2,M40_3,M40_4,M40_5,M40_6,M40_7,M40_8,M40_9,M40_10,M40_11,M40_12,M40_13,M40_14,M40_15,M40_16,M40_17,M40_18,M40_19,M40_20,M40_21,M40_22,M40_23,M40_24,M40_25]
def P40_0 : RW41 := (f_padErr,[(agg [(str [80,53]),i2,a40_0,i0,(jN 120),i0,i0])],i0)
def P40_1 : RW41 := (f_padErr,[(agg [(str [80,53]),i2,a40_0,i0,(jN 120),i0,i2])],i0)
def P40_2 : RW41 := (f_padErr,[(agg [(str [80,53]),i2,a40_0,i0,(jN 120),i0,i4])],i0)
def P40_3 : RW41 := (f_padErr,[(agg [(str [80,53]),i2,a40_0,i0,(jN 120),i0,i6])],i0)
def P40_4 : RW41 := (f_padErr,[(agg [(str [80,53]),i1,a40_1,i4,(jN 120),i0,i0])],i0)
def P40_5 : RW41 := (f_padErr,[(agg [(str [80,53]),i1,a40_1,i4,(jN 120),i0,i2])],i0)
def P40_6 : RW41 := (f_padErr,[(agg [(str [80,53]),i1,a40_1,i4,(jN 120),i0,i4])],i0)
def P40_7 : RW41 := (f_padErr,[(agg [(str [80,53]),i1,a40_1,i4,(jN 120),i0,i6])],i0)
def P40_8 : RW41 := (f_padErr,[(agg [(str [80,53]),i1,a40_1,i5,(jN 120),i0,i0])],i0)
def P40_9 : RW41 := (f_padErr,[(agg [(str [80,53]),i1,a40_1,i5,(jN 120),i0,i2])],i0)
def P40_10 : RW41 := (f_padErr,[(agg [(str [80,53]),i1,a40_1,i5,(jN 120),i0,i4])],i0)
def P40_11 : RW41 := (f_padErr,[(agg [(str [80,53]),i1,a40_1,i5,(jN 120),i0,i6])],i0)
def P40_12 : RW41 := (f_padErr,[(agg [(str [80,53]),i1,a40_1,i6,(jN 120),i0,i0])],i0)
def P40_13 : RW41 := (f_padErr,[(agg [(str [80,53]),i1,a40_1,i6,(jN 120),i0,i2])],i0)
def P40_14 : RW41 := (f_padErr,[(agg [(str [80,53]),i1,a40_1,i6,(jN 120),i0,i4])],i0)
def P40_15 : RW41 := (f_padErr,[(agg [(str [80,53]),i1,a40_1,i6,(jN 120),i0,i6])],i0)
def P40_16 : RW41 := (f_padErr,[(agg [(str [80,53]),i1,a40_3,i4,(jN 120),i0,i0])],i0)
def P40_17 : RW41 := (f_padErr,[(agg [(str [80,53]),i1,a40_3,i4,(jN 120),i0,i2])],i0)
def P40_18 : RW41 := (f_padErr,[(agg [(str [80,53]),i1,a40_3,i4,(jN 120),i0,i4])],i0)
def P40_19 : RW41 := (f_padErr,[(agg [(str [80,53]),i1,a40_3,i4,(jN 120),i0,i6])],i0)
def tabP40 : List RW41 := [P40_0,P40_1,P40_2,P40_3,P40_4,P40_5,P40_6,P40_7,P40_8,P40_9,P40_10,P40_11,P40_12,P40_13,P40_14,P40_15,P40_16,P40_17,P40_18,P40_19]
noncomputable abbrev ra40 (r : RW41) : Bool := rowB XR 100 r
theorem hE40_0 : ra40 E40_0 = true := by kernel_rfl
theorem hE40_1 : ra40 E40_1 = true := by kernel_rfl
theorem hE40_2 : ra40 E40_2 = true := by kernel_rfl
theorem hE40_3 : ra40 E40_3 = true := by kernel_rfl
theorem hE40_4 : ra40 E40_4 = true := by kernel_rfl
theorem hE40_5 : ra40 E40_5 = true := by kernel_rfl
theorem rowsE40 : Rows XR tabE40 := .s hE40_0 (.s hE40_1 (.s hE40_2 (.s hE40_3 (.s hE40_4 (.s hE40_5 (.z))))))
noncomputable abbrev rb40 (r : RW41) : Bool := rowB (XEof tabE40) 100 r
theorem hM40_0 : rb40 M40_0 = true := by kernel_rfl
theorem hM40_1 : rb40 M40_1 = true := by kernel_rfl
theorem hM40_2 : rb40 M40_2 = true := by kernel_rfl
theorem hM40_3 : rb40 M40_3 = true := by kernel_rfl
theorem hM40_4 : rb40 M40_4 = true := by kernel_rfl
theorem hM40_5 : rb40 M40_5 = true := by kernel_rfl
theorem hM40_6 : rb40 M40_6 = true := by kernel_rfl
theorem hM40_7 : rb40 M40_7 = true := by kernel_rfl
theorem hM40_8 : rb40 M40_8 = true := by kernel_rfl
theorem hM40_9 : rb40 M40_9 = true := by kernel_rfl
theorem hM40_10 : rb40 M40_10 = true := by kernel_rfl
theorem hM40_11 : rb40 M40_11 = true := by kernel_rfl
theorem hM40_12 : rb40 M40_12 = true := by kernel_rfl
theorem hM40_13 : rb40 M40_13 = true := by kernel_rfl
theorem hM40_14 : rb40 M40_14 = true := by kernel_rfl
theorem hM40_15 : rb40 M40_15 = true := by kernel_rfl
theorem hM40_16 : rb40 M40_16 = true := by kernel_rfl
theorem hM40_17 : rb40 M40_17 = true := by kernel_rfl
theorem hM40_18 : rb40 M40_18 = true := by kernel_rfl
theorem hM40_19 : rb40 M40_19 = true := by kernel_rfl
theorem hM40_20 : rb40 M40_20 = true := by kernel_rfl
theorem hM40_21 : rb40 M40_21 = true := by kernel_rfl
theorem hM40_22 : rb40 M40_22 = true := by kernel_rfl
theorem hM40_23 : rb40 M40_23 = true := by kernel_rfl
theorem hM40_24 : rb40 M40_24 = true := by kernel_rfl
theorem hM40_25 : rb40 M40_25 = true := by kernel_rfl
theorem rowsM40 : Rows (XEof tabE40) tabM40 := .s hM40_0 (.s hM40_1 (.s hM40_2 (.s hM40_3 (.s hM40_4 (.s hM40_5 (.s hM40_6 (.s hM40_7 (.s hM40_8 (.s hM40_9 (.s hM40_10 (.s hM40_11 (.s hM40_12 (.s hM40_13 (.s hM40_14 (.s hM40_15 (.s hM40_16 (.s hM40_17 (.s hM40_18 (.s hM40_19 (.s hM40_20 (.s hM40_21 (.s hM40_22 (.s hM40_23 (.s hM40_24 (.s hM40_25 (.z))))))))))))))))))))))))))
noncomputable abbrev rc40 (r : RW41) : Bool := rowB (XMof tabE40 tabM40) 100 r
theorem hP40_0 : rc40 P40_0 = true := by kernel_rfl
theorem hP40_1 : rc40 P40_1 = true := by kernel_rfl
theorem hP40_2 : rc40 P40_2 = true := by kernel_rfl
theorem hP40_3 : rc40 P40_3 = true := by kernel_rfl
theorem hP40_4 : rc40 P40_4 = true := by kernel_rfl
theorem hP40_5 : rc40 P40_5 = true := by kernel_rfl
theorem hP40_6 : rc40 P40_6 = true := by kernel_rfl
theorem hP40_7 : rc40 P40_7 = true := by kernel_rfl
theorem hP40_8 : rc40 P40_8 = true := by kernel_rfl
theorem hP40_9 : rc40 P40_9 = true := by kernel_rfl
theorem hP40_10 : rc40 P40_10 = true := by kernel_rfl
theorem hP40_11 : rc40 P40_11 = true := by kernel_rfl
theorem hP40_12 : rc40 P40_12 = true := by kernel_rfl
theorem hP40_13 : rc40 P40_13 = true := by kernel_rfl
theorem hP40_14 : rc40 P40_14 = true := by kernel_rfl
theorem hP40_15 : rc40 P40_15 = true := by kernel_rfl
theorem hP40_16 : rc40 P40_16 = true := by kernel_rfl
theorem hP40_17 : rc40 P40_17 = true := by kernel_rfl
theorem hP40_18 : rc40 P40_18 = true := by kernel_rfl
theorem hP40_19 : rc40 P40_19 = true := by kernel_rfl
theorem rowsP40 : Rows (XMof tabE40 tabM40) tabP40 := .s hP40_0 (.s hP40_1 (.s hP40_2 (.s hP40_3 (.s hP40_4 (.s hP40_5 (.s hP40_6 (.s hP40_7 (.s hP40_8 (.s hP40_9 (.s hP40_10 (.s hP40_11 (.s hP40_12 (.s hP40_13 (.s hP40_14 (.s hP40_15 (.s hP40_16 (.s hP40_17 (.s hP40_18 (.s hP40_19 (.z))))))))))))))))))))
end Go.Abs.T
end
