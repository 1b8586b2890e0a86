/- A part of the proof that LibSwaps answers true at every input: AbsKp41, AbsKp50, AbsKp51. -/
import Derived.Test.YtgmgakdkheemkaaGreatDoorL21
section
namespace Go.Abs.T
open AV
abbrev RW42 : Type := Pth × List AV × AV
set_option maxRecDepth 10000
abbrev a41_0 : AV := rslc 4 [i1,(jN 114),i4,(jN 126),i4,i0,i0,i1,(jN 126),i4,(jN 126),i16,i0,i0,i1,(jN 126),i16,(jN 114),i16,i0,i0,i1,(jN 114),i16,(jN 114),i4,i0,i0]
abbrev a41_1 : AV := rslc 1 [i1,(jN 120),i10,(jN 120),i10,i0,i0]
abbrev a41_2 : AV := agg [i1,(jN 120),i10,(jN 120),i10,i0,i0]
abbrev a41_3 : AV := rslc 1 [i1,(jN 118),i10,(jN 122),i10,i0,i0]
abbrev a41_4 : AV := agg [i0,i1,(bool false),(rslc 1 [(uN 36)]),(bool false),(rslc 1 [(uN 1)])]
abbrev a41_5 : AV := agg [(jN 120),i10,i0,i0,i0,i1,i0]
abbrev a41_6 : AV := agg [(jN 120),i10]
abbrev a41_7 : AV := agg [i1,(jN 126),i16,(jN 114),i16,i0,i0]
abbrev a41_8 : AV := agg [i1,(jN 126),i4,(jN 126),i16,i0,i0]
abbrev a41_9 : AV := agg [i1,(jN 114),i16,(jN 114),i4,i0,i0]
abbrev a41_10 : AV := agg [i1,(jN 114),i4,(jN 126),i4,i0,i0]
abbrev a41_11 : AV := agg [i0,i0,(bool false),nils,(bool false),(rslc 1 [(uN 1)])]
def E41_0 : RW42 := (f_edgeCheck,[a41_10],i0)
def E41_1 : RW42 := (f_edgeCheck,[a41_8],i0)
def E41_2 : RW42 := (f_edgeCheck,[a41_7],i0)
def E41_3 : RW42 := (f_edgeCheck,[a41_9],i0)
def E41_4 : RW42 := (f_edgeCheck,[a41_2],i0)
def E41_5 : RW42 := (f_edgeCheck,[(agg [i1,(jN 118),i10,(jN 122),i10,i0,i0])],i0)
def tabE41 : List RW42 := [E41_0,E41_1,E41_2,E41_3,E41_4,E41_5]
def M41_0 : RW42 := (f_shCheck,[(agg [i2,a41_0,i0])],i0)
def M41_1 : RW42 := (f_shBox,[(agg [i2,a41_0,i0])],(agg [(jN 114),i4,(jN 126),i16]))
def M41_2 : RW42 := (f_shInside,[(agg [i2,a41_0,i0]),a41_6],(bool true))
def M41_3 : RW42 := (f_shCheck,[(agg [i1,a41_0,i0])],i0)
def M41_4 : RW42 := (f_meetEdges,[a41_10,a41_2],(bool false))
def M41_5 : RW42 := (f_nearEdges,[a41_10,a41_2],(tup [a41_4,(agg [(jN 114),i4,i12,i0,(jN 72),(jN 144),i0]),a41_5]))
def M41_6 : RW42 := (f_meetEdges,[a41_8,a41_2],(bool false))
def M41_7 : RW42 := (f_nearEdges,[a41_8,a41_2],(tup [a41_4,(agg [(jN 126),i4,i0,i12,(jN 72),(jN 144),i0]),a41_5]))
def M41_8 : RW42 := (f_meetEdges,[a41_7,a41_2],(bool false))
def M41_9 : RW42 := (f_nearEdges,[a41_7,a41_2],(tup [a41_4,(agg [(jN 126),i16,(nN 11),i0,(jN 72),(jN 144),i0]),a41_5]))
def M41_10 : RW42 := (f_meetEdges,[a41_9,a41_2],(bool false))
def M41_11 : RW42 := (f_nearEdges,[a41_9,a41_2],(tup [a41_4,(agg [(jN 114),i16,i0,(nN 11),(jN 72),(jN 144),i0]),a41_5]))
def M41_12 : RW42 := (f_shCheck,[(agg [i1,a41_1,i4])],i0)
def M41_13 : RW42 := (f_shBox,[(agg [i1,a41_1,i4])],(agg [(jN 116),i6,(jN 124),i14]))
def M41_14 : RW42 := (f_shInside,[(agg [i1,a41_1,i4]),a41_6],(bool true))
def M41_15 : RW42 := (f_nearPoint,[a41_2,a41_6],(tup [a41_11,a41_5]))
def M41_16 : RW42 := (f_shCheck,[(agg [i1,a41_1,i5])],i0)
def M41_17 : RW42 := (f_shBox,[(agg [i1,a41_1,i5])],(agg [(jN 115),i5,(jN 125),i15]))
def M41_18 : RW42 := (f_shInside,[(agg [i1,a41_1,i5]),a41_6],(bool true))
def M41_19 : RW42 := (f_shCheck,[(agg [i1,a41_1,i6])],i0)
def M41_20 : RW42 := (f_shBox,[(agg [i1,a41_1,i6])],(agg [(jN 114),i4,(jN 126),i16]))
def M41_21 : RW42 := (f_shInside,[(agg [i1,a41_1,i6]),a41_6],(bool true))
def M41_22 : RW42 := (f_shCheck,[(agg [i1,a41_3,i4])],i0)
def M41_23 : RW42 := (f_shBox,[(agg [i1,a41_3,i4])],(agg [(jN 114),i6,(jN 126),i14]))
def M41_24 : RW42 := (f_shInside,[(agg [i1,a41_3,i4]),a41_6],(bool true))
def M41_25 : RW42 := (f_nearPoint,[(agg [i1,(jN 118),i10,(jN 122),i10,i0,i0]),a41_6],(tup [a41_11,(agg [(jN 118),i10,i4,i0,i8,i16,i0])]))
def tabM41 : List RW42 := [M41_0,M41_1,M41_2,M41_3,M41_4,M41_5,M41_6,M41_7,M41_8,M41_9,M41_10,M41_11,M41_12,M41_13,M41_14,M41_15,M41_16,M41_17,M41_18,M41_19,M41_20,M41_21,M41_22,M41_23,M41_24,M41_25]
def P41_0 : RW42 := (f_padErr,[(agg [(str [80,53]),i2,a41_0,i0,(jN 120),i10,i0])],i0)
def P41_1 : RW42 := (f_padErr,[(agg [(str [80,53]),i2,a41_0,i0,(jN 120),i10,i2])],i0)
def P41_2 : RW42 := (f_padErr,[(agg [(str [80,53]),i2,a41_0,i0,(jN 120),i10,i4])],i0)
def P41_3 : RW42 := (f_padErr,[(agg [(str [80,53]),i2,a41_0,i0,(jN 120),i10,i6])],i0)
def P41_4 : RW42 := (f_padErr,[(agg [(str [80,53]),i1,a41_1,i4,(jN 120),i10,i0])],i0)
def P41_5 : RW42 := (f_padErr,[(agg [(str [80,53]),i1,a41_1,i4,(jN 120),i10,i2])],i0)
def P41_6 : RW42 := (f_padErr,[(agg [(str [80,53]),i1,a41_1,i4,(jN 120),i10,i4])],i0)
def P41_7 : RW42 := (f_padErr,[(agg [(str [80,53]),i1,a41_1,i4,(jN 120),i10,i6])],i0)
def P41_8 : RW42 := (f_padErr,[(agg [(str [80,53]),i1,a41_1,i5,(jN 120),i10,i0])],i0)
def P41_9 : RW42 := (f_padErr,[(agg [(str [80,53]),i1,a41_1,i5,(jN 120),i10,i2])],i0)
def P41_10 : RW42 := (f_padErr,[(agg [(str [80,53]),i1,a41_1,i5,(jN 120),i10,i4])],i0)
def P41_11 : RW42 := (f_padErr,[(agg [(str [80,53]),i1,a41_1,i5,(jN 120),i10,i6])],i0)
def P41_12 : RW42 := (f_padErr,[(agg [(str [80,53]),i1,a41_1,i6,(jN 120),i10,i0])],i0)
def P41_13 : RW42 := (f_padErr,[(agg [(str [80,53]),i1,a41_1,i6,(jN 120),i10,i2])],i0)
def P41_14 : RW42 := (f_padErr,[(agg [(str [80,53]),i1,a41_1,i6,(jN 120),i10,i4])],i0)
def P41_15 : RW42 := (f_padErr,[(agg [(str [80,53]),i1,a41_1,i6,(jN 120),i10,i6])],i0)
def P41_16 : RW42 := (f_padErr,[(agg [(str [80,53]),i1,a41_3,i4,(jN 120),i10,i0])],i0)
def P41_17 : RW42 := (f_padErr,[(agg [(str [80,53]),i1,a41_3,i4,(jN 120),i10,i2])],i0)
def P41_18 : RW42 := (f_padErr,[(agg [(str [80,53]),i1,a41_3,i4,(jN 120),i10,i4])],i0)
def P41_19 : RW42 := (f_padErr,[(agg [(str [80,53]),i1,a41_3,i4,(jN 120),i10,i6])],i0)
def tabP41 : List RW42 := [P41_0,P41_1,P41_2,P41_3,P41_4,P41_5,P41_6,P41_7,P41_8,P41_9,P41_10,P41_11,P41_12,P41_13,P41_14,P41_15,P41_16,P41_17,P41_18,P41_19]
noncomputable abbrev ra41 (r : RW42) : Bool := rowB XR 100 r
theorem hE41_0 : ra41 E41_0 = true := by kernel_rfl
theorem hE41_1 : ra41 E41_1 = true := by kernel_rfl
theorem hE41_2 : ra41 E41_2 = true := by kernel_rfl
theorem hE41_3 : ra41 E41_3 = true := by kernel_rfl
theorem hE41_4 : ra41 E41_4 = true := by kernel_rfl
theorem hE41_5 : ra41 E41_5 = true := by kernel_rfl
theorem rowsE41 : Rows XR tabE41 := .s hE41_0 (.s hE41_1 (.s hE41_2 (.s hE41_3 (.s hE41_4 (.s hE41_5 (.z))))))
noncomputable abbrev rb41 (r : RW42) : Bool := rowB (XEof tabE41) 100 r
theorem hM41_0 : rb41 M41_0 = true := by kernel_rfl
theorem hM41_1 : rb41 M41_1 = true := by kernel_rfl
theorem hM41_2 : rb41 M41_2 = true := by kernel_rfl
theorem hM41_3 : rb41 M41_3 = true := by kernel_rfl
theorem hM41_4 : rb41 M41_4 = true := by kernel_rfl
theorem hM41_5 : rb41 M41_5 = true := by kernel_rfl
theorem hM41_6 : rb41 M41_6 = true := by kernel_rfl
theorem hM41_7 : rb41 M41_7 = true := by kernel_rfl
theorem hM41_8 : rb41 M41_8 = true := by kernel_rfl
theorem hM41_9 : rb41 M41_9 = true := by kernel_rfl
theorem hM41_10 : rb41 M41_10 = true := by kernel_rfl
theorem hM41_11 : rb41 M41_11 = true := by kernel_rfl
theorem hM41_12 : rb41 M41_12 = true := by kernel_rfl
theorem hM41_13 : rb41 M41_13 = true := by kernel_rfl
theorem hM41_14 : rb41 M41_14 = true := by kernel_rfl
theorem hM41_15 : rb41 M41_15 = true := by kernel_rfl
theorem hM41_16 : rb41 M41_16 = true := by kernel_rfl
theorem hM41_17 : rb41 M41_17 = true := by kernel_rfl
theorem hM41_18 : rb41 M41_18 = true := by kernel_rfl
theorem hM41_19 : rb41 M41_19 = true := by kernel_rfl
theorem hM41_20 : rb41 M41_20 = true := by kernel_rfl
theorem hM41_21 : rb41 M41_21 = true := by kernel_rfl
theorem hM41_22 : rb41 M41_22 = true := by kernel_rfl
theorem hM41_23 : rb41 M41_23 = true := by kernel_rfl
theorem hM41_24 : rb41 M41_24 = true := by kernel_rfl
theorem hM41_25 : rb41 M41_25 = true := by kernel_rfl
theorem rowsM41 : Rows (XEof tabE41) tabM41 := .s hM41_0 (.s hM41_1 (.s hM41_2 (.s hM41_3 (.s hM41_4 (.s hM41_5 (.s hM41_6 (.s hM41_7 (.s hM41_8 (.s hM41_9 (.s hM41_10 (.s hM41_11 (.s hM41_12 (.s hM41_13 (.s hM41_14 (.s hM41_15 (.s hM41_16 (.s hM41_17 (.s hM41_18 (.s hM41_19 (.s hM41_20 (.s hM41_21 (.s hM41_22 (.s hM41_23 (.s hM41_24 (.s hM41_25 (.z))))))))))))))))))))))))))
noncomputable abbrev rc41 (r : RW42) : Bool := rowB (XMof tabE41 tabM41) 100 r
theorem hP41_0 : rc41 P41_0 = true := by kernel_rfl
theorem hP41_1 : rc41 P41_1 = true := by kernel_rfl
theorem hP41_2 : rc41 P41_2 = true := by kernel_rfl
theorem hP41_3 : rc41 P41_3 = true := by kernel_rfl
theorem hP41_4 : rc41 P41_4 = true := by kernel_rfl
theorem hP41_5 : rc41 P41_5 = true := by kernel_rfl
theorem hP41_6 : rc41 P41_6 = true := by kernel_rfl
theorem hP41_7 : rc41 P41_7 = true := by kernel_rfl
theorem hP41_8 : rc41 P41_8 = true := by kernel_rfl
theorem hP41_9 : rc41 P41_9 = true := by kernel_rfl
theorem hP41_10 : rc41 P41_10 = true := by kernel_rfl
theorem hP41_11 : rc41 P41_11 = true := by kernel_rfl
theorem hP41_12 : rc41 P41_12 = true := by kernel_rfl
theorem hP41_13 : rc41 P41_13 = true := by kernel_rfl
theorem hP41_14 : rc41 P41_14 = true := by kernel_rfl
theorem hP41_15 : rc41 P41_15 = true := by kernel_rfl
theorem hP41_16 : rc41 P41_16 = true := by kernel_rfl
theorem hP41_17 : rc41 P41_17 = true := by kernel_rfl
theorem hP41_18 : rc41 P41_18 = true := by kernel_rfl
theorem hP41_19 : rc41 P41_19 = true := by kernel_rfl
theorem rowsP41 : Rows (XMof tabE41 tabM41) tabP41 := .s hP41_0 (.s hP41_1 (.s hP41_2 (.s hP41_3 (.s hP41_4 (.s hP41_5 (.s hP41_6 (.s hP41_7 (.s hP41_8 (.s hP41_9 (.s hP41_10 (.s hP41_11 (.s hP41_12 (.s hP41_13 (.s hP41_14 (.s hP41_15 (.s hP41_16 (.s hP41_17 (.s hP41_18 (.s hP41_19 (.z))))))))))))))))))))
end Go.Abs.T
end
section
namespace Go.Abs.T
open AV
set_option maxRecDepth 10000
abbrev a50_0 : AV := rslc 4 [i1,(jN 144),(nN 5),(jN 156),(nN 5),i0,i0,i1,(jN 156),(nN 5),(jN 156),i6,i0,i0,i1,(jN 156),i6,(jN 144),i6,i0,i0,i1,(jN 144),i6,(jN 144),(nN 5),i0,i0]
abbrev a50_1 : AV := rslc 1 [i1,(jN 150),i0,(jN 150),i0,i0,i0]
abbrev a50_2 : AV := agg [i1,(jN 150),i0,(jN 150),i0,i0,i0]
abbrev a50_3 : AV := rslc 1 [i1,(jN 148),i0,(jN 152),i0,i0,i0]
abbrev a50_4 : AV := agg [i0,i1,(bool false),(rslc 1 [(uN 36)]),(bool false),(rslc 1 [(uN 1)])]
abbrev a50_5 : AV := agg [(jN 150),i0,i0,i0,i0,i1,i0]
abbrev a50_6 : AV := agg [i1,(jN 144),(nN 5),(jN 156),(nN 5),i0,i0]
abbrev a50_7 : AV := agg [(jN 150),i0]
abbrev a50_8 : AV := agg [i1,(jN 156),(nN 5),(jN 156),i6,i0,i0]
abbrev a50_9 : AV := agg [i1,(jN 144),i6,(jN 144),(nN 5),i0,i0]
abbrev a50_10 : AV := agg [i1,(jN 156),i6,(jN 144),i6,i0,i0]
abbrev a50_11 : AV := agg [i0,i0,(bool false),nils,(bool false),(rslc 1 [(uN 1)])]
def E50_0 : RW42 := (f_edgeCheck,[a50_6],i0)
def E50_1 : RW42 := (f_edgeCheck,[a50_8],i0)
def E50_2 : RW42 := (f_edgeCheck,[a50_10],i0)
def E50_3 : RW42 := (f_edgeCheck,[a50_9],i0)
def E50_4 : RW42 := (f_edgeCheck,[a50_2],i0)
def E50_5 : RW42 := (f_edgeCheck,[(agg [i1,(jN 148),i0,(jN 152),i0,i0,i0])],i0)
def tabE50 : List RW42 := [E50_0,E50_1,E50_2,E50_3,E50_4,E50_5]
def M50_0 : RW42 := (f_shCheck,[(agg [i2,a50_0,i0])],i0)
def M50_1 : RW42 := (f_shBox,[(agg [i2,a50_0,i0])],(agg [(jN 144),(nN 5),(jN 156),i6]))
def M50_2 : RW42 := (f_shInside,[(agg [i2,a50_0,i0]),a50_7],(bool true))
def M50_3 : RW42 := (f_shCheck,[(agg [i1,a50_0,i0])],i0)
def M50_4 : RW42 := (f_meetEdges,[a50_6,a50_2],(bool false))
def M50_5 : RW42 := (f_nearEdges,[a50_6,a50_2],(tup [a50_4,(agg [(jN 144),(nN 5),i12,i0,(jN 72),(jN 144),i0]),a50_5]))
def M50_6 : RW42 := (f_meetEdges,[a50_8,a50_2],(bool false))
def M50_7 : RW42 := (f_nearEdges,[a50_8,a50_2],(tup [a50_4,(agg [(jN 156),(nN 5),i0,i12,(jN 72),(jN 144),i0]),a50_5]))
def M50_8 : RW42 := (f_meetEdges,[a50_10,a50_2],(bool false))
def M50_9 : RW42 := (f_nearEdges,[a50_10,a50_2],(tup [a50_4,(agg [(jN 156),i6,(nN 11),i0,(jN 72),(jN 144),i0]),a50_5]))
def M50_10 : RW42 := (f_meetEdges,[a50_9,a50_2],(bool false))
def M50_11 : RW42 := (f_nearEdges,[a50_9,a50_2],(tup [a50_4,(agg [(jN 144),i6,i0,(nN 11),(jN 72),(jN 144),i0]),a50_5]))
def M50_12 : RW42 := (f_shCheck,[(agg [i1,a50_1,i4])],i0)
def M50_13 : RW42 := (f_shBox,[(agg [i1,a50_1,i4])],(agg [(jN 146),(nN 3),(jN 154),i4]))
def M50_14 : RW42 := (f_shInside,[(agg [i1,a50_1,i4]),a50_7],(bool true))
def M50_15 : RW42 := (f_nearPoint,[a50_2,a50_7],(tup [a50_11,a50_5]))
def M50_16 : RW42 := (f_shCheck,[(agg [i1,a50_1,i5])],i0)
def M50_17 : RW42 := (f_shBox,[(agg [i1,a50_1,i5])],(agg [(jN 145),(nN 4),(jN 155),i5]))
def M50_18 : RW42 := (f_shInside,[(agg [i1,a50_1,i5]),a50_7],(bool true))
def M50_19 : RW42 := (f_shCheck,[(agg [i1,a50_1,i6])],i0)
def M50_20 : RW42 := (f_shBox,[(agg [i1,a50_1,i6])],(agg [(jN 144),(nN 5),(jN 156),i6]))
def M50_21 : RW42 := (f_shInside,[(agg [i1,a50_1,i6]),a50_7],(bool true))
def M50_22 : RW42 := (f_shCheck,[(agg [i1,a50_3,i4])],i0)
def M50_23 : RW42 := (f_shBox,[(agg [i1,a50_3,i4])],(agg [(jN 144),(nN 3),(jN 156),i4]))
def M50_24 : RW42 := (f_shInside,[(agg [i1,a50_3,i4]),a50_7],(bool true))
def M50_25 : RW42 := (f_nearPoint,[(agg [i1,(jN 148),i0,(jN 152),i0,i0,i0]),a50_7],(tup [a50_11,(agg [(jN 148),i0,i4,i0,i8,i16,i0])]))
def tabM50 : List RW42 := [M50_0,M50_1,M50_2,M50_3,M50_4,M50_5,M50_6,M50_7,M50_8,M50_9,M50_10,M50_11,M50_12,M50_13,M50_14,M50_15,M50_16,M50_17,M50_18,M50_19,M50_20,M50_21,M50_22,M50_23,M50_24,M50_25]
def P50_0 : RW42 := (f_padErr,[(agg [(str [80,54]),i2,a50_0,i0,(jN 150),i0,i0])],i0)
def P50_1 : RW42 := (f_padErr,[(agg [(str [80,54]),i2,a50_0,i0,(jN 150),i0,i2])],i0)
def P50_2 : RW42 := (f_padErr,[(agg [(str [80,54]),i2,a50_0,i0,(jN 150),i0,i4])],i0)
def P50_3 : RW42 := (f_padErr,[(agg [(str [80,54]),i2,a50_0,i0,(jN 150),i0,i6])],i0)
def P50_4 : RW42 := (f_padErr,[(agg [(str [80,54]),i1,a50_1,i4,(jN 150),i0,i0])],i0)
def P50_5 : RW42 := (f_padErr,[(agg [(str [80,54]),i1,a50_1,i4,(jN 150),i0,i2])],i0)
def P50_6 : RW42 := (f_padErr,[(agg [(str [80,54]),i1,a50_1,i4,(jN 150),i0,i4])],i0)
def P50_7 : RW42 := (f_padErr,[(agg [(str [80,54]),i1,a50_1,i4,(jN 150),i0,i6])],i0)
def P50_8 : RW42 := (f_padErr,[(agg [(str [80,54]),i1,a50_1,i5,(jN 150),i0,i0])],i0)
def P50_9 : RW42 := (f_padErr,[(agg [(str [80,54]),i1,a50_1,i5,(jN 150),i0,i2])],i0)
def P50_10 : RW42 := (f_padErr,[(agg [(str [80,54]),i1,a50_1,i5,(jN 150),i0,i4])],i0)
def P50_11 : RW42 := (f_padErr,[(agg [(str [80,54]),i1,a50_1,i5,(jN 150),i0,i6])],i0)
def P50_12 : RW42 := (f_padErr,[(agg [(str [80,54]),i1,a50_1,i6,(jN 150),i0,i0])],i0)
def P50_13 : RW42 := (f_padErr,[(agg [(str [80,54]),i1,a50_1,i6,(jN 150),i0,i2])],i0)
def P50_14 : RW42 := (f_padErr,[(agg [(str [80,54]),i1,a50_1,i6,(jN 150),i0,i4])],i0)
def P50_15 : RW42 := (f_padErr,[(agg [(str [80,54]),i1,a50_1,i6,(jN 150),i0,i6])],i0)
def P50_16 : RW42 := (f_padErr,[(agg [(str [80,54]),i1,a50_3,i4,(jN 150),i0,i0])],i0)
def P50_17 : RW42 := (f_padErr,[(agg [(str [80,54]),i1,a50_3,i4,(jN 150),i0,i2])],i0)
def P50_18 : RW42 := (f_padErr,[(agg [(str [80,54]),i1,a50_3,i4,(jN 150),i0,i4])],i0)
def P50_19 : RW42 := (f_padErr,[(agg [(str [80,54]),i1,a50_3,i4,(jN 150),i0,i6])],i0)
def tabP50 : List RW42 := [P50_0,P50_1,P50_2,P50_3,P50_4,P50_5,P50_6,P50_7,P50_8,P50_9,P50_10,P50_11,P50_12,P50_13,P50_14,P50_15,P50_16,P50_17,P50_18,P50_19]
noncomputable abbrev ra50 (r : RW42) : Bool := rowB XR 100 r
theorem hE50_0 : ra50 E50_0 = true := by kernel_rfl
theorem hE50_1 : ra50 E50_1 = true := by kernel_rfl
theorem hE50_2 : ra50 E50_2 = true := by kernel_rfl
theorem hE50_3 : ra50 E50_3 = true := by kernel_rfl
theorem hE50_4 : ra50 E50_4 = true := by kernel_rfl
theorem hE50_5 : ra50 E50_5 = true := by kernel_rfl
theorem rowsE50 : Rows XR tabE50 := .s hE50_0 (.s hE50_1 (.s hE50_2 (.s hE50_3 (.s hE50_4 (.s hE50_5 (.z))))))
noncomputable abbrev rb50 (r : RW42) : Bool := rowB (XEof tabE50) 100 r
theorem hM50_0 : rb50 M50_0 = true := by kernel_rfl
theorem hM50_1 : rb50 M50_1 = true := by kernel_rfl
theorem hM50_2 : rb50 M50_2 = true := by kernel_rfl
theorem hM50_3 : rb50 M50_3 = true := by kernel_rfl
theorem hM50_4 : rb50 M50_4 = true := by kernel_rfl
theorem hM50_5 : rb50 M50_5 = true := by kernel_rfl
theorem hM50_6 : rb50 M50_6 = true := by kernel_rfl
theorem hM50_7 : rb50 M50_7 = true := by kernel_rfl
theorem hM50_8 : rb50 M50_8 = true := by kernel_rfl
theorem hM50_9 : rb50 M50_9 = true := by kernel_rfl
theorem hM50_10 : rb50 M50_10 = true := by kernel_rfl
theorem hM50_11 : rb50 M50_11 = true := by kernel_rfl
theorem hM50_12 : rb50 M50_12 = true := by kernel_rfl
theorem hM50_13 : rb50 M50_13 = true := by kernel_rfl
theorem hM50_14 : rb50 M50_14 = true := by kernel_rfl
theorem hM50_15 : rb50 M50_15 = true := by kernel_rfl
theorem hM50_16 : rb50 M50_16 = true := by kernel_rfl
theorem hM50_17 : rb50 M50_17 = true := by kernel_rfl
theorem hM50_18 : rb50 M50_18 = true := by kernel_rfl
theorem hM50_19 : rb50 M50_19 = true := by kernel_rfl
theorem hM50_20 : rb50 M50_20 = true := by kernel_rfl
theorem hM50_21 : rb50 M50_21 = true := by kernel_rfl
theorem hM50_22 : rb50 M50_22 = true := by kernel_rfl
theorem hM50_23 : rb50 M50_23 = true := by kernel_rfl
theorem hM50_24 : rb50 M50_24 = true := by kernel_rfl
theorem hM50_25 : rb50 M50_25 = true := by kernel_rfl
theorem rowsM50 : Rows (XEof tabE50) tabM50 := .s hM50_0 (.s hM50_1 (.s hM50_2 (.s hM50_3 (.s hM50_4 (.s hM50_5 (.s hM50_6 (.s hM50_7 (.s hM50_8 (.s hM50_9 (.s hM50_10 (.s hM50_11 (.s hM50_12 (.s hM50_13 (.s hM50_14 (.s hM50_15 (.s hM50_16 (.s hM50_17 (.s hM50_18 (.s hM50_19 (.s hM50_20 (.s hM50_21 (.s hM50_22 (.s hM50_23 (.s hM50_24 (.s hM50_25 (.z))))))))))))))))))))))))))
noncomputable abbrev rc50 (r : RW42) : Bool := rowB (XMof tabE50 tabM50) 100 r
theorem hP50_0 : rc50 P50_0 = true := by kernel_rfl
theorem hP50_1 : rc50 P50_1 = true := by kernel_rfl
theorem hP50_2 : rc50 P50_2 = true := by kernel_rfl
theorem hP50_3 : rc50 P50_3 = true := by kernel_rfl
theorem hP50_4 : rc50 P50_4 = true := by kernel_rfl
theorem hP50_5 : rc50 P50_5 = true := by kernel_rfl
theorem hP50_6 : rc50 P50_6 = true := by kernel_rfl
theorem hP50_7 : rc50 P50_7 = true := by kernel_rfl
theorem hP50_8 : rc50 P50_8 = true := by kernel_rfl
theorem hP50_9 : rc50 P50_9 = true := by kernel_rfl
theorem hP50_10 : rc50 P50_10 = true := by kernel_rfl
theorem hP50_11 : rc50 P50_11 = true := by kernel_rfl
theorem hP50_12 : rc50 P50_12 = true := by kernel_rfl
theorem hP50_13 : rc50 P50_13 = true := by kernel_rfl
theorem hP50_14 : rc50 P50_14 = true := by kernel_rfl
theorem hP50_15 : rc50 P50_15 = true := by kernel_rfl
theorem hP50_16 : rc50 P50_16 = true := by kernel_rfl
theorem hP50_17 : rc50 P50_17 = true := by kernel_rfl
theorem hP50_18 : rc50 P50_18 = true := by kernel_rfl
theorem hP50_19 : rc50 P50_19 = true := by kernel_rfl
theorem rowsP50 : Rows (XMof tabE50 tabM50) tabP50 := .s hP50_0 (.s hP50_1 (.s hP50_2 (.s hP50_3 (.s hP50_4 (.s hP50_5 (.s hP50_6 (.s hP50_7 (.s hP50_8 (.s hP50_9 (.s hP50_10 (.s hP50_11 (.s hP50_12 (.s hP50_13 (.s hP50_14 (.s hP50_15 (.s hP50_16 (.s hP50_17 (.s hP50_18 (.s hP50_19 (.z))))))))))))))))))))
end Go.Abs.T
end
section
namespace Go.Abs.T
open AV
set_option maxRecDepth 10000
abbrev a51_0 : AV := rslc 4 [i1,(jN 144),i4,(jN 156),i4,i0,i0,i1,(jN 156),i4,(jN 156),i16,i0,i0,i1,(jN 156),i16,(jN 144),i16,i0,i0,i1,(jN 144),i16,(jN 144),i4,i0,i0]
abbrev a51_1 : AV := rslc 1 [i1,(jN 150),i10,(jN 150),i10,i0,i0]
abbrev a51_2 : AV := agg [i1,(jN 150),i10,(jN 150),i10,i0,i0]
abbrev a51_3 : AV := rslc 1 [i1,(jN 148),i10,(jN 152),i10,i0,i0]
abbrev a51_4 : AV := agg [i0,i1,(bool false),(rslc 1 [(uN 36)]),(bool false),(rslc 1 [(uN 1)])]
abbrev a51_5 : AV := agg [(jN 150),i10,i0,i0,i0,i1,i0]
abbrev a51_6 : AV := agg [(jN 150),i10]
abbrev a51_7 : AV := agg [i1,(jN 156),i16,(jN 144),i16,i0,i0]
abbrev a51_8 : AV := agg [i1,(jN 156),i4,(jN 156),i16,i0,i0]
abbrev a51_9 : AV := agg [i1,(jN 144),i16,(jN 144),i4,i0,i0]
abbrev a51_10 : AV := agg [i1,(jN 144),i4,(jN 156),i4,i0,i0]
abbrev a51_11 : AV := agg [i0,i0,(bool false),nils,(bool false),(rslc 1 [(uN 1)])]
def E51_0 : RW42 := (f_edgeCheck,[a51_10],i0)
def E51_1 : RW42 := (f_edgeCheck,[a51_8],i0)
def E51_2 : RW42 := (f_edgeCheck,[a51_7],i0)
def E51_3 : RW42 := (f_edgeCheck,[a51_9],i0)
def E51_4 : RW42 := (f_edgeCheck,[a51_2],i0)
def E51_5 : RW42 := (f_edgeCheck,[(agg [i1,(jN 148),i10,(jN 152),i10,i0,i0])],i0)
def tabE51 : List RW42 := [E51_0,E51_1,E51_2,E51_3,E51_4,E51_5]
def M51_0 : RW42 := (f_shCheck,[(agg [i2,a51_0,i0])],i0)
def M51_1 : RW42 := (f_shBox,[(agg [i2,a51_0,i0])],(agg [(jN 144),i4,(jN 156),i16]))
def M51_2 : RW42 := (f_shInside,[(agg [i2,a51_0,i0]),a51_6],(bool true))
def M51_3 : RW42 := (f_shCheck,[(agg [i1,a51_0,i0])],i0)
def M51_4 : RW42 := (f_meetEdges,[a51_10,a51_2],(bool false))
def M51_5 : RW42 := (f_nearEdges,[a51_10,a51_2],(tup [a51_4,(agg [(jN 144),i4,i12,i0,(jN 72),(jN 144),i0]),a51_5]))
def M51_6 : RW42 := (f_meetEdges,[a51_8,a51_2],(bool false))
def M51_7 : RW42 := (f_nearEdges,[a51_8,a51_2],(tup [a51_4,(agg [(jN 156),i4,i0,i12,(jN 72),(jN 144),i0]),a51_5]))
def M51_8 : RW42 := (f_meetEdges,[a51_7,a51_2],(bool false))
def M51_9 : RW42 := (f_nearEdges,[a51_7,a51_2],(tup [a51_4,(agg [(jN 156),i16,(nN 11),i0,(jN 72),(jN 144),i0]),a51_5]))
def M51_10 : RW42 := (f_meetEdges,[a51_9,a51_2],(bool false))
def M51_11 : RW42 := (f_nearEdges,[a51_9,a51_2],(tup [a51_4,(agg [(jN 144),i16,i0,(nN 11),(jN 72),(jN 144),i0]),a51_5]))
def M51_12 : RW42 := (f_shCheck,[(agg [i1,a51_1,i4])],i0)
def M51_13 : RW42 := (f_shBox,[(agg [i1,a51_1,i4])],(agg [(jN 146),i6,(jN 154),i14]))
def M51_14 : RW42 := (f_shInside,[(agg [i1,a51_1,i4]),a51_6],(bool true))
def M51_15 : RW42 := (f_nearPoint,[a51_2,a51_6],(tup [a51_11,a51_5]))
def M51_16 : RW42 := (f_shCheck,[(agg [i1,a51_1,i5])],i0)
def M51_17 : RW42 := (f_shBox,[(agg [i1,a51_1,i5])],(agg [(jN 145),i5,(jN 155),i15]))
def M51_18 : RW42 := (f_shInside,[(agg [i1,a51_1,i5]),a51_6],(bool true))
def M51_19 : RW42 := (f_shCheck,[(agg [i1,a51_1,i6])],i0)
def M51_20 : RW42 := (f_shBox,[(agg [i1,a51_1,i6])],(agg [(jN 144),i4,(jN 156),i16]))
def M51_21 : RW42 := (f_shInside,[(agg [i1,a51_1,i6]),a51_6],(bool true))
def M51_22 : RW42 := (f_shCheck,[(agg [i1,a51_3,i4])],i0)
def M51_23 : RW42 := (f_shBox,[(agg [i1,a51_3,i4])],(agg [(jN 144),i6,(jN 156),i14]))
def M51_24 : RW42 := (f_shInside,[(agg [i1,a51_3,i4]),a51_6],(bool true))
def M51_25 : RW42 := (f_nearPoint,[(agg [i1,(jN 148),i10,(jN 152),i10,i0,i0]),a51_6],(tup [a51_11,(agg [(jN 148),i10,i4,i0,i8,i16,i0])]))
def tabM51 : List RW42 := [M51_0,M51_1,M51_2,M51_3,M51_4,M51_5,M51_6,M51_7,M51_8,M51_9,M51_10,M51_11,M51_12,M51_13,M51_14,M51_15,M51_16,M51_17,M51_18,M51_19,M51_20,M51_21,M51_22,M51_23,M51_24,M51_25]
def P51_0 : RW42 := (f_padErr,[(agg [(str [80,54]),i2,a51_0,i0,(jN 150),i10,i0])],i0)
def P51_1 : RW42 := (f_padErr,[(agg [(str [80,54]),i2,a51_0,i0,(jN 150),i10,i2])],i0)
def P51_2 : RW42 := (f_padErr,[(agg [(str [80,54]),i2,a51_0,i0,(jN 150),i10,i4])],i0)
def P51_3 : RW42 := (f_padErr,[(agg [(str [80,54]),i2,a51_0,i0,(jN 150),i10,i6])],i0)
def P51_4 : RW42 := (f_padErr,[(agg [(str [80,54]),i1,a51_1,i4,(jN 150),i10,i0])],i0)
def P51_5 : RW42 := (f_padErr,[(agg [(str [80,54]),i1,a51_1,i4,(jN 150),i10,i2])],i0)
def P51_6 : RW42 := (f_padErr,[(agg [(str [80,54]),i1,a51_1,i4,(jN 150),i10,i4])],i0)
def P51_7 : RW42 := (f_padErr,[(agg [(str [80,54]),i1,a51_1,i4,(jN 150),i10,i6])],i0)
def P51_8 : RW42 := (f_padErr,[(agg [(str [80,54]),i1,a51_1,i5,(jN 150),i10,i0])],i0)
def P51_9 : RW42 := (f_padErr,[(agg [(str [80,54]),i1,a51_1,i5,(jN 150),i10,i2])],i0)
def P51_10 : RW42 := (f_padErr,[(agg [(str [80,54]),i1,a51_1,i5,(jN 150),i10,i4])],i0)
def P51_11 : RW42 := (f_padErr,[(agg [(str [80,54]),i1,a51_1,i5,(jN 150),i10,i6])],i0)
def P51_12 : RW42 := (f_padErr,[(agg [(str [80,54]),i1,a51_1,i6,(jN 150),i10,i0])],i0)
def P51_13 : RW42 := (f_padErr,[(agg [(str [80,54]),i1,a51_1,i6,(jN 150),i10,i2])],i0)
def P51_14 : RW42 := (f_padErr,[(agg [(str [80,54]),i1,a51_1,i6,(jN 150),i10,i4])],i0)
def P51_15 : RW42 := (f_padErr,[(agg [(str [80,54]),i1,a51_1,i6,(jN 150),i10,i6])],i0)
def P51_16 : RW42 := (f_padErr,[(agg [(str [80,54]),i1,a51_3,i4,(jN 150),i10,i0])],i0)
def P51_17 : RW42 := (f_padErr,[(agg [(str [80,54]),i1,a51_3,i4,(jN 150),i10,i2])],i0)
def P51_18 : RW42 := (f_padErr,[(agg [(str [80,54]),i1,a51_3,i4,(jN 150),i10,i4])],i0)
def P51_19 : RW42 := (f_padErr,[(agg [(str [80,54]),i1,a51_3,i4,(jN 150),i10,i6])],i0)
def tabP51 : List RW42 := [P51_0,P51_1,P51_2,P51_3,P51_4,P51_5,P51_6,P51_7,P51_8,P51_9,P51_10,P51_11,P51_12,P51_13,P51_14,P51_15,P51_16,P51_17,P51_18,P51_19]
noncomputable abbrev ra51 (r : RW42) : Bool := rowB XR 100 r
theorem hE51_0 : ra51 E51_0 = true := by kernel_rfl
theorem hE51_1 : ra51 E51_1 = true := by kernel_rfl
theorem hE51_2 : ra51 E51_2 = true := by kernel_rfl
theorem hE51_3 : ra51 E51_3 = true := by kernel_rfl
theorem hE51_4 : ra51 E51_4 = true := by kernel_rfl
theorem hE51_5 : ra51 E51_5 = true := by kernel_rfl
theorem rowsE51 : Rows XR tabE51 := .s hE51_0 (.s hE51_1 (.s hE51_2 (.s hE51_3 (.s hE51_4 (.s hE51_5 (.z))))))
noncomputable abbrev rb51 (r : RW42) : Bool := rowB (XEof tabE51) 100 r
theorem hM51_0 : rb51 M51_0 = true := by kernel_rfl
theorem hM51_1 : rb51 M51_1 = true := by kernel_rfl
theorem hM51_2 : rb51 M51_2 = true := by kernel_rfl
theorem hM51_3 : rb51 M51_3 = true := by kernel_rfl
theorem hM51_4 : rb51 M51_4 = true := by kernel_rfl
theorem hM51_5 : rb51 M51_5 = true := by kernel_rfl
theorem hM51_6 : rb51 M51_6 = true := by kernel_rfl
theorem hM51_7 : rb51 M51_7 = true := by kernel_rfl
theorem hM51_8 : rb51 M51_8 = true := by kernel_rfl
theorem hM51_9 : rb51 M51_9 = true := by kernel_rfl
theorem hM51_10 : rb51 M51_10 = true := by kernel_rfl
theorem hM51_11 : rb51 M51_11 = true := by kernel_rfl
theorem hM51_12 : rb51 M51_12 = true := by kernel_rfl
theorem hM51_13 : rb51 M51_13 = true := by kernel_rfl
theorem hM51_14 : rb51 M51_14 = true := by kernel_rfl
theorem hM51_15 : rb51 M51_15 = true := by kernel_rfl
theorem hM51_16 : rb51 M51_16 = true := by kernel_rfl
theorem hM51_17 : rb51 M51_17 = true := by kernel_rfl
theorem hM51_18 : rb51 M51_18 = true := by kernel_rfl
theorem hM51_19 : rb51 M51_19 = true := by kernel_rfl
theorem hM51_20 : rb51 M51_20 = true := by kernel_rfl
theorem hM51_21 : rb51 M51_21 = true := by kernel_rfl
theorem hM51_22 : rb51 M51_22 = true := by kernel_rfl
theorem hM51_23 : rb51 M51_23 = true := by kernel_rfl
theorem hM51_24 : rb51 M51_24 = true := by kernel_rfl
theorem hM51_25 : rb51 M51_25 = true := by kernel_rfl
theorem rowsM51 : Rows (XEof tabE51) tabM51 := .s hM51_0 (.s hM51_1 (.s hM51_2 (.s hM51_3 (.s hM51_4 (.s hM51_5 (.s hM51_6 (.s hM51_7 (.s hM51_8 (.s hM51_9 (.s hM51_10 (.s hM51_11 (.s hM51_12 (.s hM51_13 (.s hM51_14 (.s hM51_15 (.s hM51_16 (.s hM51_17 (.s hM51_18 (.s hM51_19 (.s hM51_20 (.s hM51_21 (.s hM51_22 (.s hM51_23 (.s hM51_24 (.s hM51_25 (.z))))))))))))))))))))))))))
noncomputable abbrev rc51 (r : RW42) : Bool := rowB (XMof tabE51 tabM51) 100 r
theorem hP51_0 : rc51 P51_0 = true := by kernel_rfl
theorem hP51_1 : rc51 P51_1 = true := by kernel_rfl
theorem hP51_2 : rc51 P51_2 = true := by kernel_rfl
theorem hP51_3 : rc51 P51_3 = true := by kernel_rfl
theorem hP51_4 : rc51 P51_4 = true := by kernel_rfl
theorem hP51_5 : rc51 P51_5 = true := by kernel_rfl
theorem hP51_6 : rc51 P51_6 = true := by kernel_rfl
theorem hP51_7 : rc51 P51_7 = true := by kernel_rfl
theorem hP51_8 : rc51 P51_8 = true := by kernel_rfl
theorem hP51_9 : rc51 P51_9 = true := by kernel_rfl
theorem hP51_10 : rc51 P51_10 = true := by kernel_rfl
theorem hP51_11 : rc51 P51_11 = true := by kernel_rfl
theorem hP51_12 : rc51 P51_12 = true := by kernel_rfl
theorem hP51_13 : rc51 P51_13 = true := by kernel_rfl
theorem hP51_14 : rc51 P51_14 = true := by kernel_rfl
theorem hP51_15 : rc51 P51_15 = true := by kernel_rfl
theorem hP51_16 : rc51 P51_16 = true := by kernel_rfl
theorem hP51_17 : rc51 P51_17 = true := by kernel_rfl
theorem hP51_18 : rc51 P51_18 = true := by kernel_rfl
theorem hP51_19 : rc51 P51_19 = true := by kernel_rfl
theorem rowsP51 : Rows (XMof tabE51 tabM51) tabP51 := .s hP51_0 (.s hP51_1 (.s hP51_2 (.s hP51_3 (.s hP51_4 (.s hP51_5 (.s hP51_6 (.s hP51_7 (.s hP51_8 (.s hP51_9 (.s hP51_10 (.s hP51_11 (.s hP51_12 (.s hP51_13 (.s hP51_14 (.s hP51_15 (.s hP51_16 (.s hP51_17 (.s hP51_18 (.s hP51_19 (.z))))))))))))))))))))
end Go.Abs.T
end
