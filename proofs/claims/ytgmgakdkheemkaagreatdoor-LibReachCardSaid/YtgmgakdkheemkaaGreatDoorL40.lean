/- A part of the proof that LibSwaps answers true at every input: AbsKp11, AbsKp20, AbsKp21. -/
import Derived.Test.YtgmgakdkheemkaaGreatDoorL21
section
namespace Go.Abs.T
open AV
abbrev RW40 : Type := Pth × List AV × AV
set_option maxRecDepth 10000
abbrev a11_0 : AV := rslc 4 [i1,i24,i4,(jN 36),i4,i0,i0,i1,(jN 36),i4,(jN 36),i16,i0,i0,i1,(jN 36),i16,i24,i16,i0,i0,i1,i24,i16,i24,i4,i0,i0]
abbrev a11_1 : AV := rslc 1 [i1,i30,i10,i30,i10,i0,i0]
abbrev a11_2 : AV := agg [i1,i30,i10,i30,i10,i0,i0]
abbrev a11_3 : AV := agg [i0,i1,(bool false),(rslc 1 [(uN 36)]),(bool false),(rslc 1 [(uN 1)])]
abbrev a11_4 : AV := rslc 1 [i1,i28,i10,i32,i10,i0,i0]
abbrev a11_5 : AV := agg [i30,i10,i0,i0,i0,i1,i0]
abbrev a11_6 : AV := agg [i1,(jN 36),i4,(jN 36),i16,i0,i0]
abbrev a11_7 : AV := agg [i1,(jN 36),i16,i24,i16,i0,i0]
abbrev a11_8 : AV := agg [i1,i24,i4,(jN 36),i4,i0,i0]
abbrev a11_9 : AV := agg [i0,i0,(bool false),nils,(bool false),(rslc 1 [(uN 1)])]
abbrev a11_10 : AV := agg [i1,i24,i16,i24,i4,i0,i0]
def E11_0 : RW40 := (f_edgeCheck,[a11_8],i0)
def E11_1 : RW40 := (f_edgeCheck,[a11_6],i0)
def E11_2 : RW40 := (f_edgeCheck,[a11_7],i0)
def E11_3 : RW40 := (f_edgeCheck,[a11_10],i0)
def E11_4 : RW40 := (f_edgeCheck,[a11_2],i0)
def E11_5 : RW40 := (f_edgeCheck,[(agg [i1,i28,i10,i32,i10,i0,i0])],i0)
def tabE11 : List RW40 := [E11_0,E11_1,E11_2,E11_3,E11_4,E11_5]
def M11_0 : RW40 := (f_shCheck,[(agg [i2,a11_0,i0])],i0)
def M11_1 : RW40 := (f_shBox,[(agg [i2,a11_0,i0])],(agg [i24,i4,(jN 36),i16]))
def M11_2 : RW40 := (f_shInside,[(agg [i2,a11_0,i0]),(agg [i30,i10])],(bool true))
def M11_3 : RW40 := (f_shCheck,[(agg [i1,a11_0,i0])],i0)
def M11_4 : RW40 := (f_meetEdges,[a11_8,a11_2],(bool false))
def M11_5 : RW40 := (f_nearEdges,[a11_8,a11_2],(tup [a11_3,(agg [i24,i4,i12,i0,(jN 72),(jN 144),i0]),a11_5]))
def M11_6 : RW40 := (f_meetEdges,[a11_6,a11_2],(bool false))
def M11_7 : RW40 := (f_nearEdges,[a11_6,a11_2],(tup [a11_3,(agg [(jN 36),i4,i0,i12,(jN 72),(jN 144),i0]),a11_5]))
def M11_8 : RW40 := (f_meetEdges,[a11_7,a11_2],(bool false))
def M11_9 : RW40 := (f_nearEdges,[a11_7,a11_2],(tup [a11_3,(agg [(jN 36),i16,(nN 11),i0,(jN 72),(jN 144),i0]),a11_5]))
def M11_10 : RW40 := (f_meetEdges,[a11_10,a11_2],(bool false))
def M11_11 : RW40 := (f_nearEdges,[a11_10,a11_2],(tup [a11_3,(agg [i24,i16,i0,(nN 11),(jN 72),(jN 144),i0]),a11_5]))
def M11_12 : RW40 := (f_shCheck,[(agg [i1,a11_1,i4])],i0)
def M11_13 : RW40 := (f_shBox,[(agg [i1,a11_1,i4])],(agg [i26,i6,(jN 34),i14]))
def M11_14 : RW40 := (f_shInside,[(agg [i1,a11_1,i4]),(agg [i30,i10])],(bool true))
def M11_15 : RW40 := (f_nearPoint,[a11_2,(agg [i30,i10])],(tup [a11_9,a11_5]))
def M11_16 : RW40 := (f_shCheck,[(agg [i1,a11_1,i5])],i0)
def M11_17 : RW40 := (f_shBox,[(agg [i1,a11_1,i5])],(agg [i25,i5,(jN 35),i15]))
def M11_18 : RW40 := (f_shInside,[(agg [i1,a11_1,i5]),(agg [i30,i10])],(bool true))
def M11_19 : RW40 := (f_shCheck,[(agg [i1,a11_1,i6])],i0)
def M11_20 : RW40 := (f_shBox,[(agg [i1,a11_1,i6])],(agg [i24,i4,(jN 36),i16]))
def M11_21 : RW40 := (f_shInside,[(agg [i1,a11_1,i6]),(agg [i30,i10])],(bool true))
def M11_22 : RW40 := (f_shCheck,[(agg [i1,a11_4,i4])],i0)
def M11_23 : RW40 := (f_shBox,[(agg [i1,a11_4,i4])],(agg [i24,i6,(jN 36),i14]))
def M11_24 : RW40 := (f_shInside,[(agg [i1,a11_4,i4]),(agg [i30,i10])],(bool true))
def M11_25 : RW40 := (f_nearPoint,[(agg [i1,i28,i10,i32,i10,i0,i0]),(agg [i30,i10])],(tup [a11_9,(agg [i28,i10,i4,i0,i8,i16,i0])]))
def tabM11 : List RW40 := [M11_0,M11_1,M11_2,M11_3,M11_4,M11_5,M11_6,M11_7,M11_8,M11_9,M11_10,M11_11,M11_12,M11_13,M11_14,M11_15,M11_16,M11_17,M11_18,M11_19,M11_20,M11_21,M11_22,M11_23,M11_24,M11_25]
def P11_0 : RW40 := (f_padErr,[(agg [(str [80,50]),i2,a11_0,i0,i30,i10,i0])],i0)
def P11_1 : RW40 := (f_padErr,[(agg [(str [80,50]),i2,a11_0,i0,i30,i10,i2])],i0)
def P11_2 : RW40 := (f_padErr,[(agg [(str [80,50]),i2,a11_0,i0,i30,i10,i4])],i0)
def P11_3 : RW40 := (f_padErr,[(agg [(str [80,50]),i2,a11_0,i0,i30,i10,i6])],i0)
def P11_4 : RW40 := (f_padErr,[(agg [(str [80,50]),i1,a11_1,i4,i30,i10,i0])],i0)
def P11_5 : RW40 := (f_padErr,[(agg [(str [80,50]),i1,a11_1,i4,i30,i10,i2])],i0)
def P11_6 : RW40 := (f_padErr,[(agg [(str [80,50]),i1,a11_1,i4,i30,i10,i4])],i0)
def P11_7 : RW40 := (f_padErr,[(agg [(str [80,50]),i1,a11_1,i4,i30,i10,i6])],i0)
def P11_8 : RW40 := (f_padErr,[(agg [(str [80,50]),i1,a11_1,i5,i30,i10,i0])],i0)
def P11_9 : RW40 := (f_padErr,[(agg [(str [80,50]),i1,a11_1,i5,i30,i10,i2])],i0)
def P11_10 : RW40 := (f_padErr,[(agg [(str [80,50]),i1,a11_1,i5,i30,i10,i4])],i0)
def P11_11 : RW40 := (f_padErr,[(agg [(str [80,50]),i1,a11_1,i5,i30,i10,i6])],i0)
def P11_12 : RW40 := (f_padErr,[(agg [(str [80,50]),i1,a11_1,i6,i30,i10,i0])],i0)
def P11_13 : RW40 := (f_padErr,[(agg [(str [80,50]),i1,a11_1,i6,i30,i10,i2])],i0)
def P11_14 : RW40 := (f_padErr,[(agg [(str [80,50]),i1,a11_1,i6,i30,i10,i4])],i0)
def P11_15 : RW40 := (f_padErr,[(agg [(str [80,50]),i1,a11_1,i6,i30,i10,i6])],i0)
def P11_16 : RW40 := (f_padErr,[(agg [(str [80,50]),i1,a11_4,i4,i30,i10,i0])],i0)
def P11_17 : RW40 := (f_padErr,[(agg [(str [80,50]),i1,a11_4,i4,i30,i10,i2])],i0)
def P11_18 : RW40 := (f_padErr,[(agg [(str [80,50]),i1,a11_4,i4,i30,i10,i4])],i0)
def P11_19 : RW40 := (f_padErr,[(agg [(str [80,50]),i1,a11_4,i4,i30,i10,i6])],i0)
def tabP11 : List RW40 := [P11_0,P11_1,P11_2,P11_3,P11_4,P11_5,P11_6,P11_7,P11_8,P11_9,P11_10,P11_11,P11_12,P11_13,P11_14,P11_15,P11_16,P11_17,P11_18,P11_19]
noncomputable abbrev ra11 (r : RW40) : Bool := rowB XR 100 r
theorem hE11_0 : ra11 E11_0 = true := by kernel_rfl
theorem hE11_1 : ra11 E11_1 = true := by kernel_rfl
theorem hE11_2 : ra11 E11_2 = true := by kernel_rfl
theorem hE11_3 : ra11 E11_3 = true := by kernel_rfl
theorem hE11_4 : ra11 E11_4 = true := by kernel_rfl
theorem hE11_5 : ra11 E11_5 = true := by kernel_rfl
theorem rowsE11 : Rows XR tabE11 := .s hE11_0 (.s hE11_1 (.s hE11_2 (.s hE11_3 (.s hE11_4 (.s hE11_5 (.z))))))
noncomputable abbrev rb11 (r : RW40) : Bool := rowB (XEof tabE11) 100 r
theorem hM11_0 : rb11 M11_0 = true := by kernel_rfl
theorem hM11_1 : rb11 M11_1 = true := by kernel_rfl
theorem hM11_2 : rb11 M11_2 = true := by kernel_rfl
theorem hM11_3 : rb11 M11_3 = true := by kernel_rfl
theorem hM11_4 : rb11 M11_4 = true := by kernel_rfl
theorem hM11_5 : rb11 M11_5 = true := by kernel_rfl
theorem hM11_6 : rb11 M11_6 = true := by kernel_rfl
theorem hM11_7 : rb11 M11_7 = true := by kernel_rfl
theorem hM11_8 : rb11 M11_8 = true := by kernel_rfl
theorem hM11_9 : rb11 M11_9 = true := by kernel_rfl
theorem hM11_10 : rb11 M11_10 = true := by kernel_rfl
theorem hM11_11 : rb11 M11_11 = true := by kernel_rfl
theorem hM11_12 : rb11 M11_12 = true := by kernel_rfl
theorem hM11_13 : rb11 M11_13 = true := by kernel_rfl
theorem hM11_14 : rb11 M11_14 = true := by kernel_rfl
theorem hM11_15 : rb11 M11_15 = true := by kernel_rfl
theorem hM11_16 : rb11 M11_16 = true := by kernel_rfl
theorem hM11_17 : rb11 M11_17 = true := by kernel_rfl
theorem hM11_18 : rb11 M11_18 = true := by kernel_rfl
theorem hM11_19 : rb11 M11_19 = true := by kernel_rfl
theorem hM11_20 : rb11 M11_20 = true := by kernel_rfl
theorem hM11_21 : rb11 M11_21 = true := by kernel_rfl
theorem hM11_22 : rb11 M11_22 = true := by kernel_rfl
theorem hM11_23 : rb11 M11_23 = true := by kernel_rfl
theorem hM11_24 : rb11 M11_24 = true := by kernel_rfl
theorem hM11_25 : rb11 M11_25 = true := by kernel_rfl
theorem rowsM11 : Rows (XEof tabE11) tabM11 := .s hM11_0 (.s hM11_1 (.s hM11_2 (.s hM11_3 (.s hM11_4 (.s hM11_5 (.s hM11_6 (.s hM11_7 (.s hM11_8 (.s hM11_9 (.s hM11_10 (.s hM11_11 (.s hM11_12 (.s hM11_13 (.s hM11_14 (.s hM11_15 (.s hM11_16 (.s hM11_17 (.s hM11_18 (.s hM11_19 (.s hM11_20 (.s hM11_21 (.s hM11_22 (.s hM11_23 (.s hM11_24 (.s hM11_25 (.z))))))))))))))))))))))))))
noncomputable abbrev rc11 (r : RW40) : Bool := rowB (XMof tabE11 tabM11) 100 r
theorem hP11_0 : rc11 P11_0 = true := by kernel_rfl
theorem hP11_1 : rc11 P11_1 = true := by kernel_rfl
theorem hP11_2 : rc11 P11_2 = true := by kernel_rfl
theorem hP11_3 : rc11 P11_3 = true := by kernel_rfl
theorem hP11_4 : rc11 P11_4 = true := by kernel_rfl
theorem hP11_5 : rc11 P11_5 = true := by kernel_rfl
theorem hP11_6 : rc11 P11_6 = true := by kernel_rfl
theorem hP11_7 : rc11 P11_7 = true := by kernel_rfl
theorem hP11_8 : rc11 P11_8 = true := by kernel_rfl
theorem hP11_9 : rc11 P11_9 = true := by kernel_rfl
theorem hP11_10 : rc11 P11_10 = true := by kernel_rfl
theorem hP11_11 : rc11 P11_11 = true := by kernel_rfl
theorem hP11_12 : rc11 P11_12 = true := by kernel_rfl
theorem hP11_13 : rc11 P11_13 = true := by kernel_rfl
theorem hP11_14 : rc11 P11_14 = true := by kernel_rfl
theorem hP11_15 : rc11 P11_15 = true := by kernel_rfl
theorem hP11_16 : rc11 P11_16 = true := by kernel_rfl
theorem hP11_17 : rc11 P11_17 = true := by kernel_rfl
theorem hP11_18 : rc11 P11_18 = true := by kernel_rfl
theorem hP11_19 : rc11 P11_19 = true := by kernel_rfl
theorem rowsP11 : Rows (XMof tabE11 tabM11) tabP11 := .s hP11_0 (.s hP11_1 (.s hP11_2 (.s hP11_3 (.s hP11_4 (.s hP11_5 (.s hP11_6 (.s hP11_7 (.s hP11_8 (.s hP11_9 (.s hP11_10 (.s hP11_11 (.s hP11_12 (.s hP11_13 (.s hP11_14 (.s hP11_15 (.s hP11_16 (.s hP11_17 (.s hP11_18 (.s hP11_19 (.z))))))))))))))))))))
end Go.Abs.T
end
section
namespace Go.Abs.T
open AV
set_option maxRecDepth 10000
abbrev a20_0 : AV := rslc 4 [i1,(jN 54),(nN 5),(jN 66),(nN 5),i0,i0,i1,(jN 66),(nN 5),(jN 66),i6,i0,i0,i1,(jN 66),i6,(jN 54),i6,i0,i0,i1,(jN 54),i6,(jN 54),(nN 5),i0,i0]
abbrev a20_1 : AV := rslc 1 [i1,(jN 60),i0,(jN 60),i0,i0,i0]
abbrev a20_2 : AV := agg [i1,(jN 60),i0,(jN 60),i0,i0,i0]
abbrev a20_3 : AV := rslc 1 [i1,(jN 58),i0,(jN 62),i0,i0,i0]
abbrev a20_4 : AV := agg [i0,i1,(bool false),(rslc 1 [(uN 36)]),(bool false),(rslc 1 [(uN 1)])]
abbrev a20_5 : AV := agg [(jN 60),i0,i0,i0,i0,i1,i0]
abbrev a20_6 : AV := agg [i1,(jN 54),(nN 5),(jN 66),(nN 5),i0,i0]
abbrev a20_7 : AV := agg [(jN 60),i0]
abbrev a20_8 : AV := agg [i1,(jN 66),(nN 5),(jN 66),i6,i0,i0]
abbrev a20_9 : AV := agg [i1,(jN 54),i6,(jN 54),(nN 5),i0,i0]
abbrev a20_10 : AV := agg [i1,(jN 66),i6,(jN 54),i6,i0,i0]
abbrev a20_11 : AV := agg [i0,i0,(bool false),nils,(bool false),(rslc 1 [(uN 1)])]
def E20_0 : RW40 := (f_edgeCheck,[a20_6],i0)
def E20_1 : RW40 := (f_edgeCheck,[a20_8],i0)
def E20_2 : RW40 := (f_edgeCheck,[a20_10],i0)
def E20_3 : RW40 := (f_edgeCheck,[a20_9],i0)
def E20_4 : RW40 := (f_edgeCheck,[a20_2],i0)
def E20_5 : RW40 := (f_edgeCheck,[(agg [i1,(jN 58),i0,(jN 62),i0,i0,i0])],i0)
def tabE20 : List RW40 := [E20_0,E20_1,E20_2,E20_3,E20_4,E20_5]
def M20_0 : RW40 := (f_shCheck,[(agg [i2,a20_0,i0])],i0)
def M20_1 : RW40 := (f_shBox,[(agg [i2,a20_0,i0])],(agg [(jN 54),(nN 5),(jN 66),i6]))
def M20_2 : RW40 := (f_shInside,[(agg [i2,a20_0,i0]),a20_7],(bool true))
def M20_3 : RW40 := (f_shCheck,[(agg [i1,a20_0,i0])],i0)
def M20_4 : RW40 := (f_meetEdges,[a20_6,a20_2],(bool false))
def M20_5 : RW40 := (f_nearEdges,[a20_6,a20_2],(tup [a20_4,(agg [(jN 54),(nN 5),i12,i0,(jN 72),(jN 144),i0]),a20_5]))
def M20_6 : RW40 := (f_meetEdges,[a20_8,a20_2],(bool false))
def M20_7 : RW40 := (f_nearEdges,[a20_8,a20_2],(tup [a20_4,(agg [(jN 66),(nN 5),i0,i12,(jN 72),(jN 144),i0]),a20_5]))
def M20_8 : RW40 := (f_meetEdges,[a20_10,a20_2],(bool false))
def M20_9 : RW40 := (f_nearEdges,[a20_10,a20_2],(tup [a20_4,(agg [(jN 66),i6,(nN 11),i0,(jN 72),(jN 144),i0]),a20_5]))
def M20_10 : RW40 := (f_meetEdges,[a20_9,a20_2],(bool false))
def M20_11 : RW40 := (f_nearEdges,[a20_9,a20_2],(tup [a20_4,(agg [(jN 54),i6,i0,(nN 11),(jN 72),(jN 144),i0]),a20_5]))
def M20_12 : RW40 := (f_shCheck,[(agg [i1,a20_1,i4])],i0)
def M20_13 : RW40 := (f_shBox,[(agg [i1,a20_1,i4])],(agg [(jN 56),(nN 3),(jN 64),i4]))
def M20_14 : RW40 := (f_shInside,[(agg [i1,a20_1,i4]),a20_7],(bool true))
def M20_15 : RW40 := (f_nearPoint,[a20_2,a20_7],(tup [a20_11,a20_5]))
def M20_16 : RW40 := (f_shCheck,[(agg [i1,a20_1,i5])],i0)
def M20_17 : RW40 := (f_shBox,[(agg [i1,a20_1,i5])],(agg [(jN 55),(nN 4),(jN 65),i5]))
def M20_18 : RW40 := (f_shInside,[(agg [i1,a20_1,i5]),a20_7],(bool true))
def M20_19 : RW40 := (f_shCheck,[(agg [i1,a20_1,i6])],i0)
def M20_20 : RW40 := (f_shBox,[(agg [i1,a20_1,i6])],(agg [(jN 54),(nN 5),(jN 66),i6]))
def M20_21 : RW40 := (f_shInside,[(agg [i1,a20_1,i6]),a20_7],(bool true))
def M20_22 : RW40 := (f_shCheck,[(agg [i1,a20_3,i4])],i0)
def M20_23 : RW40 := (f_shBox,[(agg [i1,a20_3,i4])],(agg [(jN 54),(nN 3),(jN 66),i4]))
def M20_24 : RW40 := (f_shInside,[(agg [i1,a20_3,i4]),a20_7],(bool true))
def M20_25 : RW40 := (f_nearPoint,[(agg [i1,(jN 58),i0,(jN 62),i0,i0,i0]),a20_7],(tup [a20_11,(agg [(jN 58),i0,i4,i0,i8,i16,i0])]))
def tabM20 : List RW40 := [M20_0,M20_1,M20_2,M20_3,M20_4,M20_5,M20_6,M20_7,M20_8,M20_9,M20_10,M20_11,M20_12,M20_13,M20_14,M20_15,M20_16,M20_17,M20_18,M20_19,M20_20,M20_21,M20_22,M20_23,M20_24,M20_25]
def P20_0 : RW40 := (f_padErr,[(agg [(str [80,51]),i2,a20_0,i0,(jN 60),i0,i0])],i0)
def P20_1 : RW40 := (f_padErr,[(agg [(str [80,51]),i2,a20_0,i0,(jN 60),i0,i2])],i0)
def P20_2 : RW40 := (f_padErr,[(agg [(str [80,51]),i2,a20_0,i0,(jN 60),i0,i4])],i0)
def P20_3 : RW40 := (f_padErr,[(agg [(str [80,51]),i2,a20_0,i0,(jN 60),i0,i6])],i0)
def P20_4 : RW40 := (f_padErr,[(agg [(str [80,51]),i1,a20_1,i4,(jN 60),i0,i0])],i0)
def P20_5 : RW40 := (f_padErr,[(agg [(str [80,51]),i1,a20_1,i4,(jN 60),i0,i2])],i0)
def P20_6 : RW40 := (f_padErr,[(agg [(str [80,51]),i1,a20_1,i4,(jN 60),i0,i4])],i0)
def P20_7 : RW40 := (f_padErr,[(agg [(str [80,51]),i1,a20_1,i4,(jN 60),i0,i6])],i0)
def P20_8 : RW40 := (f_padErr,[(agg [(str [80,51]),i1,a20_1,i5,(jN 60),i0,i0])],i0)
def P20_9 : RW40 := (f_padErr,[(agg [(str [80,51]),i1,a20_1,i5,(jN 60),i0,i2])],i0)
def P20_10 : RW40 := (f_padErr,[(agg [(str [80,51]),i1,a20_1,i5,(jN 60),i0,i4])],i0)
def P20_11 : RW40 := (f_padErr,[(agg [(str [80,51]),i1,a20_1,i5,(jN 60),i0,i6])],i0)
def P20_12 : RW40 := (f_padErr,[(agg [(str [80,51]),i1,a20_1,i6,(jN 60),i0,i0])],i0)
def P20_13 : RW40 := (f_padErr,[(agg [(str [80,51]),i1,a20_1,i6,(jN 60),i0,i2])],i0)
def P20_14 : RW40 := (f_padErr,[(agg [(str [80,51]),i1,a20_1,i6,(jN 60),i0,i4])],i0)
def P20_15 : RW40 := (f_padErr,[(agg [(str [80,51]),i1,a20_1,i6,(jN 60),i0,i6])],i0)
def P20_16 : RW40 := (f_padErr,[(agg [(str [80,51]),i1,a20_3,i4,(jN 60),i0,i0])],i0)
def P20_17 : RW40 := (f_padErr,[(agg [(str [80,51]),i1,a20_3,i4,(jN 60),i0,i2])],i0)
def P20_18 : RW40 := (f_padErr,[(agg [(str [80,51]),i1,a20_3,i4,(jN 60),i0,i4])],i0)
def P20_19 : RW40 := (f_padErr,[(agg [(str [80,51]),i1,a20_3,i4,(jN 60),i0,i6])],i0)
def tabP20 : List RW40 := [P20_0,P20_1,P20_2,P20_3,P20_4,P20_5,P20_6,P20_7,P20_8,P20_9,P20_10,P20_11,P20_12,P20_13,P20_14,P20_15,P20_16,P20_17,P20_18,P20_19]
noncomputable abbrev ra20 (r : RW40) : Bool := rowB XR 100 r
theorem hE20_0 : ra20 E20_0 = true := by kernel_rfl
theorem hE20_1 : ra20 E20_1 = true := by kernel_rfl
theorem hE20_2 : ra20 E20_2 = true := by kernel_rfl
theorem hE20_3 : ra20 E20_3 = true := by kernel_rfl
theorem hE20_4 : ra20 E20_4 = true := by kernel_rfl
theorem hE20_5 : ra20 E20_5 = true := by kernel_rfl
theorem rowsE20 : Rows XR tabE20 := .s hE20_0 (.s hE20_1 (.s hE20_2 (.s hE20_3 (.s hE20_4 (.s hE20_5 (.z))))))
noncomputable abbrev rb20 (r : RW40) : Bool := rowB (XEof tabE20) 100 r
theorem hM20_0 : rb20 M20_0 = true := by kernel_rfl
theorem hM20_1 : rb20 M20_1 = true := by kernel_rfl
theorem hM20_2 : rb20 M20_2 = true := by kernel_rfl
theorem hM20_3 : rb20 M20_3 = true := by kernel_rfl
theorem hM20_4 : rb20 M20_4 = true := by kernel_rfl
theorem hM20_5 : rb20 M20_5 = true := by kernel_rfl
theorem hM20_6 : rb20 M20_6 = true := by kernel_rfl
theorem hM20_7 : rb20 M20_7 = true := by kernel_rfl
theorem hM20_8 : rb20 M20_8 = true := by kernel_rfl
theorem hM20_9 : rb20 M20_9 = true := by kernel_rfl
theorem hM20_10 : rb20 M20_10 = true := by kernel_rfl
theorem hM20_11 : rb20 M20_11 = true := by kernel_rfl
theorem hM20_12 : rb20 M20_12 = true := by kernel_rfl
theorem hM20_13 : rb20 M20_13 = true := by kernel_rfl
theorem hM20_14 : rb20 M20_14 = true := by kernel_rfl
theorem hM20_15 : rb20 M20_15 = true := by kernel_rfl
theorem hM20_16 : rb20 M20_16 = true := by kernel_rfl
theorem hM20_17 : rb20 M20_17 = true := by kernel_rfl
theorem hM20_18 : rb20 M20_18 = true := by kernel_rfl
theorem hM20_19 : rb20 M20_19 = true := by kernel_rfl
theorem hM20_20 : rb20 M20_20 = true := by kernel_rfl
theorem hM20_21 : rb20 M20_21 = true := by kernel_rfl
theorem hM20_22 : rb20 M20_22 = true := by kernel_rfl
theorem hM20_23 : rb20 M20_23 = true := by kernel_rfl
theorem hM20_24 : rb20 M20_24 = true := by kernel_rfl
theorem hM20_25 : rb20 M20_25 = true := by kernel_rfl
theorem rowsM20 : Rows (XEof tabE20) tabM20 := .s hM20_0 (.s hM20_1 (.s hM20_2 (.s hM20_3 (.s hM20_4 (.s hM20_5 (.s hM20_6 (.s hM20_7 (.s hM20_8 (.s hM20_9 (.s hM20_10 (.s hM20_11 (.s hM20_12 (.s hM20_13 (.s hM20_14 (.s hM20_15 (.s hM20_16 (.s hM20_17 (.s hM20_18 (.s hM20_19 (.s hM20_20 (.s hM20_21 (.s hM20_22 (.s hM20_23 (.s hM20_24 (.s hM20_25 (.z))))))))))))))))))))))))))
noncomputable abbrev rc20 (r : RW40) : Bool := rowB (XMof tabE20 tabM20) 100 r
theorem hP20_0 : rc20 P20_0 = true := by kernel_rfl
theorem hP20_1 : rc20 P20_1 = true := by kernel_rfl
theorem hP20_2 : rc20 P20_2 = true := by kernel_rfl
theorem hP20_3 : rc20 P20_3 = true := by kernel_rfl
theorem hP20_4 : rc20 P20_4 = true := by kernel_rfl
theorem hP20_5 : rc20 P20_5 = true := by kernel_rfl
theorem hP20_6 : rc20 P20_6 = true := by kernel_rfl
theorem hP20_7 : rc20 P20_7 = true := by kernel_rfl
theorem hP20_8 : rc20 P20_8 = true := by kernel_rfl
theorem hP20_9 : rc20 P20_9 = true := by kernel_rfl
theorem hP20_10 : rc20 P20_10 = true := by kernel_rfl
theorem hP20_11 : rc20 P20_11 = true := by kernel_rfl
theorem hP20_12 : rc20 P20_12 = true := by kernel_rfl
theorem hP20_13 : rc20 P20_13 = true := by kernel_rfl
theorem hP20_14 : rc20 P20_14 = true := by kernel_rfl
theorem hP20_15 : rc20 P20_15 = true := by kernel_rfl
theorem hP20_16 : rc20 P20_16 = true := by kernel_rfl
theorem hP20_17 : rc20 P20_17 = true := by kernel_rfl
theorem hP20_18 : rc20 P20_18 = true := by kernel_rfl
theorem hP20_19 : rc20 P20_19 = true := by kernel_rfl
theorem rowsP20 : Rows (XMof tabE20 tabM20) tabP20 := .s hP20_0 (.s hP20_1 (.s hP20_2 (.s hP20_3 (.s hP20_4 (.s hP20_5 (.s hP20_6 (.s hP20_7 (.s hP20_8 (.s hP20_9 (.s hP20_10 (.s hP20_11 (.s hP20_12 (.s hP20_13 (.s hP20_14 (.s hP20_15 (.s hP20_16 (.s hP20_17 (.s hP20_18 (.s hP20_19 (.z))))))))))))))))))))
end Go.Abs.T
end
section
namespace Go.Abs.T
open AV
set_option maxRecDepth 10000
abbrev a21_0 : AV := rslc 4 [i1,(jN 54),i4,(jN 66),i4,i0,i0,i1,(jN 66),i4,(jN 66),i16,i0,i0,i1,(jN 66),i16,(jN 54),i16,i0,i0,i1,(jN 54),i16,(jN 54),i4,i0,i0]
abbrev a21_1 : AV := rslc 1 [i1,(jN 60),i10,(jN 60),i10,i0,i0]
abbrev a21_2 : AV := agg [i1,(jN 60),i10,(jN 60),i10,i0,i0]
abbrev a21_3 : AV := rslc 1 [i1,(jN 58),i10,(jN 62),i10,i0,i0]
abbrev a21_4 : AV := agg [i0,i1,(bool false),(rslc 1 [(uN 36)]),(bool false),(rslc 1 [(uN 1)])]
abbrev a21_5 : AV := agg [(jN 60),i10,i0,i0,i0,i1,i0]
abbrev a21_6 : AV := agg [(jN 60),i10]
abbrev a21_7 : AV := agg [i1,(jN 66),i16,(jN 54),i16,i0,i0]
abbrev a21_8 : AV := agg [i1,(jN 66),i4,(jN 66),i16,i0,i0]
abbrev a21_9 : AV := agg [i1,(jN 54),i16,(jN 54),i4,i0,i0]
abbrev a21_10 : AV := agg [i1,(jN 54),i4,(jN 66),i4,i0,i0]
abbrev a21_11 : AV := agg [i0,i0,(bool false),nils,(bool false),(rslc 1 [(uN 1)])]
def E21_0 : RW40 := (f_edgeCheck,[a21_10],i0)
def E21_1 : RW40 := (f_edgeCheck,[a21_8],i0)
def E21_2 : RW40 := (f_edgeCheck,[a21_7],i0)
def E21_3 : RW40 := (f_edgeCheck,[a21_9],i0)
def E21_4 : RW40 := (f_edgeCheck,[a21_2],i0)
def E21_5 : RW40 := (f_edgeCheck,[(agg [i1,(jN 58),i10,(jN 62),i10,i0,i0])],i0)
def tabE21 : List RW40 := [E21_0,E21_1,E21_2,E21_3,E21_4,E21_5]
def M21_0 : RW40 := (f_shCheck,[(agg [i2,a21_0,i0])],i0)
def M21_1 : RW40 := (f_shBox,[(agg [i2,a21_0,i0])],(agg [(jN 54),i4,(jN 66),i16]))
def M21_2 : RW40 := (f_shInside,[(agg [i2,a21_0,i0]),a21_6],(bool true))
def M21_3 : RW40 := (f_shCheck,[(agg [i1,a21_0,i0])],i0)
def M21_4 : RW40 := (f_meetEdges,[a21_10,a21_2],(bool false))
def M21_5 : RW40 := (f_nearEdges,[a21_10,a21_2],(tup [a21_4,(agg [(jN 54),i4,i12,i0,(jN 72),(jN 144),i0]),a21_5]))
def M21_6 : RW40 := (f_meetEdges,[a21_8,a21_2],(bool false))
def M21_7 : RW40 := (f_nearEdges,[a21_8,a21_2],(tup [a21_4,(agg [(jN 66),i4,i0,i12,(jN 72),(jN 144),i0]),a21_5]))
def M21_8 : RW40 := (f_meetEdges,[a21_7,a21_2],(bool false))
def M21_9 : RW40 := (f_nearEdges,[a21_7,a21_2],(tup [a21_4,(agg [(jN 66),i16,(nN 11),i0,(jN 72),(jN 144),i0]),a21_5]))
def M21_10 : RW40 := (f_meetEdges,[a21_9,a21_2],(bool false))
def M21_11 : RW40 := (f_nearEdges,[a21_9,a21_2],(tup [a21_4,(agg [(jN 54),i16,i0,(nN 11),(jN 72),(jN 144),i0]),a21_5]))
def M21_12 : RW40 := (f_shCheck,[(agg [i1,a21_1,i4])],i0)
def M21_13 : RW40 := (f_shBox,[(agg [i1,a21_1,i4])],(agg [(jN 56),i6,(jN 64),i14]))
def M21_14 : RW40 := (f_shInside,[(agg [i1,a21_1,i4]),a21_6],(bool true))
def M21_15 : RW40 := (f_nearPoint,[a21_2,a21_6],(tup [a21_11,a21_5]))
def M21_16 : RW40 := (f_shCheck,[(agg [i1,a21_1,i5])],i0)
def M21_17 : RW40 := (f_shBox,[(agg [i1,a21_1,i5])],(agg [(jN 55),i5,(jN 65),i15]))
def M21_18 : RW40 := (f_shInside,[(agg [i1,a21_1,i5]),a21_6],(bool true))
def M21_19 : RW40 := (f_shCheck,[(agg [i1,a21_1,i6])],i0)
def M21_20 : RW40 := (f_shBox,[(agg [i1,a21_1,i6])],(agg [(jN 54),i4,(jN 66),i16]))
def M21_21 : RW40 := (f_shInside,[(agg [i1,a21_1,i6]),a21_6],(bool true))
def M21_22 : RW40 := (f_shCheck,[(agg [i1,a21_3,i4])],i0)
def M21_23 : RW40 := (f_shBox,[(agg [i1,a21_3,i4])],(agg [(jN 54),i6,(jN 66),i14]))
def M21_24 : RW40 := (f_shInside,[(agg [i1,a21_3,i4]),a21_6],(bool true))
def M21_25 : RW40 := (f_nearPoint,[(agg [i1,(jN 58),i10,(jN 62),i10,i0,i0]),a21_6],(tup [a21_11,(agg [(jN 58),i10,i4,i0,i8,i16,i0])]))
def tabM21 : List RW40 := [M21_0,M21_1,M21_2,M21_3,M21_4,M21_5,M21_6,M21_7,M21_8,M21_9,M21_10,M21_11,M21_12,M21_13,M21_14,M21_15,M21_16,M21_17,M21_18,M21_19,M21_20,M21_21,M21_22,M21_23,M21_24,M21_25]
def P21_0 : RW40 := (f_padErr,[(agg [(str [80,51]),i2,a21_0,i0,(jN 60),i10,i0])],i0)
def P21_1 : RW40 := (f_padErr,[(agg [(str [80,51]),i2,a21_0,i0,(jN 60),i10,i2])],i0)
def P21_2 : RW40 := (f_padErr,[(agg [(str [80,51]),i2,a21_0,i0,(jN 60),i10,i4])],i0)
def P21_3 : RW40 := (f_padErr,[(agg [(str [80,51]),i2,a21_0,i0,(jN 60),i10,i6])],i0)
def P21_4 : RW40 := (f_padErr,[(agg [(str [80,51]),i1,a21_1,i4,(jN 60),i10,i0])],i0)
def P21_5 : RW40 := (f_padErr,[(agg [(str [80,51]),i1,a21_1,i4,(jN 60),i10,i2])],i0)
def P21_6 : RW40 := (f_padErr,[(agg [(str [80,51]),i1,a21_1,i4,(jN 60),i10,i4])],i0)
def P21_7 : RW40 := (f_padErr,[(agg [(str [80,51]),i1,a21_1,i4,(jN 60),i10,i6])],i0)
def P21_8 : RW40 := (f_padErr,[(agg [(str [80,51]),i1,a21_1,i5,(jN 60),i10,i0])],i0)
def P21_9 : RW40 := (f_padErr,[(agg [(str [80,51]),i1,a21_1,i5,(jN 60),i10,i2])],i0)
def P21_10 : RW40 := (f_padErr,[(agg [(str [80,51]),i1,a21_1,i5,(jN 60),i10,i4])],i0)
def P21_11 : RW40 := (f_padErr,[(agg [(str [80,51]),i1,a21_1,i5,(jN 60),i10,i6])],i0)
def P21_12 : RW40 := (f_padErr,[(agg [(str [80,51]),i1,a21_1,i6,(jN 60),i10,i0])],i0)
def P21_13 : RW40 := (f_padErr,[(agg [(str [80,51]),i1,a21_1,i6,(jN 60),i10,i2])],i0)
def P21_14 : RW40 := (f_padErr,[(agg [(str [80,51]),i1,a21_1,i6,(jN 60),i10,i4])],i0)
def P21_15 : RW40 := (f_padErr,[(agg [(str [80,51]),i1,a21_1,i6,(jN 60),i10,i6])],i0)
def P21_16 : RW40 := (f_padErr,[(agg [(str [80,51]),i1,a21_3,i4,(jN 60),i10,i0])],i0)
def P21_17 : RW40 := (f_padErr,[(agg [(str [80,51]),i1,a21_3,i4,(jN 60),i10,i2])],i0)
def P21_18 : RW40 := (f_padErr,[(agg [(str [80,51]),i1,a21_3,i4,(jN 60),i10,i4])],i0)
def P21_19 : RW40 := (f_padErr,[(agg [(str [80,51]),i1,a21_3,i4,(jN 60),i10,i6])],i0)
def tabP21 : List RW40 := [P21_0,P21_1,P21_2,P21_3,P21_4,P21_5,P21_6,P21_7,P21_8,P21_9,P21_10,P21_11,P21_12,P21_13,P21_14,P21_15,P21_16,P21_17,P21_18,P21_19]
noncomputable abbrev ra21 (r : RW40) : Bool := rowB XR 100 r
theorem hE21_0 : ra21 E21_0 = true := by kernel_rfl
theorem hE21_1 : ra21 E21_1 = true := by kernel_rfl
theorem hE21_2 : ra21 E21_2 = true := by kernel_rfl
theorem hE21_3 : ra21 E21_3 = true := by kernel_rfl
theorem hE21_4 : ra21 E21_4 = true := by kernel_rfl
theorem hE21_5 : ra21 E21_5 = true := by kernel_rfl
theorem rowsE21 : Rows XR tabE21 := .s hE21_0 (.s hE21_1 (.s hE21_2 (.s hE21_3 (.s hE21_4 (.s hE21_5 (.z))))))
noncomputable abbrev rb21 (r : RW40) : Bool := rowB (XEof tabE21) 100 r
theorem hM21_0 : rb21 M21_0 = true := by kernel_rfl
theorem hM21_1 : rb21 M21_1 = true := by kernel_rfl
theorem hM21_2 : rb21 M21_2 = true := by kernel_rfl
theorem hM21_3 : rb21 M21_3 = true := by kernel_rfl
theorem hM21_4 : rb21 M21_4 = true := by kernel_rfl
theorem hM21_5 : rb21 M21_5 = true := by kernel_rfl
theorem hM21_6 : rb21 M21_6 = true := by kernel_rfl
theorem hM21_7 : rb21 M21_7 = true := by kernel_rfl
theorem hM21_8 : rb21 M21_8 = true := by kernel_rfl
theorem hM21_9 : rb21 M21_9 = true := by kernel_rfl
theorem hM21_10 : rb21 M21_10 = true := by kernel_rfl
theorem hM21_11 : rb21 M21_11 = true := by kernel_rfl
theorem hM21_12 : rb21 M21_12 = true := by kernel_rfl
theorem hM21_13 : rb21 M21_13 = true := by kernel_rfl
theorem hM21_14 : rb21 M21_14 = true := by kernel_rfl
theorem hM21_15 : rb21 M21_15 = true := by kernel_rfl
theorem hM21_16 : rb21 M21_16 = true := by kernel_rfl
theorem hM21_17 : rb21 M21_17 = true := by kernel_rfl
theorem hM21_18 : rb21 M21_18 = true := by kernel_rfl
theorem hM21_19 : rb21 M21_19 = true := by kernel_rfl
theorem hM21_20 : rb21 M21_20 = true := by kernel_rfl
theorem hM21_21 : rb21 M21_21 = true := by kernel_rfl
theorem hM21_22 : rb21 M21_22 = true := by kernel_rfl
theorem hM21_23 : rb21 M21_23 = true := by kernel_rfl
theorem hM21_24 : rb21 M21_24 = true := by kernel_rfl
theorem hM21_25 : rb21 M21_25 = true := by kernel_rfl
theorem rowsM21 : Rows (XEof tabE21) tabM21 := .s hM21_0 (.s hM21_1 (.s hM21_2 (.s hM21_3 (.s hM21_4 (.s hM21_5 (.s hM21_6 (.s hM21_7 (.s hM21_8 (.s hM21_9 (.s hM21_10 (.s hM21_11 (.s hM21_12 (.s hM21_13 (.s hM21_14 (.s hM21_15 (.s hM21_16 (.s hM21_17 (.s hM21_18 (.s hM21_19 (.s hM21_20 (.s hM21_21 (.s hM21_22 (.s hM21_23 (.s hM21_24 (.s hM21_25 (.z))))))))))))))))))))))))))
noncomputable abbrev rc21 (r : RW40) : Bool := rowB (XMof tabE21 tabM21) 100 r
theorem hP21_0 : rc21 P21_0 = true := by kernel_rfl
theorem hP21_1 : rc21 P21_1 = true := by kernel_rfl
theorem hP21_2 : rc21 P21_2 = true := by kernel_rfl
theorem hP21_3 : rc21 P21_3 = true := by kernel_rfl
theorem hP21_4 : rc21 P21_4 = true := by kernel_rfl
theorem hP21_5 : rc21 P21_5 = true := by kernel_rfl
theorem hP21_6 : rc21 P21_6 = true := by kernel_rfl
theorem hP21_7 : rc21 P21_7 = true := by kernel_rfl
theorem hP21_8 : rc21 P21_8 = true := by kernel_rfl
theorem hP21_9 : rc21 P21_9 = true := by kernel_rfl
theorem hP21_10 : rc21 P21_10 = true := by kernel_rfl
theorem hP21_11 : rc21 P21_11 = true := by kernel_rfl
theorem hP21_12 : rc21 P21_12 = true := by kernel_rfl
theorem hP21_13 : rc21 P21_13 = true := by kernel_rfl
theorem hP21_14 : rc21 P21_14 = true := by kernel_rfl
theorem hP21_15 : rc21 P21_15 = true := by kernel_rfl
theorem hP21_16 : rc21 P21_16 = true := by kernel_rfl
theorem hP21_17 : rc21 P21_17 = true := by kernel_rfl
theorem hP21_18 : rc21 P21_18 = true := by kernel_rfl
theorem hP21_19 : rc21 P21_19 = true := by kernel_rfl
theorem rowsP21 : Rows (XMof tabE21 tabM21) tabP21 := .s hP21_0 (.s hP21_1 (.s hP21_2 (.s hP21_3 (.s hP21_4 (.s hP21_5 (.s hP21_6 (.s hP21_7 (.s hP21_8 (.s hP21_9 (.s hP21_10 (.s hP21_11 (.s hP21_12 (.s hP21_13 (.s hP21_14 (.s hP21_15 (.s hP21_16 (.s hP21_17 (.s hP21_18 (.s hP21_19 (.z))))))))))))))))))))
end Go.Abs.T
end
