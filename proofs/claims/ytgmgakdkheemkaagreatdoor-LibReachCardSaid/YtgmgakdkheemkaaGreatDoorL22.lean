/- A part of the proof that LibSwaps answers true at every input: AbsKp60. -/
import Derived.Test.YtgmgakdkheemkaaGreatDoorL21
section
namespace Go.Abs.T
open AV
abbrev RW22 : Type := Pth × List AV × AV
set_option maxRecDepth 10000
abbrev a60_0 : AV := rslc 4 [i1,(nN 3),(nN 3),i4,(nN 3),i0,i0,i1,i4,(nN 3),i4,i4,i0,i0,i1,i4,i4,(nN 3),i4,i0,i0,i1,(nN 3),i4,(nN 3),(nN 3),i0,i0]
abbrev a60_1 : AV := rslc 4 [i1,(jN 96),(nN 3),(jN 104),(nN 3),i0,i0,i1,(jN 104),(nN 3),(jN 104),i4,i0,i0,i1,(jN 104),i4,(jN 96),i4,i0,i0,i1,(jN 96),i4,(jN 96),(nN 3),i0,i0]
abbrev a60_2 : AV := rslc 4 [i1,(jN 36),(nN 3),(jN 44),(nN 3),i0,i0,i1,(jN 44),(nN 3),(jN 44),i4,i0,i0,i1,(jN 44),i4,(jN 36),i4,i0,i0,i1,(jN 36),i4,(jN 36),(nN 3),i0,i0]
abbrev a60_3 : AV := rslc 4 [i1,(jN 56),(nN 3),(jN 64),(nN 3),i0,i0,i1,(jN 64),(nN 3),(jN 64),i4,i0,i0,i1,(jN 64),i4,(jN 56),i4,i0,i0,i1,(jN 56),i4,(jN 56),(nN 3),i0,i0]
abbrev a60_4 : AV := rslc 4 [i1,(jN 76),(nN 3),(jN 84),(nN 3),i0,i0,i1,(jN 84),(nN 3),(jN 84),i4,i0,i0,i1,(jN 84),i4,(jN 76),i4,i0,i0,i1,(jN 76),i4,(jN 76),(nN 3),i0,i0]
abbrev a60_5 : AV := rslc 4 [i1,i16,(nN 3),i24,(nN 3),i0,i0,i1,i24,(nN 3),i24,i4,i0,i0,i1,i24,i4,i16,i4,i0,i0,i1,i16,i4,i16,(nN 3),i0,i0]
abbrev a60_6 : AV := agg [i0,i1,(bool false),(rslc 1 [(uN 16)]),(bool false),(rslc 1 [(uN 1)])]
abbrev a60_7 : AV := agg [i1,i0,i0,i0,i0,i0,i0]
abbrev a60_8 : AV := agg [i1,(nN 3),(nN 3),i4,(nN 3),i0,i0]
abbrev a60_9 : AV := agg [i1,(nN 3),i4,(nN 3),(nN 3),i0,i0]
abbrev a60_10 : AV := agg [i0,i0,i0,i0,i0,i1,i0]
abbrev a60_11 : AV := agg [i1,i4,(nN 3),i4,i4,i0,i0]
abbrev a60_12 : AV := agg [i1,i4,i4,(nN 3),i4,i0,i0]
def E60_0 : RW22 := (f_edgeCheck,[a60_8],i0)
def E60_1 : RW22 := (f_edgeCheck,[a60_11],i0)
def E60_2 : RW22 := (f_edgeCheck,[a60_12],i0)
def E60_3 : RW22 := (f_edgeCheck,[a60_9],i0)
def E60_4 : RW22 := (f_edgeCheck,[(agg [i1,i16,(nN 3),i24,(nN 3),i0,i0])],i0)
def E60_5 : RW22 := (f_edgeCheck,[(agg [i1,i24,(nN 3),i24,i4,i0,i0])],i0)
def E60_6 : RW22 := (f_edgeCheck,[(agg [i1,i24,i4,i16,i4,i0,i0])],i0)
def E60_7 : RW22 := (f_edgeCheck,[(agg [i1,i16,i4,i16,(nN 3),i0,i0])],i0)
def E60_8 : RW22 := (f_edgeCheck,[(agg [i1,(jN 36),(nN 3),(jN 44),(nN 3),i0,i0])],i0)
def E60_9 : RW22 := (f_edgeCheck,[(agg [i1,(jN 44),(nN 3),(jN 44),i4,i0,i0])],i0)
def E60_10 : RW22 := (f_edgeCheck,[(agg [i1,(jN 44),i4,(jN 36),i4,i0,i0])],i0)
def E60_11 : RW22 := (f_edgeCheck,[(agg [i1,(jN 36),i4,(jN 36),(nN 3),i0,i0])],i0)
def E60_12 : RW22 := (f_edgeCheck,[(agg [i1,(jN 56),(nN 3),(jN 64),(nN 3),i0,i0])],i0)
def E60_13 : RW22 := (f_edgeCheck,[(agg [i1,(jN 64),(nN 3),(jN 64),i4,i0,i0])],i0)
def E60_14 : RW22 := (f_edgeCheck,[(agg [i1,(jN 64),i4,(jN 56),i4,i0,i0])],i0)
def E60_15 : RW22 := (f_edgeCheck,[(agg [i1,(jN 56),i4,(jN 56),(nN 3),i0,i0])],i0)
def E60_16 : RW22 := (f_edgeCheck,[(agg [i1,(jN 76),(nN 3),(jN 84),(nN 3),i0,i0])],i0)
def E60_17 : RW22 := (f_edgeCheck,[(agg [i1,(jN 84),(nN 3),(jN 84),i4,i0,i0])],i0)
def E60_18 : RW22 := (f_edgeCheck,[(agg [i1,(jN 84),i4,(jN 76),i4,i0,i0])],i0)
def E60_19 : RW22 := (f_edgeCheck,[(agg [i1,(jN 76),i4,(jN 76),(nN 3),i0,i0])],i0)
def E60_20 : RW22 := (f_edgeCheck,[(agg [i1,(jN 96),(nN 3),(jN 104),(nN 3),i0,i0])],i0)
def E60_21 : RW22 := (f_edgeCheck,[(agg [i1,(jN 104),(nN 3),(jN 104),i4,i0,i0])],i0)
def E60_22 : RW22 := (f_edgeCheck,[(agg [i1,(jN 104),i4,(jN 96),i4,i0,i0])],i0)
def E60_23 : RW22 := (f_edgeCheck,[(agg [i1,(jN 96),i4,(jN 96),(nN 3),i0,i0])],i0)
def E60_24 : RW22 := (f_edgeCheck,[a60_7],i0)
def tabE60 : List RW22 := [E60_0,E60_1,E60_2,E60_3,E60_4,E60_5,E60_6,E60_7,E60_8,E60_9,E60_10,E60_11,E60_12,E60_13,E60_14,E60_15,E60_16,E60_17,E60_18,E60_19,E60_20,E60_21,E60_22,E60_23,E60_24]
def M60_0 : RW22 := (f_shCheck,[(agg [i2,a60_0,i0])],i0)
def M60_1 : RW22 := (f_shBox,[(agg [i2,a60_0,i0])],(agg [(nN 3),(nN 3),i4,i4]))
def M60_2 : RW22 := (f_shInside,[(agg [i2,a60_0,i0]),(agg [i0,i0])],(bool true))
def M60_3 : RW22 := (f_shCheck,[(agg [i2,a60_5,i0])],i0)
def M60_4 : RW22 := (f_shBox,[(agg [i2,a60_5,i0])],(agg [i16,(nN 3),i24,i4]))
def M60_5 : RW22 := (f_shInside,[(agg [i2,a60_5,i0]),(agg [i20,i0])],(bool true))
def M60_6 : RW22 := (f_shCheck,[(agg [i2,a60_2,i0])],i0)
def M60_7 : RW22 := (f_shBox,[(agg [i2,a60_2,i0])],(agg [(jN 36),(nN 3),(jN 44),i4]))
def M60_8 : RW22 := (f_shInside,[(agg [i2,a60_2,i0]),(agg [(jN 40),i0])],(bool true))
def M60_9 : RW22 := (f_shCheck,[(agg [i2,a60_3,i0])],i0)
def M60_10 : RW22 := (f_shBox,[(agg [i2,a60_3,i0])],(agg [(jN 56),(nN 3),(jN 64),i4]))
def M60_11 : RW22 := (f_shInside,[(agg [i2,a60_3,i0]),(agg [(jN 60),i0])],(bool true))
def M60_12 : RW22 := (f_shCheck,[(agg [i2,a60_4,i0])],i0)
def M60_13 : RW22 := (f_shBox,[(agg [i2,a60_4,i0])],(agg [(jN 76),(nN 3),(jN 84),i4]))
def M60_14 : RW22 := (f_shInside,[(agg [i2,a60_4,i0]),(agg [(jN 80),i0])],(bool true))
def M60_15 : RW22 := (f_shCheck,[(agg [i2,a60_1,i0])],i0)
def M60_16 : RW22 := (f_shBox,[(agg [i2,a60_1,i0])],(agg [(jN 96),(nN 3),(jN 104),i4]))
def M60_17 : RW22 := (f_shInside,[(agg [i2,a60_1,i0]),(agg [(jN 100),i0])],(bool true))
def M60_18 : RW22 := (f_shCheck,[(agg [i1,a60_0,i0])],i0)
def M60_19 : RW22 := (f_meetEdges,[a60_8,a60_7],(bool false))
def M60_20 : RW22 := (f_nearEdges,[a60_8,a60_7],(tup [a60_6,(agg [(nN 3),(nN 3),i8,i0,i32,(jN 64),i0]),a60_10]))
def M60_21 : RW22 := (f_meetEdges,[a60_11,a60_7],(bool false))
def M60_22 : RW22 := (f_nearEdges,[a60_11,a60_7],(tup [a60_6,(agg [i4,(nN 3),i0,i8,i32,(jN 64),i0]),a60_10]))
def M60_23 : RW22 := (f_meetEdges,[a60_12,a60_7],(bool false))
def M60_24 : RW22 := (f_nearEdges,[a60_12,a60_7],(tup [a60_6,(agg [i4,i4,(nN 7),i0,i32,(jN 64),i0]),a60_10]))
def M60_25 : RW22 := (f_meetEdges,[a60_9,a60_7],(bool false))
def M60_26 : RW22 := (f_nearEdges,[a60_9,a60_7],(tup [a60_6,(agg [(nN 3),i4,i0,(nN 7),i32,(jN 64),i0]),a60_10]))
def tabM60 : List RW22 := [M60_0,M60_1,M60_2,M60_3,M60_4,M60_5,M60_6,M60_7,M60_8,M60_9,M60_10,M60_11,M60_12,M60_13,M60_14,M60_15,M60_16,M60_17,M60_18,M60_19,M60_20,M60_21,M60_22,M60_23,M60_24,M60_25,M60_26]
def P60_0 : RW22 := (f_padErr,[(agg [(str [80,49]),i2,a60_0,i0,i0,i0,i0])],i0)
def P60_1 : RW22 := (f_padErr,[(agg [(str [80,50]),i2,a60_5,i0,i20,i0,i0])],i0)
def P60_2 : RW22 := (f_padErr,[(agg [(str [80,51]),i2,a60_2,i0,(jN 40),i0,i0])],i0)
def P60_3 : RW22 := (f_padErr,[(agg [(str [80,52]),i2,a60_3,i0,(jN 60),i0,i0])],i0)
def P60_4 : RW22 := (f_padErr,[(agg [(str [80,53]),i2,a60_4,i0,(jN 80),i0,i0])],i0)
def P60_5 : RW22 := (f_padErr,[(agg [(str [80,54]),i2,a60_1,i0,(jN 100),i0,i0])],i0)
def P60_6 : RW22 := (f_padErr,[(agg [(str [80,49]),i2,a60_0,i0,i0,i0,i8])],i0)
def P60_7 : RW22 := (f_padErr,[(agg [(str [80,49]),i2,a60_0,i0,i0,i0,i10])],i22)
def tabP60 : List RW22 := [P60_0,P60_1,P60_2,P60_3,P60_4,P60_5,P60_6,P60_7]
noncomputable abbrev ra60 (r : RW22) : Bool := rowB XR 100 r
theorem hE60_0 : ra60 E60_0 = true := by kernel_rfl
theorem hE60_1 : ra60 E60_1 = true := by kernel_rfl
theorem hE60_2 : ra60 E60_2 = true := by kernel_rfl
theorem hE60_3 : ra60 E60_3 = true := by kernel_rfl
theorem hE60_4 : ra60 E60_4 = true := by kernel_rfl
theorem hE60_5 : ra60 E60_5 = true := by kernel_rfl
theorem hE60_6 : ra60 E60_6 = true := by kernel_rfl
theorem hE60_7 : ra60 E60_7 = true := by kernel_rfl
theorem hE60_8 : ra60 E60_8 = true := by kernel_rfl
theorem hE60_9 : ra60 E60_9 = true := by kernel_rfl
theorem hE60_10 : ra60 E60_10 = true := by kernel_rfl
theorem hE60_11 : ra60 E60_11 = true := by kernel_rfl
theorem hE60_12 : ra60 E60_12 = true := by kernel_rfl
theorem hE60_13 : ra60 E60_13 = true := by kernel_rfl
theorem hE60_14 : ra60 E60_14 = true := by kernel_rfl
theorem hE60_15 : ra60 E60_15 = true := by kernel_rfl
theorem hE60_16 : ra60 E60_16 = true := by kernel_rfl
theorem hE60_17 : ra60 E60_17 = true := by kernel_rfl
theorem hE60_18 : ra60 E60_18 = true := by kernel_rfl
theorem hE60_19 : ra60 E60_19 = true := by kernel_rfl
theorem hE60_20 : ra60 E60_20 = true := by kernel_rfl
theorem hE60_21 : ra60 E60_21 = true := by kernel_rfl
theorem hE60_22 : ra60 E60_22 = true := by kernel_rfl
theorem hE60_23 : ra60 E60_23 = true := by kernel_rfl
theorem hE60_24 : ra60 E60_24 = true := by kernel_rfl
theorem rowsE60 : Rows XR tabE60 := .s hE60_0 (.s hE60_1 (.s hE60_2 (.s hE60_3 (.s hE60_4 (.s hE60_5 (.s hE60_6 (.s hE60_7 (.s hE60_8 (.s hE60_9 (.s hE60_10 (.s hE60_11 (.s hE60_12 (.s hE60_13 (.s hE60_14 (.s hE60_15 (.s hE60_16 (.s hE60_17 (.s hE60_18 (.s hE60_19 (.s hE60_20 (.s hE60_21 (.s hE60_22 (.s hE60_23 (.s hE60_24 (.z)))))))))))))))))))))))))
noncomputable abbrev rb60 (r : RW22) : Bool := rowB (XEof tabE60) 100 r
theorem hM60_0 : rb60 M60_0 = true := by kernel_rfl
theorem hM60_1 : rb60 M60_1 = true := by kernel_rfl
theorem hM60_2 : rb60 M60_2 = true := by kernel_rfl
theorem hM60_3 : rb60 M60_3 = true := by kernel_rfl
theorem hM60_4 : rb60 M60_4 = true := by kernel_rfl
theorem hM60_5 : rb60 M60_5 = true := by kernel_rfl
theorem hM60_6 : rb60 M60_6 = true := by kernel_rfl
theorem hM60_7 : rb60 M60_7 = true := by kernel_rfl
theorem hM60_8 : rb60 M60_8 = true := by kernel_rfl
theorem hM60_9 : rb60 M60_9 = true := by kernel_rfl
theorem hM60_10 : rb60 M60_10 = true := by kernel_rfl
theorem hM60_11 : rb60 M60_11 = true := by kernel_rfl
theorem hM60_12 : rb60 M60_12 = true := by kernel_rfl
theorem hM60_13 : rb60 M60_13 = true := by kernel_rfl
theorem hM60_14 : rb60 M60_14 = true := by kernel_rfl
theorem hM60_15 : rb60 M60_15 = true := by kernel_rfl
theorem hM60_16 : rb60 M60_16 = true := by kernel_rfl
theorem hM60_17 : rb60 M60_17 = true := by kernel_rfl
theorem hM60_18 : rb60 M60_18 = true := by kernel_rfl
theorem hM60_19 : rb60 M60_19 = true := by kernel_rfl
theorem hM60_20 : rb60 M60_20 = true := by kernel_rfl
theorem hM60_21 : rb60 M60_21 = true := by kernel_rfl
theorem hM60_22 : rb60 M60_22 = true := by kernel_rfl
theorem hM60_23 : rb60 M60_23 = true := by kernel_rfl
theorem hM60_24 : rb60 M60_24 = true := by kernel_rfl
theorem hM60_25 : rb60 M60_25 = true := by kernel_rfl
theorem hM60_26 : rb60 M60_26 = true := by kernel_rfl
theorem rowsM60 : Rows (XEof tabE60) tabM60 := .s hM60_0 (.s hM60_1 (.s hM60_2 (.s hM60_3 (.s hM60_4 (.s hM60_5 (.s hM60_6 (.s hM60_7 (.s hM60_8 (.s hM60_9 (.s hM60_10 (.s hM60_11 (.s hM60_12 (.s hM60_13 (.s hM60_14 (.s hM60_15 (.s hM60_16 (.s hM60_17 (.s hM60_18 (.s hM60_19 (.s hM60_20 (.s hM60_21 (.s hM60_22 (.s hM60_23 (.s hM60_24 (.s hM60_25 (.s hM60_26 (.z)))))))))))))))))))))))))))
noncomputable abbrev rc60 (r : RW22) : Bool := rowB (XMof tabE60 tabM60) 100 r
theorem hP60_0 : rc60 P60_0 = true := by kernel_rfl
theorem hP60_1 : rc60 P60_1 = true := by kernel_rfl
theorem hP60_2 : rc60 P60_2 = true := by kernel_rfl
theorem hP60_3 : rc60 P60_3 = true := by kernel_rfl
theorem hP60_4 : rc60 P60_4 = true := by kernel_rfl
theorem hP60_5 : rc60 P60_5 = true := by kernel_rfl
theorem hP60_6 : rc60 P60_6 = true := by kernel_rfl
theorem hP60_7 : rc60 P60_7 = true := by kernel_rfl
theorem rowsP60 : Rows (XMof tabE60 tabM60) tabP60 := .s hP60_0 (.s hP60_1 (.s hP60_2 (.s hP60_3 (.s hP60_4 (.s hP60_5 (.s hP60_6 (.s hP60_7 (.z))))))))
end Go.Abs.T
end
