/- A part of the proof that LibSwaps answers true at every input: AbsKtab. -/
import Derived.KernelRfl
import Derived.Test.YtipcmdllhllolaaGreatDoorK17
import Derived.Test.YtipcmdllhllolaaGreatDoorK19
import Derived.Test.YtipcmdllhllolaaGreatDoorK22
noncomputable section
section
section
namespace Go.Abs.T
open AV
abbrev RW21:Type:=Pth×List AV×AV
set_option maxRecDepth 10000
abbrev jN (k:Nat):AV:=int .i64 (.ofNat k)
abbrev nN (k:Nat):AV:=int .i64 (.negSucc k)
abbrev uN (k:Nat):AV:=int .u32 (.ofNat k)
abbrev a_0:AV:=agg [i0,i1,(bool false),(rslc 1 [(uN 36)]),(bool false),(rslc 1 [(uN 1)])]
abbrev a_1:AV:=agg [i0,i1,(bool false),(rslc 1 [(uN 16)]),(bool false),(rslc 1 [(uN 1)])]
abbrev a_2:AV:=agg [i0,i0,(bool false),nils,(bool false),(rslc 1 [(uN 1)])]
abbrev a_3:AV:=agg [i0,i1,(bool false),(rslc 1 [(uN 72)]),(bool false),(rslc 1 [(uN 1)])]
abbrev a_4:AV:=agg [i0,i1,(bool false),(rslc 1 [(uN 32)]),(bool false),(rslc 1 [(uN 1)])]
abbrev a_5:AV:=agg [(bool false),(rslc 1 [(uN 1)])]
abbrev a_6:AV:=agg [(nN 0),i1,(bool false),(rslc 1 [(uN 36)]),(bool false),(rslc 1 [(uN 1)])]
abbrev a_7:AV:=agg [(nN 1),i1,(bool false),(rslc 1 [(uN 36)]),(bool false),(rslc 1 [(uN 1)])]
abbrev a_8:AV:=agg [(nN 2),i1,(bool false),(rslc 1 [(uN 36)]),(bool false),(rslc 1 [(uN 1)])]
abbrev a_9:AV:=agg [(nN 3),i1,(bool false),(rslc 1 [(uN 16)]),(bool false),(rslc 1 [(uN 1)])]
abbrev a_10:AV:=agg [(nN 4),i1,(bool false),(rslc 1 [(uN 16)]),(bool false),(rslc 1 [(uN 1)])]
abbrev a_11:AV:=agg [(bool false),nils]
def R_0:RW21:=(f_numOf,[(jN 72)],(agg [(bool false),(rslc 1 [(uN 72)])]))
def R_1:RW21:=(f_numOf,[i1],a_5)
def R_2:RW21:=(f_rootOf,[i0,i1,(agg [(bool false),(rslc 1 [(uN 72)])]),a_5],(tup [a_3,(bool true)]))
def R_3:RW21:=(f_power,[(jN 72)],(agg [(bool false),(rslc 1 [(uN 5184)])]))
def R_4:RW21:=(f_numOf,[(jN 144)],(agg [(bool false),(rslc 1 [(uN 144)])]))
def R_5:RW21:=(f_rootOf,[i0,i1,(agg [(bool false),(rslc 1 [(uN 5184)])]),(agg [(bool false),(rslc 1 [(uN 144)])])],(tup [a_0,(bool true)]))
def R_6:RW21:=(f_rootCmp,[a_3,a_3],i0)
def R_7:RW21:=(f_rootCmp,[a_0,a_3],(nN 0))
def R_8:RW21:=(f_rootCmp,[a_0,a_0],i0)
def R_9:RW21:=(f_rootPlus,[a_0,(nN 0)],(tup [a_6,(bool true)]))
def R_10:RW21:=(f_cmpInt,[a_6,i0],i1)
def R_11:RW21:=(f_rootPlus,[a_0,(nN 1)],(tup [a_7,(bool true)]))
def R_12:RW21:=(f_cmpInt,[a_7,i0],i1)
def R_13:RW21:=(f_rootPlus,[a_0,(nN 2)],(tup [a_8,(bool true)]))
def R_14:RW21:=(f_cmpInt,[a_8,i0],i1)
def R_15:RW21:=(f_numOf,[i0],a_11)
def R_16:RW21:=(f_rootOf,[i0,i1,a_11,a_5],(tup [a_2,(bool true)]))
def R_17:RW21:=(f_cmpInt,[a_2,i3],(nN 0))
def R_18:RW21:=(f_cmpInt,[a_2,i2],(nN 0))
def R_19:RW21:=(f_cmpInt,[a_2,i1],(nN 0))
def R_20:RW21:=(f_cmpInt,[a_2,i4],(nN 0))
def R_21:RW21:=(f_cmpInt,[a_2,i5],(nN 0))
def R_22:RW21:=(f_power,[i0],a_11)
def R_23:RW21:=(f_numOf,[i16],(agg [(bool false),(rslc 1 [(uN 16)])]))
def R_24:RW21:=(f_rootOf,[i0,i1,a_11,(agg [(bool false),(rslc 1 [(uN 16)])])],(tup [a_2,(bool true)]))
def R_25:RW21:=(f_numOf,[i32],(agg [(bool false),(rslc 1 [(uN 32)])]))
def R_26:RW21:=(f_rootOf,[i0,i1,(agg [(bool false),(rslc 1 [(uN 32)])]),a_5],(tup [a_4,(bool true)]))
def R_27:RW21:=(f_power,[i32],(agg [(bool false),(rslc 1 [(uN 1024)])]))
def R_28:RW21:=(f_numOf,[(jN 64)],(agg [(bool false),(rslc 1 [(uN 64)])]))
def R_29:RW21:=(f_rootOf,[i0,i1,(agg [(bool false),(rslc 1 [(uN 1024)])]),(agg [(bool false),(rslc 1 [(uN 64)])])],(tup [a_1,(bool true)]))
def R_30:RW21:=(f_rootCmp,[a_4,a_4],i0)
def R_31:RW21:=(f_rootCmp,[a_1,a_4],(nN 0))
def R_32:RW21:=(f_rootCmp,[a_1,a_1],i0)
def R_33:RW21:=(f_rootPlus,[a_1,(nN 3)],(tup [a_9,(bool true)]))
def R_34:RW21:=(f_cmpInt,[a_9,i0],i0)
def R_35:RW21:=(f_rootPlus,[a_1,(nN 4)],(tup [a_10,(bool true)]))
def R_36:RW21:=(f_cmpInt,[a_10,i0],(nN 0))
def tabR:List RW21:=[R_0,R_1,R_2,R_3,R_4,R_5,R_6,R_7,R_8,R_9,R_10,R_11,R_12,R_13,R_14,R_15,R_16,R_17,R_18,R_19,R_20,R_21,R_22,R_23,R_24,R_25,R_26,R_27,R_28,R_29,R_30,R_31,R_32,R_33,R_34,R_35,R_36]
def XR:Ctx:={ X0 with sums:=tabSums tabR (fun _ _ _=>none) }
noncomputable abbrev ra (r:RW21):Bool:=rowB X0 100 r
theorem hR_0:ra R_0=true:=by kernel_rfl
theorem hR_1:ra R_1=true:=by kernel_rfl
theorem hR_2:ra R_2=true:=by kernel_rfl
theorem hR_3:ra R_3=true:=by kernel_rfl
theorem hR_4:ra R_4=true:=by kernel_rfl
theorem hR_5:ra R_5=true:=by kernel_rfl
theorem hR_6:ra R_6=true:=by kernel_rfl
theorem hR_7:ra R_7=true:=by kernel_rfl
theorem hR_8:ra R_8=true:=by kernel_rfl
theorem hR_9:ra R_9=true:=by kernel_rfl
theorem hR_10:ra R_10=true:=by kernel_rfl
theorem hR_11:ra R_11=true:=by kernel_rfl
theorem hR_12:ra R_12=true:=by kernel_rfl
theorem hR_13:ra R_13=true:=by kernel_rfl
theorem hR_14:ra R_14=true:=by kernel_rfl
theorem hR_15:ra R_15=true:=by kernel_rfl
theorem hR_16:ra R_16=true:=by kernel_rfl
theorem hR_17:ra R_17=true:=by kernel_rfl
theorem hR_18:ra R_18=true:=by kernel_rfl
theorem hR_19:ra R_19=true:=by kernel_rfl
theorem hR_20:ra R_20=true:=by kernel_rfl
theorem hR_21:ra R_21=true:=by kernel_rfl
theorem hR_22:ra R_22=true:=by kernel_rfl
theorem hR_23:ra R_23=true:=by kernel_rfl
theorem hR_24:ra R_24=true:=by kernel_rfl
theorem hR_25:ra R_25=true:=by kernel_rfl
theorem hR_26:ra R_26=true:=by kernel_rfl
theorem hR_27:ra R_27=true:=by kernel_rfl
theorem hR_28:ra R_28=true:=by kernel_rfl
theorem hR_29:ra R_29=true:=by kernel_rfl
theorem hR_30:ra R_30=true:=by kernel_rfl
theorem hR_31:ra R_31=true:=by kernel_rfl
theorem hR_32:ra R_32=true:=by kernel_rfl
theorem hR_33:ra R_33=true:=by kernel_rfl
theorem hR_34:ra R_34=true:=by kernel_rfl
theorem hR_35:ra R_35=true:=by kernel_rfl
theorem hR_36:ra R_36=true:=by kernel_rfl
theorem rowsR:Rows X0 tabR:=.s hR_0 (.s hR_1 (.s hR_2 (.s hR_3 (.s hR_4 (.s hR_5 (.s hR_6 (.s hR_7 (.s hR_8 (.s hR_9 (.s hR_10 (.s hR_11 (.s hR_12 (.s hR_13 (.s hR_14 (.s hR_15 (.s hR_16 (.s hR_17 (.s hR_18 (.s hR_19 (.s hR_20 (.s hR_21 (.s hR_22 (.s hR_23 (.s hR_24 (.s hR_25 (.s hR_26 (.s hR_27 (.s hR_28 (.s hR_29 (.s hR_30 (.s hR_31 (.s hR_32 (.s hR_33 (.s hR_34 (.s hR_35 (.s hR_36 (.z)))))))))))))))))))))))))))))))))))))
def XEof (e:List (Pth×List AV×AV)):Ctx:={ X0 with sums:=tabSums e (tabSums tabR (fun _ _ _=>none)) }
def XMof (e m:List (Pth×List AV×AV)):Ctx:={ X0 with sums:=tabSums m (tabSums e (tabSums tabR (fun _ _ _=>none))) }
end Go.Abs.T
end
end
section
namespace Go.Abs.T
open AV
open Go.Abs.Sym
open Go.Proofs
abbrev RWq:Type:=Pth×List AV×AV
def zi (n:Int):AV:=int .i64 n
def ege (a b c d:Int):List AV:=[i1,zi a,zi b,zi c,zi d,i0,i0]
section
variable (x y:Int)
def rcE:List (List AV):=[ege (x-6) (y-6) (x+6) (y-6),ege (x+6) (y-6) (x+6) (y+6),ege (x+6) (y+6) (x-6) (y+6),ege (x-6) (y+6) (x-6) (y-6)]
def ptE:List AV:=ege x y x y
def lnE:List AV:=ege (x-2) y (x+2) y
def cenQ:AV:=agg [zi x,zi y]
def tabEq:List RWq:=(rcE x y++[ptE x y,lnE x y]).map fun e=>(f_edgeCheck,[agg e],i0)
def shQ (k:Int) (es:List (List AV)) (r:Int):AV:=agg [zi k,rslc es.length es.flatten,zi r]
def dirQ (a b c d m n:Int):AV:=agg [zi a,zi b,zi c,zi d,zi m,zi n,i0]
def stQ:AV:=agg [zi x,zi y,i0,i0,i0,i1,i0]
def dsQ (es:List (List AV)) (r a b:Int):List RWq:=[(f_shCheck,[shQ 1 es r],i0),(f_shBox,[shQ 1 es r],agg [zi (x-a),zi (y-b),zi (x+a),zi (y+b)]),(f_shInside,[shQ 1 es r,cenQ x y],bool true)]
def nrQ (e:List AV) (d:AV):List RWq:=[(f_meetEdges,[agg e,agg (ptE x y)],bool false),(f_nearEdges,[agg e,agg (ptE x y)],tup [agg [i0,i1,bool false,rslc 1 [uN 36],bool false,rslc 1 [uN 1]],d,stQ x y])]
def nilQ:AV:=agg [i0,i0,bool false,nils,bool false,rslc 1 [uN 1]]
def tabMq1:List RWq:=[(f_shCheck,[shQ 2 (rcE x y) 0],i0),(f_shBox,[shQ 2 (rcE x y) 0],agg [zi (x-6),zi (y-6),zi (x+6),zi (y+6)]),(f_shInside,[shQ 2 (rcE x y) 0,cenQ x y],bool true),(f_shCheck,[shQ 1 (rcE x y) 0],i0)]
def tabMq2:List RWq:=nrQ x y (ege (x-6) (y-6) (x+6) (y-6)) (dirQ (x-6) (y-6) 12 0 72 144)++nrQ x y (ege (x+6) (y-6) (x+6) (y+6)) (dirQ (x+6) (y-6) 0 12 72 144)
def tabMq3:List RWq:=nrQ x y (ege (x+6) (y+6) (x-6) (y+6)) (dirQ (x+6) (y+6) (-12) 0 72 144)++nrQ x y (ege (x-6) (y+6) (x-6) (y-6)) (dirQ (x-6) (y+6) 0 (-12) 72 144)
def tabMq4:List RWq:=dsQ x y [ptE x y] 4 4 4++[(f_nearPoint,[agg (ptE x y),cenQ x y],tup [nilQ,stQ x y])]
def tabMq5:List RWq:=dsQ x y [ptE x y] 5 5 5++dsQ x y [ptE x y] 6 6 6
def tabMq6:List RWq:=dsQ x y [lnE x y] 4 6 4++[(f_nearPoint,[agg (lnE x y),cenQ x y],tup [nilQ,dirQ (x-2) y 4 0 8 16])]
def tabMq:List RWq:=tabMq1 x y++(tabMq2 x y++(tabMq3 x y++(tabMq4 x y++(tabMq5 x y++tabMq6 x y))))
end
theorem _root_.Go.Abs.Rows.all {X:Ctx}:∀ {t:List RWq},t.all (rowB X 100)=true→Rows X t
 | [],_=>.z
 | _::_,h=>by
  rw [List.all_cons,Bool.and_eq_true] at h
  exact .s h.1 (Rows.all h.2)
theorem _root_.Go.Abs.Rows.app {X:Ctx} {b:List RWq} (hb:Rows X b):∀ {a:List RWq},Rows X a→Rows X (a++b)
 | [],_=>hb
 | _::_,.s h ht=>.s h (Rows.app hb ht)
def padTab (k b:Nat):List RWq:=[0,1,2,3,4].flatMap fun s=>[0,1,2,3].map fun d=>(f_padErr,[.agg (padC (padOf k b s d))],i0)
theorem padTab_mem {k b s d:Nat} (hs:s<5) (hd:d<4):(f_padErr,[.agg (padC (padOf k b s d))],i0)∈padTab k b :=
 List.mem_flatMap.2 ⟨s,by simp only [List.mem_cons,List.not_mem_nil,or_false]; omega,List.mem_map.2 ⟨d,by simp only [List.mem_cons,List.not_mem_nil,or_false]; omega,rfl⟩⟩
theorem okR [envI:Env]:XOK Tryz.prog XR:=⟨mixed,funcs_ok,exts_ok,tabSums_ok ok0 rfl rowsR.ok noSums_ok⟩
theorem okE [envI:Env] {e:List (Pth×List AV×AV)} (he:Rows XR e):XOK Tryz.prog (XEof e):=⟨mixed,funcs_ok,exts_ok,tabSums_ok okR rfl he.ok (tabSums_ok ok0 rfl rowsR.ok noSums_ok)⟩
theorem okMM [envI:Env] {e m:List (Pth×List AV×AV)} (he:Rows XR e) (hm:Rows (XEof e) m):XOK Tryz.prog (XMof e m):=⟨mixed,funcs_ok,exts_ok,tabSums_ok (okE he) rfl hm.ok (tabSums_ok okR rfl he.ok (tabSums_ok ok0 rfl rowsR.ok noSums_ok))⟩
def PadRow (k b s d:Nat):Prop:=∃ X,@XOK triv Tryz.prog X∧X.globs=.lf∧RowF X (f_padErr,[.agg (padC (padOf k b s d))],i0)
theorem padRow {e m:List RWq} {k b:Nat} (he:e.all (rowB XR 100)=true) (hm:Rows (XEof e) m) (hp:(padTab k b).all (rowB (XMof e m) 100)=true) {s d:Nat} (hs:s<5) (hd:d<4):PadRow k b s d :=
 ⟨_,okMM (envI:=triv) (.all he) hm,rfl,(Rows.all hp).ok _ (padTab_mem hs hd)⟩
end Go.Abs.T
end
end
