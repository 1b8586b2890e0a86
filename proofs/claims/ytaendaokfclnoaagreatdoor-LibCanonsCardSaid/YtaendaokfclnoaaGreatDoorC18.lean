/- A part of the proof that LibSwaps answers true at every input: AbsKtab. -/
import Derived.KernelRfl
import Derived.Test.YtaendaokfclnoaaGreatDoorC15
import Derived.Test.YtaendaokfclnoaaGreatDoorC17
noncomputable section
section
section
namespace Go.Abs.T
open AV
abbrev mC:Type:=Pth×List AV×AV
set_option maxRecDepth 10000
abbrev jN (k:Nat):AV:=int .i64 (.ofNat k)
abbrev nN (k:Nat):AV:=int .i64 (.negSucc k)
abbrev uN (k:Nat):AV:=int .u32 (.ofNat k)
abbrev a_0:AV:=agg [i0,i1,(bool false),(rslc 1 [(uN 36)]),(bool false),(rslc 1 [(uN 1)])]
abbrev a_1:AV:=agg [i0,i1,(bool false),(rslc 1 [(uN 16)]),(bool false),(rslc 1 [(uN 1)])]
abbrev a_2:AV:=agg [i0,i0,(bool false),nils,(bool false),(rslc 1 [(uN 1)])]
abbrev a_3:AV:=agg [i0,i1,(bool false),(rslc 1 [(uN 72)]),(bool false),(rslc 1 [(uN 1)])]
abbrev a_4:AV:=agg [i0,i1,(bool false),(rslc 1 [(uN 32)]),(bool false),(rslc 1 [(uN 1)])]
abbrev a_5:AV:=agg [(bool false),(rslc 1 [(uN 1)])]
abbrev a_6:AV:=agg [(nN 0),i1,(bool false),(rslc 1 [(uN 36)]),(bool false),(rslc 1 [(uN 1)])]
abbrev a_7:AV:=agg [(nN 1),i1,(bool false),(rslc 1 [(uN 36)]),(bool false),(rslc 1 [(uN 1)])]
abbrev a_8:AV:=agg [(nN 2),i1,(bool false),(rslc 1 [(uN 36)]),(bool false),(rslc 1 [(uN 1)])]
abbrev a_9:AV:=agg [(nN 3),i1,(bool false),(rslc 1 [(uN 16)]),(bool false),(rslc 1 [(uN 1)])]
abbrev yIf:AV:=agg [(nN 4),i1,(bool false),(rslc 1 [(uN 16)]),(bool false),(rslc 1 [(uN 1)])]
abbrev zU2:AV:=agg [(bool false),nils]
def R_0:mC:=(xB0,[(jN 72)],(agg [(bool false),(rslc 1 [(uN 72)])]))
def R_1:mC:=(xB0,[i1],a_5)
def R_2:mC:=(xAg,[i0,i1,(agg [(bool false),(rslc 1 [(uN 72)])]),a_5],(tup [a_3,(bool true)]))
def R_3:mC:=(xRp,[(jN 72)],(agg [(bool false),(rslc 1 [(uN 5184)])]))
def R_4:mC:=(xB0,[(jN 144)],(agg [(bool false),(rslc 1 [(uN 144)])]))
def R_5:mC:=(xAg,[i0,i1,(agg [(bool false),(rslc 1 [(uN 5184)])]),(agg [(bool false),(rslc 1 [(uN 144)])])],(tup [a_0,(bool true)]))
def R_6:mC:=(dT,[a_3,a_3],i0)
def R_7:mC:=(dT,[a_0,a_3],(nN 0))
def R_8:mC:=(dT,[a_0,a_0],i0)
def R_9:mC:=(hU,[a_0,(nN 0)],(tup [a_6,(bool true)]))
def yGe:mC:=(nI,[a_6,i0],i1)
def yGf:mC:=(hU,[a_0,(nN 1)],(tup [a_7,(bool true)]))
def yGg:mC:=(nI,[a_7,i0],i1)
def yGh:mC:=(hU,[a_0,(nN 2)],(tup [a_8,(bool true)]))
def yGi:mC:=(nI,[a_8,i0],i1)
def yGj:mC:=(xB0,[i0],zU2)
def yGk:mC:=(xAg,[i0,i1,zU2,a_5],(tup [a_2,(bool true)]))
def yGl:mC:=(nI,[a_2,i3],(nN 0))
def yGm:mC:=(nI,[a_2,i2],(nN 0))
def yGn:mC:=(nI,[a_2,i1],(nN 0))
def yGo:mC:=(nI,[a_2,i4],(nN 0))
def yGp:mC:=(nI,[a_2,i5],(nN 0))
def yGq:mC:=(xRp,[i0],zU2)
def yGr:mC:=(xB0,[i16],(agg [(bool false),(rslc 1 [(uN 16)])]))
def yGs:mC:=(xAg,[i0,i1,zU2,(agg [(bool false),(rslc 1 [(uN 16)])])],(tup [a_2,(bool true)]))
def yGt:mC:=(xB0,[i32],(agg [(bool false),(rslc 1 [(uN 32)])]))
def yGu:mC:=(xAg,[i0,i1,(agg [(bool false),(rslc 1 [(uN 32)])]),a_5],(tup [a_4,(bool true)]))
def yGv:mC:=(xRp,[i32],(agg [(bool false),(rslc 1 [(uN 1024)])]))
def yGw:mC:=(xB0,[(jN 64)],(agg [(bool false),(rslc 1 [(uN 64)])]))
def yGx:mC:=(xAg,[i0,i1,(agg [(bool false),(rslc 1 [(uN 1024)])]),(agg [(bool false),(rslc 1 [(uN 64)])])],(tup [a_1,(bool true)]))
def yGy:mC:=(dT,[a_4,a_4],i0)
def yGz:mC:=(dT,[a_1,a_4],(nN 0))
def yH0:mC:=(dT,[a_1,a_1],i0)
def yH1:mC:=(hU,[a_1,(nN 3)],(tup [a_9,(bool true)]))
def yH2:mC:=(nI,[a_9,i0],i0)
def yH3:mC:=(hU,[a_1,(nN 4)],(tup [yIf,(bool true)]))
def yH4:mC:=(nI,[yIf,i0],(nN 0))
def yA8:List mC:=[R_0,R_1,R_2,R_3,R_4,R_5,R_6,R_7,R_8,R_9,yGe,yGf,yGg,yGh,yGi,yGj,yGk,yGl,yGm,yGn,yGo,yGp,yGq,yGr,yGs,yGt,yGu,yGv,yGw,yGx,yGy,yGz,yH0,yH1,yH2,yH3,yH4]
def XR:Ctx:={ X0 with sums:=dR yA8 (fun _ _ _=>none) }
noncomputable abbrev ra (r:mC):Bool:=xSy X0 100 r
theorem yQt:ra R_0=true:=by kernel_rfl
theorem yQu:ra R_1=true:=by kernel_rfl
theorem yQv:ra R_2=true:=by kernel_rfl
theorem yQw:ra R_3=true:=by kernel_rfl
theorem yQx:ra R_4=true:=by kernel_rfl
theorem yQy:ra R_5=true:=by kernel_rfl
theorem yQz:ra R_6=true:=by kernel_rfl
theorem yR0:ra R_7=true:=by kernel_rfl
theorem yR1:ra R_8=true:=by kernel_rfl
theorem yR2:ra R_9=true:=by kernel_rfl
theorem yMi:ra yGe=true:=by kernel_rfl
theorem yMj:ra yGf=true:=by kernel_rfl
theorem yMk:ra yGg=true:=by kernel_rfl
theorem yMl:ra yGh=true:=by kernel_rfl
theorem yMm:ra yGi=true:=by kernel_rfl
theorem yMn:ra yGj=true:=by kernel_rfl
theorem yMo:ra yGk=true:=by kernel_rfl
theorem yMp:ra yGl=true:=by kernel_rfl
theorem yMq:ra yGm=true:=by kernel_rfl
theorem yMr:ra yGn=true:=by kernel_rfl
theorem yMs:ra yGo=true:=by kernel_rfl
theorem yMt:ra yGp=true:=by kernel_rfl
theorem yMu:ra yGq=true:=by kernel_rfl
theorem yMv:ra yGr=true:=by kernel_rfl
theorem yMw:ra yGs=true:=by kernel_rfl
theorem yMx:ra yGt=true:=by kernel_rfl
theorem yMy:ra yGu=true:=by kernel_rfl
theorem yMz:ra yGv=true:=by kernel_rfl
theorem yN0:ra yGw=true:=by kernel_rfl
theorem yN1:ra yGx=true:=by kernel_rfl
theorem yN2:ra yGy=true:=by kernel_rfl
theorem yN3:ra yGz=true:=by kernel_rfl
theorem yN4:ra yH0=true:=by kernel_rfl
theorem yN5:ra yH1=true:=by kernel_rfl
theorem yN6:ra yH2=true:=by kernel_rfl
theorem yN7:ra yH3=true:=by kernel_rfl
theorem yN8:ra yH4=true:=by kernel_rfl
theorem zS7:Rows X0 yA8:=.s yQt (.s yQu (.s yQv (.s yQw (.s yQx (.s yQy (.s yQz (.s yR0 (.s yR1 (.s yR2 (.s yMi (.s yMj (.s yMk (.s yMl (.s yMm (.s yMn (.s yMo (.s yMp (.s yMq (.s yMr (.s yMs (.s yMt (.s yMu (.s yMv (.s yMw (.s yMx (.s yMy (.s yMz (.s yN0 (.s yN1 (.s yN2 (.s yN3 (.s yN4 (.s yN5 (.s yN6 (.s yN7 (.s yN8 (.z)))))))))))))))))))))))))))))))))))))
def zU1 (e:List (Pth×List AV×AV)):Ctx:={ X0 with sums:=dR e (dR yA8 (fun _ _ _=>none)) }
def yDj (e m:List (Pth×List AV×AV)):Ctx:={ X0 with sums:=dR m (dR e (dR yA8 (fun _ _ _=>none))) }
end Go.Abs.T
end
end
section
section
namespace Go.Abs.T
open AV
abbrev qX:Type:=Pth×List AV×AV
set_option maxRecDepth 10000
abbrev xLc:AV:=rslc 4 [i1,(nN 3),(nN 3),i4,(nN 3),i0,i0,i1,i4,(nN 3),i4,i4,i0,i0,i1,i4,i4,(nN 3),i4,i0,i0,i1,(nN 3),i4,(nN 3),(nN 3),i0,i0]
abbrev xYp:AV:=rslc 4 [i1,(jN 96),(nN 3),(jN 104),(nN 3),i0,i0,i1,(jN 104),(nN 3),(jN 104),i4,i0,i0,i1,(jN 104),i4,(jN 96),i4,i0,i0,i1,(jN 96),i4,(jN 96),(nN 3),i0,i0]
abbrev xYq:AV:=rslc 4 [i1,(jN 36),(nN 3),(jN 44),(nN 3),i0,i0,i1,(jN 44),(nN 3),(jN 44),i4,i0,i0,i1,(jN 44),i4,(jN 36),i4,i0,i0,i1,(jN 36),i4,(jN 36),(nN 3),i0,i0]
abbrev xYr:AV:=rslc 4 [i1,(jN 56),(nN 3),(jN 64),(nN 3),i0,i0,i1,(jN 64),(nN 3),(jN 64),i4,i0,i0,i1,(jN 64),i4,(jN 56),i4,i0,i0,i1,(jN 56),i4,(jN 56),(nN 3),i0,i0]
abbrev xYs:AV:=rslc 4 [i1,(jN 76),(nN 3),(jN 84),(nN 3),i0,i0,i1,(jN 84),(nN 3),(jN 84),i4,i0,i0,i1,(jN 84),i4,(jN 76),i4,i0,i0,i1,(jN 76),i4,(jN 76),(nN 3),i0,i0]
abbrev xYt:AV:=rslc 4 [i1,i16,(nN 3),i24,(nN 3),i0,i0,i1,i24,(nN 3),i24,i4,i0,i0,i1,i24,i4,i16,i4,i0,i0,i1,i16,i4,i16,(nN 3),i0,i0]
abbrev xYu:AV:=agg [i0,i1,(bool false),(rslc 1 [(uN 16)]),(bool false),(rslc 1 [(uN 1)])]
abbrev xFw:AV:=agg [i1,i0,i0,i0,i0,i0,i0]
abbrev zGu:AV:=agg [i1,(nN 3),(nN 3),i4,(nN 3),i0,i0]
abbrev zGv:AV:=agg [i1,(nN 3),i4,(nN 3),(nN 3),i0,i0]
abbrev xR3:AV:=agg [i0,i0,i0,i0,i0,i1,i0]
abbrev xWh:AV:=agg [i1,i4,(nN 3),i4,i4,i0,i0]
abbrev xWi:AV:=agg [i1,i4,i4,(nN 3),i4,i0,i0]
def yAr:qX:=(zD,[zGu],i0)
def yAs:qX:=(zD,[xWh],i0)
def yAt:qX:=(zD,[xWi],i0)
def yAu:qX:=(zD,[zGv],i0)
def yAv:qX:=(zD,[(agg [i1,i16,(nN 3),i24,(nN 3),i0,i0])],i0)
def yAw:qX:=(zD,[(agg [i1,i24,(nN 3),i24,i4,i0,i0])],i0)
def yAx:qX:=(zD,[(agg [i1,i24,i4,i16,i4,i0,i0])],i0)
def yAy:qX:=(zD,[(agg [i1,i16,i4,i16,(nN 3),i0,i0])],i0)
def yAz:qX:=(zD,[(agg [i1,(jN 36),(nN 3),(jN 44),(nN 3),i0,i0])],i0)
def yB0:qX:=(zD,[(agg [i1,(jN 44),(nN 3),(jN 44),i4,i0,i0])],i0)
def zFt:qX:=(zD,[(agg [i1,(jN 44),i4,(jN 36),i4,i0,i0])],i0)
def zFu:qX:=(zD,[(agg [i1,(jN 36),i4,(jN 36),(nN 3),i0,i0])],i0)
def zFv:qX:=(zD,[(agg [i1,(jN 56),(nN 3),(jN 64),(nN 3),i0,i0])],i0)
def zFw:qX:=(zD,[(agg [i1,(jN 64),(nN 3),(jN 64),i4,i0,i0])],i0)
def zFx:qX:=(zD,[(agg [i1,(jN 64),i4,(jN 56),i4,i0,i0])],i0)
def zFy:qX:=(zD,[(agg [i1,(jN 56),i4,(jN 56),(nN 3),i0,i0])],i0)
def zFz:qX:=(zD,[(agg [i1,(jN 76),(nN 3),(jN 84),(nN 3),i0,i0])],i0)
def zG0:qX:=(zD,[(agg [i1,(jN 84),(nN 3),(jN 84),i4,i0,i0])],i0)
def zG1:qX:=(zD,[(agg [i1,(jN 84),i4,(jN 76),i4,i0,i0])],i0)
def zG2:qX:=(zD,[(agg [i1,(jN 76),i4,(jN 76),(nN 3),i0,i0])],i0)
def zG3:qX:=(zD,[(agg [i1,(jN 96),(nN 3),(jN 104),(nN 3),i0,i0])],i0)
def zG4:qX:=(zD,[(agg [i1,(jN 104),(nN 3),(jN 104),i4,i0,i0])],i0)
def zG5:qX:=(zD,[(agg [i1,(jN 104),i4,(jN 96),i4,i0,i0])],i0)
def zG6:qX:=(zD,[(agg [i1,(jN 96),i4,(jN 96),(nN 3),i0,i0])],i0)
def zG7:qX:=(zD,[xFw],i0)
def xOc:List qX:=[yAr,yAs,yAt,yAu,yAv,yAw,yAx,yAy,yAz,yB0,zFt,zFu,zFv,zFw,zFx,zFy,zFz,zG0,zG1,zG2,zG3,zG4,zG5,zG6,zG7]
def yB1:qX:=(vP,[(agg [i2,xLc,i0])],i0)
def yB2:qX:=(xCx,[(agg [i2,xLc,i0])],(agg [(nN 3),(nN 3),i4,i4]))
def yB3:qX:=(vQ,[(agg [i2,xLc,i0]),(agg [i0,i0])],(bool true))
def yB4:qX:=(vP,[(agg [i2,xYt,i0])],i0)
def yB5:qX:=(xCx,[(agg [i2,xYt,i0])],(agg [i16,(nN 3),i24,i4]))
def yB6:qX:=(vQ,[(agg [i2,xYt,i0]),(agg [i20,i0])],(bool true))
def yB7:qX:=(vP,[(agg [i2,xYq,i0])],i0)
def yB8:qX:=(xCx,[(agg [i2,xYq,i0])],(agg [(jN 36),(nN 3),(jN 44),i4]))
def yB9:qX:=(vQ,[(agg [i2,xYq,i0]),(agg [(jN 40),i0])],(bool true))
def yBa:qX:=(vP,[(agg [i2,xYr,i0])],i0)
def zGa:qX:=(xCx,[(agg [i2,xYr,i0])],(agg [(jN 56),(nN 3),(jN 64),i4]))
def zGb:qX:=(vQ,[(agg [i2,xYr,i0]),(agg [(jN 60),i0])],(bool true))
def zGc:qX:=(vP,[(agg [i2,xYs,i0])],i0)
def zGd:qX:=(xCx,[(agg [i2,xYs,i0])],(agg [(jN 76),(nN 3),(jN 84),i4]))
def zGe:qX:=(vQ,[(agg [i2,xYs,i0]),(agg [(jN 80),i0])],(bool true))
def zGf:qX:=(vP,[(agg [i2,xYp,i0])],i0)
def zGg:qX:=(xCx,[(agg [i2,xYp,i0])],(agg [(jN 96),(nN 3),(jN 104),i4]))
def zGh:qX:=(vQ,[(agg [i2,xYp,i0]),(agg [(jN 100),i0])],(bool true))
def zGi:qX:=(vP,[(agg [i1,xLc,i0])],i0)
def zGj:qX:=(rR,[zGu,xFw],(bool false))
def zGk:qX:=(rS,[zGu,xFw],(tup [xYu,(agg [(nN 3),(nN 3),i8,i0,i32,(jN 64),i0]),xR3]))
def zGl:qX:=(rR,[xWh,xFw],(bool false))
def zGm:qX:=(rS,[xWh,xFw],(tup [xYu,(agg [i4,(nN 3),i0,i8,i32,(jN 64),i0]),xR3]))
def zGn:qX:=(rR,[xWi,xFw],(bool false))
def zGo:qX:=(rS,[xWi,xFw],(tup [xYu,(agg [i4,i4,(nN 7),i0,i32,(jN 64),i0]),xR3]))
def zGp:qX:=(rR,[zGv,xFw],(bool false))
def zGq:qX:=(rS,[zGv,xFw],(tup [xYu,(agg [(nN 3),i4,i0,(nN 7),i32,(jN 64),i0]),xR3]))
def xYa:List qX:=[yB1,yB2,yB3,yB4,yB5,yB6,yB7,yB8,yB9,yBa,zGa,zGb,zGc,zGd,zGe,zGf,zGg,zGh,zGi,zGj,zGk,zGl,zGm,zGn,zGo,zGp,zGq]
def yBb:qX:=(gP,[(agg [(str [80,49]),i2,xLc,i0,i0,i0,i0])],i0)
def yBc:qX:=(gP,[(agg [(str [80,50]),i2,xYt,i0,i20,i0,i0])],i0)
def yBd:qX:=(gP,[(agg [(str [80,51]),i2,xYq,i0,(jN 40),i0,i0])],i0)
def yBe:qX:=(gP,[(agg [(str [80,52]),i2,xYr,i0,(jN 60),i0,i0])],i0)
def yBf:qX:=(gP,[(agg [(str [80,53]),i2,xYs,i0,(jN 80),i0,i0])],i0)
def yBg:qX:=(gP,[(agg [(str [80,54]),i2,xYp,i0,(jN 100),i0,i0])],i0)
def yBh:qX:=(gP,[(agg [(str [80,49]),i2,xLc,i0,i0,i0,i8])],i0)
def yBi:qX:=(gP,[(agg [(str [80,49]),i2,xLc,i0,i0,i0,i10])],i22)
def zSg:List qX:=[yBb,yBc,yBd,yBe,yBf,yBg,yBh,yBi]
noncomputable abbrev dF (r:qX):Bool:=xSy XR 100 r
theorem yEc:dF yAr=true:=by kernel_rfl
theorem yEd:dF yAs=true:=by kernel_rfl
theorem yEe:dF yAt=true:=by kernel_rfl
theorem yEf:dF yAu=true:=by kernel_rfl
theorem yEg:dF yAv=true:=by kernel_rfl
theorem yEh:dF yAw=true:=by kernel_rfl
theorem yEi:dF yAx=true:=by kernel_rfl
theorem yEj:dF yAy=true:=by kernel_rfl
theorem yEk:dF yAz=true:=by kernel_rfl
theorem yEl:dF yB0=true:=by kernel_rfl
theorem zY1:dF zFt=true:=by kernel_rfl
theorem zY2:dF zFu=true:=by kernel_rfl
theorem zY3:dF zFv=true:=by kernel_rfl
theorem zY4:dF zFw=true:=by kernel_rfl
theorem zY5:dF zFx=true:=by kernel_rfl
theorem zY6:dF zFy=true:=by kernel_rfl
theorem zY7:dF zFz=true:=by kernel_rfl
theorem zY8:dF zG0=true:=by kernel_rfl
theorem zY9:dF zG1=true:=by kernel_rfl
theorem zYa:dF zG2=true:=by kernel_rfl
theorem zYb:dF zG3=true:=by kernel_rfl
theorem zYc:dF zG4=true:=by kernel_rfl
theorem zYd:dF zG5=true:=by kernel_rfl
theorem zYe:dF zG6=true:=by kernel_rfl
theorem zYf:dF zG7=true:=by kernel_rfl
theorem zZy:Rows XR xOc:=.s yEc (.s yEd (.s yEe (.s yEf (.s yEg (.s yEh (.s yEi (.s yEj (.s yEk (.s yEl (.s zY1 (.s zY2 (.s zY3 (.s zY4 (.s zY5 (.s zY6 (.s zY7 (.s zY8 (.s zY9 (.s zYa (.s zYb (.s zYc (.s zYd (.s zYe (.s zYf (.z)))))))))))))))))))))))))
noncomputable abbrev vX (r:qX):Bool:=xSy (zU1 xOc) 100 r
theorem yEm:vX yB1=true:=by kernel_rfl
theorem yEn:vX yB2=true:=by kernel_rfl
theorem yEo:vX yB3=true:=by kernel_rfl
theorem yEp:vX yB4=true:=by kernel_rfl
theorem yEq:vX yB5=true:=by kernel_rfl
theorem yEr:vX yB6=true:=by kernel_rfl
theorem yEs:vX yB7=true:=by kernel_rfl
theorem yEt:vX yB8=true:=by kernel_rfl
theorem yEu:vX yB9=true:=by kernel_rfl
theorem yEv:vX yBa=true:=by kernel_rfl
theorem zYg:vX zGa=true:=by kernel_rfl
theorem zYh:vX zGb=true:=by kernel_rfl
theorem zYi:vX zGc=true:=by kernel_rfl
theorem zYj:vX zGd=true:=by kernel_rfl
theorem zYk:vX zGe=true:=by kernel_rfl
theorem zYl:vX zGf=true:=by kernel_rfl
theorem zYm:vX zGg=true:=by kernel_rfl
theorem zYn:vX zGh=true:=by kernel_rfl
theorem zYo:vX zGi=true:=by kernel_rfl
theorem zYp:vX zGj=true:=by kernel_rfl
theorem zYq:vX zGk=true:=by kernel_rfl
theorem zYr:vX zGl=true:=by kernel_rfl
theorem zYs:vX zGm=true:=by kernel_rfl
theorem zYt:vX zGn=true:=by kernel_rfl
theorem zYu:vX zGo=true:=by kernel_rfl
theorem zYv:vX zGp=true:=by kernel_rfl
theorem zYw:vX zGq=true:=by kernel_rfl
theorem zZz:Rows (zU1 xOc) xYa:=.s yEm (.s yEn (.s yEo (.s yEp (.s yEq (.s yEr (.s yEs (.s yEt (.s yEu (.s yEv (.s zYg (.s zYh (.s zYi (.s zYj (.s zYk (.s zYl (.s zYm (.s zYn (.s zYo (.s zYp (.s zYq (.s zYr (.s zYs (.s zYt (.s zYu (.s zYv (.s zYw (.z)))))))))))))))))))))))))))
noncomputable abbrev xVs (r:qX):Bool:=xSy (yDj xOc xYa) 100 r
theorem yEw:xVs yBb=true:=by kernel_rfl
theorem yEx:xVs yBc=true:=by kernel_rfl
theorem yEy:xVs yBd=true:=by kernel_rfl
theorem yEz:xVs yBe=true:=by kernel_rfl
theorem yF0:xVs yBf=true:=by kernel_rfl
theorem yF1:xVs yBg=true:=by kernel_rfl
theorem yF2:xVs yBh=true:=by kernel_rfl
theorem yF3:xVs yBi=true:=by kernel_rfl
theorem yA0:Rows (yDj xOc xYa) zSg:=.s yEw (.s yEx (.s yEy (.s yEz (.s yF0 (.s yF1 (.s yF2 (.s yF3 (.z))))))))
end Go.Abs.T
end
end
section
section
namespace Go.Abs.T
open AV
set_option maxRecDepth 10000
def tex:AV:=(agg [(str [113,117,97,100]),(rslc 6 [(str [80,49]),i2,(rslc 4 [i1,(int .i64 (.negSucc 3)),(int .i64 (.negSucc 3)),i4,(int .i64 (.negSucc 3)),i0,i0,i1,i4,(int .i64 (.negSucc 3)),i4,i4,i0,i0,i1,i4,i4,(int .i64 (.negSucc 3)),i4,i0,i0,i1,(int .i64 (.negSucc 3)),i4,(int .i64 (.negSucc 3)),(int .i64 (.negSucc 3)),i0,i0]),i0,i0,i0,i0,(str [80,50]),i2,(rslc 4 [i1,i16,(int .i64 (.negSucc 3)),i24,(int .i64 (.negSucc 3)),i0,i0,i1,i24,(int .i64 (.negSucc 3)),i24,i4,i0,i0,i1,i24,i4,i16,i4,i0,i0,i1,i16,i4,i16,(int .i64 (.negSucc 3)),i0,i0]),i0,i20,i0,i0,(str [80,51]),i2,(rslc 4 [i1,(int .i64 (.ofNat 36)),(int .i64 (.negSucc 3)),(int .i64 (.ofNat 44)),(int .i64 (.negSucc 3)),i0,i0,i1,(int .i64 (.ofNat 44)),(int .i64 (.negSucc 3)),(int .i64 (.ofNat 44)),i4,i0,i0,i1,(int .i64 (.ofNat 44)),i4,(int .i64 (.ofNat 36)),i4,i0,i0,i1,(int .i64 (.ofNat 36)),i4,(int .i64 (.ofNat 36)),(int .i64 (.negSucc 3)),i0,i0]),i0,(int .i64 (.ofNat 40)),i0,i0,(str [80,52]),i2,(rslc 4 [i1,(int .i64 (.ofNat 56)),(int .i64 (.negSucc 3)),(int .i64 (.ofNat 64)),(int .i64 (.negSucc 3)),i0,i0,i1,(int .i64 (.ofNat 64)),(int .i64 (.negSucc 3)),(int .i64 (.ofNat 64)),i4,i0,i0,i1,(int .i64 (.ofNat 64)),i4,(int .i64 (.ofNat 56)),i4,i0,i0,i1,(int .i64 (.ofNat 56)),i4,(int .i64 (.ofNat 56)),(int .i64 (.negSucc 3)),i0,i0]),i0,(int .i64 (.ofNat 60)),i0,i0,(str [80,53]),i2,(rslc 4 [i1,(int .i64 (.ofNat 76)),(int .i64 (.negSucc 3)),(int .i64 (.ofNat 84)),(int .i64 (.negSucc 3)),i0,i0,i1,(int .i64 (.ofNat 84)),(int .i64 (.negSucc 3)),(int .i64 (.ofNat 84)),i4,i0,i0,i1,(int .i64 (.ofNat 84)),i4,(int .i64 (.ofNat 76)),i4,i0,i0,i1,(int .i64 (.ofNat 76)),i4,(int .i64 (.ofNat 76)),(int .i64 (.negSucc 3)),i0,i0]),i0,(int .i64 (.ofNat 80)),i0,i0,(str [80,54]),i2,(rslc 4 [i1,(int .i64 (.ofNat 96)),(int .i64 (.negSucc 3)),(int .i64 (.ofNat 104)),(int .i64 (.negSucc 3)),i0,i0,i1,(int .i64 (.ofNat 104)),(int .i64 (.negSucc 3)),(int .i64 (.ofNat 104)),i4,i0,i0,i1,(int .i64 (.ofNat 104)),i4,(int .i64 (.ofNat 96)),i4,i0,i0,i1,(int .i64 (.ofNat 96)),i4,(int .i64 (.ofNat 96)),(int .i64 (.negSucc 3)),i0,i0]),i0,(int .i64 (.ofNat 100)),i0,i0]),(rslc 2 [i1,(rslc 3 [(str [80,49]),i1,(str [80,50]),i1,(str [80,51]),i0]),i1,(rslc 3 [(str [80,52]),i1,(str [80,53]),i1,(str [80,54]),i0])])])
def zTl:AV:=(agg [(str [113,117,97,100]),(rslc 6 [(str [80,49]),i2,(rslc 4 [i1,(int .i64 (.negSucc 3)),(int .i64 (.negSucc 3)),i4,(int .i64 (.negSucc 3)),i0,i0,i1,i4,(int .i64 (.negSucc 3)),i4,i4,i0,i0,i1,i4,i4,(int .i64 (.negSucc 3)),i4,i0,i0,i1,(int .i64 (.negSucc 3)),i4,(int .i64 (.negSucc 3)),(int .i64 (.negSucc 3)),i0,i0]),i0,i0,i0,i0,(str [80,50]),i2,(rslc 4 [i1,i16,(int .i64 (.negSucc 3)),i24,(int .i64 (.negSucc 3)),i0,i0,i1,i24,(int .i64 (.negSucc 3)),i24,i4,i0,i0,i1,i24,i4,i16,i4,i0,i0,i1,i16,i4,i16,(int .i64 (.negSucc 3)),i0,i0]),i0,i20,i0,i0,(str [80,51]),i2,(rslc 4 [i1,(int .i64 (.ofNat 36)),(int .i64 (.negSucc 3)),(int .i64 (.ofNat 44)),(int .i64 (.negSucc 3)),i0,i0,i1,(int .i64 (.ofNat 44)),(int .i64 (.negSucc 3)),(int .i64 (.ofNat 44)),i4,i0,i0,i1,(int .i64 (.ofNat 44)),i4,(int .i64 (.ofNat 36)),i4,i0,i0,i1,(int .i64 (.ofNat 36)),i4,(int .i64 (.ofNat 36)),(int .i64 (.negSucc 3)),i0,i0]),i0,(int .i64 (.ofNat 40)),i0,i0,(str [80,52]),i2,(rslc 4 [i1,(int .i64 (.ofNat 56)),(int .i64 (.negSucc 3)),(int .i64 (.ofNat 64)),(int .i64 (.negSucc 3)),i0,i0,i1,(int .i64 (.ofNat 64)),(int .i64 (.negSucc 3)),(int .i64 (.ofNat 64)),i4,i0,i0,i1,(int .i64 (.ofNat 64)),i4,(int .i64 (.ofNat 56)),i4,i0,i0,i1,(int .i64 (.ofNat 56)),i4,(int .i64 (.ofNat 56)),(int .i64 (.negSucc 3)),i0,i0]),i0,(int .i64 (.ofNat 60)),i0,i0,(str [80,52]),i2,(rslc 4 [i1,(int .i64 (.ofNat 76)),(int .i64 (.negSucc 3)),(int .i64 (.ofNat 84)),(int .i64 (.negSucc 3)),i0,i0,i1,(int .i64 (.ofNat 84)),(int .i64 (.negSucc 3)),(int .i64 (.ofNat 84)),i4,i0,i0,i1,(int .i64 (.ofNat 84)),i4,(int .i64 (.ofNat 76)),i4,i0,i0,i1,(int .i64 (.ofNat 76)),i4,(int .i64 (.ofNat 76)),(int .i64 (.negSucc 3)),i0,i0]),i0,(int .i64 (.ofNat 80)),i0,i0,(str [80,54]),i2,(rslc 4 [i1,(int .i64 (.ofNat 96)),(int .i64 (.negSucc 3)),(int .i64 (.ofNat 104)),(int .i64 (.negSucc 3)),i0,i0,i1,(int .i64 (.ofNat 104)),(int .i64 (.negSucc 3)),(int .i64 (.ofNat 104)),i4,i0,i0,i1,(int .i64 (.ofNat 104)),i4,(int .i64 (.ofNat 96)),i4,i0,i0,i1,(int .i64 (.ofNat 96)),i4,(int .i64 (.ofNat 96)),(int .i64 (.negSucc 3)),i0,i0]),i0,(int .i64 (.ofNat 100)),i0,i0]),(rslc 2 [i1,(rslc 3 [(str [80,49]),i1,(str [80,50]),i1,(str [80,51]),i0]),i1,(rslc 3 [(str [80,52]),i1,(str [80,53]),i1,(str [80,54]),i0])])])
def zSn:AV:=(agg [(str [113,117,97,100]),(rslc 6 [(str [80,49]),i2,(rslc 4 [i1,(int .i64 (.negSucc 3)),(int .i64 (.negSucc 3)),i4,(int .i64 (.negSucc 3)),i0,i0,i1,i4,(int .i64 (.negSucc 3)),i4,i4,i0,i0,i1,i4,i4,(int .i64 (.negSucc 3)),i4,i0,i0,i1,(int .i64 (.negSucc 3)),i4,(int .i64 (.negSucc 3)),(int .i64 (.negSucc 3)),i0,i0]),i0,i0,i0,i0,(str [80,50]),i2,(rslc 4 [i1,i16,(int .i64 (.negSucc 3)),i24,(int .i64 (.negSucc 3)),i0,i0,i1,i24,(int .i64 (.negSucc 3)),i24,i4,i0,i0,i1,i24,i4,i16,i4,i0,i0,i1,i16,i4,i16,(int .i64 (.negSucc 3)),i0,i0]),i0,i20,i0,i0,(str [80,51]),i2,(rslc 4 [i1,(int .i64 (.ofNat 36)),(int .i64 (.negSucc 3)),(int .i64 (.ofNat 44)),(int .i64 (.negSucc 3)),i0,i0,i1,(int .i64 (.ofNat 44)),(int .i64 (.negSucc 3)),(int .i64 (.ofNat 44)),i4,i0,i0,i1,(int .i64 (.ofNat 44)),i4,(int .i64 (.ofNat 36)),i4,i0,i0,i1,(int .i64 (.ofNat 36)),i4,(int .i64 (.ofNat 36)),(int .i64 (.negSucc 3)),i0,i0]),i0,(int .i64 (.ofNat 40)),i0,i0,(str [80,52]),i2,(rslc 4 [i1,(int .i64 (.ofNat 56)),(int .i64 (.negSucc 3)),(int .i64 (.ofNat 64)),(int .i64 (.negSucc 3)),i0,i0,i1,(int .i64 (.ofNat 64)),(int .i64 (.negSucc 3)),(int .i64 (.ofNat 64)),i4,i0,i0,i1,(int .i64 (.ofNat 64)),i4,(int .i64 (.ofNat 56)),i4,i0,i0,i1,(int .i64 (.ofNat 56)),i4,(int .i64 (.ofNat 56)),(int .i64 (.negSucc 3)),i0,i0]),i0,(int .i64 (.ofNat 60)),i0,i0,(str [80,53]),i2,(rslc 4 [i1,(int .i64 (.ofNat 76)),(int .i64 (.negSucc 3)),(int .i64 (.ofNat 84)),(int .i64 (.negSucc 3)),i0,i0,i1,(int .i64 (.ofNat 84)),(int .i64 (.negSucc 3)),(int .i64 (.ofNat 84)),i4,i0,i0,i1,(int .i64 (.ofNat 84)),i4,(int .i64 (.ofNat 76)),i4,i0,i0,i1,(int .i64 (.ofNat 76)),i4,(int .i64 (.ofNat 76)),(int .i64 (.negSucc 3)),i0,i0]),i0,(int .i64 (.ofNat 80)),i0,i0,(str [80,54]),i2,(rslc 4 [i1,(int .i64 (.ofNat 96)),(int .i64 (.negSucc 3)),(int .i64 (.ofNat 104)),(int .i64 (.negSucc 3)),i0,i0,i1,(int .i64 (.ofNat 104)),(int .i64 (.negSucc 3)),(int .i64 (.ofNat 104)),i4,i0,i0,i1,(int .i64 (.ofNat 104)),i4,(int .i64 (.ofNat 96)),i4,i0,i0,i1,(int .i64 (.ofNat 96)),i4,(int .i64 (.ofNat 96)),(int .i64 (.negSucc 3)),i0,i0]),i0,(int .i64 (.ofNat 100)),i0,i0]),(rslc 2 [i1,(rslc 3 [(str [80,49]),i1,(str [80,50]),i1,(str [80,51]),i0]),i1,(rslc 3 [(str [80,52]),i1,(str [80,53]),i2,(str [80,54]),i0])])])
def yDg:AV:=(agg [(str [113,117,97,100]),(rslc 6 [(str [80,49]),i2,(rslc 4 [i1,(int .i64 (.negSucc 3)),(int .i64 (.negSucc 3)),i4,(int .i64 (.negSucc 3)),i0,i0,i1,i4,(int .i64 (.negSucc 3)),i4,i4,i0,i0,i1,i4,i4,(int .i64 (.negSucc 3)),i4,i0,i0,i1,(int .i64 (.negSucc 3)),i4,(int .i64 (.negSucc 3)),(int .i64 (.negSucc 3)),i0,i0]),i0,i0,i0,i8,(str [80,50]),i2,(rslc 4 [i1,i16,(int .i64 (.negSucc 3)),i24,(int .i64 (.negSucc 3)),i0,i0,i1,i24,(int .i64 (.negSucc 3)),i24,i4,i0,i0,i1,i24,i4,i16,i4,i0,i0,i1,i16,i4,i16,(int .i64 (.negSucc 3)),i0,i0]),i0,i20,i0,i0,(str [80,51]),i2,(rslc 4 [i1,(int .i64 (.ofNat 36)),(int .i64 (.negSucc 3)),(int .i64 (.ofNat 44)),(int .i64 (.negSucc 3)),i0,i0,i1,(int .i64 (.ofNat 44)),(int .i64 (.negSucc 3)),(int .i64 (.ofNat 44)),i4,i0,i0,i1,(int .i64 (.ofNat 44)),i4,(int .i64 (.ofNat 36)),i4,i0,i0,i1,(int .i64 (.ofNat 36)),i4,(int .i64 (.ofNat 36)),(int .i64 (.negSucc 3)),i0,i0]),i0,(int .i64 (.ofNat 40)),i0,i0,(str [80,52]),i2,(rslc 4 [i1,(int .i64 (.ofNat 56)),(int .i64 (.negSucc 3)),(int .i64 (.ofNat 64)),(int .i64 (.negSucc 3)),i0,i0,i1,(int .i64 (.ofNat 64)),(int .i64 (.negSucc 3)),(int .i64 (.ofNat 64)),i4,i0,i0,i1,(int .i64 (.ofNat 64)),i4,(int .i64 (.ofNat 56)),i4,i0,i0,i1,(int .i64 (.ofNat 56)),i4,(int .i64 (.ofNat 56)),(int .i64 (.negSucc 3)),i0,i0]),i0,(int .i64 (.ofNat 60)),i0,i0,(str [80,53]),i2,(rslc 4 [i1,(int .i64 (.ofNat 76)),(int .i64 (.negSucc 3)),(int .i64 (.ofNat 84)),(int .i64 (.negSucc 3)),i0,i0,i1,(int .i64 (.ofNat 84)),(int .i64 (.negSucc 3)),(int .i64 (.ofNat 84)),i4,i0,i0,i1,(int .i64 (.ofNat 84)),i4,(int .i64 (.ofNat 76)),i4,i0,i0,i1,(int .i64 (.ofNat 76)),i4,(int .i64 (.ofNat 76)),(int .i64 (.negSucc 3)),i0,i0]),i0,(int .i64 (.ofNat 80)),i0,i0,(str [80,54]),i2,(rslc 4 [i1,(int .i64 (.ofNat 96)),(int .i64 (.negSucc 3)),(int .i64 (.ofNat 104)),(int .i64 (.negSucc 3)),i0,i0,i1,(int .i64 (.ofNat 104)),(int .i64 (.negSucc 3)),(int .i64 (.ofNat 104)),i4,i0,i0,i1,(int .i64 (.ofNat 104)),i4,(int .i64 (.ofNat 96)),i4,i0,i0,i1,(int .i64 (.ofNat 96)),i4,(int .i64 (.ofNat 96)),(int .i64 (.negSucc 3)),i0,i0]),i0,(int .i64 (.ofNat 100)),i0,i0]),(rslc 2 [i1,(rslc 3 [(str [80,49]),i1,(str [80,50]),i1,(str [80,51]),i0]),i1,(rslc 3 [(str [80,52]),i1,(str [80,53]),i1,(str [80,54]),i0])])])
def yDh:AV:=(agg [(str [113,117,97,100]),(rslc 6 [(str [80,49]),i2,(rslc 4 [i1,(int .i64 (.negSucc 3)),(int .i64 (.negSucc 3)),i4,(int .i64 (.negSucc 3)),i0,i0,i1,i4,(int .i64 (.negSucc 3)),i4,i4,i0,i0,i1,i4,i4,(int .i64 (.negSucc 3)),i4,i0,i0,i1,(int .i64 (.negSucc 3)),i4,(int .i64 (.negSucc 3)),(int .i64 (.negSucc 3)),i0,i0]),i0,i0,i0,i10,(str [80,50]),i2,(rslc 4 [i1,i16,(int .i64 (.negSucc 3)),i24,(int .i64 (.negSucc 3)),i0,i0,i1,i24,(int .i64 (.negSucc 3)),i24,i4,i0,i0,i1,i24,i4,i16,i4,i0,i0,i1,i16,i4,i16,(int .i64 (.negSucc 3)),i0,i0]),i0,i20,i0,i0,(str [80,51]),i2,(rslc 4 [i1,(int .i64 (.ofNat 36)),(int .i64 (.negSucc 3)),(int .i64 (.ofNat 44)),(int .i64 (.negSucc 3)),i0,i0,i1,(int .i64 (.ofNat 44)),(int .i64 (.negSucc 3)),(int .i64 (.ofNat 44)),i4,i0,i0,i1,(int .i64 (.ofNat 44)),i4,(int .i64 (.ofNat 36)),i4,i0,i0,i1,(int .i64 (.ofNat 36)),i4,(int .i64 (.ofNat 36)),(int .i64 (.negSucc 3)),i0,i0]),i0,(int .i64 (.ofNat 40)),i0,i0,(str [80,52]),i2,(rslc 4 [i1,(int .i64 (.ofNat 56)),(int .i64 (.negSucc 3)),(int .i64 (.ofNat 64)),(int .i64 (.negSucc 3)),i0,i0,i1,(int .i64 (.ofNat 64)),(int .i64 (.negSucc 3)),(int .i64 (.ofNat 64)),i4,i0,i0,i1,(int .i64 (.ofNat 64)),i4,(int .i64 (.ofNat 56)),i4,i0,i0,i1,(int .i64 (.ofNat 56)),i4,(int .i64 (.ofNat 56)),(int .i64 (.negSucc 3)),i0,i0]),i0,(int .i64 (.ofNat 60)),i0,i0,(str [80,53]),i2,(rslc 4 [i1,(int .i64 (.ofNat 76)),(int .i64 (.negSucc 3)),(int .i64 (.ofNat 84)),(int .i64 (.negSucc 3)),i0,i0,i1,(int .i64 (.ofNat 84)),(int .i64 (.negSucc 3)),(int .i64 (.ofNat 84)),i4,i0,i0,i1,(int .i64 (.ofNat 84)),i4,(int .i64 (.ofNat 76)),i4,i0,i0,i1,(int .i64 (.ofNat 76)),i4,(int .i64 (.ofNat 76)),(int .i64 (.negSucc 3)),i0,i0]),i0,(int .i64 (.ofNat 80)),i0,i0,(str [80,54]),i2,(rslc 4 [i1,(int .i64 (.ofNat 96)),(int .i64 (.negSucc 3)),(int .i64 (.ofNat 104)),(int .i64 (.negSucc 3)),i0,i0,i1,(int .i64 (.ofNat 104)),(int .i64 (.negSucc 3)),(int .i64 (.ofNat 104)),i4,i0,i0,i1,(int .i64 (.ofNat 104)),i4,(int .i64 (.ofNat 96)),i4,i0,i0,i1,(int .i64 (.ofNat 96)),i4,(int .i64 (.ofNat 96)),(int .i64 (.negSucc 3)),i0,i0]),i0,(int .i64 (.ofNat 100)),i0,i0]),(rslc 2 [i1,(rslc 3 [(str [80,49]),i1,(str [80,50]),i1,(str [80,51]),i0]),i1,(rslc 3 [(str [80,52]),i1,(str [80,53]),i1,(str [80,54]),i0])])])
def xYb:List (AV×AV):=[(tex,i0),(zTl,i6),(zSn,i26),(yDg,i0),(yDh,i22)]
def yO4:Pth→List AV→H→Option AV:=dR zSg (fun _ _ _=>none)
def yO5:Pth→List AV→H→Option AV:=xT8 xAz xYb (fun _ _ _=>none)
def XA:Ctx:={ globs:=.lf,funcs:=funcs,sums:=yO4,exts:=exts,fuel:=100000 }
def XB:Ctx:={ globs:=.lf,funcs:=funcs,sums:=yO5,exts:=exts,fuel:=100000 }
end Go.Abs.T
end
section
namespace Go.Abs.T
theorem rc0:Row XA xAz (tex,i0):=row_of (n:=100) (by kernel_rfl) (by kernel_rfl) (by kernel_rfl)
theorem rc1:Row XA xAz (zTl,i6):=row_of (n:=100) (by kernel_rfl) (by kernel_rfl) (by kernel_rfl)
theorem rc2:Row XA xAz (zSn,i26):=row_of (n:=100) (by kernel_rfl) (by kernel_rfl) (by kernel_rfl)
theorem rc3:Row XA xAz (yDg,i0):=row_of (n:=100) (by kernel_rfl) (by kernel_rfl) (by kernel_rfl)
theorem rc4:Row XA xAz (yDh,i22):=row_of (n:=100) (by kernel_rfl) (by kernel_rfl) (by kernel_rfl)
end Go.Abs.T
end
end
section
section
namespace Go.Abs.T
theorem yRf:F.callC XB 100 (.fn xG1 [] []) [] h0 (isV (.bool true))=true:=by kernel_rfl
end Go.Abs.T
end
end
end
