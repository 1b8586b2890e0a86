/- Variants of gates; values without tokens. -/
import Derived.Test.YtaendaokfclnoaaGreatDoorC20
import Derived.Test.YtaendaokfclnoaaGreatDoorC17
import Derived.KernelRfl
noncomputable section
section
namespace Go.Abs.Sym
open Go.Abs.T
theorem kN (t:Toks):∀ (a b:List AV),xK t (a++b)=xK t a++xK t b
 | [],b=>rfl
 | v::a,b=>by simp only [List.cons_append,xK,kN t a b]
mutual
def rE:AV→Bool
 | .sym _=>false
 | .rptr cs=>kL cs
 | .rslc _ cs=>kL cs
 | .rmap ks vs=>kL ks&&kL vs
 | .fn _ a b=>kL a&&kL b
 | .iface _ v=>rE v
 | .agg cs=>kL cs
 | .tup cs=>kL cs
 | _=>true
def kL:List AV→Bool
 | []=>true
 | v::vs=>rE v&&kL vs
end
mutual
theorem rI (t:Toks):∀ a:AV,rE a=true→a.subst t=a
 | .sym i,h=>by simp only [rE,Bool.false_eq_true] at h
 | .rptr cs,h=>by simp only [rE] at h; simp only [AV.subst,kI t cs h]
 | .rslc n cs,h=>by simp only [rE] at h; simp only [AV.subst,kI t cs h]
 | .rmap ks vs,h=>by simp only [rE,Bool.and_eq_true] at h; simp only [AV.subst,kI t ks h.1,kI t vs h.2]
 | .fn f a b,h=>by simp only [rE,Bool.and_eq_true] at h; simp only [AV.subst,kI t a h.1,kI t b h.2]
 | .iface ty x,h=>by simp only [rE] at h; simp only [AV.subst,rI t x h]
 | .agg cs,h=>by simp only [rE] at h; simp only [AV.subst,kI t cs h]
 | .tup cs,h=>by simp only [rE] at h; simp only [AV.subst,kI t cs h]
 | .bool b,h=>rfl
 | .int k n,h=>rfl
 | .str s,h=>rfl
 | .nilp,h=>rfl
 | .ptr id off,h=>rfl
 | .nils,h=>rfl
 | .slc id off len sz cap,h=>rfl
 | .eslc,h=>rfl
 | .nilm,h=>rfl
 | .mapv id,h=>rfl
 | .nilf,h=>rfl
 | .yield id,h=>rfl
 | .nili,h=>rfl
theorem kI (t:Toks):∀ vs:List AV,kL vs=true→xK t vs=vs
 | [],_=>rfl
 | a::vs,h=>by
  simp only [kL,Bool.and_eq_true] at h
  simp only [xK,rI t a h.1,kI t vs h.2]
end
theorem xEi:∀ (a b:List AV),kL (a++b)=(kL a&&kL b)
 | [],b=>by simp only [List.nil_append,kL,Bool.true_and]
 | v::a,b=>by simp only [List.cons_append,kL,xEi a b,Bool.and_assoc]
theorem xK1 {α:Type} {f:α→List AV} (hf:∀ a,kL (f a)=true):∀ l:List α,kL (l.flatMap f)=true
 | []=>rfl
 | a::l=>by rw [List.flatMap_cons,xEi,hf,xK1 hf l]; rfl
theorem zJg {α:Type} {f:α→List AV} (hf:∀ a,kL (f a)=true) (s:Sl α):rE (slV f s)=true:=by
 unfold slV
 cases s.l with
 | nil=>dsimp only; split<;>rfl
 | cons a l=>simp only [rE,xEi,hf,xK1 hf,Bool.and_self]
theorem zZ9 (g:GateD):kL (jP g)=true:=by
 simp only [jP,kL,rE,zJg (f:=lgC) (fun _=>rfl),Bool.and_self]
def zZk (c:Nat×Nat×Nat) (k j:Nat):AV :=
 match j with
 | 0=>.int .i64 (shK c.2.1)
 | 1=>slV edC ⟨1,shE (pX k) (pY c.1) c.2.1⟩
 | 2=>.int .i64 (shR c.2.1)
 | 3=>.int .i64 (pX k)
 | 4=>.int .i64 (pY c.1)
 | _=>.int .i64 (.ofNat (2*c.2.2))
def zFa (cs:List (Nat×Nat×Nat)) (i:Nat):AV :=
 match cs[i / 10]? with
 | some c=>zZk c (i / 10) (i % 10)
 | none=>.nils
theorem zI7 (cs:List (Nat×Nat×Nat)) (i:Nat):frz (zFa cs i)=true:=by
 unfold zFa
 split
 ·unfold zZk
  split
  case h_2=>exact yV xRs _
  all_goals rfl
 ·rfl
theorem zRh (cs:List (Nat×Nat×Nat)) (i:Nat):(zFa cs i).one=true:=by
 unfold zFa
 split
 ·unfold zZk
  split
  case h_2=>exact xC5 _ _
  all_goals rfl
 ·rfl
def xMx:Nat→List GateD
 | 0=>[] | 1=>gs1 0 | 2=>gs1 1 | 3=>gs2 0 | 4=>gs2 1
 | 5=>gs3 0 0 | 6=>gs3 0 1 | 7=>gs3 0 2 | 8=>gs3 1 0 | 9=>gs3 1 1 | _=>gs3 1 2
def vars:List (Nat×Nat):=[(2,0),(2,1),(2,2),(3,0),(3,1),(3,2),(4,0),(4,3),(4,4),(5,0),(5,3),(5,4),(6,0),(6,3),(6,4),(6,5),(6,6),(6,7),(6,8),(6,9),(6,10)]
theorem yAq {m:Nat} {gs:List GateD} (h2:2≤m) (h6:m≤6) (h:GOK m gs):∃ g,(m,g)∈vars∧gs=xMx g:=by
 have hm:m=2∨m=3∨m=4∨m=5∨m=6:=by omega
 rcases h with rfl | ⟨h4,x,hx,rfl⟩ | ⟨h4,x,hx,rfl⟩ | ⟨rfl,x,k,hx,hk,rfl⟩
 ·refine ⟨0,?_,rfl⟩
  rcases hm with rfl | rfl | rfl | rfl | rfl<;>decide
 ·have hx:x=0∨x=1:=by omega
  rcases hx with rfl | rfl
  ·refine ⟨1,?_,rfl⟩
   rcases hm with rfl | rfl | rfl | rfl | rfl<;>first | decide | omega
  ·refine ⟨2,?_,rfl⟩
   rcases hm with rfl | rfl | rfl | rfl | rfl<;>first | decide | omega
 ·have hx:x=0∨x=1:=by omega
  rcases hx with rfl | rfl
  ·refine ⟨3,?_,rfl⟩
   rcases hm with rfl | rfl | rfl | rfl | rfl<;>first | decide | omega
  ·refine ⟨4,?_,rfl⟩
   rcases hm with rfl | rfl | rfl | rfl | rfl<;>first | decide | omega
 ·have hx:x=0∨x=1:=by omega
  have hk:k=0∨k=1∨k=2:=by omega
  rcases hx with rfl | rfl<;>rcases hk with rfl | rfl | rfl
  ·exact ⟨5,by decide,rfl⟩
  ·exact ⟨6,by decide,rfl⟩
  ·exact ⟨7,by decide,rfl⟩
  ·exact ⟨8,by decide,rfl⟩
  ·exact ⟨9,by decide,rfl⟩
  ·exact ⟨10,by decide,rfl⟩
theorem xT0 {α:Type} (f:α→List AV) {l:List α} (h:l≠[]):slV f ⟨1,l⟩=.rslc l.length (l.flatMap f):=by
 cases l with
 | nil=>exact absurd rfl h
 | cons a l=>rfl
theorem xI3 (s:Sl GateD):rE (slV jP s)=true:=zJg (fun _=>zZ9 _) s
def xBh:List Nat:=[112,97,114,116]
end Go.Abs.Sym
end
section
namespace Go.Abs.T
open Go.Abs.Sym
open Go.Proofs
open AV
def zj (n:Int):AV:=.int .i64 n
def zF9 (k:Nat) (nm:List Nat):List AV:=[.str nm,.sym (10*k),.sym (10*k+1),.sym (10*k+2),.sym (10*k+3),.sym (10*k+4),.sym (10*k+5)]
def xVp (k:Nat):List AV:=[.str (vF k),.sym (10*k),.sym (10*k+1),.sym (10*k+2),zj (.ofNat (30*k)),.sym (10*k+4),.sym (10*k+5)]
def xQm:Nat→Nat→List AV
 | _,0=>[]
 | k,m+1=>xVp k++xQm (k+1) m
def tyX (m g:Nat):AV:=.agg [.str xBh,.rslc m (xQm 0 m),slV jP ⟨0,xMx g⟩]
def nmE:Nat→List Nat
 | 0=>[] | 1=>[80,49] | 2=>[80,32,49] | 3=>[80,55] | 4=>[68,91,51,93] | 5=>[68,91,51,46,46,51,93] | 6=>[68,91,49,46,46,48,93] | _=>[68,91,48,51,93]
def tnE:Nat→List Nat
 | 0=>[] | 1=>[49,97] | 2=>[97,32,98] | 3=>[97,98,99,100,101,102,103,104,105,106,107,108,109,110,111,112] | 4=>[97,98,99,100,101,102,103,104,105,106,107,108,109,110,111,112,113] | 5=>[43,97] | 6=>[95] | _=>[97,47,98]
def tnO (a n:Nat):List Nat:=match a with | 0=>tnE n | _=>xBh
def xP4 (a n k:Nat):List AV :=
 match a with
 | 1=>.str (nmE n)::(xVp k).drop 1
 | 2=>[.str (vF k),.sym (10*k),.sym (10*k+1),.sym (10*k+2),zj (.ofNat (30*k)+(2 * .ofNat n - 2)),.sym (10*k+4),.sym (10*k+5)]
 | 3=>[.str (vF k),.sym (10*k),.sym (10*k+1),.sym (10*k+2),zj (.ofNat (30*k)),.sym (10*k+4),zj (.ofNat (2*n+2))]
 | 4=>[.str (vF k),.sym (10*k),.sym (10*k+1),.sym (10*k+2),zj (.ofNat (30*k)),.sym (10*k+4),zj (.ofNat n - 1)]
 | 5=>[.str (vF k),.sym (10*k),.sym (10*k+1),zj (1 - .ofNat n),zj (.ofNat (30*k)),.sym (10*k+4),.sym (10*k+5)]
 | 6=>[.str (vF k),zj 1,.rslc 1 [zj 1,zj 1048573,zj 0,zj 1048573,zj 0,zj 0,zj 0],zj (.ofNat (n+1)),zj (1048576+(.ofNat n - 1)),zj 0,.sym (10*k+5)]
 | _=>xVp k
def yNw (i:Nat):List AV:=[.str [81,97+i],zj 1,.rslc 1 [zj 1,zj 0,zj 0,zj 0,zj 0,zj 0,zj 0],zj 1,zj 0,zj 0,zj 0]
def xQl:Nat→Nat→List AV
 | _,0=>[]
 | i,m+1=>yNw i++xQl (i+1) m
def xNk (a n p:Nat):Nat→Nat→List AV
 | _,0=>[]
 | k,m+1=>(bif Nat.beq k p then xP4 a n k else xVp k)++xNk a n p (k+1) m
def zAt (m a n p:Nat):List AV:=xNk a n p 0 m++(bif Nat.beq a 8 then xQl 0 (19+n) else [])
def zC9 (m a n:Nat):Nat:=bif Nat.beq a 8 then m+(19+n) else m
def xS8 (a n p:Nat):Nat→Nat→List (List Nat)
 | _,0=>[]
 | k,m+1=>(bif Nat.beq a 1&&Nat.beq k p then nmE n else vF k)::xS8 a n p (k+1) m
def zJf:Nat→Nat→List (List Nat)
 | _,0=>[]
 | i,m+1=>[81,97+i]::zJf (i+1) m
def rD (m a n p:Nat):List (List Nat):=xS8 a n p 0 m++(bif Nat.beq a 8 then zJf 0 (19+n) else [])
def zJ5:AV:=.agg [.sym 300,.sym 301,.sym 302]
def noN (a:Nat):Bool:=Nat.beq a 7||Nat.beq a 11
def noP (a:Nat):Bool:=Nat.beq a 0||(Nat.beq a 7||(Nat.beq a 8||(Nat.beq a 10||(Nat.beq a 12||Nat.beq a 13))))
def nE' (a n:Nat):Nat:=bif noN a then 0 else n
def pE' (a p:Nat):Nat:=bif noP a then 0 else p
def zZ6 (a n:Nat):AV:=bif noN a then .sym (gZ 1 0) else zj (.ofNat n)
def zZj (a p:Nat):AV:=bif noP a then .sym 303 else zj (.ofNat p)
def XO (m a n p:Nat):Ctx:={ X0 with sums:=wY t21 [.sym 301,.int .i64 8] (zZ6 a n) (wY t21 [.sym 302,.int .i64 (.ofNat m)] (zZj a p) (wY t21 [.sym 300,.int .i64 14] (zj (.ofNat a)) (fun _ _ _=>none))) }
def yNi:List AV→List Lg
 | .str s::.int _ g::l=>⟨s,g⟩::yNi l
 | _=>[]
def yNj:AV→Sl Lg
 | .rslc _ l=>⟨1,yNi l⟩
 | _=>⟨0,[]⟩
def yCz:List AV→List GateD
 | .int _ k::v::l=>⟨k,yNj v⟩::yCz l
 | _=>[]
def xBw:AV→Sl GateD
 | .rslc _ l=>⟨1,yCz l⟩
 | _=>⟨0,[]⟩
def yD0 (m a n p:Nat) (k:AV→Bool):AV→Bool
 | .agg [x,.rslc q cs,gg] => !Nat.beq a 7&&(AV.beq x (.str (tnO a n))&&(Nat.beq q (zC9 m a n)&&(AV.beqs cs (zAt m a n p)&&(AV.beq gg (slV jP (xBw gg))&&k gg))))
 | .agg [x,.nils,gg]=>Nat.beq a 7&&(AV.beq x (.str (tnO a n))&&(AV.beq gg (slV jP (xBw gg))&&k gg))
 | _=>false
noncomputable def yFk (m g a n p:Nat) (k:AV→Bool):Bool :=
 nfA (tyX m g) fun ty=>F.callC (XO m a n p) 60 (.fn t6 [] []) [ty,zJ5] h0 (fun r=>match r with
  | .ret v h=>nfA (deep 8 h v) fun o=>yD0 m a n p k o
  | _=>false)
def xX4:Nat→List (List Nat)→List AV
 | _,[]=>[]
 | k,s::l=>zF9 k s++xX4 (k+1) l
def zAs:List (List Nat)→AV
 | []=>.nils
 | s::l=>.rslc (l.length+1) (xX4 0 (s::l))
def tyN (nms:List (List Nat)) (gg:AV):AV:=.agg [.sym 900,zAs nms,gg]
def yDo:AV→AV
 | .rslc q gs=>.rslc q (xPi gs)
 | v=>v
def zIh:List (List Nat):=xS8 0 0 0 0 6++([nmE 3,nmE 4]++zJf 0 26)
def yDn:List (List Nat×AV):=[(nmE 0,.tup [.nils,.bool false]),(nmE 2,.tup [.nils,.bool false]),(nmE 5,.tup [.rslc 1 [.str (nmE 4)],.bool true]),(nmE 6,.tup [.rslc 2 [.str [68,91,49,93],.str [68,91,48,93]],.bool true]),(nmE 7,.tup [.nils,.bool false])]
def tE:List (List AV×AV):=zIh.map (fun s=>([.str s],.tup [.rslc 1 [.str s],.bool true]))++yDn.map (fun e=>([.str e.1],e.2))
def gE:Grp:=[(t48,tE)]
def tM:List (List AV×AV):=zIh.map (fun s=>([.str s],.bool true))++yDn.map (fun e=>([.str e.1],.bool false))
def tR:List (List AV×AV):=[([.str xBh],.bool true),([.str (tnE 0)],.bool false),([.str (tnE 1)],.bool false),([.str (tnE 2)],.bool false),([.str (tnE 3)],.bool true),([.str (tnE 4)],.bool false),([.str (tnE 5)],.bool true),([.str (tnE 6)],.bool false),([.str (tnE 7)],.bool false)]
def mbE (s:List Nat):Bool := !mI s [[],[80,32,49],[68,91,51,46,46,51,93],[68,91,49,46,46,48,93],[68,91,48,51,93]]
def xSt (seen:List (List Nat)):List (List Nat)→List AV→List AV
 | s::l,c::cs=>(bif mbE s then (bif mI s seen then zj 6 else c) else zj 20)::xSt (s::seen) l cs
 | _,_=>[]
def zRn:Nat→List (List Nat)→List AV→(Pth→List AV→H→Option AV)→(Pth→List AV→H→Option AV)
 | k,s::l,c::cs,more=>wY t49 [.agg (zF9 k s)] c (zRn (k+1) l cs more)
 | _,_,_,more=>more
def zRo (ty:AV):Nat→List AV→(Pth→List AV→H→Option AV)→(Pth→List AV→H→Option AV)
 | k,c::cs,more=>wY t66 [ty,zj (.ofNat k)] c (zRo ty (k+1) cs more)
 | _,[],more=>more
def XCk (nms:List (List Nat)) (ty:AV) (r:Bool) (cl cr:List AV):Ctx :=
 { X0 with sums:=wY t47 [.sym 900] (.bool r) (wY t65 [.sym 900] (.bool r) (zRn 0 nms cl (zRo ty 0 cr (xMr gE (fun _ _ _=>none))))) }
def zIl:AV→Option Bool
 | .int .i64 n=>some (!eqI n 0)
 | .sym i=>bif mV i then some true else none
 | _=>none
def zXq:CRes→Option Bool
 | .ret v _=>zIl v
 | _=>none
def zeros:List (List Nat)→List AV
 | []=>[]
 | _::l=>zj 0::zeros l
def xTe:Nat→List (List Nat)→List AV
 | _,[]=>[]
 | 0,_::l=>.sym (bB+2)::zeros l
 | p+1,_::l=>zj 0::xTe p l
def inN (s:List Nat):Bool:=bif mbE s then mI s zIh else mI s (yDn.map (·.1))
noncomputable def xLp (nms:List (List Nat)) (gg:AV) (r:Bool) (cl:List AV) (p:Bool→Bool→Bool):Bool :=
 nms.all inN&&nfA (tyN nms gg) fun ty=>frz ty&&(F.callC (XCk nms ty r cl (xSt [] nms cl)) 60 (.fn t17 [] []) [ty] h0 (fun r1=>F.callC (XCk nms ty r cl (xSt [] nms cl)) 60 (.fn t33 [] []) [ty] h0 (fun r2 =>
  match zXq r1 with | some b1=>(match zXq r2 with | some b2=>p b1 b2 | none=>false) | none=>false)))
def xAy (a b:Bool):Bool:=a&&b
def yD5 (a b:Bool):Bool := !a && !b
def zGx (_ _:Bool):Bool:=true
end Go.Abs.T
end
section
namespace Go.Abs.T
open Go.Abs.Sym
open Go.Proofs
theorem yO6:GOK [(t48,tE)]:=xL GOK.nil (by kernel_rfl:xB ([]:Grp) t48 tE=true)
theorem yDe:GOK [(t95,tM)]:=xL GOK.nil (by kernel_rfl:xB ([]:Grp) t95 tM=true)
theorem yO7:GOK [(t47,tR)]:=xL GOK.nil (by kernel_rfl:xB ([]:Grp) t47 tR=true)
theorem yG9:GOK [(t65,tR)]:=xL GOK.nil (by kernel_rfl:xB ([]:Grp) t65 tR=true)
end Go.Abs.T
end
section
namespace Go.Abs.T
open Go.Abs.Sym
open AV
abbrev DbE:=Nat×Nat×List (Nat×List (Nat×Nat))
def dbN (m:Nat) (e:DbE):List (List Nat):=xS8 1 e.2.1 e.1 0 m
def dbI (b n:Nat):AV:=bif Nat.beq n 7 then .sym (bB+b) else zj (.ofNat n)
def yL0:List (Nat×Nat)→List AV
 | []=>[]
 | l::ls=>.str (vF l.1)::dbI 1 l.2::yL0 ls
def yKz:List (Nat×List (Nat×Nat))→List AV
 | []=>[]
 | g::gs=>dbI 0 g.1::.rslc g.2.length (yL0 g.2)::yKz gs
def dbG (e:DbE):AV:=match e.2.2 with
 | []=>.nils
 | gs=>.rslc gs.length (yKz gs)
def yL2:DbE:=(9,0,[])
def yL3:DbE:=(0,3,[])
def yL4:DbE:=(1,3,[])
def yL5:DbE:=(0,4,[])
def yL6:DbE:=(1,4,[])
def yL7:DbE:=(9,0,[(0,[(0,0)])])
def yL8:DbE:=(9,0,[(0,[(1,0)])])
def yL9:DbE:=(9,0,[(1,[(0,0)])])
def yLa:DbE:=(9,0,[(1,[(1,0)])])
def yLb:DbE:=(9,0,[(7,[(0,0)])])
def yBo:DbE:=(9,0,[(7,[(1,0)])])
def yBp:DbE:=(9,0,[(0,[(0,1),(1,0)])])
def yBq:DbE:=(9,0,[(0,[(0,0),(1,0)])])
def yBr:DbE:=(9,0,[(0,[(0,7),(1,0)])])
def yBs:DbE:=(9,0,[(0,[(0,1)])])
def yBt:DbE:=(9,0,[(0,[(0,1),(1,1)])])
def yBu:DbE:=(9,0,[(0,[(0,0),(1,1)])])
def yBv:DbE:=(9,0,[(0,[(0,7),(1,1)])])
def db2:List DbE:=[yL2,yL3,yL4,yL5,yL6,yL7,yL8,yL9,yLa,yLb,yBo,yBp,yBq,yBr,yBs,yBt,yBu,yBv]
def yLc:DbE:=(9,0,[])
def yLd:DbE:=(0,3,[])
def yLe:DbE:=(1,3,[])
def yLf:DbE:=(2,3,[])
def yLg:DbE:=(0,4,[])
def yLh:DbE:=(1,4,[])
def yLi:DbE:=(2,4,[])
def yLj:DbE:=(9,0,[(0,[(0,0)])])
def yLk:DbE:=(9,0,[(0,[(1,0)])])
def yLl:DbE:=(9,0,[(0,[(2,0)])])
def yBw:DbE:=(9,0,[(1,[(0,0)])])
def yBx:DbE:=(9,0,[(1,[(1,0)])])
def yBy:DbE:=(9,0,[(1,[(2,0)])])
def yBz:DbE:=(9,0,[(7,[(0,0)])])
def yC0:DbE:=(9,0,[(7,[(1,0)])])
def yC1:DbE:=(9,0,[(7,[(2,0)])])
def yC2:DbE:=(9,0,[(0,[(0,1),(1,0)])])
def yC3:DbE:=(2,3,[(0,[(0,1),(1,0)])])
def yC4:DbE:=(2,4,[(0,[(0,1),(1,0)])])
def yC5:DbE:=(9,0,[(0,[(0,1),(1,0)]),(0,[(2,0)])])
def yC6:DbE:=(9,0,[(0,[(0,1),(1,0)]),(1,[(2,0)])])
def yC7:DbE:=(9,0,[(0,[(0,1),(1,0)]),(7,[(2,0)])])
def yC8:DbE:=(9,0,[(0,[(0,0),(1,0)])])
def yC9:DbE:=(9,0,[(0,[(0,7),(1,0)])])
def yCa:DbE:=(9,0,[(0,[(2,1),(1,0)])])
def yCb:DbE:=(9,0,[(0,[(0,1)])])
def yCc:DbE:=(9,0,[(0,[(0,1),(1,1)])])
def yCd:DbE:=(2,3,[(0,[(0,1),(1,1)])])
def yCe:DbE:=(2,4,[(0,[(0,1),(1,1)])])
def xZe:DbE:=(9,0,[(0,[(0,1),(1,1)]),(0,[(2,0)])])
def xZf:DbE:=(9,0,[(0,[(0,1),(1,1)]),(1,[(2,0)])])
def xZg:DbE:=(9,0,[(0,[(0,1),(1,1)]),(7,[(2,0)])])
def yCf:DbE:=(9,0,[(0,[(0,0),(1,1)])])
def yCg:DbE:=(9,0,[(0,[(0,7),(1,1)])])
def yCh:DbE:=(9,0,[(0,[(2,1),(1,1)])])
def db3:List DbE:=[yLc,yLd,yLe,yLf,yLg,yLh,yLi,yLj,yLk,yLl,yBw,yBx,yBy,yBz,yC0,yC1,yC2,yC3,yC4,yC5,yC6,yC7,yC8,yC9,yCa,yCb,yCc,yCd,yCe,xZe,xZf,xZg,yCf,yCg,yCh]
def yLm:DbE:=(9,0,[])
def yLn:DbE:=(0,3,[])
def yLo:DbE:=(1,3,[])
def yLp:DbE:=(2,3,[])
def yLq:DbE:=(3,3,[])
def yLr:DbE:=(0,4,[])
def yLs:DbE:=(1,4,[])
def yLt:DbE:=(2,4,[])
def yLu:DbE:=(3,4,[])
def yLv:DbE:=(9,0,[(0,[(0,0)])])
def yCi:DbE:=(9,0,[(0,[(1,0)])])
def yCj:DbE:=(9,0,[(0,[(2,0)])])
def yCk:DbE:=(9,0,[(0,[(3,0)])])
def yCl:DbE:=(9,0,[(1,[(0,0)])])
def yCm:DbE:=(9,0,[(1,[(1,0)])])
def yCn:DbE:=(9,0,[(1,[(2,0)])])
def yCo:DbE:=(9,0,[(1,[(3,0)])])
def yCp:DbE:=(9,0,[(7,[(0,0)])])
def yCq:DbE:=(9,0,[(7,[(1,0)])])
def yCr:DbE:=(9,0,[(7,[(2,0)])])
def yCs:DbE:=(9,0,[(7,[(3,0)])])
def xTx:DbE:=(9,0,[(1,[(0,0),(1,0)]),(1,[(2,0),(3,0)])])
def xPp:DbE:=(9,0,[(1,[(0,1),(1,1)]),(1,[(2,1),(3,1)])])
def db4:List DbE:=[yLm,yLn,yLo,yLp,yLq,yLr,yLs,yLt,yLu,yLv,yCi,yCj,yCk,yCl,yCm,yCn,yCo,yCp,yCq,yCr,yCs,xTx,xPp]
def yLw:DbE:=(9,0,[])
def yLx:DbE:=(0,3,[])
def yLy:DbE:=(1,3,[])
def yLz:DbE:=(2,3,[])
def yM0:DbE:=(3,3,[])
def yM1:DbE:=(4,3,[])
def yM2:DbE:=(0,4,[])
def yM3:DbE:=(1,4,[])
def yM4:DbE:=(2,4,[])
def yM5:DbE:=(3,4,[])
def yCt:DbE:=(4,4,[])
def xZh:DbE:=(9,0,[(0,[(0,0)])])
def xZi:DbE:=(9,0,[(0,[(1,0)])])
def xZj:DbE:=(9,0,[(0,[(2,0)])])
def xZk:DbE:=(9,0,[(0,[(3,0)])])
def xZl:DbE:=(9,0,[(0,[(4,0)])])
def xZm:DbE:=(9,0,[(1,[(0,0)])])
def xZn:DbE:=(9,0,[(1,[(1,0)])])
def xZo:DbE:=(9,0,[(1,[(2,0)])])
def xZp:DbE:=(9,0,[(1,[(3,0)])])
def xZq:DbE:=(9,0,[(1,[(4,0)])])
def xZr:DbE:=(9,0,[(7,[(0,0)])])
def xZs:DbE:=(9,0,[(7,[(1,0)])])
def xZt:DbE:=(9,0,[(7,[(2,0)])])
def xZu:DbE:=(9,0,[(7,[(3,0)])])
def xZv:DbE:=(9,0,[(7,[(4,0)])])
def xTy:DbE:=(9,0,[(1,[(0,0),(1,0)]),(1,[(2,0),(3,0)])])
def xTz:DbE:=(4,3,[(1,[(0,0),(1,0)]),(1,[(2,0),(3,0)])])
def xU0:DbE:=(4,4,[(1,[(0,0),(1,0)]),(1,[(2,0),(3,0)])])
def xPq:DbE:=(9,0,[(1,[(0,0),(1,0)]),(1,[(2,0),(3,0)]),(0,[(4,0)])])
def xPr:DbE:=(9,0,[(1,[(0,0),(1,0)]),(1,[(2,0),(3,0)]),(7,[(4,0)])])
def xU1:DbE:=(9,0,[(1,[(4,0),(1,0)]),(1,[(2,0),(3,0)])])
def xPs:DbE:=(9,0,[(1,[(0,1),(1,1)]),(1,[(2,1),(3,1)])])
def xPt:DbE:=(4,3,[(1,[(0,1),(1,1)]),(1,[(2,1),(3,1)])])
def xPu:DbE:=(4,4,[(1,[(0,1),(1,1)]),(1,[(2,1),(3,1)])])
def xLz:DbE:=(9,0,[(1,[(0,1),(1,1)]),(1,[(2,1),(3,1)]),(0,[(4,0)])])
def xM0:DbE:=(9,0,[(1,[(0,1),(1,1)]),(1,[(2,1),(3,1)]),(7,[(4,0)])])
def xPv:DbE:=(9,0,[(1,[(4,1),(1,1)]),(1,[(2,1),(3,1)])])
def db5:List DbE:=[yLw,yLx,yLy,yLz,yM0,yM1,yM2,yM3,yM4,yM5,yCt,xZh,xZi,xZj,xZk,xZl,xZm,xZn,xZo,xZp,xZq,xZr,xZs,xZt,xZu,xZv,xTy,xTz,xU0,xPq,xPr,xU1,xPs,xPt,xPu,xLz,xM0,xPv]
def yM6:DbE:=(9,0,[])
def yM7:DbE:=(0,3,[])
def yM8:DbE:=(1,3,[])
def yM9:DbE:=(2,3,[])
def yMa:DbE:=(3,3,[])
def yMb:DbE:=(4,3,[])
def yMc:DbE:=(5,3,[])
def yMd:DbE:=(0,4,[])
def yMe:DbE:=(1,4,[])
def yMf:DbE:=(2,4,[])
def yCu:DbE:=(3,4,[])
def yCv:DbE:=(4,4,[])
def yCw:DbE:=(5,4,[])
def xU2:DbE:=(9,0,[(0,[(0,0)])])
def xU3:DbE:=(9,0,[(0,[(1,0)])])
def xU4:DbE:=(9,0,[(0,[(2,0)])])
def xU5:DbE:=(9,0,[(0,[(3,0)])])
def xU6:DbE:=(9,0,[(0,[(4,0)])])
def xU7:DbE:=(9,0,[(0,[(5,0)])])
def xU8:DbE:=(9,0,[(1,[(0,0)])])
def xU9:DbE:=(9,0,[(1,[(1,0)])])
def xUa:DbE:=(9,0,[(1,[(2,0)])])
def xUb:DbE:=(9,0,[(1,[(3,0)])])
def xUc:DbE:=(9,0,[(1,[(4,0)])])
def xUd:DbE:=(9,0,[(1,[(5,0)])])
def xUe:DbE:=(9,0,[(7,[(0,0)])])
def xUf:DbE:=(9,0,[(7,[(1,0)])])
def xUg:DbE:=(9,0,[(7,[(2,0)])])
def xUh:DbE:=(9,0,[(7,[(3,0)])])
def xUi:DbE:=(9,0,[(7,[(4,0)])])
def xUj:DbE:=(9,0,[(7,[(5,0)])])
def xPw:DbE:=(9,0,[(1,[(0,0),(1,0)]),(1,[(2,0),(3,0)])])
def xPx:DbE:=(4,3,[(1,[(0,0),(1,0)]),(1,[(2,0),(3,0)])])
def xPy:DbE:=(5,3,[(1,[(0,0),(1,0)]),(1,[(2,0),(3,0)])])
def xPz:DbE:=(4,4,[(1,[(0,0),(1,0)]),(1,[(2,0),(3,0)])])
def xQ0:DbE:=(5,4,[(1,[(0,0),(1,0)]),(1,[(2,0),(3,0)])])
def xM1:DbE:=(9,0,[(1,[(0,0),(1,0)]),(1,[(2,0),(3,0)]),(0,[(4,0)])])
def xM2:DbE:=(9,0,[(1,[(0,0),(1,0)]),(1,[(2,0),(3,0)]),(0,[(5,0)])])
def xM3:DbE:=(9,0,[(1,[(0,0),(1,0)]),(1,[(2,0),(3,0)]),(7,[(4,0)])])
def xM4:DbE:=(9,0,[(1,[(0,0),(1,0)]),(1,[(2,0),(3,0)]),(7,[(5,0)])])
def xQ1:DbE:=(9,0,[(1,[(4,0),(1,0)]),(1,[(2,0),(3,0)])])
def xQ2:DbE:=(9,0,[(1,[(5,0),(1,0)]),(1,[(2,0),(3,0)])])
def xM5:DbE:=(9,0,[(1,[(0,1),(1,1)]),(1,[(2,1),(3,1)])])
def xM6:DbE:=(4,3,[(1,[(0,1),(1,1)]),(1,[(2,1),(3,1)])])
def xM7:DbE:=(5,3,[(1,[(0,1),(1,1)]),(1,[(2,1),(3,1)])])
def xM8:DbE:=(4,4,[(1,[(0,1),(1,1)]),(1,[(2,1),(3,1)])])
def xM9:DbE:=(5,4,[(1,[(0,1),(1,1)]),(1,[(2,1),(3,1)])])
def xJl:DbE:=(9,0,[(1,[(0,1),(1,1)]),(1,[(2,1),(3,1)]),(0,[(4,0)])])
def xJm:DbE:=(9,0,[(1,[(0,1),(1,1)]),(1,[(2,1),(3,1)]),(0,[(5,0)])])
def xJn:DbE:=(9,0,[(1,[(0,1),(1,1)]),(1,[(2,1),(3,1)]),(7,[(4,0)])])
def xJo:DbE:=(9,0,[(1,[(0,1),(1,1)]),(1,[(2,1),(3,1)]),(7,[(5,0)])])
def xMa:DbE:=(9,0,[(1,[(4,1),(1,1)]),(1,[(2,1),(3,1)])])
def xMb:DbE:=(9,0,[(1,[(5,1),(1,1)]),(1,[(2,1),(3,1)])])
def xMc:DbE:=(9,0,[(1,[(0,0),(1,0)]),(1,[(2,0),(3,0)]),(0,[(5,0),(4,0)])])
def xMd:DbE:=(9,0,[(1,[(0,0),(1,0)]),(1,[(2,0),(3,0)]),(0,[(5,1),(4,0)])])
def xMe:DbE:=(9,0,[(1,[(0,0),(1,0)]),(1,[(2,0),(3,0)]),(0,[(5,7),(4,0)])])
def xJp:DbE:=(9,0,[(1,[(0,0),(1,0)]),(1,[(2,0),(3,0)]),(1,[(5,0),(4,0)])])
def xMf:DbE:=(9,0,[(1,[(0,0),(1,0)]),(1,[(2,0),(3,0)]),(7,[(5,0),(4,0)])])
def xMg:DbE:=(9,0,[(1,[(0,0),(1,0)]),(1,[(2,0),(3,0)]),(7,[(5,1),(4,0)])])
def xMh:DbE:=(9,0,[(1,[(0,0),(1,0)]),(1,[(2,0),(3,0)]),(7,[(5,7),(4,0)])])
def xDz:DbE:=(9,0,[(1,[(0,1),(1,1)]),(1,[(2,1),(3,1)]),(0,[(5,1),(4,1)])])
def xJq:DbE:=(9,0,[(1,[(0,1),(1,1)]),(1,[(2,1),(3,1)]),(0,[(5,0),(4,1)])])
def xJr:DbE:=(9,0,[(1,[(0,1),(1,1)]),(1,[(2,1),(3,1)]),(0,[(5,7),(4,1)])])
def vI:DbE:=(9,0,[(1,[(0,1),(1,1)]),(1,[(2,1),(3,1)]),(1,[(5,1),(4,1)])])
def xE0:DbE:=(9,0,[(1,[(0,1),(1,1)]),(1,[(2,1),(3,1)]),(7,[(5,1),(4,1)])])
def xJs:DbE:=(9,0,[(1,[(0,1),(1,1)]),(1,[(2,1),(3,1)]),(7,[(5,0),(4,1)])])
def xJt:DbE:=(9,0,[(1,[(0,1),(1,1)]),(1,[(2,1),(3,1)]),(7,[(5,7),(4,1)])])
def db6:List DbE:=[yM6,yM7,yM8,yM9,yMa,yMb,yMc,yMd,yMe,yMf,yCu,yCv,yCw,xU2,xU3,xU4,xU5,xU6,xU7,xU8,xU9,xUa,xUb,xUc,xUd,xUe,xUf,xUg,xUh,xUi,xUj,xPw,xPx,xPy,xPz,xQ0,xM1,xM2,xM3,xM4,xQ1,xQ2,xM5,xM6,xM7,xM8,xM9,xJl,xJm,xJn,xJo,xMa,xMb,xMc,xMd,xMe,xJp,xMf,xMg,xMh,xDz,xJq,xJr,vI,xE0,xJs,xJt]
def dbL:Nat→List DbE
 | 2=>db2
 | 3=>db3
 | 4=>db4
 | 5=>db5
 | 6=>db6
 | _=>[]
end Go.Abs.T
end
section
namespace Go.Abs.T
open Go.Abs.Sym
open Go.Proofs
open AV
def wOf:List AV→Int
 | .int _ k::_::l=>bif leI 2 k then k else wOf l
 | _=>2
def yGb:List AV→Int
 | .str _::.int _ k::l=>bif leI 2 k then k else yGb l
 | _=>0
def uOf:List AV→Int
 | .int _ _::.rslc _ ls::l=>let u:=yGb ls; bif leI 2 u then u else uOf l
 | _=>2
def yBk:AV→Bool
 | .rslc _ gs=>xG2 (wOf gs) (uOf gs) gs
 | _=>true
def zXo:List (List Nat)→List (List Nat)→Bool
 | [],[]=>true
 | a::x,b::y=>eqS a b&&zXo x y
 | _,_=>false
def zIi (m:Nat) (nms:List (List Nat)) (gg:AV):Bool:=yBk gg&&(let g2:=yDo gg; (dbL m).any fun e=>AV.beq (dbG e) g2&&zXo (dbN m e) nms)
noncomputable def xHc (m:Nat) (nms:List (List Nat)) (gg:AV):Bool:=zIi m nms gg||xLp nms gg true (zeros nms) xAy
def gg0 (g:Nat):AV:=slV jP ⟨0,xMx g⟩
noncomputable def kO (m g a n p:Nat) (gg:AV):Bool :=
 bif Nat.ble a 6 then (bif Nat.beq a 1 then xHc m (rD m a n p) gg else AV.beq gg (gg0 g))
 else bif Nat.beq a 7 then xLp [] gg true [] xAy
 else bif Nat.beq a 8 then xLp (rD m a n p) gg true (zeros (rD m a n p)) zGx
 else xHc m (rD m a n p) gg
noncomputable def xNh (m g a n p:Nat):Bool:=yFk m g a n p (kO m g a n p)
def rng:Nat→List Nat
 | 0=>[]
 | m+1=>rng m++[m]
def zC7 (a:Nat):List Nat:=bif noN a then [0] else [0,1,2,3,4,5,6,7]
def zZr (m a:Nat):List Nat:=bif noP a then [0] else rng m
noncomputable def jV (m g a:Nat):Bool:=(zC7 a).all fun n=>(zZr m a).all fun p=>xNh m g a n p
theorem zB6 {p:Nat}:∀ {m:Nat},p<m→p∈rng m
 | 0,h=>absurd h (Nat.not_lt_zero _)
 | m + 1,h=>by
  rcases Nat.lt_or_ge p m with h' | h'
  ·exact List.mem_append_left _ (zB6 h')
  ·obtain rfl:p=m:=by omega
   exact List.mem_append_right _ List.mem_cons_self
theorem yFl {m g a n p:Nat} (h:jV m g a=true) (hn:n<8) (hp:p<m):xNh m g a (nE' a n) (pE' a p)=true:=by
 refine List.all_eq_true.1 (List.all_eq_true.1 h _ ?_) _ ?_
 ·unfold nE' zC7
  cases noN a with
  | true=>exact List.mem_cons_self
  | false =>
   simp only [cond_false,List.mem_cons,List.not_mem_nil,or_false]
   omega
 ·unfold pE' zZr
  cases noP a with
  | true=>exact List.mem_cons_self
  | false=>exact zB6 hp
theorem yNp {a n:Nat} (h:n<8):nE' a n<8:=by
 unfold nE'
 cases noN a with
 | true=>exact Nat.zero_lt_succ 7
 | false=>exact h
theorem yNt {a p m:Nat} (h:p<m):pE' a p<m:=by
 unfold pE'
 cases noP a with
 | true=>exact Nat.lt_of_le_of_lt (Nat.zero_le _) h
 | false=>exact h
noncomputable def xBr (m g:Nat):Bool:=zIi m (rD m 0 0 0) (gg0 g)&&(xLp (rD m 0 0 0) (gg0 g) false (zeros (rD m 0 0 0)) xAy&&(rng m).all fun p=>xLp (rD m 0 0 0) (gg0 g) true (xTe p (rD m 0 0 0)) xAy)
noncomputable def xR (m:Nat) (e:Nat×Nat×List (Nat×List (Nat×Nat))):Bool:=xLp (dbN m e) (dbG e) true (zeros (dbN m e)) yD5
end Go.Abs.T
end
end
