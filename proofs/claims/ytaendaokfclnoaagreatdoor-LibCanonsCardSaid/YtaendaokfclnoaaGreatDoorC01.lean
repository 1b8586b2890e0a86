/- A part of the proof that LibSwaps answers true at every input: AbsDefs, AbsComp. -/
import GoSem.Step
section
namespace Go.Abs
inductive Pth where
  | e
  | l (p:Pth)
  | r (p:Pth)
  deriving Inhabited
def Pth.num:Pth→Nat
  | .e=>0
  | .l p=>2*p.num+1
  | .r p=>2*p.num+2
def Pth.succ:Pth→Pth
  | .e=>.l .e
  | .l p=>.r p
  | .r p=>.l p.succ
def Pth.beq:Pth→Pth→Bool
  | .e,.e=>true
  | .l p,.l q=>Pth.beq p q
  | .r p,.r q=>Pth.beq p q
  | _,_=>false
inductive Tr (α:Type) where
  | lf
  | nd (l:Tr α) (v:Option α) (r:Tr α)
  deriving Inhabited
def Tr.get {α:Type}:Tr α→Pth→Option α
  | .lf,_=>none
  | .nd _ v _,.e=>v
  | .nd l _ _,.l p=>l.get p
  | .nd _ _ r,.r p=>r.get p
def Tr.upd {α:Type} (x:Option α):Pth→Tr α→Tr α
  | .e,.lf=>.nd .lf x .lf
  | .e,.nd l _ r=>.nd l x r
  | .l p,.lf=>.nd (Tr.upd x p .lf) none .lf
  | .l p,.nd l v r=>.nd (Tr.upd x p l) v r
  | .r p,.lf=>.nd .lf none (Tr.upd x p .lf)
  | .r p,.nd l v r=>.nd l v (Tr.upd x p r)
def Tr.put {α:Type} (t:Tr α) (k:Pth) (x:α):Tr α:=Tr.upd (some x) k t
def Tr.del {α:Type} (t:Tr α) (k:Pth):Tr α:=Tr.upd none k t
def eqI:Int→Int→Bool
  | .ofNat a,.ofNat b=>Nat.beq a b
  | .negSucc a,.negSucc b=>Nat.beq a b
  | _,_=>false
def ltI:Int→Int→Bool
  | .ofNat a,.ofNat b=>Nat.blt a b
  | .negSucc a,.negSucc b=>Nat.blt b a
  | .negSucc _,.ofNat _=>true
  | .ofNat _,.negSucc _=>false
def leI:Int→Int→Bool
  | .ofNat a,.ofNat b=>Nat.ble a b
  | .negSucc a,.negSucc b=>Nat.ble b a
  | .negSucc _,.ofNat _=>true
  | .ofNat _,.negSucc _=>false
def xT:IntKind→Nat
  | .i8=>nat_lit 0 | .i16=>nat_lit 1 | .i32=>nat_lit 2 | .i64=>nat_lit 3 | .u8=>nat_lit 4 | .u16=>nat_lit 5 | .u32=>nat_lit 6 | .u64=>nat_lit 7
def eqK (j k:IntKind):Bool:=Nat.beq (xT j) (xT k)
def xWa:IntKind→Nat
  | .i8=>nat_lit 128 | .i16=>nat_lit 32768 | .i32=>nat_lit 2147483648 | .i64=>nat_lit 9223372036854775808
  | .u8=>nat_lit 256 | .u16=>nat_lit 65536 | .u32=>nat_lit 4294967296 | .u64=>nat_lit 18446744073709551616
def zU (k:IntKind) (n:Int):Int :=
  match n with
  | .ofNat m=>cond (Nat.blt m (xWa k)) (.ofNat m) (k.wrap n)
  | .negSucc m=>match k with
    | .i8=>cond (Nat.blt m (nat_lit 128)) (.negSucc m) (k.wrap n)
    | .i16=>cond (Nat.blt m (nat_lit 32768)) (.negSucc m) (k.wrap n)
    | .i32=>cond (Nat.blt m (nat_lit 2147483648)) (.negSucc m) (k.wrap n)
    | .i64=>cond (Nat.blt m (nat_lit 9223372036854775808)) (.negSucc m) (k.wrap n)
    | _=>k.wrap n
def eqS:List Nat→List Nat→Bool
  | [],[]=>true
  | a::x,b::y=>cond (Nat.beq a b) (eqS x y) false
  | _,_=>false
inductive AV where
  | bool (b:Bool)
  | int (k:IntKind) (n:Int)
  | str (s:List Nat)
  | nilp
  | ptr (id:Pth) (off:Nat)
  | rptr (cs:List AV)
  | nils
  | slc (id:Pth) (off len sz:Nat) (cap:Option Nat)
  | rslc (len:Nat) (cs:List AV)
  | eslc
  | nilm
  | mapv (id:Pth)
  | rmap (ks vs:List AV)
  | nilf
  | fn (f:Pth) (first caught:List AV)
  | yield (id:Pth)
  | nili
  | iface (t:TypeId) (v:AV)
  | agg (cs:List AV)
  | tup (cs:List AV)
  | sym (i:Nat)
  deriving Inhabited
def AV.cells:AV→List AV
  | .agg cs=>cs
  | v=>[v]
def AV.one:AV→Bool
  | .agg _ | .tup _=>false
  | _=>true
def mF:List AV→Bool
  | []=>true
  | v::vs=>v.one&&mF vs
inductive Opd where
  | tmp (t:Pth)
  | const (v:AV)
  | glob (g:Pth)
  deriving Inhabited
inductive CK where
  | b
  | i
  | s
  deriving Inhabited
structure KeyK where
  ks:List CK
  agg:Bool
  deriving Inhabited
inductive EqK where
  | one
  | bool
  | ptr
  | slc
  | map
  | fn
  | ifc
  | flat (ks:List CK)
  deriving Inhabited
inductive ConvK where
  | int (k:IntKind)
  | same
  | ofBytes
  | ofInt
  deriving Inhabited
inductive SlcK where
  | str
  | slc (sz:Nat)
  | arr (n sz:Nat)
  deriving Inhabited
inductive IxK where
  | slc (sz:Nat)
  | arr (n sz:Nat)
  deriving Inhabited
inductive LenK where
  | str
  | slc
  | map
  | fixed (n:Nat)
  deriving Inhabited
inductive AOp where
  | mov
  | pick
  | alloc (z:List AV)
  | box
  | build (z:List AV) (parts:List (Nat×Nat))
  | buildSl (n sz:Nat) (z:List AV) (parts:List Nat)
  | load (n:Option Nat)
  | store (n:Nat)
  | nilCheck
  | bin (op:BinOp) (e:EqK)
  | un (op:UnOp)
  | conv (c:ConvK)
  | toBytes
  | mkIface (t:TypeId)
  | mkFn (f:Pth) (nfirst:Nat)
  | mkMap
  | mkSlice (z:List AV) (bytes:Nat)
  | slice (k:SlcK) (lo hi mx:Bool)
  | fieldAddr (off:Nat)
  | field (off:Nat) (n:Option Nat)
  | indexAddr (k:IxK)
  | indexArr (len sz:Nat) (n:Option Nat)
  | indexStr
  | lookup (kn:KeyK) (zero:AV) (commaOk:Bool)
  | mapUpd (kn:KeyK)
  | rangeStr
  | rangeMap
  | next (isString:Bool)
  | entry
  | assertTo (t:TypeId) (zero:AV) (commaOk:Bool)
  | extract (i:Nat)
  | append (sz bytes:Nat) (zeros:Bool)
  | copy (sz:Nat)
  | len (k:LenK)
  | cap (fixed:Option Nat)
  | min
  | max
  | recover
  | panic
  | call
  | invoke (tbl:List (TypeId×Pth))
  | defer
  deriving Inhabited
structure AOper where
  dst:Option Pth
  op:AOp
  args:List Opd
  guard:Option (Pth×Bool)
  deriving Inhabited
structure DOper where
  o:AOper
  chain:Bool
  lo:Nat
  hi:Nat
  wide:Bool
  makers:List Nat
  last:Bool
  deriving Inhabited
inductive ACode where
  | skip
  | reg (ops:List AOper)
  | dreg (ops:List DOper)
  | seq (a b:ACode)
  | cond (c:Opd) (a b:ACode)
  | block (id:Nat) (a:ACode)
  | loop (a:ACode)
  | rangeFunc (f:Opd) (params:List Pth) (assign body:ACode)
  | exit (id:Nat)
  | ret
  | bad
  deriving Inhabited
inductive ARes where
  | tmp (t:Pth)
  | cell (a:Pth) (n:Option Nat)
  deriving Inhabited
structure AFunc where
  ntmps:Nat
  results:List ARes
  body:ACode
  deriving Inhabited
inductive Jump where
  | exit (id:Nat)
  | ret
  deriving Inhabited
inductive LState where
  | ready | busy | done | exhausted
  deriving Inhabited
inductive AB where
  | cells (cs:List AV) (spare:Bool)
  | amap (es:List (AV×AV))
  | siter (s:List Nat) (pos:Nat)
  | miter (m:Option Pth) (n k:Nat)
  | loop (st:LState) (jump:Option Jump) (fn:Pth) (fr:Tr AV) (params:List Pth) (assign body:ACode) (defers:Pth)
  | dfr (taken:Bool)
  deriving Inhabited
structure H where
  next:Pth
  t:Tr AB
  ro:Tr (List AV)
  deriving Inhabited
def H.newB (h:H) (b:AB):H:={ h with next:=h.next.succ,t:=h.t.put h.next b }
def H.cellsAt (h:H) (id:Pth):Option (List AV) :=
  match h.t.get id with
  | some (.cells cs _)=>some cs
  | some _=>none
  | none=>h.ro.get id
inductive ORes where
  | val (v:AV) (h:H)
  | call (f:AV) (args:List AV)
  | defer (f:AV) (args:List AV)
  | recover
  | panic (v:AV) (h:H)
  | bad
  deriving Inhabited
inductive CRes where
  | ret (v:AV) (h:H)
  | panic (v:AV) (h:H)
  | bad (why:Nat)
  deriving Inhabited
def topI:Nat:=nat_lit 999999999
def xP0:Nat:=nat_lit 999999998
def opT:Tr (List AV):=.nd .lf (some [.sym xP0]) .lf
structure Ctx where
  globs:Tr (List AV)
  funcs:Tr AFunc
  sums:Pth→List AV→H→Option AV
  exts:Pth→List AV→H→Option (AV×H)
  fuel:Nat
def yPx:AV→Option Bool
  | .bool b=>some b
  | _=>none
def bQ:Nat:=nat_lit 2722258935367507707706996859454145691648
def xHv:Nat:=nat_lit 500000768
def bB:Nat:=nat_lit 600000000
def pR (i j:Nat):Nat :=
  bif Nat.ble bQ i&&Nat.ble bQ j then (bif Nat.beq (i / 8) (j / 8) then i / 8 / 4 ^ (8*(i % 8)+j % 8) % 4 else 0) else 0
def nX (i:Nat):Bool:=Nat.ble xHv i&&Nat.blt i (xHv+2048)
def mV (i:Nat):Bool:=Nat.ble bB i&&Nat.blt i (bB+8)
def vM (i:Nat) (k:IntKind) (n:Int):Bool:=mV i&&(eqK k .i64&&leI n 1)
def yIg:Nat:=nat_lit 700006400
def wQ (i:Nat):Bool:=Nat.beq (i / 8192) 85450
def xBt (i:Nat):Nat:=i / 4096 % 2
def yD (i:Nat):Int:=Int.ofNat (i % 4096) - 2048
def gZ (c:Nat) (j:Int):Nat:=yIg+4096*c+(j+2048).toNat
def vD (a b:Nat):Bool:=wQ a&&(wQ b&&Nat.beq (xBt a) (xBt b))
def xOt (j:Int):Bool:=leI (.negSucc 2047) j&&ltI j (.ofNat 2048)
def xLk:Nat:=nat_lit 999999997
def xS9:Nat:=nat_lit 999999996
def xYx (i:Nat) (k:IntKind) (n:Int):Bool:=eqK k .i64&&(wQ i&&ltI n (yD i)||(Nat.beq i xLk&&ltI n (.negSucc 4999)||Nat.beq i xS9&&ltI n (.ofNat 0)))
def xYw (i:Nat) (k:IntKind) (n:Int):Bool:=eqK k .i64&&(wQ i&&ltI (100000+yD i) n||Nat.beq i xLk&&ltI (.ofNat 105000) n)
def xAw (i:Nat) (k:IntKind) (n:Int) (lo hi:Bool):Option Bool:=bif xYx i k n then some lo else bif xYw i k n then some hi else none
def vE:List (List Nat):=[[80,49],[80,50],[80,51],[80,52],[80,53],[80,54],[80,55],[68,91,51,93]]
def mI (s:List Nat):List (List Nat)→Bool
  | []=>false
  | x::l=>eqS s x||mI s l
def xGr:Nat→List (List Nat)→List (List Nat)
  | _,[]=>[]
  | m,x::l=>bif Nat.beq (m % 2) 1 then x::xGr (m / 2) l else xGr (m / 2) l
def zXs (i:Nat):List (List Nat):=xGr (i / 8 % 256) vE
def dL (i:Nat) (s:List Nat):Bool:=nX i&&mI s (zXs i)
def xVx (r:Nat) (b:Bool):Option Bool:=bif Nat.beq r 0 then none else some b
def yO1 (r s:Nat):Option Bool:=bif Nat.beq r 2 then some true else bif Nat.beq r 1||Nat.beq s 1 then some false else none
def wB:List CK→List AV→List AV→Option Bool
  | [],[],[]=>some true
  | .b::ks,.bool a::xs,.bool b::ys=>bif a==b then wB ks xs ys else some false
  | .i::ks,.int j a::xs,.int k b::ys=>bif eqK j k then (bif eqI a b then wB ks xs ys else some false) else none
  | .s::ks,.str a::xs,.str b::ys=>bif eqS a b then wB ks xs ys else some false
  | .s::_,.str a::_,.sym b::_=>bif dL b a then some false else none
  | .s::_,.sym a::_,.str b::_=>bif dL a b then some false else none
  | .s::ks,.sym a::xs,.sym b::ys=>bif nX a&&Nat.beq a b then wB ks xs ys else none
  | .i::_,.int k a::_,.sym b::_=>bif vM b k a then some false else xAw b k a false false
  | .i::_,.sym a::_,.int k b::_=>bif vM a k b then some false else xAw a k b false false
  | .i::ks,.sym a::xs,.sym b::ys=>bif mV a&&Nat.beq a b then wB ks xs ys else bif vD a b then (bif eqI (yD a) (yD b) then wB ks xs ys else some false) else none
  | _,_,_=>none
def zG (e:EqK) (x y:AV):Option Bool :=
  match e with
  | .one=>match x,y with
    | .int j a,.int k b=>bif eqK j k then some (eqI a b) else none
    | .str a,.str b=>some (eqS a b)
    | .str a,.sym b=>bif dL b a then some false else none
    | .sym a,.str b=>bif dL a b then some false else none
    | .int k a,.sym b=>bif vM b k a then some false else xAw b k a false false
    | .sym a,.int k b=>bif vM a k b then some false else xAw a k b false false
    | .sym a,.sym b=>bif mV a&&Nat.beq a b then some true else bif vD a b then some (eqI (yD a) (yD b)) else yO1 (pR a b) (pR b a)
    | _,_=>none
  | .bool=>match x,y with
    | .bool a,.bool b=>some (a==b)
    | _,_=>none
  | .ptr=>match x,y with
    | .nilp,.nilp=>some true
    | .nilp,.ptr _ _ | .ptr _ _,.nilp | .nilp,.rptr _ | .rptr _,.nilp=>some false
    | _,_=>none
  | .slc=>match x,y with
    | .nils,.nils=>some true
    | .nils,.slc _ _ _ _ _ | .slc _ _ _ _ _,.nils | .rslc _ _,.nils | .nils,.rslc _ _=>some false
    | _,_=>none
  | .map=>match x,y with
    | .nilm,.nilm=>some true
    | .nilm,.mapv _ | .mapv _,.nilm=>some false
    | _,_=>none
  | .fn=>match x,y with
    | .nilf,.nilf=>some true
    | .nilf,.fn _ _ _ | .fn _ _ _,.nilf | .nilf,.yield _ | .yield _,.nilf=>some false
    | _,_=>none
  | .ifc=>match x,y with
    | .nili,.nili=>some true
    | .nili,.iface _ _ | .iface _ _,.nili=>some false
    | _,_=>none
  | .flat ks=>match x,y with
    | .agg xs,.agg ys=>bif Nat.beq xs.length ks.length&&Nat.beq ys.length ks.length then wB ks xs ys else none
    | _,_=>none
def xY:List Nat→List Nat→Bool
  | _,[]=>false
  | [],_::_=>true
  | a::x,b::y=>Nat.blt a b||(Nat.beq a b&&xY x y)
def xQ:Nat:=nat_lit 35184372088832
def xG (op:BinOp) (e:EqK) (x y:AV):Option AV :=
  match op,x,y with
  | .shl,.int k a,.int _ b=>bif ltI b 0 then none else some (.int k (zU k (a*2 ^ (Nat.min b.toNat k.bits))))
  | .shr,.int k a,.int _ b=>bif ltI b 0 then none else some (.int k (a.fdiv (2 ^ (Nat.min b.toNat k.bits))))
  | .eql,x,y=>(zG e x y).map .bool
  | .neq,x,y=>(zG e x y).map fun b=>.bool (!b)
  | .add,.str a,.str b=>bif Nat.blt (a.length+b.length) xQ then some (.str (a++b)) else none
  | .lss,.str a,.str b=>some (.bool (xY a b))
  | .leq,.str a,.str b=>some (.bool (xY a b||eqS a b))
  | .gtr,.str a,.str b=>some (.bool (!(xY a b||eqS a b)))
  | .geq,.str a,.str b=>some (.bool (!xY a b))
  | .lss,.sym a,.sym b=>bif vD a b then some (.bool (ltI (yD a) (yD b))) else (xVx (pR a b) (Nat.beq (pR a b) 1)).map .bool
  | .leq,.sym a,.sym b=>bif vD a b then some (.bool (leI (yD a) (yD b))) else (xVx (pR b a) (!Nat.beq (pR b a) 1)).map .bool
  | .gtr,.sym a,.sym b=>bif vD a b then some (.bool (ltI (yD b) (yD a))) else (xVx (pR b a) (Nat.beq (pR b a) 1)).map .bool
  | .geq,.sym a,.sym b=>bif vD a b then some (.bool (leI (yD b) (yD a))) else (xVx (pR a b) (!Nat.beq (pR a b) 1)).map .bool
  | .lss,.sym a,.int k b=>bif vM a k b then some (.bool false) else (xAw a k (b - 1) false true).map .bool
  | .leq,.sym a,.int k b=>bif vM a k b then some (.bool false) else (xAw a k b false true).map .bool
  | .gtr,.sym a,.int k b=>bif vM a k b then some (.bool true) else (xAw a k b true false).map .bool
  | .geq,.sym a,.int k b=>bif vM a k b then some (.bool true) else (xAw a k b true false).map .bool
  | .lss,.int k a,.sym b=>bif vM b k a then some (.bool true) else (xAw b k a true false).map .bool
  | .leq,.int k a,.sym b=>bif vM b k a then some (.bool true) else (xAw b k a true false).map .bool
  | .gtr,.int k a,.sym b=>bif vM b k a then some (.bool false) else (xAw b k a false true).map .bool
  | .geq,.int k a,.sym b=>bif vM b k a then some (.bool false) else (xAw b k a false true).map .bool
  | .sub,.sym a,.sym b=>bif vD a b then some (.int .i64 (yD a - yD b)) else none
  | .add,.sym a,.int k b=>bif wQ a&&(eqK k .i64&&xOt (yD a+b)) then some (.sym (gZ (xBt a) (yD a+b))) else none
  | .sub,.sym a,.int k b=>bif wQ a&&(eqK k .i64&&xOt (yD a - b)) then some (.sym (gZ (xBt a) (yD a - b))) else none
  | .add,.int k a,.sym b=>bif wQ b&&(eqK k .i64&&xOt (yD b+a)) then some (.sym (gZ (xBt b) (yD b+a))) else none
  | op,.int k a,.int k' b =>
    bif eqK k k' then
      match op with
      | .add=>some (.int k (zU k (a+b)))
      | .sub=>some (.int k (zU k (a - b)))
      | .mul=>some (.int k (zU k (a*b)))
      | .quo=>bif eqI b 0 then none else some (.int k (zU k (a.tdiv b)))
      | .rem=>bif eqI b 0 then none else some (.int k (a.tmod b))
      | .lss=>some (.bool (ltI a b))
      | .leq=>some (.bool (leI a b))
      | .gtr=>some (.bool (ltI b a))
      | .geq=>some (.bool (leI b a))
      | .and=>some (.int k (zU k ((BitVec.ofInt k.bits a &&& BitVec.ofInt k.bits b).toNat)))
      | .or=>some (.int k (zU k ((BitVec.ofInt k.bits a ||| BitVec.ofInt k.bits b).toNat)))
      | .xor=>some (.int k (zU k ((BitVec.ofInt k.bits a ^^^ BitVec.ofInt k.bits b).toNat)))
      | .andNot=>some (.int k (zU k ((BitVec.ofInt k.bits a &&& ~~~(BitVec.ofInt k.bits b)).toNat)))
      | _=>none
    else none
  | _,_,_=>none
def takeD (cs:List AV) (off n:Nat):Option (List AV) :=
  let l:=(cs.drop off).take n
  bif Nat.beq l.length n then some l else none
def setAt:List AV→Nat→List AV→Option (List AV)
  | cs,_,[]=>some cs
  | [],_,_::_=>none
  | _c::cs,0,v::vs=>(setAt cs 0 vs).map (v :: ·)
  | c::cs,n+1,vs=>(setAt cs n vs).map (c :: ·)
def jO:List AV→List (Nat×Nat)→List AV→Option (List AV)
  | cs,[],[]=>some cs
  | cs,(off,sz)::ps,v::vs =>
    bif Nat.beq v.cells.length sz&&Nat.ble (off+sz) cs.length then
      match setAt cs off v.cells with
      | some cs=>jO cs ps vs
      | none=>none
    else none
  | _,_,_=>none
def mM (sz:Nat):List AV→List Nat→List AV→Option (List AV)
  | cs,[],[]=>some cs
  | cs,i::ps,v::vs =>
    bif Nat.beq v.cells.length sz&&Nat.ble (i*sz+sz) cs.length then
      match setAt cs (i*sz) v.cells with
      | some cs=>mM sz cs ps vs
      | none=>none
    else none
  | _,_,_=>none
def wR (cs:List AV) (off:Nat):Option Nat→Option AV
  | some n=>(takeD cs off n).map .agg
  | none=>match takeD cs off 1 with
    | some [v]=>some v
    | _=>none
def vJ (h:H) (n:Option Nat):AV→Option AV
  | .ptr id off=>match h.cellsAt id with
    | some cs=>wR cs off n
    | none=>none
  | .rptr cs=>wR cs 0 n
  | _=>none
def wW (h:H) (n:Nat) (a v:AV):Option H :=
  match a with
  | .ptr id off=>match h.t.get id with
    | some (.cells cs sp) =>
      bif Nat.beq v.cells.length n&&mF v.cells then
        match setAt cs off v.cells with
        | some cs=>some { h with t:=h.t.put id (.cells cs sp) }
        | none=>none
      else none
    | _=>none
  | _=>none
def pE (n:Int) (hi:Nat):Option Nat :=
  bif leI 0 n&&leI n (.ofNat hi) then some n.toNat else none
def kT (len:Nat) (cap:Option Nat) (lo hi mx:Bool) (args:List AV):Option (Nat×Nat×Option Nat) :=
  match lo,hi,mx,args with
  | false,false,false,[]=>some (0,len,none)
  | true,false,false,[.int _ a]=>match pE a len with | some l=>some (l,len,none) | none=>none
  | false,true,false,[.int _ b]=>match pE b (cap.getD len) with | some h=>some (0,h,none) | none=>none
  | true,true,false,[.int _ a,.int _ b]=>match pE b (cap.getD len) with
    | some h=>match pE a h with | some l=>some (l,h,none) | none=>none
    | none=>none
  | false,true,true,[.int _ b,.int _ c]=>match pE c (cap.getD len) with
    | some m=>match pE b m with | some h=>some (0,h,some m) | none=>none
    | none=>none
  | true,true,true,[.int _ a,.int _ b,.int _ c]=>match pE c (cap.getD len) with
    | some m=>match pE b m with
      | some h=>match pE a h with | some l=>some (l,h,some m) | none=>none
      | none=>none
    | none=>none
  | _,_,_,_=>none
def dI (k:SlcK) (lo hi mx:Bool) (args:List AV):Option AV :=
  match k,args with
  | .str,.str s::r=>match kT s.length none lo hi false r with
    | some (l,h,_)=>some (.str ((s.drop l).take (h - l)))
    | none=>none
  | .slc _,.nils::r=>match kT 0 (some 0) lo hi mx r with
    | some _=>some .nils
    | none=>none
  | .slc sz,.slc id off len sz' cap::r =>
    bif Nat.beq sz sz' then
    match kT len cap lo hi mx r with
    | some (l,h,m) =>
      match m,cap with
      | none,none=>bif Nat.beq l 0 then some (.slc id off h sz none) else bif Nat.blt l len then some (.slc id (off+l*sz) (h - l) sz none) else some (.rslc 0 [])
      | none,some c=>some (.slc id (bif Nat.beq c l then off else off+l*sz) (h - l) sz (some (c - l)))
      | some m,_=>some (.slc id (bif Nat.beq m l then off else off+l*sz) (h - l) sz (some (m - l)))
    | none=>none
    else none
  | .slc sz,.rslc len cs::r =>
    match kT len none lo hi mx r with
    | some (l,h,none)=>some (.rslc (h - l) ((cs.drop (l*sz)).take ((h - l)*sz)))
    | some (l,h,some m)=>bif Nat.beq m l then some .eslc else some (.rslc (h - l) ((cs.drop (l*sz)).take ((h - l)*sz)))
    | none=>none
  | .slc _,.eslc::r=>match kT 0 (some 0) lo hi mx r with
    | some _=>some .eslc
    | none=>none
  | .arr n sz,.ptr id off::r=>match kT n (some n) lo hi mx r with
    | some (l,h,m) =>
      let m:=m.getD n
      some (.slc id (bif Nat.beq m l then off else off+l*sz) (h - l) sz (some (m - l)))
    | none=>none
  | _,_=>none
def zF (k:IxK) (x i:AV):Option AV :=
  match k,x,i with
  | .slc sz,.slc id off len sz' _,.int _ n =>
    bif Nat.beq sz sz'&&leI 0 n&&ltI n (.ofNat len) then some (.ptr id (off+n.toNat*sz)) else none
  | .slc sz,.rslc len cs,.int _ n =>
    bif leI 0 n&&ltI n (.ofNat len) then (match cs with | []=>none | c::cs=>some (.rptr ((c::cs).drop (n.toNat*sz)))) else none
  | .arr len sz,.ptr id off,.int _ n =>
    bif leI 0 n&&ltI n (.ofNat len) then some (.ptr id (off+n.toNat*sz)) else none
  | .arr len sz,.rptr cs,.int _ n =>
    bif leI 0 n&&ltI n (.ofNat len) then some (.rptr (cs.drop (n.toNat*sz))) else none
  | _,_,_=>none
def mN (kn:KeyK) (k:AV):Option (List AV) :=
  match k with
  | .agg xs=>bif kn.agg&&Nat.beq xs.length kn.ks.length then some xs else none
  | k=>bif kn.agg then none else some [k]
def pB (kn:KeyK) (a b:AV):Option Bool :=
  match mN kn a,mN kn b with
  | some xs,some ys=>wB kn.ks xs ys
  | _,_=>none
def xBg (kn:KeyK) (k:AV):Bool :=
  match pB kn k k with
  | some _=>true
  | none=>false
def bM (kn:KeyK) (k:AV):List (AV×AV)→Option (Option AV)
  | []=>some none
  | (k',v)::es=>match pB kn k k' with
    | some true=>some (some v)
    | some false=>bM kn k es
    | none=>none
def xOm (kn:KeyK) (k v:AV):List (AV×AV)→List (AV×AV)
  | []=>[(k,v)]
  | (k',v')::es=>match pB kn k k' with
    | some true=>(k,v)::es
    | _=>(k',v')::xOm kn k v es
def xKz (h:H) (kn:KeyK) (zero:AV) (ok:Bool) (m k:AV):Option AV :=
  bif xBg kn k then
  let done (r:Option AV):AV:=match r with
    | some v=>bif ok then .tup [v,.bool true] else v
    | none=>bif ok then .tup [zero,.bool false] else zero
  match m with
  | .nilm=>match bM kn k [] with | some r=>some (done r) | none=>none
  | .mapv id=>match h.t.get id with
    | some (.amap es)=>match bM kn k es with | some r=>some (done r) | none=>none
    | _=>none
  | .rmap ks vs=>match bM kn k (ks.zip vs) with | some r=>some (done r) | none=>none
  | _=>none
  else none
def rY (h:H) (kn:KeyK) (m k v:AV):Option H :=
  bif xBg kn k then
  match m with
  | .mapv id=>match h.t.get id with
    | some (.amap es)=>match bM kn k es with
      | some _=>some { h with t:=h.t.put id (.amap (xOm kn k v es)) }
      | none=>none
    | _=>none
  | _=>none
  else none
def bN (h:H) (sz n:Nat):AV→Option (List AV)
  | .nils | .eslc=>bif Nat.beq n 0 then some [] else none
  | .slc id off len sz' _=>bif Nat.beq sz sz'&&Nat.ble n len then (match h.cellsAt id with | some cs=>takeD cs off (n*sz) | none=>none) else none
  | .rslc len cs=>bif Nat.ble n len then takeD cs 0 (n*sz) else none
  | .str s=>bif Nat.beq sz 1&&Nat.ble n s.length then some ((s.take n).map fun (b:Nat)=>AV.int .u8 (b:Int)) else none
  | _=>none
def xD9:AV→Option Nat
  | .nils | .eslc=>some 0
  | .slc _ _ len _ _=>some len
  | .rslc len _=>some len
  | .str s=>some s.length
  | _=>none
def jD (h:H) (sz bytes:Nat) (s x:AV):Option (AV×H) :=
  match xD9 x with
  | none=>none
  | some n =>
  match bN h sz n x with
  | none=>none
  | some new =>
  match s with
  | .nils =>
    bif Nat.beq n 0 then some (.nils,h) else
    bif Nat.ble xQ (n*bytes)||Nat.ble xQ n then none else
    some (.slc h.next 0 n sz none,h.newB (.cells new true))
  | .eslc =>
    bif Nat.beq n 0 then some (.eslc,h) else
    bif Nat.ble xQ (n*bytes)||Nat.ble xQ n then none else
    some (.slc h.next 0 n sz none,h.newB (.cells new true))
  | .rslc l cs =>
    bif Nat.beq n 0 then some (.rslc l cs,h) else none
  | .slc id off len sz' cap =>
    bif Nat.beq sz sz' then
    bif Nat.beq n 0 then some (s,h) else
    bif Nat.ble xQ ((len+n)*bytes)||Nat.ble xQ (len+n) then none else
    match cap with
    | some c =>
      bif Nat.ble (len+n) c then
        match h.t.get id with
        | some (.cells cs sp)=>match (bif mF new then setAt cs (off+len*sz) new else none) with
          | some cs=>some (.slc id off (len+n) sz (some c),{ h with t:=h.t.put id (.cells cs sp) })
          | none=>none
        | _=>none
      else match h.cellsAt id with
        | some cs=>match takeD cs off (len*sz) with
          | some old=>some (.slc h.next 0 (len+n) sz none,h.newB (.cells (old++new) true))
          | none=>none
        | none=>none
    | none => match h.t.get id with
      | some (.cells cs sp) =>
        bif sp&&mF new&&Nat.beq off 0&&Nat.beq cs.length (len*sz)&&(h.ro.get id).isNone then
          some (.slc h.next 0 (len+n) sz none,{ h with next:=h.next.succ,t:=(h.t.del id).put h.next (.cells (cs++new) true) })
        else none
      | _=>none
    else none
  | _=>none
def xZb (h:H) (sz:Nat) (d s:AV):Option (AV×H) :=
  match xD9 d,xD9 s with
  | some dl,some sl =>
    let n:=Nat.min sl dl
    match bN h sz n s with
    | none=>none
    | some new =>
    match d with
    | .nils | .eslc=>some (.int .i64 0,h)
    | .slc id off _ sz' _ =>
      bif Nat.beq sz sz' then
      match h.t.get id with
      | some (.cells cs sp)=>match (bif mF new then setAt cs off new else none) with
        | some cs=>some (.int .i64 n,{ h with t:=h.t.put id (.cells cs sp) })
        | none=>none
      | _=>none
      else none
    | _=>none
  | _,_=>none
def pD (h:H) (k:LenK) (v:AV):Option AV :=
  match k with
  | .fixed n=>some (.int .i64 n)
  | .str=>match v with
    | .str s=>some (.int .i64 s.length)
    | _=>none
  | .slc=>match v with
    | .nils | .eslc=>some (.int .i64 (.ofNat 0))
    | .slc _ _ len _ _ | .rslc len _=>some (.int .i64 (.ofNat len))
    | _=>none
  | .map=>match v with
    | .nilm=>some (.int .i64 (.ofNat 0))
    | .mapv id=>match h.t.get id with
      | some (.amap es)=>some (.int .i64 es.length)
      | _=>none
    | .rmap ks _=>some (.int .i64 ks.length)
    | _=>none
def xR7 (fixed:Option Nat) (v:AV):Option AV :=
  match fixed with
  | some n=>some (.int .i64 n)
  | none=>match v with
    | .nils | .eslc=>some (.int .i64 0)
    | .slc _ _ _ _ (some c)=>some (.int .i64 c)
    | _=>none
def xJz:AV→AV→Option AV
  | .int k x,.int _ y=>some (.int k (bif ltI y x then y else x))
  | .str x,.str y=>some (.str (bif xY x y||eqS x y then x else y))
  | .sym x,.sym y=>bif vD x y then some (bif ltI (yD y) (yD x) then .sym y else .sym x) else bif wQ x&&wQ y then some (.sym xLk) else none
  | _,_=>none
def zAb:AV→AV→Option AV
  | .int k x,.int _ y=>some (.int k (bif ltI x y then y else x))
  | .str x,.str y=>some (.str (bif xY x y then y else x))
  | .sym x,.sym y=>bif vD x y then some (bif ltI (yD x) (yD y) then .sym y else .sym x) else bif wQ x&&wQ y then some (.sym xLk) else none
  | _,_=>none
def xE1 (f:AV→AV→Option AV):AV→List AV→Option AV
  | x,[]=>some x
  | x,y::ys=>match f x y with | some z=>xE1 f z ys | none=>none
def vH (h:H) (c:ConvK) (x:AV):Option (AV×H) :=
  match c,x with
  | .int k,.int _ n=>some (.int k (zU k n),h)
  | .same,.str s=>some (.str s,h)
  | .ofBytes,.nils=>some (.str [],h)
  | .ofBytes,.slc id off len sz _ =>
    bif Nat.beq sz 1 then
    match h.cellsAt id with
    | some cs=>match takeD cs off len with
      | some l=>match go l with
        | some s=>some (.str s,h)
        | none=>none
      | none=>none
    | none=>none
    else none
  | .ofBytes,.rslc len cs=>match takeD cs 0 len with
    | some l=>match go l with
      | some s=>some (.str s,h)
      | none=>none
    | none=>none
  | _,_=>none
  where
  go : List AV→Option (List Nat)
    | []=>some []
    | .int .u8 n::l=>bif leI 0 n&&ltI n 256 then (go l).map (n.toNat :: ·) else none
    | _=>none
def xM (h:H) (op:AOp) (args:List AV):Option AV :=
  match op,args with
  | .mov,[x]=>some x
  | .pick,[.bool c,a,b]=>some (bif c then a else b)
  | .build z parts,vs=>(jO z parts vs).map .agg
  | .load n,[a]=>vJ h n a
  | .nilCheck,[x]=>match x with
    | .ptr _ _ | .rptr _ | .fn _ _ _ | .yield _ | .iface _ _=>some x
    | _=>none
  | .bin op e,[x,y]=>xG op e x y
  | .un .neg,[.int k n]=>some (.int k (zU k (0 - n)))
  | .un .not,[.bool b]=>some (.bool (!b))
  | .un .xor,[.int k n]=>some (.int k (zU k ((BitVec.ofInt k.bits (if k.signed then -1 else k.max) ^^^ BitVec.ofInt k.bits n).toNat)))
  | .conv c,[x]=>(vH h c x).map (·.1)
  | .mkIface t,[x]=>some (.iface t x)
  | .mkFn f n,vs=>some (.fn f (vs.take n) (vs.drop n))
  | .slice k lo hi mx,vs=>dI k lo hi mx vs
  | .fieldAddr off,[a]=>match a with
    | .ptr id o=>some (.ptr id (o+off))
    | .rptr cs=>bif Nat.ble off cs.length then some (.rptr (cs.drop off)) else none
    | _=>none
  | .field off n,[.agg cs]=>wR cs off n
  | .indexAddr k,[x,i]=>zF k x i
  | .indexArr len sz n,[.agg cs,.int _ i]=>bif leI 0 i&&ltI i (.ofNat len) then wR cs (i.toNat*sz) n else none
  | .indexStr,[.str s,.int _ i]=>bif leI 0 i then (match s[i.toNat]? with | some b=>some (.int .u8 b) | none=>none) else none
  | .lookup kn zero ok,[m,k]=>xKz h kn zero ok m k
  | .assertTo t zero ok,[x]=>match x with
    | .nili=>bif ok then some (.tup [zero,.bool false]) else none
    | .iface u v=>bif Nat.beq u t then some (bif ok then .tup [v,.bool true] else v) else bif ok then some (.tup [zero,.bool false]) else none
    | _=>none
  | .extract i,[.tup vs]=>vs[i]?
  | .len f,[v]=>pD h f v
  | .cap f,[v]=>xR7 f v
  | .min,x::xs=>xE1 xJz x xs
  | .max,x::xs=>xE1 zAb x xs
  | _,_=>none
def jX (op:AOp) (args:List AV) (id:Pth):Option (AV×AB) :=
  match op,args with
  | .alloc z,[]=>some (.ptr id 0,.cells z false)
  | .box,[x]=>some (.ptr id 0,.cells x.cells false)
  | .buildSl n sz z parts,vs=>match mM sz z parts vs with
    | some cs=>some (.slc id 0 n sz (some n),.cells cs false)
    | none=>none
  | .mkMap,_=>some (.mapv id,.amap [])
  | .mkSlice z bytes,[.int _ l,.int _ c] =>
    bif leI 0 l&&leI l c&&ltI c (.ofNat xQ)&&ltI (.ofNat bytes*c) (.ofNat xQ) then
      some (.slc id 0 l.toNat z.length (some c.toNat),.cells ((List.replicate c.toNat z).flatten) false)
    else none
  | .rangeStr,[.str s]=>some (.ptr id 0,.siter s 0)
  | .toBytes,[.str s] =>
    bif Nat.ble xQ s.length then none else
    some (.slc id 0 s.length 1 none,.cells (s.map fun (b:Nat)=>AV.int .u8 (b:Int)) true)
  | _,_=>none
def xO:AOp→Bool
  | .alloc _ | .box | .buildSl .. | .mkMap | .mkSlice .. | .rangeStr | .toBytes=>true
  | _=>false
def zYy:AOp→Bool
  | .store _ | .mapUpd _ | .next _ | .defer | .panic | .recover | .append .. | .copy _ | .call | .invoke _ | .rangeMap | .entry=>true
  | _=>false
mutual
def AV.beq:AV→AV→Bool
  | .bool a,.bool b=>a==b
  | .int j a,.int k b=>eqK j k&&eqI a b
  | .str a,.str b=>eqS a b
  | .nilp,.nilp=>true
  | .ptr a b,.ptr c d=>Pth.beq a c&&Nat.beq b d
  | .rptr xs,.rptr ys=>AV.beqs xs ys
  | .nils,.nils=>true
  | .slc a b c d e,.slc a' b' c' d' e'=>Pth.beq a a'&&Nat.beq b b'&&Nat.beq c c'&&Nat.beq d d'&&(match e,e' with | none,none=>true | some x,some y=>Nat.beq x y | _,_=>false)
  | .rslc a xs,.rslc b ys=>Nat.beq a b&&AV.beqs xs ys
  | .eslc,.eslc=>true
  | .nilm,.nilm=>true
  | .mapv a,.mapv b=>Pth.beq a b
  | .rmap a b,.rmap c d=>AV.beqs a c&&AV.beqs b d
  | .nilf,.nilf=>true
  | .fn f xs ys,.fn g zs ws=>Pth.beq f g&&AV.beqs xs zs&&AV.beqs ys ws
  | .yield a,.yield b=>Pth.beq a b
  | .nili,.nili=>true
  | .iface t v,.iface u w=>Nat.beq t u&&AV.beq v w
  | .agg xs,.agg ys=>AV.beqs xs ys
  | .tup xs,.tup ys=>AV.beqs xs ys
  | .sym a,.sym b=>Nat.beq a b
  | _,_=>false
def AV.beqs:List AV→List AV→Bool
  | [],[]=>true
  | x::xs,y::ys=>AV.beq x y&&AV.beqs xs ys
  | _,_=>false
end
def xWm:List (AV×AV)→Option (AV×AV)
  | []=>none
  | (k,v)::es=>match es with
    | []=>some (k,v)
    | e::es=>bif k.one&&(e::es).all (fun p=>p.1.one&&AV.beq v p.2) then some (.sym topI,v) else none
def xNf (h:H) (id:Pth) (m:Option Pth) (n k:Nat):ORes :=
  match m with
  | none=>.val (.tup [.bool false]) h
  | some m => match h.t.get m with
    | some (.amap es) =>
      bif Nat.beq es.length n then
        bif Nat.blt k n then
          match xWm es with
          | some (a,v)=>.val (.tup [.bool true,a,v]) { h with t:=h.t.put id (.miter (some m) n (k+1)) }
          | none=>.bad
        else .val (.tup [.bool false]) h
      else .bad
    | _=>.bad
def xHp (h:H) (m:Option Pth) (n k:Nat):ORes :=
  match m with
  | none=>.bad
  | some m=>match h.t.get m with
    | some (.amap es) =>
      bif Nat.beq es.length n&&Nat.blt 0 k then
        match xWm es with
        | some (a,v)=>.val (.tup [a,v]) h
        | none=>.bad
      else .bad
    | _=>.bad
def xNv (h:H):AV→ORes
  | .nilm=>.val (.ptr h.next 0) (h.newB (.miter none 0 0))
  | .mapv id=>match h.t.get id with
    | some (.amap es)=>.val (.ptr h.next 0) (h.newB (.miter (some id) es.length 0))
    | _=>.bad
  | _=>.bad
def zS (h:H) (op:AOp) (args:List AV):ORes :=
  match op,args with
  | .store n,[a,v]=>match wW h n a v with | some h=>.val (.tup []) h | none=>.bad
  | .mapUpd kn,[m,k,v]=>match rY h kn m k v with | some h=>.val (.tup []) h | none=>.bad
  | .append sz bytes false,[s,x]=>match jD h sz bytes s x with | some (v,h)=>.val v h | none=>.bad
  | .copy sz,[d,s]=>match xZb h sz d s with | some (v,h)=>.val v h | none=>.bad
  | .next isString,[.ptr id 0]=>match h.t.get id,isString with
    | some (.siter s pos),true=>match s[pos]? with
      | none=>.val (.tup [.bool false]) h
      | some b=>bif Nat.blt b 128 then .val (.tup [.bool true,.int .i64 pos,.int .i32 b]) { h with t:=h.t.put id (.siter s (pos+1)) } else .bad
    | some (.miter m n k),false=>xNf h id m n k
    | _,_=>.bad
  | .rangeMap,[m]=>xNv h m
  | .entry,[.ptr id 0]=>match h.t.get id with
    | some (.miter m n k)=>xHp h m n k
    | _=>.bad
  | .call,f::as1=>.call f as1
  | .invoke tbl,.iface t v::as1=>match tbl.lookup t with | some f=>.call (.fn f [] []) (v::as1) | none=>.bad
  | .defer,.fn i x y::as1=>.defer (.fn i x y) as1
  | .recover,[]=>.recover
  | .panic,[v]=>match v with
    | .iface _ _=>.panic v h
    | _=>.bad
  | op,args =>
    bif xO op then
      match jX op args h.next with
      | some (v,b)=>.val v (h.newB b)
      | none=>.bad
    else match xM h op args with
      | some v=>.val v h
      | none=>.bad
inductive Rc where
  | no
  | pan (v:AV)
  | recovered
  deriving Inhabited
inductive ADef where
  | coll (id:Pth)
  | call (f:AV) (args:List AV)
  deriving Inhabited
structure St where
  fr:Tr AV
  df:List ADef
  h:H
  rc:Rc
  rd:Option Pth
  fnid:Pth
  deriving Inhabited
inductive Out where
  | nrm (s:St)
  | exit (id:Nat) (s:St)
  | ret (s:St)
  | panic (v:AV) (s:St)
  | bad (why:Nat)
  deriving Inhabited
def glA (X:Ctx) (g:Pth):Option (List AV) :=
  match opT.get g with
  | some cs=>some cs
  | none=>X.globs.get g
def xZ (X:Ctx) (fr:Tr AV):Opd→Option AV
  | .tmp t=>fr.get t
  | .const v=>some v
  | .glob g=>(glA X g).map .rptr
def xE (X:Ctx) (fr:Tr AV):List Opd→Option (List AV)
  | []=>some []
  | o :: os=>match xZ X fr o with
    | some v=>match xE X fr os with
      | some vs=>some (v::vs)
      | none=>none
    | none=>none
def St.put (s:St) (d:Option Pth) (v:AV):St :=
  match d with
  | some d=>{ s with fr:=s.fr.put d v }
  | none=>s
def xI (fr:Tr AV):Option (Pth×Bool)→Option Bool
  | none=>some true
  | some (t,want)=>match fr.get t with
    | some (.bool b)=>some (b==want)
    | some (.tup [])=>some false
    | _=>none
abbrev jA:=AV→List AV→H→CRes
def yT (call:jA) (s:St) (o:AOper) (vs:List AV):Out :=
  match zS s.h o.op vs with
  | .val v h=>.nrm ({ s with h:=h }.put o.dst v)
  | .call f as1=>match call f as1 s.h with
    | .ret v h=>.nrm ({ s with h:=h }.put o.dst v)
    | .panic v h=>.panic v { s with h:=h }
    | .bad n=>.bad n
  | .defer f as1=>match s.rd with
    | none=>.nrm ({ s with df:=.call f as1::s.df }.put o.dst (.tup []))
    | some _=>.bad 3
  | .recover=>match s.rd with
    | some _=>.bad 6
    | none=>match s.rc with
      | .pan v=>.nrm ({ s with rc:=.recovered }.put o.dst v)
      | _=>.nrm (s.put o.dst .nili)
  | .panic v h=>.panic v { s with h:=h }
  | .bad=>.bad 4
def wK (X:Ctx) (call:jA):List AOper→St→Out
  | [],s=>.nrm s
  | o :: os,s =>
    match xI s.fr o.guard with
    | none=>.bad 1
    | some false=>wK X call os (s.put o.dst (.tup []))
    | some true =>
      match xE X s.fr o.args with
      | none=>.bad 2
      | some vs=>match yT call s o vs with
        | .nrm s=>wK X call os s
        | r=>r
def jQ (f:St→Out):Nat→St→Out
  | 0,_=>.bad 5
  | n+1,s=>match f s with
    | .nrm s=>jQ f n s
    | r=>r
structure Pend where
  at_:Nat
  id:Pth
  b:AB
  deriving Inhabited
def yNx:List Pend→Tr AB→Tr AB
  | [],t=>t
  | p::ps,t=>yNx ps (t.put p.id p.b)
def zT (makers:List Nat) (ps:List Pend):List Pend:=ps.filter fun p=>makers.contains p.at_
def gF (makers:List Nat) (ps:List Pend):List Pend:=ps.filter fun p => !(makers.contains p.at_)
def H.withP (h:H) (ps:List Pend):H:={ h with t:=yNx ps h.t }
def xS:AOp→Bool
  | .load _ | .lookup .. | .len .map | .conv .ofBytes=>true
  | _=>false
def quiet:AOp→Bool
  | .defer | .recover=>false
  | _=>true
structure Log where
  op:AOp
  args:List AV
  res:AV
  lo:Nat
  hi:Nat
  extra:List Pend
  deriving Inhabited
structure DSt where
  s:St
  hs:List (Nat×H)
  pend:List Pend
  log:List Log
  deriving Inhabited
inductive DOut where
  | done (d:DSt)
  | out (o:Out)
  deriving Inhabited
def qE (l:Log):List (Nat×H)→Bool
  | []=>true
  | (i,h)::hs =>
    (bif Nat.ble l.lo i&&Nat.ble i l.hi then
      (match xM (h.withP l.extra) l.op l.args with | some v=>AV.beq v l.res | none=>false)
    else true)&&qE l hs
def kD (X : Ctx) (call:jA) (o:DOper) (i:Nat) (id:Pth) (d:DSt):DOut :=
  match xI d.s.fr o.o.guard with
  | none=>.out (.bad 11)
  | some false =>
    bif o.chain then .done { d with s:=d.s.put o.o.dst (.tup []),hs:=(i,d.s.h)::d.hs }
    else .done { d with s:=d.s.put o.o.dst (.tup []) }
  | some true =>
    match xE X d.s.fr o.o.args with
    | none=>.out (.bad 12)
    | some vs =>
      bif o.chain then
        match yT call { d.s with h:=d.s.h.withP (zT o.makers d.pend) } o.o vs with
        | .nrm s=>bif o.last||quiet o.o.op then .done { s:=s,hs:=(i,d.s.h)::d.hs,pend:=gF o.makers d.pend,log:=d.log } else .out (.bad 18)
        | .panic v s=>bif o.last&&d.log.all (fun l=>qE l ((i,d.s.h)::d.hs)) then .out (.panic v s) else .out (.bad 13)
        | .bad n=>.out (.bad n)
        | _=>.out (.bad 14)
      else bif xO o.o.op then
        match jX o.o.op vs id with
        | some (v,b)=>.done { d with s:=d.s.put o.o.dst v,pend:=⟨i,id,b⟩::d.pend }
        | none=>.out (.bad 17)
      else
        match xM (d.s.h.withP (zT o.makers d.pend)) o.o.op vs with
        | some v =>
          bif xS o.o.op&&o.wide then
            .done { d with s:=d.s.put o.o.dst v,log:=⟨o.o.op,vs,v,o.lo,o.hi,zT o.makers d.pend⟩::d.log }
          else .done { d with s:=d.s.put o.o.dst v }
        | none=>.out (.bad 19)
def jB (X:Ctx) (call:jA):List DOper→(i:Nat)→(id:Pth)→DSt→DOut
  | [],_,_,d=>.done d
  | o::ds,i,id,d =>
    match kD X call o i id d with
    | .done d=>jB X call ds (i+1) id.succ d
    | r=>r
def yJ:Nat→Pth→Pth
  | 0,p=>p
  | n+1,p=>yJ n p.succ
def mK (X:Ctx) (call:jA) (ops:List DOper) (s:St):Out :=
  match jB X call ops 0 s.h.next { s:={ s with h:={ s.h with next:=yJ ops.length s.h.next } },hs:=[],pend:=[],log:=[] } with
  | .out r=>r
  | .done d =>
    bif d.log.all (fun l=>qE l ((ops.length,d.s.h)::d.hs)) then .nrm { d.s with h:=d.s.h.withP d.pend } else .bad 21
def H.setB (h:H) (id:Pth) (b:AB):H:={ h with t:=h.t.put id b }
def xF (X : Ctx) (call:jA):ACode→St→Out
  | .skip,s=>.nrm s
  | .reg ops,s=>wK X call ops s
  | .dreg ops,s=>mK X call ops s
  | .seq a b,s=>match xF X call a s with
    | .nrm s=>xF X call b s
    | r=>r
  | .cond c a b,s=>match xZ X s.fr c with
    | some (.bool true)=>xF X call a s
    | some (.bool false)=>xF X call b s
    | _=>.bad 30
  | .block id a,s=>match xF X call a s with
    | .exit j s=>bif Nat.beq id j then .nrm s else .exit j s
    | r=>r
  | .loop a,s=>jQ (xF X call a) X.fuel s
  | .exit id,s=>.exit id s
  | .ret,s=>.ret s
  | .rangeFunc f params assign body,s =>
    match xZ X s.fr f with
    | none=>.bad 31
    | some fv =>
      let made:Option (H×Pth×List ADef):=match s.rd with
        | none=>some (s.h.newB (.dfr false),s.h.next,[.coll s.h.next])
        | some l=>match s.h.t.get l with
          | some (.loop _ _ _ _ _ _ _ d)=>some (s.h,d,[])
          | _=>none
      match made with
      | none=>.bad 32
      | some (h,d,mark) =>
        let id:=h.next
        let h:=h.newB (.loop .ready none s.fnid s.fr params assign body d)
        match call fv [.yield id] h with
        | .ret _ h=>match h.t.get id with
          | some (.loop .busy _ _ _ _ _ _ _)=>.bad 33
          | some (.loop _ j f fr ps as1 bd d) =>
            let h:=h.setB id (.loop .exhausted j f fr ps as1 bd d)
            let s:={ s with h:=h,df:=mark++s.df }
            match j with
            | none=>.nrm s
            | some .ret=>.ret s
            | some (.exit i)=>.exit i s
          | _=>.bad 34
        | .panic v h=>.panic v { s with h:=h,df:=mark++s.df }
        | .bad n=>.bad n
  | .bad,_=>.bad 35
def yI:Pth→List AV→Tr AV→Tr AV
  | _,[],t=>t
  | i,v::vs,t=>yI i.succ vs (t.put i v)
def zB (h:H) (fr:Tr AV):List ARes→Option (List AV)
  | []=>some []
  | .tmp t::rs=>match fr.get t with
    | some v=>match zB h fr rs with | some vs=>some (v::vs) | none=>none
    | none=>none
  | .cell a n::rs=>match fr.get a with
    | some p=>match vJ h n p with
      | some v=>match zB h fr rs with | some vs=>some (v::vs) | none=>none
      | none=>none
    | none=>none
def zQ (h:H) (fr:Tr AV) (rs:List ARes):Option AV :=
  match zB h fr rs with
  | some [v]=>some v
  | some vs=>some (.tup vs)
  | none=>none
inductive Md where
  | ret
  | pan (v:AV)
  deriving Inhabited
inductive DRes where
  | ok (recovered:Bool) (h:H)
  | panic (v:AV) (h:H)
  | bad (why:Nat)
  deriving Inhabited
def qS (callD:AV→List AV→Md→H→DRes):List ADef→Md→H→Option (Md×H)
  | [],m,h=>some (m,h)
  | .coll id::ds,m,h=>match h.t.get id with
    | some (.dfr false)=>qS callD ds m (h.setB id (.dfr true))
    | _=>none
  | .call f as1::ds,m,h=>match callD f as1 m h with
    | .ok r h=>qS callD ds (match m with | .pan v=>bif r then .ret else .pan v | .ret=>.ret) h
    | .panic v h=>qS callD ds (.pan v) h
    | .bad _=>none
def yO (callD:AV→List AV→Md→H→DRes) (F:AFunc) (o:Out):CRes :=
  let done (m:Md) (s:St):CRes :=
    match qS callD s.df m s.h with
    | none=>.bad 40
    | some (.ret,h)=>match zQ h s.fr F.results with
      | some v=>.ret v h
      | none=>.bad 41
    | some (.pan v,h)=>.panic v h
  match o with
  | .nrm s | .ret s=>done .ret s
  | .panic v s=>done (.pan v) s
  | .exit _ _=>.bad 42
  | .bad n=>.bad n
def kB:List Pth→List AV→Tr AV→Tr AV
  | p::ps,v::vs,t=>kB ps vs (t.put p v)
  | _,_,t=>t
mutual
def xC (X : Ctx):Nat→jA
  | 0,_,_,_=>.bad 50
  | n + 1, f, as1,h =>
    match f with
    | .fn i first caught =>
      let args:=first++as1++caught
      match X.sums i args h with
      | some v=>.ret v h
      | none =>
        match X.funcs.get i with
        | some F=>yO (xA6 X n) F (xF X (xC X n) F.body { fr:=yI .e args .lf,df:=[],h:=h,rc:=.no,rd:=none,fnid:=i })
        | none=>match X.exts i args h with
          | some (v,h')=>.ret v h'
          | none=>.bad (1000+i.num)
    | .yield id =>
      match h.t.get id with
      | some (.loop _ _ fn fr ps assign body _d) =>
        bif Nat.beq ps.length as1.length then
          match xF X (xC X n) assign { fr:=kB ps as1 fr,df:=[],h:=h,rc:=.no,rd:=some id,fnid:=fn } with
          | .nrm s =>
            match s.h.t.get id with
            | some (.loop .ready j fn fr0 ps0 as0 bd0 d0) =>
              let s:={ s with h:=s.h.setB id (.loop .busy j fn fr0 ps0 as0 bd0 d0) }
              let fin (st:LState) (j:Option Jump) (s:St):CRes :=
                match s.df,s.h.t.get id with
                | [],some (.loop _ _ fn fr0 ps0 as0 bd0 d0)=>.ret (.bool (match j with | none=>true | some _=>false)) (s.h.setB id (.loop st j fn fr0 ps0 as0 bd0 d0))
                | _,_=>.bad 54
              match xF X (xC X n) body s with
              | .nrm s=>fin .ready none s
              | .ret s=>fin .done (some .ret) s
              | .exit i s=>fin .done (some (.exit i)) s
              | .panic v s=>match s.df with | []=>.panic v s.h | _=>.bad 55
              | .bad n=>.bad n
            | _=>.bad 52
          | .bad n=>.bad n
          | _=>.bad 53
        else .bad 51
      | _=>.bad 56
    | _=>.bad 57
def xA6 (X:Ctx):Nat→AV→List AV→Md→H→DRes
  | 0,_,_,_,_=>.bad 60
  | n + 1, f,as1,m,h =>
    match f with
    | .fn i first caught =>
      match X.funcs.get i with
      | some F =>
        match xF X (xC X n) F.body { fr:=yI .e (first++as1++caught) .lf,df:=[],h:=h,rc:=(match m with | .ret=>.no | .pan v=>.pan v),rd:=none,fnid:=i } with
        | .nrm s | .ret s=>match s.df,zQ s.h s.fr F.results with
          | [],some _=>.ok (match s.rc with | .recovered=>true | _=>false) s.h
          | _,_=>.bad 61
        | .panic v s=>match s.df with | []=>.panic v s.h | _=>.bad 62
        | .exit _ _=>.bad 63
        | .bad n=>.bad n
      | none=>.bad 64
    | _=>.bad 65
end
end Go.Abs
end
section
namespace Go.Abs
def zRs:Nat→Nat→Pth
  | 0,_=>.e
  | n+1,k=>if k=0 then .e else if k % 2=1 then .l (zRs n (k / 2)) else .r (zRs n (k / 2 - 1))
def pth (k:Nat):Pth:=zRs (k+1) k
def xG9:Nat→Value→Option AV
  | _,.bool b=>some (.bool b)
  | _,.int k n=>some (.int k n)
  | _,.string s=>some (.str (s.data.toList.map (·.toNat)))
  | _,.pointer none=>some .nilp
  | _,.slice none 0 0=>some .nils
  | _,.map none=>some .nilm
  | _,.nilFunc=>some .nilf
  | _,.nilIface=>some .nili
  | d+1,.agg cs=>(cs.toList.mapM (xG9 d)).map .agg
  | d+1,.tuple cs=>(cs.toList.mapM (xG9 d)).map .tup
  | d+1,.iface t v=>(xG9 d v).map (.iface t)
  | _,.func (.func f) a b=>if a.size==0&&b.size==0 then some (.fn (pth f) [] []) else none
  | _,_=>none
def opd:Operand→Option Opd
  | .tmp t=>some (.tmp (pth t))
  | .const v=>(xG9 4 v).map .const
  | .global g=>some (.glob (pth g))
  | .func f=>some (.const (.fn (pth f) [] []))
section
variable (P:Program)
def mX (t:TypeId):Option (Option Nat) :=
  match P.underlying t with
  | some (.struct _) | some (.array _ _)=>some (some (P.cellsOf t))
  | some _=>some none
  | none=>none
def zeroOf (t:TypeId):Option AV:=do xG9 3 (← (← P.info? t).zero)
def wM (t:TypeId):Option (List AV):=(zeroOf P t).map AV.cells
def mZ:Nat→TypeId→Option (List CK)
  | 0,_=>none
  | d + 1,t =>
    match P.underlying t with
    | some .bool=>some [.b]
    | some (.int _)=>some [.i]
    | some .string=>some [.s]
    | some (.struct fs) =>
      if P.stoodInHeld t then none else
      fs.toList.foldlM (fun l f=>do
        if f.name == "_" || f.offset != l.length then none else
        let m ← mZ d f.type
        if m.length != P.cellsOf f.type then none else pure (l++m)) []
    | _=>none
def isC:Operand→Bool
  | .const _=>true
  | _=>false
def xRr (n:Nat) (e:TypeId):Option (List CK) :=
  match mZ P 10 e with
  | some ks=>if ks.length=P.cellsOf e then some (List.replicate n ks).flatten else none
  | none=>none
def xWw (t:TypeId) (c:Bool):Option EqK :=
  match P.underlying t with
  | some (.struct _)=>if P.eqGuardType P.depth t then none else (mZ P 10 t).map .flat
  | some (.array n e)=>if P.eqGuardType P.depth t then none else (xRr P n e).map .flat
  | some .bool=>some .bool
  | some (.int _) | some .string=>some .one
  | some (.pointer _)=>some .ptr
  | some (.slice _)=>some .slc
  | some (.map _ _)=>some .map
  | some (.func _ _ _)=>some .fn
  | some (.interface _)=>if c then some .ifc else none
  | _=>none
def yDv (op:BinOp) (t:TypeId) (x y:Operand):Option EqK :=
  match op with
  | .eql | .neq=>xWw P t (isC x||isC y)
  | _=>some .one
def xRh (src dst:TypeId):Option ConvK :=
  match P.underlying src,P.underlying dst with
  | some (.int _),some (.int k)=>some (.int k)
  | some .string,some .string=>some .same
  | some (.slice e),some .string=>match P.underlying e with | some (.int .u8)=>some .ofBytes | _=>none
  | _,_=>none
def placeOf (t:TypeId) (i:Nat):Option (Nat×Nat) :=
  match P.underlying t with
  | some (.struct fs)=>do
    let f ← fs[i]?
    let _ ← mX P f.type
    pure (f.offset,P.cellsOf f.type)
  | some (.array _ e)=>do
    let _ ← mX P e
    pure (i*P.cellsOf e,P.cellsOf e)
  | _=>none
def xO8 (t:TypeId):Bool :=
  match P.underlying t with
  | some (.struct fs)=>fs.toList.all fun f=>(P.info? f.type).isSome
  | some (.array _ e)=>(P.info? e).isSome
  | _=>false
def partsOf (t:TypeId) (ps:List (Nat×Operand)):Option (List (Nat×Nat)×List Opd):=do
  if xO8 P t=false then none else
  let a ← ps.mapM fun p=>placeOf P t p.1
  let b ← ps.mapM fun p=>opd p.2
  pure (a,b)
def gS (name:String):List (TypeId×Pth) :=
  (List.range P.types.size).filterMap fun t=>do
    let i ← P.info? t
    let m ← i.methods.find? (·.name==name)
    if !m.path.isEmpty then none else
    let (f,ptr) ← m.func
    if ptr then none else
    match P.underlying t with
    | some (.pointer _)=>none
    | some (.interface _)=>none
    | none=>none
    | some _=>some (t,pth f)
def xP1 (kt:TypeId):Option KeyK:=do
  let ks ← mZ P 10 kt
  match P.underlying kt with
  | some (.struct _) | some (.array _ _)=>pure ⟨ks,true⟩
  | _=>pure ⟨ks,false⟩
def xKf (o:Option Operand):List Operand:=o.toList
def xBe (ts:Array TypeId):Option Bool :=
  match ts[1]? with
  | some t=>match P.underlying t with
    | some (.int _)=>some true
    | some _=>some false
    | none=>none
  | none=>some false
def qO (_type:TypeId):Op→Option (AOp×List Opd)
  | .move x | .assign x=>do pure (.mov,[← opd x])
  | .pick c a b=>do pure (.pick,[← opd c,← opd a,← opd b])
  | .alloc e=>do pure (.alloc (← wM P e),[])
  | .box _ x=>do pure (.box,[← opd x])
  | .build t ps=>do
    let (a,b) ← partsOf P t ps.toList
    pure (.build (← wM P t) a,b)
  | .buildSlice t len ps=>do
    match P.underlying t with
    | some (.slice e) =>
      let z ← wM P e
      let b ← ps.toList.mapM fun p=>opd p.2
      if z.length != P.cellsOf e||z.length==0||len*P.cellsOf e>16777216 then none else
      pure (.buildSl len (P.cellsOf e) (List.replicate len z).flatten (ps.toList.map (·.1)),b)
    | _=>none
  | .load t a=>do pure (.load (← mX P t),[← opd a])
  | .store t a x=>do
    let _ ← mX P t
    pure (.store (P.cellsOf t),[← opd a,← opd x])
  | .nilCheck x=>do pure (.nilCheck,[← opd x])
  | .binOp op t x y _=>do pure (.bin op (← yDv P op t x y),[← opd x,← opd y])
  | .unOp op _ x=>do pure (.un op,[← opd x])
  | .convert s d x =>
    match P.underlying s,P.underlying d with
    | some .string,some (.slice e)=>match P.underlying e with
      | some (.int .u8)=>do pure (.toBytes,[← opd x])
      | _=>none
    | _,_=>do pure (.conv (← xRh P s d),[← opd x])
  | .makeInterface t x=>match P.underlying t with
    | some (.interface _)=>none
    | some _=>do pure (.mkIface t,[← opd x])
    | none=>none
  | .makeFunc (.func f) first caught=>do
    let a ← first.toList.mapM opd
    let b ← caught.toList.mapM opd
    pure (.mkFn (pth f) a.length,a++b)
  | .makeMap _ none=>some (.mkMap,[])
  | .makeSlice t l c=>match P.underlying t with
    | some (.slice e)=>do
      let z ← wM P e
      if z.length != P.cellsOf e||z.length==0 then none else
      pure (.mkSlice z (P.bytesOf e),[← opd l,← opd c])
    | _=>none
  | .slice t x lo hi mx=>do
    let k ← match P.underlying t with
      | some .string=>if mx.isSome then none else some SlcK.str
      | some (.slice e)=>do let _ ← mX P e; pure (SlcK.slc (P.cellsOf e))
      | some (.array n e)=>do let _ ← mX P e; pure (SlcK.arr n (P.cellsOf e))
      | _=>none
    let args ← (x::(xKf lo++xKf hi++xKf mx)).mapM opd
    pure (.slice k lo.isSome hi.isSome mx.isSome,args)
  | .fieldAddr s x f=>match P.underlying s with
    | some (.struct fs)=>match fs[f]? with
      | some fl=>if P.cellsOf fl.type=0 then none else do
        let _ ← mX P fl.type
        pure (.fieldAddr fl.offset,[← opd x])
      | none=>none
    | _=>none
  | .field s x f=>match P.underlying s with
    | some (.struct fs)=>match fs[f]? with
      | some fl=>do pure (.field fl.offset (← mX P fl.type),[← opd x])
      | none=>none
    | _=>none
  | .indexAddr t x i=>match P.underlying t with
    | some (.slice e)=>do
      let _ ← mX P e
      pure (.indexAddr (.slc (P.cellsOf e)),[← opd x,← opd i])
    | some (.array n e)=>do
      let _ ← mX P e
      pure (.indexAddr (.arr n (P.cellsOf e)),[← opd x,← opd i])
    | _=>none
  | .index t x i=>match P.underlying t with
    | some (.array n e)=>do pure (.indexArr n (P.cellsOf e) (← mX P e),[← opd x,← opd i])
    | some .string=>do pure (.indexStr,[← opd x,← opd i])
    | _=>none
  | .lookup t m k ok=>match P.underlying t with
    | some (.map kt e)=>do
      pure (.lookup (← xP1 P kt) (← zeroOf P e) ok,[← opd m,← opd k])
    | _=>none
  | .mapUpdate t m k x | .insert t m k x=>match P.underlying t with
    | some (.map kt _)=>do
      pure (.mapUpd (← xP1 P kt),[← opd m,← opd k,← opd x])
    | _=>none
  | .range t x=>match P.underlying t with
    | some .string=>do pure (.rangeStr,[← opd x])
    | some (.map _ _)=>do pure (.rangeMap,[← opd x])
    | _=>none
  | .next it s=>do pure (.next s,[← opd it])
  | .entry it=>do pure (.entry,[← opd it])
  | .typeAssert x _ a ok=>match P.underlying a with
    | some (.interface _)=>none
    | some _=>do pure (.assertTo a (← zeroOf P a) ok,[← opd x])
    | none=>none
  | .extract x i=>do pure (.extract i,[← opd x])
  | .panic x=>do pure (.panic,[← opd x])
  | .defer { callee:=.value f,args,.. }=>do
    let as1 ← args.toList.mapM opd
    pure (.defer,(← opd f)::as1)
  | .call { callee:=.value f,args,.. }=>do
    let as1 ← args.toList.mapM opd
    pure (.call,(← opd f)::as1)
  | .call { callee:=.invoke r name,args,.. }=>do
    let as1 ← args.toList.mapM opd
    pure (.invoke (gS P name),(← opd r)::as1)
  | .call { callee:=.builtin b,args,argTypes }=>do
    let as1 ← args.toList.mapM opd
    let t0:=(argTypes[0]?).bind P.underlying
    match b with
    | .append=>match t0 with
      | some (.slice e) =>
        let _ ← mX P e
        let z ← wM P e
        if z.length != P.cellsOf e then none else
        let zeros ← xBe P argTypes
        pure (.append (P.cellsOf e) (P.bytesOf e) zeros,as1)
      | _=>none
    | .copy=>match t0 with | some (.slice e)=>do let _ ← mX P e; pure (.copy (P.cellsOf e),as1) | _=>none
    | .len=>match t0 with
      | some (.array n _)=>pure (.len (.fixed n),as1)
      | some (.pointer a)=>match P.underlying a with | some (.array n _)=>pure (.len (.fixed n),as1) | _=>none
      | some .string=>pure (.len .str,as1)
      | some (.slice _)=>pure (.len .slc,as1)
      | some (.map _ _)=>pure (.len .map,as1)
      | _=>none
    | .cap=>match t0 with
      | some (.array n _)=>pure (.cap (some n),as1)
      | some (.slice _)=>pure (.cap none,as1)
      | _=>none
    | .min=>pure (.min,as1)
    | .max=>pure (.max,as1)
    | .recover=>pure (.recover,[])
    | _=>none
  | _=>none
def guardOf (ops:Array Oper) (o:Oper):Option (Option (Pth×Bool)) :=
  match o.guard with
  | none=>some none
  | some (j,want)=>match ops[j]? with
    | some oj=>match oj.dst with
      | some d=>some (some (pth d,want))
      | none=>none
    | none=>none
def zHz (N:Nat) (o:Oper):Bool :=
  match o.dst with
  | some d=>Nat.blt d N
  | none=>true
def wG (N:Nat) (ops:Array Oper) (o:Oper):Option AOper :=
  match qO P o.type o.op,guardOf ops o,zHz N o with
  | some (op,args),some guard,true=>some { dst:=o.dst.map pth,op,args,guard }
  | _,_,_=>none
def tmpsOf (o:AOper):List Pth :=
  o.args.filterMap (fun x=>match x with | .tmp t=>some t | _=>none)++(match o.guard with | some (t,_)=>[t] | none=>[])++o.dst.toList
def zRd (o:AOper) (t:Pth):Bool:=(tmpsOf o).any (Pth.beq t)
def zB1 (anc:Nat→Nat→Bool) (n:Nat) (ops:Array Oper) (ds:List DOper):Bool :=
  (List.range n).all fun i=>match ops[i]?,ds[i]? with
    | some o,some d =>
      (o.after.toList.all fun e => !(Region.binds .any e)||Nat.blt e.on i) &&
      ((List.range n).all fun j=>Nat.beq i j||match ds[j]? with
        | some e =>
          (match e.o.dst with | some t => !(zRd d.o t)||(bif Nat.blt j i then anc i j else anc j i) | none=>true) &&
          (!(d.chain&&e.chain&&Nat.blt j i)||anc i j) &&
          (!(d.last)||anc i j) &&
          (!(xS d.o.op && !d.chain&&d.wide&&e.chain&&Nat.blt j d.hi)||e.makers.all fun m => !(d.makers.contains m)) &&
          (!(xS d.o.op && !d.chain && !d.wide&&e.chain)||Nat.blt j d.lo||Nat.ble d.hi j)
        | none=>false) &&
      (d.makers.all fun m=>anc i m) &&
      (!(xS d.o.op && !d.chain) ||
        ((Nat.beq d.lo 0||(Nat.blt 0 d.lo&&anc i (d.lo - 1)&&(match ds[d.lo - 1]? with | some e=>e.chain | none=>false))) &&
         (Nat.beq d.hi n||(anc d.hi i&&(match ds[d.hi]? with | some e=>e.chain | none=>false)))))
    | _,_=>false
def zHy (anc:Nat→Nat→Bool) (n:Nat) (chain makers:List Nat) (few:Bool) (os:List AOper):List DOper:=os.zipIdx.map fun (o,i) =>
  let lo:=(chain.filter fun c=>anc i c).foldl (fun _ c=>c+1) 0
  let hi:=match chain.find? (fun c=>anc c i) with | some c=>c | none=>n
  ({ o,chain:=chain.contains i,lo,hi,wide:=chain.any fun c=>Nat.ble lo c&&Nat.blt c hi,makers:=makers.filter fun m=>anc i m && !(few&&chain.any fun c=>anc i c&&anc c m),
     last:=(List.range n).all fun j=>j==i||anc i j }:DOper)
def dO (N:Nat) (ops:Array Oper) (draw:Bool):Option ACode :=
  match ops.toList.mapM (wG P N ops) with
  | none=>none
  | some os =>
    if draw=false then some (.reg os) else
    let n:=ops.size
    let bf:=Region.before ops
    let anc (i j:Nat):Bool:=(bf.getD i 0).testBit j
    let chain:=(List.range n).filter fun i=>match os[i]? with | some o=>zYy o.op | none=>false
    let makers:=(List.range n).filter fun i=>match os[i]? with | some o=>xO o.op | none=>false
    let ds:=zHy anc n chain makers false os
    if zB1 anc n ops ds then some (.dreg ds) else
    let ds:=zHy anc n chain makers true os
    if zB1 anc n ops ds then some (.dreg ds) else none
def zK (N:Nat):Code→ACode
  | .skip=>.skip
  | .region _ ops draw=>(dO P N ops draw).getD .bad
  | .seq a b=>.seq (zK N a) (zK N b)
  | .cond c a b=>match opd c with | some c=>.cond c (zK N a) (zK N b) | none=>.bad
  | .block id c=>.block id (zK N c)
  | .loop c=>.loop (zK N c)
  | .rangeFunc f ps a c=>match opd f with | some f=>if ps.toList.all (· < N) then .rangeFunc f (ps.toList.map pth) (zK N a) (zK N c) else .bad | none=>.bad
  | .exit id=>.exit id
  | .scope c=>zK N c
  | .label _=>.skip
  | .goto _=>.bad
  | .ret=>.ret
  | .refuse _=>.bad
def nG (f:Func):Option AFunc:=do
  let b ← f.body
  let rs ← f.results.toList.mapM fun r=>match r with
    | .tmp t=>some (ARes.tmp (pth t))
    | .cell a t=>do pure (ARes.cell (pth a) (← mX P t))
  pure { ntmps:=f.ntmps,results:=rs,body:=zK P f.ntmps b }
end
end Go.Abs
end
