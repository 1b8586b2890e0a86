/- A part of the proof that LibSwaps answers true at every input: AbsSan, AbsSym5, AbsSym6, AbsSym7, AbsSym15, AbsLp, AbsSym16. -/
import Derived.Test.YtaendaokfclnoaaGreatDoorC17
import Derived.Test.YtaendaokfclnoaaGreatDoorC18
import Derived.Test.YtaendaokfclnoaaGreatDoorC14
import Derived.Test.YtaendaokfclnoaaGreatDoorC15
import Derived.Test.YtaendaokfclnoaaGreatDoorC04
noncomputable section
section
namespace Go.Abs.T
open Go.Proofs
theorem okR [envI:Env]:XOK Tryz.prog XR:=⟨mixed,kV,mT,nV ok0 rfl zS7.ok kX⟩
theorem okE [envI:Env] {e:List (Pth×List AV×AV)} (he:Rows XR e):XOK Tryz.prog (zU1 e):=⟨mixed,kV,mT,nV okR rfl he.ok (nV ok0 rfl zS7.ok kX)⟩
theorem okM [envI:Env] {e m:List (Pth×List AV×AV)} (he:Rows XR e) (hm:Rows (zU1 e) m):XOK Tryz.prog (yDj e m):=⟨mixed,kV,mT,nV (okE he) rfl hm.ok (nV okR rfl he.ok (nV ok0 rfl zS7.ok kX))⟩
theorem okA [envI:Env]:XOK Tryz.prog XA:=⟨mixed,kV,mT,nV (okM zZy zZz) rfl yA0.ok kX⟩
theorem zBn:∀ e∈xYb,Row XA xAz e:=by
 intro e he
 simp only [xYb,List.mem_cons,List.not_mem_nil,or_false] at he
 rcases he with rfl | rfl | rfl | rfl | rfl
 ·exact rc0
 ·exact rc1
 ·exact rc2
 ·exact rc3
 ·exact rc4
theorem okB [envI:Env]:XOK Tryz.prog XB:=⟨mixed,kV,mT,xYc okA rfl zBn kX⟩
theorem xY7:∃ h1,xC XB 100 (.fn xG1 [] []) [] h0=.ret (.bool true) h1:=by
 have h:=yRf
 rw [F.callC_eq] at h
 exact zA3 h
def yG3 (i:Pth) (args:List AV) (_:H):Option AV:=bif Pth.beq i xG1 then (match args with | []=>some (.bool true) | _=>none) else none
theorem zB9 [envI:Env] {X:Ctx}:jH Tryz.prog X yG3:=by
 intro i args h v hs ρ w avs hr hv
 unfold yG3 at hs
 cases hi:Pth.beq i xG1 with
 | false=>rw [hi] at hs; cases hs
 | true =>
  rw [hi] at hs
  simp only [cond_true] at hs
  match args,hs with
  | [],hs =>
   cases hs
   obtain ⟨h1,h2⟩:=xY7
   rw [Pth.beq_iff.1 hi]
   exact xAb okB rfl (args0:=[]) (d:=0) h2 rfl rfl rfl hr hv
end Go.Abs.T
end
section
namespace Go.Abs.Sym
open Go.Abs.T
open Go.Proofs
def xN9 (i:Pth):List Pth→Bool
 | []=>false
 | p::ps=>Pth.beq i p||xN9 i ps
def over (X:Ctx) (fz dp:List Pth):Ctx:={ X with sums:=xF7 X 50 (fun i=>xN9 i fz) (fun i=>xN9 i dp) X.sums }
structure Lev [Env] (X:Ctx):Prop where
 ok:XOK Tryz.prog X
 globs:X.globs=.lf
 sums:∀ X',jH Tryz.prog X' X.sums
 exts:∀ X' i args h v h',X.exts i args h=some (v,h')→∀ ρ w (avs:Array Value),HR Tryz.prog X' ρ h w→VRs w ρ (Lv ρ h) args avs.toList→mS Tryz.prog X' ρ h w (callFunc i.num avs) (.ret v h')
theorem Lev.over [Env] {X:Ctx} (l:Lev X) (fz dp:List Pth):Lev (over X fz dp) where
 ok:=⟨l.ok.mix,l.ok.funcs,l.exts _,xQr l.ok l.globs (l.sums _)⟩
 globs:=l.globs
 sums:=fun _=>xQr l.ok l.globs (l.sums _)
 exts:=l.exts
def K0:Ctx:={ globs:=.lf,funcs:=funcs,sums:=yG3,exts:=T.exts,fuel:=100000 }
def K1:Ctx:=over K0 [t21,t52,t22,t53,t37,t36] []
def K2:Ctx:=over K1 [t9] []
def K3:Ctx:=over K2 [t19,t20] []
def K4:Ctx:=over K3 [t5] []
theorem zBx [Env]:Lev K0:=⟨⟨mixed,kV,mT,zB9⟩,rfl,fun _=>zB9,fun _ i args h v h' he ρ w avs=>mT i args h v h' he ρ w avs⟩
mutual
theorem hH:∀ (d:Nat) (h:H) (v:AV),frz v=true→deep d h v=v
 | 0,_,_,_=>rfl
 | d+1,h,.bool _,_=>rfl
 | d+1,h,.int _ _,_=>rfl
 | d+1,h,.str _,_=>rfl
 | d+1,h,.nilp,_=>rfl
 | d+1,h,.ptr _ _,_=>rfl
 | d+1,h,.rptr _,_=>rfl
 | d+1,h,.nils,_=>rfl
 | d+1,h,.slc _ _ _ _ _,e=>by simp [frz] at e
 | d+1,h,.rslc n cs,e=>by
  simp only [frz] at e
  simp only [deep,vN d h cs e]
 | d+1,h,.eslc,_=>rfl
 | d+1,h,.nilm,_=>rfl
 | d+1,h,.mapv _,e=>by simp [frz] at e
 | d+1,h,.rmap ks vs,e=>by
  simp only [frz,Bool.and_eq_true] at e
  simp only [deep,vN d h ks e.1,vN d h vs e.2]
 | d+1,h,.nilf,_=>rfl
 | d+1,h,.fn _ _ _,_=>rfl
 | d+1,h,.yield _,_=>rfl
 | d+1,h,.nili,_=>rfl
 | d+1,h,.iface t v,e=>by
  simp only [frz] at e
  simp only [deep,hH d h v e]
 | d+1,h,.agg cs,e=>by
  simp only [frz] at e
  simp only [deep,vN d h cs e]
 | d+1,h,.tup cs,e=>by
  simp only [frz] at e
  simp only [deep,vN d h cs e]
 | d+1,h,.sym _,_=>rfl
theorem vN:∀ (d:Nat) (h:H) (vs:List AV),frzs vs=true→vs.map (deep d h)=vs
 | _,_,[],_=>rfl
 | d,h,v::vs,e=>by
  simp only [frzs,Bool.and_eq_true] at e
  simp only [List.map_cons,hH d h v e.1,vN d h vs e.2]
end
theorem xSc {X:Ctx} {fz dp:List Pth} {f:Pth} {args:List AV} {v:AV} {h1:H} (hm:xN9 f fz=true) (hc:xC X 50 (.fn f [] []) args h0=.ret v h1) (ha:frzs args=true) (hv:frz (deep 8 h1 v)=true) (h:H):(over X fz dp).sums f args h=some (deep 8 h1 v):=by
 simp only [over,xF7,hm,cond_true,hc,ha,hv,Bool.and_self]
theorem xAp {X:Ctx} {fz dp:List Pth} {f:Pth} {args:List AV} {v:AV} {h1:H} (hm:xN9 f fz=true) (hc:xC X 50 (.fn f [] []) args h0=.ret v h1) (ha:frzs args=true) (hv:frz v=true) (h:H):(over X fz dp).sums f args h=some v:=by
 have:=xSc (dp:=dp) hm hc ha (by rw [hH _ _ _ hv]; exact hv) h
 rwa [hH _ _ _ hv] at this
structure Sl (α:Type) where
 kind:Nat
 l:List α
def slV {α:Type} (f:α→List AV) (s:Sl α):AV :=
 match s.l with
 | []=>match s.kind with
  | 0=>.nils
  | _=>.rslc 0 []
 | a::l=>.rslc (l.length+1) (f a++l.flatMap f)
structure Ed where
 a:Int
 b:Int
 c:Int
 d:Int
 e:Int
 f:Int
 g:Int
 deriving DecidableEq
structure Lg where
 pad:List Nat
 gr:Int
 deriving DecidableEq
structure PadD where
 nm:List Nat
 kd:Int
 es:Sl Ed
 r:Int
 x:Int
 y:Int
 dr:Int
structure GateD where
 kd:Int
 legs:Sl Lg
structure TypD where
 nm:List Nat
 pads:Sl PadD
 gates:Sl GateD
def edC (e:Ed):List AV:=[.int .i64 e.a,.int .i64 e.b,.int .i64 e.c,.int .i64 e.d,.int .i64 e.e,.int .i64 e.f,.int .i64 e.g]
def lgC (l:Lg):List AV:=[.str l.pad,.int .i64 l.gr]
def qP (p:PadD):List AV:=[.str p.nm,.int .i64 p.kd,slV edC p.es,.int .i64 p.r,.int .i64 p.x,.int .i64 p.y,.int .i64 p.dr]
def jP (g:GateD):List AV:=[.int .i64 g.kd,slV lgC g.legs]
def tyC (t:TypD):List AV:=[.str t.nm,slV qP t.pads,slV jP t.gates]
theorem xC5 {α:Type} (f:α→List AV) (s:Sl α):(slV f s).one=true:=by
 unfold slV
 split
 ·split<;>rfl
 ·rfl
theorem xRb {α:Type} (f:α→List AV) (s:Sl α):(slV f s).cells=[slV f s]:=by
 unfold slV
 split
 ·split<;>rfl
 ·rfl
theorem nW:∀ (a b:List AV),frzs (a++b)=(frzs a&&frzs b)
 | [],b=>by simp only [List.nil_append,frzs,Bool.true_and]
 | v::a,b=>by simp only [List.cons_append,frzs,nW a b,Bool.and_assoc]
theorem xHx {α:Type} {f:α→List AV} (hf:∀ a,frzs (f a)=true):∀ l:List α,frzs (l.flatMap f)=true
 | []=>rfl
 | a::l=>by rw [List.flatMap_cons,nW,hf,xHx hf l]; rfl
theorem yV {α:Type} {f:α→List AV} (hf:∀ a,frzs (f a)=true) (s:Sl α):frz (slV f s)=true:=by
 unfold slV
 cases s.l with
 | nil=>dsimp only; split<;>rfl
 | cons a l=>simp only [frz,nW,hf,xHx hf,Bool.and_self]
theorem xRs (e:Ed):frzs (edC e)=true:=rfl
theorem zI6 (l:Lg):frzs (lgC l)=true:=rfl
theorem zXt (p:PadD):frzs (qP p)=true:=by
 simp only [qP,frzs,frz,yV xRs,Bool.and_self]
theorem xMp (g:GateD):frzs (jP g)=true:=by
 simp only [jP,frzs,frz,yV zI6,Bool.and_self]
theorem vR (t:TypD):frzs (tyC t)=true:=by
 simp only [tyC,frzs,frz,yV zXt,yV xMp,Bool.and_self]
section
variable {α:Type} {f:α→List AV} {sz:Nat} (hf:∀ a,(f a).length=sz)
theorem qD (f:α→List AV) (h:H) (s:Sl α):pD h .slc (slV f s)=some (.int .i64 (.ofNat s.l.length)):=by
 unfold slV
 cases s.l with
 | nil=>dsimp only; split<;>rfl
 | cons a l=>rfl
include hf in
theorem xPn:∀ (l:List α) (k:Nat),(l.flatMap f).drop (k*sz)=(l.drop k).flatMap f
 | l,0=>by rw [Nat.zero_mul]; rfl
 | [],k+1=>by simp only [List.flatMap_nil,List.drop_nil]
 | a::l,k+1=>by
  rw [List.flatMap_cons,Nat.succ_mul,Nat.add_comm,← List.drop_drop,List.drop_left' (hf a),List.drop_succ_cons]
  exact xPn l k
include hf in
theorem vL (hsz:0<sz) {s:Sl α} {k:Nat} {a:α} (h:s.l[k]?=some a):zF (.slc sz) (slV f s) (.int .i64 (.ofNat k))=some (.rptr (f a++(s.l.drop (k+1)).flatMap f)):=by
 have hk:=(List.getElem?_eq_some_iff.1 h).1
 unfold slV
 cases hs:s.l with
 | nil=>rw [hs] at hk; exact absurd hk (by simp)
 | cons b l =>
  rw [hs] at h hk
  have h1:leI 0 (.ofNat k)=true:=rfl
  have h2:ltI (.ofNat k) (.ofNat (l.length+1))=true:=Nat.ble_eq_true_of_le hk
  have hd:=xPn hf (b::l) k
  rw [List.drop_eq_getElem_cons hk,(List.getElem?_eq_some_iff.1 h).2,List.flatMap_cons,List.flatMap_cons] at hd
  cases hc:f b++l.flatMap f with
  | nil =>
   have:=congrArg List.length hc
   rw [List.length_append,hf] at this
   simp only [List.length_nil] at this
   omega
  | cons c cs =>
   simp only [zF,h1,h2,Bool.and_true,cond_true,Int.toNat,hc]
   rw [← hc,hd]
end
theorem yFa (e:Ed):(edC e).length=7:=rfl
theorem yFc (e:Lg):(lgC e).length=2:=rfl
theorem zA6 (e:PadD):(qP e).length=7:=rfl
end Go.Abs.Sym
end
section
namespace Go.Abs.Sym
open Go.Abs.T
open Go.Proofs
theorem zTt {z:Int} (h1 : -9223372036854775808≤z) (h2:z<9223372036854775808):zU .i64 z=z:=by
 cases z with
 | ofNat m=>exact wrap_small (by simp only [Int.ofNat_eq_natCast] at h2; omega)
 | negSucc m =>
  have hb:Nat.blt m 9223372036854775808=true:=Nat.ble_eq_true_of_le (by rw [Int.negSucc_eq] at h1; omega)
  simp only [zU,hb,cond_true]
theorem xZw {m:Nat} (h:0<m):eqI (Int.ofNat m) 0=false:=by
 cases m with
 | zero=>cases h
 | succ m=>rfl
theorem zZ5 (a:Int) {m:Nat} (h0m:0<m) (hm:m<4000000000000000000):∃ (x:Nat) (h1:H),x<m∧xC K0 50 (.fn t21 [] []) [.int .i64 a,.int .i64 (.ofNat m)] h0=.ret (.int .i64 (.ofNat x)) h1:=by
 have hz:=xZw h0m
 have hs:K0.sums t21 ([]++[.int .i64 a,.int .i64 (.ofNat m)]++[]) h0=none:=rfl
 have hF:K0.funcs.get t21=some c21:=rfl
 have hb1 : -Int.ofNat m<a.tmod (.ofNat m):=by simp only [Int.ofNat_eq_natCast]; have:=Int.lt_tmod_of_pos a (b:=(m:Int)) (by omega); omega
 have hb2:a.tmod (.ofNat m)<Int.ofNat m:=by simp only [Int.ofNat_eq_natCast]; exact Int.tmod_lt_of_pos a (by omega)
 simp only [Int.ofNat_eq_natCast] at hb1 hb2
 have hw:zU .i64 (a.tmod (.ofNat m) + .ofNat m)=a.tmod (.ofNat m) + .ofNat m:=zTt (by simp only [Int.ofNat_eq_natCast]; omega) (by simp only [Int.ofNat_eq_natCast]; omega)
 have hx:∃ x:Nat,x<m∧(a.tmod (.ofNat m) + .ofNat m).tmod (.ofNat m)=.ofNat x:=by
  simp only [Int.ofNat_eq_natCast]
  have h1:0≤a.tmod (m:Int)+m:=by omega
  have h2:=Int.tmod_nonneg (m:Int) h1
  have h3:=Int.tmod_lt_of_pos (a.tmod (m:Int)+m) (b:=(m:Int)) (by omega)
  exact ⟨((a.tmod (m:Int)+m).tmod m).toNat,by omega,by omega⟩
 obtain ⟨x,hxm,hx⟩:=hx
 refine ⟨x,h0,hxm,?_⟩
 rw [rQ hs hF]
 simp +decide only [c21,xF,wK,xI,xE,xZ,yT,zH,zJ,xG,St.put,Tr.get_put,yI,Pth.succ,List.nil_append,List.append_nil,if_true,if_false,cond_true,cond_false,yH,decide_true,eqK,xT,yO,qS,zQ,zB,hz,hw,hx]
theorem xL2 (a:Int) {m:Nat} (h0m:0<m) (hm:m<4000000000000000000):∃ x:Nat,x<m∧∀ h,K1.sums t21 [.int .i64 a,.int .i64 (.ofNat m)] h=some (.int .i64 (.ofNat x)):=by
 obtain ⟨x,h1,hx,hr⟩:=zZ5 a h0m hm
 exact ⟨x,hx,fun h=>xAp rfl hr rfl rfl h⟩
def vF:Nat→List Nat
 | 0=>[80,49] | 1=>[80,50] | 2=>[80,51] | 3=>[80,52] | 4=>[80,53] | _=>[80,54]
theorem yR5 (h:H):K1.sums t52 [.int .i64 (.ofNat 0)] h=some (.str (vF 0)):=by kernel_rfl
theorem yR6 (h:H):K1.sums t52 [.int .i64 (.ofNat 1)] h=some (.str (vF 1)):=by kernel_rfl
theorem yR7 (h:H):K1.sums t52 [.int .i64 (.ofNat 2)] h=some (.str (vF 2)):=by kernel_rfl
theorem yR8 (h:H):K1.sums t52 [.int .i64 (.ofNat 3)] h=some (.str (vF 3)):=by kernel_rfl
theorem yR9 (h:H):K1.sums t52 [.int .i64 (.ofNat 4)] h=some (.str (vF 4)):=by kernel_rfl
theorem yRa (h:H):K1.sums t52 [.int .i64 (.ofNat 5)] h=some (.str (vF 5)):=by kernel_rfl
theorem zC4 {k:Nat} (hk:k<6) (h:H):K1.sums t52 [.int .i64 (.ofNat k)] h=some (.str (vF k)):=by
 match k,hk with
 | 0,_=>exact yR5 h
 | 1,_=>exact yR6 h
 | 2,_=>exact yR7 h
 | 3,_=>exact yR8 h
 | 4,_=>exact yR9 h
 | 5,_=>exact yRa h
def yBm (x y:Int):Sl Ed:=⟨0,[⟨1,x,y,x,y,0,0⟩]⟩
theorem zHr (x y r:Int) (h:H):K1.sums t22 [.agg [.int .i64 x,.int .i64 y],.int .i64 r] h=some (.agg [.int .i64 1,slV edC (yBm x y),.int .i64 r]):=by kernel_rfl
def yD7 (a b c d:Int):Sl Ed:=⟨0,[⟨1,a,b,c,b,0,0⟩,⟨1,c,b,c,d,0,0⟩,⟨1,c,d,a,d,0,0⟩,⟨1,a,d,a,b,0,0⟩]⟩
theorem zS4 (a b c d:Int) (h:H):K1.sums t53 [.agg [.int .i64 a,.int .i64 b,.int .i64 c,.int .i64 d]] h=some (.agg [.int .i64 2,slV edC (yD7 a b c d),.int .i64 0]):=by kernel_rfl
theorem pW {cs:List AV} {n:Nat} (h:cs.length=n):takeD cs 0 n=some cs:=by
 simp only [takeD,List.drop_zero,yH]
 rw [List.take_of_length_le (by omega),h,decide_eq_true rfl]
 rfl
theorem xN2 {α:Type} {f:α→List AV} {sz:Nat} (hf:∀ a,(f a).length=sz):∀ l:List α,(l.flatMap f).length=l.length*sz
 | []=>by simp only [List.flatMap_nil,List.length_nil,Nat.zero_mul]
 | a::l=>by rw [List.flatMap_cons,List.length_append,hf,xN2 hf l,List.length_cons,Nat.succ_mul,Nat.add_comm]
theorem xL8 (f:Pth) (xs:List AV) (h:H) (h1:Pth.beq f t9=false):K2.sums f xs h=K1.sums f xs h:=by
 simp only [K2,over,xF7,xN9,h1,Bool.or_self,cond_false]
end Go.Abs.Sym
end
section
namespace Go.Abs.Sym
open Go.Abs.T
open Go.Proofs
def Stp (I:Nat→St→Prop) (Q:Out→Prop) (m:Nat):Out→Prop
 | .nrm s=>∃ m',m'<m∧I m' s
 | .exit i s=>Q (.exit i s)
 | .ret s=>Q (.ret s)
 | .panic v s=>Q (.panic v s)
 | .bad n=>Q (.bad n)
theorem xA2 (I:Nat→St→Prop) (Q:Out→Prop) (m:Nat) (s:St):Stp I Q m (.nrm s)=∃ m',m'<m∧I m' s:=rfl
theorem xCd (I:Nat→St→Prop) (Q:Out→Prop) (m i:Nat) (s:St):Stp I Q m (.exit i s)=Q (.exit i s):=rfl
theorem xW2 (I:Nat→St→Prop) (Q:Out→Prop) (m:Nat) (s:St):Stp I Q m (.ret s)=Q (.ret s):=rfl
theorem kW {f:St→Out} (I:Nat→St→Prop) (Q:Out→Prop) (hs:∀ m s,I m s→Stp I Q m (f s)):∀ (n m:Nat) (s:St),I m s→m<n→Q (jQ f n s)
 | 0,m,s,_,h=>absurd h (Nat.not_lt_zero _)
 | n + 1,m,s,hi,h=>by
  have h1:=hs m s hi
  cases hf:f s with
  | nrm s' =>
   rw [hf] at h1
   obtain ⟨m',h2,h3⟩:=h1
   have:=kW I Q hs n m' s' h3 (by omega)
   simpa only [jQ,hf] using this
  | exit i s'=>rw [hf] at h1; simp only [jQ,hf]; exact h1
  | ret s'=>rw [hf] at h1; simp only [jQ,hf]; exact h1
  | panic v s'=>rw [hf] at h1; simp only [jQ,hf]; exact h1
  | bad k=>rw [hf] at h1; simp only [jQ,hf]; exact h1
theorem dP (a b:Int):eqI a b=decide (a=b):=by
 cases a with
 | ofNat a=>cases b with
  | ofNat b =>
   show Nat.beq a b=_
   rw [yH]
   simp only [Int.ofNat.injEq]
  | negSucc b=>exact (decide_eq_false (fun h=>by cases h)).symm
 | negSucc a=>cases b with
  | ofNat b=>exact (decide_eq_false (fun h=>by cases h)).symm
  | negSucc b =>
   show Nat.beq a b=_
   rw [yH]
   simp only [Int.negSucc.injEq]
theorem xCw:∀ a b:List Nat,eqS a b=decide (a=b)
 | [],[]=>rfl
 | [],b::y=>rfl
 | a::x,[]=>rfl
 | a::x,b::y=>by
  simp only [eqS,xCw x y,yH,List.cons.injEq]
  by_cases h:a=b
  ·simp only [h,decide_true,cond_true,true_and]
  ·simp only [h,decide_false,cond_false,false_and]
theorem qV (a b:Nat):ltI (.ofNat a) (.ofNat b)=decide (a<b):=by
 show Nat.blt a b=_
 rw [Nat.blt,nD]
 rfl
theorem kf0:K0.fuel=100000:=rfl
end Go.Abs.Sym
end
section
namespace Go.Abs.Sym
open Go.Abs.T
open Go.Proofs
theorem wH {p:Pth} {i j:Nat} (h:i≠j):(up p i=up p j)=False:=by rw [qL]; exact eq_false h
theorem Pth.beq_rfl (p:Pth):Pth.beq p p=true:=Pth.beq_iff.2 rfl
mutual
theorem beq_rfl:∀ v:AV,AV.beq v v=true
 | .bool b=>by simp [AV.beq]
 | .int k n=>by simp only [AV.beq,dP,decide_true,Bool.and_true]; exact wP.2 rfl
 | .str s=>by simp only [AV.beq,xCw,decide_true]
 | .nilp=>by simp [AV.beq]
 | .ptr a b=>by simp [AV.beq,Pth.beq_rfl]
 | .rptr cs=>by simp only [AV.beq]; exact nF cs
 | .nils=>by simp [AV.beq]
 | .slc a b c d none=>by simp [AV.beq,Pth.beq_rfl]
 | .slc a b c d (some x)=>by simp [AV.beq,Pth.beq_rfl]
 | .rslc n cs=>by simp only [AV.beq,yH,decide_true,Bool.true_and]; exact nF cs
 | .eslc=>by simp [AV.beq]
 | .nilm=>by simp [AV.beq]
 | .mapv a=>by simp only [AV.beq]; exact Pth.beq_rfl a
 | .rmap a b=>by simp only [AV.beq,nF,Bool.and_self]
 | .nilf=>by simp [AV.beq]
 | .fn f x y=>by simp only [AV.beq,Pth.beq_rfl,nF,Bool.and_self]
 | .yield a=>by simp only [AV.beq]; exact Pth.beq_rfl a
 | .nili=>by simp [AV.beq]
 | .iface t v=>by simp only [AV.beq,yH,decide_true,Bool.true_and]; exact beq_rfl v
 | .agg cs=>by simp only [AV.beq]; exact nF cs
 | .tup cs=>by simp only [AV.beq]; exact nF cs
 | .sym i=>by simp [AV.beq]
theorem nF:∀ vs:List AV,AV.beqs vs vs=true
 | []=>by simp [AV.beqs]
 | v::vs=>by simp only [AV.beqs,beq_rfl v,nF vs,Bool.and_self]
end
def SlT {α:Type} (f:α→List AV) (sz:Nat) (Lt:Nat→List α→Prop) (v:AV) (ls:List α):Prop :=
 (∃ s:Sl α,s.l=ls∧v=slV f s)∨∃ i c,v=.slc (up .e i) 0 ls.length sz c∧Lt i ls
def Typed {α:Type} (f:α→List AV) (Lt:Nat→List α→Prop) (t:Tr AB):Prop :=
 ∀ i ls,Lt i ls→∃ sp:Bool,t.get (up .e i)=some (.cells (ls.flatMap f) sp)
theorem Typed.put {α:Type} {f:α→List AV} {Lt:Nat→List α→Prop} {t:Tr AB} (h:Typed f Lt t) {j:Nat} (hj:∀ i n,Lt i n→i≠j) (x:AB):Typed f Lt (t.put (up .e j) x):=by
 intro i n hi
 obtain ⟨sp,h2⟩:=h i n hi
 refine ⟨sp,?_⟩
 rw [Tr.get_put,if_neg (fun e=>hj i n hi (by rw [qL] at e; exact e))]
 exact h2
theorem Typed.add {α:Type} {f:α→List AV} {Lt:Nat→List α→Prop} {t:Tr AB} (h:Typed f Lt t) {j:Nat} {ls:List α} {sp:Bool} (hj:t.get (up .e j)=some (.cells (ls.flatMap f) sp)):Typed f (fun i m=>Lt i m∨i=j∧m=ls) t:=by
 rintro i m (hi | ⟨rfl,rfl⟩)
 ·exact h i m hi
 ·exact ⟨sp,hj⟩
theorem SlT.mono {α:Type} {f:α→List AV} {sz:Nat} {Lt Lt':Nat→List α→Prop} {v:AV} {ls:List α} (h:SlT f sz Lt v ls) (hl:∀ i n,Lt i n→Lt' i n):SlT f sz Lt' v ls:=by
 rcases h with h | ⟨i,c,h1,h3⟩
 ·exact .inl h
 ·exact .inr ⟨i,c,h1,hl i _ h3⟩
theorem SlT.one {α:Type} {f:α→List AV} {sz:Nat} {Lt:Nat→List α→Prop} {v:AV} {ls:List α} (h:SlT f sz Lt v ls):v.one=true:=by
 rcases h with ⟨s,_,rfl⟩ | ⟨i,c,rfl,_⟩
 ·exact xC5 f s
 ·rfl
theorem xQu {α:Type} {f:α→List AV} {sz:Nat} (hf:∀ a,(f a).length=sz):∀ (l:List α) (n:Nat),(l.flatMap f).take (n*sz)=(l.take n).flatMap f
 | l,0=>by rw [Nat.zero_mul]; rfl
 | [],n+1=>by simp only [List.flatMap_nil,List.take_nil]
 | a::l,n+1=>by
  rw [List.flatMap_cons,Nat.succ_mul,Nat.add_comm,List.take_add,List.take_left' (hf a),List.drop_left' (hf a),xQu hf l n]
  rfl
theorem xAr {α:Type} (f:α→List AV) (l:List α):slV f ⟨1,l⟩=.rslc l.length (l.flatMap f):=by
 cases l<;>rfl
theorem zS8 {α:Type} (f:α→List AV) {s:Sl α} (h:s.l≠[]) (k:Nat):slV f s=slV f ⟨k,s.l⟩:=by
 obtain ⟨kd,l⟩:=s
 cases l with
 | nil=>exact absurd rfl h
 | cons a l=>rfl
theorem SlT.deep {α:Type} {f:α→List AV} {sz:Nat} {Lt:Nat→List α→Prop} {v:AV} {ls:List α} {nx:Pth} {t:Tr AB} (hf:∀ a,(f a).length=sz) (hz:∀ a,frzs (f a)=true) (hT:Typed f Lt t) (h:SlT f sz Lt v ls) (hn:ls≠[]) (d:Nat) :
  deep (d+1) ⟨nx,t,.lf⟩ v=slV f ⟨1,ls⟩:=by
 rcases h with ⟨s,rfl,rfl⟩ | ⟨i,c,rfl,h2⟩
 ·rw [hH _ _ _ (yV hz s),zS8 f hn 1]
 ·obtain ⟨sp,h4⟩:=hT i _ h2
  have htk:takeD (ls.flatMap f) 0 (ls.length*sz)=some (ls.flatMap f):=by
   simp only [takeD,List.drop_zero]
   rw [xQu hf,List.take_length,xN2 hf,yH,decide_eq_true rfl]
   rfl
  simp only [Abs.deep,H.cellsAt,h4,htk]
  rw [xAr,vN _ _ _ (xHx hz _)]
def inC (a:Int):List AV:=[.int .i64 a]
theorem yFb (a:Int):(inC a).length=1:=rfl
theorem xX1 (a:Int):frzs (inC a)=true:=rfl
def qY (t:Tr AB) (d:Pth) (L:Sl Int):Prop:=∃ pos,pos≤L.l.length∧t.get d=some (.cells [slV inC L,.int .i64 (.ofNat pos)] false)
theorem zC5 {X:Ctx} {m:Nat} {d:Pth} {n:Nat} {L:Sl Int} {q:Pth} {j:Nat} {t:Tr AB} {R:CRes} (hs:∀ xs h,X.sums t51 xs h=none) (hF:X.funcs.get t51=some c51)
  (hmod:∀ a:Int,∃ x:Nat,x<n∧∀ h,X.sums t21 [.int .i64 a,.int .i64 (.ofNat n)] h=some (.int .i64 (.ofNat x))) (h0n:0<n) (hL:L.l.length<9223372036854775808)
  (hR:xC X (m+2) (.fn t51 [] []) [.ptr d 0,.int .i64 (.ofNat n)] ⟨up q j,t,.lf⟩=R) (hd:qY t d L) :
  ∃ x pos j',R=.ret (.int .i64 (.ofNat x)) ⟨up q j',t.put d (.cells [slV inC L,.int .i64 (.ofNat pos)] false),.lf⟩∧x<n∧j≤j'∧pos≤L.l.length:=by
 obtain ⟨pos,hpos,hd⟩:=hd
 rw [← hR,rQ (F:=c51) (hs _ _) hF]
 by_cases hb:L.l.length≤pos
 ·refine ⟨0,pos,j+10,?_,h0n,by omega,hpos⟩
  have hb':leI (.ofNat L.l.length) (.ofNat pos)=true:=Nat.ble_eq_true_of_le hb
  rw [xGk hd]
  simp +decide only [c51,xF,wK,xI,xE,xZ,yT,mK,jB,kD,xO,qM,yP,zX,dG,mH,xD2,rG,kY,xF4,zH,qZ,zJ,zN,nZ,kA,jZ,H.cellsAt,wR,xBo,rM,rN,xG,St.put,Tr.get_put,yI,Pth.succ,List.nil_append,List.append_nil,if_true,if_false,cond_true,cond_false,Nat.zero_add,Nat.add_zero,kZ,xHb,wC,List.length,xS,quiet,yH,decide_true,Nat.reduceAdd,Bool.and_false,Bool.or_true,List.all,eqK,xT,yO,qS,zQ,zB,Option.map_some,hd,hb',qD]
 ·have hb':leI (.ofNat L.l.length) (.ofNat pos)=false:=by
   cases h:leI (.ofNat L.l.length) (.ofNat pos) with
   | false=>rfl
   | true=>exact absurd (Nat.le_of_ble_eq_true h) hb
  obtain ⟨a,ha⟩:∃ a,L.l[pos]?=some a:=⟨_,List.getElem?_eq_getElem (by omega)⟩
  have ia:=vL (f:=inC) (sz:=1) yFb (by decide) ha
  obtain ⟨x,hx,hm⟩:=hmod a
  have hcall:∀ h,xC X (m+1) (.fn t21 [] []) [.int .i64 a,.int .i64 (.ofNat n)] h=.ret (.int .i64 (.ofNat x)) h:=fun h=>qF (hm h)
  have hw:=xAd pos 1 (by omega)
  have hw':=zTu (pos+1) 1 (by omega) (by omega)
  refine ⟨x,pos+1,j+24,?_,hx,by omega,by omega⟩
  simp +decide only [c51,xF,wK,xI,xE,xZ,yT,mK,jB,kD,xO,qM,yP,zX,dG,mH,xD2,rG,kY,jL,xF4,zH,qZ,jC,zJ,qW,zN,qK,nZ,kA,jZ,xV3,H.cellsAt,wR,xBo,rM,rN,wW,setAt,mF,xA9,dA,xG,St.put,Tr.get_put,yI,Pth.succ,List.nil_append,List.append_nil,List.cons_append,if_true,if_false,cond_true,cond_false,Nat.zero_add,Nat.add_zero,kZ,xHb,wC,List.length,xS,quiet,yH,decide_true,Nat.reduceAdd,Bool.and_true,Bool.and_false,Bool.or_true,List.all,eqK,xT,yO,qS,zQ,zB,Option.map_some,inC,hd,hb',qD,hw,hw',Nat.add_sub_cancel,ia,hcall]
def shK:Nat→Int
 | 0=>2
 | _=>1
def shR:Nat→Int
 | 0=>0 | 1=>4 | 2=>5 | 3=>6 | _=>4
def shE (x y:Int):Nat→List Ed
 | 0=>[⟨1,zU .i64 (x - .ofNat 6),zU .i64 (y - .ofNat 6),zU .i64 (x + .ofNat 6),zU .i64 (y - .ofNat 6),0,0⟩,⟨1,zU .i64 (x + .ofNat 6),zU .i64 (y - .ofNat 6),zU .i64 (x + .ofNat 6),zU .i64 (y + .ofNat 6),0,0⟩,
  ⟨1,zU .i64 (x + .ofNat 6),zU .i64 (y + .ofNat 6),zU .i64 (x - .ofNat 6),zU .i64 (y + .ofNat 6),0,0⟩,⟨1,zU .i64 (x - .ofNat 6),zU .i64 (y + .ofNat 6),zU .i64 (x - .ofNat 6),zU .i64 (y - .ofNat 6),0,0⟩]
 | 1 | 2 | 3=>[⟨1,x,y,x,y,0,0⟩]
 | _=>[⟨1,zU .i64 (x - .ofNat 2),y,zU .i64 (x + .ofNat 2),y,0,0⟩]
def pX (k:Nat):Int:=.ofNat (30*k)
def pY (b:Nat):Int:=.ofNat (10*b)
def gU (k b s d:Nat):PadD:=⟨vF k,shK s,⟨1,shE (pX k) (pY b) s⟩,shR s,pX k,pY b,.ofNat (2*d)⟩
theorem yG5 (x y:Int) (s:Nat):shE x y s≠[]:=by
 unfold shE
 split<;>exact List.cons_ne_nil _ _
def xHj (Et:Nat→List Ed→Prop) (k:Nat) (r:List AV):Prop:=∃ b s d ev,b<2∧s<5∧d<4∧r=[.str (vF k),.int .i64 (shK s),ev,.int .i64 (shR s),.int .i64 (pX k),.int .i64 (pY b),.int .i64 (.ofNat (2*d))]∧SlT edC 7 Et ev (shE (pX k) (pY b) s)
theorem xHj.len {Et:Nat→List Ed→Prop} {k:Nat} {r:List AV} (h:xHj Et k r):r.length=7:=by
 obtain ⟨b,s,d,ev,_,_,_,rfl,_⟩:=h
 rfl
theorem xHj.mono {Et Et':Nat→List Ed→Prop} {k:Nat} {r:List AV} (h:xHj Et k r) (hl:∀ i n,Et i n→Et' i n):xHj Et' k r:=by
 obtain ⟨b,s,d,ev,h1,h2,h3,rfl,h⟩:=h
 exact ⟨b,s,d,ev,h1,h2,h3,rfl,h.mono hl⟩
theorem xHj.deep {Et:Nat→List Ed→Prop} {k:Nat} {r:List AV} {nx:Pth} {t:Tr AB} (hT:Typed edC Et t) (h:xHj Et k r) (d:Nat):∃ b s e,b<2∧s<5∧e<4∧r.map (deep (d+1) ⟨nx,t,.lf⟩)=qP (gU k b s e):=by
 obtain ⟨b,s,e,ev,h1,h2,h3,rfl,h⟩:=h
 refine ⟨b,s,e,h1,h2,h3,?_⟩
 simp only [List.map_cons,List.map_nil,h.deep (nx:=nx) yFa xRs hT (yG5 _ _ _) d]
 rfl
def dJ (Et:Nat→List Ed→Prop) (rs:List (List AV)):Prop:=∀ k r,rs[k]?=some r→xHj Et k r
theorem dJ.mem {Et:Nat→List Ed→Prop} {rs:List (List AV)} (h:dJ Et rs) {r:List AV} (hr:r∈rs):r.length=7:=by
 obtain ⟨k,hk⟩:=List.mem_iff_getElem?.1 hr
 exact (h k r hk).len
theorem dJ.mono {Et Et':Nat→List Ed→Prop} {rs:List (List AV)} (h:dJ Et rs) (hl:∀ i n,Et i n→Et' i n):dJ Et' rs:=fun k r e=>(h k r e).mono hl
theorem dJ.nil {Et:Nat→List Ed→Prop}:dJ Et []:=fun _ _ h=>by cases h
theorem dJ.snoc {Et:Nat→List Ed→Prop} {rs:List (List AV)} {row:List AV} (h:dJ Et rs) (hr:xHj Et rs.length row):dJ Et (rs++[row]):=by
 intro k r e
 by_cases hk:k<rs.length
 ·rw [List.getElem?_append_left hk] at e
  exact h k r e
 ·rw [List.getElem?_append_right (by omega)] at e
  have hk0:k - rs.length=0:=by
   cases hn:k - rs.length with
   | zero=>rfl
   | succ n=>rw [hn] at e; cases e
  have:k=rs.length:=by omega
  subst this
  rw [Nat.sub_self] at e
  cases e
  exact hr
def yGd (Lt:Nat→List Lg→Prop) (r:List AV) (g:GateD):Prop:=∃ lv,r=[.int .i64 g.kd,lv]∧SlT lgC 2 Lt lv g.legs.l∧g.legs.l≠[]∧g.legs.kind=1
def xHi (Lt:Nat→List Lg→Prop):List (List AV)→List GateD→Prop
 | [],[]=>True
 | r::rs,g::gs=>yGd Lt r g∧xHi Lt rs gs
 | _,_=>False
theorem xHi.len {Lt:Nat→List Lg→Prop}:∀ {rs:List (List AV)} {gs:List GateD},xHi Lt rs gs→rs.length=gs.length∧∀ r∈rs,r.length=2
 | [],[],_=>⟨rfl,fun _ h=>absurd h List.not_mem_nil⟩
 | r::rs,g::gs,h=>by
  obtain ⟨⟨lv,rfl,_⟩,h2⟩:=h
  obtain ⟨h3,h4⟩:=h2.len
  refine ⟨by simp only [List.length_cons,h3],fun r hr => ?_⟩
  rcases List.mem_cons.1 hr with rfl | hr
  ·rfl
  ·exact h4 r hr
 | [],_::_,h=>h.elim
 | _::_,[],h=>h.elim
theorem xHi.deep {Lt:Nat→List Lg→Prop} {nx:Pth} {t:Tr AB} (hT:Typed lgC Lt t) (d:Nat):∀ {rs:List (List AV)} {gs:List GateD},xHi Lt rs gs→rs.flatten.map (deep (d+1) ⟨nx,t,.lf⟩)=gs.flatMap jP
 | [],[],_=>rfl
 | r::rs,g::gs,h=>by
  obtain ⟨⟨lv,rfl,h1,hn,hk⟩,h2⟩:=h
  obtain ⟨kd,⟨k,ls⟩⟩:=g
  simp only at hk h1 hn
  subst hk
  rw [List.flatten_cons,List.map_append,h2.deep hT d,List.flatMap_cons]
  simp only [List.map_cons,List.map_nil,h1.deep (nx:=nx) yFc zI6 hT hn d]
  rfl
 | [],_::_,h=>h.elim
 | _::_,[],h=>h.elim
def gY (c:Nat×Nat×Nat):Prop:=c.1<2∧c.2.1<5∧c.2.2<4
def kM:Nat→List (Nat×Nat×Nat)→List PadD
 | _,[]=>[]
 | k,c::cs=>gU k c.1 c.2.1 c.2.2::kM (k+1) cs
theorem mE:∀ (k:Nat) (cs:List (Nat×Nat×Nat)),(kM k cs).length=cs.length
 | _,[]=>rfl
 | k,_::cs=>by simp only [kM,List.length_cons,mE (k+1) cs]
theorem xQp {Et:Nat→List Ed→Prop} {nx:Pth} {t:Tr AB} (hT:Typed edC Et t) (d:Nat):∀ (rs:List (List AV)) (k0:Nat),(∀ k r,rs[k]?=some r→xHj Et (k0+k) r)→∃ cs:List (Nat×Nat×Nat),cs.length=rs.length∧(∀ c∈cs,gY c)∧rs.flatten.map (deep (d+1) ⟨nx,t,.lf⟩)=(kM k0 cs).flatMap qP
 | [],_,_=>⟨[],rfl,fun _ h=>absurd h List.not_mem_nil,rfl⟩
 | r :: rs,k0,hrs=>by
  obtain ⟨b,s,e,h1,h2,h3,h4⟩:=xHj.deep (nx:=nx) hT (hrs 0 r rfl) d
  obtain ⟨cs,k1,k2,k3⟩:=xQp (nx:=nx) hT d rs (k0+1) (fun k r h=>by
   have:=hrs (k+1) r h
   rwa [show k0+1+k=k0+(k+1) by omega])
  refine ⟨(b,s,e)::cs,by simp only [List.length_cons,k1],fun c hc => ?_,?_⟩
  ·rcases List.mem_cons.1 hc with rfl | hc
   ·exact ⟨h1,h2,h3⟩
   ·exact k2 c hc
  ·rw [List.flatten_cons,List.map_append,h4,k3,kM,List.flatMap_cons]
   rfl
theorem xCb {Rw:List AV→Prop} {sz:Nat} (hr:∀ r,Rw r→r.length=sz):∀ rs:List (List AV),(∀ r∈rs,Rw r)→rs.flatten.length=rs.length*sz
 | [],_=>by rw [List.flatten_nil,List.length_nil,List.length_nil,Nat.zero_mul]
 | r::rs,h=>by rw [List.flatten_cons,List.length_append,hr r (h r List.mem_cons_self),xCb hr rs (fun x hx=>h x (List.mem_cons_of_mem _ hx)),List.length_cons,Nat.succ_mul,Nat.add_comm]
end Go.Abs.Sym
end
section
namespace Go.Abs.T
open AV
set_option maxRecDepth 100000
def c19_tl:ACode:=(.seq (.reg [⟨s79,.mov,[v5],none⟩,⟨s80,.call,[.const (g t51),v79,.const i4],none⟩,⟨s81,.bin .mul .one,[.const i2,v80],none⟩,⟨s82,.mov,[v5],none⟩,⟨s83,.call,[.const (g t51),v82,.const i2],none⟩,⟨s84,.bin .mul .one,[v81,v83],none⟩,⟨s85,.fieldAddr 6,[v9],none⟩,⟨none,.store 1,[v85,v84],none⟩]) (.reg [⟨s86,.fieldAddr 1,[v6],none⟩,⟨s87,.load none,[v86],none⟩,⟨s88,.load (some 7),[v9],none⟩,⟨s89,.buildSl 1 7 [e0,i0,nils,i0,i0,i0,i0] [0],[v88],none⟩,⟨s90,.append 7 80 false,[v87,v89],none⟩,⟨s91,.fieldAddr 1,[v6],none⟩,⟨none,.store 1,[v91,v90],none⟩]))
def c19_sw:ACode:=(.block 2 (.seq (.reg [⟨s55,.bin .eql .one,[v37,.const i0],none⟩,⟨s54,.mov,[v55],none⟩]) (.cond (v54) (.reg [⟨s56,.fieldAddr 0,[v10],none⟩,⟨s57,.load none,[v56],none⟩,⟨s58,.bin .sub .one,[v57,.const i6],none⟩,⟨s59,.fieldAddr 1,[v10],none⟩,⟨s60,.load none,[v59],none⟩,⟨s61,.bin .sub .one,[v60,.const i6],none⟩,⟨s62,.fieldAddr 0,[v10],none⟩,⟨s63,.load none,[v62],none⟩,⟨s64,.bin .add .one,[v63,.const i6],none⟩,⟨s65,.fieldAddr 1,[v10],none⟩,⟨s66,.load none,[v65],none⟩,⟨s67,.bin .add .one,[v66,.const i6],none⟩,⟨s68,.build [i0,i0,i0,i0] [(0,1),(1,1),(2,1),(3,1)],[v58,v61,v64,v67],none⟩,⟨s69,.call,[.const (g t53),v68],none⟩,⟨s70,.fieldAddr 1,[v9],none⟩,⟨none,.store 3,[v70,v69],none⟩]) (.seq (.reg [⟨s72,.bin .eql .one,[v37,.const i1],none⟩,⟨s71,.mov,[v72],none⟩]) (.cond (v71) (.dreg [⟨⟨s73,.load (some 2),[v10],none⟩,false,0,4,true,[],false⟩,⟨⟨s74,.mov,[v5],none⟩,false,0,2,false,[],false⟩,⟨⟨s75,.call,[.const (g t51),v74,.const i3],none⟩,true,0,4,true,[],false⟩,⟨⟨s76,.bin .add .one,[.const i4,v75],none⟩,false,3,4,false,[],false⟩,⟨⟨s77,.call,[.const (g t22),v73,v76],none⟩,true,3,6,true,[],false⟩,⟨⟨s78,.fieldAddr 1,[v9],none⟩,false,5,6,false,[],false⟩,⟨⟨none,.store 3,[v78,v77],none⟩,true,5,7,true,[],true⟩]) (.reg [⟨s38,.fieldAddr 0,[v10],none⟩,⟨s39,.load none,[v38],none⟩,⟨s40,.bin .sub .one,[v39,.const i2],none⟩,⟨s41,.fieldAddr 1,[v10],none⟩,⟨s42,.load none,[v41],none⟩,⟨s43,.build [i0,i0] [(0,1),(1,1)],[v40,v42],none⟩,⟨s44,.fieldAddr 0,[v10],none⟩,⟨s45,.load none,[v44],none⟩,⟨s46,.bin .add .one,[v45,.const i2],none⟩,⟨s47,.fieldAddr 1,[v10],none⟩,⟨s48,.load none,[v47],none⟩,⟨s49,.build [i0,i0] [(0,1),(1,1)],[v46,v48],none⟩,⟨s50,.build [i0,i0,i0,i0,i0,i0,i0] [(0,1),(1,2),(3,2)],[.const i1,v43,v49],none⟩,⟨s51,.buildSl 1 7 [i0,i0,i0,i0,i0,i0,i0] [0],[v50],none⟩,⟨s52,.build [i0,nils,i0] [(0,1),(2,1),(1,1)],[.const i1,.const i4,v51],none⟩,⟨s53,.fieldAddr 1,[v9],none⟩,⟨none,.store 3,[v53,v52],none⟩]))))))
def c19_b:ACode:=(.seq (.reg [⟨s34,.fieldAddr 4,[v9],none⟩,⟨s35,.load (some 2),[v34],none⟩,⟨s10,.alloc [i0,i0],[],none⟩,⟨none,.store 2,[v10,v35],none⟩]) (.seq (.seq (.reg [⟨s36,.mov,[v5],none⟩,⟨s37,.call,[.const (g t51),v36,.const i3],none⟩]) c19_sw) c19_tl))
def c19_l0:ACode:=(.seq (.seq (.reg [⟨s20,.mov,[v8],none⟩,⟨s21,.mov,[v7],none⟩,⟨s22,.bin .lss .one,[v20,v21],none⟩]) (.cond (v22) .skip (.exit 0))) (.seq (.block 1 (.seq (.reg [⟨s25,.mov,[v8],none⟩,⟨s26,.call,[.const (g t52),v25],none⟩,⟨s27,.mov,[v8],none⟩,⟨s28,.bin .mul .one,[.const i30,v27],none⟩,⟨s29,.mov,[v5],none⟩,⟨s30,.call,[.const (g t51),v29,.const i2],none⟩,⟨s31,.bin .mul .one,[.const i10,v30],none⟩,⟨s32,.build [i0,i0] [(0,1),(1,1)],[v28,v31],none⟩,⟨s33,.build [e0,i0,nils,i0,i0,i0,i0] [(0,1),(4,2)],[v26,v32],none⟩,⟨s9,.alloc [e0,i0,nils,i0,i0,i0,i0],[],none⟩,⟨none,.store 7,[v9,v33],none⟩]) c19_b)) (.reg [⟨s23,.mov,[v8],none⟩,⟨s24,.bin .add .one,[v23,.const i1],none⟩,⟨s8,.mov,[v24],none⟩])))
def c19_g1:ACode:=(.seq (.reg [⟨s92,.mov,[v7],none⟩,⟨s93,.bin .lss .one,[v92,.const i4],none⟩,⟨s94,.mov,[v93],none⟩,⟨s95,.mov,[v5],(some (t94,true))⟩,⟨s96,.call,[.const (g t51),v95,.const i3],(some (t94,true))⟩,⟨s97,.bin .gtr .one,[v96,.const i0],(some (t94,true))⟩,⟨s98,.pick,[v94,v97,.const (bool false)],none⟩]) (.cond (v98) (.reg [⟨s99,.call,[.const (g t52),.const i0],none⟩,⟨s100,.build [e0,i0] [(0,1),(1,1)],[v99,.const i1],none⟩,⟨s101,.call,[.const (g t52),.const i1],none⟩,⟨s102,.mov,[v5],none⟩,⟨s103,.call,[.const (g t51),v102,.const i2],none⟩,⟨s104,.build [e0,i0] [(0,1),(1,1)],[v101,v103],none⟩,⟨s105,.buildSl 2 2 [e0,i0,e0,i0] [0,1],[v100,v104],none⟩,⟨s106,.build [i0,nils] [(1,1)],[v105],none⟩,⟨s107,.buildSl 1 2 [i0,nils] [0],[v106],none⟩,⟨s108,.fieldAddr 2,[v6],none⟩,⟨none,.store 1,[v108,v107],none⟩]) .skip))
def c19_g2:ACode:=(.seq (.reg [⟨s109,.mov,[v7],none⟩,⟨s110,.bin .geq .one,[v109,.const i4],none⟩,⟨s111,.mov,[v110],none⟩,⟨s112,.mov,[v5],(some (t111,true))⟩,⟨s113,.call,[.const (g t51),v112,.const i3],(some (t111,true))⟩,⟨s114,.bin .gtr .one,[v113,.const i0],(some (t111,true))⟩,⟨s115,.pick,[v111,v114,.const (bool false)],none⟩]) (.cond (v115) (.seq (.reg [⟨s116,.mov,[v5],none⟩,⟨s117,.call,[.const (g t51),v116,.const i2],none⟩,⟨s11,.mov,[v117],none⟩]) (.reg [⟨s118,.call,[.const (g t52),.const i0],none⟩,⟨s119,.mov,[v11],none⟩,⟨s120,.build [e0,i0] [(0,1),(1,1)],[v118,v119],none⟩,⟨s121,.call,[.const (g t52),.const i1],none⟩,⟨s122,.mov,[v11],none⟩,⟨s123,.build [e0,i0] [(0,1),(1,1)],[v121,v122],none⟩,⟨s124,.buildSl 2 2 [e0,i0,e0,i0] [0,1],[v120,v123],none⟩,⟨s125,.build [i0,nils] [(0,1),(1,1)],[.const i1,v124],none⟩,⟨s126,.call,[.const (g t52),.const i2],none⟩,⟨s127,.mov,[v11],none⟩,⟨s128,.build [e0,i0] [(0,1),(1,1)],[v126,v127],none⟩,⟨s129,.call,[.const (g t52),.const i3],none⟩,⟨s130,.mov,[v11],none⟩,⟨s131,.build [e0,i0] [(0,1),(1,1)],[v129,v130],none⟩,⟨s132,.buildSl 2 2 [e0,i0,e0,i0] [0,1],[v128,v131],none⟩,⟨s133,.build [i0,nils] [(0,1),(1,1)],[.const i1,v132],none⟩,⟨s134,.buildSl 2 2 [i0,nils,i0,nils] [0,1],[v125,v133],none⟩,⟨s135,.fieldAddr 2,[v6],none⟩,⟨none,.store 1,[v135,v134],none⟩])) .skip))
def c19_g3:ACode:=(.seq (.reg [⟨s136,.mov,[v7],none⟩,⟨s137,.bin .eql .one,[v136,.const i6],none⟩,⟨s138,.mov,[v137],none⟩,⟨s139,.fieldAddr 2,[v6],(some (t138,true))⟩,⟨s140,.load none,[v139],(some (t138,true))⟩,⟨s141,.len .slc,[v140],(some (t138,true))⟩,⟨s142,.bin .gtr .one,[v141,.const i0],(some (t138,true))⟩,⟨s143,.pick,[v138,v142,.const (bool false)],none⟩,⟨s144,.mov,[v143],none⟩,⟨s145,.mov,[v5],(some (t144,true))⟩,⟨s146,.call,[.const (g t51),v145,.const i2],(some (t144,true))⟩,⟨s147,.bin .eql .one,[v146,.const i1],(some (t144,true))⟩,⟨s148,.pick,[v144,v147,.const (bool false)],none⟩]) (.cond (v148) (.dreg [⟨⟨s149,.fieldAddr 2,[v6],none⟩,false,0,27,true,[],false⟩,⟨⟨s150,.load none,[v149],none⟩,false,0,27,true,[],false⟩,⟨⟨s151,.mov,[v5],none⟩,false,0,3,false,[],false⟩,⟨⟨s152,.call,[.const (g t51),v151,.const i3],none⟩,true,0,4,true,[],false⟩,⟨⟨s153,.call,[.const (g t52),.const i5],none⟩,true,4,14,true,[],false⟩,⟨⟨s154,.fieldAddr 2,[v6],none⟩,false,0,27,true,[],false⟩,⟨⟨s155,.load none,[v154],none⟩,false,0,27,true,[],false⟩,⟨⟨s156,.indexAddr (.slc 2),[v155,.const i0],none⟩,false,0,27,true,[],false⟩,⟨⟨s157,.fieldAddr 1,[v156],none⟩,false,0,27,true,[],false⟩,⟨⟨s158,.load none,[v157],none⟩,false,0,27,true,[],false⟩,⟨⟨s159,.indexAddr (.slc 2),[v158,.const i0],none⟩,false,0,27,true,[],false⟩,⟨⟨s160,.fieldAddr 1,[v159],none⟩,false,0,27,true,[],false⟩,⟨⟨s161,.load none,[v160],none⟩,false,0,27,true,[],false⟩,⟨⟨s162,.build [e0,i0] [(0,1),(1,1)],[v153,v161],none⟩,false,5,27,true,[],false⟩,⟨⟨s163,.call,[.const (g t52),.const i4],none⟩,true,5,27,true,[],false⟩,⟨⟨s164,.fieldAddr 2,[v6],none⟩,false,0,27,true,[],false⟩,⟨⟨s165,.load none,[v164],none⟩,false,0,27,true,[],false⟩,⟨⟨s166,.indexAddr (.slc 2),[v165,.const i0],none⟩,false,0,27,true,[],false⟩,⟨⟨s167,.fieldAddr 1,[v166],none⟩,false,0,27,true,[],false⟩,⟨⟨s168,.load none,[v167],none⟩,false,0,27,true,[],false⟩,⟨⟨s169,.indexAddr (.slc 2),[v168,.const i1],none⟩,false,0,27,true,[],false⟩,⟨⟨s170,.fieldAddr 1,[v169],none⟩,false,0,27,true,[],false⟩,⟨⟨s171,.load none,[v170],none⟩,false,0,27,true,[],false⟩,⟨⟨s172,.build [e0,i0] [(0,1),(1,1)],[v163,v171],none⟩,false,15,27,false,[],false⟩,⟨⟨s173,.buildSl 2 2 [e0,i0,e0,i0] [0,1],[v162,v172],none⟩,false,15,27,false,[],false⟩,⟨⟨s174,.build [i0,nils] [(0,1),(1,1)],[v152,v173],none⟩,false,15,27,false,[24],false⟩,⟨⟨s175,.buildSl 1 2 [i0,nils] [0],[v174],none⟩,false,15,27,false,[24],false⟩,⟨⟨s176,.append 2 32 false,[v150,v175],none⟩,true,15,29,true,[24,26],false⟩,⟨⟨s177,.fieldAddr 2,[v6],none⟩,false,28,29,false,[24,26],false⟩,⟨⟨none,.store 1,[v177,v176],none⟩,true,28,30,true,[24,26],true⟩]) .skip))
def c19_rest:ACode:=(.seq c19_g1 (.seq c19_g2 (.seq c19_g3 (.seq (.reg [⟨s178,.load (some 3),[v6],none⟩,⟨none,.store 3,[v4,v178],none⟩]) .ret))))
theorem c19_eq:c19=⟨179,[.cell t4 (some 3)],(.seq (.reg [⟨s4,.alloc [e0,nils,nils],[],none⟩]) (.seq (.reg [⟨s12,.mov,[v0],none⟩,⟨s13,.build [nils,i0] [(0,1)],[v12],none⟩,⟨s14,.box,[v13],none⟩,⟨s5,.mov,[v14],none⟩]) (.seq (.reg [⟨s15,.mov,[v1],none⟩,⟨s16,.build [e0,nils,nils] [(0,1)],[v15],none⟩,⟨s6,.alloc [e0,nils,nils],[],none⟩,⟨none,.store 3,[v6,v16],none⟩]) (.seq (.reg [⟨s17,.mov,[v5],none⟩,⟨s18,.call,[.const (g t51),v17,.const i5],none⟩,⟨s19,.bin .add .one,[.const i2,v18],none⟩,⟨s7,.mov,[v19],none⟩]) (.seq (.seq (.reg [⟨s8,.mov,[.const i0],none⟩]) (.block 0 (.loop c19_l0))) c19_rest)))))⟩:=rfl
def c20_l0:ACode:=(.seq (.seq (.reg [⟨s11,.mov,[v7],none⟩,⟨s12,.fieldAddr 1,[v2],none⟩,⟨s13,.load none,[v12],none⟩,⟨s14,.len .slc,[v13],none⟩,⟨s15,.bin .lss .one,[v11,v14],none⟩]) (.cond (v15) .skip (.exit 0))) (.seq (.block 1 (.reg [⟨s18,.mov,[v6],none⟩,⟨s19,.buildSl 5 1 [e0,e0,e0,e0,e0] [0,1,2,3,4],[.const (str [97]),.const (str [98]),.const (str [99]),.const (str [100]),.const e0],none⟩,⟨s20,.mov,[v5],none⟩,⟨s21,.call,[.const (g t51),v20,.const i5],none⟩,⟨s22,.indexAddr (.slc 1),[v19,v21],none⟩,⟨s23,.load none,[v22],none⟩,⟨s24,.buildSl 1 1 [e0] [0],[v23],none⟩,⟨s25,.append 1 16 false,[v18,v24],none⟩,⟨s6,.mov,[v25],none⟩])) (.reg [⟨s16,.mov,[v7],none⟩,⟨s17,.bin .add .one,[v16,.const i1],none⟩,⟨s7,.mov,[v17],none⟩])))
theorem c20_eq:c20=⟨27,[.tmp t4],(.seq (.reg [⟨s2,.box,[v0],none⟩,⟨s4,.mov,[.const nils],none⟩]) (.seq (.reg [⟨s8,.mov,[v1],none⟩,⟨s9,.build [nils,i0] [(0,1)],[v8],none⟩,⟨s10,.box,[v9],none⟩,⟨s5,.mov,[v10],none⟩]) (.seq (.reg [⟨s6,.mov,[.const nils],none⟩]) (.seq (.seq (.reg [⟨s7,.mov,[.const i0],none⟩]) (.block 0 (.loop c20_l0))) (.seq (.reg [⟨s26,.mov,[v6],none⟩,⟨s4,.mov,[v26],none⟩]) .ret)))))⟩:=rfl
def c36_l0:ACode:=(.seq (.seq (.reg [⟨s6,.mov,[v5],none⟩,⟨s7,.mov,[v0],none⟩,⟨s8,.len .slc,[v7],none⟩,⟨s9,.bin .lss .one,[v6,v8],none⟩,⟨s10,.mov,[v9],none⟩,⟨s11,.mov,[v5],(some (t10,true))⟩,⟨s12,.mov,[v1],(some (t10,true))⟩,⟨s13,.len .slc,[v12],(some (t10,true))⟩,⟨s14,.bin .lss .one,[v11,v13],(some (t10,true))⟩,⟨s15,.pick,[v10,v14,.const (bool false)],none⟩]) (.cond (v15) .skip (.exit 0))) (.seq (.block 1 (.seq (.dreg [⟨⟨s18,.mov,[v0],none⟩,false,0,9,false,[],false⟩,⟨⟨s19,.mov,[v5],none⟩,false,0,9,false,[],false⟩,⟨⟨s20,.indexAddr (.slc 1),[v18,v19],none⟩,false,0,9,false,[],false⟩,⟨⟨s21,.load none,[v20],none⟩,false,0,9,false,[],false⟩,⟨⟨s22,.mov,[v1],none⟩,false,0,9,false,[],false⟩,⟨⟨s23,.mov,[v5],none⟩,false,0,9,false,[],false⟩,⟨⟨s24,.indexAddr (.slc 1),[v22,v23],none⟩,false,0,9,false,[],false⟩,⟨⟨s25,.load none,[v24],none⟩,false,0,9,false,[],false⟩,⟨⟨s26,.bin .neq .one,[v21,v25],none⟩,false,0,9,false,[],true⟩]) (.cond (v26) (.seq (.dreg [⟨⟨s27,.mov,[v0],none⟩,false,0,10,false,[],false⟩,⟨⟨s28,.mov,[v5],none⟩,false,0,10,false,[],false⟩,⟨⟨s29,.indexAddr (.slc 1),[v27,v28],none⟩,false,0,10,false,[],false⟩,⟨⟨s30,.load none,[v29],none⟩,false,0,10,false,[],false⟩,⟨⟨s31,.mov,[v1],none⟩,false,0,10,false,[],false⟩,⟨⟨s32,.mov,[v5],none⟩,false,0,10,false,[],false⟩,⟨⟨s33,.indexAddr (.slc 1),[v31,v32],none⟩,false,0,10,false,[],false⟩,⟨⟨s34,.load none,[v33],none⟩,false,0,10,false,[],false⟩,⟨⟨s35,.bin .lss .one,[v30,v34],none⟩,false,0,10,false,[],false⟩,⟨⟨s4,.mov,[v35],none⟩,false,0,10,false,[],true⟩]) .ret) .skip))) (.reg [⟨s16,.mov,[v5],none⟩,⟨s17,.bin .add .one,[v16,.const i1],none⟩,⟨s5,.mov,[v17],none⟩])))
theorem c36_eq:c36=⟨41,[.tmp t4],(.seq (.reg [⟨s4,.mov,[.const (bool false)],none⟩]) (.seq (.seq (.reg [⟨s5,.mov,[.const i0],none⟩]) (.block 0 (.loop c36_l0))) (.seq (.reg [⟨s36,.mov,[v0],none⟩,⟨s37,.len .slc,[v36],none⟩,⟨s38,.mov,[v1],none⟩,⟨s39,.len .slc,[v38],none⟩,⟨s40,.bin .lss .one,[v37,v39],none⟩,⟨s4,.mov,[v40],none⟩]) .ret)))⟩:=rfl
def c37_l0:ACode:=(.seq (.reg [⟨s14,.bin .lss .one,[v13,v12],none⟩]) (.seq (.cond (v14) .skip (.exit 0)) (.seq (.block 1 (.seq (.reg [⟨s15,.mov,[v13],none⟩,⟨s5,.mov,[v15],none⟩]) (.seq (.dreg [⟨⟨s16,.mov,[v0],none⟩,false,0,9,false,[],false⟩,⟨⟨s17,.mov,[v5],none⟩,false,0,9,false,[],false⟩,⟨⟨s18,.indexAddr (.slc 1),[v16,v17],none⟩,false,0,9,false,[],false⟩,⟨⟨s19,.load none,[v18],none⟩,false,0,9,false,[],false⟩,⟨⟨s20,.mov,[v1],none⟩,false,0,9,false,[],false⟩,⟨⟨s21,.mov,[v5],none⟩,false,0,9,false,[],false⟩,⟨⟨s22,.indexAddr (.slc 1),[v20,v21],none⟩,false,0,9,false,[],false⟩,⟨⟨s23,.load none,[v22],none⟩,false,0,9,false,[],false⟩,⟨⟨s24,.bin .neq .one,[v19,v23],none⟩,false,0,9,false,[],true⟩]) (.cond (v24) (.seq (.reg [⟨s4,.mov,[.const (bool false)],none⟩]) .ret) .skip)))) (.reg [⟨s25,.bin .add .one,[v13,.const i1],none⟩,⟨s13,.mov,[v25],none⟩]))))
theorem c37_eq:c37=⟨26,[.tmp t4],(.seq (.reg [⟨s4,.mov,[.const (bool false)],none⟩]) (.seq (.seq (.reg [⟨s6,.mov,[v0],none⟩,⟨s7,.len .slc,[v6],none⟩,⟨s8,.mov,[v1],none⟩,⟨s9,.len .slc,[v8],none⟩,⟨s10,.bin .neq .one,[v7,v9],none⟩]) (.cond (v10) (.seq (.reg [⟨s4,.mov,[.const (bool false)],none⟩]) .ret) .skip)) (.seq (.seq (.reg [⟨s11,.mov,[v0],none⟩,⟨s12,.len .slc,[v11],none⟩,⟨s13,.mov,[.const i0],none⟩]) (.block 0 (.loop c37_l0))) (.seq (.reg [⟨s4,.mov,[.const (bool true)],none⟩]) .ret))))⟩:=rfl
def c62_l0:ACode:=(.seq (.reg [⟨s12,.bin .lss .one,[v11,v10],none⟩]) (.seq (.cond (v12) .skip (.exit 0)) (.seq (.block 1 (.seq (.reg [⟨s13,.mov,[v11],none⟩,⟨s14,.indexAddr (.slc 1),[v9,v11],none⟩,⟨s15,.load none,[v14],none⟩,⟨s5,.mov,[v13],none⟩,⟨s6,.mov,[v15],none⟩]) (.seq (.seq (.reg [⟨s16,.mov,[v5],none⟩,⟨s17,.mov,[v1],none⟩,⟨s18,.len .slc,[v17],none⟩,⟨s19,.bin .geq .one,[v16,v18],none⟩]) (.cond (v19) (.seq (.reg [⟨s4,.mov,[.const i1],none⟩]) .ret) .skip)) (.seq (.reg [⟨s20,.mov,[v1],none⟩,⟨s21,.mov,[v5],none⟩,⟨s22,.indexAddr (.slc 1),[v20,v21],none⟩,⟨s23,.load none,[v22],none⟩,⟨s7,.mov,[v23],none⟩]) (.seq (.reg [⟨s24,.mov,[v6],none⟩,⟨s25,.mov,[v7],none⟩,⟨s26,.call,[.const (g t92),v24,v25],none⟩,⟨s8,.mov,[v26],none⟩]) (.seq (.reg [⟨s27,.mov,[v8],none⟩,⟨s28,.bin .neq .one,[v27,.const i0],none⟩]) (.cond (v28) (.seq (.reg [⟨s29,.mov,[v8],none⟩,⟨s4,.mov,[v29],none⟩]) .ret) .skip))))))) (.reg [⟨s30,.bin .add .one,[v11,.const i1],none⟩,⟨s11,.mov,[v30],none⟩]))))
theorem c62_eq:c62=⟨36,[.tmp t4],(.seq (.reg [⟨s4,.mov,[.const i0],none⟩]) (.seq (.seq (.reg [⟨s9,.mov,[v0],none⟩,⟨s10,.len .slc,[v9],none⟩,⟨s11,.mov,[.const i0],none⟩]) (.block 0 (.loop c62_l0))) (.seq (.seq (.reg [⟨s31,.mov,[v0],none⟩,⟨s32,.len .slc,[v31],none⟩,⟨s33,.mov,[v1],none⟩,⟨s34,.len .slc,[v33],none⟩,⟨s35,.bin .lss .one,[v32,v34],none⟩]) (.cond (v35) (.seq (.reg [⟨s4,.mov,[.const (int .i64 (.negSucc 0))],none⟩]) .ret) .skip)) (.seq (.reg [⟨s4,.mov,[.const i0],none⟩]) .ret))))⟩:=rfl
end Go.Abs.T
end
section
namespace Go.Abs.Sym
open Go.Abs.T
open Go.Proofs
def dV (sz:Nat) (t:Tr AB) (lo hi nb:Nat) (pv:AV) (rs:List (List AV)):Prop :=
 (rs=[]∧pv=.nils∧nb=0)∨(0<rs.length∧pv=.slc (up .e nb) 0 rs.length sz none∧t.get (up .e nb)=some (.cells rs.flatten true)∧lo≤nb∧nb<hi)
theorem dV.one {sz:Nat} {t:Tr AB} {lo hi nb:Nat} {pv:AV} {rs:List (List AV)} (h:dV sz t lo hi nb pv rs):pv.one=true:=by
 rcases h with ⟨_,rfl,_⟩ | ⟨_,rfl,_⟩<;>rfl
theorem dV.keep {sz:Nat} {t t':Tr AB} {lo hi hi' nb:Nat} {pv:AV} {rs:List (List AV)} (h:dV sz t lo hi nb pv rs) (hh:hi≤hi') (ht:lo≤nb→nb<hi→t'.get (up .e nb)=t.get (up .e nb)):dV sz t' lo hi' nb pv rs:=by
 rcases h with h | ⟨h1,h2,h3,h4,h5⟩
 ·exact .inl h
 ·exact .inr ⟨h1,h2,(ht h4 h5).trans h3,h4,by omega⟩
theorem dV.append {sz by_:Nat} {t:Tr AB} {lo hi nb m x:Nat} {pv:AV} {rs:List (List AV)} {row:List AV} {sp:Bool} {A:Option (AV×H)} (h:dV sz t lo hi nb pv rs)
  (hA:jD ⟨up .e m,t,.lf⟩ sz by_ pv (.slc (up .e x) 0 1 sz (some 1))=A) (hx:t.get (up .e x)=some (.cells row sp)) (hrow:row.length=sz) (hone:mF row=true) (hlen:∀ r∈rs,r.length=sz) (hb:by_≤1000) (hn:rs.length<1000000) (hm:lo≤m) :
  ∃ t2,A=some (.slc (up .e m) 0 (rs.length+1) sz none,⟨up .e (m+1),t2,.lf⟩)∧t2.get (up .e m)=some (.cells (rs++[row]).flatten true)∧(∀ i,i≠m→(lo≤nb→nb<hi→i≠nb)→t2.get (up .e i)=t.get (up .e i))∧dV sz t2 lo (m+1) m (.slc (up .e m) 0 (rs.length+1) sz none) (rs++[row]):=by
 have htk:takeD row 0 sz=some row:=pW hrow
 have hfl:rs.flatten.length=rs.length*sz:=xCb (Rw:=fun r=>r.length=sz) (fun _ h=>h) rs hlen
 have hff:(rs++[row]).flatten=rs.flatten++row:=by simp
 have hbig:∀ n,n≤1000001→(Nat.ble xQ (n*by_)||Nat.ble xQ n)=false:=by
  intro n hn
  have h1:n*by_≤1000001*1000:=Nat.mul_le_mul hn hb
  have h2:Nat.ble xQ (n*by_)=false:=by
   rw [nD]; exact decide_eq_false (by have hB:1000001000<xQ:=(by decide); omega)
  have h3:Nat.ble xQ n=false:=by
   rw [nD]; exact decide_eq_false (by have hB:1000001000<xQ:=(by decide); omega)
  rw [h2,h3]; rfl
 have hf1:bN ⟨up .e m,t,.lf⟩ sz 1 (.slc (up .e x) 0 1 sz (some 1))=some row:=by
  simp only [bN,yH,nD,decide_true,Nat.le_refl,Bool.and_self,cond_true,H.cellsAt,hx,Nat.one_mul,htk]
 have hgo:∀ t2:Tr AB,t2.get (up .e m)=some (.cells (rs++[row]).flatten true)→dV sz t2 lo (m+1) m (.slc (up .e m) 0 (rs.length+1) sz none) (rs++[row]):=by
  intro t2 h2
  have hl:(rs++[row]).length=rs.length+1:=by rw [List.length_append]; rfl
  exact .inr ⟨by omega,by rw [hl],h2,hm,by omega⟩
 rw [← hA]
 rcases h with ⟨rfl,rfl,rfl⟩ | ⟨h1,rfl,h2,h3,h4⟩
 ·refine ⟨t.put (up .e m) (.cells row true),?_,?_,?_,?_⟩
  ·have h10:Nat.beq 1 0=false:=rfl
   simp only [jD,xD9,hf1,h10,hbig 1 (by omega),cond_false,H.newB,wC,List.length_nil,Nat.zero_add]
  ·rw [Tr.get_put,if_pos rfl]; simp
  ·intro i hi _
   rw [Tr.get_put,if_neg (fun e=>hi (by rw [qL] at e; exact e))]
  ·exact hgo _ (by rw [Tr.get_put,if_pos rfl]; simp)
 ·refine ⟨(t.del (up .e nb)).put (up .e m) (.cells (rs.flatten++row) true),?_,?_,?_,?_⟩
  ·have hl2:Nat.beq rs.flatten.length (rs.length*sz)=true:=by rw [hfl,yH]; exact decide_eq_true rfl
   have hro:((Tr.lf:Tr (List AV)).get (up .e nb)).isNone=true:=rfl
   have hzz:Nat.beq sz sz=true:=by rw [yH]; exact decide_eq_true rfl
   have h10:Nat.beq 1 0=false:=rfl
   have h00:Nat.beq 0 0=true:=rfl
   simp only [jD,xD9,hf1,hzz,h10,h00,hbig (rs.length+1) (by omega),cond_false,cond_true,h2,hone,hl2,hro,Bool.and_self,wC]
  ·rw [Tr.get_put,if_pos rfl,hff]
  ·intro i hi hi2
   rw [Tr.get_put,if_neg (fun e=>hi (by rw [qL] at e; exact e)),Tr.get_del,if_neg (fun e=>hi2 h3 h4 (by rw [qL] at e; exact e))]
  ·exact hgo _ (by rw [Tr.get_put,if_pos rfl,hff])
structure MadeI (nm:List Nat) (L:Sl Int) (many m:Nat) (s:St):Prop where
 ex : ∃ fr j t nb pv rs Et,s=⟨fr,[],⟨up .e j,t,.lf⟩,.no,none,t19⟩∧3≤j∧rs.length+m=many ∧
  fr.get t4=some (.ptr (up .e 0) 0)∧fr.get t5=some (.ptr (up .e 1) 0)∧fr.get t6=some (.ptr (up .e 2) 0)∧fr.get t7=some (.int .i64 (.ofNat many))∧fr.get t8=some (.int .i64 (.ofNat rs.length)) ∧
  t.get (up .e 0)=some (.cells [e0,.nils,.nils] false)∧qY t (up .e 1) L∧t.get (up .e 2)=some (.cells [.str nm,pv,.nils] false) ∧
  dV 7 t 3 j nb pv rs∧dJ Et rs∧Typed edC Et t∧(∀ i n,Et i n→3≤i∧i<j∧i≠nb)
end Go.Abs.Sym
end
end
