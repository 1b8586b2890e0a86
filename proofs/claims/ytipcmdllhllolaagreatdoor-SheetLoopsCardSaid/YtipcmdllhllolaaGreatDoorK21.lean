/- Contexts; data; types that numbers make. -/
import Derived.Test.YtipcmdllhllolaaGreatDoorK20
import Derived.Test.YtipcmdllhllolaaGreatDoorK15
import Derived.Test.YtipcmdllhllolaaGreatDoorK16
import Derived.Test.YtipcmdllhllolaaGreatDoorK05
noncomputable section
section
namespace Go.Abs.Sym
open Go.Abs.T
open Go.Proofs
def memP (i:Pth):List Pth→Bool
  | []=>false
  | p::ps=>Pth.beq i p||memP i ps
def over (X:Ctx) (fz dp:List Pth):Ctx:={ X with sums:=sumsOf X 50 (fun i=>memP i fz) (fun i=>memP i dp) X.sums }
structure Lev [Env] (X:Ctx):Prop where
  ok:XOK Tryz.prog X
  globs:X.globs=.lf
  sums:∀ X',SumsOK Tryz.prog X' X.sums
  exts:∀ X' i args h v h',X.exts i args h=some (v,h')→∀ ρ w (avs:Array Value),HR Tryz.prog X' ρ h w→VRs w ρ (Lv ρ h) args avs.toList→CallR Tryz.prog X' ρ h w (callFunc i.num avs) (.ret v h')
theorem Lev.over [Env] {X:Ctx} (l:Lev X) (fz dp:List Pth):Lev (over X fz dp) where
  ok:=⟨l.ok.mix,l.ok.funcs,l.exts _,sumsOf_ok l.ok l.globs (l.sums _)⟩
  globs:=l.globs
  sums:=fun _=>sumsOf_ok l.ok l.globs (l.sums _)
  exts:=l.exts
def K0:Ctx:={ globs:=.lf,funcs:=funcs,sums:=sanS,exts:=T.exts,fuel:=100000 }
def K1:Ctx:=over K0 [t61,t59,t47,t60,t27,t30,t74,t24,t19,t21,t33,t110,t111,t67] []
def K2:Ctx:=over K1 [t75] []
def K3:Ctx:=over K2 [t20,t66] []
def K4:Ctx:=over K3 [t7,t28,t29,t35,t34,t36,t37] []
def K5:Ctx:=over K4 [t8] []
def K6:Ctx:=over K5 [t10,t13] []
theorem lev0 [Env]:Lev K0:=⟨⟨mixed,funcs_ok,exts_ok,sanS_ok⟩,rfl,fun _=>sanS_ok,fun _ i args h v h' he ρ w avs=>exts_ok i args h v h' he ρ w avs⟩
mutual
theorem deep_frz:∀ (d:Nat) (h:H) (v:AV),frz v=true→deep d h v=v
  | 0,_,_,_=>rfl
  | d+1,h,.bool _,_=>rfl
  | d+1,h,.int _ _,_=>rfl
  | d+1,h,.str _,_=>rfl
  | d+1,h,.nilp,_=>rfl
  | d+1,h,.ptr _ _,_=>rfl
  | d+1,h,.rptr _,_=>rfl
  | d+1,h,.nils,_=>rfl
  | d+1,h,.slc _ _ _ _ _,e=>by simp [frz] at e
  | d+1,h,.rslc n cs,e=>by
    simp only [frz] at e
    simp only [deep,deeps_frz d h cs e]
  | d+1,h,.eslc,_=>rfl
  | d+1,h,.nilm,_=>rfl
  | d+1,h,.mapv _,e=>by simp [frz] at e
  | d+1,h,.rmap ks vs,e=>by
    simp only [frz,Bool.and_eq_true] at e
    simp only [deep,deeps_frz d h ks e.1,deeps_frz d h vs e.2]
  | d+1,h,.nilf,_=>rfl
  | d+1,h,.fn _ _ _,_=>rfl
  | d+1,h,.yield _,_=>rfl
  | d+1,h,.nili,_=>rfl
  | d+1,h,.iface t v,e=>by
    simp only [frz] at e
    simp only [deep,deep_frz d h v e]
  | d+1,h,.agg cs,e=>by
    simp only [frz] at e
    simp only [deep,deeps_frz d h cs e]
  | d+1,h,.tup cs,e=>by
    simp only [frz] at e
    simp only [deep,deeps_frz d h cs e]
  | d+1,h,.sym _,_=>rfl
theorem deeps_frz:∀ (d:Nat) (h:H) (vs:List AV),frzs vs=true→vs.map (deep d h)=vs
  | _,_,[],_=>rfl
  | d,h,v::vs,e=>by
    simp only [frzs,Bool.and_eq_true] at e
    simp only [List.map_cons,deep_frz d h v e.1,deeps_frz d h vs e.2]
end
theorem over_fz {X:Ctx} {fz dp:List Pth} {f:Pth} {args:List AV} {v:AV} {h1:H} (hm:memP f fz=true) (hc:callN X 50 (.fn f [] []) args h0=.ret v h1) (ha:frzs args=true) (hv:frz (deep 8 h1 v)=true) (h:H):(over X fz dp).sums f args h=some (deep 8 h1 v):=by
  simp only [over,sumsOf,hm,cond_true,hc,ha,hv,Bool.and_self]
theorem over_fz' {X:Ctx} {fz dp:List Pth} {f:Pth} {args:List AV} {v:AV} {h1:H} (hm:memP f fz=true) (hc:callN X 50 (.fn f [] []) args h0=.ret v h1) (ha:frzs args=true) (hv:frz v=true) (h:H):(over X fz dp).sums f args h=some v:=by
  have:=over_fz (dp:=dp) hm hc ha (by rw [deep_frz _ _ _ hv]; exact hv) h
  rwa [deep_frz _ _ _ hv] at this
structure Sl (α:Type) where
  kind:Nat
  l:List α
def slV {α:Type} (f:α→List AV) (s:Sl α):AV :=
  match s.l with
  | []=>match s.kind with
    | 0=>.nils
    | _=>.rslc 0 []
  | a::l=>.rslc (l.length+1) (f a++l.flatMap f)
structure Ed where
  a:Int
  b:Int
  c:Int
  d:Int
  e:Int
  f:Int
  g:Int
  deriving DecidableEq
structure Lg where
  pad:List Nat
  gr:Int
  deriving DecidableEq
structure PadD where
  nm:List Nat
  kd:Int
  es:Sl Ed
  r:Int
  x:Int
  y:Int
  dr:Int
structure GateD where
  kd:Int
  legs:Sl Lg
structure TypD where
  nm:List Nat
  pads:Sl PadD
  gates:Sl GateD
def edC (e:Ed):List AV:=[.int .i64 e.a,.int .i64 e.b,.int .i64 e.c,.int .i64 e.d,.int .i64 e.e,.int .i64 e.f,.int .i64 e.g]
def lgC (l:Lg):List AV:=[.str l.pad,.int .i64 l.gr]
def padC (p:PadD):List AV:=[.str p.nm,.int .i64 p.kd,slV edC p.es,.int .i64 p.r,.int .i64 p.x,.int .i64 p.y,.int .i64 p.dr]
def gateC (g:GateD):List AV:=[.int .i64 g.kd,slV lgC g.legs]
def tyC (t:TypD):List AV:=[.str t.nm,slV padC t.pads,slV gateC t.gates]
theorem on_slV {α:Type} (f:α→List AV) (s:Sl α):(slV f s).one=true:=by
  unfold slV
  split
  · split<;>rfl
  · rfl
theorem cl_slV {α:Type} (f:α→List AV) (s:Sl α):(slV f s).cells=[slV f s]:=by
  unfold slV
  split
  · split<;>rfl
  · rfl
theorem frzs_append:∀ (a b:List AV),frzs (a++b)=(frzs a&&frzs b)
  | [],b=>by simp only [List.nil_append,frzs,Bool.true_and]
  | v::a,b=>by simp only [List.cons_append,frzs,frzs_append a b,Bool.and_assoc]
theorem frzs_flat {α:Type} {f:α→List AV} (hf:∀ a,frzs (f a)=true):∀ l:List α,frzs (l.flatMap f)=true
  | []=>rfl
  | a::l=>by rw [List.flatMap_cons,frzs_append,hf,frzs_flat hf l]; rfl
theorem frz_slV {α:Type} {f:α→List AV} (hf:∀ a,frzs (f a)=true) (s:Sl α):frz (slV f s)=true:=by
  unfold slV
  cases s.l with
  | nil=>dsimp only; split<;>rfl
  | cons a l=>simp only [frz,frzs_append,hf,frzs_flat hf,Bool.and_self]
theorem frz_ed (e:Ed):frzs (edC e)=true:=rfl
theorem frz_lg (l:Lg):frzs (lgC l)=true:=rfl
theorem frz_pad (p:PadD):frzs (padC p)=true:=by
  simp only [padC,frzs,frz,frz_slV frz_ed,Bool.and_self]
theorem frz_gate (g:GateD):frzs (gateC g)=true:=by
  simp only [gateC,frzs,frz,frz_slV frz_lg,Bool.and_self]
theorem frz_ty (t:TypD):frzs (tyC t)=true:=by
  simp only [tyC,frzs,frz,frz_slV frz_pad,frz_slV frz_gate,Bool.and_self]
section
variable {α:Type} {f:α→List AV} {sz:Nat} (hf:∀ a,(f a).length=sz)
theorem len_slV (f:α→List AV) (h:H) (s:Sl α):lenVal h .slc (slV f s)=some (.int .i64 (.ofNat s.l.length)):=by
  unfold slV
  cases s.l with
  | nil=>dsimp only; split<;>rfl
  | cons a l=>rfl
include hf in
theorem drop_flat:∀ (l:List α) (k:Nat),(l.flatMap f).drop (k*sz)=(l.drop k).flatMap f
  | l,0=>by rw [Nat.zero_mul]; rfl
  | [],k+1=>by simp only [List.flatMap_nil,List.drop_nil]
  | a::l,k+1=>by
    rw [List.flatMap_cons,Nat.succ_mul,Nat.add_comm,← List.drop_drop,List.drop_left' (hf a),List.drop_succ_cons]
    exact drop_flat l k
include hf in
theorem at_slV (hsz:0<sz) {s:Sl α} {k:Nat} {a:α} (h:s.l[k]?=some a):indexAddrA (.slc sz) (slV f s) (.int .i64 (.ofNat k))=some (.rptr (f a++(s.l.drop (k+1)).flatMap f)):=by
  have hk:=(List.getElem?_eq_some_iff.1 h).1
  unfold slV
  cases hs:s.l with
  | nil=>rw [hs] at hk; exact absurd hk (by simp)
  | cons b l =>
    rw [hs] at h hk
    have h1:leI 0 (.ofNat k)=true:=rfl
    have h2:ltI (.ofNat k) (.ofNat (l.length+1))=true:=Nat.ble_eq_true_of_le hk
    have hd:=drop_flat hf (b::l) k
    rw [List.drop_eq_getElem_cons hk,(List.getElem?_eq_some_iff.1 h).2,List.flatMap_cons,List.flatMap_cons] at hd
    cases hc:f b++l.flatMap f with
    | nil =>
      have:=congrArg List.length hc
      rw [List.length_append,hf] at this
      simp only [List.length_nil] at this
      omega
    | cons c cs =>
      simp only [indexAddrA,h1,h2,Bool.and_true,cond_true,Int.toNat,hc]
      rw [← hc,hd]
end
theorem len_ed (e:Ed):(edC e).length=7:=rfl
theorem len_lg (e:Lg):(lgC e).length=2:=rfl
theorem len_pad (e:PadD):(padC e).length=7:=rfl
theorem len_gate (e:GateD):(gateC e).length=2:=rfl
end Go.Abs.Sym
end
section
namespace Go.Abs.Sym
open Go.Abs.T
open Go.Proofs
theorem wr_id {z:Int} (h1 : -9223372036854775808≤z) (h2:z<9223372036854775808):wrapA .i64 z=z:=by
  cases z with
  | ofNat m=>exact wrap_small (by simp only [Int.ofNat_eq_natCast] at h2; omega)
  | negSucc m =>
    have hb:Nat.blt m 9223372036854775808=true:=Nat.ble_eq_true_of_le (by rw [Int.negSucc_eq] at h1; omega)
    simp only [wrapA,hb,cond_true]
theorem eqI_pos {m:Nat} (h:0<m):eqI (Int.ofNat m) 0=false:=by
  cases m with
  | zero=>cases h
  | succ m=>rfl
theorem mod_run (a:Int) {m:Nat} (h0m:0<m) (hm:m<4000000000000000000):∃ (x:Nat) (h1:H),x<m∧callN K0 50 (.fn t61 [] []) [.int .i64 a,.int .i64 (.ofNat m)] h0=.ret (.int .i64 (.ofNat x)) h1:=by
  have hz:=eqI_pos h0m
  have hs:K0.sums t61 ([]++[.int .i64 a,.int .i64 (.ofNat m)]++[]) h0=none:=rfl
  have hF:K0.funcs.get t61=some c61:=rfl
  have hb1 : -Int.ofNat m<a.tmod (.ofNat m):=by simp only [Int.ofNat_eq_natCast]; have:=Int.lt_tmod_of_pos a (b:=(m:Int)) (by omega); omega
  have hb2:a.tmod (.ofNat m)<Int.ofNat m:=by simp only [Int.ofNat_eq_natCast]; exact Int.tmod_lt_of_pos a (by omega)
  simp only [Int.ofNat_eq_natCast] at hb1 hb2
  have hw:wrapA .i64 (a.tmod (.ofNat m) + .ofNat m)=a.tmod (.ofNat m) + .ofNat m:=wr_id (by simp only [Int.ofNat_eq_natCast]; omega) (by simp only [Int.ofNat_eq_natCast]; omega)
  have hx:∃ x:Nat,x<m∧(a.tmod (.ofNat m) + .ofNat m).tmod (.ofNat m)=.ofNat x:=by
    simp only [Int.ofNat_eq_natCast]
    have h1:0≤a.tmod (m:Int)+m:=by omega
    have h2:=Int.tmod_nonneg (m:Int) h1
    have h3:=Int.tmod_lt_of_pos (a.tmod (m:Int)+m) (b:=(m:Int)) (by omega)
    exact ⟨((a.tmod (m:Int)+m).tmod m).toNat,by omega,by omega⟩
  obtain ⟨x,hxm,hx⟩:=hx
  refine ⟨x,h0,hxm,?_⟩
  rw [call_fn hs hF]
  simp +decide only [c61,execA,opsA,wantedA,evalAll,evalA,oneA,st_mov,st_bin,binAV,St.put,gp,frameOf,Pth.succ,List.nil_append,List.append_nil,if_true,if_false,cond_true,cond_false,nbeq,decide_true,eqK,kindNo,leaveA,dfrsA,resultA,resultsA,hz,hw,hx]
theorem mod_sum (a:Int) {m:Nat} (h0m:0<m) (hm:m<4000000000000000000):∃ x:Nat,x<m∧∀ h,K1.sums t61 [.int .i64 a,.int .i64 (.ofNat m)] h=some (.int .i64 (.ofNat x)):=by
  obtain ⟨x,h1,hx,hr⟩:=mod_run a h0m hm
  exact ⟨x,hx,fun h=>over_fz' rfl hr rfl rfl h⟩
def nmOf:Nat→List Nat
  | 0=>[80,49] | 1=>[80,50] | 2=>[80,51] | 3=>[80,52] | 4=>[80,53] | _=>[80,54]
theorem nm_0 (h:H):K1.sums t59 [.int .i64 (.ofNat 0)] h=some (.str (nmOf 0)):=by kernel_rfl
theorem nm_1 (h:H):K1.sums t59 [.int .i64 (.ofNat 1)] h=some (.str (nmOf 1)):=by kernel_rfl
theorem nm_2 (h:H):K1.sums t59 [.int .i64 (.ofNat 2)] h=some (.str (nmOf 2)):=by kernel_rfl
theorem nm_3 (h:H):K1.sums t59 [.int .i64 (.ofNat 3)] h=some (.str (nmOf 3)):=by kernel_rfl
theorem nm_4 (h:H):K1.sums t59 [.int .i64 (.ofNat 4)] h=some (.str (nmOf 4)):=by kernel_rfl
theorem nm_5 (h:H):K1.sums t59 [.int .i64 (.ofNat 5)] h=some (.str (nmOf 5)):=by kernel_rfl
theorem names_sum {k:Nat} (hk:k<6) (h:H):K1.sums t59 [.int .i64 (.ofNat k)] h=some (.str (nmOf k)):=by
  match k,hk with
  | 0,_=>exact nm_0 h
  | 1,_=>exact nm_1 h
  | 2,_=>exact nm_2 h
  | 3,_=>exact nm_3 h
  | 4,_=>exact nm_4 h
  | 5,_=>exact nm_5 h
def discE (x y:Int):Sl Ed:=⟨0,[⟨1,x,y,x,y,0,0⟩]⟩
theorem disc_sum (x y r:Int) (h:H):K1.sums t47 [.agg [.int .i64 x,.int .i64 y],.int .i64 r] h=some (.agg [.int .i64 1,slV edC (discE x y),.int .i64 r]):=by kernel_rfl
def rectE (a b c d:Int):Sl Ed:=⟨0,[⟨1,a,b,c,b,0,0⟩,⟨1,c,b,c,d,0,0⟩,⟨1,c,d,a,d,0,0⟩,⟨1,a,d,a,b,0,0⟩]⟩
theorem rect_sum (a b c d:Int) (h:H):K1.sums t60 [.agg [.int .i64 a,.int .i64 b,.int .i64 c,.int .i64 d]] h=some (.agg [.int .i64 2,slV edC (rectE a b c d),.int .i64 0]):=by kernel_rfl
theorem takeD_all {cs:List AV} {n:Nat} (h:cs.length=n):takeD cs 0 n=some cs:=by
  simp only [takeD,List.drop_zero,nbeq]
  rw [List.take_of_length_le (by omega),h,decide_eq_true rfl]
  rfl
theorem len_flat {α:Type} {f:α→List AV} {sz:Nat} (hf:∀ a,(f a).length=sz):∀ l:List α,(l.flatMap f).length=l.length*sz
  | []=>by simp only [List.flatMap_nil,List.length_nil,Nat.zero_mul]
  | a::l=>by rw [List.flatMap_cons,List.length_append,hf,len_flat hf l,List.length_cons,Nat.succ_mul,Nat.add_comm]
theorem sums2_1 (f:Pth) (xs:List AV) (h:H) (h1:Pth.beq f t75=false):K2.sums f xs h=K1.sums f xs h:=by
  simp only [K2,over,sumsOf,memP,h1,Bool.or_self,cond_false]
end Go.Abs.Sym
end
section
namespace Go.Abs.Sym
open Go.Abs.T
open Go.Proofs
def Stp (I:Nat→St→Prop) (Q:Out→Prop) (m:Nat):Out→Prop
  | .nrm s=>∃ m',m'<m∧I m' s
  | .exit i s=>Q (.exit i s)
  | .ret s=>Q (.ret s)
  | .panic v s=>Q (.panic v s)
  | .bad n=>Q (.bad n)
theorem stp_n (I:Nat→St→Prop) (Q:Out→Prop) (m:Nat) (s:St):Stp I Q m (.nrm s)=∃ m',m'<m∧I m' s:=rfl
theorem stp_e (I:Nat→St→Prop) (Q:Out→Prop) (m i:Nat) (s:St):Stp I Q m (.exit i s)=Q (.exit i s):=rfl
theorem iter_rule {f:St→Out} (I:Nat→St→Prop) (Q:Out→Prop) (hs:∀ m s,I m s→Stp I Q m (f s)):∀ (n m:Nat) (s:St),I m s→m<n→Q (iterA f n s)
  | 0,m,s,_,h=>absurd h (Nat.not_lt_zero _)
  | n + 1,m,s,hi,h=>by
    have h1:=hs m s hi
    cases hf:f s with
    | nrm s' =>
      rw [hf] at h1
      obtain ⟨m',h2,h3⟩:=h1
      have:=iter_rule I Q hs n m' s' h3 (by omega)
      simpa only [iterA,hf] using this
    | exit i s'=>rw [hf] at h1; simp only [iterA,hf]; exact h1
    | ret s'=>rw [hf] at h1; simp only [iterA,hf]; exact h1
    | panic v s'=>rw [hf] at h1; simp only [iterA,hf]; exact h1
    | bad k=>rw [hf] at h1; simp only [iterA,hf]; exact h1
theorem eqI_dec (a b:Int):eqI a b=decide (a=b):=by
  cases a with
  | ofNat a=>cases b with
    | ofNat b =>
      show Nat.beq a b=_
      rw [nbeq]
      simp only [Int.ofNat.injEq]
    | negSucc b=>exact (decide_eq_false (fun h=>by cases h)).symm
  | negSucc a=>cases b with
    | ofNat b=>exact (decide_eq_false (fun h=>by cases h)).symm
    | negSucc b =>
      show Nat.beq a b=_
      rw [nbeq]
      simp only [Int.negSucc.injEq]
theorem eqS_dec:∀ a b:List Nat,eqS a b=decide (a=b)
  | [],[]=>rfl
  | [],b::y=>rfl
  | a::x,[]=>rfl
  | a::x,b::y=>by
    simp only [eqS,eqS_dec x y,nbeq,List.cons.injEq]
    by_cases h:a=b
    · simp only [h,decide_true,cond_true,true_and]
    · simp only [h,decide_false,cond_false,false_and]
theorem ltI_dec (a b:Nat):ltI (.ofNat a) (.ofNat b)=decide (a<b):=by
  show Nat.blt a b=_
  rw [Nat.blt,nble]
  rfl
end Go.Abs.Sym
end
section
namespace Go.Abs.Sym
open Go.Abs.T
open Go.Proofs
theorem up_ne {p:Pth} {i j:Nat} (h:i≠j):(up p i=up p j)=False:=by rw [up_inj]; exact eq_false h
theorem Pth.beq_rfl (p:Pth):Pth.beq p p=true:=Pth.beq_iff.2 rfl
mutual
theorem beq_rfl:∀ v:AV,AV.beq v v=true
  | .bool b=>by simp [AV.beq]
  | .int k n=>by simp only [AV.beq,eqI_dec,decide_true,Bool.and_true]; exact eqK_iff.2 rfl
  | .str s=>by simp only [AV.beq,eqS_dec,decide_true]
  | .nilp=>by simp [AV.beq]
  | .ptr a b=>by simp [AV.beq,Pth.beq_rfl]
  | .rptr cs=>by simp only [AV.beq]; exact beqs_rfl cs
  | .nils=>by simp [AV.beq]
  | .slc a b c d none=>by simp [AV.beq,Pth.beq_rfl]
  | .slc a b c d (some x)=>by simp [AV.beq,Pth.beq_rfl]
  | .rslc n cs=>by simp only [AV.beq,nbeq,decide_true,Bool.true_and]; exact beqs_rfl cs
  | .eslc=>by simp [AV.beq]
  | .nilm=>by simp [AV.beq]
  | .mapv a=>by simp only [AV.beq]; exact Pth.beq_rfl a
  | .rmap a b=>by simp only [AV.beq,beqs_rfl,Bool.and_self]
  | .nilf=>by simp [AV.beq]
  | .fn f x y=>by simp only [AV.beq,Pth.beq_rfl,beqs_rfl,Bool.and_self]
  | .yield a=>by simp only [AV.beq]; exact Pth.beq_rfl a
  | .nili=>by simp [AV.beq]
  | .iface t v=>by simp only [AV.beq,nbeq,decide_true,Bool.true_and]; exact beq_rfl v
  | .agg cs=>by simp only [AV.beq]; exact beqs_rfl cs
  | .tup cs=>by simp only [AV.beq]; exact beqs_rfl cs
  | .sym i=>by simp [AV.beq]
theorem beqs_rfl:∀ vs:List AV,AV.beqs vs vs=true
  | []=>by simp [AV.beqs]
  | v::vs=>by simp only [AV.beqs,beq_rfl v,beqs_rfl vs,Bool.and_self]
end
def SlT {α:Type} (f:α→List AV) (sz:Nat) (Lt:Nat→List α→Prop) (v:AV) (ls:List α):Prop :=
  (∃ s:Sl α,s.l=ls∧v=slV f s)∨∃ i c,v=.slc (up .e i) 0 ls.length sz c∧Lt i ls
def Typed {α:Type} (f:α→List AV) (Lt:Nat→List α→Prop) (t:Tr AB):Prop :=
  ∀ i ls,Lt i ls→∃ sp:Bool,t.get (up .e i)=some (.cells (ls.flatMap f) sp)
theorem Typed.put {α:Type} {f:α→List AV} {Lt:Nat→List α→Prop} {t:Tr AB} (h:Typed f Lt t) {j:Nat} (hj:∀ i n,Lt i n→i≠j) (x:AB):Typed f Lt (t.put (up .e j) x):=by
  intro i n hi
  obtain ⟨sp,h2⟩:=h i n hi
  refine ⟨sp,?_⟩
  rw [gp,if_neg (fun e=>hj i n hi (by rw [up_inj] at e; exact e))]
  exact h2
theorem Typed.add {α:Type} {f:α→List AV} {Lt:Nat→List α→Prop} {t:Tr AB} (h:Typed f Lt t) {j:Nat} {ls:List α} {sp:Bool} (hj:t.get (up .e j)=some (.cells (ls.flatMap f) sp)):Typed f (fun i m=>Lt i m∨i=j∧m=ls) t:=by
  rintro i m (hi | ⟨rfl,rfl⟩)
  · exact h i m hi
  · exact ⟨sp,hj⟩
theorem SlT.mono {α:Type} {f:α→List AV} {sz:Nat} {Lt Lt':Nat→List α→Prop} {v:AV} {ls:List α} (h:SlT f sz Lt v ls) (hl:∀ i n,Lt i n→Lt' i n):SlT f sz Lt' v ls:=by
  rcases h with h | ⟨i,c,h1,h3⟩
  · exact .inl h
  · exact .inr ⟨i,c,h1,hl i _ h3⟩
theorem SlT.one {α:Type} {f:α→List AV} {sz:Nat} {Lt:Nat→List α→Prop} {v:AV} {ls:List α} (h:SlT f sz Lt v ls):v.one=true:=by
  rcases h with ⟨s,_,rfl⟩ | ⟨i,c,rfl,_⟩
  · exact on_slV f s
  · rfl
theorem take_flat {α:Type} {f:α→List AV} {sz:Nat} (hf:∀ a,(f a).length=sz):∀ (l:List α) (n:Nat),(l.flatMap f).take (n*sz)=(l.take n).flatMap f
  | l,0=>by rw [Nat.zero_mul]; rfl
  | [],n+1=>by simp only [List.flatMap_nil,List.take_nil]
  | a::l,n+1=>by
    rw [List.flatMap_cons,Nat.succ_mul,Nat.add_comm,List.take_add,List.take_left' (hf a),List.drop_left' (hf a),take_flat hf l n]
    rfl
theorem slV_rslc {α:Type} (f:α→List AV) (l:List α):slV f ⟨1,l⟩=.rslc l.length (l.flatMap f):=by
  cases l<;>rfl
theorem slV_ne {α:Type} (f:α→List AV) {s:Sl α} (h:s.l≠[]) (k:Nat):slV f s=slV f ⟨k,s.l⟩:=by
  obtain ⟨kd,l⟩:=s
  cases l with
  | nil=>exact absurd rfl h
  | cons a l=>rfl
theorem SlT.deep {α:Type} {f:α→List AV} {sz:Nat} {Lt:Nat→List α→Prop} {v:AV} {ls:List α} {nx:Pth} {t:Tr AB} (hf:∀ a,(f a).length=sz) (hz:∀ a,frzs (f a)=true) (hT:Typed f Lt t) (h:SlT f sz Lt v ls) (hn:ls≠[]) (d:Nat) :
    deep (d+1) ⟨nx,t,.lf⟩ v=slV f ⟨1,ls⟩:=by
  rcases h with ⟨s,rfl,rfl⟩ | ⟨i,c,rfl,h2⟩
  · rw [deep_frz _ _ _ (frz_slV hz s),slV_ne f hn 1]
  · obtain ⟨sp,h4⟩:=hT i _ h2
    have htk:takeD (ls.flatMap f) 0 (ls.length*sz)=some (ls.flatMap f):=by
      simp only [takeD,List.drop_zero]
      rw [take_flat hf,List.take_length,len_flat hf,nbeq,decide_eq_true rfl]
      rfl
    simp only [Abs.deep,H.cellsAt,h4,htk]
    rw [slV_rslc,deeps_frz _ _ _ (frzs_flat hz _)]
def inC (a:Int):List AV:=[.int .i64 a]
theorem len_in (a:Int):(inC a).length=1:=rfl
theorem frz_in (a:Int):frzs (inC a)=true:=rfl
def DrawAt (t:Tr AB) (d:Pth) (L:Sl Int):Prop:=∃ pos,pos≤L.l.length∧t.get d=some (.cells [slV inC L,.int .i64 (.ofNat pos)] false)
theorem next_call {X:Ctx} {m:Nat} {d:Pth} {n:Nat} {L:Sl Int} {q:Pth} {j:Nat} {t:Tr AB} {R:CRes} (hs:∀ xs h,X.sums t22 xs h=none) (hF:X.funcs.get t22=some c22)
    (hmod:∀ a:Int,∃ x:Nat,x<n∧∀ h,X.sums t61 [.int .i64 a,.int .i64 (.ofNat n)] h=some (.int .i64 (.ofNat x))) (h0n:0<n) (hL:L.l.length<9223372036854775808)
    (hR:callN X (m+2) (.fn t22 [] []) [.ptr d 0,.int .i64 (.ofNat n)] ⟨up q j,t,.lf⟩=R) (hd:DrawAt t d L) :
    ∃ x pos j',R=.ret (.int .i64 (.ofNat x)) ⟨up q j',t.put d (.cells [slV inC L,.int .i64 (.ofNat pos)] false),.lf⟩∧x<n∧j≤j'∧pos≤L.l.length:=by
  obtain ⟨pos,hpos,hd⟩:=hd
  rw [← hR,call_fn (F:=c22) (hs _ _) hF]
  by_cases hb:L.l.length≤pos
  · refine ⟨0,pos,j+10,?_,h0n,by omega,hpos⟩
    have hb':leI (.ofNat L.l.length) (.ofNat pos)=true:=Nat.ble_eq_true_of_le hb
    rw [put_self hd]
    simp +decide only [c22,execA,opsA,wantedA,evalAll,evalA,oneA,dregA,dopsA,dstep,isMaker,withP_nil,takesP_nil,leavesP_nil,rd_mov,rd_load,rd_nilp,rd_bin,rd_fieldp,rd_len,st_mov,st_load,st_bin,st_fieldAddr,st_nilCheck,st_len,ld_ptr,H.cellsAt,partA,tk_s,tk_0,tk_c,binAV,St.put,gp,frameOf,Pth.succ,List.nil_append,List.append_nil,if_true,if_false,cond_true,cond_false,Nat.zero_add,Nat.add_zero,skip_up0,up_up,up_succ,List.length,seesHeap,quiet,nbeq,decide_true,Nat.reduceAdd,Bool.and_false,Bool.or_true,List.all,eqK,kindNo,leaveA,dfrsA,resultA,resultsA,Option.map_some,hd,hb',len_slV]
  · have hb':leI (.ofNat L.l.length) (.ofNat pos)=false:=by
      cases h:leI (.ofNat L.l.length) (.ofNat pos) with
      | false=>rfl
      | true=>exact absurd (Nat.le_of_ble_eq_true h) hb
    obtain ⟨a,ha⟩:∃ a,L.l[pos]?=some a:=⟨_,List.getElem?_eq_getElem (by omega)⟩
    have ia:=at_slV (f:=inC) (sz:=1) len_in (by decide) ha
    obtain ⟨x,hx,hm⟩:=hmod a
    have hcall:∀ h,callN X (m+1) (.fn t61 [] []) [.int .i64 a,.int .i64 (.ofNat n)] h=.ret (.int .i64 (.ofNat x)) h:=fun h=>call_sum (hm h)
    have hw:=wr_add pos 1 (by omega)
    have hw':=wr_sub (pos+1) 1 (by omega) (by omega)
    refine ⟨x,pos+1,j+24,?_,hx,by omega,by omega⟩
    simp +decide only [c22,execA,opsA,wantedA,evalAll,evalA,oneA,dregA,dopsA,dstep,isMaker,withP_nil,takesP_nil,leavesP_nil,rd_mov,rd_load,rd_nilp,rd_bin,rd_fieldp,rd_indexAddr,rd_len,st_mov,st_load,st_store,st_bin,st_call,st_fieldAddr,st_indexAddr,st_nilCheck,st_len,ld_ptr,ld_rn,H.cellsAt,partA,tk_s,tk_0,tk_c,storeA,setAt,ones,on_int,cl_int,binAV,St.put,gp,frameOf,Pth.succ,List.nil_append,List.append_nil,List.cons_append,if_true,if_false,cond_true,cond_false,Nat.zero_add,Nat.add_zero,skip_up0,up_up,up_succ,List.length,seesHeap,quiet,nbeq,decide_true,Nat.reduceAdd,Bool.and_true,Bool.and_false,Bool.or_true,List.all,eqK,kindNo,leaveA,dfrsA,resultA,resultsA,Option.map_some,inC,hd,hb',len_slV,hw,hw',Nat.add_sub_cancel,ia,hcall]
def shK:Nat→Int
  | 0=>2
  | _=>1
def shR:Nat→Int
  | 0=>0 | 1=>4 | 2=>5 | 3=>6 | _=>4
def shE (x y:Int):Nat→List Ed
  | 0=>[⟨1,wrapA .i64 (x - .ofNat 6),wrapA .i64 (y - .ofNat 6),wrapA .i64 (x + .ofNat 6),wrapA .i64 (y - .ofNat 6),0,0⟩,⟨1,wrapA .i64 (x + .ofNat 6),wrapA .i64 (y - .ofNat 6),wrapA .i64 (x + .ofNat 6),wrapA .i64 (y + .ofNat 6),0,0⟩,
    ⟨1,wrapA .i64 (x + .ofNat 6),wrapA .i64 (y + .ofNat 6),wrapA .i64 (x - .ofNat 6),wrapA .i64 (y + .ofNat 6),0,0⟩,⟨1,wrapA .i64 (x - .ofNat 6),wrapA .i64 (y + .ofNat 6),wrapA .i64 (x - .ofNat 6),wrapA .i64 (y - .ofNat 6),0,0⟩]
  | 1 | 2 | 3=>[⟨1,x,y,x,y,0,0⟩]
  | _=>[⟨1,wrapA .i64 (x - .ofNat 2),y,wrapA .i64 (x + .ofNat 2),y,0,0⟩]
def pX (k:Nat):Int:=.ofNat (30*k)
def pY (b:Nat):Int:=.ofNat (10*b)
def padOf (k b s d:Nat):PadD:=⟨nmOf k,shK s,⟨1,shE (pX k) (pY b) s⟩,shR s,pX k,pY b,.ofNat (2*d)⟩
theorem shE_ne (x y:Int) (s:Nat):shE x y s≠[]:=by
  unfold shE
  split<;>exact List.cons_ne_nil _ _
def PadR (Et:Nat→List Ed→Prop) (k:Nat) (r:List AV):Prop:=∃ b s d ev,b<2∧s<5∧d<4∧r=[.str (nmOf k),.int .i64 (shK s),ev,.int .i64 (shR s),.int .i64 (pX k),.int .i64 (pY b),.int .i64 (.ofNat (2*d))]∧SlT edC 7 Et ev (shE (pX k) (pY b) s)
theorem PadR.len {Et:Nat→List Ed→Prop} {k:Nat} {r:List AV} (h:PadR Et k r):r.length=7:=by
  obtain ⟨b,s,d,ev,_,_,_,rfl,_⟩:=h
  rfl
theorem PadR.mono {Et Et':Nat→List Ed→Prop} {k:Nat} {r:List AV} (h:PadR Et k r) (hl:∀ i n,Et i n→Et' i n):PadR Et' k r:=by
  obtain ⟨b,s,d,ev,h1,h2,h3,rfl,h⟩:=h
  exact ⟨b,s,d,ev,h1,h2,h3,rfl,h.mono hl⟩
theorem PadR.deep {Et:Nat→List Ed→Prop} {k:Nat} {r:List AV} {nx:Pth} {t:Tr AB} (hT:Typed edC Et t) (h:PadR Et k r) (d:Nat):∃ b s e,b<2∧s<5∧e<4∧r.map (deep (d+1) ⟨nx,t,.lf⟩)=padC (padOf k b s e):=by
  obtain ⟨b,s,e,ev,h1,h2,h3,rfl,h⟩:=h
  refine ⟨b,s,e,h1,h2,h3,?_⟩
  simp only [List.map_cons,List.map_nil,h.deep (nx:=nx) len_ed frz_ed hT (shE_ne _ _ _) d]
  rfl
def PadRs (Et:Nat→List Ed→Prop) (rs:List (List AV)):Prop:=∀ k r,rs[k]?=some r→PadR Et k r
theorem PadRs.mem {Et:Nat→List Ed→Prop} {rs:List (List AV)} (h:PadRs Et rs) {r:List AV} (hr:r∈rs):r.length=7:=by
  obtain ⟨k,hk⟩:=List.mem_iff_getElem?.1 hr
  exact (h k r hk).len
theorem PadRs.mono {Et Et':Nat→List Ed→Prop} {rs:List (List AV)} (h:PadRs Et rs) (hl:∀ i n,Et i n→Et' i n):PadRs Et' rs:=fun k r e=>(h k r e).mono hl
theorem PadRs.nil {Et:Nat→List Ed→Prop}:PadRs Et []:=fun _ _ h=>by cases h
theorem PadRs.snoc {Et:Nat→List Ed→Prop} {rs:List (List AV)} {row:List AV} (h:PadRs Et rs) (hr:PadR Et rs.length row):PadRs Et (rs++[row]):=by
  intro k r e
  by_cases hk:k<rs.length
  · rw [List.getElem?_append_left hk] at e
    exact h k r e
  · rw [List.getElem?_append_right (by omega)] at e
    have hk0:k - rs.length=0:=by
      cases hn:k - rs.length with
      | zero=>rfl
      | succ n=>rw [hn] at e; cases e
    have:k=rs.length:=by omega
    subst this
    rw [Nat.sub_self] at e
    cases e
    exact hr
def GateR (Lt:Nat→List Lg→Prop) (r:List AV) (g:GateD):Prop:=∃ lv,r=[.int .i64 g.kd,lv]∧SlT lgC 2 Lt lv g.legs.l∧g.legs.l≠[]∧g.legs.kind=1
def GateRs (Lt:Nat→List Lg→Prop):List (List AV)→List GateD→Prop
  | [],[]=>True
  | r::rs,g::gs=>GateR Lt r g∧GateRs Lt rs gs
  | _,_=>False
theorem GateRs.len {Lt:Nat→List Lg→Prop}:∀ {rs:List (List AV)} {gs:List GateD},GateRs Lt rs gs→rs.length=gs.length∧∀ r∈rs,r.length=2
  | [],[],_=>⟨rfl,fun _ h=>absurd h List.not_mem_nil⟩
  | r::rs,g::gs,h=>by
    obtain ⟨⟨lv,rfl,_⟩,h2⟩:=h
    obtain ⟨h3,h4⟩:=h2.len
    refine ⟨by simp only [List.length_cons,h3],fun r hr => ?_⟩
    rcases List.mem_cons.1 hr with rfl | hr
    · rfl
    · exact h4 r hr
  | [],_::_,h=>h.elim
  | _::_,[],h=>h.elim
theorem GateRs.deep {Lt:Nat→List Lg→Prop} {nx:Pth} {t:Tr AB} (hT:Typed lgC Lt t) (d:Nat):∀ {rs:List (List AV)} {gs:List GateD},GateRs Lt rs gs→rs.flatten.map (deep (d+1) ⟨nx,t,.lf⟩)=gs.flatMap gateC
  | [],[],_=>rfl
  | r::rs,g::gs,h=>by
    obtain ⟨⟨lv,rfl,h1,hn,hk⟩,h2⟩:=h
    obtain ⟨kd,⟨k,ls⟩⟩:=g
    simp only at hk h1 hn
    subst hk
    rw [List.flatten_cons,List.map_append,h2.deep hT d,List.flatMap_cons]
    simp only [List.map_cons,List.map_nil,h1.deep (nx:=nx) len_lg frz_lg hT hn d]
    rfl
  | [],_::_,h=>h.elim
  | _::_,[],h=>h.elim
def CodeOK (c:Nat×Nat×Nat):Prop:=c.1<2∧c.2.1<5∧c.2.2<4
def padsOf:Nat→List (Nat×Nat×Nat)→List PadD
  | _,[]=>[]
  | k,c::cs=>padOf k c.1 c.2.1 c.2.2::padsOf (k+1) cs
theorem len_padsOf:∀ (k:Nat) (cs:List (Nat×Nat×Nat)),(padsOf k cs).length=cs.length
  | _,[]=>rfl
  | k,_::cs=>by simp only [padsOf,List.length_cons,len_padsOf (k+1) cs]
theorem rows_deep {Et:Nat→List Ed→Prop} {nx:Pth} {t:Tr AB} (hT:Typed edC Et t) (d:Nat):∀ (rs:List (List AV)) (k0:Nat),(∀ k r,rs[k]?=some r→PadR Et (k0+k) r)→∃ cs:List (Nat×Nat×Nat),cs.length=rs.length∧(∀ c∈cs,CodeOK c)∧rs.flatten.map (deep (d+1) ⟨nx,t,.lf⟩)=(padsOf k0 cs).flatMap padC
  | [],_,_=>⟨[],rfl,fun _ h=>absurd h List.not_mem_nil,rfl⟩
  | r :: rs,k0,hrs=>by
    obtain ⟨b,s,e,h1,h2,h3,h4⟩:=PadR.deep (nx:=nx) hT (hrs 0 r rfl) d
    obtain ⟨cs,k1,k2,k3⟩:=rows_deep (nx:=nx) hT d rs (k0+1) (fun k r h=>by
      have:=hrs (k+1) r h
      rwa [show k0+1+k=k0+(k+1) by omega])
    refine ⟨(b,s,e)::cs,by simp only [List.length_cons,k1],fun c hc => ?_,?_⟩
    · rcases List.mem_cons.1 hc with rfl | hc
      · exact ⟨h1,h2,h3⟩
      · exact k2 c hc
    · rw [List.flatten_cons,List.map_append,h4,k3,padsOf,List.flatMap_cons]
      rfl
theorem rows_len {Rw:List AV→Prop} {sz:Nat} (hr:∀ r,Rw r→r.length=sz):∀ rs:List (List AV),(∀ r∈rs,Rw r)→rs.flatten.length=rs.length*sz
  | [],_=>by rw [List.flatten_nil,List.length_nil,List.length_nil,Nat.zero_mul]
  | r::rs,h=>by rw [List.flatten_cons,List.length_append,hr r (h r List.mem_cons_self),rows_len hr rs (fun x hx=>h x (List.mem_cons_of_mem _ hx)),List.length_cons,Nat.succ_mul,Nat.add_comm]
end Go.Abs.Sym
end
section
namespace Go.Abs.T
open AV
set_option maxRecDepth 100000
end Go.Abs.T
end
section
namespace Go.Abs.Sym
open Go.Abs.T
open Go.Proofs
def Grow (sz:Nat) (t:Tr AB) (lo hi nb:Nat) (pv:AV) (rs:List (List AV)):Prop :=
  (rs=[]∧pv=.nils∧nb=0)∨(0<rs.length∧pv=.slc (up .e nb) 0 rs.length sz none∧t.get (up .e nb)=some (.cells rs.flatten true)∧lo≤nb∧nb<hi)
theorem Grow.one {sz:Nat} {t:Tr AB} {lo hi nb:Nat} {pv:AV} {rs:List (List AV)} (h:Grow sz t lo hi nb pv rs):pv.one=true:=by
  rcases h with ⟨_,rfl,_⟩ | ⟨_,rfl,_⟩<;>rfl
theorem Grow.keep {sz:Nat} {t t':Tr AB} {lo hi hi' nb:Nat} {pv:AV} {rs:List (List AV)} (h:Grow sz t lo hi nb pv rs) (hh:hi≤hi') (ht:lo≤nb→nb<hi→t'.get (up .e nb)=t.get (up .e nb)):Grow sz t' lo hi' nb pv rs:=by
  rcases h with h | ⟨h1,h2,h3,h4,h5⟩
  · exact .inl h
  · exact .inr ⟨h1,h2,(ht h4 h5).trans h3,h4,by omega⟩
theorem Grow.append {sz by_ : Nat} {t : Tr AB} {lo hi nb m x:Nat} {pv:AV} {rs:List (List AV)} {row:List AV} {sp:Bool} {A:Option (AV×H)} (h:Grow sz t lo hi nb pv rs)
    (hA:appendA ⟨up .e m,t,.lf⟩ sz by_ pv (.slc (up .e x) 0 1 sz (some 1))=A) (hx:t.get (up .e x)=some (.cells row sp)) (hrow:row.length=sz) (hone:ones row=true) (hlen:∀ r∈rs,r.length=sz) (hb:by_≤1000) (hn:rs.length<1000000) (hm:lo≤m) :
    ∃ t2,A=some (.slc (up .e m) 0 (rs.length+1) sz none,⟨up .e (m+1),t2,.lf⟩)∧t2.get (up .e m)=some (.cells (rs++[row]).flatten true)∧(∀ i,i≠m→(lo≤nb→nb<hi→i≠nb)→t2.get (up .e i)=t.get (up .e i))∧Grow sz t2 lo (m+1) m (.slc (up .e m) 0 (rs.length+1) sz none) (rs++[row]):=by
  have htk:takeD row 0 sz=some row:=takeD_all hrow
  have hfl:rs.flatten.length=rs.length*sz:=rows_len (Rw:=fun r=>r.length=sz) (fun _ h=>h) rs hlen
  have hff:(rs++[row]).flatten=rs.flatten++row:=by simp
  have hbig : ∀ n, n ≤ 1000001 → (Nat.ble bigBytes (n*by_)||Nat.ble bigBytes n)=false:=by
    intro n hn
    have h1:n*by_≤1000001*1000:=Nat.mul_le_mul hn hb
    have h2 : Nat.ble bigBytes (n * by_) = false:=by
      rw [nble]; exact decide_eq_false (by have hB:1000001000<bigBytes:=by decide
                                           omega)
    have h3 : Nat.ble bigBytes n = false := by
      rw [nble]; exact decide_eq_false (by have hB:1000001000<bigBytes:=by decide
                                           omega)
    rw [h2,h3]; rfl
  have hf1:firstA ⟨up .e m,t,.lf⟩ sz 1 (.slc (up .e x) 0 1 sz (some 1))=some row:=by
    simp only [firstA,nbeq,nble,decide_true,Nat.le_refl,Bool.and_self,cond_true,H.cellsAt,hx,Nat.one_mul,htk]
  have hgo:∀ t2:Tr AB,t2.get (up .e m)=some (.cells (rs++[row]).flatten true)→Grow sz t2 lo (m+1) m (.slc (up .e m) 0 (rs.length+1) sz none) (rs++[row]):=by
    intro t2 h2
    have hl:(rs++[row]).length=rs.length+1:=by rw [List.length_append]; rfl
    exact .inr ⟨by omega,by rw [hl],h2,hm,by omega⟩
  rw [← hA]
  rcases h with ⟨rfl,rfl,rfl⟩ | ⟨h1,rfl,h2,h3,h4⟩
  · refine ⟨t.put (up .e m) (.cells row true),?_,?_,?_,?_⟩
    · have h10:Nat.beq 1 0=false:=rfl
      simp only [appendA,lenA,hf1,h10,hbig 1 (by omega),cond_false,H.newB,up_succ,List.length_nil,Nat.zero_add]
    · rw [gp,if_pos rfl]; simp
    · intro i hi _
      rw [gp,if_neg (fun e=>hi (by rw [up_inj] at e; exact e))]
    · exact hgo _ (by rw [gp,if_pos rfl]; simp)
  · refine ⟨(t.del (up .e nb)).put (up .e m) (.cells (rs.flatten++row) true),?_,?_,?_,?_⟩
    · have hl2:Nat.beq rs.flatten.length (rs.length*sz)=true:=by rw [hfl,nbeq]; exact decide_eq_true rfl
      have hro:((Tr.lf:Tr (List AV)).get (up .e nb)).isNone=true:=rfl
      have hzz:Nat.beq sz sz=true:=by rw [nbeq]; exact decide_eq_true rfl
      have h10:Nat.beq 1 0=false:=rfl
      have h00:Nat.beq 0 0=true:=rfl
      simp only [appendA,lenA,hf1,hzz,h10,h00,hbig (rs.length+1) (by omega),cond_false,cond_true,h2,hone,hl2,hro,Bool.and_self,up_succ]
    · rw [gp,if_pos rfl,hff]
    · intro i hi hi2
      rw [gp,if_neg (fun e=>hi (by rw [up_inj] at e; exact e)),Tr.get_del,if_neg (fun e=>hi2 h3 h4 (by rw [up_inj] at e; exact e))]
    · exact hgo _ (by rw [gp,if_pos rfl,hff])
structure MadeI (nm:List Nat) (L:Sl Int) (many m:Nat) (s:St):Prop where
  ex : ∃ fr j t nb pv rs Et,s=⟨fr,[],⟨up .e j,t,.lf⟩,.no,none,t20⟩∧3≤j∧rs.length+m=many ∧
    fr.get t4=some (.ptr (up .e 0) 0)∧fr.get t5=some (.ptr (up .e 1) 0)∧fr.get t6=some (.ptr (up .e 2) 0)∧fr.get t7=some (.int .i64 (.ofNat many))∧fr.get t8=some (.int .i64 (.ofNat rs.length)) ∧
    t.get (up .e 0)=some (.cells [e0,.nils,.nils] false)∧DrawAt t (up .e 1) L∧t.get (up .e 2)=some (.cells [.str nm,pv,.nils] false) ∧
    Grow 7 t 3 j nb pv rs∧PadRs Et rs∧Typed edC Et t∧(∀ i n,Et i n→3≤i∧i<j∧i≠nb)
end Go.Abs.Sym
end
end
