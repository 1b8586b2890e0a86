/- Lookups and updates of maps with keys of strings, and of pins, in plain terms. -/
import Derived.Test.YtipcmdllhllolaaGreatDoorK23
import Derived.Test.YtipcmdllhllolaaGreatDoorK22
import Derived.KernelRfl
import Derived.Test.YtipcmdllhllolaaGreatDoorK05
noncomputable section
section
namespace Go.Abs.Sym
open Go.Abs.T
def kS:KeyK:=⟨[.s],false⟩
def kP:KeyK:=⟨[.s,.s],true⟩
theorem keyEq_S (a b:List Nat):keyEq kS (.str a) (.str b)=some (decide (a=b)):=by
 simp only [keyEq,keyCells,kS,cond_false,eqFlat,eqS_dec]
 by_cases h:a=b<;>simp [h]
theorem keyEq_P (a b c d:List Nat):keyEq kP (.agg [.str a,.str b]) (.agg [.str c,.str d])=some (decide (a=c∧b=d)):=by
 have e:keyEq kP (.agg [.str a,.str b]) (.agg [.str c,.str d])=eqFlat [.s,.s] [.str a,.str b] [.str c,.str d]:=rfl
 rw [e]
 simp only [eqFlat,eqS_dec]
 by_cases h:a=c<;>by_cases h2:b=d<;>simp [h,h2]
theorem keyOK_S (a:List Nat):keyOK kS (.str a)=true:=by simp only [keyOK,keyEq_S]
theorem keyOK_P (a b:List Nat):keyOK kP (.agg [.str a,.str b])=true:=by simp only [keyOK,keyEq_P]
def mpS {α:Type} (key:α→List Nat) (f:α→AV) (l:List α):List (AV×AV):=l.map fun a=>(.str (key a),f a)
def mpP (l:List (List Nat×List Nat)):List (AV×AV):=l.map fun p=>(.agg [.str p.1,.str p.2],.bool true)
theorem find_S {α:Type} (key:α→List Nat) (f:α→AV) (k:List Nat):∀ l:List α,findA kS (.str k) (mpS key f l)=some ((l.find? fun a=>decide (k=key a)).map f)
 | []=>rfl
 | a :: l=>by
  simp only [mpS,List.map_cons,findA,keyEq_S]
  by_cases h:k=key a
  ·simp [h]
  ·simp only [h,decide_false,List.find?_cons]
   exact find_S key f k l
theorem find_P (a b:List Nat):∀ l:List (List Nat×List Nat),findA kP (.agg [.str a,.str b]) (mpP l)=some (bif decide ((a,b)∈l) then some (.bool true) else none)
 | []=>rfl
 | p :: l=>by
  simp only [mpP,List.map_cons,findA,keyEq_P]
  by_cases h:a=p.1∧b=p.2
  ·have:(a,b)=p:=Prod.ext h.1 h.2
   simp [h]
  ·have h2:(a,b)≠p:=fun e=>h ⟨by rw [← e],by rw [← e]⟩
   simp only [h,decide_false,List.mem_cons,h2,false_or]
   exact find_P a b l
theorem upd_S {α:Type} (key:α→List Nat) (f:α→AV) (k:List Nat) (v:AV):∀ l:List α,(∀ a∈l,key a≠k)→updA kS (.str k) v (mpS key f l)=mpS key f l++[(.str k,v)]
 | [],_=>rfl
 | a::l,h=>by
  have h1:(k=key a)=False:=eq_false fun e=>h a List.mem_cons_self e.symm
  simp only [mpS,List.map_cons,updA,keyEq_S,h1,decide_false,List.cons_append]
  exact congrArg _ (upd_S key f k v l fun b hb=>h b (List.mem_cons_of_mem _ hb))
theorem upd_P (a b:List Nat):∀ l:List (List Nat×List Nat),(a,b)∉l→updA kP (.agg [.str a,.str b]) (.bool true) (mpP l)=mpP (l++[(a,b)])
 | [],_=>rfl
 | p::l,h=>by
  have h1:(a=p.1∧b=p.2)=False:=eq_false fun e=>h (by rw [show p=(a,b) from Prod.ext e.1.symm e.2.symm]; exact List.mem_cons_self)
  simp only [mpP,List.map_cons,updA,keyEq_P,h1,decide_false,List.cons_append]
  exact congrArg _ (upd_P a b l fun hb=>h (List.mem_cons_of_mem _ hb))
theorem st_mkMap (h:H):stepA h .mkMap []=.val (.mapv h.next) (h.newB (.amap [])):=rfl
theorem st_upd (h:H) (kn:KeyK) (m k v:AV):stepA h (.mapUpd kn) [m,k,v]=match mapUpdA h kn m k v with | some h=>.val (.tup []) h | none=>.bad:=rfl
theorem look_S {α:Type} {key:α→List Nat} {f:α→AV} {l:List α} {h:H} {id:Pth} (hg:h.t.get id=some (.amap (mpS key f l))) (z:AV) (ok:Bool) (k:List Nat) :
  lookupA h kS z ok (.mapv id) (.str k)=some (match l.find? fun a=>decide (k=key a) with | some a=>bif ok then .tup [f a,.bool true] else f a | none=>bif ok then .tup [z,.bool false] else z):=by
 simp only [lookupA,keyOK_S,cond_true,hg,find_S]
 cases l.find? fun a=>decide (k=key a)<;>rfl
theorem look_P {l:List (List Nat×List Nat)} {h:H} {id:Pth} (hg:h.t.get id=some (.amap (mpP l))) (a b:List Nat) :
  lookupA h kP (.bool false) false (.mapv id) (.agg [.str a,.str b])=some (.bool (decide ((a,b)∈l))):=by
 simp only [lookupA,keyOK_P,cond_true,hg,find_P]
 by_cases h:(a,b)∈l<;>simp [h]
theorem mapUpd_S {α:Type} {key:α→List Nat} {f:α→AV} {l:List α} {h:H} {id:Pth} (hg:h.t.get id=some (.amap (mpS key f l))) {k:List Nat} (hk:∀ a∈l,key a≠k) (v:AV) :
  mapUpdA h kS (.mapv id) (.str k) v=some { h with t:=h.t.put id (.amap (mpS key f l++[(.str k,v)])) }:=by
 simp only [mapUpdA,keyOK_S,cond_true,hg,find_S,upd_S key f k v l hk]
theorem mapUpd_P {l:List (List Nat×List Nat)} {h:H} {id:Pth} (hg:h.t.get id=some (.amap (mpP l))) {a b:List Nat} (hk:(a,b)∉l) :
  mapUpdA h kP (.mapv id) (.agg [.str a,.str b]) (.bool true)=some { h with t:=h.t.put id (.amap (mpP (l++[(a,b)]))) }:=by
 simp only [mapUpdA,keyOK_P,cond_true,hg,find_P,upd_P a b l hk]
end Go.Abs.Sym
end
section
namespace Go.Abs.Sym
open Go.Abs.T
abbrev Bs:=List Nat
structure SymD where
 ref:Bs
 ty:Bs
 nots:Sl Bs
structure JoinD where
 net:Bs
 ref:Bs
 pad:Bs
structure BindD where
 port:Bs
 net:Bs
structure SubD where
 nm:Bs
 sh:Bs
 binds:Sl BindD
structure SheetD where
 nm:Bs
 ports:Sl Bs
 power:Sl Bs
 syms:Sl SymD
 joins:Sl JoinD
 subs:Sl SubD
structure DesD where
 top:Bs
 sheets:Sl SheetD
 types:Sl TypD
 variants:Sl Bs
def bsC (s:Bs):List AV:=[.str s]
def symC (x:SymD):List AV:=[.str x.ref,.str x.ty,slV bsC x.nots]
def joinC (x:JoinD):List AV:=[.str x.net,.str x.ref,.str x.pad]
def bindC (x:BindD):List AV:=[.str x.port,.str x.net]
def subC (x:SubD):List AV:=[.str x.nm,.str x.sh,slV bindC x.binds]
def sheetC (x:SheetD):List AV:=[.str x.nm,slV bsC x.ports,slV bsC x.power,slV symC x.syms,slV joinC x.joins,slV subC x.subs]
def desC (x:DesD):List AV:=[.str x.top,slV sheetC x.sheets,slV tyC x.types,slV bsC x.variants]
theorem frz_bs (s:Bs):frzs (bsC s)=true:=rfl
theorem frz_join (x:JoinD):frzs (joinC x)=true:=rfl
theorem frz_bind (x:BindD):frzs (bindC x)=true:=rfl
theorem frz_sym (x:SymD):frzs (symC x)=true:=by simp only [symC,frzs,frz,frz_slV frz_bs,Bool.and_self]
theorem frz_sub (x:SubD):frzs (subC x)=true:=by simp only [subC,frzs,frz,frz_slV frz_bind,Bool.and_self]
theorem frz_sheet (x:SheetD):frzs (sheetC x)=true:=by simp only [sheetC,frzs,frz,frz_slV frz_bs,frz_slV frz_sym,frz_slV frz_join,frz_slV frz_sub,Bool.and_self]
theorem frz_des (x:DesD):frzs (desC x)=true:=by simp only [desC,frzs,frz,frz_slV frz_bs,frz_slV frz_sheet,frz_slV frz_ty,Bool.and_self]
theorem len_bs (s:Bs):(bsC s).length=1:=rfl
theorem len_sym (x:SymD):(symC x).length=3:=rfl
theorem len_join (x:JoinD):(joinC x).length=3:=rfl
theorem len_bind (x:BindD):(bindC x).length=2:=rfl
theorem len_sub (x:SubD):(subC x).length=3:=rfl
theorem len_sheet (x:SheetD):(sheetC x).length=6:=rfl
theorem tk_app {a r:List AV} {n:Nat} (h:a.length=n):takeD (a++r) 0 n=some a:=by
 simp only [takeD,List.drop_zero]
 rw [List.take_left' h,nbeq,decide_eq_true h]
 rfl
end Go.Abs.Sym
end
section
namespace Go.Abs.Sym
open Go.Abs.T
open Go.Proofs
theorem fail_sum (e:Int) (h:H):K1.sums t27 [.bool false,.int .i64 e] h=some (.tup []):=by kernel_rfl
def rightNs:List Bs:=[[82],[81],[66,85,83],[108,105,116,101],[109,97,105,110],[99,101,108,108],[108,101,97,102],[85,49],[85,50],[74,49],[120],[121],[108,111,111,112],[115,112,97,114,101]]
theorem right_all:(rightNs.all fun s=>F.callC K0 50 (.fn t30 [] []) [.str s] h0 (isV (.bool true)))=true:=by kernel_rfl
theorem right_sum {s:Bs} (hs:s∈rightNs) (h:H):K1.sums t30 [.str s] h=some (.bool true):=by
 have h1:=List.all_eq_true.1 right_all s hs
 rw [F.callC_eq] at h1
 obtain ⟨h2,h3⟩:=isV_ret h1
 exact over_fz' rfl h3 rfl rfl h
def memT:List (Bs×List Bs):=[([78,49],[[78,49]]),([78,50],[[78,50]]),([86,67,67],[[86,67,67]]),([65,91,48,93],[[65,91,48,93]]),([65,91,49,93],[[65,91,49,93]]),([71,78,68],[[71,78,68]]),([73,78],[[73,78]]),([69,91,48,93],[[69,91,48,93]]),([69,91,49,93],[[69,91,49,93]]),([80,49],[[80,49]]),([80,50],[[80,50]]),([80,51],[[80,51]]),([80,52],[[80,52]]),([80,53],[[80,53]]),([80,54],[[80,54]]),([67],[[67]]),([65,91,48,46,46,50,93],[[65,91,48,93],[65,91,49,93],[65,91,50,93]]),([65,91,50,46,46,48,93],[[65,91,50,93],[65,91,49,93],[65,91,48,93]]),([68,91,48,46,46,50,93],[[68,91,48,93],[68,91,49,93],[68,91,50,93]]),([69,91,48,46,46,49,93],[[69,91,48,93],[69,91,49,93]]),([65,91,48,46,46,49,93],[[65,91,48,93],[65,91,49,93]]),([65,91,49,46,46,48,93],[[65,91,49,93],[65,91,48,93]]),([66,91,52,46,46,53,93],[[66,91,52,93],[66,91,53,93]]),([68,91,48,93],[[68,91,48,93]]),([68,91,49,93],[[68,91,49,93]]),([68,91,50,93],[[68,91,50,93]])]
def isD (w:AV):CRes→Bool
 | .ret v h=>AV.beq (deep 8 h v) w
 | _=>false
theorem isD_ret {w:AV} {r:CRes} (h:isD w r=true):∃ v h',r=.ret v h'∧deep 8 h' v=w:=by
 cases r<;>simp only [isD,Bool.false_eq_true] at h
 exact ⟨_,_,rfl,AV.beq_eq _ _ h⟩
theorem mem_all:(memT.all fun e=>[false,true].all fun p=>F.callC K0 50 (.fn t74 [] []) [.str e.1,.bool p] h0 (isD (slV bsC ⟨1,e.2⟩)))=true:=by kernel_rfl
theorem mem_sum {s:Bs} {l:List Bs} (hs:(s,l)∈memT) (p:Bool) (h:H):K1.sums t74 [.str s,.bool p] h=some (slV bsC ⟨1,l⟩):=by
 have h1:=List.all_eq_true.1 (List.all_eq_true.1 mem_all _ hs) p (by cases p<;>simp)
 rw [F.callC_eq] at h1
 obtain ⟨v,h2,h3,h4⟩:=isD_ret h1
 rw [← h4]
 exact over_fz rfl h3 rfl (by rw [h4]; exact frz_slV frz_bs _) h
def netN:List Bs:=[[78,49],[78,50],[86,67,67],[65,91,48,93],[65,91,49,93],[71,78,68],[73,78],[69,91,48,93],[69,91,49,93]]
theorem nets_all:((List.range 9).all fun k=>F.callC K0 50 (.fn t24 [] []) [.int .i64 (.ofNat k)] h0 (isV (.str (netN.getD k []))))=true:=by kernel_rfl
theorem nets_sum {k:Nat} (hk:k<9) (h:H):K1.sums t24 [.int .i64 (.ofNat k)] h=some (.str (netN.getD k [])):=by
 have h1:=List.all_eq_true.1 nets_all k (List.mem_range.2 hk)
 rw [F.callC_eq] at h1
 obtain ⟨h2,h3⟩:=isV_ret h1
 exact over_fz' rfl h3 rfl rfl h
end Go.Abs.Sym
end
section
namespace Go.Abs.Sym
open Go.Abs.T
def Agr (t t':Tr AB) (m:Nat) (Mu:List Nat):Prop:=∀ i,i<m→i∉Mu→t'.get (up .e i)=t.get (up .e i)
theorem Agr.refl (t:Tr AB) (m:Nat) (Mu:List Nat):Agr t t m Mu:=fun _ _ _=>rfl
theorem Agr.trans {t t' t'':Tr AB} {m m':Nat} {Mu Mu':List Nat} (h:Agr t t' m Mu) (h':Agr t' t'' m' Mu') (hm:m≤m') (hM:∀ i∈Mu',i∈Mu∨m≤i):Agr t t'' m Mu:=fun i hi hn=>by
 rw [h' i (by omega) (fun hx=>(hM i hx).elim hn (fun hx=>by omega)),h i hi hn]
theorem Agr.put {t t':Tr AB} {m:Nat} {Mu:List Nat} (h:Agr t t' m Mu) {j:Nat} (hj:j∈Mu∨m≤j) (x:AB):Agr t (t'.put (up .e j) x) m Mu:=fun i hi hn=>by
 rw [gp,if_neg,h i hi hn]
 intro e
 rw [up_inj] at e
 subst e
 rcases hj with hj | hj
 ·exact hn hj
 ·omega
def Fz (k:Nat) (t:Tr AB) (m:Nat) (Mu:List Nat) (v a:AV):Prop :=
 v.one=true∧frz a=true∧∀ (t':Tr AB) (nx:Pth) (d:Nat),Agr t t' m Mu→k≤d→deep d ⟨nx,t',.lf⟩ v=a
def FzL (k:Nat) (t:Tr AB) (m:Nat) (Mu:List Nat):List AV→List AV→Prop
 | [],[]=>True
 | v::vs,a::al=>Fz k t m Mu v a∧FzL k t m Mu vs al
 | _,_=>False
section
variable {k m m':Nat} {t t':Tr AB} {Mu Mu':List Nat}
theorem Fz.step {v a:AV} (h:Fz k t m Mu v a) (hm:m≤m') (hk:Agr t t' m Mu) (hM:∀ i∈Mu',i∈Mu∨m≤i):Fz k t' m' Mu' v a :=
 ⟨h.1,h.2.1,fun t'' nx d hg hd=>h.2.2 t'' nx d (hk.trans hg hm hM) hd⟩
theorem FzL.step:∀ {vs al:List AV},FzL k t m Mu vs al→m≤m'→Agr t t' m Mu→(∀ i∈Mu',i∈Mu∨m≤i)→FzL k t' m' Mu' vs al
 | [],[],_,_,_,_=>trivial
 | _::_,_::_,h,hm,hk,hM=>⟨h.1.step hm hk hM,h.2.step hm hk hM⟩
 | [],_::_,h,_,_,_=>h.elim
 | _::_,[],h,_,_,_=>h.elim
theorem Fz.of {v:AV} (ho:v.one=true) (hv:frz v=true):Fz k t m Mu v v:=⟨ho,hv,fun _ _ _ _ _=>deep_frz _ _ _ hv⟩
theorem Fz.le {k':Nat} {v a:AV} (h:Fz k t m Mu v a) (hk:k≤k'):Fz k' t m Mu v a:=⟨h.1,h.2.1,fun t' nx d hg hd=>h.2.2 t' nx d hg (by omega)⟩
theorem FzL.append:∀ {vs al us bs:List AV},FzL k t m Mu vs al→FzL k t m Mu us bs→FzL k t m Mu (vs++us) (al++bs)
 | [],[],_,_,_,h=>h
 | _::_,_::_,_,_,h,h'=>⟨h.1,h.2.append h'⟩
 | [],_::_,_,_,h,_=>h.elim
 | _::_,[],_,_,h,_=>h.elim
theorem FzL.len:∀ {vs al:List AV},FzL k t m Mu vs al→vs.length=al.length
 | [],[],_=>rfl
 | _::_,_::_,h=>by simp only [List.length_cons,h.2.len]
 | [],_::_,h=>h.elim
 | _::_,[],h=>h.elim
theorem FzL.ones:∀ {vs al:List AV},FzL k t m Mu vs al→Abs.ones vs=true
 | [],[],_=>rfl
 | _::_,_::_,h=>by simp only [Abs.ones,h.1.1,h.2.ones,Bool.and_self]
 | [],_::_,h=>h.elim
 | _::_,[],h=>h.elim
theorem FzL.frzs:∀ {vs al:List AV},FzL k t m Mu vs al→Abs.frzs al=true
 | [],[],_=>rfl
 | _::_,_::_,h=>by simp only [Abs.frzs,h.1.2.1,h.2.frzs,Bool.and_self]
 | [],_::_,h=>h.elim
 | _::_,[],h=>h.elim
theorem FzL.deep:∀ {vs al:List AV},FzL k t m Mu vs al→∀ (t':Tr AB) (nx:Pth) (d:Nat),Agr t t' m Mu→k≤d→vs.map (deep d ⟨nx,t',.lf⟩)=al
 | [],[],_,_,_,_,_,_=>rfl
 | _::_,_::_,h,t',nx,d,hg,hd=>by simp only [List.map_cons,h.1.2.2 t' nx d hg hd,h.2.deep t' nx d hg hd]
 | [],_::_,h,_,_,_,_,_=>h.elim
 | _::_,[],h,_,_,_,_,_=>h.elim
theorem FzL.of:∀ {vs:List AV},Abs.ones vs=true→Abs.frzs vs=true→FzL k t m Mu vs vs
 | [],_,_=>trivial
 | v::vs,h,h'=>by
  simp only [Abs.ones,Abs.frzs,Bool.and_eq_true] at h h'
  exact ⟨Fz.of h.1 h'.1,FzL.of h.2 h'.2⟩
theorem Fz.slc {b off n sz:Nat} {c:Option Nat} {cs l al:List AV} {sp:Bool} (hg:t.get (up .e b)=some (.cells cs sp)) (hb:b<m) (hM:b∉Mu) (htk:takeD cs off (n*sz)=some l) (h:FzL k t m Mu l al) :
  Fz (k+1) t m Mu (.slc (up .e b) off n sz c) (.rslc n al):=by
 refine ⟨rfl,by simp only [frz]; exact h.frzs,fun t' nx d hgr hd => ?_⟩
 obtain ⟨e,rfl⟩:∃ e,d=e+1:=⟨d - 1,by omega⟩
 rw [deep_slc (h:=⟨nx,t',.lf⟩) (cellsAt_t (by rw [hgr b hb hM]; exact hg)) htk,h.deep t' nx e hgr (by omega)]
theorem Fz.rslc {n:Nat} {vs al:List AV} (h:FzL k t m Mu vs al) (he:vs=al):Fz (k+1) t m Mu (.rslc n vs) (.rslc n al):=by
 subst he
 refine ⟨rfl,by simp only [frz]; exact h.frzs,fun t' nx d hgr hd => ?_⟩
 exact deep_frz _ _ _ (by simp only [frz]; exact h.frzs)
def GrowF (k:Nat) (t:Tr AB) (m:Nat) (Mu:List Nat) (sz nb:Nat) (v:AV) (rows:List (List AV)):Prop :=
 ∃ rs:List (List AV),Grow sz t 1 m nb v rs∧rs.length=rows.length∧(∀ r∈rs,r.length=sz)∧FzL k t m Mu rs.flatten rows.flatten∧(0<rs.length→nb∈Mu)
theorem GrowF.one {sz nb:Nat} {v:AV} {rows:List (List AV)} (h:GrowF k t m Mu sz nb v rows):v.one=true:=by
 obtain ⟨rs,h1,_⟩:=h
 exact h1.one
theorem GrowF.nil {sz:Nat}:GrowF k t m Mu sz 0 .nils []:=⟨[],.inl ⟨rfl,rfl,rfl⟩,rfl,fun _ h=>absurd h List.not_mem_nil,trivial,fun h=>absurd h (by simp)⟩
theorem GrowF.pos {sz nb:Nat} {v:AV} {rows:List (List AV)} (h:GrowF k t m Mu sz nb v rows) (h1:1≤nb):0<rows.length:=by
 obtain ⟨rs,h2,h3,_⟩:=h
 rcases h2 with ⟨_,_,h0⟩ | ⟨hp,_⟩
 ·omega
 ·omega
theorem GrowF.step {sz nb:Nat} {v:AV} {rows:List (List AV)} (h:GrowF k t m Mu sz nb v rows) (hm:m≤m') (hk:Agr t t' m Mu) (hb:0<rows.length→nb<m→t'.get (up .e nb)=t.get (up .e nb)) (hM:∀ i∈Mu',i∈Mu∨m≤i) (hn:nb∈Mu→nb∈Mu'):GrowF k t' m' Mu' sz nb v rows:=by
 have hp:=h.pos
 obtain ⟨rs,h1,h2,h3,h4,h5⟩:=h
 exact ⟨rs,h1.keep hm (fun h0 hx=>hb (hp h0) hx),h2,h3,h4.step hm hk hM,fun h=>hn (h5 h)⟩
theorem GrowF.append {sz by_ nb x:Nat} {v:AV} {rows:List (List AV)} {row ra:List AV} {sp:Bool} {A:Option (AV×H)} (h:GrowF k t m Mu sz nb v rows)
  (hA:appendA ⟨up .e m,t,.lf⟩ sz by_ v (.slc (up .e x) 0 1 sz (some 1))=A) (hx:t.get (up .e x)=some (.cells row sp)) (hr:FzL k t m Mu row ra) (hsz:ra.length=sz) (hb:by_≤1000) (hn:rows.length<1000000) (hm1:1≤m) :
  ∃ t2,A=some (.slc (up .e m) 0 (rows.length+1) sz none,⟨up .e (m+1),t2,.lf⟩)∧(∀ i,i<m→(0<rows.length→i≠nb)→t2.get (up .e i)=t.get (up .e i)) ∧
   GrowF k t2 (m+1) (m::Mu) sz m (.slc (up .e m) 0 (rows.length+1) sz none) (rows++[ra]):=by
 obtain ⟨rs,h1,h2,h3,h4,h5⟩:=h
 obtain ⟨t2,e1,e2,e3,e4⟩:=h1.append hA hx (hr.len.trans hsz) hr.ones h3 hb (by omega) hm1
 rw [h2] at e1 e4
 have hpos:1≤nb→0<rs.length:=fun hb'=>by
  rcases h1 with ⟨_,_,h0⟩ | ⟨hp,_⟩
  ·omega
  ·exact hp
 have hag:Agr t t2 m Mu:=fun i hi hni=>e3 i (by omega) (fun hb' _ e=>hni (by rw [e]; exact h5 (hpos hb')))
 refine ⟨t2,e1,fun i hi hne=>e3 i (by omega) (fun hb' _=>hne (by rw [← h2]; exact hpos hb')),rs++[row],e4,by simp [h2],?_,?_,fun _=>List.mem_cons_self⟩
 ·intro r hr'
  rcases List.mem_append.1 hr' with hr' | hr'
  ·exact h3 r hr'
  ·rw [List.mem_singleton.1 hr',hr.len,hsz]
 ·simp only [List.flatten_append,List.flatten_cons,List.flatten_nil,List.append_nil]
  have hM:∀ i∈m::Mu,i∈Mu∨m≤i:=fun i hi=>by
   rcases List.mem_cons.1 hi with rfl | hi
   ·exact .inr (Nat.le_refl _)
   ·exact .inl hi
  exact (h4.step (by omega) hag hM).append (hr.step (by omega) hag hM)
end
end Go.Abs.Sym
end
section
namespace Go.Abs.Sym
open Go.Abs.T
open Go.Proofs
theorem over_rest {X:Ctx} {fz dp:List Pth} {f:Pth} (h1:memP f fz=false) (h2:memP f dp=false) (xs:List AV) (h:H):(over X fz dp).sums f xs h=X.sums f xs h:=by
 simp only [over,sumsOf,h1,h2,cond_false]
theorem kf3:K3.fuel=100000:=rfl
theorem sums3_2 (f:Pth) (xs:List AV) (h:H) (h1:memP f [t20,t66]=false):K3.sums f xs h=K2.sums f xs h:=by
 exact over_rest (X:=K2) h1 rfl xs h
theorem mod3 (n:Nat) (h0:0<n) (hn:n<4000000000000000000) (a:Int):∃ x:Nat,x<n∧∀ h,K3.sums t61 [.int .i64 a,.int .i64 (.ofNat n)] h=some (.int .i64 (.ofNat x)):=by
 obtain ⟨x,h1,h2⟩:=mod2 n h0 hn a
 exact ⟨x,h1,fun h=>(sums3_2 _ _ _ rfl).trans (h2 h)⟩
theorem next3 {f n:Nat} (h0:0<n) (hn:n<4000000000000000000) {L:Sl Int} (hL:L.l.length<9223372036854775808) {d:Pth} {q:Pth} {j:Nat} {t:Tr AB} {R:CRes}
  (hR:callN K3 (f+2) (g t22) [.ptr d 0,.int .i64 (.ofNat n)] ⟨up q j,t,.lf⟩=R) (hd:DrawAt t d L) :
  ∃ x pos j',R=.ret (.int .i64 (.ofNat x)) ⟨up q j',t.put d (.cells [slV inC L,.int .i64 (.ofNat pos)] false),.lf⟩∧x<n∧j≤j'∧pos≤L.l.length :=
 next_call (X:=K3) (m:=f) (fun _ _=>rfl) rfl (mod3 n h0 hn) h0 hL hR hd
def KeepF (l:List Pth) (fr fr':Tr AV):Prop:=∀ q∈l,fr'.get q=fr.get q
def liteB:Bs:=[108,105,116,101]
def addR:List Pth:=[t0,t1,t3,t4,t5,t8,t12]
theorem add_v {L:Sl Int} (hL:L.l.length<9223372036854775808) {fr:Tr AV} {m db xb:Nat} {t:Tr AB} {va:Bool} {rv tv:AV} {o:Out}
  (hX:execA K3 (callN K3 48) c23_v ⟨fr,[],⟨up .e m,t,.lf⟩,.no,none,t23⟩=o) (g1:fr.get t1=some (.ptr (up .e db) 0)) (g5:fr.get t5=some (.bool va)) (g12:fr.get t12=some (.ptr (up .e xb) 0))
  (ad:DrawAt t (up .e db) L) (ax:t.get (up .e xb)=some (.cells [rv,tv,.nils] false)) (hdx:db≠xb) (hdm:db<m) (hxm:xb<m) :
  ∃ fr' m' t' nv,o=.nrm ⟨fr',[],⟨up .e m',t',.lf⟩,.no,none,t23⟩∧m≤m'∧KeepF addR fr fr'∧DrawAt t' (up .e db) L∧t'.get (up .e xb)=some (.cells [rv,tv,nv] false) ∧
   (∀ i,i<m→i≠db→i≠xb→t'.get (up .e i)=t.get (up .e i))∧∃ nots:Sl Bs,(nots=⟨0,[]⟩∨va=true∧nots=⟨1,[liteB]⟩)∧∀ Mu:List Nat,(∀ i∈Mu,i<m)→Fz 1 t' m' Mu nv (slV bsC nots):=by
 have hnil:∀ (t':Tr AB) (m':Nat) (Mu:List Nat),Fz 1 t' m' Mu .nils (slV bsC ⟨0,[]⟩):=fun t' m' Mu=>(Fz.of (k:=0) rfl rfl).le (by omega)
 rw [← hX]
 cases va with
 | false =>
  simp +decide only [SC,c23_v,g5]
  exact ⟨_,_,_,.nils,rfl,Nat.le_refl _,fun q hq=>by simp [addR] at hq; rcases hq with rfl | rfl | rfl | rfl | rfl | rfl | rfl<;>simp +decide only [gp,if_false],ad,ax,fun _ _ _ _=>rfl,_,.inl rfl,fun Mu _=>hnil _ _ _⟩
 | true =>
  simp +decide only [SC,c23_v,Bool.and_self,g5,g1]
  generalize hR:callN K3 48 (g t22) _ _=R
  obtain ⟨x,p,j1,rfl,hx,hj1,hp⟩:=next3 (f:=46) (n:=3) (by decide) (by decide) hL hR ad
  have hdraw:∀ T2:Tr AB,T2.get (up .e db)=some (.cells [slV inC L,.int .i64 (.ofNat p)] false)→DrawAt T2 (up .e db) L:=fun T2 h=>⟨p,hp,h⟩
  have hxd:(xb=db)=False:=eq_false (fun e=>hdx e.symm)
  cases h0:eqI (.ofNat x) (.ofNat 0) with
  | false =>
   simp +decide only [SC,h0]
   refine ⟨_,_,_,.nils,rfl,hj1,fun q hq=>by simp [addR] at hq; rcases hq with rfl | rfl | rfl | rfl | rfl | rfl | rfl<;>simp +decide only [gp,if_false],hdraw _ (by rw [gp,if_pos rfl]),?_,fun i hi h1 h2 => ?_,_,.inl rfl,fun Mu _=>hnil _ _ _⟩
   ·rw [gp,if_neg (fun e=>hdx (by rw [up_inj] at e; exact e.symm))]
    exact ax
   ·rw [gp,if_neg (fun e=>h1 (by rw [up_inj] at e; exact e))]
  | true =>
   have hxj:(xb=j1)=False:=eq_false (by omega)
   have hjx:(j1=xb)=False:=eq_false (by omega)
   have hdj:(db=j1)=False:=eq_false (by omega)
   have hdx':(db=xb)=False:=eq_false hdx
   simp +decide only [SC,Bool.and_self,h0,g12,ax,hxd,hxj,up_inj]
   refine ⟨_,_,_,.slc (up .e j1) 0 1 1 (some 1),rfl,by omega,fun q hq=>by simp [addR] at hq; rcases hq with rfl | rfl | rfl | rfl | rfl | rfl | rfl<;>simp +decide only [gp,if_false],hdraw _ ?_,?_,fun i hi h1 h2 => ?_,⟨1,[liteB]⟩,.inr ⟨trivial,rfl⟩,fun Mu hM => ?_⟩
   ·simp +decide only [gp,up_inj,hdx',hdj,if_false,if_true]
   ·simp +decide only [gp,if_true]
   ·have hij:(i=j1)=False:=eq_false (by omega)
    simp +decide only [gp,up_inj,h1,h2,hij,if_false]
   ·refine Fz.slc (k:=0) (l:=[.str liteB]) (al:=[.str liteB]) (cs:=[.str liteB]) (sp:=false) ?_ (by omega) (fun h=>by have:=hM _ h; omega) rfl (FzL.of rfl rfl)
    simp +decide only [gp,up_inj,hjx,if_false,if_true]
    rfl
end Go.Abs.Sym
end
section
namespace Go.Abs.Sym
open Go.Abs.T
open Go.Proofs
def shC (nm pv wv sv jv uv:AV):List AV:=[nm,pv,wv,sv,jv,uv]
theorem add_s {fr:Tr AV} {m sb xb nb:Nat} {t:Tr AB} {Mu:List Nat} {nm pv wv sv jv uv nv a:AV} {ref ty:Bs} {rows:List (List AV)} {o:Out}
  (hX:execA K3 (callN K3 48) c23_s ⟨fr,[],⟨up .e m,t,.lf⟩,.no,none,t23⟩=o) (g0:fr.get t0=some (.ptr (up .e sb) 0)) (g12:fr.get t12=some (.ptr (up .e xb) 0))
  (as':t.get (up .e sb)=some (.cells [nm,pv,wv,sv,jv,uv] false)) (ax:t.get (up .e xb)=some (.cells [.str ref,.str ty,nv] false))
  (hG:GrowF 2 t m Mu 3 nb sv rows) (hz:Fz 1 t m Mu nv a) (hsb:sb∈Mu) (hsm:sb<m) (hxm:xb<m) (hm1:1≤m) (hnb:0<rows.length→nb≠sb∧nb<m) (hlen:rows.length<1000) (_hM:∀ i∈Mu,i<m) :
  ∃ fr' m' t',o=.nrm ⟨fr',[],⟨up .e m',t',.lf⟩,.no,none,t23⟩∧m<m'∧KeepF addR fr fr'∧∃ nb' sv',m≤nb'∧nb'<m'∧t'.get (up .e sb)=some (.cells [nm,pv,wv,sv',jv,uv] false) ∧
   (∀ i,i<m→i≠sb→(0<rows.length→i≠nb)→t'.get (up .e i)=t.get (up .e i))∧GrowF 2 t' m' (nb'::Mu) 3 nb' sv' (rows++[[.str ref,.str ty,a]]):=by
 have hxs:∀ k,(xb=m+k)=False:=fun k=>eq_false (by omega)
 have hss:∀ k,(sb=m+k)=False:=fun k=>eq_false (by omega)
 have hnv:nv.one=true:=hz.1
 rw [← hX]
 simp +decide only [SC,c23_s,Nat.reduceAdd,Bool.and_self,Nat.add_assoc,g0,g12,as',ax,tkP_c,lvP_c,withP_c,cont_c,cont_n]
 generalize hA:appendA _ 3 56 _ _=A
 have hag:∀ x:AB,Agr t (t.put (up .e (m+6)) x) m Mu:=fun x=>(Agr.refl t m Mu).put (.inr (by omega)) x
 have hone:Abs.ones [nm,pv,wv,sv,jv,uv]=true→sv.one=true:=fun _=>hG.one
 have hG':=hG.step (m':=m+11) (Mu':=Mu) (by omega) (hag (.cells [.str ref,.str ty,nv] false)) (fun _ hb=>by rw [gp,if_neg (fun e=>by rw [up_inj] at e; omega)]) (fun i hi=>.inl hi) id
 have hz':=hz.step (m':=m+11) (Mu':=Mu) (by omega) (hag (.cells [.str ref,.str ty,nv] false)) (fun i hi=>.inl hi)
 obtain ⟨t2,rfl,b1,b2⟩:=hG'.append (row:=[.str ref,.str ty,nv]) (ra:=[.str ref,.str ty,a]) hA (sp:=false) (by rw [gp,if_pos rfl]) ⟨(Fz.of (k:=0) rfl rfl).le (by omega),(Fz.of (k:=0) rfl rfl).le (by omega),hz'.le (by omega),trivial⟩ rfl (by decide) (by omega) (by omega)
 have q:t2.get (up .e sb)=some (.cells [nm,pv,wv,sv,jv,uv] false):=by
  rw [b1 sb (by omega) (fun h e=>(hnb h).1 e.symm),gp,if_neg (fun e=>by rw [up_inj] at e; omega)]
  exact as'
 simp +decide only [SC,Nat.reduceAdd,Bool.and_self,Nat.add_assoc,q]
 refine ⟨_,_,_,rfl,by omega,fun q hq=>by simp [addR] at hq; rcases hq with rfl | rfl | rfl | rfl | rfl | rfl | rfl<;>simp +decide only [gp,if_false],m+11,_,by omega,by omega,by rw [gp,if_pos rfl],fun i hi h1 h2 => ?_,b2.step (Nat.le_refl _) ((Agr.refl _ _ _).put (.inl (List.mem_cons_of_mem _ hsb)) _) (fun _ _ => ?_) (fun i hi=>.inl hi) id⟩
 ·rw [gp,if_neg (fun e=>h1 (by rw [up_inj] at e; exact e)),b1 i (by omega) h2,gp,if_neg (fun e=>by rw [up_inj] at e; omega)]
 ·rw [gp,if_neg (fun e=>by rw [up_inj] at e; omega)]
end Go.Abs.Sym
end
section
namespace Go.Abs.Sym
open Go.Abs.T
open Go.Proofs
def busB:Bs:=[66,85,83]
def busN:List Bs:=[[65,91,48,46,46,50,93],[65,91,50,46,46,48,93]]
def busP:Bs:=[68,91,48,46,46,50,93]
theorem add_b {L:Sl Int} (hL:L.l.length<9223372036854775808) {fr:Tr AV} {m sb db tb nb:Nat} {t:Tr AB} {Mu:List Nat} {nm pv wv sv jv uv pa ga:AV} {ref ty:Bs} {rows:List (List AV)} {o:Out}
  (hX:execA K3 (callN K3 48) c23_b ⟨fr,[],⟨up .e m,t,.lf⟩,.no,none,t23⟩=o) (g0:fr.get t0=some (.ptr (up .e sb) 0)) (g1:fr.get t1=some (.ptr (up .e db) 0)) (g3:fr.get t3=some (.str ref)) (g8:fr.get t8=some (.ptr (up .e tb) 0))
  (as':t.get (up .e sb)=some (.cells [nm,pv,wv,sv,jv,uv] false)) (at':t.get (up .e tb)=some (.cells [.str ty,pa,ga] false)) (ad:DrawAt t (up .e db) L)
  (hG:GrowF 1 t m Mu 3 nb jv rows) (hsb:sb∈Mu) (hdb:db∈Mu) (hsm:sb<m) (hdm:db<m) (_htm:tb<m) (hsd:sb≠db) (htd:tb≠db) (_hm1:1≤m) (hnb:0<rows.length→nb≠sb∧nb≠db∧nb<m) (hlen:rows.length<1000) (_hM:∀ i∈Mu,i<m) :
  (∃ fr' m' t',o=.nrm ⟨fr',[],⟨up .e m',t',.lf⟩,.no,none,t23⟩∧m≤m'∧KeepF addR fr fr'∧DrawAt t' (up .e db) L∧(∀ i,i<m→i≠db→t'.get (up .e i)=t.get (up .e i))) ∨
  (ty=busB∧∃ fr' m' t',o=.ret ⟨fr',[],⟨up .e m',t',.lf⟩,.no,none,t23⟩∧m<m'∧DrawAt t' (up .e db) L∧∃ nb' jv' n,n∈busN∧m≤nb'∧nb'<m'∧t'.get (up .e sb)=some (.cells [nm,pv,wv,sv,jv',uv] false) ∧
   (∀ i,i<m→i≠db→i≠sb→(0<rows.length→i≠nb)→t'.get (up .e i)=t.get (up .e i))∧GrowF 1 t' m' (nb'::Mu) 3 nb' jv' (rows++[[.str n,.str ref,.str busP]])):=by
 have hss:∀ k,(sb=m+k)=False:=fun k=>eq_false (by omega)
 have hds:(db=sb)=False:=eq_false fun e=>hsd e.symm
 have hsd':(sb=db)=False:=eq_false hsd
 have htd':(tb=db)=False:=eq_false htd
 rw [← hX]
 cases he:eqS ty busB with
 | false =>
  simp only [busB] at he
  simp +decide only [SC,c23_b,g8,at',he]
  exact .inl ⟨_,_,_,rfl,Nat.le_refl _,fun q hq=>by simp [addR] at hq; rcases hq with rfl | rfl | rfl | rfl | rfl | rfl | rfl<;>simp +decide only [gp,if_false],ad,fun _ _ _=>rfl⟩
 | true =>
  have hty:ty=busB:=eqS_iff.1 he
  simp only [busB] at he
  simp +decide only [SC,c23_b,Nat.reduceAdd,Bool.and_self,g8,at',he,g1]
  generalize hR:callN K3 48 (g t22) _ _=R
  obtain ⟨x,p,j1,rfl,hx,hj1,hp⟩:=next3 (f:=46) (n:=2) (by decide) (by decide) hL hR ad
  have hdraw:∀ T2:Tr AB,T2.get (up .e db)=some (.cells [slV inC L,.int .i64 (.ofNat p)] false)→DrawAt T2 (up .e db) L:=fun T2 h=>⟨p,hp,h⟩
  rcases (show x=0∨x=1 by omega) with rfl | rfl
  ·simp +decide only [SC,Nat.reduceAdd,Nat.add_assoc]
   refine .inl ⟨_,_,_,rfl,hj1,fun q hq=>by simp [addR] at hq; rcases hq with rfl | rfl | rfl | rfl | rfl | rfl | rfl<;>simp +decide only [gp,if_false],hdraw _ (by rw [gp,if_pos rfl]),fun i hi h1 => ?_⟩
   rw [gp,if_neg (fun e=>h1 (by rw [up_inj] at e; exact e))]
  ·have hsj:∀ k,(sb=j1+k)=False:=fun k=>eq_false (by omega)
   have ad2:=hdraw (t.put (up .e db) (.cells [slV inC L,.int .i64 (.ofNat p)] false)) (by rw [gp,if_pos rfl])
   simp +decide only [SC,up_inj,Nat.reduceAdd,Nat.add_assoc,g0,g1,as',hsd',tkP_c,lvP_c,cont_n]
   generalize hR2:callN K3 48 (g t22) _ _=R2
   obtain ⟨x2,p2,j2,rfl,hx2,hj2,hp2⟩:=next3 (f:=46) (n:=2) (by decide) (by decide) hL hR2 ad2
   have e11:eqI (.ofNat 1) (.ofNat 1)=true:=rfl
   have ia0:∀ b:Pth,indexAddrA (.slc 1) (.slc b 0 2 1 (some 2)) (.int .i64 (.ofNat 0))=some (.ptr b 0):=fun _=>rfl
   have ia1:∀ b:Pth,indexAddrA (.slc 1) (.slc b 0 2 1 (some 2)) (.int .i64 (.ofNat 1))=some (.ptr b 1):=fun _=>rfl
   rcases (show x2=0∨x2=1 by omega) with rfl | rfl
   all_goals
    simp +decide only [SC,up_inj,Nat.reduceAdd,Bool.and_self,e11,ia0,ia1,g3,tkP_c,lvP_c,withP_c,cont_c,cont_n]
    generalize hA:appendA _ 3 48 _ _=A
    have hag:∀ x y:AB,Agr t ((((t.put (up .e db) (.cells [slV inC L,.int .i64 (.ofNat p)] false)).put (up .e db) (.cells [slV inC L,.int .i64 (.ofNat p2)] false)).put (up .e (j1+12)) x).put (up .e (j1+5)) y) m Mu:=fun x y =>
     ((((Agr.refl t m Mu).put (.inl hdb) _).put (.inl hdb) _).put (.inr (by omega)) _).put (.inr (by omega)) _
    have hne:∀ {i:Nat} (x y:AB),i<m→i≠db→((((t.put (up .e db) (.cells [slV inC L,.int .i64 (.ofNat p)] false)).put (up .e db) (.cells [slV inC L,.int .i64 (.ofNat p2)] false)).put (up .e (j1+12)) x).put (up .e (j1+5)) y).get (up .e i)=t.get (up .e i):=fun {i} x y hi hd=>by
     have h1:(i=j1+12)=False:=eq_false (by omega)
     have h2:(i=j1+5)=False:=eq_false (by omega)
     simp only [gp,up_inj,h1,h2,hd,if_false]
    have hG':=fun x y=>hG.step (m':=j2) (Mu':=Mu) (by omega) (hag x y) (fun h0 hb=>hne x y hb (hnb h0).2.1) (fun i hi=>.inl hi) id
    obtain ⟨t2,rfl,b1,b2⟩:=(hG' _ _).append hA (sp:=false) (by rw [gp,if_neg (fun e=>by rw [up_inj] at e; omega),gp,if_pos rfl]) (FzL.of (k:=1) rfl rfl) rfl (by decide) (by omega) (by omega)
    have q:t2.get (up .e sb)=some (.cells [nm,pv,wv,sv,jv,uv] false):=by
     rw [b1 sb (by omega) (fun h e=>(hnb h).1 e.symm),hne _ _ hsm hsd]
     exact as'
    have qd:t2.get (up .e db)=some (.cells [slV inC L,.int .i64 (.ofNat p2)] false):=by
     rw [b1 db (by omega) (fun h e=>(hnb h).2.1 e.symm)]
     have h1:(db=j1+12)=False:=eq_false (by omega)
     have h2:(db=j1+5)=False:=eq_false (by omega)
     simp only [gp,up_inj,h1,h2,if_false,if_true]
    simp +decide only [SC,up_inj,Nat.reduceLeDiff,beq_rfl,Bool.and_self,q,as',hsd']
    refine .inr ⟨hty,_,_,_,rfl,by omega,⟨p2,hp2,?_⟩,j2,_,_,?_,by omega,by omega,by rw [gp,if_pos rfl],fun i hi h1 h2 h3 => ?_,b2.step (Nat.le_refl _) ((Agr.refl _ _ _).put (.inl (List.mem_cons_of_mem _ hsb)) _) (fun _ _ => ?_) (fun i hi=>.inl hi) id⟩
    ·rw [gp,if_neg (fun e=>hsd (by rw [up_inj] at e; exact e.symm))]
     exact qd
    ·simp [busN]
    ·rw [gp,if_neg (fun e=>h2 (by rw [up_inj] at e; exact e)),b1 i (by omega) h3,hne _ _ hi h1]
    ·rw [gp,if_neg (fun e=>by rw [up_inj] at e; omega)]
end Go.Abs.Sym
end
end
