/- Tables made where a row is run: calls that do not look at the strings. -/
import Derived.Test.YtaendaokfclnoaaGreatDoorC17
import Derived.Test.YtaendaokfclnoaaGreatDoorC23
import Derived.Test.YtaendaokfclnoaaGreatDoorC20
import Derived.Test.YtaendaokfclnoaaGreatDoorC22
import Derived.Test.YtaendaokfclnoaaGreatDoorC21
import Derived.KernelRfl
noncomputable section
section
namespace Go.Abs.T
open Go.Abs.Sym
open Go.Proofs
open AV
def xTf:List AV→List AV→Bool
 | [],[]=>true
 | a::x,b::y=>xTf x y&&AV.beq a b
 | _,_=>false
theorem xTg:∀ {x y:List AV},xTf x y=true→x=y
 | [],[],_=>rfl
 | a::x,b::y,h=>by
  simp only [xTf,Bool.and_eq_true] at h
  rw [xTg h.1,AV.beq_eq _ _ h.2]
 | [],_::_,h=>by cases h
 | _::_,[],h=>by cases h
def lookT (t:List (List AV×AV)) (args:List AV):Option AV :=
 match t with
 | []=>none
 | e::t=>bif xTf e.1 args then some e.2 else lookT t args
def xK8 (g:Grp) (more:Pth→List AV→H→Option AV) (i:Pth) (args:List AV) (h:H):Option AV :=
 match g with
 | []=>more i args h
 | e::g=>bif Pth.beq i e.1 then (match lookT e.2 args with | some v=>some v | none=>xK8 g more i args h) else xK8 g more i args h
theorem lookT_mem:∀ {t:List (List AV×AV)} {al:List AV} {v:AV},lookT t al=some v→(al,v)∈t
 | [],_,_,h=>by cases h
 | e :: t,al,v,h=>by
  simp only [lookT] at h
  cases hb:xTf e.1 al with
  | false=>rw [hb] at h; exact List.mem_cons_of_mem _ (lookT_mem h)
  | true =>
   rw [hb] at h
   cases h
   rw [← xTg hb]
   exact List.mem_cons_self
theorem xIf {more:Pth→List AV→H→Option AV} {i:Pth} {args:List AV} {h:H} {v:AV}:∀ {g:Grp},xK8 g more i args h=some v→(∃ e∈g,e.1=i∧(args,v)∈e.2)∨more i args h=some v
 | [],hs=>.inr hs
 | e :: g,hs=>by
  unfold xK8 at hs
  cases hb:Pth.beq i e.1 with
  | false =>
   rw [hb] at hs
   rcases xIf hs with ⟨x,h1,h2⟩ | hs
   ·exact .inl ⟨x,List.mem_cons_of_mem _ h1,h2⟩
   ·exact .inr hs
  | true =>
   rw [hb] at hs
   simp only [cond_true] at hs
   cases hl:lookT e.2 args with
   | some u =>
    rw [hl] at hs
    cases hs
    exact .inl ⟨e,List.mem_cons_self,(Pth.beq_iff.1 hb).symm,lookT_mem hl⟩
   | none =>
    rw [hl] at hs
    rcases xIf hs with ⟨x,h1,h2⟩ | hs
    ·exact .inl ⟨x,List.mem_cons_of_mem _ h1,h2⟩
    ·exact .inr hs
noncomputable def runT (X:Ctx) (f:Pth) (al:List AV) (k:AV→Bool):Bool :=
 frzs al&&F.callC X 60 (.fn f [] []) al h0 (fun r=>match r with | .ret v h=>nfA (deep 8 h v) fun d=>frz d&&k d | _=>false)
noncomputable def xT6 (X:Ctx) (f:Pth):List (List AV)→(List (List AV×AV)→Bool)→Bool
 | [],k=>k []
 | al::l,k=>xVi al fun al=>runT X f al fun d=>xT6 X f l fun t=>k ((al,d)::t)
noncomputable def tabs (X:Ctx):List (Pth×List (List AV))→(Grp→Bool)→Bool
 | [],k=>k []
 | e::l,k=>xT6 X e.1 e.2 fun t=>tabs X l fun g=>k ((e.1,t)::g)
def xPe (t:Toks) (g:Grp):Prop:=∀ e∈g,∀ r∈e.2,frzs r.1=true∧frz r.2=true∧zP e.1 (xK t r.1) (r.2.subst t)
section
variable {X:Ctx} (hg:X.globs=.lf)
include hg
theorem yA1 {f:Pth} {al:List AV} {k:AV→Bool} (h:runT X f al k=true):∃ d,frzs al=true∧frz d=true∧k d=true∧∀ t:Toks,@XOK t.env Tryz.prog X→zP f (xK t al) (d.subst t):=by
 unfold runT at h
 rw [Bool.and_eq_true,F.callC_eq] at h
 obtain ⟨hf,h⟩:=h
 split at h
 ·rename_i v h1 hc
  rw [dC,Bool.and_eq_true] at h
  exact ⟨_,hf,h.1,h.2,fun t xo=>hY t xo hg hc hf h.1⟩
 ·cases h
theorem xQs {f:Pth}:∀ {l:List (List AV)} {k:List (List AV×AV)→Bool},xT6 X f l k=true→∃ tb,k tb=true∧∀ t:Toks,@XOK t.env Tryz.prog X→∀ r∈tb,frzs r.1=true∧frz r.2=true∧zP f (xK t r.1) (r.2.subst t)
 | [],k,h=>⟨[],h,fun _ _ _ h=>absurd h List.not_mem_nil⟩
 | al::l,k,h=>by
  unfold xT6 at h
  rw [xD0] at h
  obtain ⟨d,h1,h2,h3,h4⟩:=yA1 hg h
  obtain ⟨tb,h5,h6⟩:=xQs h3
  refine ⟨_,h5,fun t xo r hr => ?_⟩
  rcases List.mem_cons.1 hr with rfl | hr
  ·exact ⟨h1,h2,h4 t xo⟩
  ·exact h6 t xo r hr
theorem xT7:∀ {l:List (Pth×List (List AV))} {k:Grp→Bool},tabs X l k=true→∃ g,k g=true∧∀ t:Toks,@XOK t.env Tryz.prog X→xPe t g
 | [],k,h=>⟨[],h,fun _ _ _ h=>absurd h List.not_mem_nil⟩
 | e::l,k,h=>by
  unfold tabs at h
  obtain ⟨tb,h1,h2⟩:=xQs hg h
  obtain ⟨g,h3,h4⟩:=xT7 h1
  refine ⟨_,h3,fun t xo x hx => ?_⟩
  rcases List.mem_cons.1 hx with rfl | hx
  ·exact h2 t xo
  ·exact h4 t xo x hx
end
theorem xPe.app {t:Toks} {g h:Grp} (h1:xPe t g) (h2:xPe t h):xPe t (g++h):=fun e he=>(List.mem_append.1 he).elim (h1 e) (h2 e)
abbrev xOq:Type:=Pth→List AV→H→Option AV
def SOK (t:Toks) (s:xOq):Prop:=∀ X:Ctx,@jH t.env Tryz.prog X s
def XS (s:xOq):Ctx:={ X0 with sums:=s }
theorem xYo {t:Toks} {s:xOq} (h:SOK t s):@XOK t.env Tryz.prog (XS s):=@XOK.mk t.env _ _ mixed kV (mT (envI:=t.env)) (h _)
theorem xW5 {t:Toks} {g:Grp} {more:xOq} (hg:xPe t g) (hm:SOK t more):SOK t (xK8 g more):=by
 intro X i args h v hs ρ w avs hr hv
 rcases xIf hs with ⟨e,h1,rfl,h2⟩ | hs
 ·obtain ⟨f1,f2,f3⟩:=hg e h1 _ h2
  exact nJ (X:=X) t f1 f2 f3 (hm X) e.1 args h v (by simp only [wY,Pth.beq_iff.2 rfl,nF,Bool.and_self,cond_true]) ρ w avs hr hv
 ·exact hm X i args h v hs ρ w avs hr hv
def yFf:AV→List (List Nat)
 | .agg [_,.rslc _ ps,_]=>xI2 ps
 | _=>[]
def zSm (ty:AV):List (Pth×List (List AV)):=[(t44,(yFf ty).map fun s=>[ty,.str s]),(t54,[[ty]])]
noncomputable def zTr (s:xOq) (ty:AV) (k:Ctx→Bool):Bool:=tabs (XS s) (zSm ty) fun g0=>k (XS (xK8 g0 s))
theorem zTs {s:xOq} {ty:AV} {k:Ctx→Bool} (h:zTr s ty k=true):∃ X',k X'=true∧X'.globs=.lf∧∀ t,SOK t s→@XOK t.env Tryz.prog X':=by
 unfold zTr at h
 obtain ⟨g0,h1,t0⟩:=xT7 rfl h
 exact ⟨_,h1,rfl,fun t xo=>xYo (xW5 (t0 t (xYo xo)) xo)⟩
def sR (ty:AV):xOq:=wY t17 [ty] i0 (wY t33 [ty] i0 (fun _ _ _=>none))
theorem yD9 {t:Toks} {ty:AV} (hz:frz ty=true) (hc:zP t17 [ty.subst t] i0) (hr:zP t33 [ty.subst t] i0):SOK t (sR ty):=fun X =>
 nJ t (by simp only [frzs,hz,Bool.and_self]) rfl (by simp only [xK]; exact hc) (nJ t (by simp only [frzs,hz,Bool.and_self]) rfl (by simp only [xK]; exact hr) (kX (envI:=t.env)))
def xQv (K:Nat):List AV→Option (List Nat)
 | []=>some []
 | .sym i::l=>bif Nat.beq (i / 8) K then (match xQv K l with | some x=>some (i % 8::x) | none=>none) else none
 | _=>none
def zA7 (K:Nat):AV→Option (List Nat)
 | .rslc n cs=>bif Nat.beq n cs.length&&Nat.blt n 90000 then xQv K cs else none
 | _=>none
def zA9 (K:Nat) (k:mB) (args:List AV) (h:H):Option Bool :=
 match args with
 | [a,b]=>match zA7 K (deep 3 h a),zA7 K (deep 3 h b) with
  | some x,some y=>Go.Abs.Sym.look k x y
  | _,_=>none
 | _=>none
def zZg (K:Nat) (k:mB) (more:xOq):xOq:=fun i args h =>
 bif Pth.beq i t62 then (match zA9 K k args h with | some true=>some (.int .i64 (.negSucc 0)) | some false=>some (.sym xS9) | none=>none)
 else bif Pth.beq i t36 then (match zA9 K k args h with | some b=>some (.bool b) | none=>none)
 else more i args h
theorem xMm {t:Toks} {X:Ctx} {ρ:Nm} {h:H} {w:World} {f:Pth} {avs:Array Value} {al:List AV} {v r:AV} (hF:zP f al v) (hv:@VRs yU w (ρ0 w) (Lv (ρ0 w) h0) al avs.toList) (hr:@HR t.env Tryz.prog X ρ h w)
  (hback:∀ w' ρ1 L1 ρ2 L2 vv,@VR yU w' ρ1 L1 v vv→@VR t.env w' ρ2 L2 r vv):@mS t.env Tryz.prog X ρ h w (callFunc f.num avs) (.ret r h):=by
 have hR:=hF X0 (ρ0 w) h0 w avs (HR.empty (envI:=yU) rfl (HR.opn (envI:=t.env) hr).1) hv
 have back:∀ {vv w'},@vC yU Tryz.prog X0 (ρ0 w) h0 w v h0 vv w'→@vC t.env Tryz.prog X ρ h w r h vv w':=by
  intro vv w' hb
  obtain ⟨k1,k2,k3,k4,k5⟩:=vC.kept (envI:=yU) hb
  obtain ⟨ρ',_,_,g3⟩:=hb
  have hsim:=xV1 (ρ:=ρ) (L:=Lv ρ h) k1 k2 k3 k4 k5
  exact ⟨ρ,HR.later (envI:=t.env) hr k1 k2 hsim,hsim,hback _ _ _ _ _ _ g3⟩
 obtain ⟨nx,w1,hrun,hR⟩:=hR
 refine ⟨nx,w1,hrun,?_⟩
 rcases hR with ⟨vv,e,hb⟩ | ⟨F,hF,hR⟩
 ·exact .inl ⟨vv,e,back hb⟩
 ·refine .inr ⟨F,hF,fun c cs => ?_⟩
  obtain ⟨vv,w',hb,hst⟩:=hR c cs
  exact ⟨vv,w',back hb,hst⟩
theorem xW9 {td:TokD} (ok:td.Ok) (hN:rK≤td.K):∀ {cs:List AV} {x:List Nat},xQv td.K cs=some x→frzs cs=true∧xK (xH td ok) cs=(x.map td.σ).map .str
 | [],x,h=>by cases h; exact ⟨rfl,rfl⟩
 | v :: cs,x,h=>by
  cases v<;>simp only [xQv,reduceCtorEq] at h
  rename_i i
  cases hb:Nat.beq (i / 8) td.K with
  | false=>rw [hb] at h; cases h
  | true =>
   rw [hb] at h
   simp only [cond_true] at h
   split at h
   ·rename_i x' hx
    cases h
    obtain ⟨h1,h2⟩:=xW9 ok hN hx
    have e:=Nat.eq_of_beq_eq_true hb
    have ei:i=xEk td.K (i % 8):=by unfold xEk; omega
    have hv:(xH td ok).val i=.str (td.σ (i % 8)):=by
     conv=>lhs; rw [ei]
     exact xHa hN (Nat.mod_lt _ (by decide))
    exact ⟨by simp only [frzs,frz,h1,Bool.and_self],by simp only [xK,AV.subst,hv,h2,List.map_cons]⟩
   ·cases h
theorem xQw {K:Nat}:∀ {cs:List AV} {x:List Nat},xQv K cs=some x→x.length=cs.length
 | [],x,h=>by cases h; rfl
 | v :: cs,x,h=>by
  cases v<;>simp only [xQv,reduceCtorEq] at h
  rename_i i
  cases hb:Nat.beq (i / 8) K with
  | false=>rw [hb] at h; cases h
  | true =>
   rw [hb] at h
   simp only [cond_true] at h
   split at h
   ·rename_i x' hx
    cases h
    simp only [List.length_cons,xQw hx]
   ·cases h
theorem xVa {td:TokD} (ok:td.Ok) (hN:rK≤td.K) {v:AV} {x:List Nat} (h:zA7 td.K v=some x):frz v=true∧v.subst (xH td ok)=nC (x.map td.σ)∧x.length<90000:=by
 unfold zA7 at h
 split at h
 ·rename_i n cs
  cases hb:Nat.beq n cs.length&&Nat.blt n 90000 with
  | false=>rw [hb] at h; cases h
  | true =>
   rw [hb] at h
   rw [Bool.and_eq_true] at hb
   obtain ⟨h1,h2⟩:=xW9 ok hN h
   have hl:=xQw h
   have hn:=Nat.eq_of_beq_eq_true hb.1
   have hlt:=Nat.le_of_ble_eq_true hb.2
   refine ⟨by simp only [frz,h1],?_,by omega⟩
   simp only [AV.subst,h2,nC,List.length_map,hl,hn]
 ·cases h
theorem zZh {td:TokD} (ok:td.Ok) (hN:rK≤td.K) {k:mB} (hk:xJf td.σ k) {more:xOq} (hm:SOK (xH td ok) more):SOK (xH td ok) (zZg td.K k more):=by
 intro X i args h v hs ρ w avs hr hv
 have args2:∀ {b:Bool},zA9 td.K k args h=some b→∃ x y:List (List Nat),xV x y=b∧x.length<90000∧@VRs yU w (ρ0 w) (Lv (ρ0 w) h0) [slV xN ⟨1,x⟩,slV xN ⟨1,y⟩] avs.toList:=by
  intro b hb
  unfold zA9 at hb
  split at hb
  ·rename_i a b'
   split at hb
   ·rename_i x y hx hy
    obtain ⟨z1,s1,l1⟩:=xVa ok hN hx
    obtain ⟨z2,s2,_⟩:=xVa ok hN hy
    simp only [VRs] at hv
    obtain ⟨u1,us1,e1,v1,u2,us2,rfl,v2,rfl⟩:=hv
    have d1:=(dX _ _).1 (xRi (envI:=(xH td ok).env) hr 3 a u1 v1 z1)
    have d2:=(dX _ _).1 (xRi (envI:=(xH td ok).env) hr 3 b' u2 v2 z2)
    rw [s1,xCe] at d1
    rw [s2,xCe] at d2
    refine ⟨x.map td.σ,y.map td.σ,look_ok hk hb,by rw [List.length_map]; exact l1,?_⟩
    rw [e1]
    simp only [VRs]
    exact ⟨u1,_,rfl,d1,u2,_,rfl,d2,rfl⟩
   ·cases hb
  ·cases hb
 unfold zZg at hs
 cases hi:Pth.beq i t62 with
 | true =>
  rw [hi] at hs
  simp only [cond_true] at hs
  rw [Pth.beq_iff.1 hi]
  split at hs
  ·rename_i hb
   cases hs
   obtain ⟨x,y,h1,hl,h2⟩:=args2 hb
   have hF:=xTm ⟨1,x⟩ ⟨1,y⟩ hl
   simp only [(xRc x y).1 h1] at hF
   exact xMm hF h2 hr (fun _ _ _ _ _ _ h=>by simp only [VR] at h ⊢; exact h)
  ·rename_i hb
   cases hs
   obtain ⟨x,y,h1,hl,h2⟩:=args2 hb
   have hF:=xTm ⟨1,x⟩ ⟨1,y⟩ hl
   have h0:=(xRc x y).2 h1
   simp only at hF
   generalize cmpL x y=c at hF h0
   exact xMm hF h2 hr (fun _ _ _ _ _ _ h=>by
    simp only [VR] at h ⊢
    exact (Env.nng (self:=(xH td ok).env)).2 ⟨c,h,h0⟩)
  ·cases hs
 | false =>
  rw [hi] at hs
  simp only [cond_false] at hs
  cases hi2:Pth.beq i t36 with
  | true =>
   rw [hi2] at hs
   simp only [cond_true] at hs
   rw [Pth.beq_iff.1 hi2]
   split at hs
   ·rename_i b hb
    cases hs
    obtain ⟨x,y,h1,hl,h2⟩:=args2 hb
    have hF:=zBw ⟨1,x⟩ ⟨1,y⟩ hl
    simp only [h1] at hF
    exact xMm hF h2 hr (fun _ _ _ _ _ _ h=>by simp only [VR] at h ⊢; exact h)
   ·cases hs
  | false =>
   rw [hi2] at hs
   exact hm X i args h v hs ρ w avs hr hv
noncomputable def yCx (X:Ctx) (args:List AV) (l:List (Nat×Nat)) (K m:Nat):Bool :=
 F.callC X 100 (.fn t7 [] []) args h0 (fun r1=>F.callC X 100 (.fn t8 [] []) args h0 (fun r2=>yDa l K m r1 r2))
noncomputable def xZ2 (g:Grp) (ty:AV) (m:Nat) (l:mB):Bool:=nfN (kOf l) fun K=>yNf K l&&(Nat.ble rK K&&nfA (xP2 K m) fun nt=>yCx (XS (zZg K l (xK8 g (sR ty)))) [ty,nt] (xZy l l) K m)
noncomputable def xCv (ty:AV) (m i c:Nat):Bool:=nfA ty fun ty=>frz ty&&tabs (XS (sR ty)) (zSm ty) fun g=>(((gD [] (xFu ty)).drop i).take c).all (xZ2 g ty m)
noncomputable def xIe (ty:AV) (m i c:Nat):Bool:=nfA ty fun ty=>frz ty&&nfN (xXh (xL9 ty)) fun M=>zTr (sR ty) ty fun X=>((((xL9 ty).map AV.str++[AV.sym (xBm M 0)]).drop i).take c).all fun A=>((xL9 ty).map AV.str++[AV.sym (xBm M 1)]).all fun B=>[false,true].all fun q =>
  nfA (xP2 rK m) fun nt=>nfA (agg [.sym 901,A,B,bool q]) fun s=>both X t13 t14 [ty,nt,s] (yNs m)
end Go.Abs.T
end
section
namespace Go.Abs.Sym
open Go.Abs.T
open Go.Proofs
def xP3:List (List Nat)→Nat→List Nat
 | [],_=>[]
 | a::_,0=>a
 | _::l,n+1=>xP3 l n
theorem zJh {m:Nat} {l:List (List Nat)} (hl:l.length=m) (hm:m≤6):([0,1,2,3,4,5].take m).map (xP3 l)=l:=by
 subst hl
 match l,hm with
 | [],_=>rfl
 | [a],_=>rfl
 | [a,b],_=>rfl
 | [a,b,c],_=>rfl
 | [a,b,c,d],_=>rfl
 | [a,b,c,d,e],_=>rfl
 | [a,b,c,d,e,f],_=>rfl
 | a::b::c::d::e::f::g::l,h=>simp only [List.length_cons] at h; omega
theorem xNc {td:TokD} (ok:td.Ok) (hN:rK≤td.K) {m:Nat} {l:List (List Nat)} (hl:l.length=m) (hm:m≤6) (hσ:td.σ=xP3 l):(xP2 td.K m).subst (xH td ok)=nC l:=by
 have hmap:∀ L:List Nat,(∀ i∈L,i<8)→xK (xH td ok) (L.map fun i=>.sym (xEk td.K i))=L.map (fun i=>.str (xP3 l i)):=fun L=>by
  induction L with
  | nil=>intro _; rfl
  | cons a L ih =>
   intro h
   have h1:(xH td ok).val (xEk td.K a)=.str (xP3 l a):=by rw [← hσ]; exact xHa hN (h a List.mem_cons_self)
   simp only [List.map_cons,xK,AV.subst,h1,ih (fun i hi=>h i (List.mem_cons_of_mem _ hi))]
 have h6:∀ i∈[0,1,2,3,4,5].take m,i<8:=fun i hi=>by
  have:=List.mem_of_mem_take hi
  simp only [List.mem_cons,List.not_mem_nil,or_false] at this
  omega
 have e:([0,1,2,3,4,5].take m).map (fun i=>AV.str (xP3 l i))=l.map .str:=by
  conv=>rhs; rw [← zJh hl hm]
  rw [List.map_map]
  rfl
 simp only [xP2,AV.subst,hmap _ h6,e,nC,hl]
theorem xQx {td:TokD} (ok:td.Ok) (hN:rK≤td.K):∀ cs:List AV,cs.all (xQ6 td.K)=true→∃ l:List (List Nat),l.length=cs.length∧xK (xH td ok) cs=l.map .str∧frzs cs=true
 | [],_=>⟨[],rfl,rfl,rfl⟩
 | v :: cs,h=>by
  rw [List.all_cons,Bool.and_eq_true] at h
  obtain ⟨l,h1,h2,h3⟩:=xQx ok hN cs h.2
  cases v<;>simp only [xQ6,Bool.false_eq_true,false_and] at h
  rename_i i
  have e:=Nat.eq_of_beq_eq_true h.1
  have ei:i=xEk td.K (i % 8):=by unfold xEk; omega
  have hv:(xH td ok).val i=.str (td.σ (i % 8)):=by
   conv=>lhs; rw [ei]
   exact xHa hN (Nat.mod_lt _ (by decide))
  exact ⟨td.σ (i % 8)::l,by simp only [List.length_cons,h1],by simp only [xK,AV.subst,hv,h2,List.map_cons],by simp only [frzs,frz,h3,Bool.and_self]⟩
theorem zHe {X:Ctx} {f g:Pth} {args:List AV} {p:AV→Bool} (h:both X f g args p=true):∃ v1 h1 v2 h2,xC X 100 (.fn f [] []) args h0=.ret v1 h1∧xC X 100 (.fn g [] []) args h0=.ret v2 h2∧deep 8 h2 v2=deep 8 h1 v1∧p (deep 8 h1 v1)=true:=by
 unfold both at h
 rw [F.callC_eq,F.callC_eq] at h
 unfold yDb at h
 split at h
 ·rename_i r1 v1 h1 e1
  split at h
  ·rename_i r2 v2 h2 e2
   simp only [Bool.and_eq_true] at h
   exact ⟨v1,h1,v2,h2,e1,e2,(AV.beq_eq _ _ h.1).symm,h.2⟩
  ·cases h
 ·cases h
def xTb (ty:AV) (m:Nat):Prop:=∀ i k,(gD [] (xFu ty))[i]?=some k→∃ j c,xCv ty m j c=true∧j≤i∧i<j+c
theorem xMq (K:Nat):∀ L:List Nat,frzs (L.map fun i=>AV.sym (xEk K i))=true
 | []=>rfl
 | _::L=>by simp only [List.map_cons,frzs,frz,xMq K L,Bool.and_self]
def xOh:List AV→List Nat
 | .sym i::cs=>i % 8::xOh cs
 | _=>[]
theorem zB2 (l:List (Nat×Nat)):∀ cs:List AV,zFg l cs=(xOh cs).map (rep l)
 | []=>rfl
 | v::cs=>by
  cases v<;>try rfl
  rename_i i
  simp only [zFg,xOh,List.map_cons,zB2 l cs]
theorem zB3 {σ:Nat→List Nat} {l:List (Nat×Nat)} (hq:xTc σ l) {K m:Nat} {d:AV} (_hp:xVj K m d=true):(zFg l (resC d)).map σ=(xOh (resC d)).map σ:=by
 rw [zB2,List.map_map]
 refine List.map_congr_left (fun a _ => ?_)
 exact yG0 hq a
theorem xOj {td:TokD} (ok:td.Ok) (hN:rK≤td.K):∀ cs:List AV,cs.all (xQ6 td.K)=true→(xOh cs).length=cs.length∧xK (xH td ok) cs=((xOh cs).map td.σ).map .str∧frzs cs=true
 | [],_=>⟨rfl,rfl,rfl⟩
 | v :: cs,h=>by
  rw [List.all_cons,Bool.and_eq_true] at h
  obtain ⟨h1,h2,h3⟩:=xOj ok hN cs h.2
  cases v<;>simp only [xQ6,Bool.false_eq_true,false_and] at h
  rename_i i
  have e:=Nat.eq_of_beq_eq_true h.1
  have ei:i=xEk td.K (i % 8):=by unfold xEk; omega
  have hv:(xH td ok).val i=.str (td.σ (i % 8)):=by
   conv=>lhs; rw [ei]
   exact xHa hN (Nat.mod_lt _ (by decide))
  exact ⟨by simp only [xOh,List.length_cons,h1],by simp only [xK,AV.subst,hv,h2,xOh,List.map_cons],by simp only [frzs,frz,h3,Bool.and_self]⟩
theorem zS5 {td:TokD} (ok:td.Ok) (hN:rK≤td.K) {X:Ctx} (xo:@XOK (xH td ok).env Tryz.prog X) (hg:X.globs=.lf) {f:Pth} {args:List AV} (hfa:frzs args=true) {v1:AV} {g1:H} (hc:xC X 100 (.fn f [] []) args h0=.ret v1 g1) {m:Nat} (hp:xVj td.K m (deep 8 g1 v1)=true) :
  ∃ l1:List (List Nat),l1.length=m∧l1=(xOh (resC (deep 8 g1 v1))).map td.σ∧zP f (xK (xH td ok) args) (.tup [nC l1,.bool true]):=by
 generalize hd:deep 8 g1 v1=d at hp
 unfold xVj at hp
 split at hp
 ·rename_i n cs
  simp only [Bool.and_eq_true] at hp
  obtain ⟨⟨q1,q2⟩,q3⟩:=hp
  have e1:=Nat.eq_of_beq_eq_true q1
  have e2:=Nat.eq_of_beq_eq_true q2
  obtain ⟨k1,k2,k3⟩:=xOj ok hN cs q3
  have hfr:frz (AV.tup [.rslc n cs,.bool true])=true:=by simp only [frz,frzs,k3,Bool.and_self]
  have hv:(AV.tup [.rslc n cs,.bool true]).subst (xH td ok)=.tup [nC ((xOh cs).map td.σ),.bool true]:=by
   simp only [AV.subst,xK,k2,nC,List.length_map,k1,e1,e2]
  refine ⟨(xOh cs).map td.σ,by rw [List.length_map,k1,e2],rfl,?_⟩
  have hF:=hY (xH td ok) xo hg hc hfa (d:=8) (by rw [hd]; exact hfr)
  rw [hd,hv] at hF
  exact hF
 ·cases hp
section
variable {T:TypD} {gg:AV} {w u:Int} (I:TyI T gg w u) (hc:zP t17 [.agg (tyC T)] i0) (hr:zP t33 [.agg (tyC T)] i0)
include I hc hr in
theorem zXf {m:Nat} (hm:m≤6) (row:xTb (tyN (qN T) gg) m) {l:List (List Nat)} (hl:l.length=m):∃ l':List (List Nat),l'.length=m∧zP t7 [.agg (tyC T),nC l] (.tup [nC l',.bool true])∧zP t8 [.agg (tyC T),nC l] (.tup [nC l',.bool true]):=by
 obtain ⟨k,hk,hka⟩:=xB5 (σ:=xP3 l) (xFu (tyN (qN T) gg)) [] (fun _ h=>absurd h List.not_mem_nil)
 obtain ⟨i,hi⟩:=List.mem_iff_getElem?.1 hk
 obtain ⟨j,cnt,row,h1,h2⟩:=row i k hi
 unfold xCv at row
 rw [dC,Bool.and_eq_true] at row
 obtain ⟨hz,row⟩:=row
 obtain ⟨g,row,tg⟩:=xT7 rfl row
 have hb:=List.all_eq_true.1 row k (by
  refine List.mem_iff_getElem?.2 ⟨i - j,?_⟩
  rw [List.getElem?_take,if_pos (by omega),List.getElem?_drop,show j+(i - j)=i by omega]
  exact hi)
 unfold xZ2 at hb
 rw [xEg] at hb
 simp only [Bool.and_eq_true] at hb
 obtain ⟨hK,hN,hb⟩:=hb
 rw [dC] at hb
 have hN':=Nat.le_of_ble_eq_true hN
 have ok:=xYd T [] I.w2 I.u2 (e:=2) (by decide) (yF8 hK hka) (M:=0) (φ:=fun _=>[]) (fun _=>rfl)
 have hs:=xJd ok I
 have hn:=xNc ok hN' hl hm rfl
 have s0:SOK (xH _ ok) (sR (tyN (qN T) gg)):=yD9 hz (by rw [hs]; exact hc) (by rw [hs]; exact hr)
 have xo:@XOK (xH _ ok).env Tryz.prog (XS (zZg (kOf k) k (xK8 g (sR (tyN (qN T) gg))))):=xYo (zZh ok hN' hka (xW5 (tg _ (xYo s0)) s0))
 have hfa:frzs [tyN (qN T) gg,xP2 (kOf k) m]=true:=by
  have h2:frzs (([0,1,2,3,4,5].take m).map fun i=>AV.sym (xEk (kOf k) i))=true:=xMq _ _
  simp only [frzs,xP2,frz,hz,h2,Bool.and_self]
 unfold yCx at hb
 rw [F.callC_eq,F.callC_eq] at hb
 unfold yDa at hb
 split at hb
 ·rename_i r1 v1 g1 c1
  split at hb
  ·rename_i r2 v2 g2 c2
   simp only [Bool.and_eq_true] at hb
   obtain ⟨p1,p2,p3⟩:=hb
   obtain ⟨l1,k1,e1,F1⟩:=zS5 ok hN' xo rfl hfa c1 p1
   obtain ⟨l2,k2,e2,F2⟩:=zS5 ok hN' xo rfl hfa c2 p2
   have he:l1=l2:=by
    have:=congrArg (List.map (xP3 l)) (xMj p3)
    rw [e1,e2]
    have hq:=xUk hka k
    rw [zB3 hq p1,zB3 hq p2] at this
    exact this
   subst he
   simp only [xK,hs] at F1 F2
   rw [show (xP2 (kOf k) m).subst (xH _ ok)=nC l from hn] at F1 F2
   exact ⟨l1,k1,F1,F2⟩
  ·cases hb
 ·cases hb
end
end Go.Abs.Sym
end
section
namespace Go.Abs.Sym
open Go.Abs.T
open Go.Proofs
def mk (nm:List (List Nat)):List (List Nat)→Nat
 | []=>0
 | s::l=>(bif mI s nm then 1 else 0)+2*mk nm l
theorem xN8 (nm:List (List Nat)):∀ (l:List (List Nat)) (k:Nat),xL1 nm k l=2 ^ k*mk nm l
 | [],_=>rfl
 | s::l,k=>by
  have ih:=xN8 nm l (k+1)
  simp only [xL1,mk,ih,Nat.mul_add,Nat.pow_succ,Nat.mul_assoc]
  cases mI s nm<;>simp only [cond_true,cond_false,Nat.mul_one,Nat.mul_zero]
theorem zC2 (nm:List (List Nat)):xXh nm=mk nm vE:=by
 rw [xXh,xN8,Nat.pow_zero,Nat.one_mul]
theorem yD4 (nm:List (List Nat)):mk nm vE<256:=by
 have h:∀ l:List (List Nat),mk nm l<2 ^ l.length:=fun l=>by
  induction l with
  | nil=>exact Nat.one_pos
  | cons a l ih =>
   have h1:(bif mI a nm then 1 else 0)≤1:=by cases mI a nm<;>decide
   simp only [mk,List.length_cons,Nat.pow_succ]
   omega
 exact h vE
theorem zBb {nm:List (List Nat)} {s:List Nat} (hs:¬ s∈nm):∀ l:List (List Nat),mI s (xGr (mk nm l) l)=false
 | []=>rfl
 | x :: l=>by
  have ih:=zBb hs l
  unfold xGr mk
  cases hx:mI x nm with
  | true =>
   have h1:(1+2*mk nm l) % 2=1:=by omega
   have h2:(1+2*mk nm l) / 2=mk nm l:=by omega
   have hne:eqS s x=false:=by
    cases hq:eqS s x with
    | false=>rfl
    | true=>exact absurd (qC.1 hq▸dZ.1 hx) hs
   simp only [cond_true,h1,h2,show Nat.beq 1 1=true from rfl,mI,hne,ih,Bool.or_self]
  | false =>
   have h1:(0+2*mk nm l) % 2=0:=by omega
   have h2:(0+2*mk nm l) / 2=mk nm l:=by omega
   simp only [cond_false,h1,h2,show Nat.beq 0 1=false from rfl,ih]
theorem xOa {s:List Nat}:∀ (l:List (List Nat)) (M:Nat),¬ s∈l→mI s (xGr M l)=false
 | [],_,_=>rfl
 | x :: l,M,h=>by
  have ih:=xOa l (M / 2) (fun h'=>h (List.mem_cons_of_mem _ h'))
  unfold xGr
  cases Nat.beq (M % 2) 1 with
  | false=>exact ih
  | true =>
   have hne:eqS s x=false:=by
    cases hq:eqS s x with
    | false=>rfl
    | true=>exact absurd (qC.1 hq▸List.mem_cons_self) h
   simp only [cond_true,mI,hne,ih,Bool.or_self]
theorem xNb:∀ (nms:List (List Nat)) (k:Nat),xI2 (xX4 k nms)=nms
 | [],_=>rfl
 | s::l,k=>by
  have ih:=xNb l (k+1)
  simp only [xX4,zF9,List.cons_append,List.nil_append,xI2,ih]
theorem zFq {nms:List (List Nat)} (h:nms≠[]) (gg:AV):xL9 (tyN nms gg)=nms:=by
 cases nms with
 | nil=>exact absurd rfl h
 | cons s l=>exact xNb (s::l) 0
def zGt (ty:AV) (m:Nat):Prop:=∀ i,i<m+1→∃ j c,xIe ty m j c=true∧j≤i∧i<j+c
def SwV (m:Nat) (v:AV):Prop:=∃ e:Int,v=.tup [.nils,.int .i64 e]∨∃ l':List (List Nat),l'.length=m∧v=.tup [nC l',.int .i64 e]
def xPa (z A B:List Nat) (q:Bool):AV:=.agg [.str z,.str A,.str B,.bool q]
def phi (nm:List (List Nat)) (s:List Nat):List Nat:=bif mI s nm then [0] else s
theorem zG9 (σ:Nat→List Nat):KOk rK σ:=fun a b ha hb h=>by
 exfalso
 apply h
 have h1:rK=4 ^ 64:=rfl
 have h2:8*a+b<64:=by omega
 rw [h1,show (64:Nat)=(8*a+b)+((63 - (8*a+b))+1) by omega,Nat.pow_add,Nat.mul_div_cancel_left _ (Nat.pow_pos (by decide)),Nat.pow_succ,Nat.mul_mod_left]
theorem zRr (nm:List (List Nat)) (s:List Nat):mI (phi nm s) (xGr (mk nm vE) vE)=false:=by
 unfold phi
 cases h:mI s nm with
 | true =>
  show mI [0] _=false
  exact xOa vE _ (by decide)
 | false =>
  show mI s _=false
  exact zBb (fun h'=>by rw [dZ.2 h'] at h; cases h) vE
def xXv (nm:List (List Nat)) (A B:List Nat) (i:Nat):List Nat:=if i=0 then phi nm A else if i=1 then phi nm B else [0]
theorem zZp (nm:List (List Nat)) (A B:List Nat) (i:Nat):mI (xXv nm A B i) (xGr (mk nm vE) vE)=false:=by
 unfold xXv
 split
 ·exact zRr _ _
 ·split
  ·exact zRr _ _
  ·exact xOa vE _ (by decide)
theorem xVg {T:TypD} {z:List Nat} {w u:Int} {σ:Nat→List Nat} {A B:List Nat} (ok:(tdT T z w u 2 rK σ (mk (qN T) vE) (xXv (qN T) A B)).Ok) :
  (xH _ ok).val (xBm (mk (qN T) vE) 0)=.str (phi (qN T) A)∧(xH _ ok).val (xBm (mk (qN T) vE) 1)=.str (phi (qN T) B) :=
 ⟨xW8 (t:=tdT T z w u 2 rK σ (mk (qN T) vE) (xXv (qN T) A B)) (yD4 _) (i:=0) (by decide),xW8 (t:=tdT T z w u 2 rK σ (mk (qN T) vE) (xXv (qN T) A B)) (yD4 _) (i:=1) (by decide)⟩
theorem xVf {T:TypD} {td:TokD} (ok:td.Ok) (s:List Nat) (j:Nat) (hv:(xH td ok).val (xBm (mk (qN T) vE) j)=.str (phi (qN T) s)) :
  ∃ a∈(qN T).map AV.str++[AV.sym (xBm (mk (qN T) vE) j)],a.subst (xH td ok)=.str s∧frz a=true:=by
 cases h:mI s (qN T) with
 | true=>exact ⟨.str s,List.mem_append_left _ (List.mem_map.2 ⟨s,dZ.1 h,rfl⟩),rfl,rfl⟩
 | false =>
  refine ⟨.sym (xBm (mk (qN T) vE) j),List.mem_append_right _ (List.mem_singleton.2 rfl),?_,rfl⟩
  show (xH _ ok).val _=.str s
  rw [hv]
  simp only [phi,h,cond_false]
section
variable {T:TypD} {gg:AV} {w u:Int} (I:TyI T gg w u) (hc:zP t17 [.agg (tyC T)] i0) (hr:zP t33 [.agg (tyC T)] i0)
include I hc hr in
theorem yG6 (hne:T.pads.l≠[]) {m:Nat} (hm:m≤6) (hml:T.pads.l.length=m) (row:zGt (tyN (qN T) gg) m) {l:List (List Nat)} (hl:l.length=m) (z A B:List Nat) (q:Bool) :
  ∃ v,SwV m v∧zP t13 [.agg (tyC T),nC l,xPa z A B q] v∧zP t14 [.agg (tyC T),nC l,xPa z A B q] v:=by
 have hnn:qN T≠[]:=fun h=>hne (List.map_eq_nil_iff.1 h)
 have ok:=xYd T z I.w2 I.u2 (e:=2) (by decide) (K:=rK) (σ:=xP3 l) (zG9 _) (M:=mk (qN T) vE) (φ:=xXv (qN T) A B) (zZp _ _ _)
 obtain ⟨a,ha,ha1,ha2⟩:=xVf ok A 0 (xVg ok).1
 obtain ⟨b,hb,hb1,hb2⟩:=xVf ok B 1 (xVg ok).2
 have hq:q∈[false,true]:=by cases q<;>decide
 obtain ⟨i,hi⟩:=List.mem_iff_getElem?.1 ha
 obtain ⟨jj,cnt,row,hj1,hj2⟩:=row i (by
  have:=(List.getElem?_eq_some_iff.1 hi).1
  simp only [List.length_append,List.length_map,List.length_cons,List.length_nil] at this
  have e1:(qN T).length=T.pads.l.length:=List.length_map _
  omega)
 unfold xIe at row
 rw [dC,Bool.and_eq_true,xEg,zFq hnn,zC2] at row
 obtain ⟨hz,row⟩:=row
 obtain ⟨X,row,hgl,xoX⟩:=zTs row
 have ha':a∈(((qN T).map AV.str++[AV.sym (xBm (mk (qN T) vE) 0)]).drop jj).take cnt:=by
  refine List.mem_iff_getElem?.2 ⟨i - jj,?_⟩
  rw [List.getElem?_take,if_pos (by omega),List.getElem?_drop,show jj+(i - jj)=i by omega]
  exact hi
 have h1:=List.all_eq_true.1 (List.all_eq_true.1 (List.all_eq_true.1 row a ha') b hb) q hq
 rw [dC,dC] at h1
 obtain ⟨v1,g1,v2,g2,c1,c2,e,hp⟩:=zHe h1
 have hs:=xJd ok I
 have hn:=xNc ok (Nat.le_refl _) hl hm rfl
 have h901:(xH _ ok).val 901=.str z:=by
  rw [show (xH _ ok).val 901=gX (tdT T z w u 2 rK (xP3 l) (mk (qN T) vE) (xXv (qN T) A B)) 901 from rfl,kK (by decide)]; rfl
 have hsw:(AV.agg [.sym 901,a,b,.bool q]).subst (xH _ ok)=xPa z A B q:=by
  simp only [AV.subst,xK,h901,ha1,hb1,xPa]
 have xo:=xoX (xH _ ok) (yD9 hz (by rw [hs]; exact hc) (by rw [hs]; exact hr))
 have hfa:frzs [tyN (qN T) gg,xP2 rK m,AV.agg [.sym 901,a,b,.bool q]]=true:=by
  simp only [frzs,xP2,frz,hz,xMq,ha2,hb2,Bool.and_self]
 have fin:∀ d,frz d=true→d.subst (xH _ ok)=d.subst (xH _ ok)→deep 8 g1 v1=d→zP t13 [.agg (tyC T),nC l,xPa z A B q] (d.subst (xH _ ok))∧zP t14 [.agg (tyC T),nC l,xPa z A B q] (d.subst (xH _ ok)):=by
  intro d hd _ hd1
  have hF1:=hY (xH _ ok) xo hgl c1 hfa (d:=8) (by rw [hd1]; exact hd)
  have hF2:=hY (xH _ ok) xo hgl c2 hfa (d:=8) (by rw [e,hd1]; exact hd)
  rw [hd1] at hF1
  rw [e,hd1] at hF2
  simp only [xK,hs,hsw] at hF1 hF2
  rw [show (xP2 rK m).subst (xH _ ok)=nC l from hn] at hF1 hF2
  exact ⟨hF1,hF2⟩
 generalize hd:deep 8 g1 v1=d at hp
 unfold yNs at hp
 split at hp
 ·rename_i n cs k ei
  simp only [Bool.and_eq_true] at hp
  obtain ⟨q0,⟨q1,q2⟩,q3⟩:=hp
  have e0:=wP.1 q0
  have e1:=Nat.eq_of_beq_eq_true q1
  have e2:=Nat.eq_of_beq_eq_true q2
  subst e0
  obtain ⟨l',k1,k2,k3⟩:=xQx ok (Nat.le_refl _) cs q3
  have hfr:frz (AV.tup [.rslc n cs,.int .i64 ei])=true:=by simp only [frz,frzs,k3,Bool.and_self]
  have hv:(AV.tup [.rslc n cs,.int .i64 ei]).subst (xH _ ok)=.tup [nC l',.int .i64 ei]:=by
   simp only [AV.subst,xK,k2,nC,k1,e1,e2]
  have:=fin _ hfr rfl hd
  rw [hv] at this
  exact ⟨_,⟨ei,.inr ⟨l',by omega,rfl⟩⟩,this⟩
 ·rename_i k ei
  have e0:=wP.1 hp
  subst e0
  exact ⟨_,⟨ei,.inl rfl⟩,fin _ rfl rfl hd⟩
 ·cases hp
end
end Go.Abs.Sym
end
section
namespace Go.Abs.Sym
open Go.Abs.T
open Go.Proofs
def xYj (ty:AV) (m n:Nat):Prop:=∀ i,i<n→∃ j c,xCv ty m j c=true∧j≤i∧i<j+c
def zU0 (ty:AV) (m n:Nat):Prop:=∀ i,i<n→∃ j c,xIe ty m j c=true∧j≤i∧i<j+c
theorem zY {ty:AV} {m:Nat}:xYj ty m 0:=fun _ h=>absurd h (Nat.not_lt_zero _)
theorem sw0 {ty:AV} {m:Nat}:zU0 ty m 0:=fun _ h=>absurd h (Nat.not_lt_zero _)
theorem xW {ty:AV} {m n c:Nat} (h:xYj ty m n) (r:xCv ty m n c=true):xYj ty m (n+c):=fun i hi=>by
 rcases Nat.lt_or_ge i n with h' | h'
 ·exact h i h'
 ·exact ⟨n,c,r,h',hi⟩
theorem swS {ty:AV} {m n c:Nat} (h:zU0 ty m n) (r:xIe ty m n c=true):zU0 ty m (n+c):=fun i hi=>by
 rcases Nat.lt_or_ge i n with h' | h'
 ·exact h i h'
 ·exact ⟨n,c,r,h',hi⟩
theorem zZ {ty:AV} {m n:Nat} (h:xYj ty m n) (hl:Nat.ble (gD [] (xFu ty)).length n=true):xTb ty m:=fun i k hi=>h i (by
 have h1:=Nat.le_of_ble_eq_true hl
 have h2:i<(gD [] (xFu ty)).length:=by
  rcases Nat.lt_or_ge i (gD [] (xFu ty)).length with h' | h'
  ·exact h'
  ·rw [List.getElem?_eq_none h'] at hi
   cases hi
 omega)
theorem swE {ty:AV} {m n:Nat} (h:zU0 ty m n) (hn:m+1≤n):zGt ty m:=fun i hi=>h i (by omega)
abbrev tyE (m:Nat) (e:DbE):AV:=tyN (dbN m e) (dbG e)
def Rd (m:Nat) (e:DbE):Prop:=xR m e=true∧xTb (tyE m e) m∧zGt (tyE m e) m
theorem fa {α:Type} {P:α→Prop} {x:α} {l:List α} (h:P x) (t:∀ e∈l,P e):∀ e∈x::l,P e:=List.forall_mem_cons.2 ⟨h,t⟩
theorem fz {α:Type} {P:α→Prop}:∀ e∈([]:List α),P e:=fun _ h=>absurd h List.not_mem_nil
noncomputable def oP (m g a i c:Nat):Bool:=(((zC7 a).drop i).take c).all fun n=>(zZr m a).all fun p=>xNh m g a n p
def xYl (m g a n:Nat):Prop:=∀ i,i<n→∀ x,(zC7 a)[i]?=some x→((zZr m a).all fun p=>xNh m g a x p)=true
theorem o0 {m g a:Nat}:xYl m g a 0:=fun _ h=>absurd h (Nat.not_lt_zero _)
theorem oS {m g a n c:Nat} (h:xYl m g a n) (r:oP m g a n c=true):xYl m g a (n+c):=fun i hi x hx=>by
 rcases Nat.lt_or_ge i n with h' | h'
 ·exact h i h' x hx
 ·refine List.all_eq_true.1 r x (List.mem_iff_getElem?.2 ⟨i - n,?_⟩)
  rw [List.getElem?_take,if_pos (by omega),List.getElem?_drop,show n+(i - n)=i by omega]
  exact hx
theorem oE {m g a:Nat} (h:xYl m g a 8):jV m g a=true:=by
 refine List.all_eq_true.2 (fun x hx => ?_)
 obtain ⟨i,hi⟩:=List.mem_iff_getElem?.1 hx
 have hl:(zC7 a).length≤8:=by
  unfold zC7
  cases noN a<;>decide
 refine h i ?_ x hi
 rcases Nat.lt_or_ge i 8 with h' | h'
 ·exact h'
 ·rw [List.getElem?_eq_none (by omega)] at hi
  cases hi
noncomputable def rA (m:Nat) (e:DbE):Bool:=Nat.ble (gD [] (xFu (tyE m e))).length 8&&(xR m e&&(xCv (tyE m e) m 0 8&&xIe (tyE m e) m 0 (m+1)))
noncomputable def cP (m:Nat) (e:DbE) (i c:Nat):Bool:=xCv (tyE m e) m i c
noncomputable def sP (m:Nat) (e:DbE) (i c:Nat):Bool:=xIe (tyE m e) m i c
theorem rd1 {m:Nat} {e:DbE} (h:rA m e=true):Rd m e:=by
 unfold rA at h
 simp only [Bool.and_eq_true] at h
 obtain ⟨h1,h2,h3,h4⟩:=h
 refine ⟨h2,zZ (n:=8) (by have:=xW zY h3; rwa [Nat.zero_add] at this) h1,swE (n:=m+1) (by have:=swS sw0 h4; rwa [Nat.zero_add] at this) (Nat.le_refl _)⟩
theorem nL {m g:Nat} (r0:jV m g 0=true) (r1:jV m g 1=true) (r2:jV m g 2=true) (r3:jV m g 3=true) (r4:jV m g 4=true) (r5:jV m g 5=true) (r6:jV m g 6=true) (r7:jV m g 7=true) (r8:jV m g 8=true) (r9:jV m g 9=true) (r10:jV m g 10=true) (r11:jV m g 11=true) (r12:jV m g 12=true) (r13:jV m g 13=true) :
  ∀ a,a<14→jV m g a=true
 | 0,_=>r0
 | 1,_=>r1
 | 2,_=>r2
 | 3,_=>r3
 | 4,_=>r4
 | 5,_=>r5
 | 6,_=>r6
 | 7,_=>r7
 | 8,_=>r8
 | 9,_=>r9
 | 10,_=>r10
 | 11,_=>r11
 | 12,_=>r12
 | 13,_=>r13
 | a+14,h=>absurd h (by omega)
end Go.Abs.Sym
end
end
