/- A part of the proof that LibSwaps answers true at every input: AbsCtl, AbsCtl2, AbsCtl3, AbsCtl4, AbsHeap2. -/
import Derived.Calls
import Derived.Test.YtaendaokfclnoaaGreatDoorC09
import Derived.Test.YtaendaokfclnoaaGreatDoorC05
noncomputable section
section
namespace Go.Abs
variable [envI:Env]
def at' (b:Frame) (a:Act) (todo:List Item):Frame:={ b with tmps:=a.tmps,defers:=a.defers,todo,mode:=.run }
omit envI in
theorem eval_at' (b:Frame) (a:Act) (todo:List Item):(at' b a todo).eval=a.eval:=by
  funext x; cases x<;>rfl
section moves
variable {P:Program} {b:Frame} {a:Act} {k:List Item} {cs:List Frame} {w:World} {ops:Array Oper}
omit envI in
theorem zXz:step P (lone (at' b a (.code .skip::k)) cs w)=.next (lone (at' b a k) cs w) :=
  step_lone_go (by simp [stepG,stepG.exec,at'])
omit envI in
theorem zId {l:Nat}:step P (lone (at' b a (.code (.label l)::k)) cs w)=.next (lone (at' b a k) cs w) :=
  step_lone_go (by simp [stepG,stepG.exec,at'])
omit envI in
theorem xX5 {id:Nat}:step P (lone (at' b a (.inBlock id::k)) cs w)=.next (lone (at' b a k) cs w) :=
  step_lone_go (by simp [stepG,stepG.exec,at'])
omit envI in
theorem xX6 {c:Code}:step P (lone (at' b a (.inScope c::k)) cs w)=.next (lone (at' b a k) cs w) :=
  step_lone_go (by simp [stepG,stepG.exec,at'])
omit envI in
theorem yEb {x y:Code}:step P (lone (at' b a (.code (.seq x y)::k)) cs w)=.next (lone (at' b a (.code x::.code y::k)) cs w) :=
  step_lone_go (by simp [stepG,stepG.exec,at'])
omit envI in
theorem zA2 {c:Operand} {x y:Code} {t:Bool} (h:a.eval c=.bool t) :
    step P (lone (at' b a (.code (.cond c x y)::k)) cs w)=.next (lone (at' b a (.code (if t then x else y)::k)) cs w) :=
  step_lone_go (by
    have:=congrFun (eval_at' b a (.code (.cond c x y)::k)) c
    simp only [at'] at this
    simp [stepG,stepG.exec,at',this,h])
omit envI in
theorem xBx {id:Nat} {c:Code}:step P (lone (at' b a (.code (.block id c)::k)) cs w)=.next (lone (at' b a (.code c::.inBlock id::k)) cs w) :=
  step_lone_go (by simp [stepG,stepG.exec,at'])
omit envI in
theorem zIg {c:Code}:step P (lone (at' b a (.code (.scope c)::k)) cs w)=.next (lone (at' b a (.code c::.inScope c::k)) cs w) :=
  step_lone_go (by simp [stepG,stepG.exec,at'])
omit envI in
theorem zXy {c:Code}:step P (lone (at' b a (.code (.loop c)::k)) cs w)=.next (lone (at' b a (.code c::.inLoop c::k)) cs w) :=
  step_lone_go (by simp [stepG,stepG.exec,at'])
omit envI in
theorem zBs {c:Code}:step P (lone (at' b a (.inLoop c::k)) cs w)=.next (lone (at' b a (.code c::.inLoop c::k)) cs w) :=
  step_lone_go (by simp [stepG,stepG.exec,at'])
omit envI in
theorem zXx {id:Nat} {k':List Item} (h:exitTo id k=some k'):step P (lone (at' b a (.code (.exit id)::k)) cs w)=.next (lone (at' b a k') cs w) :=
  step_lone_go (by simp [stepG,stepG.exec,at',h])
omit envI in
theorem zBt {id:Nat}:step P (lone (at' b a (.code (.region id ops false)::k)) cs w)=.next (lone (at' b a (.inRegion ops (List.range ops.size)::k)) cs w) :=
  step_lone_go (by simp [stepG,stepG.exec,at'])
omit envI in
theorem xMw {id:Nat} :
    step P (lone (at' b a (.code (.region id ops true)::k)) cs w) =
      .next (lone (at' b a (.inRegion ops (Region.schedule (P.follows .mixedOrders) ops (w.tape w.drawn (.order b.fn id)))::k)) cs { w with drawn:=w.drawn+1 }) :=
  step_lone_go (by simp [stepG,stepG.exec,at',choose,Sem.run,Question.forced,Question.cut])
omit envI in
theorem xE2:step P (lone (at' b a (.inRegion ops []::k)) cs w)=.next (lone (at' b a k) cs w) :=
  step_lone_go (by simp [stepG,stepG.exec,at'])
omit envI in
theorem hZ (i:Nat) (rest:List Nat) (v:Value) :
    (at' b a (.inRegion ops (i::rest)::k)).finish v=at' b (a.put ((ops[i]?).bind (·.dst)) v) (.inRegion ops rest::k):=by
  cases h:(ops[i]?).bind (·.dst)<;>simp [Frame.finish,at',Act.put,h]
omit envI in
theorem xMu {i:Nat} {rest:List Nat} (h:((ops[i]?).map (Region.wanted · (yielded ops a.tmps))).getD false=false) :
    step P (lone (at' b a (.inRegion ops (i::rest)::k)) cs w)=.next (lone (at' b (a.put ((ops[i]?).bind (·.dst)) undef) (.inRegion ops rest::k)) cs w):=by
  rw [← hZ]
  exact step_lone_go (by
    have h':=h
    simp only [at'] at *
    simp [stepG,stepG.exec,h'])
omit envI in
theorem xHz {i:Nat} {rest:List Nat} {o:Oper} (ho:ops[i]?=some o) (hw:Region.wanted o (yielded ops a.tmps)=true) (hd:(∀ c,o.op≠.defer c)∨b.roundOf=none) :
    stepG P true { frame:=at' b a (.inRegion ops (i::rest)::k),callers:=cs,status:=.running,dying:=none } w =
      stepG.apply P true (at' b a (.inRegion ops (i::rest)::k)) cs none (execOp a.eval o) w:=by
  have he:=eval_at' b a (.inRegion ops (i::rest)::k)
  simp only [at'] at he
  simp only [stepG,stepG.exec,stepG.oper,Frame.oper?,at',ho,hw,he,Option.map_some,Option.getD_some,if_true]
  rcases hd with hd | hd
  · cases hb:b.roundOf with
    | none=>simp
    | some l =>
      cases hop:o.op<;>simp
      exact absurd hop (hd _)
  · simp [hd]
omit envI in
theorem xG4 {i:Nat} {rest:List Nat} {o:Oper} {n:Next} {v:Value} {w':World} (ho:ops[i]?=some o) (hw:Region.wanted o (yielded ops a.tmps)=true) (hd:(∀ c,o.op≠.defer c)∨b.roundOf=none)
    (hr:(execOp a.eval o).run P w=.ok n w') (hn:n=.value v∨n=.skip∧v=undef) :
    step P (lone (at' b a (.inRegion ops (i::rest)::k)) cs w)=.next (lone (at' b (a.put o.dst v) (.inRegion ops rest::k)) cs w'):=by
  have hg:=xHz (P:=P) (b:=b) (k:=k) (cs:=cs) (w:=w) (rest:=rest) ho hw hd
  have hfin:(at' b a (.inRegion ops (i::rest)::k)).finish v=at' b (a.put o.dst v) (.inRegion ops rest::k):=by
    rw [hZ,ho]; rfl
  refine step_lone_go ?_
  rw [hg,← hfin]
  rcases hn with rfl | ⟨rfl,rfl⟩<;>simp [stepG.apply,hr]
omit envI in
theorem zIe {i:Nat} {rest:List Nat} {o:Oper} {v:Value} {w':World} (ho:ops[i]?=some o) (hw:Region.wanted o (yielded ops a.tmps)=true) (hd:(∀ c,o.op≠.defer c)∨b.roundOf=none)
    (hr:(execOp a.eval o).run P w=.halt (.panic v) w') :
    step P (lone (at' b a (.inRegion ops (i::rest)::k)) cs w)=.next (lone ((at' b a (.inRegion ops (i::rest)::k)).raise [{ v,recovered:=false }]) cs w'):=by
  refine step_lone_go ?_
  rw [xHz ho hw hd]
  simp [stepG.apply,hr]
omit envI in
theorem zIc {i:Nat} {rest:List Nat} {o:Oper} {f:FuncId} {args:Array Value} {w':World} (ho:ops[i]?=some o) (hw:Region.wanted o (yielded ops a.tmps)=true) (hd:(∀ c,o.op≠.defer c)∨b.roundOf=none)
    (hr:(execOp a.eval o).run P w=.ok (.enter f args) w') :
    step P (lone (at' b a (.inRegion ops (i::rest)::k)) cs w)=.next (lone (Frame.enter P f args .normal) (at' b a (.inRegion ops (i::rest)::k)::cs) w'):=by
  refine step_lone_go ?_
  rw [xHz ho hw hd]
  simp [stepG.apply,hr,at']
omit envI in
theorem zIf {i:Nat} {rest:List Nat} {o:Oper} {l:Nat} {f:FuncId} {tmps:Array Value} {as1 bd:Code} {w':World} (ho:ops[i]?=some o) (hw:Region.wanted o (yielded ops a.tmps)=true) (hd:(∀ c,o.op≠.defer c)∨b.roundOf=none)
    (hr:(execOp a.eval o).run P w=.ok (.round l f tmps as1 bd) w') :
    step P (lone (at' b a (.inRegion ops (i::rest)::k)) cs w)=.next (lone (Frame.round l f tmps as1 bd .normal) (at' b a (.inRegion ops (i::rest)::k)::cs) w'):=by
  refine step_lone_go ?_
  rw [xHz ho hw hd]
  simp [stepG.apply,hr,at']
omit envI in
theorem zIb {i:Nat} {rest:List Nat} {o:Oper} {d:Deferred} {w':World} (ho:ops[i]?=some o) (hw:Region.wanted o (yielded ops a.tmps)=true) (hd:b.roundOf=none)
    (hr:(execOp a.eval o).run P w=.ok (.defer d) w') :
    step P (lone (at' b a (.inRegion ops (i::rest)::k)) cs w)=.next (lone (at' b ({ a with defers:=d::a.defers }.put o.dst undef) (.inRegion ops rest::k)) cs w'):=by
  have hfin:({ at' b a (.inRegion ops (i::rest)::k) with defers:=d::a.defers }:Frame).finish undef=at' b ({ a with defers:=d::a.defers }.put o.dst undef) (.inRegion ops rest::k):=by
    have:=hZ (b:=b) (a:={ a with defers:=d::a.defers }) (ops:=ops) (k:=k) i rest undef
    rw [ho] at this; exact this
  refine step_lone_go ?_
  rw [xHz ho hw (.inr hd),← hfin]
  simp [stepG.apply,hr,at']
omit envI in
theorem xX7 {i:Nat} {rest:List Nat} {o:Oper} {w':World} (ho:ops[i]?=some o) (hw:Region.wanted o (yielded ops a.tmps)=true) (hd:b.roundOf=none)
    (hr:(execOp a.eval o).run P w=.ok .recover w') :
    step P (lone (at' b a (.inRegion ops (i::rest)::k)) cs w)=.next (match tryRecover b cs with
      | some (v,cs')=>lone (at' b (a.put o.dst v) (.inRegion ops rest::k)) cs' w'
      | none=>lone (at' b (a.put o.dst .nilIface) (.inRegion ops rest::k)) cs w'):=by
  have hfin:∀ v,(at' b a (.inRegion ops (i::rest)::k)).finish v=at' b (a.put o.dst v) (.inRegion ops rest::k):=by
    intro v; rw [hZ,ho]; rfl
  have ht:tryRecover (at' b a (.inRegion ops (i::rest)::k)) cs=tryRecover b cs:=by
    unfold tryRecover; rfl
  have hrd:(at' b a (.inRegion ops (i::rest)::k)).roundOf=none:=hd
  have hg:=xHz (P:=P) (b:=b) (k:=k) (cs:=cs) (w:=w) (rest:=rest) ho hw (.inr hd)
  cases hc:tryRecover b cs with
  | none =>
    refine step_lone_go ?_
    rw [hg]
    simp [stepG.apply,hr,hrd,ht,hc,hfin]
  | some p =>
    obtain ⟨v,cs'⟩:=p
    refine step_lone_go ?_
    rw [hg]
    simp [stepG.apply,hr,hrd,ht,hc,hfin]
end moves
end Go.Abs
end
section
namespace Go.Abs
variable [envI:Env]
def wN (rc:Rc) (cs:List Frame):List Frame :=
  match rc,cs with
  | .recovered,c::rest=>match c.mode with
    | .panicking (e::older)=>{ c with mode:=.panicking ({ v:=e.v,recovered:=true }::older) }::rest
    | _=>cs
  | _,_=>cs
def RcR (w:World) (ρ:Nm) (L:Nat→Prop) (b:Frame) (cs:List Frame):Rc→Prop
  | .no=>tryRecover b cs=none
  | .pan v=>b.kind=.deferred∧∃ c rest vv older,cs=c::rest∧c.mode=.panicking ({ v:=vv,recovered:=false }::older)∧VR w ρ L v vv
  | .recovered=>b.kind=.deferred∧∃ c rest vv older,cs=c::rest∧c.mode=.panicking ({ v:=vv,recovered:=false }::older)
def DfR (w:World) (ρ:Nm) (L:Nat→Prop):List ADef→List Deferred→Prop
  | [],ds=>ds=[]
  | .coll id::l,ds=>∃ b ds',ds={ target:=.collected b,args := #[] }::ds'∧ρ id=some b∧DfR w ρ L l ds'
  | .call f as1::l,ds=>∃ fn x y avs ds',ds={ target:=.fn (.func fn) y,args:=x++avs }::ds'∧VR w ρ L f (.func (.func fn) x y)∧VRs w ρ L as1 avs.toList∧DfR w ρ L l ds'
structure SR (P:Program) (X:Ctx) (N:Nat) (b:Frame) (cs:List Frame) (s:St) (ρ:Nm) (a:Act) (w:World):Prop where
  hr:HR P X ρ s.h w
  fr:FR w ρ (Lv ρ s.h) s.fr a.tmps
  size:N≤a.tmps.size
  df:DfR w ρ (Lv ρ s.h) s.df a.defers
  rc:RcR w ρ (Lv ρ s.h) b cs s.rc
  rd:match s.rd with | none=>b.roundOf=none | some id=>∃ l,b.roundOf=some l∧ρ id=some l
  fn:b.fn=s.fnid.num
section
variable {P:Program} {X:Ctx} {N:Nat} {b:Frame} {cs:List Frame} {s:St} {ρ ρ':Nm} {a:Act} {w w':World} {L L':Nat→Prop}
theorem DfR.mono (hs:Sim ρ L w ρ' L' w') (hb:∀ id b,ρ id=some b→b<w.heap.size):∀ {l:List ADef} {ds:List Deferred},DfR w ρ L l ds→DfR w' ρ' L' l ds
  | [],ds,h=>h
  | .coll id::l,ds,h=>by
    obtain ⟨b,ds',h1,h2,h3⟩:=h
    exact ⟨b,ds',h1,hs.names _ _ h2,h3.mono hs hb⟩
  | .call f as1::l,ds,h=>by
    obtain ⟨fn,x,y,avs,ds',h1,h2,h3,h4⟩:=h
    exact ⟨fn,x,y,avs,ds',h1,h2.mono hs hb,h3.mono hs hb,h4.mono hs hb⟩
theorem RcR.mono (hs:Sim ρ L w ρ' L' w') (hb:∀ id b,ρ id=some b→b<w.heap.size) {rc:Rc} (h:RcR w ρ L b cs rc):RcR w' ρ' L' b cs rc:=by
  cases rc with
  | no=>exact h
  | pan v =>
    obtain ⟨h1,c,rest,vv,older,h2,h3,h4⟩:=h
    exact ⟨h1,c,rest,vv,older,h2,h3,h4.mono hs hb⟩
  | recovered=>exact h
theorem SR.step (h:SR P X N b cs s ρ a w) {h':H} (hr:HR P X ρ' h' w') (hs:Sim ρ (Lv ρ s.h) w ρ' (Lv ρ' h') w'):SR P X N b cs { s with h:=h' } ρ' a w' where
  hr:=hr
  fr:=h.fr.mono hs h.hr.bound
  size:=h.size
  df:=h.df.mono hs h.hr.bound
  rc:=h.rc.mono hs h.hr.bound
  rd := by
    have:=h.rd
    cases hd:s.rd with
    | none=>rw [hd] at this; exact this
    | some id =>
      rw [hd] at this
      obtain ⟨l,h1,h2⟩:=this
      exact ⟨l,h1,hs.names _ _ h2⟩
  fn:=h.fn
def zTy (N:Nat) (d:Option Tmp) (d':Option Pth):Prop:=d'=d.map pth∧∀ x,d=some x→x<N
theorem SR.put (h:SR P X N b cs s ρ a w) {d:Option Tmp} {d':Option Pth} (hd:zTy N d d') {v:AV} {vv:Value} (hv:VR w ρ (Lv ρ s.h) v vv):SR P X N b cs (s.put d' v) ρ (a.put d vv) w:=by
  obtain ⟨rfl,hlt⟩:=hd
  cases d with
  | none=>exact h
  | some x =>
    refine ⟨h.hr,?_,?_,h.df,h.rc,h.rd,h.fn⟩
    · have:=h.fr.put (d:=pth x) (by rw [mW]; exact Nat.lt_of_lt_of_le (hlt x rfl) h.size) hv
      rw [mW] at this
      exact this
    · simpa [Act.put] using h.size
end
def xB3 (fv:Value) (avs:Array Value):Sem Next:=do let d ← Deferred.ofValue fv avs; invoke d.target d.args
def hQ (P:Program) (kind:CallKind):Next→Option Frame
  | .enter g args=>some (Frame.enter P g args kind)
  | .round l g t as1 bd=>some (Frame.round l g t as1 bd kind)
  | _=>none
def vC (P:Program) (X:Ctx) (ρ:Nm) (h:H) (w:World) (v:AV) (h':H) (vv:Value) (w':World):Prop :=
  ∃ ρ',HR P X ρ' h' w'∧Sim ρ (Lv ρ h) w ρ' (Lv ρ' h') w'∧VR w' ρ' (Lv ρ' h') v vv
def mS (P:Program) (X:Ctx) (ρ:Nm) (h:H) (w:World) (s:Sem Next):CRes→Prop
  | .ret v h'=>∃ n w1,s.run P w=.ok n w1 ∧
      ((∃ vv,n=.value vv∧vC P X ρ h w v h' vv w1) ∨
       (∃ F,hQ P .normal n=some F∧∀ c cs,∃ vv w',vC P X ρ h w v h' vv w'∧Steps P (lone F (c::cs) w1) (lone (c.finish vv) cs w')))
  | .panic v h'=>∃ n w1 F,s.run P w=.ok n w1∧hQ P .normal n=some F∧∀ c cs,∃ vv w' older,vC P X ρ h w v h' vv w'∧(∀ e∈older,e.goexit=false) ∧
      Steps P (lone F (c::cs) w1) (lone (c.raise ({ v:=vv,recovered:=false }::older)) cs w')
  | .bad _=>True
def bD (P:Program) (X:Ctx) (call:jA):Prop :=
  ∀ f as1 h ρ w fv (avs:Array Value),HR P X ρ h w→VR w ρ (Lv ρ h) f fv→VRs w ρ (Lv ρ h) as1 avs.toList→mS P X ρ h w (xB3 fv avs) (call f as1 h)
def xWf (t:List Item):Prop:=∀ d wr r sv rest,t≠.call d wr r sv::rest
def Ends (P:Program) (X:Ctx) (N:Nat) (b:Frame) (cs:List Frame) (k:List Item) (ρ0:Nm) (h0:H) (w0:World) (m:Machine):Out→Prop
  | .nrm s=>∃ ρ a w,SR P X N b cs s ρ a w∧Sim ρ0 (Lv ρ0 h0) w0 ρ (Lv ρ s.h) w∧Steps P m (lone (at' b a k) (wN s.rc cs) w)
  | .exit id s=>∃ ρ a w k2,SR P X N b cs s ρ a w∧Sim ρ0 (Lv ρ0 h0) w0 ρ (Lv ρ s.h) w∧exitTo id k2=exitTo id k∧Steps P m (lone (at' b a (.code (.exit id)::k2)) (wN s.rc cs) w)
  | .ret s=>∃ ρ a w k2,SR P X N b cs s ρ a w∧Sim ρ0 (Lv ρ0 h0) w0 ρ (Lv ρ s.h) w∧Steps P m (lone (at' b a (.code .ret::k2)) (wN s.rc cs) w)
  | .panic v s=>∃ ρ a w,∃ todo:{ t:List Item // xWf t },∃ vv older,SR P X N b cs s ρ a w∧Sim ρ0 (Lv ρ0 h0) w0 ρ (Lv ρ s.h) w∧VR w ρ (Lv ρ s.h) v vv∧(∀ e∈older,e.goexit=false) ∧
      Steps P m (lone { at' b a todo.1 with mode:=.panicking ({ v:=vv,recovered:=false }::older) } (wN s.rc cs) w)
  | .bad _=>True
section
variable {P:Program} {X:Ctx} {N:Nat} {b:Frame} {cs:List Frame} {k:List Item}
theorem Ends.of_steps {ρ0 ρ:Nm} {h0 h:H} {w0 w:World} {m m':Machine} {o:Out} (hs:Steps P m m') (hsim:Sim ρ0 (Lv ρ0 h0) w0 ρ (Lv ρ h) w) (he:Ends P X N b cs k ρ h w m' o):Ends P X N b cs k ρ0 h0 w0 m o:=by
  cases o with
  | nrm s =>
    obtain ⟨ρ1,a,w1,h1,h2,h3⟩:=he
    exact ⟨ρ1,a,w1,h1,hsim.trans h2,hs.trans h3⟩
  | exit id s =>
    obtain ⟨ρ1,a,w1,k2,h1,h2,h3,h4⟩:=he
    exact ⟨ρ1,a,w1,k2,h1,hsim.trans h2,h3,hs.trans h4⟩
  | ret s =>
    obtain ⟨ρ1,a,w1,k2,h1,h2,h4⟩:=he
    exact ⟨ρ1,a,w1,k2,h1,hsim.trans h2,hs.trans h4⟩
  | panic v s =>
    obtain ⟨ρ1,a,w1,todo,vv,older,h1,h2,h3,h4,h5⟩:=he
    exact ⟨ρ1,a,w1,todo,vv,older,h1,hsim.trans h2,h3,h4,hs.trans h5⟩
  | bad n=>trivial
end
end Go.Abs
end
section
namespace Go.Abs
variable [envI:Env]
def xUw:AOp→Bool
  | .call | .invoke _ | .defer | .recover | .panic=>true
  | _=>false
section
variable {P:Program} {X:Ctx}
omit envI in
set_option maxHeartbeats 1000000 in
theorem xEe {t:TypeId} {op:Op} {aop:AOp} {os:List Opd} (hc:qO P t op=some (aop,os)):xUw aop=false∧(∀ c,op≠.defer c) ∨
    (∃ f args ts o as1,op=.call ⟨.value f,args,ts⟩∧aop=.call∧os=o::as1∧opd f=some o∧args.toList.mapM opd=some as1) ∨
    (∃ r nm args ts o as1,op=.call ⟨.invoke r nm,args,ts⟩∧aop=.invoke (gS P nm)∧os=o::as1∧opd r=some o∧args.toList.mapM opd=some as1) ∨
    (∃ f args ts o as1,op=.defer ⟨.value f,args,ts⟩∧aop=.defer∧os=o::as1∧opd f=some o∧args.toList.mapM opd=some as1) ∨
    (∃ args ts,op=.call ⟨.builtin .recover,args,ts⟩∧aop=.recover∧os=[]) ∨
    (∃ x o,op=.panic x∧aop=.panic∧os=[o]∧opd x=some o):=by
  cases op
  case makeFunc fn first caught =>
    cases fn<;>simp only [qO,Option.bind_eq_bind,Option.bind_eq_some_iff,Option.pure_def,Option.some.injEq,Prod.mk.injEq,reduceCtorEq] at hc
    obtain ⟨l1,h1,l2,h2,rfl,rfl⟩:=hc
    exact .inl ⟨rfl,by simp⟩
  case panic x =>
    simp only [qO,Option.bind_eq_bind,Option.bind_eq_some_iff,Option.pure_def,Option.some.injEq,Prod.mk.injEq] at hc
    obtain ⟨o,h1,rfl,rfl⟩:=hc
    exact .inr (.inr (.inr (.inr (.inr ⟨_,_,rfl,rfl,rfl,h1⟩))))
  case defer c =>
    obtain ⟨callee,args,argTypes⟩:=c
    cases callee<;>simp only [qO,Option.bind_eq_bind,Option.bind_eq_some_iff,Option.pure_def,Option.some.injEq,Prod.mk.injEq,reduceCtorEq] at hc
    obtain ⟨as1,h1,o,h2,rfl,rfl⟩:=hc
    exact .inr (.inr (.inr (.inl ⟨_,_,_,_,_,rfl,rfl,rfl,h2,h1⟩)))
  case call c =>
    obtain ⟨callee,args,argTypes⟩:=c
    cases callee with
    | value f =>
      simp only [qO,Option.bind_eq_bind,Option.bind_eq_some_iff,Option.pure_def,Option.some.injEq,Prod.mk.injEq] at hc
      obtain ⟨as1,h1,o,h2,rfl,rfl⟩:=hc
      exact .inr (.inl ⟨_,_,_,_,_,rfl,rfl,rfl,h2,h1⟩)
    | invoke rc nm =>
      simp only [qO,Option.bind_eq_bind,Option.bind_eq_some_iff,Option.pure_def,Option.some.injEq,Prod.mk.injEq] at hc
      obtain ⟨as1,h1,o,h2,rfl,rfl⟩:=hc
      exact .inr (.inr (.inl ⟨_,_,_,_,_,_,rfl,rfl,rfl,h2,h1⟩))
    | builtin b =>
      simp only [qO,Option.bind_eq_bind,Option.bind_eq_some_iff,Option.pure_def] at hc
      obtain ⟨as1,has,hc⟩:=hc
      cases b
      case recover =>
        simp only [Option.some.injEq,Prod.mk.injEq] at hc
        obtain ⟨rfl,rfl⟩:=hc
        exact .inr (.inr (.inr (.inr (.inl ⟨_,_,rfl,rfl,rfl⟩))))
      all_goals
        refine .inl ⟨?_,by simp⟩
        repeat' first
          | contradiction
          | (cases hc; done)
          | (obtain ⟨h1,hc⟩:=hc; try subst h1)
          | (split at hc)
          | (simp only [Option.bind_eq_some_iff,Option.some.injEq,Prod.mk.injEq] at hc)
          | rfl
  all_goals
    refine .inl ⟨?_,by simp⟩
    simp only [qO,Option.bind_eq_bind,Option.bind_eq_some_iff,Option.pure_def,Option.some.injEq,Prod.mk.injEq,reduceCtorEq] at hc
  all_goals
    repeat' first
      | contradiction
      | (cases hc; done)
      | (obtain ⟨h1,hc⟩:=hc; try subst h1)
      | (split at hc)
      | (simp only [Option.bind_eq_some_iff,Option.some.injEq,Prod.mk.injEq] at hc)
      | rfl
omit envI in
theorem xVh (h:H) (id:Pth) (m:Option Pth) (n k:Nat):xNf h id m n k=.bad∨∃ r h',xNf h id m n k=.val r h':=by
  unfold xNf
  split
  · exact .inr ⟨_,_,rfl⟩
  · split
    · rename_i es _
      cases Nat.beq es.length n
      · exact .inl rfl
      · cases Nat.blt k n
        · exact .inr ⟨_,_,rfl⟩
        · simp only [cond_true]
          split
          · exact .inr ⟨_,_,rfl⟩
          · exact .inl rfl
    · exact .inl rfl
omit envI in
theorem xRm (h:H) (m:Option Pth) (n k:Nat):xHp h m n k=.bad∨∃ r h',xHp h m n k=.val r h':=by
  unfold xHp
  split
  · exact .inl rfl
  · split
    · rename_i es _
      cases Nat.beq es.length n&&Nat.blt 0 k
      · exact .inl rfl
      · simp only [cond_true]
        split
        · exact .inr ⟨_,_,rfl⟩
        · exact .inl rfl
    · exact .inl rfl
omit envI in
theorem xSk (h:H) (m:AV):xNv h m=.bad∨∃ r h',xNv h m=.val r h':=by
  unfold xNv
  split
  · exact .inr ⟨_,_,rfl⟩
  · split
    · exact .inr ⟨_,_,rfl⟩
    · exact .inl rfl
  · exact .inl rfl
omit envI in
theorem xK6 {h:H} {aop:AOp} (vs:List AV) (hn:xUw aop=false):zS h aop vs=.bad∨∃ r h',zS h aop vs=.val r h':=by
  unfold zS
  split
  all_goals first
    | (simp [xUw] at hn; done)
    | exact xSk ..
    | (left; rfl)
    | (split<;>first | (left; rfl; done) | (right; exact ⟨_,_,rfl⟩; done))
    | skip
  · split
    · split
      · exact .inr ⟨_,_,rfl⟩
      · cases Nat.blt _ 128
        · exact .inl rfl
        · exact .inr ⟨_,_,rfl⟩
    · exact xVh ..
    · exact .inl rfl
  · split
    · exact xRm ..
    · exact .inl rfl
  · cases xO aop
    · simp only [cond_false]
      split
      · exact .inr ⟨_,_,rfl⟩
      · exact .inl rfl
    · simp only [cond_true]
      split
      · exact .inr ⟨_,_,rfl⟩
      · exact .inl rfl
omit envI in
theorem xE4 {α:Type}:∀ {l:List (TypeId×α)} {t:TypeId} {x:α},l.lookup t=some x→(t,x)∈l
  | [],t,x,h=>by simp at h
  | (u,y)::l,t,x,h=>by
    rw [List.lookup_cons] at h
    split at h
    · rename_i e
      have:t=u:=by simpa using e
      subst this
      cases h
      exact List.mem_cons_self
    · exact List.mem_cons_of_mem _ (xE4 h)
omit envI in
theorem xS4 {nm:String} {t:TypeId} {g:Pth} (h:(gS P nm).lookup t=some g) (v:Value) (w:World) (n:Nat) :
    (method (n+1) t v nm).run P w=.ok (g.num,v) w:=by
  have hm:=xE4 h
  simp only [gS,List.mem_filterMap,Option.bind_eq_bind,Option.bind_eq_some_iff] at hm
  obtain ⟨t',_,i,hi,m,hf,hm⟩:=hm
  split at hm
  · cases hm
  rename_i hp
  simp only [Option.bind_eq_some_iff] at hm
  obtain ⟨⟨f,ptr⟩,hfn,hm⟩:=hm
  split at hm
  · cases hm
  rename_i hptr
  have hpath:m.path.toList=[]:=by
    have:m.path.isEmpty=true:=by simpa using hp
    simpa using this
  have key:∀ d,P.underlying t'=some d→(∀ e,d≠.pointer e)→pth f=g→t'=t→(method (n+1) t v nm).run P w=.ok (g.num,v) w:=by
    intro d hd hne hg ht
    subst ht
    have hptr':ptr=false:=by simpa using hptr
    subst hptr'
    rw [method]
    simp only [Sem.run_bind,dH hi,Result.andThen_ok,hf]
    rw [hpath]
    simp only [follow,Sem.run_pure,Result.andThen_ok,hfn,receiverAt,Sem.run_bind,run_underlying hd]
    cases d<;>simp only [Place.get,Sem.run_pure,Result.andThen_ok]<;>first | (rw [← hg,mW]; done) | exact absurd rfl (hne _)
  split at hm
  · cases hm
  · cases hm
  · cases hm
  · rename_i d h1 h2 hu
    simp only [Option.some.injEq,Prod.mk.injEq] at hm
    exact key d hu (fun e he=>h1 e he) hm.2 hm.1
end
section
variable {P:Program} {X:Ctx} {N:Nat} {b:Frame} {cs:List Frame} {s:St} {ρ:Nm} {a:Act} {w:World} {k:List Item} {ops:Array Oper}
omit envI in
theorem xI8 (todo:List Item) (chain:List PanicEntry):(at' b a todo).raise chain={ at' b a todo with mode:=.panicking chain }:=rfl
omit envI in
theorem xUu {i:Nat} {rest:List Nat} {o:Oper} {n:Next} {F:Frame} {cs':List Frame} {w':World} (ho:ops[i]?=some o) (hw:Region.wanted o (yielded ops a.tmps)=true) (hd:(∀ c,o.op≠.defer c)∨b.roundOf=none)
    (hr:(execOp a.eval o).run P w=.ok n w') (hn:hQ P .normal n=some F) :
    step P (lone (at' b a (.inRegion ops (i::rest)::k)) cs' w)=.next (lone F (at' b a (.inRegion ops (i::rest)::k)::cs') w'):=by
  cases n<;>simp only [hQ,Option.some.injEq,reduceCtorEq] at hn<;>subst hn
  · exact zIc ho hw hd hr
  · exact zIf ho hw hd hr
def zBe (s:St) (d':Option Pth):CRes→Out
  | .ret v h=>.nrm ({ s with h:=h }.put d' v)
  | .panic v h=>.panic v { s with h:=h }
  | .bad n=>.bad n
theorem xPk {i:Nat} {rest:List Nat} {o:Oper} {d':Option Pth} {sem:Sem Next} {res:CRes} (hd:zTy N o.dst d') (ho:ops[i]?=some o) (hw:Region.wanted o (yielded ops a.tmps)=true)
    (hnd:∀ c,o.op≠.defer c) (hs:SR P X N b cs s ρ a w) (hrun:(execOp a.eval o).run P w=sem.run P w) (hR:mS P X ρ s.h w sem res) :
    Ends P X N b cs (.inRegion ops rest::k) ρ s.h w (lone (at' b a (.inRegion ops (i::rest)::k)) (wN s.rc cs) w)
      (zBe s d' res):=by
  have hfin:∀ v,(at' b a (.inRegion ops (i::rest)::k)).finish v=at' b (a.put o.dst v) (.inRegion ops rest::k):=by
    intro v; rw [hZ,ho]; rfl
  have hput:∀ (v:AV) (h:H),({ s with h:=h }.put d' v).rc=s.rc∧({ s with h:=h }.put d' v).h=h:=by
    intro v h; cases d'<;>exact ⟨rfl,rfl⟩
  cases res with
  | bad n=>trivial
  | ret v h' =>
    obtain ⟨n,w1,hr,hR⟩:=hR
    rw [← hrun] at hr
    rcases hR with ⟨vv,hn,ρ',hr',hsim,hv⟩ | ⟨F,hF,hR⟩
    · refine ⟨ρ',_,_,(hs.step hr' hsim).put hd hv,?_,?_⟩
      · rw [(hput v h').2]; exact hsim
      · rw [(hput v h').1]
        exact .one (xG4 ho hw (.inl hnd) hr (.inl hn))
    · obtain ⟨vv,w',⟨ρ',hr',hsim,hv⟩,hst⟩:=hR (at' b a (.inRegion ops (i::rest)::k)) (wN s.rc cs)
      refine ⟨ρ',_,_,(hs.step hr' hsim).put hd hv,?_,?_⟩
      · rw [(hput v h').2]; exact hsim
      · rw [(hput v h').1]
        rw [hfin] at hst
        exact .head (xUu ho hw (.inl hnd) hr hF) hst
  | panic v h' =>
    obtain ⟨n,w1,F,hr,hF,hR⟩:=hR
    rw [← hrun] at hr
    obtain ⟨vv,w',older,⟨ρ',hr',hsim,hv⟩,hold,hst⟩:=hR (at' b a (.inRegion ops (i::rest)::k)) (wN s.rc cs)
    rw [xI8] at hst
    exact ⟨ρ',_,_,⟨_,by intro d wr r sv rest h; cases h⟩,vv,older,hs.step hr' hsim,hsim,hv,hold,.head (xUu ho hw (.inl hnd) hr hF) hst⟩
omit envI in
theorem yDw {fr:Tr AV} {o:Opd} {os:List Opd} {vs:List AV} (e:xE X fr (o::os)=some vs):∃ v vs',vs=v::vs'∧xZ X fr o=some v∧xE X fr os=some vs':=by
  simp only [xE] at e
  cases h1:xZ X fr o with
  | none=>rw [h1] at e; cases e
  | some v =>
    rw [h1] at e
    cases h2:xE X fr os with
    | none=>rw [h2] at e; cases e
    | some vs' =>
      rw [h2] at e
      cases e
      exact ⟨v,vs',rfl,rfl,rfl⟩
set_option maxHeartbeats 1000000 in
theorem zAm {call:jA} (hcall:bD P X call) {i:Nat} {rest:List Nat} {o:Oper} {ao:AOper} {vs:List AV} (hc:qO P o.type o.op=some (ao.op,ao.args)) (hd:zTy N o.dst ao.dst)
    (ho:ops[i]?=some o) (hw:Region.wanted o (yielded ops a.tmps)=true) (hs:SR P X N b cs s ρ a w) (he:xE X s.fr ao.args=some vs) :
    Ends P X N b cs (.inRegion ops rest::k) ρ s.h w (lone (at' b a (.inRegion ops (i::rest)::k)) (wN s.rc cs) w) (yT call s ao vs):=by
  have hput:∀ (s:St) (v:AV),(s.put ao.dst v).rc=s.rc∧(s.put ao.dst v).h=s.h:=by
    intro s v; cases ao.dst<;>exact ⟨rfl,rfl⟩
  unfold yT
  rcases xEe hc with ⟨hn,hnd⟩ | ⟨f,args,ts,o1,as1,hop,hao,hos,hf,has⟩ | ⟨r,nm,args,ts,o1,as1,hop,hao,hos,hf,has⟩ | ⟨f,args,ts,o1,as1,hop,hao,hos,hf,has⟩ | ⟨args,ts,hop,hao,hos⟩ | ⟨x,o1,hop,hao,hos,hx⟩
  · rcases xK6 (h:=s.h) vs hn with e | ⟨r,h',e⟩
    · rw [e]; trivial
    · rw [e]
      obtain ⟨n,v,w',ρ',g1,g2,g3,g4,g5⟩:=zSc hc he hs.hr hs.fr e
      refine ⟨ρ',_,_,(hs.step g3 g4).put hd g5,?_,?_⟩
      · rw [(hput _ _).2]; exact g4
      · rw [(hput _ _).1]
        exact .one (xG4 ho hw (.inl hnd) g1 g2)
  ·
    rw [hos] at he
    obtain ⟨v1,vs',rfl,e1,e2⟩:=yDw he
    have hv:=zC hs.hr hs.fr hf e1
    have hvs:=pH hs.hr hs.fr has e2
    rw [hao]
    simp only [zS]
    have hR:=hcall v1 vs' s.h ρ w (a.eval f) (args.map a.eval) hs.hr hv (by simpa using hvs)
    have:=xPk (k:=k) (rest:=rest) hd ho hw (by rw [hop]; simp) hs (sem:=xB3 (a.eval f) (args.map a.eval)) (by simp only [execOp,hop,resolve,xB3,Sem.run_bind]) hR
    generalize call v1 vs' s.h=res at this
    cases res<;>exact this
  ·
    rw [hos] at he
    obtain ⟨v1,vs',rfl,e1,e2⟩:=yDw he
    have hv:=zC hs.hr hs.fr hf e1
    have hvs:=pH hs.hr hs.fr has e2
    rw [hao]
    cases v1
    case iface t v1 =>
      simp only [zS]
      cases hl:(gS P nm).lookup t with
      | none=>trivial
      | some g =>
        simp only [VR] at hv
        obtain ⟨x,hx,hv⟩:=hv
        have hR:=hcall (.fn g [] []) (v1::vs') s.h ρ w (.func (.func g.num) #[] #[]) (#[x]++args.map a.eval) hs.hr (by simp only [VR,VRs]; exact ⟨#[],#[],rfl,rfl,rfl⟩)
          (by simp only [VRs]; exact ⟨x,args.toList.map a.eval,by simp,hv,hvs⟩)
        have hrun:(execOp a.eval o).run P w=(xB3 (.func (.func g.num) #[] #[]) (#[x]++args.map a.eval)).run P w:=by
          have hex:(#[Value.iface t x]++args.map a.eval).extract 1 (#[Value.iface t x]++args.map a.eval).size=args.map a.eval:=by
            apply Array.ext'
            simp only [Array.toList_extract,Array.toList_append,Array.toList_map,List.extract,List.cons_append,List.nil_append,List.drop_succ_cons,List.drop_zero]
            exact List.take_of_length_le (by simp)
          have hg0:(#[Value.iface t x]++args.map a.eval)[0]?=some (Value.iface t x):=by rw [← Array.getElem?_toList,Array.toList_append]; rfl
          simp only [execOp,hop,resolve,xB3,Deferred.ofValue,Sem.run_bind,Sem.run_pure,Result.andThen_ok,invoke,hx,hg0,callMethod,hex,run_program]
          rw [show P.types.size+Made.depth=(P.types.size+(Made.depth - 1))+1 from by have:Made.depth=100:=rfl; omega]
          rw [xS4 hl]
          simp
        have:=xPk (k:=k) (rest:=rest) hd ho hw (by rw [hop]; simp) hs hrun hR
        dsimp only
        generalize call (.fn g [] []) (v1::vs') s.h=res at this
        cases res<;>exact this
    all_goals simp only [zS,xO,xM,cond_false]<;>trivial
  ·
    rw [hos] at he
    obtain ⟨v1,vs',rfl,e1,e2⟩:=yDw he
    have hv:=zC hs.hr hs.fr hf e1
    have hvs:=pH hs.hr hs.fr has e2
    rw [hao]
    cases v1
    case fn g fs cp =>
      simp only [zS]
      cases hrd:s.rd with
      | some l=>trivial
      | none =>
        have hround:b.roundOf=none:=by have:=hs.rd; rw [hrd] at this; exact this
        have hv':=hv
        simp only [VR] at hv'
        obtain ⟨x,y,hxy,_,_⟩:=hv'
        have hrun:(execOp a.eval o).run P w=.ok (.defer { target:=.fn (.func g.num) y,args:=x++args.map a.eval }) w:=by
          simp only [execOp,hop,resolve,hxy,Deferred.ofValue,Sem.run_bind,Sem.run_pure,Result.andThen_ok]
        have hs':SR P X N b cs { s with df:=.call (.fn g fs cp) vs'::s.df,rd:=none } ρ { a with defers:={ target:=.fn (.func g.num) y,args:=x++args.map a.eval }::a.defers } w:=by
          refine ⟨hs.hr,hs.fr,hs.size,?_,hs.rc,hround,hs.fn⟩
          exact ⟨_,x,y,args.map a.eval,_,rfl,hxy▸hv,by simpa using hvs,hs.df⟩
        refine ⟨ρ,_,_,hs'.put hd xCp,?_,?_⟩
        · rw [(hput _ _).2]; exact Sim.refl ..
        · rw [(hput _ _).1]
          exact .one (zIb ho hw hround hrun)
    all_goals simp only [zS,xO,xM,cond_false]<;>trivial
  ·
    rw [hos] at he
    simp only [xE,Option.some.injEq] at he
    subst he
    rw [hao]
    simp only [zS]
    cases hrd:s.rd with
    | some l=>trivial
    | none =>
      have hround:b.roundOf=none:=by have:=hs.rd; rw [hrd] at this; exact this
      have hrun:(execOp a.eval o).run P w=.ok .recover w:=by
        rw [xA0 hop]; rfl
      have hg:=xX7 (b:=b) (a:=a) (k:=k) (rest:=rest) (cs:=wN s.rc cs) ho hw hround hrun
      have hrc:=hs.rc
      have nilv:VR w ρ (Lv ρ s.h) .nili .nilIface:=by simp only [VR]
      cases hr:s.rc with
      | no =>
        rw [hr] at hrc hg
        simp only [RcR] at hrc
        simp only [wN,hrc] at hg
        refine ⟨ρ,_,_,hs.put hd nilv,?_,?_⟩
        · rw [(hput _ _).2]; exact Sim.refl ..
        · rw [(hput _ _).1,hr]
          exact .one hg
      | pan v =>
        rw [hr] at hrc hg
        obtain ⟨hk,c,rst,vv,older,rfl,hm,hvv⟩:=hrc
        have ht:tryRecover b (c::rst)=some (vv,{ c with mode:=.panicking ({ v:=vv,recovered:=true }::older) }::rst):=by
          unfold tryRecover; simp [hk,hm]
        simp only [wN,ht] at hg
        have hs':SR P X N b (c::rst) { s with rc:=.recovered,rd:=none } ρ a w:=⟨hs.hr,hs.fr,hs.size,hs.df,⟨hk,c,rst,vv,older,rfl,hm⟩,hround,hs.fn⟩
        refine ⟨ρ,_,_,hs'.put hd hvv,?_,?_⟩
        · rw [(hput _ _).2]; exact Sim.refl ..
        · rw [(hput _ _).1]
          simp only [wN,hm]
          exact .one hg
      | recovered =>
        rw [hr] at hrc hg
        obtain ⟨hk,c,rst,vv,older,rfl,hm⟩:=hrc
        have ht:tryRecover b (wN .recovered (c::rst))=none:=by
          simp only [wN,hm]
          unfold tryRecover; simp [hk]
        simp only [ht] at hg
        refine ⟨ρ,_,_,hs.put hd nilv,?_,?_⟩
        · rw [(hput _ _).2]; exact Sim.refl ..
        · rw [(hput _ _).1,hr]
          exact .one hg
  ·
    rw [hos] at he
    obtain ⟨v1,rfl,e1⟩:=ev1 he
    have hv:=zC hs.hr hs.fr hx e1
    rw [hao]
    cases v1
    case iface t v1 =>
      simp only [zS]
      have hv':=hv
      simp only [VR] at hv'
      obtain ⟨x',hx',_⟩:=hv'
      have hrun:(execOp a.eval o).run P w=.halt (.panic (a.eval x)) w:=by
        simp only [execOp,hop,Instr.panic,hx',Sem.run_bind]
        rfl
      have hg:=zIe (b:=b) (k:=k) (rest:=rest) (cs:=wN s.rc cs) ho hw (.inl (by rw [hop]; simp)) hrun
      rw [xI8] at hg
      exact ⟨ρ,a,w,⟨_,by intro d wr r sv rest h; cases h⟩,_,[],hs,Sim.refl ..,hv,by simp,.one hg⟩
    all_goals simp only [zS]<;>trivial
end
end Go.Abs
end
section
namespace Go.Abs
variable [envI:Env]
section
variable {P:Program} {X:Ctx} {N:Nat} {b:Frame} {cs:List Frame} {s:St} {ρ:Nm} {a:Act} {w:World} {k:List Item} {ops:Array Oper}
omit envI in
theorem xDy {o:Oper} {ao:AOper} (hc:wG P N ops o=some ao):qO P o.type o.op=some (ao.op,ao.args)∧guardOf ops o=some ao.guard∧zHz N o=true∧ao.dst=o.dst.map pth:=by
  unfold wG at hc
  split at hc
  · rename_i op args guard h1 h2 h3
    cases hc
    exact ⟨h1,h2,h3,rfl⟩
  · cases hc
theorem xAv {o:Oper} {ao:AOper} {L:Nat→Prop} {fr:Tr AV} (hc:wG P N ops o=some ao) (hf:FR w ρ L fr a.tmps) {t:Bool} (hw:xI fr ao.guard=some t):Region.wanted o (yielded ops a.tmps)=t:=by
  obtain ⟨_,h2,_,_⟩:=xDy hc
  unfold Region.wanted
  cases hg:o.guard with
  | none =>
    simp only [guardOf,hg,Option.some.injEq] at h2
    rw [← h2] at hw
    simp only [xI,Option.some.injEq] at hw
    exact hw
  | some p =>
    obtain ⟨j,want⟩:=p
    simp only [guardOf,hg] at h2
    cases hj:ops[j]? with
    | none=>rw [hj] at h2; cases h2
    | some oj =>
      rw [hj] at h2
      simp only at h2
      cases hd:oj.dst with
      | none=>rw [hd] at h2; cases h2
      | some d =>
        rw [hd] at h2
        simp only [Option.some.injEq] at h2
        rw [← h2] at hw
        simp only [xI] at hw
        have hy:∀ v,a.tmps[d]?=some v→yielded ops a.tmps j=match v with | .bool b=>some b | _=>none:=by
          intro v hv
          unfold yielded
          simp only [hj,hd,Option.bind_some,hv]
          cases v<;>rfl
        cases hv:fr.get (pth d) with
        | none=>rw [hv] at hw; cases hw
        | some v =>
          rw [hv] at hw
          obtain ⟨u,hu,hr⟩:=hf _ _ hv
          rw [mW] at hu
          simp only [hy u hu]
          split at hw
          · rename_i bb e
            cases e
            simp only [VR] at hr
            subst hr
            simp only [Option.some.injEq] at hw
            rw [← hw]
            cases bb<;>cases want<;>rfl
          · rename_i e
            cases e
            simp only [VR,VRs] at hr
            obtain ⟨x,rfl,_⟩:=hr
            cases hw
            rfl
          · cases hw
omit envI in
theorem gO {o:Oper} {ao:AOper} (hc:wG P N ops o=some ao):qO P o.type o.op=some (ao.op,ao.args)∧zTy N o.dst ao.dst:=by
  obtain ⟨h1,_,h3,h4⟩:=xDy hc
  refine ⟨h1,h4,fun x hx => ?_⟩
  simp only [zHz,hx] at h3
  have:x+1≤N:=by simpa [Nat.blt] using h3
  exact Nat.lt_of_succ_le this
omit envI in
theorem xN7 {α β:Type} {f:α→Option β}:∀ {l:List α} {l':List β},l.mapM f=some l'→l'.length=l.length∧∀ (i:Nat) (x:α),l[i]?=some x→∃ y,l'[i]?=some y∧f x=some y
  | [],l',h=>by simp at h; subst h; simp
  | x::l,l',h=>by
    simp only [List.mapM_cons,Option.bind_eq_bind,Option.bind_eq_some_iff,Option.pure_def,Option.some.injEq] at h
    obtain ⟨y,h1,l'',h2,rfl⟩:=h
    obtain ⟨h3,h4⟩:=xN7 h2
    refine ⟨by simp [h3],fun i z hz => ?_⟩
    cases i with
    | zero=>simp at hz; subst hz; exact ⟨y,by simp,h1⟩
    | succ i=>simp at hz; obtain ⟨y',h5,h6⟩:=h4 i z hz; exact ⟨y',by simpa using h5,h6⟩
theorem zAo {call:jA} (hcall:bD P X call):∀ (n i:Nat) (os:List AOper) (s:St) (ρ:Nm) (a:Act) (w:World),i+n=ops.size→os.length=n →
    (∀ j o,ops[i+j]?=some o→∃ ao,os[j]?=some ao∧wG P N ops o=some ao)→SR P X N b cs s ρ a w →
    Ends P X N b cs k ρ s.h w (lone (at' b a (.inRegion ops (List.range' i n)::k)) (wN s.rc cs) w) (wK X call os s)
  | 0,i,os,s,ρ,a,w,_,hl,hc,hs=>by
    have:os=[]:=by simpa using hl
    subst this
    exact ⟨ρ,a,w,hs,Sim.refl ..,.one xE2⟩
  | n + 1, i, os,s,ρ,a,w,hi,hl,hc,hs=>by
    have hlt:i<ops.size:=by omega
    obtain ⟨ao,ho',hco⟩:=hc 0 ops[i] (by simp [hlt])
    match os,hl,ho' with
    | ao' :: os,hl,ho' =>
      simp only [List.getElem?_cons_zero,Option.some.injEq] at ho'
      subst ho'
      have ho:ops[i]?=some ops[i]:=by simp [hlt]
      obtain ⟨hop,hd⟩:=gO hco
      have hrest:∀ j o,ops[i+1+j]?=some o→∃ ao,os[j]?=some ao∧wG P N ops o=some ao:=by
        intro j o hj
        obtain ⟨ao,h1,h2⟩:=hc (j+1) o (by rw [← hj]; congr 1; omega)
        exact ⟨ao,by simpa using h1,h2⟩
      have ih:=fun s ρ a w hs=>zAo hcall n (i+1) os s ρ a w (by omega) (by simpa using hl) hrest hs
      simp only [wK,List.range'_succ]
      cases hw:xI s.fr ao'.guard with
      | none=>trivial
      | some t =>
        have hwt:=xAv hco hs.fr hw
        cases t with
        | false =>
          have hst:=xMu (P:=P) (b:=b) (a:=a) (k:=k) (cs:=wN s.rc cs) (w:=w) (ops:=ops) (i:=i) (rest:=List.range' (i+1) n) (by rw [ho]; simpa using hwt)
          rw [ho] at hst
          simp only [Option.bind_some] at hst
          have hs':=hs.put hd (v:=.tup []) (vv:=undef) xCp
          have hh:(s.put ao'.dst (.tup [])).h=s.h:=by cases ao'.dst<;>rfl
          have hrc:(s.put ao'.dst (.tup [])).rc=s.rc:=by cases ao'.dst<;>rfl
          have:=ih _ ρ _ w hs'
          rw [hrc,hh] at this
          exact this.of_steps (.one hst) (Sim.refl ..)
        | true =>
          cases he:xE X s.fr ao'.args with
          | none=>trivial
          | some vs =>
            have h1:=zAm (k:=k) (rest:=List.range' (i+1) n) hcall hop hd ho hwt hs he
            dsimp only
            cases hone:yT call s ao' vs with
            | nrm s1 =>
              rw [hone] at h1
              obtain ⟨ρ1,a1,w1,g1,g2,g3⟩:=h1
              exact (ih s1 ρ1 a1 w1 g1).of_steps g3 g2
            | exit id s1 =>
              exfalso
              unfold yT at hone
              repeat' (first | (split at hone) | (cases hone; done))
            | ret s1 =>
              exfalso
              unfold yT at hone
              repeat' (first | (split at hone) | (cases hone; done))
            | panic v s1=>rw [hone] at h1; exact h1
            | bad n=>trivial
end
end Go.Abs
end
section
namespace Go.Abs
variable [envI:Env]
section
variable {P:Program} {X:Ctx} {ρ ρ':Nm} {h:H} {w w':World} {L L':Nat→Prop}
theorem FR.relive (hf:ρ'.f=ρ.f) (he:ρ'.base=ρ.base) (hl:∀ b,ρ.base b→L' b→L b) {fr:Tr AV} {tmps:Array Value} (h:FR w ρ L fr tmps):FR w ρ' L' fr tmps :=
  fun p a e=>let ⟨v,h1,h2⟩:=h p a e; ⟨v,h1,h2.relive hf he hl⟩
theorem BR.relive (hf:ρ'.f=ρ.f) (he:ρ'.base=ρ.base) (hl:∀ b,ρ.base b→L' b→L b) {x:AB} {o:Obj} (h:BR P w ρ L x o):BR P w ρ' L' x o:=by
  cases x with
  | cells cs sp =>
    obtain ⟨c,el,lo,hi,h1,h2,h3,h4⟩:=h
    exact ⟨c,el,lo,hi,h1,h2.relive hf he hl,h3,h4⟩
  | amap es =>
    obtain ⟨ms,clock,h1,h2,h3⟩:=h
    exact ⟨ms,clock,h1,h2.relive hf he hl,h3.1.relive hf he hl,h3.2⟩
  | siter s pos=>exact h
  | miter m n k =>
    cases m with
    | none=>exact h
    | some m =>
      obtain ⟨b,since,seen,ms,clock,h1,h2⟩:=h
      exact ⟨b,since,seen,ms,clock,by rw [hf]; exact h1,h2⟩
  | loop st j fn fr ps as1 bd d =>
    obtain ⟨l,N,h1,h2,h3,h4,h5,h6,h7,h8,h9,h10,h11⟩:=h
    exact ⟨l,N,h1,h2,h3,h4,h5.relive hf he hl,h6,h7,h8,h9,h10,by rw [hf]; exact h11⟩
  | dfr tk=>exact h
theorem BR.mono0 (hs:Sim0 ρ L w ρ' L' w') (hb:∀ id b,ρ id=some b→b<w.heap.size) {x:AB} {o:Obj} (h:BR P w ρ L x o):BR P w' ρ' L' x o:=by
  have hs':Sim ρ L w { ρ' with res:=ρ.res } L' w':=⟨⟨hs.base,hs.baseN,hs.names,hs.size,hs.same,hs.cells,hs.live,hs.os,hs.output,hs.tape⟩,rfl⟩
  exact (h.mono hs' hb).relive (ρ:={ ρ' with res:=ρ.res }) (L:=L') (ρ':=ρ') (L':=L') rfl rfl (fun _ _ x=>x)
theorem FR.mono0 (hs:Sim0 ρ L w ρ' L' w') (hb:∀ id b,ρ id=some b→b<w.heap.size) {fr:Tr AV} {tmps:Array Value} (h:FR w ρ L fr tmps):FR w' ρ' L' fr tmps :=
  fun p a e=>let ⟨v,h1,h2⟩:=h p a e; ⟨v,h1,h2.mono0 hs hb⟩
theorem HR.keep (hr:HR P X ρ h w) {R:Pth→Prop} (hR:∀ id,R id→ρ id=none∧id.num<h.next.num):HR P X { ρ with res:=R } h w where
  live:=fun id x e=>by
    obtain ⟨b,o,h1,h2,h3⟩:=hr.live id x e
    exact ⟨b,o,h1,h2,h3.relive (ρ:=ρ) (L:=Lv ρ h) (ρ':={ ρ with res:=R }) (L':=Lv { ρ with res:=R } h) rfl rfl (fun _ _ x=>x)⟩
  inj:=hr.inj
  ro := fun id cs e1 e2=>by
    obtain ⟨b,c,el,fz,h1,h2,h3,h4⟩:=hr.ro id cs e1 e2
    exact ⟨b,c,el,fz,h1,h2,h3,h4.relive (ρ:=ρ) (L:=Lv ρ h) (ρ':={ ρ with res:=R }) (L':=Lv { ρ with res:=R } h) rfl rfl (fun _ _ x=>x)⟩
  fresh:=hr.fresh
  bound:=hr.bound
  globs:=fun g cs e=>by
    obtain ⟨h1,c,el,fz,h2,h3⟩:=hr.globs g cs e
    exact ⟨h1,c,el,fz,h2,h3.relive (ρ:=ρ) (L:=Lv ρ h) (ρ':={ ρ with res:=R }) (L':=Lv { ρ with res:=R } h) rfl rfl (fun _ _ x=>x)⟩
  low:=hr.low
  resv:=hR
  disj:=hr.disj
theorem HR.newDead (hr:HR P X ρ h w) {id:Pth} (hρ:ρ id=none) (hres:¬ ρ.res id) (hid:id.num<h.next.num) (o:Obj) :
    HR P X (extend ρ id w.heap.size) h (nK w o)∧Sim ρ (Lv ρ h) w (extend ρ id w.heap.size) (Lv (extend ρ id w.heap.size) h) (nK w o)∧(∀ c,Lv (extend ρ id w.heap.size) h c↔Lv ρ h c):=by
  have hnames:∀ i b,ρ i=some b→extend ρ id w.heap.size i=some b:=by
    intro i b e
    have hi:i≠id:=fun hi=>by rw [hi,hρ] at e; cases e
    exact (yW ρ _ hi).trans e
  have hget:∀ i x,h.t.get i=some x→i≠id:=by
    intro i x e hi
    obtain ⟨b,_,h1,_⟩:=hr.live i x e
    rw [hi,hρ] at h1; cases h1
  have hlv:∀ c,Lv (extend ρ id w.heap.size) h c↔Lv ρ h c:=by
    intro c
    constructor
    · rintro ⟨i,x,h1,h2⟩
      exact ⟨i,x,h1,(yW ρ _ (hget i x h1)).symm.trans h2⟩
    · rintro ⟨i,x,h1,h2⟩
      exact ⟨i,x,h1,hnames i c h2⟩
  have hsim:Sim ρ (Lv ρ h) w (extend ρ id w.heap.size) (Lv (extend ρ id w.heap.size) h) (nK w o):=by
    refine ⟨⟨fun _ h=>h,fun _ _ h=>h,hnames,by rw [vS]; omega,fun b hb _=>by rw [jJ,if_neg (by omega)],fun b hb => ?_,fun b hb hl=>(hlv b).1 hl,rfl,rfl,rfl⟩,rfl⟩
    exact .of_eq (by rw [jJ,if_neg (by omega)])
  refine ⟨⟨?_,?_,?_,?_,?_,?_,fun b hb=>Nat.lt_of_lt_of_le (hr.low b hb) (by rw [vS]; omega),fun i hi => ?_,fun b hb hl=>hr.disj b hb ((hlv b).1 hl)⟩,hsim,hlv⟩
  · intro i y e
    obtain ⟨b,o',h1,h2,h3⟩:=hr.live i y e
    have:=lt_of_heap h2
    exact ⟨b,o',hnames i b h1,by rw [jJ,if_neg (by omega)]; exact h2,h3.mono hsim hr.bound⟩
  · intro i j y z b e1 e2 e3 e4
    exact hr.inj i j y z b e1 e2 ((yW ρ _ (hget i y e1)).symm.trans e3) ((yW ρ _ (hget j z e2)).symm.trans e4)
  · intro i cs e1 e2
    obtain ⟨b,c,el,fz,h1,h2,h3,h4⟩:=hr.ro i cs e1 e2
    have:=lt_of_heap h3
    exact ⟨b,c,el,fz,hnames i b h1,h2.mono0 hsim.toSim0 this,by rw [jJ,if_neg (by omega)]; exact h3,h4.mono hsim hr.bound⟩
  · intro i hi
    have hne:i≠id:=fun e=>by rw [e] at hi; omega
    exact (yW ρ _ hne).trans (hr.fresh i hi)
  · intro i b e
    rw [vS]
    by_cases hi:i=id
    · rw [hi,zW] at e; simp at e; omega
    · rw [yW ρ _ hi] at e
      have:=hr.bound i b e; omega
  · intro g cs e
    obtain ⟨h1,c,el,fz,h2,h3⟩:=hr.globs g cs e
    have:=lt_of_heap h2
    exact ⟨h1.mono0 hsim.toSim0 this,c,el,fz,by rw [jJ,if_neg (by omega)]; exact h2,h3.mono hsim hr.bound⟩
  · obtain ⟨h1,h2⟩:=hr.resv i hi
    have hne:i≠id:=fun e=>hres (e▸hi)
    exact ⟨(yW ρ _ hne).trans h1,h2⟩
theorem HR.adopt (hr:HR P X ρ h w) {id:Pth} {x:AB} {b:Nat} {o:Obj} (hρ:ρ id=some b) (hbase:¬ ρ.base b) (hl:¬ Lv ρ h b) (hg:w.heap[b]?=some o) (hx:BR P w ρ (Lv ρ h) x o) :
    HR P X ρ { h with t:=h.t.put id x } w∧(∀ c,Lv ρ { h with t:=h.t.put id x } c↔Lv ρ h c∨c=b):=by
  have hnone:h.t.get id=none:=by
    cases e:h.t.get id with
    | none=>rfl
    | some y=>exact absurd ⟨id,y,e,hρ⟩ hl
  have hget:∀ i,({ h with t:=h.t.put id x }:H).t.get i=if i=id then some x else h.t.get i:=fun i=>Tr.get_put _ _ _ _
  have hlv:∀ c,Lv ρ { h with t:=h.t.put id x } c↔Lv ρ h c∨c=b:=by
    intro c
    constructor
    · rintro ⟨i,y,h1,h2⟩
      rw [hget] at h1
      by_cases hi:i=id
      · rw [hi,hρ] at h2; exact .inr (Option.some.inj h2).symm
      · rw [if_neg hi] at h1; exact .inl ⟨i,y,h1,h2⟩
    · rintro (⟨i,y,h1,h2⟩ | rfl)
      · have hi:i≠id:=fun hi=>by rw [hi,hnone] at h1; cases h1
        exact ⟨i,y,by rw [hget,if_neg hi]; exact h1,h2⟩
      · exact ⟨id,x,by rw [hget,if_pos rfl],hρ⟩
  have hre:∀ c,ρ.base c→Lv ρ { h with t:=h.t.put id x } c→Lv ρ h c:=by
    intro c hc hl
    rcases (hlv c).1 hl with h | h
    · exact h
    · exact absurd (h▸hc) hbase
  refine ⟨⟨?_,?_,?_,hr.fresh,hr.bound,?_,hr.low,hr.resv,fun b hb hl=>hr.disj b hb (hre b hb hl)⟩,hlv⟩
  · intro i y e
    rw [hget] at e
    by_cases hi:i=id
    · rw [if_pos hi] at e; cases e
      exact ⟨b,o,hi▸hρ,hg,hx.relive rfl rfl hre⟩
    · rw [if_neg hi] at e
      obtain ⟨c,o',h1,h2,h3⟩:=hr.live i y e
      exact ⟨c,o',h1,h2,h3.relive rfl rfl hre⟩
  · intro i j y z c e1 e2 e3 e4
    rw [hget] at e1 e2
    by_cases hi:i=id
    · by_cases hj:j=id
      · rw [hi,hj]
      · rw [if_neg hj] at e2
        rw [hi,hρ] at e3
        cases e3
        exact absurd ⟨j,z,e2,e4⟩ hl
    · rw [if_neg hi] at e1
      by_cases hj:j=id
      · rw [hj,hρ] at e4
        cases e4
        exact absurd ⟨i,y,e1,e3⟩ hl
      · rw [if_neg hj] at e2
        exact hr.inj i j y z c e1 e2 e3 e4
  · intro i cs e1 e2
    rw [hget] at e1
    by_cases hi:i=id
    · rw [if_pos hi] at e1; cases e1
    · rw [if_neg hi] at e1
      obtain ⟨c,cc,el,fz,h1,h2,h3,h4⟩:=hr.ro i cs e1 e2
      exact ⟨c,cc,el,fz,h1,⟨fun x=>h2.1 (hre c h2.2 x),h2.2⟩,h3,h4.relive rfl rfl hre⟩
  · intro g cs e
    obtain ⟨h1,c,el,fz,h2,h3⟩:=hr.globs g cs e
    exact ⟨⟨fun x=>h1.1 (hre _ h1.2 x),h1.2⟩,c,el,fz,h2,h3.relive rfl rfl hre⟩
def vK (P:Program) (n0:Nat) (ρ:Nm) (h:H) (w:World) (p:Pend):Prop :=
  ∃ b o,ρ p.id=some b∧¬ ρ.base b∧n0≤b∧¬ Lv ρ h b∧w.heap[b]?=some o∧BR P w ρ (Lv ρ h) p.b o
theorem xCr {n0:Nat}:∀ (ps:List Pend) {h:H},HR P X ρ h w→(∀ p∈ps,vK P n0 ρ h w p)→ps.Pairwise (fun p q=>ρ p.id≠ρ q.id) →
    HR P X ρ (h.withP ps) w∧(∀ c,Lv ρ (h.withP ps) c→Lv ρ h c∨∃ p∈ps,ρ p.id=some c)∧(∀ c,Lv ρ h c→Lv ρ (h.withP ps) c)
  | [],h,hr,_,_=>⟨hr,fun c hc=>.inl hc,fun c hc=>hc⟩
  | p :: ps,h,hr,hp,hd=>by
    obtain ⟨b,o,h1,h2,h3,h4,h5,h6⟩:=hp p List.mem_cons_self
    obtain ⟨hr1,hlv⟩:=hr.adopt h1 h2 h4 h5 h6
    have hd':=List.pairwise_cons.1 hd
    have hp':∀ q∈ps,vK P n0 ρ { h with t:=h.t.put p.id p.b } w q:=by
      intro q hq
      obtain ⟨b',o',g1,g2,g3,g4,g5,g6⟩:=hp q (List.mem_cons_of_mem _ hq)
      have hne:b'≠b:=fun e=>hd'.1 q hq (by rw [h1,g1,e])
      refine ⟨b',o',g1,g2,g3,fun hl => ?_,g5,g6.relive rfl rfl (fun c hc hl => ?_)⟩
      · rcases (hlv b').1 hl with h | h
        · exact g4 h
        · exact hne h
      · rcases (hlv c).1 hl with h | h
        · exact h
        · exact absurd (h▸hc) h2
    obtain ⟨hr2,hl2,hl3⟩:=xCr ps hr1 hp' hd'.2
    refine ⟨hr2,fun c hc => ?_,fun c hc=>hl3 c ((hlv c).2 (.inl hc))⟩
    rcases hl2 c hc with hl | ⟨q,hq,hql⟩
    · rcases (hlv c).1 hl with hl | rfl
      · exact .inl hl
      · exact .inr ⟨p,List.mem_cons_self,h1⟩
    · exact .inr ⟨q,List.mem_cons_of_mem _ hq,hql⟩
end
end Go.Abs
end
end
