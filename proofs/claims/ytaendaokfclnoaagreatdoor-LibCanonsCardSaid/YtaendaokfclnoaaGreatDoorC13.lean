/- A part of the proof that LibSwaps answers true at every input: AbsExec, AbsCall, AbsCall2, AbsCall3. -/
import Derived.RangeFuncRecord
import Derived.RangeFuncNested
import Derived.Test.YtaendaokfclnoaaGreatDoorC12
noncomputable section
section
namespace Go.Abs
variable [envI:Env]
section
variable {P:Program} {b:Frame} {a:Act} {k:List Item} {cs:List Frame} {w:World}
omit envI in
theorem xMy (b:Frame) (a:Act) (ds:List Deferred) (td:List Item) (f:Operand) (l:Nat) :
  (do let d ← resolve ({ at' b a td with defers:=ds }:Frame).eval { callee:=.value f,args := #[.const (.func (.yield l) #[] #[])],argTypes := #[] } 0; invoke d.target d.args:Sem Next)=xB3 (a.eval f) #[.func (.yield l) #[] #[]]:=by
 have h:({ at' b a td with defers:=ds }:Frame).eval f=a.eval f:=by
  cases f<;>rfl
 have hm:(#[Operand.const (.func (.yield l) #[] #[])]:Array Operand).map ({ at' b a td with defers:=ds }:Frame).eval = #[.func (.yield l) #[] #[]]:=by simp [Frame.eval]
 simp only [resolve,xB3]
 rw [h,hm]
omit envI in
theorem xMv {f:Operand} {ps:Array Tmp} {as1 bd:Code} {l:Nat} {mark:List Deferred} {w1 w2:World} {v:Value} (h1:(Instr.enterLoop b.fn a.tmps ps as1 bd b.roundOf).run P w=.ok (l,mark) w1)
  (h2:(xB3 (a.eval f) #[.func (.yield l) #[] #[]]).run P w1=.ok (.value v) w2) :
  step P (lone (at' b a (.code (.rangeFunc f ps as1 bd)::k)) cs w)=.next (lone (at' b { a with defers:=mark++a.defers } (.endRangeFunc l::k)) cs w2):=by
 refine step_lone_go ?_
 have hi:=xMy b a (mark++a.defers) (.inRangeFunc l::k) f l
 simp only [at'] at hi
 simp only [stepG,stepG.exec,at',Sem.runT_eq,h1,GStep.bare_after,stepG.apply,if_true]
 rw [hi,h2]
 simp [Frame.finish]
omit envI in
theorem xBy {f:Operand} {ps:Array Tmp} {as1 bd:Code} {l:Nat} {mark:List Deferred} {w1 w2:World} {n:Next} {F:Frame} (h1:(Instr.enterLoop b.fn a.tmps ps as1 bd b.roundOf).run P w=.ok (l,mark) w1)
  (h2:(xB3 (a.eval f) #[.func (.yield l) #[] #[]]).run P w1=.ok n w2) (hn:hQ P .normal n=some F) :
  step P (lone (at' b a (.code (.rangeFunc f ps as1 bd)::k)) cs w)=.next (lone F (at' b { a with defers:=mark++a.defers } (.inRangeFunc l::k)::cs) w2):=by
 refine step_lone_go ?_
 have hi:=xMy b a (mark++a.defers) (.inRangeFunc l::k) f l
 simp only [at'] at hi
 simp only [stepG,stepG.exec,at',Sem.runT_eq,h1,GStep.bare_after,stepG.apply,if_true]
 rw [hi,h2]
 cases n<;>simp only [hQ,Option.some.injEq,reduceCtorEq] at hn<;>subst hn<;>simp
omit envI in
theorem xUt {l:Nat} {jump:Option Code} {w':World} (h:(Instr.endLoop l).run P w=.ok jump w') :
  step P (lone (at' b a (.endRangeFunc l::k)) cs w)=.next (lone (at' b a ((jump.map Item.code).toList++k)) cs w'):=by
 refine step_lone_go ?_
 simp only [stepG,stepG.exec,at',Sem.runT_eq,h,GStep.bare_after]
 rfl
end
section
variable {P:Program} {X:Ctx} {N:Nat} {b:Frame} {cs:List Frame}
theorem Ends.pop {x:Item} {k:List Item} {ρ0:Nm} {h0:H} {w0:World} {m:Machine} {o:Out} (hx:∀ id,exitTo id (x::k)=exitTo id k) (hn:∀ a cs w,step P (lone (at' b a (x::k)) cs w)=.next (lone (at' b a k) cs w))
  (h:Ends P X N b cs (x::k) ρ0 h0 w0 m o):Ends P X N b cs k ρ0 h0 w0 m o:=by
 cases o with
 | nrm s =>
  obtain ⟨ρ1,a,w1,h1,h2,h3⟩:=h
  exact ⟨ρ1,a,w1,h1,h2,h3.trans (.one (hn _ _ _))⟩
 | exit id s =>
  obtain ⟨ρ1,a,w1,k2,h1,h2,h3,h4⟩:=h
  exact ⟨ρ1,a,w1,k2,h1,h2,h3.trans (hx id),h4⟩
 | ret s=>exact h
 | panic v s=>exact h
 | bad n=>trivial
def zBc (o:Out) (g:St→Out):Out :=
 match o with
 | .nrm s=>g s
 | r=>r
theorem Ends.bind {x:Item} {k:List Item} {ρ0:Nm} {h0:H} {w0:World} {m:Machine} {o:Out} {g:St→Out} (hx:∀ id,exitTo id (x::k)=exitTo id k)
  (hg:∀ s ρ a w,SR P X N b cs s ρ a w→Ends P X N b cs k ρ s.h w (lone (at' b a (x::k)) (wN s.rc cs) w) (g s))
  (h:Ends P X N b cs (x::k) ρ0 h0 w0 m o):Ends P X N b cs k ρ0 h0 w0 m (zBc o g):=by
 cases o with
 | nrm s =>
  obtain ⟨ρ1,a,w1,h1,h2,h3⟩:=h
  exact (hg s ρ1 a w1 h1).of_steps h3 h2
 | exit id s =>
  obtain ⟨ρ1,a,w1,k2,h1,h2,h3,h4⟩:=h
  exact ⟨ρ1,a,w1,k2,h1,h2,h3.trans (hx id),h4⟩
 | ret s=>exact h
 | panic v s=>exact h
 | bad n=>trivial
omit envI in
theorem xRg {ops:Array Oper} {c:ACode} (hc:dO P N ops false=some c):∃ os,ops.toList.mapM (wG P N ops)=some os∧c=.reg os:=by
 unfold dO at hc
 cases hm:ops.toList.mapM (wG P N ops) with
 | none=>rw [hm] at hc; cases hc
 | some os=>rw [hm] at hc; simp only [if_true,Option.some.injEq] at hc; exact ⟨os,rfl,hc.symm⟩
omit envI in
theorem xRf {ops:Array Oper} {c:ACode} (hc:dO P N ops true=some c):∃ ds,c=.dreg ds:=by
 unfold dO at hc
 cases hm:ops.toList.mapM (wG P N ops) with
 | none=>rw [hm] at hc; cases hc
 | some os =>
  rw [hm] at hc
  simp only [Bool.true_eq_false,if_false] at hc
  split at hc
  ·cases hc; exact ⟨_,rfl⟩
  ·split at hc
   ·cases hc; exact ⟨_,rfl⟩
   ·cases hc
theorem zA5 {f:St→Out} {k:List Item} {c:Code} (hf:∀ s ρ a w,SR P X N b cs s ρ a w→Ends P X N b cs (.inLoop c::k) ρ s.h w (lone (at' b a (.code c::.inLoop c::k)) (wN s.rc cs) w) (f s)) :
  ∀ n s ρ a w,SR P X N b cs s ρ a w→Ends P X N b cs k ρ s.h w (lone (at' b a (.code c::.inLoop c::k)) (wN s.rc cs) w) (jQ f n s)
 | 0,s,ρ,a,w,hs=>trivial
 | n+1,s,ρ,a,w,hs=>by
  have h1:=hf s ρ a w hs
  have:=Ends.bind (k:=k) (x:=.inLoop c) (g:=jQ f n) (fun id=>rfl) (fun s ρ a w hs=>(zA5 hf n s ρ a w hs).of_steps (.one zBs) (Sim.refl ..)) h1
  have e:jQ f (n+1) s=zBc (f s) (jQ f n):=by cases h:f s<;>simp only [jQ,zBc,h]
  rw [e]
  exact this
theorem zRy {call:jA} (hcall:bD P X call) {f:Operand} {of_:Opd} {ps:Array Tmp} {as1 bd:Code} {k:List Item} (hf:opd f=some of_) (hps:∀ p∈ps.toList,p<N) {s:St} {ρ:Nm} {a:Act} {w:World} (hs:SR P X N b cs s ρ a w) :
  Ends P X N b cs k ρ s.h w (lone (at' b a (.code (.rangeFunc f ps as1 bd)::k)) (wN s.rc cs) w) (xF X call (.rangeFunc of_ (ps.toList.map pth) (zK P N as1) (zK P N bd)) s):=by
 simp only [xF]
 cases he:xZ X s.fr of_ with
 | none=>trivial
 | some fv =>
  simp only
  have key : ∀ (h1:H) (d:Pth) (mark:List ADef) (dms:List Deferred) (db l:Nat) (ρ1:Nm) (w1:World),HR P X ρ1 h1 w1→Sim ρ (Lv ρ s.h) w ρ1 (Lv ρ1 h1) w1→ρ1 d=some db→l=w1.heap.size →
    (Instr.enterLoop b.fn a.tmps ps as1 bd b.roundOf).run P w=.ok (l,dms) (nK w1 (.loop { state:=.ready,pending:=none,fn:=b.fn,tmps:=a.tmps,params:=ps,assign:=as1,body:=bd,defers:=db })) →
    (∀ ρ' h' w',Sim ρ1 (Lv ρ1 h1) w1 ρ' (Lv ρ' h') w'→DfR w' ρ' (Lv ρ' h') (mark++s.df) (dms++a.defers)) →
    Ends P X N b cs k ρ s.h w (lone (at' b a (.code (.rangeFunc f ps as1 bd)::k)) (wN s.rc cs) w)
     (match call fv [.yield h1.next] (h1.newB (.loop .ready none s.fnid s.fr (ps.toList.map pth) (zK P N as1) (zK P N bd) d)) with
      | .ret _ h=>match h.t.get h1.next with
       | some (.loop .busy _ _ _ _ _ _ _)=>.bad 33
       | some (.loop _ j f fr ps as1 bd d) =>
        let h:=h.setB h1.next (.loop .exhausted j f fr ps as1 bd d)
        let s:={ s with h:=h,df:=mark++s.df }
        match j with
        | none=>.nrm s
        | some .ret=>.ret s
        | some (.exit i)=>.exit i s
       | _=>.bad 34
      | .panic v h=>.panic v { s with h:=h,df:=mark++s.df }
      | .bad n=>.bad n):=by
   intro h1 d mark dms db l ρ1 w1 hr1 hsim1 hd hl hrun hdf
   subst hl
   have hfr1:=hs.fr.mono hsim1 hs.hr.bound
   obtain ⟨hr2,hsim2⟩:=hr1.newB (x:=.loop .ready none s.fnid s.fr (ps.toList.map pth) (zK P N as1) (zK P N bd) d)
    (o := .loop { state:=.ready,pending:=none,fn:=b.fn,tmps:=a.tmps,params:=ps,assign:=as1,body:=bd,defers:=db }) (fun ρ' L' w' hsm=>by
     refine ⟨_,N,rfl,rfl,rfl,hs.fn,hfr1.mono hsm hr1.bound,?_,rfl,rfl,hs.size,?_,hsm.names _ _ hd⟩
     ·simp [List.map_map,Function.comp_def,mW]
     ·intro p hp
      obtain ⟨q,hq,rfl⟩:=List.mem_map.1 hp
      rw [mW]; exact hps q hq)
   generalize hρ2:extend ρ1 h1.next w1.heap.size=ρ2 at hr2 hsim2
   have hid:ρ2 h1.next=some w1.heap.size:=by rw [← hρ2]; exact zW _ _ _
   generalize hh2:h1.newB (.loop .ready none s.fnid s.fr (ps.toList.map pth) (zK P N as1) (zK P N bd) d)=h2 at hr2 hsim2 ⊢
   generalize hw2:nK w1 (.loop { state:=.ready,pending:=none,fn:=b.fn,tmps:=a.tmps,params:=ps,assign:=as1,body:=bd,defers:=db })=w2 at hr2 hsim2 hrun
   have hs02:=hsim1.trans hsim2
   have hfv:VR w2 ρ2 (Lv ρ2 h2) fv (a.eval f):=(zC hs.hr hs.fr hf he).mono hs02 hs.hr.bound
   have hR:=hcall fv [.yield h1.next] h2 ρ2 w2 (a.eval f) #[.func (.yield w1.heap.size) #[] #[]] hr2 hfv (by simp only [VRs,VR]; exact ⟨_,[],rfl,⟨_,hid,rfl⟩,rfl⟩)
   have hst:∀ h3 ρ3 w3,HR P X ρ3 h3 w3→Sim ρ2 (Lv ρ2 h2) w2 ρ3 (Lv ρ3 h3) w3→SR P X N b cs { s with h:=h3,df:=mark++s.df } ρ3 { a with defers:=dms++a.defers } w3:=by
    intro h3 ρ3 w3 hr3 hsim3
    have h:=hs.step hr3 (hs02.trans hsim3)
    exact ⟨h.hr,h.fr,h.size,hdf _ _ _ (hsim2.trans hsim3),h.rc,h.rd,h.fn⟩
   cases hres:call fv [.yield h1.next] h2 with
   | bad n=>trivial
   | panic v h3 =>
    rw [hres] at hR
    obtain ⟨n,w3,F,hr,hF,hR⟩:=hR
    obtain ⟨vv,w4,older,⟨ρ4,hr4,hsim4,hv4⟩,hold,hst4⟩:=hR (at' b { a with defers:=dms++a.defers } (.inRangeFunc w1.heap.size::k)) (wN s.rc cs)
    rw [xI8] at hst4
    exact ⟨ρ4,_,w4,⟨_,by intro d wr r sv rest h; cases h⟩,vv,older,hst _ _ _ hr4 hsim4,hs02.trans hsim4,hv4,hold,.head (xBy hrun hr hF) hst4⟩
   | ret v h3 =>
    rw [hres] at hR
    have hto:∃ ρ4 w4,HR P X ρ4 h3 w4∧Sim ρ2 (Lv ρ2 h2) w2 ρ4 (Lv ρ4 h3) w4 ∧
      Steps P (lone (at' b a (.code (.rangeFunc f ps as1 bd)::k)) (wN s.rc cs) w) (lone (at' b { a with defers:=dms++a.defers } (.endRangeFunc w1.heap.size::k)) (wN s.rc cs) w4):=by
     obtain ⟨n,w3,hr,hR⟩:=hR
     rcases hR with ⟨vv,rfl,ρ4,hr4,hsim4,hv4⟩ | ⟨F,hF,hR⟩
     ·exact ⟨ρ4,w3,hr4,hsim4,.one (xMv hrun hr)⟩
     ·obtain ⟨vv,w4,⟨ρ4,hr4,hsim4,hv4⟩,hst4⟩:=hR (at' b { a with defers:=dms++a.defers } (.inRangeFunc w1.heap.size::k)) (wN s.rc cs)
      exact ⟨ρ4,w4,hr4,hsim4,.head (xBy hrun hr hF) hst4⟩
    obtain ⟨ρ4,w4,hr4,hsim4,hst4⟩:=hto
    simp only
    cases hg:h3.t.get h1.next with
    | none=>trivial
    | some blk =>
     cases blk<;>try trivial
     rename_i st j fn' fr' ps' as' bd' d'
     have hid4:ρ4 h1.next=some w1.heap.size:=hsim4.names _ _ hid
     obtain ⟨b',o',e1,e2,l',N',e3,e4,e5,e6,e7,e8,e9,e10,e11,e12,e13⟩:=hr4.live _ _ hg
     cases e1.symm.trans hid4
     subst e3
     have hgo:st≠.busy→Ends P X N b cs k ρ s.h w (lone (at' b a (.code (.rangeFunc f ps as1 bd)::k)) (wN s.rc cs) w)
       (match j with
        | none=>.nrm { s with h:=h3.setB h1.next (.loop .exhausted j fn' fr' ps' as' bd' d'),df:=mark++s.df }
        | some .ret=>.ret { s with h:=h3.setB h1.next (.loop .exhausted j fn' fr' ps' as' bd' d'),df:=mark++s.df }
        | some (.exit i)=>.exit i { s with h:=h3.setB h1.next (.loop .exhausted j fn' fr' ps' as' bd' d'),df:=mark++s.df }):=by
      intro hb
      have hend:=run_endLoop (P:=P) e2 (by rw [e4]; cases st<;>simp [stC] at hb ⊢)
      obtain ⟨hr5,hsim5⟩:=hr4.set (x':=.loop .exhausted j fn' fr' ps' as' bd' d') (o':=.loop { l' with state:=.exhausted }) hg hid4 e2
       (by unfold bsz; rw [wT _ _ _ _ (lt_of_heap e2),if_pos rfl,e2]) (fun ρ' L' w' hsm=>by
        exact ⟨_,N',rfl,rfl,e5,e6,e7.mono hsm hr4.bound,e8,e9,e10,e11,e12,hsm.names _ _ e13⟩)
      have hstep:=xUt (b:=b) (a:={ a with defers:=dms++a.defers }) (k:=k) (cs:=wN s.rc cs) hend
      have hj:(l'.pending.map Item.code).toList=((j.map xN0).map Item.code).toList:=by rw [e5]
      rw [hj] at hstep
      have hsr:=hst _ _ _ hr5 (hsim4.trans hsim5)
      have hsim:=hs02.trans (hsim4.trans hsim5)
      cases j with
      | none=>exact ⟨ρ4,_,_,hsr,hsim,hst4.trans (.one hstep)⟩
      | some jj =>
       cases jj with
       | ret=>exact ⟨ρ4,_,_,k,hsr,hsim,hst4.trans (.one hstep)⟩
       | exit i=>exact ⟨ρ4,_,_,k,hsr,hsim,rfl,hst4.trans (.one hstep)⟩
     cases st
     case busy=>trivial
     all_goals
      have h:=hgo (by simp)
      dsimp only
      rcases j with _ | jj
      ·exact h
      ·cases jj<;>exact h
  cases hrd:s.rd with
  | none =>
   have hround:b.roundOf=none:=by have:=hs.rd; rw [hrd] at this; exact this
   obtain ⟨hr1,hsim1⟩:=hs.hr.newB (x:=.dfr false) (o:=.deferred (some [])) (fun _ _ _ _=>rfl)
   have:=key (s.h.newB (.dfr false)) s.h.next [.coll s.h.next] [{ target:=.collected w.heap.size,args := #[] }] w.heap.size (w.heap.size+1) _ _ hr1 hsim1 (zW _ _ _) (by rw [vS])
    (by rw [hround]; exact run_enterLoop_outer _ _ _ _ _) (fun ρ' h' w' hsm=>⟨_,_,rfl,hsm.names _ _ (zW _ _ _),hs.df.mono (hsim1.trans hsm) hs.hr.bound⟩)
   rw [hrd] at this
   exact this
  | some lp =>
   have hrdd:=hs.rd
   rw [hrd] at hrdd
   obtain ⟨l0,hround,hl0⟩:=hrdd
   simp only
   cases hg:s.h.t.get lp with
   | none=>trivial
   | some blk =>
    cases blk<;>try trivial
    rename_i st j fn' fr' ps' as' bd' d'
    obtain ⟨b',o',e1,e2,l',N',e3,e4,e5,e6,e7,e8,e9,e10,e11,e12,e13⟩:=hs.hr.live _ _ hg
    cases e1.symm.trans hl0
    subst e3
    have:=key s.h d' [] [] l'.defers w.heap.size ρ w hs.hr (Sim.refl ..) e13 rfl (by rw [hround]; exact run_enterLoop_inner e2 _ _ _ _ _) (fun ρ' h' w' hsm=>hs.df.mono hsm hs.hr.bound)
    rw [hrd] at this
    exact this
theorem mL {call:jA} (hcall:bD P X call) (hmix:P.follows .mixedOrders=true):∀ (C:Code) (k:List Item) (s:St) (ρ:Nm) (a:Act) (w:World),SR P X N b cs s ρ a w →
  Ends P X N b cs k ρ s.h w (lone (at' b a (.code C::k)) (wN s.rc cs) w) (xF X call (zK P N C) s)
 | .skip,k,s,ρ,a,w,hs=>⟨ρ,a,w,hs,Sim.refl ..,.one zXz⟩
 | .region id ops draw,k,s,ρ,a,w,hs=>by
  simp only [zK]
  cases hc:dO P N ops draw with
  | none=>trivial
  | some c =>
   simp only [Option.getD_some]
   cases draw with
   | false =>
    obtain ⟨os,hm,rfl⟩:=xRg hc
    obtain ⟨hl,hg⟩:=xN7 hm
    have h1:=zAo (ops:=ops) (b:=b) (cs:=cs) (k:=k) hcall ops.size 0 os s ρ a w (Nat.zero_add _) (by simpa using hl) (fun j o hj=>by
     rw [Nat.zero_add] at hj
     obtain ⟨y,g1,g2⟩:=hg j o (by simpa using hj)
     exact ⟨y,g1,g2⟩) hs
    rw [← List.range_eq_range'] at h1
    exact h1.of_steps (.one zBt) (Sim.refl ..)
   | true =>
    obtain ⟨ds,rfl⟩:=xRf hc
    exact zHu hcall hmix hc hs id
 | .seq c1 c2,k,s,ρ,a,w,hs=>by
  have h1:=mL hcall hmix c1 (.code c2::k) s ρ a w hs
  have h2:=Ends.bind (k:=k) (x:=.code c2) (g:=xF X call (zK P N c2)) (fun _=>rfl) (fun s ρ a w hs=>mL hcall hmix c2 k s ρ a w hs) h1
  have e:xF X call (zK P N (.seq c1 c2)) s=zBc (xF X call (zK P N c1) s) (xF X call (zK P N c2)):=by
   simp only [zK,xF]
   cases xF X call (zK P N c1) s<;>rfl
  rw [e]
  exact h2.of_steps (.one yEb) (Sim.refl ..)
 | .cond c t e,k,s,ρ,a,w,hs=>by
  simp only [zK]
  cases hc:opd c with
  | none=>trivial
  | some o =>
   simp only [xF]
   cases he:xZ X s.fr o with
   | none=>trivial
   | some v =>
    cases v<;>try trivial
    rename_i bb
    have hv:=zC hs.hr hs.fr hc he
    simp only [VR] at hv
    cases bb with
    | true=>exact (mL hcall hmix t k s ρ a w hs).of_steps (.one (zA2 hv)) (Sim.refl ..)
    | false=>exact (mL hcall hmix e k s ρ a w hs).of_steps (.one (zA2 hv)) (Sim.refl ..)
 | .block id c,k,s,ρ,a,w,hs=>by
  have h1:=mL hcall hmix c (.inBlock id::k) s ρ a w hs
  simp only [zK,xF]
  cases hr:xF X call (zK P N c) s with
  | nrm s1 =>
   rw [hr] at h1
   obtain ⟨ρ1,a1,w1,g1,g2,g3⟩:=h1
   exact ⟨ρ1,a1,w1,g1,g2,.head xBx (g3.trans (.one xX5))⟩
  | exit j s1 =>
   rw [hr] at h1
   obtain ⟨ρ1,a1,w1,k2,g1,g2,g3,g4⟩:=h1
   simp only
   cases hj:Nat.beq id j with
   | true =>
    have e:=Nat.eq_of_beq_eq_true hj
    subst e
    have hx:exitTo id k2=some k:=by rw [g3]; simp [exitTo]
    exact ⟨ρ1,a1,w1,g1,g2,.head xBx (g4.trans (.one (zXx hx)))⟩
   | false =>
    have hne:(id==j)=false:=by
     cases h:id==j with
     | false=>rfl
     | true=>rw [show id=j from by simpa using h] at hj; simp at hj
    exact ⟨ρ1,a1,w1,k2,g1,g2,by rw [g3]; simp [exitTo,hne],.head xBx g4⟩
  | ret s1=>rw [hr] at h1; exact h1.of_steps (.one xBx) (Sim.refl ..)
  | panic v s1=>rw [hr] at h1; exact h1.of_steps (.one xBx) (Sim.refl ..)
  | bad n=>trivial
 | .loop c,k,s,ρ,a,w,hs=>by
  simp only [zK,xF]
  exact (zA5 (fun s ρ a w hs=>mL hcall hmix c (.inLoop c::k) s ρ a w hs) X.fuel s ρ a w hs).of_steps (.one zXy) (Sim.refl ..)
 | .rangeFunc f ps as1 bd,k,s,ρ,a,w,hs=>by
  simp only [zK]
  cases hf:opd f with
  | none=>trivial
  | some o =>
   simp only
   split
   ·rename_i hps
    refine zRy hcall hf (fun p hp => ?_) hs
    have:=List.all_eq_true.1 hps p hp
    simpa using this
   ·trivial
 | .exit id,k,s,ρ,a,w,hs=>⟨ρ,a,w,k,hs,Sim.refl ..,rfl,.refl ..⟩
 | .scope c,k,s,ρ,a,w,hs=>by
  have h1:=mL hcall hmix c (.inScope c::k) s ρ a w hs
  exact (h1.pop (fun _=>rfl) (fun _ _ _=>xX6)).of_steps (.one zIg) (Sim.refl ..)
 | .label l,k,s,ρ,a,w,hs=>⟨ρ,a,w,hs,Sim.refl ..,.one zId⟩
 | .goto l,k,s,ρ,a,w,hs=>trivial
 | .ret,k,s,ρ,a,w,hs=>⟨ρ,a,w,k,hs,Sim.refl ..,.refl ..⟩
 | .refuse why,k,s,ρ,a,w,hs=>trivial
end
end Go.Abs
end
section
namespace Go.Abs
variable [envI:Env]
section
variable {P:Program} {b:Frame} {a:Act} {k:List Item} {cs:List Frame} {w:World}
omit envI in
theorem xMt (hr:b.roundOf=none):step P (lone (at' b a []) cs w)=.next (lone { at' b a [] with mode:=.returning } cs w) :=
 step_lone_go (by simp [stepG,stepG.exec,at',hr])
omit envI in
theorem xB2 (hr:b.roundOf=none):step P (lone (at' b a (.code .ret::k)) cs w)=.next (lone { at' b a (.code .ret::k) with mode:=.returning } cs w) :=
 step_lone_go (by simp [stepG,stepG.exec,at',hr])
omit envI in
theorem xRv {todo:List Item} {jump:Option Code} {l:Nat} {c:Frame} {v:Value} {w':World} (hr:b.roundOf=some l) (hk:b.kind=.normal)
  (ht:todo=[]∧jump=none∨(∃ k,todo=.code .ret::k)∧jump=some .ret∨∃ i k,todo=.code (.exit i)::k∧exitTo i k=none∧jump=some (.exit i))
  (h:(Instr.endRound l jump).run P w=.ok v w'):step P (lone (at' b a todo) (c::cs) w)=.next (lone (c.finish v) cs w'):=by
 refine step_lone_go ?_
 rcases ht with ⟨rfl,rfl⟩ | ⟨⟨k,rfl⟩,rfl⟩ | ⟨i,k,rfl,hx,rfl⟩
 ·simp only [stepG,stepG.exec,at',hr,Sem.runT_eq,h,GStep.bare_after,doReturn,hk]
  rfl
 ·simp only [stepG,stepG.exec,at',hr,Sem.runT_eq,h,GStep.bare_after,doReturn,hk]
  rfl
 ·simp only [stepG,stepG.exec,at',hr,Sem.runT_eq,h,GStep.bare_after,doReturn,hk,hx,Option.elim_none]
  rfl
omit envI in
theorem xOz {l:Nat} {w':World} (hr:b.roundOf=some l) (h:(Instr.beginRound l).run P w=.ok () w') :
  step P (lone (at' b a (.beginRound::k)) cs w)=.next (lone (at' b a k) cs w'):=by
 refine step_lone_go ?_
 simp only [stepG,stepG.exec,at',stepG.apply,hr,Option.elim_some,Sem.runT_eq,if_true,Sem.run_bind,h,Result.andThen_ok,Sem.run_pure,GStep.bare_after]
 rfl
omit envI in
theorem xUv {bl:Nat} {calls ds:List Deferred} {todo:List Item} {mode:FrameMode} {w':World} (hm:mode≠.run) (h:(Instr.takeDeferred bl).run P w=.ok calls w') :
  step P (lone { at' b { a with defers:={ target:=.collected bl,args := #[] }::ds } todo with mode:=mode } cs w)=.next (lone { at' b { a with defers:=calls++ds } todo with mode:=mode } cs w'):=by
 refine step_lone_go ?_
 cases mode with
 | run=>exact absurd rfl hm
 | returning=>simp only [stepG,at',unwind,Sem.runT_eq,h,GStep.bare_after]; rfl
 | panicking ch=>simp only [stepG,at',unwind,Sem.runT_eq,h,GStep.bare_after]; rfl
omit envI in
theorem xJx {fn:Nat} {y args:Array Value} {ds:List Deferred} {todo:List Item} {mode:FrameMode} {w':World} {n:Next} {F:Frame} (hm:mode≠.run) (h:(callFunc fn (args++y)).run P w=.ok n w') (hn:hQ P .deferred n=some F) :
  step P (lone { at' b { a with defers:={ target:=.fn (.func fn) y,args:=args }::ds } todo with mode:=mode } cs w)=.next (lone F ({ at' b { a with defers:=ds } todo with mode:=mode }::cs) w'):=by
 refine step_lone_go ?_
 cases mode with
 | run=>exact absurd rfl hm
 | returning =>
  simp only [stepG,at',unwind,callDeferred,Sem.runT_eq,invoke,h,Bool.false_and,Bool.false_eq_true,if_false]
  cases n<;>simp only [hQ,Option.some.injEq,reduceCtorEq] at hn<;>subst hn<;>simp
 | panicking ch =>
  simp only [stepG,at',unwind,callDeferred,Sem.runT_eq,invoke,h,Bool.false_and,Bool.false_eq_true,if_false]
  cases n<;>simp only [hQ,Option.some.injEq,reduceCtorEq] at hn<;>subst hn<;>simp
omit envI in
theorem zBu {todo:List Item} {fn:Func} {v:Value} {c:Frame} (hf:P.funcs[b.fn]?=some fn) (hk:b.kind=.normal) (hr:(results fn a.tmps).run P w=.ok v w) :
  step P (lone { at' b { a with defers:=[] } todo with mode:=.returning } (c::cs) w)=.next (lone (c.finish v) cs w):=by
 refine step_lone_go ?_
 simp only [stepG,at',unwind,hf,Sem.runT_eq,hr,GStep.bare_after,doReturn,hk]
 rfl
def zZx (c:Frame):Frame :=
 match c.mode with
 | .panicking ({ recovered:=true,.. }::older)=>match older.dropWhile (!·.goexit) with
  | []=>{ c with mode:=.returning }
  | rest=>{ c with mode:=.panicking rest }
 | _=>c
omit envI in
theorem rB {todo:List Item} {fn:Func} {v:Value} {c:Frame} (hf:P.funcs[b.fn]?=some fn) (hk:b.kind=.deferred) (hr:(results fn a.tmps).run P w=.ok v w) :
  step P (lone { at' b { a with defers:=[] } todo with mode:=.returning } (c::cs) w)=.next (lone (zZx c) cs w):=by
 refine step_lone_go ?_
 simp only [stepG,at',unwind,hf,Sem.runT_eq,hr,GStep.bare_after,doReturn,hk]
 rfl
omit envI in
theorem xG3 {todo:List Item} {chain:List PanicEntry} {c:Frame} (ht:xWf todo) :
  step P (lone { at' b { a with defers:=[] } todo with mode:=.panicking chain } (c::cs) w)=.next (lone (c.raise chain) cs w):=by
 have hc:Frame.catches P { at' b { a with defers:=[] } todo with mode:=.panicking chain }=false:=by
  unfold Frame.catches
  split
  ·rename_i h
   exact absurd h (ht _ _ _ _ _)
  ·rfl
 refine step_lone_go ?_
 simp only [at'] at hc
 simp only [stepG,at',unwind,hc]
 rfl
end
structure XOK (P:Program) (X:Ctx):Prop where
 mix:P.follows .mixedOrders=true
 funcs : ∀ i F,X.funcs.get i = some F → ∃ fn body,P.funcs[i.num]? = some fn ∧ fn.body = some body ∧ (fn.name == "runtime.NumGoroutine") = false ∧ nG P fn = some F
 exts:∀ i args h v h',X.exts i args h=some (v,h')→∀ ρ w (avs:Array Value),HR P X ρ h w→VRs w ρ (Lv ρ h) args avs.toList→mS P X ρ h w (callFunc i.num avs) (.ret v h')
 sums:∀ i args h v,X.sums i args h=some v→∀ ρ w (avs:Array Value),HR P X ρ h w→VRs w ρ (Lv ρ h) args avs.toList→mS P X ρ h w (callFunc i.num avs) (.ret v h)
def dW (w:World) (ρ:Nm) (L:Nat→Prop) (mode:FrameMode):Md→Prop
 | .ret=>mode=.returning
 | .pan v=>∃ vv older,mode=.panicking ({ v:=vv,recovered:=false }::older)∧VR w ρ L v vv∧∀ e∈older,e.goexit=false
def xR5 (m:Md) (r:Bool) (c:Frame):Frame :=
 match m with
 | .ret=>c
 | .pan _=>bif r then { c with mode:=.returning } else c
def zJ9 (m:Md) (r:Bool):Md :=
 match m with
 | .pan v=>bif r then .ret else .pan v
 | .ret=>.ret
def zFs (P:Program) (X:Ctx) (ρ:Nm) (h:H) (w:World) (s:Sem Next) (m:Md):DRes→Prop
 | .ok r h'=>∃ n w1 F,s.run P w=.ok n w1∧hQ P .deferred n=some F∧∀ (c:Frame) cs,dW w ρ (Lv ρ h) c.mode m→∃ w' ρ',HR P X ρ' h' w'∧Sim ρ (Lv ρ h) w ρ' (Lv ρ' h') w' ∧
   Steps P (lone F (c::cs) w1) (lone (xR5 m r c) cs w')
 | .panic v h'=>∃ n w1 F,s.run P w=.ok n w1∧hQ P .deferred n=some F∧∀ (c:Frame) cs,dW w ρ (Lv ρ h) c.mode m→∃ w' ρ' vv older,HR P X ρ' h' w'∧Sim ρ (Lv ρ h) w ρ' (Lv ρ' h') w'∧VR w' ρ' (Lv ρ' h') v vv ∧
   (∀ e∈older,e.goexit=false)∧Steps P (lone F (c::cs) w1) (lone { c with mode:=.panicking ({ v:=vv,recovered:=false }::older) } cs w')
 | .bad _=>True
def xFv (P:Program) (X:Ctx) (call:AV→List AV→Md→H→DRes):Prop :=
 ∀ f as1 m h ρ w fn x y (avs:Array Value),HR P X ρ h w→VR w ρ (Lv ρ h) f (.func (.func fn) x y)→VRs w ρ (Lv ρ h) as1 avs.toList→(∀ v,m=.pan v→∃ vv,VR w ρ (Lv ρ h) v vv) →
  zFs P X ρ h w (callFunc fn ((x++avs)++y)) m (call f as1 m h)
section
variable {P:Program} {X:Ctx} {N:Nat}
theorem dW.mono {w w':World} {ρ ρ':Nm} {L L':Nat→Prop} {mode:FrameMode} {m:Md} (hs:Sim ρ L w ρ' L' w') (hb:∀ id b,ρ id=some b→b<w.heap.size) (h:dW w ρ L mode m):dW w' ρ' L' mode m:=by
 cases m with
 | ret=>exact h
 | pan v =>
  obtain ⟨vv,older,h1,h2,h3⟩:=h
  exact ⟨vv,older,h1,h2.mono hs hb,h3⟩
theorem dW.ne_run {w:World} {ρ:Nm} {L:Nat→Prop} {mode:FrameMode} {m:Md} (h:dW w ρ L mode m):mode≠.run:=by
 cases m with
 | ret=>intro e; simp only [dW] at h; rw [e] at h; cases h
 | pan v =>
  obtain ⟨vv,older,h1,_⟩:=h
  intro e; rw [e] at h1; cases h1
theorem xFz {callD:AV→List AV→Md→H→DRes} (hd:xFv P X callD):∀ (l:List ADef) (m:Md) (h:H) (m':Md) (h':H),qS callD l m h=some (m',h') →
  ∀ (ρ:Nm) (w:World) (b:Frame) (a:Act) (todo:List Item) (cs:List Frame) (mode:FrameMode),HR P X ρ h w→DfR w ρ (Lv ρ h) l a.defers→dW w ρ (Lv ρ h) mode m →
  ∃ ρ' w' mode',HR P X ρ' h' w'∧Sim ρ (Lv ρ h) w ρ' (Lv ρ' h') w'∧dW w' ρ' (Lv ρ' h') mode' m' ∧
   Steps P (lone { at' b a todo with mode:=mode } cs w) (lone { at' b { a with defers:=[] } todo with mode:=mode' } cs w')
 | [],m,h,m',h',he,ρ,w,b,a,todo,cs,mode,hr,hdf,hm=>by
  simp only [qS,Option.some.injEq,Prod.mk.injEq] at he
  obtain ⟨rfl,rfl⟩:=he
  have:a.defers=[]:=hdf
  refine ⟨ρ,w,mode,hr,Sim.refl ..,hm,?_⟩
  rw [← this]
  exact .refl ..
 | .coll id::l,m,h,m',h',he,ρ,w,b,a,todo,cs,mode,hr,hdf,hm=>by
  obtain ⟨bl,ds',e1,e2,e3⟩:=hdf
  simp only [qS] at he
  cases hg:h.t.get id with
  | none=>rw [hg] at he; cases he
  | some blk =>
   rw [hg] at he
   cases blk<;>try (cases he; done)
   rename_i tk
   cases tk with
   | true=>cases he
   | false =>
    simp only at he
    obtain ⟨b',o',g1,g2,g3⟩:=hr.live _ _ hg
    cases g1.symm.trans e2
    have g3':o'=.deferred (some []):=g3
    subst g3'
    obtain ⟨hr1,hsim1⟩:=hr.set (x':=.dfr true) (o':=.deferred none) hg e2 g2 (by unfold bsz; rw [wT _ _ _ _ (lt_of_heap g2),if_pos rfl,g2]) (fun _ _ _ _=>rfl)
    have hst:=xUv (P:=P) (b:=b) (a:=a) (ds:=ds') (todo:=todo) (cs:=cs) (mode:=mode) hm.ne_run (run_takeDeferred g2)
    rw [List.nil_append] at hst
    obtain ⟨ρ2,w2,mode2,k1,k2,k3,k4⟩:=xFz hd l m _ m' h' he ρ _ b { a with defers:=ds' } todo cs mode hr1 (e3.mono hsim1 hr.bound) (hm.mono hsim1 hr.bound)
    refine ⟨ρ2,w2,mode2,k1,hsim1.trans k2,k3,?_⟩
    have ea:a={ a with defers:={ target:=.collected bl,args := #[] }::ds' }:=by rw [← e1]
    rw [ea]
    exact .head hst k4
 | .call f as1::l,m,h,m',h',he,ρ,w,b,a,todo,cs,mode,hr,hdf,hm=>by
  obtain ⟨fn,x,y,avs,ds',e1,e2,e3,e4⟩:=hdf
  have hD:=hd f as1 m h ρ w fn x y avs hr e2 e3 (fun v hv=>by
   subst hv
   obtain ⟨vv,older,_,h2,_⟩:=hm
   exact ⟨vv,h2⟩)
  have ea:a={ a with defers:={ target:=.fn (.func fn) y,args:=x++avs }::ds' }:=by rw [← e1]
  simp only [qS] at he
  cases hc:callD f as1 m h with
  | bad n=>rw [hc] at he; cases he
  | ok r h1 =>
   rw [hc] at he hD
   simp only at he
   obtain ⟨n,w1,F,g1,g2,g3⟩:=hD
   obtain ⟨w2,ρ2,g4,g5,g6⟩:=g3 { at' b { a with defers:=ds' } todo with mode:=mode } cs hm
   have hst:=xJx (P:=P) (b:=b) (a:=a) (ds:=ds') (todo:=todo) (cs:=cs) (mode:=mode) hm.ne_run g1 g2
   have hm2:=hm.mono g5 hr.bound
   have key:∃ mode2,xR5 m r { at' b { a with defers:=ds' } todo with mode:=mode }={ at' b { a with defers:=ds' } todo with mode:=mode2 } ∧
     dW w2 ρ2 (Lv ρ2 h1) mode2 (zJ9 m r):=by
    cases m with
    | ret=>exact ⟨mode,rfl,hm2⟩
    | pan v =>
     cases r with
     | true=>exact ⟨.returning,rfl,rfl⟩
     | false=>exact ⟨mode,rfl,hm2⟩
   obtain ⟨mode2,e5,e6⟩:=key
   rw [e5] at g6
   obtain ⟨ρ3,w3,mode3,k1,k2,k3,k4⟩:=xFz hd l (zJ9 m r) h1 m' h' (by cases m<;>exact he) ρ2 w2 b { a with defers:=ds' } todo cs mode2 g4 (e4.mono g5 hr.bound) e6
   refine ⟨ρ3,w3,mode3,k1,g5.trans k2,k3,?_⟩
   rw [ea]
   exact .head hst (g6.trans k4)
  | panic v h1 =>
   rw [hc] at he hD
   simp only at he
   obtain ⟨n,w1,F,g1,g2,g3⟩:=hD
   obtain ⟨w2,ρ2,vv,older,g4,g5,g6,g7,g8⟩:=g3 { at' b { a with defers:=ds' } todo with mode:=mode } cs hm
   have hst:=xJx (P:=P) (b:=b) (a:=a) (ds:=ds') (todo:=todo) (cs:=cs) (mode:=mode) hm.ne_run g1 g2
   obtain ⟨ρ3,w3,mode3,k1,k2,k3,k4⟩:=xFz hd l _ h1 m' h' he ρ2 w2 b { a with defers:=ds' } todo cs (.panicking ({ v:=vv,recovered:=false }::older)) g4 (e4.mono g5 hr.bound) ⟨vv,older,rfl,g6,g7⟩
   refine ⟨ρ3,w3,mode3,k1,g5.trans k2,k3,?_⟩
   rw [ea]
   exact .head hst (g8.trans k4)
end
end Go.Abs
end
section
namespace Go.Abs
variable [envI:Env]
section
variable {P:Program} {X:Ctx} {ρ:Nm} {h:H} {w:World}
def zB5 (P:Program) (r:ResultVar):Option ARes :=
 match r with
 | .tmp t=>some (ARes.tmp (pth t))
 | .cell a t=>do pure (ARes.cell (pth a) (← mX P t))
def xSx (tmps:Array Value):ResultVar→Sem Value
 | .tmp t=>pure (tmps.getD t undef)
 | .cell a t=>do loadVar t (← asAddr (tmps.getD a undef))
omit envI in
theorem xY3 (fn:Func) (tmps:Array Value):results fn tmps=(do let vs ← fn.results.mapM (xSx tmps); pure (if h:vs.size=1 then vs[0] else .tuple vs)):=by
 unfold results
 congr 1
omit envI in
theorem gC {fn:Func} {F:AFunc} (hF:nG P fn=some F):∃ body,fn.body=some body∧F.body=zK P fn.ntmps body∧fn.results.toList.mapM (zB5 P)=some F.results:=by
 unfold nG at hF
 simp only [Option.bind_eq_bind,Option.bind_eq_some_iff,Option.pure_def,Option.some.injEq] at hF
 obtain ⟨body,h1,rs,h2,rfl⟩:=hF
 exact ⟨body,h1,rfl,h2⟩
theorem xO3 (hr:HR P X ρ h w) {fr:Tr AV} {tmps:Array Value} (hf:FR w ρ (Lv ρ h) fr tmps):∀ {rs:List ResultVar} {as1:List ARes} {vs:List AV},rs.mapM (zB5 P)=some as1→zB h fr as1=some vs →
  ∃ us,(rs.mapM (xSx tmps)).run P w=.ok us w∧VRs w ρ (Lv ρ h) vs us
 | [],as1,vs,hm,he=>by
  simp at hm; subst hm
  simp only [zB,Option.some.injEq] at he; subst he
  exact ⟨[],by simp,by simp [VRs]⟩
 | r :: rs, as1, vs,hm,he=>by
  simp only [List.mapM_cons,Option.bind_eq_bind,Option.bind_eq_some_iff,Option.pure_def,Option.some.injEq] at hm
  obtain ⟨a1,h1,as',h2,rfl⟩:=hm
  cases r with
  | tmp t =>
   simp only [zB5,Option.some.injEq] at h1
   subst h1
   simp only [zB] at he
   cases hg:fr.get (pth t) with
   | none=>rw [hg] at he; cases he
   | some v =>
    rw [hg] at he
    simp only at he
    cases hrs:zB h fr as' with
    | none=>rw [hrs] at he; cases he
    | some vs' =>
     rw [hrs] at he
     cases he
     obtain ⟨us,g1,g2⟩:=xO3 hr hf h2 hrs
     obtain ⟨u,k1,k2⟩:=hf _ _ hg
     rw [mW] at k1
     refine ⟨u::us,?_,by simp only [VRs]; exact ⟨u,us,rfl,k2,g2⟩⟩
     simp only [List.mapM_cons,xSx,Sem.run_bind,Sem.run_pure,Result.andThen_ok,g1,Array.getD_eq_getD_getElem?,k1,Option.getD_some]
  | cell p t =>
   simp only [zB5,Option.bind_eq_bind,Option.bind_eq_some_iff,Option.pure_def,Option.some.injEq] at h1
   obtain ⟨n,hn,rfl⟩:=h1
   simp only [zB] at he
   cases hg:fr.get (pth p) with
   | none=>rw [hg] at he; cases he
   | some pv =>
    rw [hg] at he
    simp only at he
    cases hl:vJ h n pv with
    | none=>rw [hl] at he; cases he
    | some v =>
     rw [hl] at he
     simp only at he
     cases hrs:zB h fr as' with
     | none=>rw [hrs] at he; cases he
     | some vs' =>
      rw [hrs] at he
      cases he
      obtain ⟨us,g1,g2⟩:=xO3 hr hf h2 hrs
      obtain ⟨u,k1,k2⟩:=hf _ _ hg
      rw [mW] at k1
      obtain ⟨x,q1,q2⟩:=xQo hn hr k2 hl
      have hx:(do loadVar t (← asAddr u):Sem Value).run P w=.ok x w:=by
       have hp:∃ ad,u=.pointer (some ad):=by
        cases pv<;>simp only [vJ,reduceCtorEq] at hl
        ·simp only [VR] at k2
         obtain ⟨b,_,e⟩:=k2
         exact ⟨_,e⟩
        ·simp only [VR] at k2
         obtain ⟨b,off,c,el,fz,e,_⟩:=k2
         exact ⟨_,e⟩
       obtain ⟨ad,rfl⟩:=hp
       simp only [Instr.loadAt,Instr.sureAddr,Sem.run_bind,Sem.run_pure,Result.andThen_ok] at q1
       simp only [asAddr,Sem.run_bind,Sem.run_pure,Result.andThen_ok,q1]
      refine ⟨x::us,?_,by simp only [VRs]; exact ⟨x,us,rfl,q2,g2⟩⟩
      rw [Sem.run_bind] at hx
      simp only [List.mapM_cons,xSx,Sem.run_bind,Sem.run_pure,Array.getD_eq_getD_getElem?,k1,Option.getD_some]
      rw [hx]
      simp only [Result.andThen_ok,g1]
theorem xF5 {fn:Func} {F:AFunc} (hF:nG P fn=some F) (hr:HR P X ρ h w) {fr:Tr AV} {tmps:Array Value} (hf:FR w ρ (Lv ρ h) fr tmps) {v:AV} (he:zQ h fr F.results=some v) :
  ∃ vv,(results fn tmps).run P w=.ok vv w∧VR w ρ (Lv ρ h) v vv:=by
 obtain ⟨_,_,_,hm⟩:=gC hF
 unfold zQ at he
 cases hrs:zB h fr F.results with
 | none=>rw [hrs] at he; cases he
 | some vs =>
  rw [hrs] at he
  obtain ⟨us,g1,g2⟩:=xO3 hr hf hm hrs
  have hrun:∀ vv,(if h:us.toArray.size=1 then us.toArray[0] else Value.tuple us.toArray)=vv→(results fn tmps).run P w=.ok vv w:=by
   intro vv hvv
   rw [xY3,Sem.run_bind,Array.mapM_eq_mapM_toList,map_eq_pure_bind,Sem.run_bind,g1]
   simp only [Result.andThen_ok,Sem.run_pure]
   rw [← hvv]
  match vs,he,g2 with
  | [],he,g2 =>
   simp only [VRs] at g2; subst g2
   cases he
   exact ⟨_,hrun _ rfl,by simp [VR,VRs]⟩
  | [x],he,g2 =>
   simp only [VRs] at g2
   obtain ⟨u,us',rfl,k1,rfl⟩:=g2
   cases he
   exact ⟨u,hrun _ (by simp),k1⟩
  | x::y::vs,he,g2 =>
   have g2':=g2
   simp only [VRs] at g2'
   obtain ⟨u,us',rfl,k1,u',us'',rfl,k2,k3⟩:=g2'
   cases he
   refine ⟨.tuple (u::u'::us'').toArray,hrun _ (by simp),?_⟩
   simp only [VR]
   exact ⟨_,rfl,by simpa using g2⟩
omit envI in
theorem xJw:∀ {vs:List AV} {i:Pth} {t:Tr AV} {p:Pth} {v:AV},(yI i vs t).get p=some v→t.get p=some v∨∃ j,vs[j]?=some v∧p.num=i.num+j
 | [],i,t,p,v,h=>.inl h
 | x :: vs,i,t,p,v,h=>by
  rcases xJw (vs:=vs) h with h | ⟨j,h1,h2⟩
  ·rw [Tr.get_put] at h
   by_cases e:p=i
   ·subst e
    rw [if_pos rfl] at h
    cases h
    exact .inr ⟨0,by simp,by simp⟩
   ·rw [if_neg e] at h; exact .inl h
  ·exact .inr ⟨j+1,by simpa using h1,by rw [h2,Pth.num_succ]; omega⟩
theorem xMi (hr:HR P X ρ h w) {args:List AV} {avs:Array Value} (hv:VRs w ρ (Lv ρ h) args avs.toList) {i:Pth} {fn:Func} {body:Code} (hf:P.funcs[i.num]?=some fn) (hb:fn.body=some body) {kind:CallKind} {cs:List Frame} {rc:Rc}
  (hrc:∀ b:Frame,b.kind=kind→RcR w ρ (Lv ρ h) b cs rc) :
  let b:=Frame.enter P i.num avs kind
  SR P X fn.ntmps b cs { fr:=yI .e args .lf,df:=[],h:=h,rc:=rc,rd:=none,fnid:=i } ρ ⟨b.tmps,[]⟩ w∧b=at' b ⟨b.tmps,[]⟩ [.code body]:=by
 intro b
 have htm:b.tmps=avs++Array.replicate (fn.ntmps - avs.size) undef:=by
  show (Frame.enter P i.num avs kind).tmps=_
  simp [Frame.enter,hf]
 refine ⟨⟨hr,?_,?_,rfl,hrc b rfl,rfl,rfl⟩,?_⟩
 ·intro p v hp
  rcases xJw hp with h | ⟨j,h1,h2⟩
  ·cases p<;>cases h
  ·obtain ⟨u,h3,h4⟩:=hv.get h1
   refine ⟨u,?_,h4⟩
   have:p.num=j:=by rw [h2]; simp [Pth.num]
   rw [this,htm]
   have hlt:j<avs.size:=by
    have:=(List.getElem?_eq_some_iff.1 h3).1
    simpa using this
   rw [Array.getElem?_append_left hlt,← Array.getElem?_toList]
   exact h3
 ·rw [htm]; simp; omega
 ·show Frame.enter P i.num avs kind=_
  simp [b,at',Frame.enter,hf,hb]
omit envI in
theorem run_callFunc_enter {f : Nat} {fn : Func} {body : Code} (hf : P.funcs[f]? = some fn) (hb : fn.body = some body) (hn : (fn.name == "runtime.NumGoroutine") = false) (args : Array Value) (w : World) :
  (callFunc f args).run P w=.ok (.enter f args) w:=by
 have h1 : fn.name ≠ "runtime.NumGoroutine" := by simpa using hn
 simp [callFunc,hf,h1,hb]
theorem SR.cs_same {N:Nat} {b:Frame} {cs:List Frame} {s:St} {a:Act} (hs:SR P X N b cs s ρ a w) (hk:b.kind=.normal):wN s.rc cs=cs:=by
 have:=hs.rc
 cases hrc:s.rc with
 | no=>rfl
 | pan v=>rw [hrc] at this; rw [this.1] at hk; cases hk
 | recovered=>rw [hrc] at this; rw [this.1] at hk; cases hk
theorem zIq {callD:AV→List AV→Md→H→DRes} (hd:xFv P X callD) {N:Nat} {b:Frame} {c:Frame} {cs:List Frame} {fn:Func} {F:AFunc} (hF:nG P fn=some F) (hf:P.funcs[b.fn]?=some fn) (hk:b.kind=.normal) (hround:b.roundOf=none)
  {m:Machine} {o:Out} (hE:Ends P X N b (c::cs) [] ρ h w m o):match yO callD F o with
  | .ret v h'=>∃ vv w',vC P X ρ h w v h' vv w'∧Steps P m (lone (c.finish vv) cs w')
  | .panic v h'=>∃ vv w' older,vC P X ρ h w v h' vv w'∧(∀ e∈older,e.goexit=false)∧Steps P m (lone (c.raise ({ v:=vv,recovered:=false }::older)) cs w')
  | .bad _=>True:=by
 have done:∀ (s:St) (md:Md) (mode:FrameMode) (todo:List Item) (ρ1:Nm) (a:Act) (w1:World),xWf todo→SR P X N b (c::cs) s ρ1 a w1→Sim ρ (Lv ρ h) w ρ1 (Lv ρ1 s.h) w1→dW w1 ρ1 (Lv ρ1 s.h) mode md →
   Steps P m (lone { at' b a todo with mode:=mode } (c::cs) w1) →
   match (match qS callD s.df md s.h with
    | none=>CRes.bad 40
    | some (.ret,h)=>match zQ h s.fr F.results with
     | some v=>.ret v h
     | none=>.bad 41
    | some (.pan v,h)=>.panic v h) with
   | .ret v h'=>∃ vv w',vC P X ρ h w v h' vv w'∧Steps P m (lone (c.finish vv) cs w')
   | .panic v h'=>∃ vv w' older,vC P X ρ h w v h' vv w'∧(∀ e∈older,e.goexit=false)∧Steps P m (lone (c.raise ({ v:=vv,recovered:=false }::older)) cs w')
   | .bad _=>True:=by
  intro s md mode todo ρ1 a w1 hnc hs hsim hm hst
  cases hdf:qS callD s.df md s.h with
  | none=>trivial
  | some p =>
   obtain ⟨md',h'⟩:=p
   obtain ⟨ρ2,w2,mode2,g1,g2,g3,g4⟩:=xFz hd s.df md s.h md' h' hdf ρ1 w1 b a todo (c::cs) mode hs.hr hs.df hm
   cases md' with
   | ret =>
    simp only
    cases hres:zQ h' s.fr F.results with
    | none=>trivial
    | some v =>
     obtain ⟨vv,k1,k2⟩:=xF5 hF g1 (hs.fr.mono g2 hs.hr.bound) hres
     have e:mode2=.returning:=g3
     rw [e] at g4
     exact ⟨vv,w2,⟨ρ2,g1,hsim.trans g2,k2⟩,hst.trans (g4.trans (.one (zBu hf hk k1)))⟩
   | pan v =>
    obtain ⟨vv,older,e,k1,k2⟩:=g3
    rw [e] at g4
    exact ⟨vv,w2,older,⟨ρ2,g1,hsim.trans g2,k1⟩,k2,hst.trans (g4.trans (.one (xG3 hnc)))⟩
 cases o with
 | nrm s =>
  obtain ⟨ρ1,a,w1,g1,g2,g3⟩:=hE
  rw [g1.cs_same hk] at g3
  exact done s .ret .returning [] ρ1 a w1 (by intro _ _ _ _ _ h; cases h) g1 g2 rfl (g3.trans (.one (xMt hround)))
 | ret s =>
  obtain ⟨ρ1,a,w1,k2,g1,g2,g3⟩:=hE
  rw [g1.cs_same hk] at g3
  exact done s .ret .returning (.code .ret::k2) ρ1 a w1 (by intro _ _ _ _ _ h; cases h) g1 g2 rfl (g3.trans (.one (xB2 hround)))
 | panic v s =>
  obtain ⟨ρ1,a,w1,todo,vv,older,g1,g2,g3,g4,g5⟩:=hE
  rw [g1.cs_same hk] at g5
  exact done s (.pan v) _ todo.1 ρ1 a w1 todo.2 g1 g2 ⟨vv,older,rfl,g3,g4⟩ g5
 | exit id s=>trivial
 | bad n=>trivial
end
end Go.Abs
end
section
namespace Go.Abs
variable [envI:Env]
section
variable {P:Program} {X:Ctx}
theorem zXu (xo:XOK P X) {call:jA} {callD:AV→List AV→Md→H→DRes} (hcall:bD P X call) (hd:xFv P X callD) {i:Pth} {F:AFunc} (hF:X.funcs.get i=some F) {ρ:Nm} {h:H} {w:World} (hr:HR P X ρ h w)
  {args:List AV} {avs:Array Value} (hv:VRs w ρ (Lv ρ h) args avs.toList) :
  mS P X ρ h w (callFunc i.num avs) (yO callD F (xF X call F.body { fr:=yI .e args .lf,df:=[],h:=h,rc:=.no,rd:=none,fnid:=i })):=by
 obtain ⟨fn,body,h1,h2,h3,h4⟩:=xo.funcs i F hF
 obtain ⟨body',g1,g2,_⟩:=gC h4
 cases h2.symm.trans g1
 have hrun:=run_callFunc_enter (P:=P) h1 h2 h3 avs w
 have key:∀ c cs,_:=fun (c:Frame) (cs:List Frame)=>by
  obtain ⟨hs,hb⟩:=xMi hr hv h1 h2 (kind:=.normal) (cs:=c::cs) (rc:=.no) (fun b hk=>by simp only [RcR]; unfold tryRecover; simp [hk])
  have hE:=mL hcall xo.mix body [] _ ρ _ w hs
  rw [← g2] at hE
  rw [← hb] at hE
  exact zIq hd h4 (b:=Frame.enter P i.num avs .normal) (c:=c) (cs:=cs) (by exact h1) rfl rfl hE
 cases hL:yO callD F (xF X call F.body { fr:=yI .e args .lf,df:=[],h:=h,rc:=.no,rd:=none,fnid:=i }) with
 | ret v h' =>
  refine ⟨_,w,hrun,.inr ⟨_,rfl,fun c cs => ?_⟩⟩
  have:=key c cs
  rw [hL] at this
  exact this
 | panic v h' =>
  refine ⟨_,w,_,hrun,rfl,fun c cs => ?_⟩
  have:=key c cs
  rw [hL] at this
  exact this
 | bad n=>trivial
theorem xGq {w:World} {ρ:Nm} {L:Nat→Prop}:∀ {ps:List Pth} {as1:List AV} {fr:Tr AV} {tmps:Array Value} {qs:List Tmp} {avs:List Value},FR w ρ L fr tmps→VRs w ρ L as1 avs→qs=ps.map Pth.num→(∀ p∈ps,p.num<tmps.size) →
  FR w ρ L (kB ps as1 fr) ((qs.zip avs).foldl (fun tmps (t,a)=>tmps.setIfInBounds t a) tmps)∧((qs.zip avs).foldl (fun tmps (t,a)=>tmps.setIfInBounds t a) tmps).size=tmps.size
 | [],as1,fr,tmps,qs,avs,hf,hv,hq,hp=>by
  subst hq
  cases as1<;>exact ⟨by simpa [kB] using hf,by simp⟩
 | p::ps,[],fr,tmps,qs,avs,hf,hv,hq,hp=>by
  simp only [VRs] at hv; subst hv
  exact ⟨by simpa [kB] using hf,by simp⟩
 | p :: ps,x::as1,fr,tmps,qs,avs,hf,hv,hq,hp=>by
  simp only [VRs] at hv
  obtain ⟨u,us,rfl,h1,h2⟩:=hv
  subst hq
  simp only [List.map_cons,List.zip_cons_cons,List.foldl_cons,kB]
  obtain ⟨g1,g2⟩:=xGq (ps:=ps) (hf.put (hp p List.mem_cons_self) h1) h2 rfl (fun q hq=>by
   rw [Array.size_setIfInBounds]; exact hp q (List.mem_cons_of_mem _ hq))
  exact ⟨g1,by rw [g2,Array.size_setIfInBounds]⟩
theorem zTw (xo:XOK P X) {call:jA} (hcall:bD P X call) {id:Pth} {l:Nat} {ρ:Nm} {h:H} {w:World} (hr:HR P X ρ h w) (hl:ρ id=some l) {as1:List AV} {avs:Array Value} (hv:VRs w ρ (Lv ρ h) as1 avs.toList)
  {st:LState} {j:Option Jump} {fn:Pth} {fr:Tr AV} {ps:List Pth} {asn body:ACode} {d:Pth} (hg:h.t.get id=some (.loop st j fn fr ps asn body d)) (hlen:Nat.beq ps.length as1.length=true) :
  mS P X ρ h w (Instr.yield l avs)
   (match xF X call asn { fr:=kB ps as1 fr,df:=[],h:=h,rc:=.no,rd:=some id,fnid:=fn } with
     | .nrm s =>
      match s.h.t.get id with
      | some (.loop .ready j fn fr0 ps0 as0 bd0 d0) =>
       let s:={ s with h:=s.h.setB id (.loop .busy j fn fr0 ps0 as0 bd0 d0) }
       let fin (st:LState) (j:Option Jump) (s:St):CRes :=
        match s.df,s.h.t.get id with
        | [],some (.loop _ _ fn fr0 ps0 as0 bd0 d0)=>.ret (.bool (match j with | none=>true | some _=>false)) (s.h.setB id (.loop st j fn fr0 ps0 as0 bd0 d0))
        | _,_=>.bad 54
       match xF X call body s with
       | .nrm s=>fin .ready none s
       | .ret s=>fin .done (some .ret) s
       | .exit i s=>fin .done (some (.exit i)) s
       | .panic v s=>match s.df with | []=>.panic v s.h | _=>.bad 55
       | .bad n=>.bad n
      | _=>.bad 52
     | .bad n=>.bad n
     | _=>.bad 53):=by
 obtain ⟨b',o',e1,e2,r,N,e3,e4,e5,e6,e7,e8,e9,e10,e11,e12,e13⟩:=hr.live _ _ hg
 cases e1.symm.trans hl
 subst e3
 have hsz:avs.size=r.params.size:=by
  have h1:=hv.length
  have h2:=Nat.eq_of_beq_eq_true hlen
  have h3:r.params.toList.length=ps.length:=by rw [e8,List.length_map]
  simp at h1 h3; omega
 have hrun:=run_yield (P:=P) e2 hsz
 generalize htm:(r.params.zip avs).foldl (fun tmps (t,a)=>tmps.setIfInBounds t a) r.tmps=tm at hrun
 obtain ⟨hfr,htsz⟩:=xGq e7 hv e8 (fun p hp=>Nat.lt_of_lt_of_le (e12 p hp) e11)
 have htm':tm=(r.params.toList.zip avs.toList).foldl (fun tmps (t,a)=>tmps.setIfInBounds t a) r.tmps:=by
  rw [← htm,← Array.foldl_toList,Array.toList_zip]
 rw [← htm'] at hfr htsz
 have hs:∀ cs,SR P X N (Frame.round l r.fn tm r.assign r.body .normal) cs { fr:=kB ps as1 fr,df:=[],h:=h,rc:=.no,rd:=some id,fnid:=fn } ρ ⟨tm,[]⟩ w:=fun cs =>
  ⟨hr,hfr,by show N≤tm.size; omega,rfl,by simp only [RcR]; unfold tryRecover; simp [Frame.round],⟨l,rfl,hl⟩,e6⟩
 have hA:=fun cs=>mL hcall xo.mix r.assign [.beginRound,.code r.body] _ ρ _ w (hs cs)
 rw [e9] at hA
 have hfb:at' (Frame.round l r.fn tm r.assign r.body .normal) ⟨tm,[]⟩ [.code r.assign,.beginRound,.code r.body]=Frame.round l r.fn tm r.assign r.body .normal:=rfl
 cases hasn:xF X call asn { fr:=kB ps as1 fr,df:=[],h:=h,rc:=.no,rd:=some id,fnid:=fn } with
 | nrm s =>
  simp only
  cases hg1:s.h.t.get id with
  | none=>trivial
  | some blk =>
   cases blk<;>try trivial
   rename_i st1 j1 fn1 fr1 ps1 as1 bd1 d1
   cases st1<;>try trivial
   simp only
   have hB:∀ cs,∃ s2:St,s2={ s with h:=s.h.setB id (.loop .busy j1 fn1 fr1 ps1 as1 bd1 d1) } ∧
     Ends P X N (Frame.round l r.fn tm r.assign r.body .normal) cs [] ρ h w (lone (Frame.round l r.fn tm r.assign r.body .normal) cs w) (xF X call body s2):=by
    intro cs
    have h1:=hA cs
    rw [hasn] at h1
    obtain ⟨ρ1,a1,w1,g1,g2,g3⟩:=h1
    rw [hfb] at g3
    rw [g1.cs_same rfl] at g3
    rw [show wN Rc.no cs=cs from rfl] at g3
    have hid1:ρ1 id=some l:=g2.names _ _ hl
    obtain ⟨b1,o1,k1,k2,r1,N1,k3,k4,k5,k6,k7,k8,k9,k10,k11,k12,k13⟩:=g1.hr.live _ _ hg1
    cases k1.symm.trans hid1
    subst k3
    have hbeg:=run_beginRound (P:=P) k2 (by rw [k4]; rfl)
    obtain ⟨hr2,hsim2⟩:=g1.hr.set (x':=.loop .busy j1 fn1 fr1 ps1 as1 bd1 d1) (o':=.loop { r1 with state:=.busy }) hg1 hid1 k2
     (by unfold bsz; rw [wT _ _ _ _ (lt_of_heap k2),if_pos rfl,k2]) (fun ρ' L' w' hsm =>
      ⟨_,N1,rfl,rfl,k5,k6,k7.mono hsm g1.hr.bound,k8,k9,k10,k11,k12,hsm.names _ _ k13⟩)
    have hs2:=g1.step hr2 hsim2
    have hE:=mL hcall xo.mix r.body [] _ ρ1 a1 _ hs2
    rw [e10] at hE
    refine ⟨_,rfl,hE.of_steps ?_ (g2.trans hsim2)⟩
    have hcs:wN ({ s with h:=s.h.setB id (.loop .busy j1 fn1 fr1 ps1 as1 bd1 d1) }:St).rc cs=cs:=g1.cs_same rfl
    rw [hcs]
    exact g3.trans (.one (xOz rfl hbeg))
   have fin : ∀ (c:Frame) (cs:List Frame) (s3:St) (jump:Option Jump) (st':LState) (ρ3:Nm) (a3:Act) (w3:World) (todo:List Item),SR P X N (Frame.round l r.fn tm r.assign r.body .normal) (c::cs) s3 ρ3 a3 w3→Sim ρ (Lv ρ h) w ρ3 (Lv ρ3 s3.h) w3 →
     Steps P (lone (Frame.round l r.fn tm r.assign r.body .normal) (c::cs) w) (lone (at' (Frame.round l r.fn tm r.assign r.body .normal) a3 todo) (wN s3.rc (c::cs)) w3) →
     (todo=[]∧jump=none∨(∃ k,todo=.code .ret::k)∧jump=some .ret∨∃ i k,todo=.code (.exit i)::k∧exitTo i k=none∧jump=some (.exit i))→(stC st'=if (jump.map xN0).isNone then LoopState.ready else LoopState.done) →
     match (match s3.df,s3.h.t.get id with
        | [],some (.loop _ _ fn fr0 ps0 as0 bd0 d0)=>CRes.ret (.bool (match jump with | none=>true | some _=>false)) (s3.h.setB id (.loop st' jump fn fr0 ps0 as0 bd0 d0))
        | _,_=>.bad 54) with
     | .ret v h'=>∃ vv w',vC P X ρ h w v h' vv w'∧Steps P (lone (Frame.round l r.fn tm r.assign r.body .normal) (c::cs) w) (lone (c.finish vv) cs w')
     | _=>True:=by
    intro c cs s3 jump st' ρ3 a3 w3 todo g1 g2 g3 ht hst
    rw [g1.cs_same rfl] at g3
    cases hdf:s3.df with
    | cons _ _=>trivial
    | nil =>
     cases hg3:s3.h.t.get id with
     | none=>trivial
     | some blk =>
      cases blk<;>try trivial
      rename_i st3 j3 fn3 fr3 ps3 as3 bd3 d3
      simp only
      have hid3:ρ3 id=some l:=g2.names _ _ hl
      obtain ⟨b1,o1,k1,k2,r1,N1,k3,k4,k5,k6,k7,k8,k9,k10,k11,k12,k13⟩:=g1.hr.live _ _ hg3
      cases k1.symm.trans hid3
      subst k3
      have hend:=run_endRound (P:=P) (jump.map xN0) k2
      obtain ⟨hr2,hsim2⟩:=g1.hr.set (x':=.loop st' jump fn3 fr3 ps3 as3 bd3 d3) (o':=.loop { r1 with state:=if (jump.map xN0).isNone then .ready else .done,pending:=jump.map xN0 }) hg3 hid3 k2
       (by unfold bsz; rw [wT _ _ _ _ (lt_of_heap k2),if_pos rfl,k2]) (fun ρ' L' w' hsm =>
        ⟨_,N1,rfl,hst.symm,rfl,k6,k7.mono hsm g1.hr.bound,k8,k9,k10,k11,k12,hsm.names _ _ k13⟩)
      refine ⟨.bool (jump.map xN0).isNone,_,⟨ρ3,hr2,g2.trans hsim2,?_⟩,g3.trans (.one (xRv rfl rfl ?_ hend))⟩
      ·cases jump<;>simp [VR]
      ·rcases ht with ⟨rfl,rfl⟩ | ⟨h1,rfl⟩ | ⟨i,k,h1,h2,rfl⟩
       ·exact .inl ⟨rfl,rfl⟩
       ·exact .inr (.inl ⟨h1,rfl⟩)
       ·exact .inr (.inr ⟨i,k,h1,h2,rfl⟩)
   cases hbd:xF X call body { s with h:=s.h.setB id (.loop .busy j1 fn1 fr1 ps1 as1 bd1 d1) } with
   | nrm s3 =>
    simp only
    split
    ·rename_i heq1 heq2
     refine ⟨_,w,hrun,.inr ⟨_,rfl,fun c cs => ?_⟩⟩
     obtain ⟨s2,rfl,hE⟩:=hB (c::cs)
     rw [hbd] at hE
     obtain ⟨ρ3,a3,w3,g1,g2,g3⟩:=hE
     have:=fin c cs s3 none .ready ρ3 a3 w3 [] g1 g2 g3 (.inl ⟨rfl,rfl⟩) rfl
     rw [heq1,heq2] at this
     exact this
    ·trivial
   | ret s3 =>
    simp only
    split
    ·rename_i heq1 heq2
     refine ⟨_,w,hrun,.inr ⟨_,rfl,fun c cs => ?_⟩⟩
     obtain ⟨s2,rfl,hE⟩:=hB (c::cs)
     rw [hbd] at hE
     obtain ⟨ρ3,a3,w3,k2,g1,g2,g3⟩:=hE
     have:=fin c cs s3 (some .ret) .done ρ3 a3 w3 _ g1 g2 g3 (.inr (.inl ⟨⟨k2,rfl⟩,rfl⟩)) rfl
     rw [heq1,heq2] at this
     exact this
    ·trivial
   | exit i s3 =>
    simp only
    split
    ·rename_i heq1 heq2
     refine ⟨_,w,hrun,.inr ⟨_,rfl,fun c cs => ?_⟩⟩
     obtain ⟨s2,rfl,hE⟩:=hB (c::cs)
     rw [hbd] at hE
     obtain ⟨ρ3,a3,w3,k2,g1,g2,g3,g4⟩:=hE
     have:=fin c cs s3 (some (.exit i)) .done ρ3 a3 w3 _ g1 g2 g4 (.inr (.inr ⟨i,k2,rfl,g3,rfl⟩)) rfl
     rw [heq1,heq2] at this
     exact this
    ·trivial
   | panic v s3 =>
    simp only
    cases hdf:s3.df with
    | cons _ _=>trivial
    | nil =>
     refine ⟨_,w,_,hrun,rfl,fun c cs => ?_⟩
     obtain ⟨s2,rfl,hE⟩:=hB (c::cs)
     rw [hbd] at hE
     obtain ⟨ρ3,a3,w3,todo,vv,older,g1,g2,g3,g4,g5⟩:=hE
     rw [g1.cs_same rfl] at g5
     have hnil:a3.defers=[]:=by have:=g1.df; rw [hdf] at this; exact this
     have ea:a3={ a3 with defers:=[] }:=by rw [← hnil]
     rw [ea] at g5
     exact ⟨vv,w3,older,⟨ρ3,g1.hr,g2,g3⟩,g4,g5.trans (.one (xG3 todo.2))⟩
   | bad n=>trivial
 | exit _ _=>trivial
 | ret _=>trivial
 | panic _ _=>trivial
 | bad n=>trivial
end
end Go.Abs
end
end
