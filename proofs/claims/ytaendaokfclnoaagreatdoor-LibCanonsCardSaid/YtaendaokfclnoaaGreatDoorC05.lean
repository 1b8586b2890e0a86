/- A part of the proof that LibSwaps answers true at every input: AbsHeap, AbsOps, AbsRead, AbsRead2. -/
import Derived.Test.YtaendaokfclnoaaGreatDoorC02
import Derived.Laws.StructEq
import Derived.IntWalk
noncomputable section
section
namespace Go.Abs
variable [envI:Env]
def gV (w:World) (b:Nat) (o:Obj):World:={ w with heap:=w.heap.setIfInBounds b o }
omit envI in
theorem wT (w:World) (b i:Nat) (o:Obj) (hb:b<w.heap.size):(gV w b o).heap[i]?=if i=b then some o else w.heap[i]?:=by
  simp only [gV]
  rw [Array.getElem?_setIfInBounds]
  by_cases h:i=b
  · subst h; simp [hb]
  · rw [if_neg (fun e=>h e.symm),if_neg h]
omit envI in
theorem xIb (w:World) (b:Nat) (o:Obj):(gV w b o).heap.size=w.heap.size:=by simp [gV]
omit envI in
theorem xIa (w:World) (b:Nat) (o:Obj) (h:w.heap[b]?=some o):gV w b o=w:=by
  have hb:=lt_of_heap h
  simp only [gV]
  congr 1
  apply Array.ext_getElem?
  intro i
  rw [Array.getElem?_setIfInBounds]
  by_cases e:b=i
  · subst e; rw [if_pos rfl,if_pos hb,h]
  · rw [if_neg e]
omit envI in
theorem zFi (w:World) (b:Nat) (o o':Obj):gV (gV w b o) b o'=gV w b o':=by
  simp [gV]
def nK (w:World) (o:Obj):World:={ w with heap:=w.heap.push o }
omit envI in
theorem jJ (w:World) (o:Obj) (i:Nat):(nK w o).heap[i]?=if i=w.heap.size then some o else w.heap[i]?:=by
  simp only [nK]
  rw [Array.getElem?_push]
omit envI in
theorem vS (w:World) (o:Obj):(nK w o).heap.size=w.heap.size+1:=by simp [nK]
def FR (w:World) (ρ:Nm) (L:Nat→Prop) (fr:Tr AV) (tmps:Array Value):Prop :=
  ∀ p a,fr.get p=some a→∃ v,tmps[p.num]?=some v∧VR w ρ L a v
def xN0:Jump→Code
  | .exit i=>.exit i
  | .ret=>.ret
def stC:LState→LoopState
  | .ready=>.ready
  | .busy=>.busy
  | .done=>.done
  | .exhausted=>.exhausted
def WFm (ms:Array MapEntry) (clock:Nat):Prop:=(ms.toList.map (·.born)).Nodup∧∀ x∈ms.toList.map (·.born),x<clock
def BR (P:Program) (w:World) (ρ:Nm) (L:Nat→Prop):AB→Obj→Prop
  | .cells cs sp,o=>∃ c el lo hi,o=.cells c el (lo,hi)∧VRp w ρ L cs c.toList∧(sp=false→c.size=cs.length)∧(hi≤lo∨c.size≤lo)
  | .amap es,o=>∃ ms clock,o=.map ms clock∧VRs w ρ L (es.map (·.1)) (ms.toList.map (·.key))∧VRs w ρ L (es.map (·.2)) (ms.toList.map (·.val))∧WFm ms clock
  | .siter s pos,o=>∃ x,o=.stringIter x pos∧xP x=s
  | .miter none _ _,o=>∃ s q l,o=.mapIter none s q l
  | .miter (some m) n k,o=>∃ b since seen ms clock,ρ m=some b∧o=.mapIter (some b) since seen since∧w.heap[b]?=some (.map ms clock)∧n≤ms.size ∧
      (ms.size=n→clock=since∧seen.size=k∧seen.toList.Nodup∧∀ x∈seen.toList,x∈ms.toList.map (·.born))
  | .loop st j fn fr ps as1 bd d,o=>∃ l N,o=.loop l∧l.state=stC st∧l.pending=j.map xN0∧l.fn=fn.num∧FR w ρ L fr l.tmps∧l.params.toList=ps.map Pth.num ∧
      zK P N l.assign=as1∧zK P N l.body=bd∧N≤l.tmps.size∧(∀ p,p∈ps→p.num<N)∧ρ d=some l.defers
  | .dfr tk,o=>o=.deferred (if tk then none else some [])
def Lv (ρ:Nm) (h:H) (b:Nat):Prop:=∃ id x,h.t.get id=some x∧ρ id=some b
structure HR (P:Program) (X:Ctx) (ρ:Nm) (h:H) (w:World):Prop where
  live:∀ id x,h.t.get id=some x→∃ b o,ρ id=some b∧w.heap[b]?=some o∧BR P w ρ (Lv ρ h) x o
  inj:∀ id id' x x' b,h.t.get id=some x→h.t.get id'=some x'→ρ id=some b→ρ id'=some b→id=id'
  ro:∀ id cs,h.t.get id=none→h.ro.get id=some cs→∃ b c el fz,ρ id=some b∧NL ρ (Lv ρ h) b∧w.heap[b]?=some (.cells c el fz)∧VRp w ρ (Lv ρ h) cs c.toList
  fresh:∀ id,h.next.num≤id.num→ρ id=none
  bound:∀ id b,ρ id=some b→b<w.heap.size
  globs:∀ g cs,glA X g=some cs→NL ρ (Lv ρ h) g.num∧∃ c el fz,w.heap[g.num]?=some (.cells c el fz)∧VRp w ρ (Lv ρ h) cs c.toList
  low:∀ b,ρ.base b→b<w.heap.size
  resv:∀ id,ρ.res id→ρ id=none∧id.num<h.next.num
  disj:∀ b,ρ.base b→¬ Lv ρ h b
section
variable {P:Program} {ρ ρ':Nm} {L L':Nat→Prop} {w w':World}
theorem FR.mono (hs:Sim ρ L w ρ' L' w') (hb:∀ id b,ρ id=some b→b<w.heap.size) {fr:Tr AV} {tmps:Array Value} (h:FR w ρ L fr tmps):FR w' ρ' L' fr tmps :=
  fun p a e=>let ⟨v,h1,h2⟩:=h p a e; ⟨v,h1,h2.mono hs hb⟩
theorem FR.put {fr:Tr AV} {tmps:Array Value} (h:FR w ρ L fr tmps) {d:Pth} (hd:d.num<tmps.size) {a:AV} {v:Value} (hv:VR w ρ L a v):FR w ρ L (fr.put d a) (tmps.setIfInBounds d.num v):=by
  intro p b e
  rw [Tr.get_put] at e
  by_cases hp:p=d
  · subst hp
    simp at e; subst e
    exact ⟨v,by rw [Array.getElem?_setIfInBounds_self_of_lt hd],hv⟩
  · rw [if_neg hp] at e
    obtain ⟨u,h1,h2⟩:=h p b e
    refine ⟨u,?_,h2⟩
    rw [Array.getElem?_setIfInBounds_ne (fun e=>hp (Pth.num_inj e.symm))]
    exact h1
theorem BR.mono (hs:Sim ρ L w ρ' L' w') (hb:∀ id b,ρ id=some b→b<w.heap.size) {x:AB} {o:Obj} (h:BR P w ρ L x o):BR P w' ρ' L' x o:=by
  cases x with
  | cells cs sp =>
    obtain ⟨c,el,lo,hi,h1,h2,h3,h4⟩:=h
    exact ⟨c,el,lo,hi,h1,h2.mono hs hb,h3,h4⟩
  | amap es =>
    obtain ⟨ms,clock,h1,h2,h3⟩:=h
    exact ⟨ms,clock,h1,h2.mono hs hb,h3.1.mono hs hb,h3.2⟩
  | siter s pos=>exact h
  | miter m n k =>
    cases m with
    | none=>exact h
    | some m =>
      obtain ⟨b,since,seen,ms,clock,h1,h2,h3,h4,h5⟩:=h
      obtain ⟨ms',c',e1,e2,e3⟩:=(hs.cells b (hb _ _ h1)).2 _ h3 ms clock rfl
      refine ⟨b,since,seen,ms',c',hs.names _ _ h1,h2,e1,Nat.le_trans h4 e2,fun e => ?_⟩
      have e4:ms.size=n:=by omega
      obtain ⟨a1,a2⟩:=e3 (by omega)
      rw [a1,a2]
      exact h5 e4
  | loop st j fn fr ps as1 bd d =>
    obtain ⟨l,N,h1,h2,h3,h4,h5,h6,h7,h8,h9,h10,h11⟩:=h
    exact ⟨l,N,h1,h2,h3,h4,h5.mono hs hb,h6,h7,h8,h9,h10,hs.names _ _ h11⟩
  | dfr tk=>exact h
end
section
variable {P:Program} {X:Ctx} {ρ:Nm} {h:H} {w:World}
def extend (ρ:Nm) (id:Pth) (b:Nat):Nm:=⟨fun i=>if i=id then some b else ρ i,ρ.base,ρ.res⟩
omit envI in
theorem zW (ρ:Nm) (id:Pth) (b:Nat):extend ρ id b id=some b:=by simp [extend]
omit envI in
theorem yW (ρ:Nm) {id i:Pth} (b:Nat) (hi:i≠id):extend ρ id b i=ρ i:=by simp [extend,hi]
theorem HR.newAt (hr:HR P X ρ h w) {id:Pth} (hρ:ρ id=none) (hres:¬ ρ.res id) {x:AB} {o:Obj} {nx:Pth} (hnx:h.next.num≤nx.num) (hid:id.num<nx.num)
    (hx:∀ ρ' L' w',Sim ρ (Lv ρ h) w ρ' L' w'→BR P w' ρ' L' x o) :
    let h':H:={ h with next:=nx,t:=h.t.put id x }
    let ρ':=extend ρ id w.heap.size
    HR P X ρ' h' (nK w o)∧Sim ρ (Lv ρ h) w ρ' (Lv ρ' h') (nK w o):=by
  intro h' ρ'
  have hnames:∀ i b,ρ i=some b→ρ' i=some b:=by
    intro i b e
    have hi:i≠id:=fun hi=>by rw [hi,hρ] at e; cases e
    exact (yW ρ _ hi).trans e
  have hold:∀ i,i≠id→h'.t.get i=h.t.get i:=fun i hi=>by
    show (h.t.put id x).get i=_
    rw [Tr.get_put,if_neg hi]
  have hlvold:∀ b,b<w.heap.size→(Lv ρ' h' b↔Lv ρ h b):=by
    intro b hb
    constructor
    · rintro ⟨i,y,h1,h2⟩
      by_cases hi:i=id
      · rw [hi] at h2; rw [show ρ' id=_ from zW ρ id _] at h2
        simp at h2; omega
      · rw [hold i hi] at h1
        rw [show ρ' i=_ from yW ρ _ hi] at h2
        exact ⟨i,y,h1,h2⟩
    · rintro ⟨i,y,h1,h2⟩
      have hi:i≠id:=fun hi=>by rw [hi,hρ] at h2; cases h2
      exact ⟨i,y,(hold i hi).trans h1,hnames i b h2⟩
  have hsim:Sim ρ (Lv ρ h) w ρ' (Lv ρ' h') (nK w o):=by
    refine ⟨⟨fun _ h=>h,fun _ _ h=>h,hnames,by rw [vS]; omega,fun b hb _=>by rw [jJ,if_neg (by omega)],fun b hb => ?_,fun b hb hl=>(hlvold b hb).1 hl,rfl,rfl,rfl⟩,rfl⟩
    exact .of_eq (by rw [jJ,if_neg (by omega)])
  refine ⟨⟨?_,?_,?_,?_,?_,?_,fun b hb=>Nat.lt_of_lt_of_le (hr.low b hb) (by rw [vS]; omega),fun i hi => ?_,fun b hb hl=>hr.disj b hb ((hlvold b (hr.low b hb)).1 hl)⟩,hsim⟩
  · intro i y e
    by_cases hi:i=id
    · subst hi
      have ey:y=x:=by
        have:h'.t.get i=some x:=by show (h.t.put i x).get i=_; rw [Tr.get_put,if_pos rfl]
        rw [this] at e; exact (Option.some.inj e).symm
      subst ey
      exact ⟨w.heap.size,o,zW ρ i _,by rw [jJ,if_pos rfl],hx _ _ _ hsim⟩
    · rw [hold i hi] at e
      obtain ⟨b,o',h1,h2,h3⟩:=hr.live i y e
      have:=lt_of_heap h2
      exact ⟨b,o',hnames i b h1,by rw [jJ,if_neg (by omega)]; exact h2,h3.mono hsim hr.bound⟩
  · intro i j y z b e1 e2 e3 e4
    by_cases hi:i=id
    · by_cases hj:j=id
      · rw [hi,hj]
      · rw [hi,show ρ' id=_ from zW ρ id _] at e3
        rw [show ρ' j=_ from yW ρ _ hj] at e4
        have:=hr.bound j b e4
        simp at e3; omega
    · rw [show ρ' i=_ from yW ρ _ hi] at e3
      by_cases hj:j=id
      · rw [hj,show ρ' id=_ from zW ρ id _] at e4
        have:=hr.bound i b e3
        simp at e4; omega
      · rw [show ρ' j=_ from yW ρ _ hj] at e4
        rw [hold i hi] at e1
        rw [hold j hj] at e2
        exact hr.inj i j y z b e1 e2 e3 e4
  · intro i cs e1 e2
    have hi:i≠id:=fun hi=>by
      rw [hi] at e1
      have:h'.t.get id=some x:=by show (h.t.put id x).get id=_; rw [Tr.get_put,if_pos rfl]
      rw [this] at e1; cases e1
    rw [hold i hi] at e1
    obtain ⟨b,c,el,fz,h1,h2,h3,h4⟩:=hr.ro i cs e1 e2
    have:=lt_of_heap h3
    exact ⟨b,c,el,fz,hnames i b h1,h2.mono0 hsim.toSim0 this,by rw [jJ,if_neg (by omega)]; exact h3,h4.mono hsim hr.bound⟩
  · intro i hi
    have hi':nx.num≤i.num:=hi
    have hne:i≠id:=fun e=>by rw [e] at hi'; omega
    exact (yW ρ _ hne).trans (hr.fresh i (by omega))
  · intro i b e
    rw [vS]
    by_cases hi:i=id
    · rw [hi,show ρ' id=_ from zW ρ id _] at e; simp at e; omega
    · rw [show ρ' i=_ from yW ρ _ hi] at e
      have:=hr.bound i b e; omega
  · intro g cs e
    obtain ⟨h1,c,el,fz,h2,h3⟩:=hr.globs g cs e
    have:=lt_of_heap h2
    exact ⟨h1.mono0 hsim.toSim0 this,c,el,fz,by rw [jJ,if_neg (by omega)]; exact h2,h3.mono hsim hr.bound⟩
  · obtain ⟨h1,h2⟩:=hr.resv i hi
    have hne:i≠id:=fun e=>hres (e▸hi)
    exact ⟨(yW ρ _ hne).trans h1,Nat.lt_of_lt_of_le h2 hnx⟩
theorem HR.newB (hr:HR P X ρ h w) {x:AB} {o:Obj} (hx:∀ ρ' L' w',Sim ρ (Lv ρ h) w ρ' L' w'→BR P w' ρ' L' x o) :
    HR P X (extend ρ h.next w.heap.size) (h.newB x) (nK w o)∧Sim ρ (Lv ρ h) w (extend ρ h.next w.heap.size) (Lv (extend ρ h.next w.heap.size) (h.newB x)) (nK w o) :=
  hr.newAt (hr.fresh _ (Nat.le_refl _)) (fun e=>absurd (hr.resv _ e).2 (by omega)) (by rw [Pth.num_succ]; omega) (by rw [Pth.num_succ]; omega) hx
theorem HR.set (hr:HR P X ρ h w) {id:Pth} {x x':AB} {b:Nat} {o o':Obj} (hg:h.t.get id=some x) (hb:ρ id=some b) (ho:w.heap[b]?=some o)
    (hsz:bsz (gV w b o') b=bsz w b) (hx:∀ ρ' L' w',Sim ρ (Lv ρ h) w ρ' L' w'→BR P w' ρ' L' x' o') (hml:MLe o (some o'):=by intro _ _ e; cases e) :
    HR P X ρ (h.setB id x') (gV w b o')∧Sim ρ (Lv ρ h) w ρ (Lv ρ (h.setB id x')) (gV w b o'):=by
  have hlt:=lt_of_heap ho
  have hget:∀ i,(h.setB id x').t.get i=if i=id then some x' else h.t.get i:=fun i=>Tr.get_put _ _ _ _
  have hlv:∀ c,Lv ρ (h.setB id x') c↔Lv ρ h c:=by
    intro c
    constructor
    · rintro ⟨i,y,h1,h2⟩
      rw [hget] at h1
      by_cases hi:i=id
      · exact ⟨id,x,hg,hi▸h2⟩
      · rw [if_neg hi] at h1; exact ⟨i,y,h1,h2⟩
    · rintro ⟨i,y,h1,h2⟩
      by_cases hi:i=id
      · exact ⟨id,x',by rw [hget,if_pos rfl],hi▸h2⟩
      · exact ⟨i,y,by rw [hget,if_neg hi]; exact h1,h2⟩
  have hbl:Lv ρ h b:=⟨id,x,hg,hb⟩
  have hsim:Sim ρ (Lv ρ h) w ρ (Lv ρ (h.setB id x')) (gV w b o'):=by
    refine ⟨⟨fun _ h=>h,fun _ _ h=>h,fun _ _ e=>e,by rw [xIb]; exact Nat.le_refl _,fun c hc hl => ?_,fun c hc => ?_,fun c _ hl=>(hlv c).1 hl,rfl,rfl,rfl⟩,rfl⟩
    · rw [wT _ _ _ _ hlt,if_neg (fun e:c=b=>hl (e.symm▸hbl))]
    · by_cases e:c=b
      · subst e
        refine ⟨hsz,fun q hq => ?_⟩
        rw [wT _ _ _ _ hlt,if_pos rfl]
        rw [ho] at hq
        cases hq
        exact hml
      · exact .of_eq (by rw [wT _ _ _ _ hlt,if_neg e])
  refine ⟨⟨?_,?_,?_,?_,?_,?_,fun b hb=>by rw [xIb]; exact hr.low b hb,hr.resv,fun b hb hl=>hr.disj b hb ((hlv b).1 hl)⟩,hsim⟩
  · intro i y e
    rw [hget] at e
    by_cases hi:i=id
    · rw [if_pos hi] at e
      cases e
      exact ⟨b,o',hi▸hb,by rw [wT _ _ _ _ hlt,if_pos rfl],hx _ _ _ hsim⟩
    · rw [if_neg hi] at e
      obtain ⟨c,o'',h1,h2,h3⟩:=hr.live i y e
      have hne:c≠b:=fun ec=>hi (hr.inj i id y x b e hg (ec▸h1) hb)
      exact ⟨c,o'',h1,by rw [wT _ _ _ _ hlt,if_neg hne]; exact h2,h3.mono hsim hr.bound⟩
  · intro i j y z c e1 e2 e3 e4
    have f:∀ i y,(h.setB id x').t.get i=some y→∃ y',h.t.get i=some y':=by
      intro i y e
      rw [hget] at e
      by_cases hi:i=id
      · exact ⟨x,hi▸hg⟩
      · rw [if_neg hi] at e; exact ⟨y,e⟩
    obtain ⟨y',f1⟩:=f i y e1
    obtain ⟨z',f2⟩:=f j z e2
    exact hr.inj i j y' z' c f1 f2 e3 e4
  · intro i cs e1 e2
    rw [hget] at e1
    by_cases hi:i=id
    · rw [if_pos hi] at e1; cases e1
    · rw [if_neg hi] at e1
      obtain ⟨c,cc,el,fz,h1,h2,h3,h4⟩:=hr.ro i cs e1 e2
      have hne:c≠b:=fun ec=>h2.1 (ec▸hbl)
      exact ⟨c,cc,el,fz,h1,⟨fun hl=>h2.1 ((hlv c).1 hl),h2.2⟩,by rw [wT _ _ _ _ hlt,if_neg hne]; exact h3,h4.mono hsim hr.bound⟩
  · exact hr.fresh
  · intro i c e
    rw [xIb]; exact hr.bound i c e
  · intro g cs e
    obtain ⟨h1,c,el,fz,h2,h3⟩:=hr.globs g cs e
    have hne:g.num≠b:=fun ec=>h1.1 (ec▸hbl)
    exact ⟨⟨fun hl=>h1.1 ((hlv _).1 hl),h1.2⟩,c,el,fz,by rw [wT _ _ _ _ hlt,if_neg hne]; exact h2,h3.mono hsim hr.bound⟩
theorem HR.del (hr:HR P X ρ h w) (id:Pth) (hro:h.ro.get id=none) :
    HR P X ρ { h with t:=h.t.del id } w∧Sim ρ (Lv ρ h) w ρ (Lv ρ { h with t:=h.t.del id }) w:=by
  have hget:∀ i,({ h with t:=h.t.del id }:H).t.get i=if i=id then none else h.t.get i:=fun i=>Tr.get_del _ _ _
  have hlv:∀ c,Lv ρ { h with t:=h.t.del id } c→Lv ρ h c:=by
    rintro c ⟨i,y,h1,h2⟩
    rw [hget] at h1
    by_cases hi:i=id
    · rw [if_pos hi] at h1; cases h1
    · rw [if_neg hi] at h1; exact ⟨i,y,h1,h2⟩
  have hsim:Sim ρ (Lv ρ h) w ρ (Lv ρ { h with t:=h.t.del id }) w:=Sim.less hlv
  refine ⟨⟨?_,?_,?_,hr.fresh,hr.bound,?_,hr.low,hr.resv,fun b hb hl=>hr.disj b hb (hlv b hl)⟩,hsim⟩
  · intro i y e
    rw [hget] at e
    by_cases hi:i=id
    · rw [if_pos hi] at e; cases e
    · rw [if_neg hi] at e
      obtain ⟨c,o'',h1,h2,h3⟩:=hr.live i y e
      exact ⟨c,o'',h1,h2,h3.mono hsim hr.bound⟩
  · intro i j y z c e1 e2 e3 e4
    rw [hget] at e1 e2
    by_cases hi:i=id
    · rw [if_pos hi] at e1; cases e1
    · by_cases hj:j=id
      · rw [if_pos hj] at e2; cases e2
      · rw [if_neg hi] at e1; rw [if_neg hj] at e2
        exact hr.inj i j y z c e1 e2 e3 e4
  · intro i cs e1 e2
    rw [hget] at e1
    by_cases hi:i=id
    · rw [hi,hro] at e2; cases e2
    · rw [if_neg hi] at e1
      obtain ⟨c,cc,el,fz,h1,h2,h3,h4⟩:=hr.ro i cs e1 e2
      exact ⟨c,cc,el,fz,h1,⟨fun hl=>h2.1 (hlv c hl),h2.2⟩,h3,h4.mono hsim hr.bound⟩
  · intro g cs e
    obtain ⟨h1,c,el,fz,h2,h3⟩:=hr.globs g cs e
    exact ⟨⟨fun hl=>h1.1 (hlv _ hl),h1.2⟩,c,el,fz,h2,h3.mono hsim hr.bound⟩
theorem HR.rename (hr:HR P X ρ h w) {id:Pth} {x:AB} {b:Nat} (hg:h.t.get id=some x) (hb:ρ id=some b) (hro:h.ro.get id=none) :
    let h':H:={ h with next:=h.next.succ,t:=(h.t.del id).put h.next x }
    let ρ':=extend ρ h.next b
    HR P X ρ' h' w∧Sim ρ (Lv ρ h) w ρ' (Lv ρ' h') w:=by
  intro h' ρ'
  have hρ:ρ h.next=none:=hr.fresh _ (Nat.le_refl _)
  have hne:id≠h.next:=fun e=>by rw [e,hρ] at hb; cases hb
  have hnames:∀ i b,ρ i=some b→ρ' i=some b:=by
    intro i c e
    have hi:i≠h.next:=fun hi=>by rw [hi,hρ] at e; cases e
    exact (yW ρ _ hi).trans e
  have hget:∀ i,h'.t.get i=if i=h.next then some x else if i=id then none else h.t.get i:=by
    intro i
    show ((h.t.del id).put h.next x).get i=_
    rw [Tr.get_put,Tr.get_del]
  have hlv:∀ c,Lv ρ' h' c→Lv ρ h c:=by
    rintro c ⟨i,y,h1,h2⟩
    rw [hget] at h1
    by_cases hi:i=h.next
    · rw [hi,show ρ' h.next=_ from zW ρ _ _] at h2
      cases h2
      exact ⟨id,x,hg,hb⟩
    · rw [if_neg hi] at h1
      rw [show ρ' i=_ from yW ρ _ hi] at h2
      by_cases hi':i=id
      · rw [if_pos hi'] at h1; cases h1
      · rw [if_neg hi'] at h1; exact ⟨i,y,h1,h2⟩
  have hsim:Sim ρ (Lv ρ h) w ρ' (Lv ρ' h') w :=
    ⟨⟨fun _ h=>h,fun _ _ h=>h,hnames,Nat.le_refl _,fun _ _ _=>rfl,fun _ _=>.of_eq rfl,fun c _ hl=>hlv c hl,rfl,rfl,rfl⟩,rfl⟩
  obtain ⟨b',o,hb',ho,hx⟩:=hr.live id x hg
  have ebb:b'=b:=Option.some.inj (hb'.symm.trans hb)
  subst ebb
  refine ⟨⟨?_,?_,?_,?_,?_,?_,hr.low,fun i hi => ?_,fun b hb hl=>hr.disj b hb (hlv b hl)⟩,hsim⟩
  · intro i y e
    rw [hget] at e
    by_cases hi:i=h.next
    · rw [if_pos hi] at e; cases e
      exact ⟨b',o,hi▸zW ρ _ _,ho,hx.mono hsim hr.bound⟩
    · rw [if_neg hi] at e
      by_cases hi':i=id
      · rw [if_pos hi'] at e; cases e
      · rw [if_neg hi'] at e
        obtain ⟨c,o'',h1,h2,h3⟩:=hr.live i y e
        exact ⟨c,o'',hnames _ _ h1,h2,h3.mono hsim hr.bound⟩
  · intro i j y z c e1 e2 e3 e4
    have f:∀ i y,h'.t.get i=some y→ρ' i=some c→∃ i' y',h.t.get i'=some y'∧ρ i'=some c∧i'≠h.next∧(i=h.next∧i'=id∨i≠h.next∧i'=i∧i≠id):=by
      intro i y e1 e3
      rw [hget] at e1
      by_cases hi:i=h.next
      · rw [hi,show ρ' h.next=_ from zW ρ _ _] at e3
        cases e3
        exact ⟨id,x,hg,hb,hne,.inl ⟨hi,rfl⟩⟩
      · rw [if_neg hi] at e1
        rw [show ρ' i=_ from yW ρ _ hi] at e3
        by_cases hi':i=id
        · rw [if_pos hi'] at e1; cases e1
        · rw [if_neg hi'] at e1; exact ⟨i,y,e1,e3,hi,.inr ⟨hi,rfl,hi'⟩⟩
    obtain ⟨i',y',f1,f2,_,f4⟩:=f i y e1 e3
    obtain ⟨j',z',g1,g2,_,g4⟩:=f j z e2 e4
    have:=hr.inj i' j' y' z' c f1 g1 f2 g2
    rcases f4 with ⟨a1,a2⟩ | ⟨a1,a2,a3⟩<;>rcases g4 with ⟨c1,c2⟩ | ⟨c1,c2,c3⟩
    · rw [a1,c1]
    · exact absurd (c2.symm.trans (this.symm.trans a2)) c3
    · exact absurd (a2.symm.trans (this.trans c2)) a3
    · rw [← a2,← c2]; exact this
  · intro i cs e1 e2
    rw [hget] at e1
    by_cases hi:i=h.next
    · rw [if_pos hi] at e1; cases e1
    · rw [if_neg hi] at e1
      by_cases hi':i=id
      · rw [hi',show h'.ro=h.ro from rfl,hro] at e2; cases e2
      · rw [if_neg hi'] at e1
        obtain ⟨c,cc,el,fz,h1,h2,h3,h4⟩:=hr.ro i cs e1 e2
        exact ⟨c,cc,el,fz,hnames _ _ h1,⟨fun hl=>h2.1 (hlv c hl),h2.2⟩,h3,h4.mono hsim hr.bound⟩
  · intro i hi
    have hi':h.next.succ.num≤i.num:=hi
    rw [Pth.num_succ] at hi'
    have:i≠h.next:=fun e=>by rw [e] at hi'; omega
    exact (yW ρ _ this).trans (hr.fresh i (by omega))
  · intro i c e
    by_cases hi:i=h.next
    · rw [hi,show ρ' h.next=_ from zW ρ _ _] at e
      cases e
      exact hr.bound _ _ hb
    · rw [show ρ' i=_ from yW ρ _ hi] at e
      exact hr.bound i c e
  · intro g cs e
    obtain ⟨h1,c,el,fz,h2,h3⟩:=hr.globs g cs e
    exact ⟨⟨fun hl=>h1.1 (hlv _ hl),h1.2⟩,c,el,fz,h2,h3.mono hsim hr.bound⟩
  · obtain ⟨h1,h2⟩:=hr.resv i hi
    have hne:i≠h.next:=fun e=>by rw [e] at h2; omega
    exact ⟨(yW ρ _ hne).trans h1,Nat.lt_of_lt_of_le h2 (by show _≤h.next.succ.num; rw [Pth.num_succ]; omega)⟩
theorem HR.skip (hr:HR P X ρ h w) {nx:Pth} (hnx:h.next.num≤nx.num):HR P X ρ { h with next:=nx } w :=
  ⟨hr.live,hr.inj,hr.ro,fun i hi=>hr.fresh i (Nat.le_trans hnx hi),hr.bound,hr.globs,hr.low,fun i hi=>⟨(hr.resv i hi).1,Nat.lt_of_lt_of_le (hr.resv i hi).2 hnx⟩,hr.disj⟩
theorem HR.drawn (hr:HR P X ρ h w) (n:Nat):HR P X ρ h { w with drawn:=n }∧Sim ρ (Lv ρ h) w ρ (Lv ρ h) { w with drawn:=n }:=by
  have hsim:Sim ρ (Lv ρ h) w ρ (Lv ρ h) { w with drawn:=n }:=⟨⟨fun _ h=>h,fun _ _ h=>h,fun _ _ e=>e,Nat.le_refl _,fun _ _ _=>rfl,fun _ _=>.of_eq rfl,fun _ _ e=>e,rfl,rfl,rfl⟩,rfl⟩
  refine ⟨⟨?_,hr.inj,?_,hr.fresh,hr.bound,?_,hr.low,hr.resv,hr.disj⟩,hsim⟩
  · intro i y e
    obtain ⟨b,o,h1,h2,h3⟩:=hr.live i y e
    exact ⟨b,o,h1,h2,h3.mono hsim hr.bound⟩
  · intro i cs e1 e2
    obtain ⟨b,c,el,fz,h1,h2,h3,h4⟩:=hr.ro i cs e1 e2
    exact ⟨b,c,el,fz,h1,h2,h3,h4.mono hsim hr.bound⟩
  · intro g cs e
    obtain ⟨h1,c,el,fz,h2,h3⟩:=hr.globs g cs e
    exact ⟨h1,c,el,fz,h2,h3.mono hsim hr.bound⟩
theorem HR.cellsAt (hr:HR P X ρ h w) {id:Pth} {cs:List AV} (e:h.cellsAt id=some cs) {b:Nat} (hb:ρ id=some b) :
    ∃ c el fz,w.heap[b]?=some (.cells c el fz)∧VRp w ρ (Lv ρ h) cs c.toList:=by
  unfold H.cellsAt at e
  cases hg:h.t.get id with
  | some x =>
    rw [hg] at e
    cases x with
    | cells cs' sp =>
      simp at e; subst e
      obtain ⟨b',o,h1,h2,c,el,lo,hi,rfl,h4,_⟩:=hr.live id _ hg
      cases hb.symm.trans h1
      exact ⟨c,el,_,h2,h4⟩
    | _=>simp at e
  | none =>
    rw [hg] at e
    obtain ⟨b',c,el,fz,h1,_,h3,h4⟩:=hr.ro id cs hg e
    cases hb.symm.trans h1
    exact ⟨c,el,fz,h3,h4⟩
end
end Go.Abs
end
section
namespace Go.Abs
variable [envI:Env]
section
variable {P:Program}
omit envI in
theorem info_of_underlying {t:TypeId} {d:TypeDesc} (h:P.underlying t=some d):∃ i,P.info? t=some i:=by
  unfold Program.underlying at h
  cases e:P.info? t with
  | some i=>exact ⟨i,rfl⟩
  | none=>rw [e] at h; cases h
omit envI in
theorem yY {t:TypeId} {d:TypeDesc} (h:P.underlying t=some d) (w:World):(sizeOf t).run P w=.ok (P.cellsOf t) w:=by
  obtain ⟨i,hi⟩:=info_of_underlying h
  simp [sizeOf,typeInfo,hi,Program.cellsOf]
omit envI in
theorem dH {t:TypeId} {i:TypeInfo} (h:P.info? t=some i) (w:World):(typeInfo t).run P w=.ok i w:=by
  simp [typeInfo,h]
omit envI in
theorem kS {t:TypeId} {n:Option Nat} (h:mX P t=some n):∃ d,P.underlying t=some d∧(∀ w,(isAgg t).run P w=.ok n.isSome w)∧(∀ m,n=some m→m=P.cellsOf t):=by
  unfold mX at h
  cases e:P.underlying t with
  | none=>rw [e] at h; cases h
  | some d =>
    rw [e] at h
    refine ⟨d,rfl,fun w => ?_,?_⟩
    · unfold isAgg
      rw [Sem.run_bind,run_underlying e w]
      cases d<;>simp at h<;>subst h<;>rfl
    · intro m hm
      cases d<;>simp at h<;>subst h<;>simp at hm<;>exact hm.symm
omit envI in
theorem xR8 (w:World) (b i:Nat) (c:Array Value) (el:TypeId) (fz:Nat×Nat) (h:w.heap[b]?=some (.cells c el fz)):w.cell? ⟨b,i,none⟩=c[i]?:=cell_of_row w b i c el fz h
omit envI in
theorem add_plain (b off n:Nat):(⟨b,off,none⟩:Addr).add n=⟨b,off+n,none⟩:=by
  unfold Addr.add; split
  · rename_i h; subst h; rfl
  · rfl
omit envI in
theorem jR {w:World} {b off n:Nat} {c:Array Value} {el:TypeId} {fz:Nat×Nat} (h:w.heap[b]?=some (.cells c el fz)) (hle:off+n≤c.toList.length) :
    (loadCells ⟨b,off,none⟩ n).run P w=.ok ((c.toList.drop off).take n).toArray w:=by
  have hlen:((c.toList.drop off).take n).length=n:=by simp at hle ⊢; omega
  have := run_loadCells_list (P:=P) w ⟨b,off,none⟩ ((c.toList.drop off).take n) (fun j v hv=>by
    rw [add_plain,xR8 w b _ c el fz h]
    have hj:j<n:=by
      rcases Nat.lt_or_ge j n with h' | h'
      · exact h'
      · rw [List.getElem?_eq_none (by omega)] at hv; cases hv
    rw [List.getElem?_take_of_lt hj,List.getElem?_drop] at hv
    simpa using hv)
  rw [hlen] at this
  exact this
omit envI in
omit envI in
def xBi (vs:List Value) (off:Nat):Option Nat→Option Value
  | some n=>if off+n≤vs.length∨n=0 then some (.agg ((vs.drop off).take n).toArray) else none
  | none=>vs[off]?
theorem xD1 {w:World} {ρ:Nm} {L:Nat→Prop} {cs:List AV} {off:Nat} {n:Option Nat} {a:AV} {vs:List Value} (h:wR cs off n=some a) (hv:VRp w ρ L cs vs) :
    ∃ v,xBi vs off n=some v∧VR w ρ L a v:=by
  cases n with
  | some n =>
    simp only [wR,Option.map_eq_some_iff] at h
    obtain ⟨l,hl,rfl⟩:=h
    obtain ⟨h1,h2,h3⟩:=bA hl hv
    refine ⟨_,if_pos ?_,?_⟩
    · rcases h2 with h2 | h2
      · exact .inr h2
      · exact .inl h2
    · simp only [VR]
      exact ⟨_,rfl,by simpa using h3⟩
  | none =>
    simp only [wR] at h
    cases hl:takeD cs off 1 with
    | none=>rw [hl] at h; simp at h
    | some l =>
      rw [hl] at h
      obtain ⟨h1,h2,h3⟩:=bA hl hv
      match l,h with
      | [b],h =>
        simp at h; subst h
        simp only [VRs] at h3
        obtain ⟨v,vs',e1,e2,e3⟩:=h3
        refine ⟨v,?_,e2⟩
        simp only [xBi]
        have:((vs.drop off).take 1)[0]?=some v:=by rw [e1]; rfl
        rw [List.getElem?_take_of_lt (by omega),List.getElem?_drop] at this
        simpa using this
omit envI in
theorem xCc {w:World} {b off:Nat} {c:Array Value} {el:TypeId} {fz:Nat×Nat} {t:TypeId} {n:Option Nat} {v:Value} (hn:mX P t=some n)
    (h:w.heap[b]?=some (.cells c el fz)) (hv:xBi c.toList off n=some v):(loadVar t ⟨b,off,none⟩).run P w=.ok v w:=by
  obtain ⟨d,hu,hagg,hm⟩:=kS hn
  unfold loadVar
  rw [Sem.run_bind,hagg w]
  cases n with
  | none =>
    simp only [Option.isSome_none,Result.andThen_ok,Bool.false_eq_true,if_false]
    rw [run_load,xR8 w b off c el fz h]
    simp only [xBi] at hv
    rw [← Array.getElem?_toList,hv]
  | some m =>
    simp only [Option.isSome_some,Result.andThen_ok,if_true]
    simp only [xBi] at hv
    rw [Sem.run_bind,yY hu w,← hm m rfl]
    simp only [Result.andThen_ok]
    rw [Sem.run_bind]
    by_cases hle:off+m≤c.toList.length∨m=0
    · rw [if_pos hle] at hv
      rcases hle with hle | h0
      · rw [jR h hle]
        simp only [Result.andThen_ok,Sem.run_pure]
        cases hv; rfl
      · subst h0
        simp only [loadCells,loadCellsFrom,Sem.run_pure,Result.andThen_ok]
        cases hv; simp
    · rw [if_neg hle] at hv; cases hv
omit envI in
theorem xGp {t:TypeId} {n:Option Nat} {cs:Array Value} {off:Nat} {v:Value} (hn:mX P t=some n) (hv:xBi cs.toList off n=some v) (w:World) :
    (part t cs off).run P w=.ok v w:=by
  obtain ⟨d,hu,hagg,hm⟩:=kS hn
  unfold part
  rw [Sem.run_bind,hagg w]
  cases n with
  | none =>
    simp only [Option.isSome_none,Result.andThen_ok,Bool.false_eq_true,if_false]
    simp only [xBi] at hv
    rw [Array.getElem?_toList] at hv
    rw [hv]; rfl
  | some m =>
    simp only [Option.isSome_some,Result.andThen_ok,if_true]
    rw [Sem.run_bind,yY hu w,← hm m rfl]
    simp only [Result.andThen_ok,Sem.run_pure]
    simp only [xBi] at hv
    split at hv
    · cases hv
      congr 2
      apply Array.ext'
      simp [Array.toList_extract,List.extract]
    · cases hv
theorem xQi {w:World} {ρ:Nm} {L:Nat→Prop}:∀ (d:Nat) (v:Value) (a:AV),xG9 d v=some a→VR w ρ L a v:=by
  intro d
  induction d with
  | zero =>
    intro v a h
    unfold xG9 at h
    split at h<;>first
      | contradiction
      | (cases h; simp [VR,xP]; done)
      | (cases h; done)
      | (split at h
         · rename_i f x y hxy
           cases h
           simp only [VR,VRs,mW]
           simp only [Bool.and_eq_true,beq_iff_eq,Array.size_eq_zero_iff] at hxy
           exact ⟨x,y,rfl,by simp [hxy.1],by simp [hxy.2]⟩
         · cases h)
  | succ d ih =>
    have hl:∀ (l:List Value) (as1:List AV),l.mapM (xG9 d)=some as1→VRs w ρ L as1 l:=by
      intro l
      induction l with
      | nil=>intro as1 h; simp at h; subst h; simp [VRs]
      | cons x l ihl =>
        intro as1 h
        simp only [List.mapM_cons,Option.bind_eq_bind,Option.bind_eq_some_iff,Option.pure_def,Option.some.injEq] at h
        obtain ⟨a,h1,as',h2,rfl⟩:=h
        simp only [VRs]
        exact ⟨x,l,rfl,ih x a h1,ihl as' h2⟩
    intro v a h
    unfold xG9 at h
    split at h<;>first
      | (cases h; simp [VR,xP]; done)
      | (cases h; done)
      | (simp only [Option.map_eq_some_iff] at h
         obtain ⟨as1,h1,rfl⟩:=h
         simp only [VR]
         first
           | exact ⟨_,rfl,hl _ _ (by simpa using h1)⟩
           | (rename_i e; cases e; exact ⟨_,rfl,hl _ _ (by simpa using h1)⟩)
           | (rename_i e; cases e; exact ⟨_,rfl,ih _ _ h1⟩)
           | exact ⟨_,rfl,ih _ _ h1⟩)
      | (split at h
         · rename_i f x y hxy
           cases h
           simp only [VR,VRs,mW]
           simp only [Bool.and_eq_true,beq_iff_eq,Array.size_eq_zero_iff] at hxy
           exact ⟨x,y,rfl,by simp [hxy.1],by simp [hxy.2]⟩
         · cases h)
theorem zC {X:Ctx} {ρ:Nm} {h:H} {w:World} (hr:HR P X ρ h w) {fr:Tr AV} {a:Act} (hf:FR w ρ (Lv ρ h) fr a.tmps) {x:Operand} {o:Opd} {v:AV}
    (ho:opd x=some o) (he:xZ X fr o=some v):VR w ρ (Lv ρ h) v (a.eval x):=by
  cases x with
  | tmp t =>
    simp only [opd,Option.some.injEq] at ho; subst ho
    obtain ⟨u,h1,h2⟩:=hf _ _ he
    rw [mW] at h1
    simp only [Act.eval,Array.getD_eq_getD_getElem?,h1]
    exact h2
  | const c =>
    simp only [opd,Option.map_eq_some_iff] at ho
    obtain ⟨b,h1,rfl⟩:=ho
    simp only [xZ,Option.some.injEq] at he; subst he
    exact xQi _ _ _ h1
  | global g =>
    simp only [opd,Option.some.injEq] at ho; subst ho
    simp only [xZ,Option.map_eq_some_iff] at he
    obtain ⟨cs,h1,rfl⟩:=he
    obtain ⟨h2,c,el,fz,h3,h4⟩:=hr.globs _ _ h1
    rw [mW] at h2 h3
    simp only [VR,Act.eval]
    exact ⟨g,0,c,el,fz,rfl,h2,h3,by simpa using h4⟩
  | func f =>
    simp only [opd,Option.some.injEq] at ho; subst ho
    simp only [xZ,Option.some.injEq] at he; subst he
    simp only [VR,VRs,Act.eval,mW]
    exact ⟨#[],#[],rfl,rfl,rfl⟩
theorem pH {X:Ctx} {ρ:Nm} {h:H} {w:World} (hr:HR P X ρ h w) {fr:Tr AV} {a:Act} (hf:FR w ρ (Lv ρ h) fr a.tmps):∀ {xs:List Operand} {os:List Opd} {vs:List AV},
    xs.mapM opd=some os→xE X fr os=some vs→VRs w ρ (Lv ρ h) vs (xs.map a.eval)
  | [],os,vs,ho,he=>by
    simp at ho; subst ho
    simp [xE] at he; subst he
    simp [VRs]
  | x :: xs,os,vs,ho,he=>by
    simp only [List.mapM_cons,Option.bind_eq_bind,Option.bind_eq_some_iff,Option.pure_def,Option.some.injEq] at ho
    obtain ⟨o,h1,os',h2,rfl⟩:=ho
    simp only [xE] at he
    cases e1:xZ X fr o with
    | none=>rw [e1] at he; simp at he
    | some v =>
      rw [e1] at he
      cases e2:xE X fr os' with
      | none=>rw [e2] at he; simp at he
      | some vs' =>
        rw [e2] at he
        simp at he; subst he
        simp only [VRs,List.map_cons]
        exact ⟨_,_,rfl,zC hr hf h1 e1,pH hr hf h2 e2⟩
end
end Go.Abs
end
section
namespace Go.Abs
variable [envI:Env]
section
variable {P:Program} {X:Ctx} {ρ:Nm} {h:H} {w:World}
theorem gA {b:Bool} {v:Value} {L:Nat→Prop} (hv:VR w ρ L (.bool b) v):v=.bool b:=by simpa only [VR] using hv
theorem int_of {k:IntKind} {n:Int} {v:Value} {L:Nat→Prop} (hv:VR w ρ L (.int k n) v):v=.int k n:=by simpa only [VR] using hv
omit envI in
theorem kE:∀ {a b:Int},eqI a b=(a==b)
  | .ofNat a,.ofNat b=>by
    rw [Bool.eq_iff_iff]; simp [eqI]; omega
  | .negSucc a,.negSucc b=>by
    rw [Bool.eq_iff_iff]; simp [eqI]
  | .ofNat a,.negSucc b=>by rw [Bool.eq_iff_iff]; simp [eqI]
  | .negSucc a,.ofNat b=>by rw [Bool.eq_iff_iff]; simp [eqI]
omit envI in
theorem kH:∀ {a b:Int},ltI a b=decide (a<b)
  | .ofNat a,.ofNat b=>by rw [Bool.eq_iff_iff]; simp [ltI,Nat.blt_eq]
  | .negSucc a,.negSucc b=>by rw [Bool.eq_iff_iff]; simp [ltI,Nat.blt_eq]; omega
  | .ofNat a,.negSucc b=>by rw [Bool.eq_iff_iff]; simp [ltI]; omega
  | .negSucc a,.ofNat b=>by rw [Bool.eq_iff_iff]; simp [ltI]; omega
omit envI in
theorem nP:∀ {a b:Int},leI a b=decide (a≤b)
  | .ofNat a,.ofNat b=>by rw [Bool.eq_iff_iff]; simp [leI]
  | .negSucc a,.negSucc b=>by rw [Bool.eq_iff_iff]; simp [leI]; omega
  | .ofNat a,.negSucc b=>by rw [Bool.eq_iff_iff]; simp [leI]; omega
  | .negSucc a,.ofNat b=>by rw [Bool.eq_iff_iff]; simp [leI]; omega
omit envI in
theorem wP {j k:IntKind}:eqK j k=true↔j=k:=by
  cases j<;>cases k<;>simp [eqK,xT]
omit envI in
theorem xEa {m n:Nat} (hb:Nat.blt m n=true):m<n:=Nat.le_of_ble_eq_true hb
omit envI in
theorem zTv (k:IntKind) (m:Nat) (hm:m<xWa k):k.wrap (m:Int)=(m:Int):=by
  cases k<;>simp only [xWa] at hm
  · exact IntWalk.i8_in _ ⟨by omega,by omega⟩
  · exact IntWalk.i16_in _ ⟨by omega,by omega⟩
  · exact IntWalk.i32_in _ ⟨by omega,by omega⟩
  · exact IntWalk.i64_in _ ⟨by omega,by omega⟩
  · exact IntWalk.u8_in _ ⟨by omega,by omega⟩
  · exact IntWalk.u16_in _ ⟨by omega,by omega⟩
  · exact IntWalk.u32_in _ ⟨by omega,by omega⟩
  · exact IntWalk.u64_in _ ⟨by omega,by omega⟩
omit envI in
theorem xAf {k:IntKind} {n:Int} {b:Bool} (hb:b=true→k.wrap n=n):cond b n (k.wrap n)=k.wrap n:=by
  cases b with
  | false=>rfl
  | true=>exact (hb rfl).symm
omit envI in
theorem zFr (m:Nat) (hm:m<128):IntKind.i8.wrap (Int.negSucc m)=Int.negSucc m:=IntWalk.i8_in (Int.negSucc m) ⟨by omega,by omega⟩
omit envI in
theorem xYg (m:Nat) (hm:m<32768):IntKind.i16.wrap (Int.negSucc m)=Int.negSucc m:=IntWalk.i16_in (Int.negSucc m) ⟨by omega,by omega⟩
omit envI in
theorem xYh (m:Nat) (hm:m<2147483648):IntKind.i32.wrap (Int.negSucc m)=Int.negSucc m:=IntWalk.i32_in (Int.negSucc m) ⟨by omega,by omega⟩
omit envI in
theorem xYi (m:Nat) (hm:m<9223372036854775808):IntKind.i64.wrap (Int.negSucc m)=Int.negSucc m:=IntWalk.i64_in (Int.negSucc m) ⟨by omega,by omega⟩
omit envI in
theorem jK (k:IntKind):∀ n:Int,zU k n=k.wrap n
  | .ofNat m=>xAf fun hb=>zTv k m (xEa hb)
  | .negSucc m=>match k with
    | .i8=>xAf fun hb=>zFr m (xEa hb)
    | .i16=>xAf fun hb=>xYg m (xEa hb)
    | .i32=>xAf fun hb=>xYh m (xEa hb)
    | .i64=>xAf fun hb=>xYi m (xEa hb)
    | .u8=>rfl
    | .u16=>rfl
    | .u32=>rfl
    | .u64=>rfl
omit envI in
theorem qC:∀ {a b:List Nat},eqS a b=true↔a=b
  | [],[]=>by simp [eqS]
  | [],_::_=>by simp [eqS]
  | _::_,[]=>by simp [eqS]
  | a :: x,b::y=>by
    simp only [eqS,List.cons.injEq]
    cases hb:Nat.beq a b with
    | true =>
      have:=Nat.eq_of_beq_eq_true hb
      simp [qC (a:=x) (b:=y),this]
    | false =>
      have:a≠b:=fun e=>by subst e; simp at hb
      simp [this]
omit envI in
theorem xWp {x y:ByteArray} (h:xP x=xP y):x=y:=by
  obtain ⟨⟨x⟩⟩:=x
  obtain ⟨⟨y⟩⟩:=y
  simp only [xP] at h
  have : x=y:=by
    induction x generalizing y with
    | nil=>cases y<;>simp at h ⊢
    | cons a x ih =>
      cases y with
      | nil=>simp at h
      | cons b y =>
        simp only [List.map_cons,List.cons.injEq] at h
        have:=ih y h.2
        rw [this,UInt8.toNat_inj.1 h.1]
  rw [this]
omit envI in
theorem qJ (x y:ByteArray):eqS (xP x) (xP y)=(x.toList==y.toList):=by
  rw [← beq_toListBytes,Bool.eq_iff_iff,qC]
  constructor
  · intro e; rw [xWp e,beq_toListBytes]; simp
  · intro e
    rw [beq_toListBytes] at e
    have:x.toList=y.toList:=by simpa using e
    rw [ByteArray.toList_eq,ByteArray.toList_eq] at this
    simp only [xP]; rw [this]
omit envI in
theorem xLm:∀ (x y:List UInt8),xY (x.map (·.toNat)) (y.map (·.toNat))=Op.bytesLess x y
  | _,[]=>by simp [xY,Op.bytesLess]
  | [],_::_=>by simp [xY,Op.bytesLess]
  | a :: x,b::y=>by
    simp only [List.map_cons,xY,Op.bytesLess,xLm x y]
    congr 1
    · rw [Bool.eq_iff_iff,Nat.blt_eq]; simp [UInt8.lt_iff_toNat_lt]
    · congr 1
      rw [Bool.eq_iff_iff]
      constructor
      · intro e; have:=Nat.eq_of_beq_eq_true e; simpa using UInt8.toNat_inj.1 this
      · intro e; have:a=b:=by simpa using e
        subst this; simp
omit envI in
theorem wE (x y:ByteArray):xY (xP x) (xP y)=Op.bytesLess x.toList y.toList:=by
  rw [ByteArray.toList_eq,ByteArray.toList_eq]
  exact xLm _ _
omit envI in
theorem xOv (x y:ByteArray):xP (x++y)=xP x++xP y:=by
  simp [xP]
omit envI in
theorem gB (x:ByteArray):(xP x).length=x.size:=by
  simp [xP]
theorem xQo {t:TypeId} {n:Option Nat} (hn:mX P t=some n) (hr:HR P X ρ h w) {a r:AV} {x:Value} (hx:VR w ρ (Lv ρ h) a x) (e:vJ h n a=some r) :
    ∃ v,(Instr.loadAt t x).run P w=.ok v w∧VR w ρ (Lv ρ h) r v:=by
  cases a<;>simp only [vJ] at e<;>first | (cases e; done) | skip
  case ptr id off =>
    simp only [VR] at hx
    obtain ⟨b,hb,rfl⟩:=hx
    cases hc:h.cellsAt id with
    | none=>rw [hc] at e; cases e
    | some cs =>
      rw [hc] at e
      obtain ⟨c,el,fz,h1,h2⟩:=hr.cellsAt hc hb
      obtain ⟨v,h3,h4⟩:=xD1 e h2
      refine ⟨v,?_,h4⟩
      simp only [Instr.loadAt,Instr.sureAddr,Sem.run_bind,Sem.run_pure,Result.andThen_ok]
      exact xCc hn h1 h3
  case rptr cs =>
    simp only [VR] at hx
    obtain ⟨b,off,c,el,fz,rfl,_,h1,h2⟩:=hx
    obtain ⟨v,h3,h4⟩:=xD1 e h2
    refine ⟨v,?_,h4⟩
    simp only [Instr.loadAt,Instr.sureAddr,Sem.run_bind,Sem.run_pure,Result.andThen_ok]
    refine xCc hn h1 ?_
    cases n with
    | none=>simp only [xBi,List.getElem?_drop,Nat.add_zero] at h3 ⊢; exact h3
    | some m =>
      simp only [xBi,List.drop_zero,Nat.zero_add,List.length_drop] at h3 ⊢
      split at h3
      · rename_i hle
        cases h3
        rw [if_pos]
        rcases hle with hle | h0
        · by_cases hm:m=0
          · exact .inr hm
          · left; omega
        · exact .inr h0
      · cases h3
theorem xNx {s:TypeId} {fs:Array Field} {f:Nat} {fl:Field} (hs:P.underlying s=some (.struct fs)) (hf:fs[f]?=some fl) (hz:P.cellsOf fl.type≠0)
    {n:Option Nat} (hn:mX P fl.type=some n) {a r:AV} {x:Value} (hx:VR w ρ (Lv ρ h) a x) (e:xM h (.fieldAddr fl.offset) [a]=some r) :
    ∃ v,(Instr.fieldAt s x f).run P w=.ok v w∧VR w ρ (Lv ρ h) r v:=by
  obtain ⟨d,hu,_,_⟩:=kS hn
  have run:∀ b off,(Instr.fieldAt s (.pointer (some ⟨b,off,none⟩)) f).run P w=.ok (.pointer (some ⟨b,off+fl.offset,none⟩)) w:=by
    intro b off
    simp only [Instr.fieldAt,Sem.run_bind,run_underlying hs w,Result.andThen_ok,hf,Instr.sureAddr,Sem.run_pure,fieldPlace,yY hu w,if_neg hz,add_plain]
  cases a<;>simp only [xM] at e<;>first | (cases e; done) | skip
  case ptr id off =>
    cases e
    simp only [VR] at hx
    obtain ⟨b,hb,rfl⟩:=hx
    exact ⟨_,run b off,by simp only [VR]; exact ⟨b,hb,rfl⟩⟩
  case rptr cs =>
    cases hb:Nat.ble fl.offset cs.length with
    | false=>rw [hb] at e; cases e
    | true =>
      rw [hb] at e
      cases e
      simp only [VR] at hx
      obtain ⟨b,off,c,el,fz,rfl,h0,h1,h2⟩:=hx
      refine ⟨_,run b off,?_⟩
      simp only [VR]
      refine ⟨b,off+fl.offset,c,el,fz,rfl,h0,h1,?_⟩
      have:=h2.drop fl.offset
      rwa [List.drop_drop] at this
theorem xY1 {s:TypeId} {fs:Array Field} {f:Nat} {fl:Field} (hs:P.underlying s=some (.struct fs)) (hf:fs[f]?=some fl)
    {n:Option Nat} (hn:mX P fl.type=some n) {a r:AV} {x:Value} (hx:VR w ρ (Lv ρ h) a x) (e:xM h (.field fl.offset n) [a]=some r) :
    ∃ v,(Instr.field s x f).run P w=.ok v w∧VR w ρ (Lv ρ h) r v:=by
  cases a<;>simp only [xM] at e<;>first | (cases e; done) | skip
  case agg cs =>
    simp only [VR] at hx
    obtain ⟨y,rfl,h2⟩:=hx
    obtain ⟨v,h3,h4⟩:=xD1 e h2.toP
    refine ⟨v,?_,h4⟩
    simp only [Instr.field,Sem.run_bind,run_underlying hs w,Result.andThen_ok,hf,asAgg,Sem.run_pure]
    exact xGp hn h3 w
omit envI in
theorem gQ {a b:Int} (e:ltI a b=true):a<b:=by rw [kH] at e; simpa using e
omit envI in
theorem pC {a b:Int} (e:leI a b=true):a≤b:=by rw [nP] at e; simpa using e
theorem xP7 {t el:TypeId} (ht:P.underlying t=some (.slice el)) {n:Option Nat} (hn:mX P el=some n) {a i r:AV} {x y:Value} (hx:VR w ρ (Lv ρ h) a x) (hy:VR w ρ (Lv ρ h) i y)
    (e:zF (.slc (P.cellsOf el)) a i=some r):∃ v,(Instr.indexAt t x y).run P w=.ok v w∧VR w ρ (Lv ρ h) r v:=by
  obtain ⟨d,hu,_,_⟩:=kS hn
  have run:∀ b off (len:Nat) c k (m:Int),0≤m→m<(len:Int)→(Instr.indexAt t (.slice (some ⟨b,off,none⟩) len c) (.int k m)).run P w=.ok (.pointer (some ⟨b,off+m.toNat*P.cellsOf el,none⟩)) w:=by
    intro b off len c k m h1 h2
    have h12:0≤m∧m<(len:Int):=⟨h1,h2⟩
    simp [Instr.indexAt,asIntOf,run_underlying ht w,yY hu w,h12,add_plain]
  cases a<;>cases i<;>simp only [zF] at e<;>first | (cases e; done) | skip
  case slc.int id off len sz cap k m =>
    simp only [VR] at hx
    obtain ⟨b,c,hb,rfl,_,_⟩:=hx
    rw [int_of hy]
    cases hc:(Nat.beq (P.cellsOf el) sz&&leI 0 m&&ltI m (.ofNat len)) with
    | false=>rw [hc] at e; cases e
    | true =>
      rw [hc] at e; cases e
      simp only [Bool.and_eq_true] at hc
      have e1:=Nat.eq_of_beq_eq_true hc.1.1
      refine ⟨_,run b off len c k m (pC hc.1.2) (gQ hc.2),?_⟩
      simp only [VR]
      exact ⟨b,hb,by rw [e1]⟩
  case rslc.int len cs k m =>
    simp only [VR] at hx
    obtain ⟨ad,c,rfl,_,hcs⟩:=hx
    rw [int_of hy]
    cases hc:(leI 0 m&&ltI m (.ofNat len)) with
    | false=>rw [hc] at e; cases e
    | true =>
      rw [hc] at e
      simp only [cond_true] at e
      simp only [Bool.and_eq_true] at hc
      rcases hcs with ⟨rfl,_⟩ | ⟨b,off,cc,el',fz,rfl,h0,h1,h2⟩
      · simp at e
      · cases hq:cs with
        | nil=>rw [hq] at e; simp at e
        | cons q qs =>
          rw [hq] at e
          simp only [Option.some.injEq] at e
          subst e
          rw [← hq]
          refine ⟨_,run b off len c k m (pC hc.1) (gQ hc.2),?_⟩
          simp only [VR]
          refine ⟨b,off+m.toNat*P.cellsOf el,cc,el',fz,rfl,h0,h1,?_⟩
          have:=h2.drop (m.toNat*P.cellsOf el)
          rwa [List.drop_drop] at this
theorem xP6 {t el:TypeId} {len:Nat} (ht:P.underlying t=some (.array len el)) {n:Option Nat} (hn:mX P el=some n) {a i r:AV} {x y:Value} (hx:VR w ρ (Lv ρ h) a x) (hy:VR w ρ (Lv ρ h) i y)
    (e:zF (.arr len (P.cellsOf el)) a i=some r):∃ v,(Instr.indexAt t x y).run P w=.ok v w∧VR w ρ (Lv ρ h) r v:=by
  obtain ⟨d,hu,_,_⟩:=kS hn
  have run:∀ b off k (m:Int),0≤m→m<(len:Int)→(Instr.indexAt t (.pointer (some ⟨b,off,none⟩)) (.int k m)).run P w=.ok (.pointer (some ⟨b,off+m.toNat*P.cellsOf el,none⟩)) w:=by
    intro b off k m h1 h2
    have h12:0≤m∧m<(len:Int):=⟨h1,h2⟩
    simp [Instr.indexAt,asIntOf,run_underlying ht w,yY hu w,h12,add_plain,Instr.sureAddr]
  cases a<;>cases i<;>simp only [zF] at e<;>first | (cases e; done) | skip
  case ptr.int id off k m =>
    simp only [VR] at hx
    obtain ⟨b,hb,rfl⟩:=hx
    rw [int_of hy]
    cases hc:(leI 0 m&&ltI m (.ofNat len)) with
    | false=>rw [hc] at e; cases e
    | true =>
      rw [hc] at e; cases e
      simp only [Bool.and_eq_true] at hc
      refine ⟨_,run b off k m (pC hc.1) (gQ hc.2),?_⟩
      simp only [VR]
      exact ⟨b,hb,rfl⟩
  case rptr.int cs k m =>
    simp only [VR] at hx
    obtain ⟨b,off,c,el',fz,rfl,h0,h1,h2⟩:=hx
    rw [int_of hy]
    cases hc:(leI 0 m&&ltI m (.ofNat len)) with
    | false=>rw [hc] at e; cases e
    | true =>
      rw [hc] at e; cases e
      simp only [Bool.and_eq_true] at hc
      refine ⟨_,run b off k m (pC hc.1) (gQ hc.2),?_⟩
      simp only [VR]
      refine ⟨b,off+m.toNat*P.cellsOf el,c,el',fz,rfl,h0,h1,?_⟩
      have:=h2.drop (m.toNat*P.cellsOf el)
      rwa [List.drop_drop] at this
theorem xP5 {t el:TypeId} {len:Nat} (ht:P.underlying t=some (.array len el)) {n:Option Nat} (hn:mX P el=some n) {a i r:AV} {x y:Value} (hx:VR w ρ (Lv ρ h) a x) (hy:VR w ρ (Lv ρ h) i y)
    (e:xM h (.indexArr len (P.cellsOf el) n) [a,i]=some r):∃ v,(Instr.index t x y).run P w=.ok v w∧VR w ρ (Lv ρ h) r v:=by
  obtain ⟨d,hu,_,_⟩:=kS hn
  cases a<;>cases i<;>simp only [xM] at e<;>first | (cases e; done) | skip
  case agg.int cs k m =>
    simp only [VR] at hx
    obtain ⟨z,rfl,h2⟩:=hx
    rw [int_of hy]
    cases hc:(leI 0 m&&ltI m (.ofNat len)) with
    | false=>rw [hc] at e; cases e
    | true =>
      rw [hc] at e
      simp only [cond_true] at e
      simp only [Bool.and_eq_true] at hc
      obtain ⟨v,h3,h4⟩:=xD1 e h2.toP
      refine ⟨v,?_,h4⟩
      have h12:0≤m∧m<(len:Int):=⟨pC hc.1,gQ hc.2⟩
      simp only [Instr.index,asIntOf,Sem.run_bind,Sem.run_pure,Result.andThen_ok,run_underlying ht w,if_pos h12,yY hu w]
      exact xGp hn h3 w
omit envI in
theorem zBm (s:ByteArray) (i:Nat):(xP s)[i]?=(s[i]?).map (·.toNat):=by
  simp only [xP,List.getElem?_map]
  congr 1
  by_cases hi:i<s.size
  · rw [getElem?_pos s i hi,List.getElem?_eq_getElem (by simpa using hi)]
    rfl
  · rw [getElem?_neg s i hi,List.getElem?_eq_none (by simpa using hi)]
theorem xP8 {t:TypeId} (ht:P.underlying t=some .string) {a i r:AV} {x y:Value} (hx:VR w ρ (Lv ρ h) a x) (hy:VR w ρ (Lv ρ h) i y)
    (e:xM h .indexStr [a,i]=some r):∃ v,(Instr.index t x y).run P w=.ok v w∧VR w ρ (Lv ρ h) r v:=by
  cases a<;>cases i<;>simp only [xM] at e<;>first | (cases e; done) | skip
  case str.int s k m =>
    simp only [VR] at hx
    obtain ⟨z,rfl,rfl⟩:=hx
    rw [int_of hy]
    cases hc:leI 0 m with
    | false=>rw [hc] at e; cases e
    | true =>
      rw [hc] at e
      simp only [cond_true,zBm] at e
      cases hz:z[m.toNat]? with
      | none=>rw [hz] at e; cases e
      | some b =>
        rw [hz] at e
        simp only [Option.map_some,Option.some.injEq] at e
        subst e
        refine ⟨.int .u8 b.toNat,?_,by simp only [VR]⟩
        have h0:=pC hc
        simp only [Instr.index,asIntOf,Sem.run_bind,Sem.run_pure,Result.andThen_ok,run_underlying ht w,if_pos h0,hz]
end
end Go.Abs
end
section
namespace Go.Abs
variable [envI:Env]
section
variable {P:Program} {X:Ctx} {ρ:Nm} {h:H} {w:World} {L:Nat→Prop}
theorem wD {s:Sem Value} {k:IntKind} {n:Int} (e:s.run P w=.ok (.int k n) w):∃ v,s.run P w=.ok v w∧VR w ρ L (.int k n) v:=⟨_,e,by simp only [VR]⟩
theorem wF {s:Sem Value} {b:Bool} (e:s.run P w=.ok (.bool b) w):∃ v,s.run P w=.ok v w∧VR w ρ L (.bool b) v:=⟨_,e,by simp only [VR]⟩
omit envI in
theorem vY {_op:BinOp} {t:TypeId} {k:IntKind} {x y:Int}:(binOp .add t (.int k x) (.int k y)).run P w=.ok (.int k (k.wrap (x+y))) w ∧
    (binOp .sub t (.int k x) (.int k y)).run P w=.ok (.int k (k.wrap (x - y))) w∧(binOp .mul t (.int k x) (.int k y)).run P w=.ok (.int k (k.wrap (x*y))) w:=by
  refine ⟨?_,?_,?_⟩<;>simp [binOp,Op.intArith]
omit envI in
theorem zL {t:TypeId} {k:IntKind} {x y:Int}:(binOp .lss t (.int k x) (.int k y)).run P w=.ok (.bool (decide (x<y))) w∧(binOp .leq t (.int k x) (.int k y)).run P w=.ok (.bool (decide (x≤y))) w ∧
    (binOp .gtr t (.int k x) (.int k y)).run P w=.ok (.bool (decide (x>y))) w∧(binOp .geq t (.int k x) (.int k y)).run P w=.ok (.bool (decide (x≥y))) w ∧
    (binOp .eql t (.int k x) (.int k y)).run P w=.ok (.bool (x==y)) w∧(binOp .neq t (.int k x) (.int k y)).run P w=.ok (.bool (x != y)) w:=by
  refine ⟨?_,?_,?_,?_,?_,?_⟩<;>simp only [binOp,ne_eq,not_true_eq_false,if_false,Op.intCmp,Sem.run_pure]
omit envI in
theorem xGn {t:TypeId} {k:IntKind} {x y:Int}:(binOp .and t (.int k x) (.int k y)).run P w=.ok (.int k (k.wrap ((BitVec.ofInt k.bits x &&& BitVec.ofInt k.bits y).toNat:Nat))) w ∧
    (binOp .or t (.int k x) (.int k y)).run P w=.ok (.int k (k.wrap ((BitVec.ofInt k.bits x ||| BitVec.ofInt k.bits y).toNat:Nat))) w ∧
    (binOp .xor t (.int k x) (.int k y)).run P w=.ok (.int k (k.wrap ((BitVec.ofInt k.bits x ^^^ BitVec.ofInt k.bits y).toNat:Nat))) w ∧
    (binOp .andNot t (.int k x) (.int k y)).run P w=.ok (.int k (k.wrap ((BitVec.ofInt k.bits x &&& ~~~(BitVec.ofInt k.bits y)).toNat:Nat))) w:=by
  refine ⟨?_,?_,?_,?_⟩<;>simp only [binOp,ne_eq,not_true_eq_false,if_false,Op.intBits,Sem.run_pure]
omit envI in
theorem zB8 {t:TypeId} {k:IntKind} {x y:Int} (hy:¬ y=0):(binOp .quo t (.int k x) (.int k y)).run P w=.ok (.int k (k.wrap (x.tdiv y))) w∧(binOp .rem t (.int k x) (.int k y)).run P w=.ok (.int k (x.tmod y)) w:=by
  refine ⟨?_,?_⟩<;>simp only [binOp,ne_eq,not_true_eq_false,if_false,Op.intDiv,if_neg hy,Sem.run_pure]
omit envI in
theorem xQq {t:TypeId} {j k:IntKind} {x y:Int} (hy:¬ y<0):(binOp .shl t (.int j x) (.int k y)).run P w=.ok (.int j (j.wrap (x*2 ^ (Nat.min y.toNat j.bits)))) w ∧
    (binOp .shr t (.int j x) (.int k y)).run P w=.ok (.int j (x.fdiv (2 ^ (Nat.min y.toNat j.bits)))) w:=by
  refine ⟨?_,?_⟩<;>simp only [binOp,Op.shift,if_neg hy,Sem.run_pure]<;>rfl
theorem xSn {op:BinOp} {t:TypeId} {j k:IntKind} {x y:Int} {r:AV} (e:xG op .one (.int j x) (.int k y)=some r) :
    ∃ v,(binOp op t (.int j x) (.int k y)).run P w=.ok v w∧VR w ρ L r v:=by
  have kk:∀ {α:Type} {s:Option α} {r:α},(bif eqK j k then s else none)=some r→j=k∧s=some r:=by
    intro α s r e
    cases hk:eqK j k with
    | false=>rw [hk] at e; cases e
    | true=>rw [hk] at e; exact ⟨wP.1 hk,e⟩
  have kz:∀ {α:Type} {s:Option α} {r:α},(bif eqI y 0 then none else s)=some r→¬ y=0∧s=some r:=by
    intro α s r e
    cases hk:eqI y 0 with
    | true=>rw [hk] at e; cases e
    | false=>rw [hk] at e; exact ⟨by rw [kE] at hk; simpa using hk,e⟩
  have kl:∀ {α:Type} {s:Option α} {r:α},(bif ltI y 0 then none else s)=some r→¬ y<0∧s=some r:=by
    intro α s r e
    cases hk:ltI y 0 with
    | true=>rw [hk] at e; cases e
    | false=>rw [hk] at e; exact ⟨by rw [kH] at hk; simpa using hk,e⟩
  cases op<;>simp only [xG,zG] at e
  case shl =>
    obtain ⟨hy,e'⟩:=kl e; cases e'
    rw [jK]; exact wD (xQq hy).1
  case shr =>
    obtain ⟨hy,e'⟩:=kl e; cases e'
    exact wD (xQq hy).2
  case eql =>
    simp only [Option.map_eq_some_iff] at e
    obtain ⟨b,e,rfl⟩:=e
    obtain ⟨rfl,e'⟩:=kk e; cases e'
    rw [kE]; exact wF zL.2.2.2.2.1
  case neq =>
    simp only [Option.map_eq_some_iff] at e
    obtain ⟨b,e,rfl⟩:=e
    obtain ⟨rfl,e'⟩:=kk e; cases e'
    rw [kE]; exact wF zL.2.2.2.2.2
  case add=>obtain ⟨rfl,e'⟩:=kk e; cases e'; rw [jK]; exact wD (vY (_op:=.add)).1
  case sub=>obtain ⟨rfl,e'⟩:=kk e; cases e'; rw [jK]; exact wD (vY (_op:=.add)).2.1
  case mul=>obtain ⟨rfl,e'⟩:=kk e; cases e'; rw [jK]; exact wD (vY (_op:=.add)).2.2
  case quo=>obtain ⟨rfl,e'⟩:=kk e; obtain ⟨hy,e''⟩:=kz e'; cases e''; rw [jK]; exact wD (zB8 hy).1
  case rem=>obtain ⟨rfl,e'⟩:=kk e; obtain ⟨hy,e''⟩:=kz e'; cases e''; exact wD (zB8 hy).2
  case and=>obtain ⟨rfl,e'⟩:=kk e; cases e'; rw [jK]; exact wD xGn.1
  case or=>obtain ⟨rfl,e'⟩:=kk e; cases e'; rw [jK]; exact wD xGn.2.1
  case xor=>obtain ⟨rfl,e'⟩:=kk e; cases e'; rw [jK]; exact wD xGn.2.2.1
  case andNot=>obtain ⟨rfl,e'⟩:=kk e; cases e'; rw [jK]; exact wD xGn.2.2.2
  case lss=>obtain ⟨rfl,e'⟩:=kk e; cases e'; rw [kH]; exact wF zL.1
  case leq=>obtain ⟨rfl,e'⟩:=kk e; cases e'; rw [nP]; exact wF zL.2.1
  case gtr=>obtain ⟨rfl,e'⟩:=kk e; cases e'; rw [kH]; exact wF zL.2.2.1
  case geq=>obtain ⟨rfl,e'⟩:=kk e; cases e'; rw [nP]; exact wF zL.2.2.2.1
omit envI in
theorem jW {t:TypeId} {x y:ByteArray}:(binOp .eql t (.string x) (.string y)).run P w=.ok (.bool (x.toList==y.toList)) w∧(binOp .neq t (.string x) (.string y)).run P w=.ok (.bool (!(x.toList==y.toList))) w ∧
    (binOp .lss t (.string x) (.string y)).run P w=.ok (.bool (Op.bytesLess x.toList y.toList)) w∧(binOp .leq t (.string x) (.string y)).run P w=.ok (.bool (Op.bytesLess x.toList y.toList||x.toList==y.toList)) w ∧
    (binOp .gtr t (.string x) (.string y)).run P w=.ok (.bool (!(Op.bytesLess x.toList y.toList||x.toList==y.toList))) w∧(binOp .geq t (.string x) (.string y)).run P w=.ok (.bool (!(Op.bytesLess x.toList y.toList))) w:=by
  refine ⟨?_,?_,?_,?_,?_,?_⟩<;>simp only [binOp,Op.stringOp,Sem.run_pure]
omit envI in
theorem xY4 {t:TypeId} {x y:ByteArray} (hle:¬ ((x.size+y.size:Nat):Int)>IntKind.i64.max):(binOp .add t (.string x) (.string y)).run P w=.ok (.string (x++y)) w:=by
  simp only [binOp,Op.stringOp,if_neg hle,Sem.run_pure]
omit envI in
theorem xHe {n:Int} (h1 : -9000000000≤n) (h2:n≤9000000000):zU .i64 n=n:=by
  cases n with
  | ofNat m =>
    have:Nat.blt m (xWa .i64)=true:=Nat.ble_eq_true_of_le (by have h3:(m:Int)≤9000000000:=h2; show m+1≤9223372036854775808; omega)
    simp only [zU,this,cond_true]
  | negSucc m =>
    have:Nat.blt m (nat_lit 9223372036854775808)=true:=Nat.ble_eq_true_of_le (by rw [Int.negSucc_eq] at h1; show m+1≤9223372036854775808; omega)
    simp only [zU,this,cond_true]
omit envI in
theorem xAo (i:Nat) : -2048≤yD i∧yD i<2048:=by
  unfold yD
  have:i % 4096<4096:=Nat.mod_lt _ (by decide)
  simp only [Int.ofNat_eq_natCast]
  omega
theorem bF {i:Nat} (h:wQ i=true) {u:Value} (hu:Env.R i w ρ L u):∃ m:Int,u=.int .i64 m∧m=Env.pos (xBt i)+yD i∧yD i≤m∧m≤100000+yD i:=by
  have hp:=Env.posB (xBt i)
  exact ⟨_,(Env.aff h).1 hu,rfl,by omega,by omega⟩
theorem xFx {i j:Nat} (h:vD i j=true) {u v:Value} (hu:Env.R i w ρ L u) (hv:Env.R j w ρ L v):∃ m n:Int,u=.int .i64 m∧v=.int .i64 n∧m - n=yD i - yD j:=by
  simp only [vD,Bool.and_eq_true] at h
  obtain ⟨m,e1,h1,_⟩:=bF h.1 hu
  obtain ⟨n,e2,h2,_⟩:=bF h.2.1 hv
  have e:=Nat.eq_of_beq_eq_true h.2.2
  rw [e] at h1
  exact ⟨m,n,e1,e2,by omega⟩
theorem yDk {c:Nat} {j:Int} (hc:c<2) (hj:xOt j=true) {m:Int} (hm:m=Env.pos c+j):Env.R (gZ c j) w ρ L (.int .i64 m):=by
  simp only [xOt,Bool.and_eq_true,nP,kH,decide_eq_true_eq] at hj
  have e0:yIg=700006400:=rfl
  have hj1 : -2048≤j∧j<2048:=by
    have:(Int.negSucc 2047) = -2048:=rfl
    have h2:(Int.ofNat 2048)=2048:=rfl
    omega
  have e1:gZ c j=700006400+4096*c+(j+2048).toNat:=rfl
  have ha:wQ (gZ c j)=true:=by
    have:gZ c j / 8192=85450:=by omega
    unfold wQ
    rw [this]
    rfl
  have hcl:xBt (gZ c j)=c:=by unfold xBt; rw [e1]; omega
  have ho:yD (gZ c j)=j:=by
    unfold yD
    have:gZ c j % 4096=(j+2048).toNat:=by rw [e1]; omega
    rw [this]
    simp only [Int.ofNat_eq_natCast]
    omega
  rw [Env.aff ha,hcl,ho,hm]
omit envI in
theorem zXk {i:Nat} (_:wQ i=true):xBt i<2:=Nat.mod_lt _ (by decide)
theorem xLd {i:Nat} {k:IntKind} {n:Int} {lo hi r:Bool} (h:xAw i k n lo hi=some r) {u:Value} (hu:Env.R i w ρ L u):∃ m:Int,u=.int .i64 m∧k=.i64∧(n<m∧r=lo∨m<n∧r=hi):=by
  unfold xAw at h
  cases h1:xYx i k n with
  | true =>
    rw [h1] at h; cases h
    simp only [xYx,Bool.and_eq_true,Bool.or_eq_true,kH,decide_eq_true_eq] at h1
    rcases h1.2 with ⟨ha,hb⟩ | ⟨ha,hb⟩ | ⟨ha,hb⟩
    · obtain ⟨m,e,_,h2,_⟩:=bF ha hu
      exact ⟨m,e,wP.1 h1.1,.inl ⟨by omega,rfl⟩⟩
    · have e:=Nat.eq_of_beq_eq_true ha
      subst e
      obtain ⟨m,e,h2,_⟩:=Env.bnd.1 hu
      have e1:(Int.negSucc 4999) = -5000:=rfl
      exact ⟨m,e,wP.1 h1.1,.inl ⟨by omega,rfl⟩⟩
    · have e:=Nat.eq_of_beq_eq_true ha
      subst e
      obtain ⟨m,e,h2⟩:=Env.nng.1 hu
      have e1:(Int.ofNat 0)=0:=rfl
      exact ⟨m,e,wP.1 h1.1,.inl ⟨by omega,rfl⟩⟩
  | false =>
    rw [h1] at h
    simp only [cond_false] at h
    cases h2:xYw i k n with
    | true =>
      rw [h2] at h; cases h
      simp only [xYw,Bool.and_eq_true,Bool.or_eq_true,kH,decide_eq_true_eq] at h2
      rcases h2.2 with ⟨ha,hb⟩ | ⟨ha,hb⟩
      · obtain ⟨m,e,_,_,h3⟩:=bF ha hu
        exact ⟨m,e,wP.1 h2.1,.inr ⟨by omega,rfl⟩⟩
      · have e:=Nat.eq_of_beq_eq_true ha
        subst e
        obtain ⟨m,e,_,h3⟩:=Env.bnd.1 hu
        have e1:(Int.ofNat 105000)=105000:=rfl
        exact ⟨m,e,wP.1 h2.1,.inr ⟨by omega,rfl⟩⟩
    | false=>rw [h2] at h; cases h
omit envI in
theorem zU3 {a b:Nat} (h:vD a b=true) (ho:eqI (yD a) (yD b)=true):a=b:=by
  simp only [vD,wQ,xBt,Bool.and_eq_true] at h
  have h1:=Nat.eq_of_beq_eq_true h.1
  have h2:=Nat.eq_of_beq_eq_true h.2.1
  have h3:=Nat.eq_of_beq_eq_true h.2.2
  rw [kE] at ho
  have h4:=eq_of_beq ho
  unfold yD at h4
  simp only [Int.ofNat_eq_natCast] at h4
  omega
omit envI in
theorem xYv {i:Nat} {k:IntKind} {n:Int} {b:Bool} (h:xAw i k n false false=some b):b=false:=by
  unfold xAw at h
  cases h1:xYx i k n with
  | true=>rw [h1] at h; cases h; rfl
  | false =>
    rw [h1] at h
    simp only [cond_false] at h
    cases h2:xYw i k n with
    | true=>rw [h2] at h; cases h; rfl
    | false=>rw [h2] at h; cases h
omit envI in
theorem xHl {i:Nat} {k:IntKind} {n:Int} {b:Bool} (h:(bif vM i k n then some false else xAw i k n false false)=some b):b=false:=by
  cases h1:vM i k n with
  | true=>rw [h1] at h; cases h; rfl
  | false=>rw [h1] at h; exact xYv h
theorem xCs {i:Nat} {k:IntKind} {n:Int} {b:Bool} (h:xAw i k n false false=some b) {u:Value} (hu:VR w ρ L (.sym i) u):b=false∧k=.i64∧∃ m:Int,u=.int .i64 m∧(m==n)=false∧(n==m)=false:=by
  simp only [VR] at hu
  obtain ⟨m,e,hk,hm⟩:=xLd h hu
  have ne:¬ m=n:=by rcases hm with ⟨h,_⟩ | ⟨h,_⟩<;>omega
  exact ⟨xYv h,hk,m,e,by simpa using ne,by simpa using (fun e:n=m=>ne e.symm)⟩
theorem xR4 {i j:Nat} (h:vD i j=true) {u v:Value} (hu:VR w ρ L (.sym i) u) (hv:VR w ρ L (.sym j) v):∃ m n:Int,u=.int .i64 m∧v=.int .i64 n∧(m==n)=eqI (yD i) (yD j):=by
  simp only [VR] at hu hv
  obtain ⟨m,n,e1,e2,hd⟩:=xFx h hu hv
  refine ⟨m,n,e1,e2,?_⟩
  rw [kE]
  by_cases he:m=n
  · have:yD i=yD j:=by omega
    rw [he,this,beq_self_eq_true,beq_self_eq_true]
  · have:¬ yD i=yD j:=by omega
    rw [beq_eq_false_iff_ne.2 he,beq_eq_false_iff_ne.2 this]
theorem xGm {op:BinOp} {t:TypeId} {i:Nat} {k:IntKind} {n:Int} {u:Value} (ho:¬ (op=.eql∨op=.neq)) (hu:Env.R i w ρ L u) :
    (∀ r,xG op .one (.sym i) (.int k n)=some r→∃ z,(binOp op t u (.int k n)).run P w=.ok z w∧VR w ρ L r z)∧(∀ r,xG op .one (.int k n) (.sym i)=some r→∃ z,(binOp op t (.int k n) u).run P w=.ok z w∧VR w ρ L r z):=by
  have go:∀ {b c d:Bool} {r:AV},(bif vM i k n then some (AV.bool b) else (xAw i k n c d).map .bool)=some r→b=c→k=.i64∧∃ m:Int,u=.int .i64 m∧(n<m∧r=.bool c∨m<n∧r=.bool d):=by
    intro b c d r h hbc
    cases hb:vM i k n with
    | false =>
      rw [hb] at h
      simp only [cond_false,Option.map_eq_some_iff] at h
      obtain ⟨q,h,rfl⟩:=h
      obtain ⟨m,e,hk,h | h⟩:=xLd h hu
      · exact ⟨hk,m,e,.inl ⟨h.1,by rw [h.2]⟩⟩
      · exact ⟨hk,m,e,.inr ⟨h.1,by rw [h.2]⟩⟩
    | true =>
      rw [hb] at h; cases h
      simp only [vM,Bool.and_eq_true] at hb
      obtain ⟨m,h2,rfl,_⟩:=Env.big hb.1 hu hu
      have h1:=nP (a:=n) (b:=1)
      rw [hb.2.2] at h1
      have h3:n≤1:=by simpa using h1.symm
      exact ⟨wP.1 hb.2.1,m,rfl,.inl ⟨by omega,by rw [hbc]⟩⟩
  have sh:∀ {j q:Int} {c:Nat},c=xBt i→wQ i=true→xOt j=true→u=.int .i64 (Env.pos c+yD i)→q=Env.pos c+j→zU .i64 q=q∧VR w ρ L (.sym (gZ c j)) (.int .i64 q):=by
    intro j q c hc ha hj _ hq
    have hp:=Env.posB c
    have hj':=hj
    simp only [xOt,Bool.and_eq_true,nP,kH,decide_eq_true_eq] at hj'
    have e1:(Int.negSucc 2047) = -2048:=rfl
    have e2:(Int.ofNat 2048)=2048:=rfl
    refine ⟨xHe (by omega) (by omega),?_⟩
    simp only [VR]
    exact yDk (by rw [hc]; exact zXk ha) hj hq
  constructor
  · intro r e
    cases op<;>simp only [xG,reduceCtorEq] at e
    case eql=>exact absurd (.inl rfl) ho
    case neq=>exact absurd (.inr rfl) ho
    case add =>
      cases hc:wQ i&&(eqK k .i64&&xOt (yD i+n)) with
      | false=>rw [hc] at e; cases e
      | true =>
        rw [hc] at e; cases e
        simp only [Bool.and_eq_true] at hc
        obtain ⟨m,rfl,hm,_⟩:=bF hc.1 hu
        have hk:=wP.1 hc.2.1
        subst hk
        obtain ⟨h1,h2⟩:=sh (j:=yD i+n) (q:=m+n) rfl hc.1 hc.2.2 (by rw [hm]) (by omega)
        refine ⟨_,(vY (_op:=.add)).1,?_⟩
        rw [← jK,h1]
        exact h2
    case sub =>
      cases hc:wQ i&&(eqK k .i64&&xOt (yD i - n)) with
      | false=>rw [hc] at e; cases e
      | true =>
        rw [hc] at e; cases e
        simp only [Bool.and_eq_true] at hc
        obtain ⟨m,rfl,hm,_⟩:=bF hc.1 hu
        have hk:=wP.1 hc.2.1
        subst hk
        obtain ⟨h1,h2⟩:=sh (j:=yD i - n) (q:=m - n) rfl hc.1 hc.2.2 (by rw [hm]) (by omega)
        refine ⟨_,(vY (_op:=.add)).2.1,?_⟩
        rw [← jK,h1]
        exact h2
    case lss =>
      cases hb:vM i k n with
      | false =>
        rw [hb] at e
        simp only [cond_false,Option.map_eq_some_iff] at e
        obtain ⟨q,h,rfl⟩:=e
        obtain ⟨m,rfl,hk,⟨h1,rfl⟩ | ⟨h1,rfl⟩⟩:=xLd h hu
        · subst hk
          exact ⟨_,zL.1,by simp only [VR]; rw [decide_eq_false (by omega)]⟩
        · subst hk
          exact ⟨_,zL.1,by simp only [VR]; rw [decide_eq_true (by omega)]⟩
      | true =>
        rw [hb] at e; cases e
        simp only [vM,Bool.and_eq_true] at hb
        obtain ⟨m,h2,rfl,_⟩:=Env.big hb.1 hu hu
        have h1:=nP (a:=n) (b:=1)
        rw [hb.2.2] at h1
        have h3:n≤1:=by simpa using h1.symm
        have hk:=wP.1 hb.2.1
        subst hk
        exact ⟨_,zL.1,by simp only [VR]; rw [decide_eq_false (by omega)]⟩
    all_goals obtain ⟨rfl,m,rfl,⟨hm,rfl⟩ | ⟨hm,rfl⟩⟩:=go e rfl
    · exact ⟨_,zL.2.1,by simp only [VR]; rw [decide_eq_false (by omega)]⟩
    · exact ⟨_,zL.2.1,by simp only [VR]; rw [decide_eq_true (by omega)]⟩
    · exact ⟨_,zL.2.2.1,by simp only [VR]; rw [decide_eq_true (by omega)]⟩
    · exact ⟨_,zL.2.2.1,by simp only [VR]; rw [decide_eq_false (by omega)]⟩
    · exact ⟨_,zL.2.2.2.1,by simp only [VR]; rw [decide_eq_true (by omega)]⟩
    · exact ⟨_,zL.2.2.2.1,by simp only [VR]; rw [decide_eq_false (by omega)]⟩
  · intro r e
    cases op<;>simp only [xG,reduceCtorEq] at e
    case eql=>exact absurd (.inl rfl) ho
    case neq=>exact absurd (.inr rfl) ho
    case add =>
      cases hc:wQ i&&(eqK k .i64&&xOt (yD i+n)) with
      | false=>rw [hc] at e; cases e
      | true =>
        rw [hc] at e; cases e
        simp only [Bool.and_eq_true] at hc
        obtain ⟨m,rfl,hm,_⟩:=bF hc.1 hu
        have hk:=wP.1 hc.2.1
        subst hk
        obtain ⟨h1,h2⟩:=sh (j:=yD i+n) (q:=n+m) rfl hc.1 hc.2.2 (by rw [hm]) (by omega)
        refine ⟨_,(vY (_op:=.add)).1,?_⟩
        rw [← jK,h1]
        exact h2
    all_goals obtain ⟨rfl,m,rfl,⟨hm,rfl⟩ | ⟨hm,rfl⟩⟩:=go e rfl
    · exact ⟨_,zL.1,by simp only [VR]; rw [decide_eq_true (by omega)]⟩
    · exact ⟨_,zL.1,by simp only [VR]; rw [decide_eq_false (by omega)]⟩
    · exact ⟨_,zL.2.1,by simp only [VR]; rw [decide_eq_true (by omega)]⟩
    · exact ⟨_,zL.2.1,by simp only [VR]; rw [decide_eq_false (by omega)]⟩
    · exact ⟨_,zL.2.2.1,by simp only [VR]; rw [decide_eq_false (by omega)]⟩
    · exact ⟨_,zL.2.2.1,by simp only [VR]; rw [decide_eq_true (by omega)]⟩
    · exact ⟨_,zL.2.2.2.1,by simp only [VR]; rw [decide_eq_false (by omega)]⟩
    · exact ⟨_,zL.2.2.2.1,by simp only [VR]; rw [decide_eq_true (by omega)]⟩
omit envI in
theorem xI1:∀ s:List Nat,xY s s=false
  | []=>rfl
  | a :: x=>by
    have h1:Nat.blt a a=false:=by
      cases h:Nat.blt a a with
      | false=>rfl
      | true=>exact absurd (Nat.le_of_ble_eq_true h) (by omega)
    simp only [xY,h1,xI1 x,Bool.and_false,Bool.or_self]
omit envI in
theorem zZf (i j:Nat):pR i j<4:=by
  unfold pR
  cases Nat.ble bQ i&&Nat.ble bQ j with
  | true =>
    cases Nat.beq (i / 8) (j / 8) with
    | true=>exact Nat.mod_lt _ (by decide)
    | false=>exact Nat.zero_lt_succ 3
  | false=>exact Nat.zero_lt_succ 3
omit envI in
theorem zZv {d:Nat} {x y:List Nat} (h:xSw d x y) (h0:¬ d=0) (h4:d<4):Nat.beq d 1=xY x y:=by
  obtain ⟨h1,h2,h3⟩:=h
  rcases (by omega:d=1∨d=2∨d=3) with rfl | rfl | rfl
  · rw [h1 rfl]; rfl
  · rw [h2 rfl,xI1]; rfl
  · rw [h3 rfl]; rfl
omit envI in
theorem xS2:∀ a b:List Nat,(!(xY a b||eqS a b))=xY b a
  | [],[]=>rfl
  | [],_::_=>rfl
  | _::_,[]=>rfl
  | a :: x,b::y=>by
    have ih:=xS2 x y
    simp only [xY,eqS]
    have nb:∀ m n:Nat,Nat.beq m n=decide (m=n):=fun m n=>by
      cases h:Nat.beq m n with
      | true=>exact (decide_eq_true (Nat.eq_of_beq_eq_true h)).symm
      | false=>exact (decide_eq_false (fun e=>by subst e; simp at h)).symm
    have nl:∀ m n:Nat,Nat.blt m n=decide (m<n):=fun m n=>by
      cases h:Nat.blt m n with
      | true=>exact (decide_eq_true (Nat.le_of_ble_eq_true h)).symm
      | false=>exact (decide_eq_false (fun e=>by rw [show Nat.blt m n=true from Nat.ble_eq_true_of_le e] at h; cases h)).symm
    rw [nb a b,nb b a,nl a b,nl b a]
    by_cases h:a=b
    · subst h
      simp only [Nat.lt_irrefl,decide_false,decide_true,Bool.false_or,Bool.true_and]
      exact ih
    · have h':¬ b=a:=fun e=>h e.symm
      simp only [h,h',decide_false,Bool.false_and,Bool.or_false]
      by_cases hl:a<b
      · rw [decide_eq_true hl,decide_eq_false (by omega:¬ b<a)]; rfl
      · rw [decide_eq_false hl,decide_eq_true (by omega:b<a)]; rfl
theorem xSp {op:BinOp} {t:TypeId} {i j:Nat} {r:AV} {u v:Value} (ho:¬ (op=.eql∨op=.neq)) (hu:Env.R i w ρ L u) (hv:Env.R j w ρ L v) (e:xG op .one (.sym i) (.sym j)=some r) :
    ∃ z,(binOp op t u v).run P w=.ok z w∧VR w ρ L r z:=by
  cases ha:vD i j with
  | true =>
    obtain ⟨m,n,rfl,rfl,hd⟩:=xFx ha hu hv
    have cmp:ltI m n=ltI (yD i) (yD j)∧leI m n=leI (yD i) (yD j)∧ltI n m=ltI (yD j) (yD i)∧leI n m=leI (yD j) (yD i):=by
      simp only [kH,nP]
      refine ⟨?_,?_,?_,?_⟩<;>(apply decide_eq_decide.2; omega)
    cases op<;>simp only [xG,ha,cond_true,reduceCtorEq] at e
    case eql=>exact absurd (.inl rfl) ho
    case neq=>exact absurd (.inr rfl) ho
    case sub =>
      cases e
      have hi:=xAo i
      have hj:=xAo j
      refine ⟨_,(vY (_op:=.add)).2.1,?_⟩
      rw [← jK,xHe (by omega) (by omega),hd]
      simp only [VR]
    case lss=>cases e; rw [← cmp.1,kH]; exact wF zL.1
    case leq=>cases e; rw [← cmp.2.1,nP]; exact wF zL.2.1
    case gtr=>cases e; rw [← cmp.2.2.1,kH]; exact wF zL.2.2.1
    case geq=>cases e; rw [← cmp.2.2.2,nP]; exact wF zL.2.2.2.1
  | false =>
  have go:∀ {i j:Nat} {u v:Value} {c:Bool},Env.R i w ρ L u→Env.R j w ρ L v→(xVx (pR i j) c).map AV.bool=some r→∃ x y:ByteArray,u=.string x∧v=.string y∧r=.bool c∧Nat.beq (pR i j) 1=xY (xP x) (xP y):=by
    intro i j u v c hu hv h
    unfold xVx at h
    cases hb:Nat.beq (pR i j) 0 with
    | true=>rw [hb] at h; cases h
    | false =>
      rw [hb] at h; cases h
      have h0:¬ pR i j=0:=fun e=>by rw [e] at hb; cases hb
      obtain ⟨x,y,h1,h2,h3⟩:=Env.ord h0 hu hv
      exact ⟨x,y,h1,h2,rfl,zZv h3 h0 (zZf i j)⟩
  have tot:∀ x y:List Nat,(!xY y x)=(xY x y||eqS x y):=fun x y=>by rw [← xS2 x y,Bool.not_not]
  cases op<;>simp only [xG,ha,cond_false,reduceCtorEq] at e
  case eql=>exact absurd (.inl rfl) ho
  case neq=>exact absurd (.inr rfl) ho
  case lss =>
    obtain ⟨x,y,rfl,rfl,rfl,h⟩:=go hu hv e
    rw [h]
    simp only [wE]
    exact wF jW.2.2.1
  case leq =>
    obtain ⟨y,x,rfl,rfl,rfl,h⟩:=go hv hu e
    rw [h,tot]
    simp only [wE,qJ]
    exact wF jW.2.2.2.1
  case gtr =>
    obtain ⟨y,x,rfl,rfl,rfl,h⟩:=go hv hu e
    rw [h,← xS2]
    simp only [wE,qJ]
    exact wF jW.2.2.2.2.1
  case geq =>
    obtain ⟨x,y,rfl,rfl,rfl,h⟩:=go hu hv e
    rw [h]
    simp only [wE]
    exact wF jW.2.2.2.2.2
theorem xSo {op:BinOp} {t:TypeId} {x y:ByteArray} {r:AV} (e:xG op .one (.str (xP x)) (.str (xP y))=some r) :
    ∃ v,(binOp op t (.string x) (.string y)).run P w=.ok v w∧VR w ρ L r v:=by
  cases op<;>simp only [xG,zG,Option.map_some,Option.some.injEq,reduceCtorEq] at e
  case add =>
    cases hb:Nat.blt ((xP x).length+(xP y).length) xQ with
    | false=>rw [hb] at e; cases e
    | true =>
      rw [hb] at e; cases e
      have:=xEa hb
      rw [gB,gB] at this
      refine ⟨_,xY4 ?_,by simp only [VR]; exact ⟨_,rfl,xOv x y⟩⟩
      have h1:IntKind.i64.max=9223372036854775807:=by decide
      have h2:xQ=35184372088832:=rfl
      rw [h1]; omega
  case eql=>subst e; rw [qJ]; exact wF jW.1
  case neq=>subst e; rw [qJ]; exact wF jW.2.1
  case lss=>subst e; rw [wE]; exact wF jW.2.2.1
  case leq=>subst e; rw [wE,qJ]; exact wF jW.2.2.2.1
  case gtr=>subst e; rw [wE,qJ]; exact wF jW.2.2.2.2.1
  case geq=>subst e; rw [wE]; exact wF jW.2.2.2.2.2
theorem zZu {op:UnOp} {a r:AV} {x:Value} (hx:VR w ρ L a x) (e:xM h (.un op) [a]=some r):∃ v,(Op.unary op x).run P w=.ok v w∧VR w ρ L r v:=by
  cases op<;>cases a<;>simp only [xM,reduceCtorEq] at e
  case neg.int k n =>
    cases e
    rw [int_of hx,jK]
    exact wD (by simp only [Op.unary,Op.intArith,Sem.run_pure])
  case xor.int k n =>
    cases e
    rw [int_of hx,jK]
    exact wD (by simp only [Op.unary,Op.intBits,Sem.run_pure])
  case not.bool b =>
    cases e
    rw [gA hx]
    exact wF (by simp only [Op.unary,Sem.run_pure])
end
end Go.Abs
end
end
