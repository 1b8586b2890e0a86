/- A part of the proof that LibSwaps answers true at every input: AbsHeap, AbsOps, AbsRead, AbsRead2. -/
import Derived.Test.YtipcmdllhllolaaGreatDoorK02
import Derived.Laws.StructEq
import Derived.IntWalk
section
namespace Go.Abs
variable [envI:Env]
def setO (w:World) (b:Nat) (o:Obj):World:={ w with heap:=w.heap.setIfInBounds b o }
omit envI in
theorem setO_get (w:World) (b i:Nat) (o:Obj) (hb:b<w.heap.size):(setO w b o).heap[i]?=if i=b then some o else w.heap[i]?:=by
  simp only [setO]
  rw [Array.getElem?_setIfInBounds]
  by_cases h:i=b
  · subst h; simp [hb]
  · rw [if_neg (fun e=>h e.symm),if_neg h]
omit envI in
theorem setO_size (w:World) (b:Nat) (o:Obj):(setO w b o).heap.size=w.heap.size:=by simp [setO]
omit envI in
theorem setO_same (w:World) (b:Nat) (o:Obj) (h:w.heap[b]?=some o):setO w b o=w:=by
  have hb:=lt_of_heap h
  simp only [setO]
  congr 1
  apply Array.ext_getElem?
  intro i
  rw [Array.getElem?_setIfInBounds]
  by_cases e:b=i
  · subst e; rw [if_pos rfl,if_pos hb,h]
  · rw [if_neg e]
omit envI in
theorem setO_setO (w:World) (b:Nat) (o o':Obj):setO (setO w b o) b o'=setO w b o':=by
  simp [setO]
def newO (w:World) (o:Obj):World:={ w with heap:=w.heap.push o }
omit envI in
theorem newO_get (w:World) (o:Obj) (i:Nat):(newO w o).heap[i]?=if i=w.heap.size then some o else w.heap[i]?:=by
  simp only [newO]
  rw [Array.getElem?_push]
omit envI in
theorem newO_size (w:World) (o:Obj):(newO w o).heap.size=w.heap.size+1:=by simp [newO]
def FR (w:World) (ρ:Nm) (L:Nat→Prop) (fr:Tr AV) (tmps:Array Value):Prop :=
  ∀ p a,fr.get p=some a→∃ v,tmps[p.num]?=some v∧VR w ρ L a v
def jumpC:Jump→Code
  | .exit i=>.exit i
  | .ret=>.ret
def stC:LState→LoopState
  | .ready=>.ready
  | .busy=>.busy
  | .done=>.done
  | .exhausted=>.exhausted
def WFm (ms:Array MapEntry) (clock:Nat):Prop:=(ms.toList.map (·.born)).Nodup∧∀ x∈ms.toList.map (·.born),x<clock
def BR (P:Program) (w:World) (ρ:Nm) (L:Nat→Prop):AB→Obj→Prop
  | .cells cs sp,o=>∃ c el lo hi,o=.cells c el (lo,hi)∧VRp w ρ L cs c.toList∧(sp=false→c.size=cs.length)∧(hi≤lo∨c.size≤lo)
  | .amap es,o=>∃ ms clock,o=.map ms clock∧VRs w ρ L (es.map (·.1)) (ms.toList.map (·.key))∧VRs w ρ L (es.map (·.2)) (ms.toList.map (·.val))∧WFm ms clock
  | .siter s pos,o=>∃ x,o=.stringIter x pos∧bytesL x=s
  | .miter none _ _ _,o=>∃ s q l,o=.mapIter none s q l
  | .miter (some m) n k qs,o=>∃ b since seen ms clock,ρ m=some b∧o=.mapIter (some b) since seen since∧w.heap[b]?=some (.map ms clock)∧n≤ms.size ∧
      (ms.size=n→clock=since∧seen.size=k∧seen.toList.Nodup∧(∀ x∈seen.toList,x∈ms.toList.map (·.born))∧∀ l,qs=some l→seen.toList.reverse.map some=l.map fun i=>(ms.toList.map (·.born))[i]?)
  | .loop st j fn fr ps as bd d,o=>∃ l N,o=.loop l∧l.state=stC st∧l.pending=j.map jumpC∧l.fn=fn.num∧FR w ρ L fr l.tmps∧l.params.toList=ps.map Pth.num ∧
      compCode P N l.assign=as∧compCode P N l.body=bd∧N≤l.tmps.size∧(∀ p,p∈ps→p.num<N)∧ρ d=some l.defers
  | .dfr tk,o=>o=.deferred (if tk then none else some [])
def Lv (ρ:Nm) (h:H) (b:Nat):Prop:=∃ id x,h.t.get id=some x∧ρ id=some b
structure HR (P:Program) (X:Ctx) (ρ:Nm) (h:H) (w:World):Prop where
  live:∀ id x,h.t.get id=some x→∃ b o,ρ id=some b∧w.heap[b]?=some o∧BR P w ρ (Lv ρ h) x o
  inj:∀ id id' x x' b,h.t.get id=some x→h.t.get id'=some x'→ρ id=some b→ρ id'=some b→id=id'
  ro:∀ id cs,h.t.get id=none→h.ro.get id=some cs→∃ b c el fz,ρ id=some b∧NL ρ (Lv ρ h) b∧w.heap[b]?=some (.cells c el fz)∧VRp w ρ (Lv ρ h) cs c.toList
  fresh:∀ id,h.next.num≤id.num→ρ id=none
  bound:∀ id b,ρ id=some b→b<w.heap.size
  globs:∀ g cs,glA X g=some cs→NL ρ (Lv ρ h) g.num∧∃ c el fz,w.heap[g.num]?=some (.cells c el fz)∧VRp w ρ (Lv ρ h) cs c.toList
  low:∀ b,ρ.base b→b<w.heap.size
  resv:∀ id,ρ.res id→ρ id=none∧id.num<h.next.num
  disj:∀ b,ρ.base b→¬ Lv ρ h b
section
variable {P:Program} {ρ ρ':Nm} {L L':Nat→Prop} {w w':World}
theorem FR.mono (hs:Sim ρ L w ρ' L' w') (hb:∀ id b,ρ id=some b→b<w.heap.size) {fr:Tr AV} {tmps:Array Value} (h:FR w ρ L fr tmps):FR w' ρ' L' fr tmps :=
  fun p a e=>let ⟨v,h1,h2⟩:=h p a e; ⟨v,h1,h2.mono hs hb⟩
theorem FR.put {fr:Tr AV} {tmps:Array Value} (h:FR w ρ L fr tmps) {d:Pth} (hd:d.num<tmps.size) {a:AV} {v:Value} (hv:VR w ρ L a v):FR w ρ L (fr.put d a) (tmps.setIfInBounds d.num v):=by
  intro p b e
  rw [gp] at e
  by_cases hp:p=d
  · subst hp
    simp at e; subst e
    exact ⟨v,by rw [Array.getElem?_setIfInBounds_self_of_lt hd],hv⟩
  · rw [if_neg hp] at e
    obtain ⟨u,h1,h2⟩:=h p b e
    refine ⟨u,?_,h2⟩
    rw [Array.getElem?_setIfInBounds_ne (fun e=>hp (Pth.num_inj e.symm))]
    exact h1
theorem BR.mono (hs:Sim ρ L w ρ' L' w') (hb:∀ id b,ρ id=some b→b<w.heap.size) {x:AB} {o:Obj} (h:BR P w ρ L x o):BR P w' ρ' L' x o:=by
  cases x with
  | cells cs sp =>
    obtain ⟨c,el,lo,hi,h1,h2,h3,h4⟩:=h
    exact ⟨c,el,lo,hi,h1,h2.mono hs hb,h3,h4⟩
  | amap es =>
    obtain ⟨ms,clock,h1,h2,h3⟩:=h
    exact ⟨ms,clock,h1,h2.mono hs hb,h3.1.mono hs hb,h3.2⟩
  | siter s pos=>exact h
  | miter m n k qs =>
    cases m with
    | none=>exact h
    | some m =>
      obtain ⟨b,since,seen,ms,clock,h1,h2,h3,h4,h5⟩:=h
      obtain ⟨ms',c',e1,e2,e3⟩:=(hs.cells b (hb _ _ h1)).2 _ h3 ms clock rfl
      refine ⟨b,since,seen,ms',c',hs.names _ _ h1,h2,e1,Nat.le_trans h4 e2,fun e => ?_⟩
      have e4:ms.size=n:=by omega
      obtain ⟨a1,a2⟩:=e3 (by omega)
      rw [a1,a2]
      exact h5 e4
  | loop st j fn fr ps as bd d =>
    obtain ⟨l,N,h1,h2,h3,h4,h5,h6,h7,h8,h9,h10,h11⟩:=h
    exact ⟨l,N,h1,h2,h3,h4,h5.mono hs hb,h6,h7,h8,h9,h10,hs.names _ _ h11⟩
  | dfr tk=>exact h
end
section
variable {P:Program} {X:Ctx} {ρ:Nm} {h:H} {w:World}
def extend (ρ:Nm) (id:Pth) (b:Nat):Nm:=⟨fun i=>if i=id then some b else ρ i,ρ.base,ρ.res⟩
omit envI in
theorem extend_self (ρ:Nm) (id:Pth) (b:Nat):extend ρ id b id=some b:=by simp [extend]
omit envI in
theorem extend_ne (ρ:Nm) {id i:Pth} (b:Nat) (hi:i≠id):extend ρ id b i=ρ i:=by simp [extend,hi]
theorem HR.newAt (hr:HR P X ρ h w) {id:Pth} (hρ:ρ id=none) (hres:¬ ρ.res id) {x:AB} {o:Obj} {nx:Pth} (hnx:h.next.num≤nx.num) (hid:id.num<nx.num)
    (hx:∀ ρ' L' w',Sim ρ (Lv ρ h) w ρ' L' w'→BR P w' ρ' L' x o) :
    let h':H:={ h with next:=nx,t:=h.t.put id x }
    let ρ':=extend ρ id w.heap.size
    HR P X ρ' h' (newO w o)∧Sim ρ (Lv ρ h) w ρ' (Lv ρ' h') (newO w o):=by
  intro h' ρ'
  have hnames:∀ i b,ρ i=some b→ρ' i=some b:=by
    intro i b e
    have hi:i≠id:=fun hi=>by rw [hi,hρ] at e; cases e
    exact (extend_ne ρ _ hi).trans e
  have hold:∀ i,i≠id→h'.t.get i=h.t.get i:=fun i hi=>by
    show (h.t.put id x).get i=_
    rw [gp,if_neg hi]
  have hlvold:∀ b,b<w.heap.size→(Lv ρ' h' b↔Lv ρ h b):=by
    intro b hb
    constructor
    · rintro ⟨i,y,h1,h2⟩
      by_cases hi:i=id
      · rw [hi] at h2; rw [show ρ' id=_ from extend_self ρ id _] at h2
        simp at h2; omega
      · rw [hold i hi] at h1
        rw [show ρ' i=_ from extend_ne ρ _ hi] at h2
        exact ⟨i,y,h1,h2⟩
    · rintro ⟨i,y,h1,h2⟩
      have hi:i≠id:=fun hi=>by rw [hi,hρ] at h2; cases h2
      exact ⟨i,y,(hold i hi).trans h1,hnames i b h2⟩
  have hsim:Sim ρ (Lv ρ h) w ρ' (Lv ρ' h') (newO w o):=by
    refine ⟨⟨fun _ h=>h,fun _ _ h=>h,hnames,by rw [newO_size]; omega,fun b hb _=>by rw [newO_get,if_neg (by omega)],fun b hb => ?_,fun b hb hl=>(hlvold b hb).1 hl,rfl,rfl,rfl⟩,rfl⟩
    exact .of_eq (by rw [newO_get,if_neg (by omega)])
  refine ⟨⟨?_,?_,?_,?_,?_,?_,fun b hb=>Nat.lt_of_lt_of_le (hr.low b hb) (by rw [newO_size]; omega),fun i hi => ?_,fun b hb hl=>hr.disj b hb ((hlvold b (hr.low b hb)).1 hl)⟩,hsim⟩
  · intro i y e
    by_cases hi:i=id
    · subst hi
      have ey:y=x:=by
        have:h'.t.get i=some x:=by show (h.t.put i x).get i=_; rw [gp,if_pos rfl]
        rw [this] at e; exact (Option.some.inj e).symm
      subst ey
      exact ⟨w.heap.size,o,extend_self ρ i _,by rw [newO_get,if_pos rfl],hx _ _ _ hsim⟩
    · rw [hold i hi] at e
      obtain ⟨b,o',h1,h2,h3⟩:=hr.live i y e
      have:=lt_of_heap h2
      exact ⟨b,o',hnames i b h1,by rw [newO_get,if_neg (by omega)]; exact h2,h3.mono hsim hr.bound⟩
  · intro i j y z b e1 e2 e3 e4
    by_cases hi:i=id
    · by_cases hj:j=id
      · rw [hi,hj]
      · rw [hi,show ρ' id=_ from extend_self ρ id _] at e3
        rw [show ρ' j=_ from extend_ne ρ _ hj] at e4
        have:=hr.bound j b e4
        simp at e3; omega
    · rw [show ρ' i=_ from extend_ne ρ _ hi] at e3
      by_cases hj:j=id
      · rw [hj,show ρ' id=_ from extend_self ρ id _] at e4
        have:=hr.bound i b e3
        simp at e4; omega
      · rw [show ρ' j=_ from extend_ne ρ _ hj] at e4
        rw [hold i hi] at e1
        rw [hold j hj] at e2
        exact hr.inj i j y z b e1 e2 e3 e4
  · intro i cs e1 e2
    have hi:i≠id:=fun hi=>by
      rw [hi] at e1
      have:h'.t.get id=some x:=by show (h.t.put id x).get id=_; rw [gp,if_pos rfl]
      rw [this] at e1; cases e1
    rw [hold i hi] at e1
    obtain ⟨b,c,el,fz,h1,h2,h3,h4⟩:=hr.ro i cs e1 e2
    have:=lt_of_heap h3
    exact ⟨b,c,el,fz,hnames i b h1,h2.mono0 hsim.toSim0 this,by rw [newO_get,if_neg (by omega)]; exact h3,h4.mono hsim hr.bound⟩
  · intro i hi
    have hi':nx.num≤i.num:=hi
    have hne:i≠id:=fun e=>by rw [e] at hi'; omega
    exact (extend_ne ρ _ hne).trans (hr.fresh i (by omega))
  · intro i b e
    rw [newO_size]
    by_cases hi:i=id
    · rw [hi,show ρ' id=_ from extend_self ρ id _] at e; simp at e; omega
    · rw [show ρ' i=_ from extend_ne ρ _ hi] at e
      have:=hr.bound i b e; omega
  · intro g cs e
    obtain ⟨h1,c,el,fz,h2,h3⟩:=hr.globs g cs e
    have:=lt_of_heap h2
    exact ⟨h1.mono0 hsim.toSim0 this,c,el,fz,by rw [newO_get,if_neg (by omega)]; exact h2,h3.mono hsim hr.bound⟩
  · obtain ⟨h1,h2⟩:=hr.resv i hi
    have hne:i≠id:=fun e=>hres (e▸hi)
    exact ⟨(extend_ne ρ _ hne).trans h1,Nat.lt_of_lt_of_le h2 hnx⟩
theorem HR.newB (hr:HR P X ρ h w) {x:AB} {o:Obj} (hx:∀ ρ' L' w',Sim ρ (Lv ρ h) w ρ' L' w'→BR P w' ρ' L' x o) :
    HR P X (extend ρ h.next w.heap.size) (h.newB x) (newO w o)∧Sim ρ (Lv ρ h) w (extend ρ h.next w.heap.size) (Lv (extend ρ h.next w.heap.size) (h.newB x)) (newO w o) :=
  hr.newAt (hr.fresh _ (Nat.le_refl _)) (fun e=>absurd (hr.resv _ e).2 (by omega)) (by rw [Pth.num_succ]; omega) (by rw [Pth.num_succ]; omega) hx
theorem HR.set (hr:HR P X ρ h w) {id:Pth} {x x':AB} {b:Nat} {o o':Obj} (hg:h.t.get id=some x) (hb:ρ id=some b) (ho:w.heap[b]?=some o)
    (hsz:bsz (setO w b o') b=bsz w b) (hx:∀ ρ' L' w',Sim ρ (Lv ρ h) w ρ' L' w'→BR P w' ρ' L' x' o') (hml:MLe o (some o'):=by intro _ _ e; cases e) :
    HR P X ρ (h.setB id x') (setO w b o')∧Sim ρ (Lv ρ h) w ρ (Lv ρ (h.setB id x')) (setO w b o'):=by
  have hlt:=lt_of_heap ho
  have hget:∀ i,(h.setB id x').t.get i=if i=id then some x' else h.t.get i:=fun i=>gp _ _ _ _
  have hlv:∀ c,Lv ρ (h.setB id x') c↔Lv ρ h c:=by
    intro c
    constructor
    · rintro ⟨i,y,h1,h2⟩
      rw [hget] at h1
      by_cases hi:i=id
      · exact ⟨id,x,hg,hi▸h2⟩
      · rw [if_neg hi] at h1; exact ⟨i,y,h1,h2⟩
    · rintro ⟨i,y,h1,h2⟩
      by_cases hi:i=id
      · exact ⟨id,x',by rw [hget,if_pos rfl],hi▸h2⟩
      · exact ⟨i,y,by rw [hget,if_neg hi]; exact h1,h2⟩
  have hbl:Lv ρ h b:=⟨id,x,hg,hb⟩
  have hsim:Sim ρ (Lv ρ h) w ρ (Lv ρ (h.setB id x')) (setO w b o'):=by
    refine ⟨⟨fun _ h=>h,fun _ _ h=>h,fun _ _ e=>e,by rw [setO_size]; exact Nat.le_refl _,fun c hc hl => ?_,fun c hc => ?_,fun c _ hl=>(hlv c).1 hl,rfl,rfl,rfl⟩,rfl⟩
    · rw [setO_get _ _ _ _ hlt,if_neg (fun e:c=b=>hl (e.symm▸hbl))]
    · by_cases e:c=b
      · subst e
        refine ⟨hsz,fun q hq => ?_⟩
        rw [setO_get _ _ _ _ hlt,if_pos rfl]
        rw [ho] at hq
        cases hq
        exact hml
      · exact .of_eq (by rw [setO_get _ _ _ _ hlt,if_neg e])
  refine ⟨⟨?_,?_,?_,?_,?_,?_,fun b hb=>by rw [setO_size]; exact hr.low b hb,hr.resv,fun b hb hl=>hr.disj b hb ((hlv b).1 hl)⟩,hsim⟩
  · intro i y e
    rw [hget] at e
    by_cases hi:i=id
    · rw [if_pos hi] at e
      cases e
      exact ⟨b,o',hi▸hb,by rw [setO_get _ _ _ _ hlt,if_pos rfl],hx _ _ _ hsim⟩
    · rw [if_neg hi] at e
      obtain ⟨c,o'',h1,h2,h3⟩:=hr.live i y e
      have hne:c≠b:=fun ec=>hi (hr.inj i id y x b e hg (ec▸h1) hb)
      exact ⟨c,o'',h1,by rw [setO_get _ _ _ _ hlt,if_neg hne]; exact h2,h3.mono hsim hr.bound⟩
  · intro i j y z c e1 e2 e3 e4
    have f:∀ i y,(h.setB id x').t.get i=some y→∃ y',h.t.get i=some y':=by
      intro i y e
      rw [hget] at e
      by_cases hi:i=id
      · exact ⟨x,hi▸hg⟩
      · rw [if_neg hi] at e; exact ⟨y,e⟩
    obtain ⟨y',f1⟩:=f i y e1
    obtain ⟨z',f2⟩:=f j z e2
    exact hr.inj i j y' z' c f1 f2 e3 e4
  · intro i cs e1 e2
    rw [hget] at e1
    by_cases hi:i=id
    · rw [if_pos hi] at e1; cases e1
    · rw [if_neg hi] at e1
      obtain ⟨c,cc,el,fz,h1,h2,h3,h4⟩:=hr.ro i cs e1 e2
      have hne:c≠b:=fun ec=>h2.1 (ec▸hbl)
      exact ⟨c,cc,el,fz,h1,⟨fun hl=>h2.1 ((hlv c).1 hl),h2.2⟩,by rw [setO_get _ _ _ _ hlt,if_neg hne]; exact h3,h4.mono hsim hr.bound⟩
  · exact hr.fresh
  · intro i c e
    rw [setO_size]; exact hr.bound i c e
  · intro g cs e
    obtain ⟨h1,c,el,fz,h2,h3⟩:=hr.globs g cs e
    have hne:g.num≠b:=fun ec=>h1.1 (ec▸hbl)
    exact ⟨⟨fun hl=>h1.1 ((hlv _).1 hl),h1.2⟩,c,el,fz,by rw [setO_get _ _ _ _ hlt,if_neg hne]; exact h2,h3.mono hsim hr.bound⟩
theorem HR.del (hr:HR P X ρ h w) (id:Pth) (hro:h.ro.get id=none) :
    HR P X ρ { h with t:=h.t.del id } w∧Sim ρ (Lv ρ h) w ρ (Lv ρ { h with t:=h.t.del id }) w:=by
  have hget:∀ i,({ h with t:=h.t.del id }:H).t.get i=if i=id then none else h.t.get i:=fun i=>Tr.get_del _ _ _
  have hlv:∀ c,Lv ρ { h with t:=h.t.del id } c→Lv ρ h c:=by
    rintro c ⟨i,y,h1,h2⟩
    rw [hget] at h1
    by_cases hi:i=id
    · rw [if_pos hi] at h1; cases h1
    · rw [if_neg hi] at h1; exact ⟨i,y,h1,h2⟩
  have hsim:Sim ρ (Lv ρ h) w ρ (Lv ρ { h with t:=h.t.del id }) w:=Sim.less hlv
  refine ⟨⟨?_,?_,?_,hr.fresh,hr.bound,?_,hr.low,hr.resv,fun b hb hl=>hr.disj b hb (hlv b hl)⟩,hsim⟩
  · intro i y e
    rw [hget] at e
    by_cases hi:i=id
    · rw [if_pos hi] at e; cases e
    · rw [if_neg hi] at e
      obtain ⟨c,o'',h1,h2,h3⟩:=hr.live i y e
      exact ⟨c,o'',h1,h2,h3.mono hsim hr.bound⟩
  · intro i j y z c e1 e2 e3 e4
    rw [hget] at e1 e2
    by_cases hi:i=id
    · rw [if_pos hi] at e1; cases e1
    · by_cases hj:j=id
      · rw [if_pos hj] at e2; cases e2
      · rw [if_neg hi] at e1; rw [if_neg hj] at e2
        exact hr.inj i j y z c e1 e2 e3 e4
  · intro i cs e1 e2
    rw [hget] at e1
    by_cases hi:i=id
    · rw [hi,hro] at e2; cases e2
    · rw [if_neg hi] at e1
      obtain ⟨c,cc,el,fz,h1,h2,h3,h4⟩:=hr.ro i cs e1 e2
      exact ⟨c,cc,el,fz,h1,⟨fun hl=>h2.1 (hlv c hl),h2.2⟩,h3,h4.mono hsim hr.bound⟩
  · intro g cs e
    obtain ⟨h1,c,el,fz,h2,h3⟩:=hr.globs g cs e
    exact ⟨⟨fun hl=>h1.1 (hlv _ hl),h1.2⟩,c,el,fz,h2,h3.mono hsim hr.bound⟩
theorem HR.rename (hr:HR P X ρ h w) {id:Pth} {x:AB} {b:Nat} (hg:h.t.get id=some x) (hb:ρ id=some b) (hro:h.ro.get id=none) :
    let h':H:={ h with next:=h.next.succ,t:=(h.t.del id).put h.next x }
    let ρ':=extend ρ h.next b
    HR P X ρ' h' w∧Sim ρ (Lv ρ h) w ρ' (Lv ρ' h') w:=by
  intro h' ρ'
  have hρ:ρ h.next=none:=hr.fresh _ (Nat.le_refl _)
  have hne:id≠h.next:=fun e=>by rw [e,hρ] at hb; cases hb
  have hnames:∀ i b,ρ i=some b→ρ' i=some b:=by
    intro i c e
    have hi:i≠h.next:=fun hi=>by rw [hi,hρ] at e; cases e
    exact (extend_ne ρ _ hi).trans e
  have hget:∀ i,h'.t.get i=if i=h.next then some x else if i=id then none else h.t.get i:=by
    intro i
    show ((h.t.del id).put h.next x).get i=_
    rw [gp,Tr.get_del]
  have hlv:∀ c,Lv ρ' h' c→Lv ρ h c:=by
    rintro c ⟨i,y,h1,h2⟩
    rw [hget] at h1
    by_cases hi:i=h.next
    · rw [hi,show ρ' h.next=_ from extend_self ρ _ _] at h2
      cases h2
      exact ⟨id,x,hg,hb⟩
    · rw [if_neg hi] at h1
      rw [show ρ' i=_ from extend_ne ρ _ hi] at h2
      by_cases hi':i=id
      · rw [if_pos hi'] at h1; cases h1
      · rw [if_neg hi'] at h1; exact ⟨i,y,h1,h2⟩
  have hsim:Sim ρ (Lv ρ h) w ρ' (Lv ρ' h') w :=
    ⟨⟨fun _ h=>h,fun _ _ h=>h,hnames,Nat.le_refl _,fun _ _ _=>rfl,fun _ _=>.of_eq rfl,fun c _ hl=>hlv c hl,rfl,rfl,rfl⟩,rfl⟩
  obtain ⟨b',o,hb',ho,hx⟩:=hr.live id x hg
  have ebb:b'=b:=Option.some.inj (hb'.symm.trans hb)
  subst ebb
  refine ⟨⟨?_,?_,?_,?_,?_,?_,hr.low,fun i hi => ?_,fun b hb hl=>hr.disj b hb (hlv b hl)⟩,hsim⟩
  · intro i y e
    rw [hget] at e
    by_cases hi:i=h.next
    · rw [if_pos hi] at e; cases e
      exact ⟨b',o,hi▸extend_self ρ _ _,ho,hx.mono hsim hr.bound⟩
    · rw [if_neg hi] at e
      by_cases hi':i=id
      · rw [if_pos hi'] at e; cases e
      · rw [if_neg hi'] at e
        obtain ⟨c,o'',h1,h2,h3⟩:=hr.live i y e
        exact ⟨c,o'',hnames _ _ h1,h2,h3.mono hsim hr.bound⟩
  · intro i j y z c e1 e2 e3 e4
    have f:∀ i y,h'.t.get i=some y→ρ' i=some c→∃ i' y',h.t.get i'=some y'∧ρ i'=some c∧i'≠h.next∧(i=h.next∧i'=id∨i≠h.next∧i'=i∧i≠id):=by
      intro i y e1 e3
      rw [hget] at e1
      by_cases hi:i=h.next
      · rw [hi,show ρ' h.next=_ from extend_self ρ _ _] at e3
        cases e3
        exact ⟨id,x,hg,hb,hne,.inl ⟨hi,rfl⟩⟩
      · rw [if_neg hi] at e1
        rw [show ρ' i=_ from extend_ne ρ _ hi] at e3
        by_cases hi':i=id
        · rw [if_pos hi'] at e1; cases e1
        · rw [if_neg hi'] at e1; exact ⟨i,y,e1,e3,hi,.inr ⟨hi,rfl,hi'⟩⟩
    obtain ⟨i',y',f1,f2,_,f4⟩:=f i y e1 e3
    obtain ⟨j',z',g1,g2,_,g4⟩:=f j z e2 e4
    have:=hr.inj i' j' y' z' c f1 g1 f2 g2
    rcases f4 with ⟨a1,a2⟩ | ⟨a1,a2,a3⟩<;>rcases g4 with ⟨c1,c2⟩ | ⟨c1,c2,c3⟩
    · rw [a1,c1]
    · exact absurd (c2.symm.trans (this.symm.trans a2)) c3
    · exact absurd (a2.symm.trans (this.trans c2)) a3
    · rw [← a2,← c2]; exact this
  · intro i cs e1 e2
    rw [hget] at e1
    by_cases hi:i=h.next
    · rw [if_pos hi] at e1; cases e1
    · rw [if_neg hi] at e1
      by_cases hi':i=id
      · rw [hi',show h'.ro=h.ro from rfl,hro] at e2; cases e2
      · rw [if_neg hi'] at e1
        obtain ⟨c,cc,el,fz,h1,h2,h3,h4⟩:=hr.ro i cs e1 e2
        exact ⟨c,cc,el,fz,hnames _ _ h1,⟨fun hl=>h2.1 (hlv c hl),h2.2⟩,h3,h4.mono hsim hr.bound⟩
  · intro i hi
    have hi':h.next.succ.num≤i.num:=hi
    rw [Pth.num_succ] at hi'
    have:i≠h.next:=fun e=>by rw [e] at hi'; omega
    exact (extend_ne ρ _ this).trans (hr.fresh i (by omega))
  · intro i c e
    by_cases hi:i=h.next
    · rw [hi,show ρ' h.next=_ from extend_self ρ _ _] at e
      cases e
      exact hr.bound _ _ hb
    · rw [show ρ' i=_ from extend_ne ρ _ hi] at e
      exact hr.bound i c e
  · intro g cs e
    obtain ⟨h1,c,el,fz,h2,h3⟩:=hr.globs g cs e
    exact ⟨⟨fun hl=>h1.1 (hlv _ hl),h1.2⟩,c,el,fz,h2,h3.mono hsim hr.bound⟩
  · obtain ⟨h1,h2⟩:=hr.resv i hi
    have hne:i≠h.next:=fun e=>by rw [e] at h2; omega
    exact ⟨(extend_ne ρ _ hne).trans h1,Nat.lt_of_lt_of_le h2 (by show _≤h.next.succ.num; rw [Pth.num_succ]; omega)⟩
theorem HR.skip (hr:HR P X ρ h w) {nx:Pth} (hnx:h.next.num≤nx.num):HR P X ρ { h with next:=nx } w :=
  ⟨hr.live,hr.inj,hr.ro,fun i hi=>hr.fresh i (Nat.le_trans hnx hi),hr.bound,hr.globs,hr.low,fun i hi=>⟨(hr.resv i hi).1,Nat.lt_of_lt_of_le (hr.resv i hi).2 hnx⟩,hr.disj⟩
theorem HR.drawn (hr:HR P X ρ h w) (n:Nat):HR P X ρ h { w with drawn:=n }∧Sim ρ (Lv ρ h) w ρ (Lv ρ h) { w with drawn:=n }:=by
  have hsim:Sim ρ (Lv ρ h) w ρ (Lv ρ h) { w with drawn:=n }:=⟨⟨fun _ h=>h,fun _ _ h=>h,fun _ _ e=>e,Nat.le_refl _,fun _ _ _=>rfl,fun _ _=>.of_eq rfl,fun _ _ e=>e,rfl,rfl,rfl⟩,rfl⟩
  refine ⟨⟨?_,hr.inj,?_,hr.fresh,hr.bound,?_,hr.low,hr.resv,hr.disj⟩,hsim⟩
  · intro i y e
    obtain ⟨b,o,h1,h2,h3⟩:=hr.live i y e
    exact ⟨b,o,h1,h2,h3.mono hsim hr.bound⟩
  · intro i cs e1 e2
    obtain ⟨b,c,el,fz,h1,h2,h3,h4⟩:=hr.ro i cs e1 e2
    exact ⟨b,c,el,fz,h1,h2,h3,h4.mono hsim hr.bound⟩
  · intro g cs e
    obtain ⟨h1,c,el,fz,h2,h3⟩:=hr.globs g cs e
    exact ⟨h1,c,el,fz,h2,h3.mono hsim hr.bound⟩
theorem HR.cellsAt (hr:HR P X ρ h w) {id:Pth} {cs:List AV} (e:h.cellsAt id=some cs) {b:Nat} (hb:ρ id=some b) :
    ∃ c el fz,w.heap[b]?=some (.cells c el fz)∧VRp w ρ (Lv ρ h) cs c.toList:=by
  unfold H.cellsAt at e
  cases hg:h.t.get id with
  | some x =>
    rw [hg] at e
    cases x with
    | cells cs' sp =>
      simp at e; subst e
      obtain ⟨b',o,h1,h2,c,el,lo,hi,rfl,h4,_⟩:=hr.live id _ hg
      cases hb.symm.trans h1
      exact ⟨c,el,_,h2,h4⟩
    | _=>simp at e
  | none =>
    rw [hg] at e
    obtain ⟨b',c,el,fz,h1,_,h3,h4⟩:=hr.ro id cs hg e
    cases hb.symm.trans h1
    exact ⟨c,el,fz,h3,h4⟩
end
end Go.Abs
end
section
namespace Go.Abs
variable [envI:Env]
section
variable {P:Program}
omit envI in
theorem info_of_underlying {t:TypeId} {d:TypeDesc} (h:P.underlying t=some d):∃ i,P.info? t=some i:=by
  unfold Program.underlying at h
  cases e:P.info? t with
  | some i=>exact ⟨i,rfl⟩
  | none=>rw [e] at h; cases h
omit envI in
theorem run_sizeOf_of {t:TypeId} {d:TypeDesc} (h:P.underlying t=some d) (w:World):(sizeOf t).run P w=.ok (P.cellsOf t) w:=by
  obtain ⟨i,hi⟩:=info_of_underlying h
  simp [sizeOf,typeInfo,hi,Program.cellsOf]
omit envI in
theorem run_typeInfo_of {t:TypeId} {i:TypeInfo} (h:P.info? t=some i) (w:World):(typeInfo t).run P w=.ok i w:=by
  simp [typeInfo,h]
omit envI in
theorem aggN_some {t:TypeId} {n:Option Nat} (h:aggN P t=some n):∃ d,P.underlying t=some d∧(∀ w,(isAgg t).run P w=.ok n.isSome w)∧(∀ m,n=some m→m=P.cellsOf t):=by
  unfold aggN at h
  cases e:P.underlying t with
  | none=>rw [e] at h; cases h
  | some d =>
    rw [e] at h
    refine ⟨d,rfl,fun w => ?_,?_⟩
    · unfold isAgg
      rw [Sem.run_bind,run_underlying e w]
      cases d<;>simp at h<;>subst h<;>rfl
    · intro m hm
      cases d<;>simp at h<;>subst h<;>simp at hm<;>exact hm.symm
omit envI in
theorem cell_at (w:World) (b i:Nat) (c:Array Value) (el:TypeId) (fz:Nat×Nat) (h:w.heap[b]?=some (.cells c el fz)):w.cell? ⟨b,i,none⟩=c[i]?:=cell_of_row w b i c el fz h
omit envI in
theorem add_plain (b off n:Nat):(⟨b,off,none⟩:Addr).add n=⟨b,off+n,none⟩:=by
  unfold Addr.add; split
  · rename_i h; subst h; rfl
  · rfl
omit envI in
theorem run_loadCells_at {w:World} {b off n:Nat} {c:Array Value} {el:TypeId} {fz:Nat×Nat} (h:w.heap[b]?=some (.cells c el fz)) (hle:off+n≤c.toList.length) :
    (loadCells ⟨b,off,none⟩ n).run P w=.ok ((c.toList.drop off).take n).toArray w:=by
  have hlen:((c.toList.drop off).take n).length=n:=by simp at hle ⊢; omega
  have := run_loadCells_list (P:=P) w ⟨b,off,none⟩ ((c.toList.drop off).take n) (fun j v hv=>by
    rw [add_plain,cell_at w b _ c el fz h]
    have hj:j<n:=by
      rcases Nat.lt_or_ge j n with h' | h'
      · exact h'
      · rw [List.getElem?_eq_none (by omega)] at hv; cases hv
    rw [List.getElem?_take_of_lt hj,List.getElem?_drop] at hv
    simpa using hv)
  rw [hlen] at this
  exact this
omit envI in
omit envI in
def partV (vs:List Value) (off:Nat):Option Nat→Option Value
  | some n=>if off+n≤vs.length∨n=0 then some (.agg ((vs.drop off).take n).toArray) else none
  | none=>vs[off]?
theorem partA_rel {w:World} {ρ:Nm} {L:Nat→Prop} {cs:List AV} {off:Nat} {n:Option Nat} {a:AV} {vs:List Value} (h:partA cs off n=some a) (hv:VRp w ρ L cs vs) :
    ∃ v,partV vs off n=some v∧VR w ρ L a v:=by
  cases n with
  | some n =>
    simp only [partA,Option.map_eq_some_iff] at h
    obtain ⟨l,hl,rfl⟩:=h
    obtain ⟨h1,h2,h3⟩:=takeD_rel hl hv
    refine ⟨_,if_pos ?_,?_⟩
    · rcases h2 with h2 | h2
      · exact .inr h2
      · exact .inl h2
    · simp only [VR]
      exact ⟨_,rfl,by simpa using h3⟩
  | none =>
    simp only [partA] at h
    cases hl:takeD cs off 1 with
    | none=>rw [hl] at h; simp at h
    | some l =>
      rw [hl] at h
      obtain ⟨h1,h2,h3⟩:=takeD_rel hl hv
      match l,h with
      | [b],h =>
        simp at h; subst h
        simp only [VRs] at h3
        obtain ⟨v,vs',e1,e2,e3⟩:=h3
        refine ⟨v,?_,e2⟩
        simp only [partV]
        have:((vs.drop off).take 1)[0]?=some v:=by rw [e1]; rfl
        rw [List.getElem?_take_of_lt (by omega),List.getElem?_drop] at this
        simpa using this
omit envI in
theorem run_loadVar_at {w:World} {b off:Nat} {c:Array Value} {el:TypeId} {fz:Nat×Nat} {t:TypeId} {n:Option Nat} {v:Value} (hn:aggN P t=some n)
    (h:w.heap[b]?=some (.cells c el fz)) (hv:partV c.toList off n=some v):(loadVar t ⟨b,off,none⟩).run P w=.ok v w:=by
  obtain ⟨d,hu,hagg,hm⟩:=aggN_some hn
  unfold loadVar
  rw [Sem.run_bind,hagg w]
  cases n with
  | none =>
    simp only [Option.isSome_none,Result.andThen_ok,Bool.false_eq_true,if_false]
    rw [run_load,cell_at w b off c el fz h]
    simp only [partV] at hv
    rw [← Array.getElem?_toList,hv]
  | some m =>
    simp only [Option.isSome_some,Result.andThen_ok,if_true]
    simp only [partV] at hv
    rw [Sem.run_bind,run_sizeOf_of hu w,← hm m rfl]
    simp only [Result.andThen_ok]
    rw [Sem.run_bind]
    by_cases hle:off+m≤c.toList.length∨m=0
    · rw [if_pos hle] at hv
      rcases hle with hle | h0
      · rw [run_loadCells_at h hle]
        simp only [Result.andThen_ok,Sem.run_pure]
        cases hv; rfl
      · subst h0
        simp only [loadCells,loadCellsFrom,Sem.run_pure,Result.andThen_ok]
        cases hv; simp
    · rw [if_neg hle] at hv; cases hv
omit envI in
theorem run_part {t:TypeId} {n:Option Nat} {cs:Array Value} {off:Nat} {v:Value} (hn:aggN P t=some n) (hv:partV cs.toList off n=some v) (w:World) :
    (part t cs off).run P w=.ok v w:=by
  obtain ⟨d,hu,hagg,hm⟩:=aggN_some hn
  unfold part
  rw [Sem.run_bind,hagg w]
  cases n with
  | none =>
    simp only [Option.isSome_none,Result.andThen_ok,Bool.false_eq_true,if_false]
    simp only [partV] at hv
    rw [Array.getElem?_toList] at hv
    rw [hv]; rfl
  | some m =>
    simp only [Option.isSome_some,Result.andThen_ok,if_true]
    rw [Sem.run_bind,run_sizeOf_of hu w,← hm m rfl]
    simp only [Result.andThen_ok,Sem.run_pure]
    simp only [partV] at hv
    split at hv
    · cases hv
      congr 2
      apply Array.ext'
      simp [Array.toList_extract,List.extract]
    · cases hv
theorem ofVal_rel {w:World} {ρ:Nm} {L:Nat→Prop}:∀ (d:Nat) (v:Value) (a:AV),ofVal d v=some a→VR w ρ L a v:=by
  intro d
  induction d with
  | zero =>
    intro v a h
    unfold ofVal at h
    split at h<;>first
      | contradiction
      | (cases h; simp [VR,bytesL]; done)
      | (cases h; done)
      | (split at h
         · rename_i f x y hxy
           cases h
           simp only [VR,VRs,pth_num]
           simp only [Bool.and_eq_true,beq_iff_eq,Array.size_eq_zero_iff] at hxy
           exact ⟨x,y,rfl,by simp [hxy.1],by simp [hxy.2]⟩
         · cases h)
  | succ d ih =>
    have hl:∀ (l:List Value) (as:List AV),l.mapM (ofVal d)=some as→VRs w ρ L as l:=by
      intro l
      induction l with
      | nil=>intro as h; simp at h; subst h; simp [VRs]
      | cons x l ihl =>
        intro as h
        simp only [List.mapM_cons,Option.bind_eq_bind,Option.bind_eq_some_iff,Option.pure_def,Option.some.injEq] at h
        obtain ⟨a,h1,as',h2,rfl⟩:=h
        simp only [VRs]
        exact ⟨x,l,rfl,ih x a h1,ihl as' h2⟩
    intro v a h
    unfold ofVal at h
    split at h<;>first
      | (cases h; simp [VR,bytesL]; done)
      | (cases h; done)
      | (simp only [Option.map_eq_some_iff] at h
         obtain ⟨as,h1,rfl⟩:=h
         simp only [VR]
         first
           | exact ⟨_,rfl,hl _ _ (by simpa using h1)⟩
           | (rename_i e; cases e; exact ⟨_,rfl,hl _ _ (by simpa using h1)⟩)
           | (rename_i e; cases e; exact ⟨_,rfl,ih _ _ h1⟩)
           | exact ⟨_,rfl,ih _ _ h1⟩)
      | (split at h
         · rename_i f x y hxy
           cases h
           simp only [VR,VRs,pth_num]
           simp only [Bool.and_eq_true,beq_iff_eq,Array.size_eq_zero_iff] at hxy
           exact ⟨x,y,rfl,by simp [hxy.1],by simp [hxy.2]⟩
         · cases h)
theorem opd_rel {X:Ctx} {ρ:Nm} {h:H} {w:World} (hr:HR P X ρ h w) {fr:Tr AV} {a:Act} (hf:FR w ρ (Lv ρ h) fr a.tmps) {x:Operand} {o:Opd} {v:AV}
    (ho:opd x=some o) (he:evalA X fr o=some v):VR w ρ (Lv ρ h) v (a.eval x):=by
  cases x with
  | tmp t =>
    simp only [opd,Option.some.injEq] at ho; subst ho
    obtain ⟨u,h1,h2⟩:=hf _ _ he
    rw [pth_num] at h1
    simp only [Act.eval,Array.getD_eq_getD_getElem?,h1]
    exact h2
  | const c =>
    simp only [opd,Option.map_eq_some_iff] at ho
    obtain ⟨b,h1,rfl⟩:=ho
    simp only [evalA,Option.some.injEq] at he; subst he
    exact ofVal_rel _ _ _ h1
  | global g =>
    simp only [opd,Option.some.injEq] at ho; subst ho
    simp only [evalA,Option.map_eq_some_iff] at he
    obtain ⟨cs,h1,rfl⟩:=he
    obtain ⟨h2,c,el,fz,h3,h4⟩:=hr.globs _ _ h1
    rw [pth_num] at h2 h3
    simp only [VR,Act.eval]
    exact ⟨g,0,c,el,fz,rfl,h2,h3,by simpa using h4⟩
  | func f =>
    simp only [opd,Option.some.injEq] at ho; subst ho
    simp only [evalA,Option.some.injEq] at he; subst he
    simp only [VR,VRs,Act.eval,pth_num]
    exact ⟨#[],#[],rfl,rfl,rfl⟩
theorem opds_rel {X:Ctx} {ρ:Nm} {h:H} {w:World} (hr:HR P X ρ h w) {fr:Tr AV} {a:Act} (hf:FR w ρ (Lv ρ h) fr a.tmps):∀ {xs:List Operand} {os:List Opd} {vs:List AV},
    xs.mapM opd=some os→evalAll X fr os=some vs→VRs w ρ (Lv ρ h) vs (xs.map a.eval)
  | [],os,vs,ho,he=>by
    simp at ho; subst ho
    simp [evalAll] at he; subst he
    simp [VRs]
  | x :: xs,os,vs,ho,he=>by
    simp only [List.mapM_cons,Option.bind_eq_bind,Option.bind_eq_some_iff,Option.pure_def,Option.some.injEq] at ho
    obtain ⟨o,h1,os',h2,rfl⟩:=ho
    simp only [evalAll] at he
    cases e1:evalA X fr o with
    | none=>rw [e1] at he; simp at he
    | some v =>
      rw [e1] at he
      cases e2:evalAll X fr os' with
      | none=>rw [e2] at he; simp at he
      | some vs' =>
        rw [e2] at he
        simp at he; subst he
        simp only [VRs,List.map_cons]
        exact ⟨_,_,rfl,opd_rel hr hf h1 e1,opds_rel hr hf h2 e2⟩
end
end Go.Abs
end
section
namespace Go.Abs
variable [envI:Env]
section
variable {P:Program} {X:Ctx} {ρ:Nm} {h:H} {w:World}
theorem bool_of {b:Bool} {v:Value} {L:Nat→Prop} (hv:VR w ρ L (.bool b) v):v=.bool b:=by simpa only [VR] using hv
theorem int_of {k:IntKind} {n:Int} {v:Value} {L:Nat→Prop} (hv:VR w ρ L (.int k n) v):v=.int k n:=by simpa only [VR] using hv
omit envI in
theorem eqI_iff:∀ {a b:Int},eqI a b=(a==b)
  | .ofNat a,.ofNat b=>by
    rw [Bool.eq_iff_iff]; simp [eqI]; omega
  | .negSucc a,.negSucc b=>by
    rw [Bool.eq_iff_iff]; simp [eqI]
  | .ofNat a,.negSucc b=>by rw [Bool.eq_iff_iff]; simp [eqI]
  | .negSucc a,.ofNat b=>by rw [Bool.eq_iff_iff]; simp [eqI]
omit envI in
theorem ltI_iff:∀ {a b:Int},ltI a b=decide (a<b)
  | .ofNat a,.ofNat b=>by rw [Bool.eq_iff_iff]; simp [ltI,Nat.blt_eq]
  | .negSucc a,.negSucc b=>by rw [Bool.eq_iff_iff]; simp [ltI,Nat.blt_eq]; omega
  | .ofNat a,.negSucc b=>by rw [Bool.eq_iff_iff]; simp [ltI]; omega
  | .negSucc a,.ofNat b=>by rw [Bool.eq_iff_iff]; simp [ltI]; omega
omit envI in
theorem leI_iff:∀ {a b:Int},leI a b=decide (a≤b)
  | .ofNat a,.ofNat b=>by rw [Bool.eq_iff_iff]; simp [leI]
  | .negSucc a,.negSucc b=>by rw [Bool.eq_iff_iff]; simp [leI]; omega
  | .ofNat a,.negSucc b=>by rw [Bool.eq_iff_iff]; simp [leI]; omega
  | .negSucc a,.ofNat b=>by rw [Bool.eq_iff_iff]; simp [leI]; omega
omit envI in
theorem eqK_iff {j k:IntKind}:eqK j k=true↔j=k:=by
  cases j<;>cases k<;>simp [eqK,kindNo]
omit envI in
theorem blt_lt {m n:Nat} (hb:Nat.blt m n=true):m<n:=Nat.le_of_ble_eq_true hb
omit envI in
theorem wrap_top (k:IntKind) (m:Nat) (hm:m<topOf k):k.wrap (m:Int)=(m:Int):=by
  cases k<;>simp only [topOf] at hm
  · exact IntWalk.i8_in _ ⟨by omega,by omega⟩
  · exact IntWalk.i16_in _ ⟨by omega,by omega⟩
  · exact IntWalk.i32_in _ ⟨by omega,by omega⟩
  · exact IntWalk.i64_in _ ⟨by omega,by omega⟩
  · exact IntWalk.u8_in _ ⟨by omega,by omega⟩
  · exact IntWalk.u16_in _ ⟨by omega,by omega⟩
  · exact IntWalk.u32_in _ ⟨by omega,by omega⟩
  · exact IntWalk.u64_in _ ⟨by omega,by omega⟩
omit envI in
theorem cond_wrap {k:IntKind} {n:Int} {b:Bool} (hb:b=true→k.wrap n=n):cond b n (k.wrap n)=k.wrap n:=by
  cases b with
  | false=>rfl
  | true=>exact (hb rfl).symm
omit envI in
theorem wrap_neg8 (m:Nat) (hm:m<128):IntKind.i8.wrap (Int.negSucc m)=Int.negSucc m:=IntWalk.i8_in (Int.negSucc m) ⟨by omega,by omega⟩
omit envI in
theorem wrap_neg16 (m:Nat) (hm:m<32768):IntKind.i16.wrap (Int.negSucc m)=Int.negSucc m:=IntWalk.i16_in (Int.negSucc m) ⟨by omega,by omega⟩
omit envI in
theorem wrap_neg32 (m:Nat) (hm:m<2147483648):IntKind.i32.wrap (Int.negSucc m)=Int.negSucc m:=IntWalk.i32_in (Int.negSucc m) ⟨by omega,by omega⟩
omit envI in
theorem wrap_neg64 (m:Nat) (hm:m<9223372036854775808):IntKind.i64.wrap (Int.negSucc m)=Int.negSucc m:=IntWalk.i64_in (Int.negSucc m) ⟨by omega,by omega⟩
omit envI in
theorem wrapA_eq (k:IntKind):∀ n:Int,wrapA k n=k.wrap n
  | .ofNat m=>cond_wrap fun hb=>wrap_top k m (blt_lt hb)
  | .negSucc m=>match k with
    | .i8=>cond_wrap fun hb=>wrap_neg8 m (blt_lt hb)
    | .i16=>cond_wrap fun hb=>wrap_neg16 m (blt_lt hb)
    | .i32=>cond_wrap fun hb=>wrap_neg32 m (blt_lt hb)
    | .i64=>cond_wrap fun hb=>wrap_neg64 m (blt_lt hb)
    | .u8=>rfl
    | .u16=>rfl
    | .u32=>rfl
    | .u64=>rfl
omit envI in
theorem eqS_iff:∀ {a b:List Nat},eqS a b=true↔a=b
  | [],[]=>by simp [eqS]
  | [],_::_=>by simp [eqS]
  | _::_,[]=>by simp [eqS]
  | a :: x,b::y=>by
    simp only [eqS,List.cons.injEq]
    cases hb:Nat.beq a b with
    | true =>
      have:=Nat.eq_of_beq_eq_true hb
      simp [eqS_iff (a:=x) (b:=y),this]
    | false =>
      have:a≠b:=fun e=>by subst e; simp at hb
      simp [this]
omit envI in
theorem bytesL_inj {x y:ByteArray} (h:bytesL x=bytesL y):x=y:=by
  obtain ⟨⟨x⟩⟩:=x
  obtain ⟨⟨y⟩⟩:=y
  simp only [bytesL] at h
  have : x=y:=by
    induction x generalizing y with
    | nil=>cases y<;>simp at h ⊢
    | cons a x ih =>
      cases y with
      | nil=>simp at h
      | cons b y =>
        simp only [List.map_cons,List.cons.injEq] at h
        have:=ih y h.2
        rw [this,UInt8.toNat_inj.1 h.1]
  rw [this]
omit envI in
theorem eqS_bytes (x y:ByteArray):eqS (bytesL x) (bytesL y)=(x.toList==y.toList):=by
  rw [← beq_toListBytes,Bool.eq_iff_iff,eqS_iff]
  constructor
  · intro e; rw [bytesL_inj e,beq_toListBytes]; simp
  · intro e
    rw [beq_toListBytes] at e
    have:x.toList=y.toList:=by simpa using e
    rw [ByteArray.toList_eq,ByteArray.toList_eq] at this
    simp only [bytesL]; rw [this]
omit envI in
theorem bytesLt_eq:∀ (x y:List UInt8),bytesLt (x.map (·.toNat)) (y.map (·.toNat))=Op.bytesLess x y
  | _,[]=>by simp [bytesLt,Op.bytesLess]
  | [],_::_=>by simp [bytesLt,Op.bytesLess]
  | a :: x,b::y=>by
    simp only [List.map_cons,bytesLt,Op.bytesLess,bytesLt_eq x y]
    congr 1
    · rw [Bool.eq_iff_iff,Nat.blt_eq]; simp [UInt8.lt_iff_toNat_lt]
    · congr 1
      rw [Bool.eq_iff_iff]
      constructor
      · intro e; have:=Nat.eq_of_beq_eq_true e; simpa using UInt8.toNat_inj.1 this
      · intro e; have:a=b:=by simpa using e
        subst this; simp
omit envI in
theorem bytesLt_bytes (x y:ByteArray):bytesLt (bytesL x) (bytesL y)=Op.bytesLess x.toList y.toList:=by
  rw [ByteArray.toList_eq,ByteArray.toList_eq]
  exact bytesLt_eq _ _
omit envI in
theorem bytesL_append (x y:ByteArray):bytesL (x++y)=bytesL x++bytesL y:=by
  simp [bytesL]
omit envI in
theorem bytesL_length (x:ByteArray):(bytesL x).length=x.size:=by
  simp [bytesL]
theorem read_load {t:TypeId} {n:Option Nat} (hn:aggN P t=some n) (hr:HR P X ρ h w) {a r:AV} {x:Value} (hx:VR w ρ (Lv ρ h) a x) (e:loadA h n a=some r) :
    ∃ v,(Instr.loadAt t x).run P w=.ok v w∧VR w ρ (Lv ρ h) r v:=by
  cases a<;>simp only [loadA] at e<;>first | (cases e; done) | skip
  case ptr id off =>
    simp only [VR] at hx
    obtain ⟨b,hb,rfl⟩:=hx
    cases hc:h.cellsAt id with
    | none=>rw [hc] at e; cases e
    | some cs =>
      rw [hc] at e
      obtain ⟨c,el,fz,h1,h2⟩:=hr.cellsAt hc hb
      obtain ⟨v,h3,h4⟩:=partA_rel e h2
      refine ⟨v,?_,h4⟩
      simp only [Instr.loadAt,Instr.sureAddr,Sem.run_bind,Sem.run_pure,Result.andThen_ok]
      exact run_loadVar_at hn h1 h3
  case rptr cs =>
    simp only [VR] at hx
    obtain ⟨b,off,c,el,fz,rfl,_,h1,h2⟩:=hx
    obtain ⟨v,h3,h4⟩:=partA_rel e h2
    refine ⟨v,?_,h4⟩
    simp only [Instr.loadAt,Instr.sureAddr,Sem.run_bind,Sem.run_pure,Result.andThen_ok]
    refine run_loadVar_at hn h1 ?_
    cases n with
    | none=>simp only [partV,List.getElem?_drop,Nat.add_zero] at h3 ⊢; exact h3
    | some m =>
      simp only [partV,List.drop_zero,Nat.zero_add,List.length_drop] at h3 ⊢
      split at h3
      · rename_i hle
        cases h3
        rw [if_pos]
        rcases hle with hle | h0
        · by_cases hm:m=0
          · exact .inr hm
          · left; omega
        · exact .inr h0
      · cases h3
theorem read_fieldAddr {s:TypeId} {fs:Array Field} {f:Nat} {fl:Field} (hs:P.underlying s=some (.struct fs)) (hf:fs[f]?=some fl) (hz:P.cellsOf fl.type≠0)
    {n:Option Nat} (hn:aggN P fl.type=some n) {a r:AV} {x:Value} (hx:VR w ρ (Lv ρ h) a x) (e:readA h (.fieldAddr fl.offset) [a]=some r) :
    ∃ v,(Instr.fieldAt s x f).run P w=.ok v w∧VR w ρ (Lv ρ h) r v:=by
  obtain ⟨d,hu,_,_⟩:=aggN_some hn
  have run:∀ b off,(Instr.fieldAt s (.pointer (some ⟨b,off,none⟩)) f).run P w=.ok (.pointer (some ⟨b,off+fl.offset,none⟩)) w:=by
    intro b off
    simp only [Instr.fieldAt,Sem.run_bind,run_underlying hs w,Result.andThen_ok,hf,Instr.sureAddr,Sem.run_pure,fieldPlace,run_sizeOf_of hu w,if_neg hz,add_plain]
  cases a<;>simp only [readA] at e<;>first | (cases e; done) | skip
  case ptr id off =>
    cases e
    simp only [VR] at hx
    obtain ⟨b,hb,rfl⟩:=hx
    exact ⟨_,run b off,by simp only [VR]; exact ⟨b,hb,rfl⟩⟩
  case rptr cs =>
    cases hb:Nat.ble fl.offset cs.length with
    | false=>rw [hb] at e; cases e
    | true =>
      rw [hb] at e
      cases e
      simp only [VR] at hx
      obtain ⟨b,off,c,el,fz,rfl,h0,h1,h2⟩:=hx
      refine ⟨_,run b off,?_⟩
      simp only [VR]
      refine ⟨b,off+fl.offset,c,el,fz,rfl,h0,h1,?_⟩
      have:=h2.drop fl.offset
      rwa [List.drop_drop] at this
theorem read_field {s:TypeId} {fs:Array Field} {f:Nat} {fl:Field} (hs:P.underlying s=some (.struct fs)) (hf:fs[f]?=some fl)
    {n:Option Nat} (hn:aggN P fl.type=some n) {a r:AV} {x:Value} (hx:VR w ρ (Lv ρ h) a x) (e:readA h (.field fl.offset n) [a]=some r) :
    ∃ v,(Instr.field s x f).run P w=.ok v w∧VR w ρ (Lv ρ h) r v:=by
  cases a<;>simp only [readA] at e<;>first | (cases e; done) | skip
  case agg cs =>
    simp only [VR] at hx
    obtain ⟨y,rfl,h2⟩:=hx
    obtain ⟨v,h3,h4⟩:=partA_rel e h2.toP
    refine ⟨v,?_,h4⟩
    simp only [Instr.field,Sem.run_bind,run_underlying hs w,Result.andThen_ok,hf,asAgg,Sem.run_pure]
    exact run_part hn h3 w
omit envI in
theorem ltI_true {a b:Int} (e:ltI a b=true):a<b:=by rw [ltI_iff] at e; simpa using e
omit envI in
theorem leI_true {a b:Int} (e:leI a b=true):a≤b:=by rw [leI_iff] at e; simpa using e
theorem read_indexSlc {t el:TypeId} (ht:P.underlying t=some (.slice el)) {n:Option Nat} (hn:aggN P el=some n) {a i r:AV} {x y:Value} (hx:VR w ρ (Lv ρ h) a x) (hy:VR w ρ (Lv ρ h) i y)
    (e:indexAddrA (.slc (P.cellsOf el)) a i=some r):∃ v,(Instr.indexAt t x y).run P w=.ok v w∧VR w ρ (Lv ρ h) r v:=by
  obtain ⟨d,hu,_,_⟩:=aggN_some hn
  have run:∀ b off (len:Nat) c k (m:Int),0≤m→m<(len:Int)→(Instr.indexAt t (.slice (some ⟨b,off,none⟩) len c) (.int k m)).run P w=.ok (.pointer (some ⟨b,off+m.toNat*P.cellsOf el,none⟩)) w:=by
    intro b off len c k m h1 h2
    have h12:0≤m∧m<(len:Int):=⟨h1,h2⟩
    simp [Instr.indexAt,asIntOf,run_underlying ht w,run_sizeOf_of hu w,h12,add_plain]
  cases a<;>cases i<;>simp only [indexAddrA] at e<;>first | (cases e; done) | skip
  case slc.int id off len sz cap k m =>
    simp only [VR] at hx
    obtain ⟨b,c,hb,rfl,_,_⟩:=hx
    rw [int_of hy]
    cases hc:(Nat.beq (P.cellsOf el) sz&&leI 0 m&&ltI m (.ofNat len)) with
    | false=>rw [hc] at e; cases e
    | true =>
      rw [hc] at e; cases e
      simp only [Bool.and_eq_true] at hc
      have e1:=Nat.eq_of_beq_eq_true hc.1.1
      refine ⟨_,run b off len c k m (leI_true hc.1.2) (ltI_true hc.2),?_⟩
      simp only [VR]
      exact ⟨b,hb,by rw [e1]⟩
  case rslc.int len cs k m =>
    simp only [VR] at hx
    obtain ⟨ad,c,rfl,_,hcs⟩:=hx
    rw [int_of hy]
    cases hc:(leI 0 m&&ltI m (.ofNat len)) with
    | false=>rw [hc] at e; cases e
    | true =>
      rw [hc] at e
      simp only [cond_true] at e
      simp only [Bool.and_eq_true] at hc
      rcases hcs with ⟨rfl,_⟩ | ⟨b,off,cc,el',fz,rfl,h0,h1,h2⟩
      · simp at e
      · cases hq:cs with
        | nil=>rw [hq] at e; simp at e
        | cons q qs =>
          rw [hq] at e
          simp only [Option.some.injEq] at e
          subst e
          rw [← hq]
          refine ⟨_,run b off len c k m (leI_true hc.1) (ltI_true hc.2),?_⟩
          simp only [VR]
          refine ⟨b,off+m.toNat*P.cellsOf el,cc,el',fz,rfl,h0,h1,?_⟩
          have:=h2.drop (m.toNat*P.cellsOf el)
          rwa [List.drop_drop] at this
theorem read_indexArr {t el:TypeId} {len:Nat} (ht:P.underlying t=some (.array len el)) {n:Option Nat} (hn:aggN P el=some n) {a i r:AV} {x y:Value} (hx:VR w ρ (Lv ρ h) a x) (hy:VR w ρ (Lv ρ h) i y)
    (e:indexAddrA (.arr len (P.cellsOf el)) a i=some r):∃ v,(Instr.indexAt t x y).run P w=.ok v w∧VR w ρ (Lv ρ h) r v:=by
  obtain ⟨d,hu,_,_⟩:=aggN_some hn
  have run:∀ b off k (m:Int),0≤m→m<(len:Int)→(Instr.indexAt t (.pointer (some ⟨b,off,none⟩)) (.int k m)).run P w=.ok (.pointer (some ⟨b,off+m.toNat*P.cellsOf el,none⟩)) w:=by
    intro b off k m h1 h2
    have h12:0≤m∧m<(len:Int):=⟨h1,h2⟩
    simp [Instr.indexAt,asIntOf,run_underlying ht w,run_sizeOf_of hu w,h12,add_plain,Instr.sureAddr]
  cases a<;>cases i<;>simp only [indexAddrA] at e<;>first | (cases e; done) | skip
  case ptr.int id off k m =>
    simp only [VR] at hx
    obtain ⟨b,hb,rfl⟩:=hx
    rw [int_of hy]
    cases hc:(leI 0 m&&ltI m (.ofNat len)) with
    | false=>rw [hc] at e; cases e
    | true =>
      rw [hc] at e; cases e
      simp only [Bool.and_eq_true] at hc
      refine ⟨_,run b off k m (leI_true hc.1) (ltI_true hc.2),?_⟩
      simp only [VR]
      exact ⟨b,hb,rfl⟩
  case rptr.int cs k m =>
    simp only [VR] at hx
    obtain ⟨b,off,c,el',fz,rfl,h0,h1,h2⟩:=hx
    rw [int_of hy]
    cases hc:(leI 0 m&&ltI m (.ofNat len)) with
    | false=>rw [hc] at e; cases e
    | true =>
      rw [hc] at e; cases e
      simp only [Bool.and_eq_true] at hc
      refine ⟨_,run b off k m (leI_true hc.1) (ltI_true hc.2),?_⟩
      simp only [VR]
      refine ⟨b,off+m.toNat*P.cellsOf el,c,el',fz,rfl,h0,h1,?_⟩
      have:=h2.drop (m.toNat*P.cellsOf el)
      rwa [List.drop_drop] at this
theorem read_indexAgg {t el:TypeId} {len:Nat} (ht:P.underlying t=some (.array len el)) {n:Option Nat} (hn:aggN P el=some n) {a i r:AV} {x y:Value} (hx:VR w ρ (Lv ρ h) a x) (hy:VR w ρ (Lv ρ h) i y)
    (e:readA h (.indexArr len (P.cellsOf el) n) [a,i]=some r):∃ v,(Instr.index t x y).run P w=.ok v w∧VR w ρ (Lv ρ h) r v:=by
  obtain ⟨d,hu,_,_⟩:=aggN_some hn
  cases a<;>cases i<;>simp only [readA] at e<;>first | (cases e; done) | skip
  case agg.int cs k m =>
    simp only [VR] at hx
    obtain ⟨z,rfl,h2⟩:=hx
    rw [int_of hy]
    cases hc:(leI 0 m&&ltI m (.ofNat len)) with
    | false=>rw [hc] at e; cases e
    | true =>
      rw [hc] at e
      simp only [cond_true] at e
      simp only [Bool.and_eq_true] at hc
      obtain ⟨v,h3,h4⟩:=partA_rel e h2.toP
      refine ⟨v,?_,h4⟩
      have h12:0≤m∧m<(len:Int):=⟨leI_true hc.1,ltI_true hc.2⟩
      simp only [Instr.index,asIntOf,Sem.run_bind,Sem.run_pure,Result.andThen_ok,run_underlying ht w,if_pos h12,run_sizeOf_of hu w]
      exact run_part hn h3 w
omit envI in
theorem bytes_get (s:ByteArray) (i:Nat):(bytesL s)[i]?=(s[i]?).map (·.toNat):=by
  simp only [bytesL,List.getElem?_map]
  congr 1
  by_cases hi:i<s.size
  · rw [getElem?_pos s i hi,List.getElem?_eq_getElem (by simpa using hi)]
    rfl
  · rw [getElem?_neg s i hi,List.getElem?_eq_none (by simpa using hi)]
theorem read_indexStr {t:TypeId} (ht:P.underlying t=some .string) {a i r:AV} {x y:Value} (hx:VR w ρ (Lv ρ h) a x) (hy:VR w ρ (Lv ρ h) i y)
    (e:readA h .indexStr [a,i]=some r):∃ v,(Instr.index t x y).run P w=.ok v w∧VR w ρ (Lv ρ h) r v:=by
  cases a<;>cases i<;>simp only [readA] at e<;>first | (cases e; done) | skip
  case str.int s k m =>
    simp only [VR] at hx
    obtain ⟨z,rfl,rfl⟩:=hx
    rw [int_of hy]
    cases hc:leI 0 m with
    | false=>rw [hc] at e; cases e
    | true =>
      rw [hc] at e
      simp only [cond_true,bytes_get] at e
      cases hz:z[m.toNat]? with
      | none=>rw [hz] at e; cases e
      | some b =>
        rw [hz] at e
        simp only [Option.map_some,Option.some.injEq] at e
        subst e
        refine ⟨.int .u8 b.toNat,?_,by simp only [VR]⟩
        have h0:=leI_true hc
        simp only [Instr.index,asIntOf,Sem.run_bind,Sem.run_pure,Result.andThen_ok,run_underlying ht w,if_pos h0,hz]
end
end Go.Abs
end
section
namespace Go.Abs
variable [envI:Env]
section
variable {P:Program} {X:Ctx} {ρ:Nm} {h:H} {w:World} {L:Nat→Prop}
theorem int_ex {s:Sem Value} {k:IntKind} {n:Int} (e:s.run P w=.ok (.int k n) w):∃ v,s.run P w=.ok v w∧VR w ρ L (.int k n) v:=⟨_,e,by simp only [VR]⟩
theorem bool_ex {s:Sem Value} {b:Bool} (e:s.run P w=.ok (.bool b) w):∃ v,s.run P w=.ok v w∧VR w ρ L (.bool b) v:=⟨_,e,by simp only [VR]⟩
omit envI in
theorem run_arith {_op:BinOp} {t:TypeId} {k:IntKind} {x y:Int}:(binOp .add t (.int k x) (.int k y)).run P w=.ok (.int k (k.wrap (x+y))) w ∧
    (binOp .sub t (.int k x) (.int k y)).run P w=.ok (.int k (k.wrap (x - y))) w∧(binOp .mul t (.int k x) (.int k y)).run P w=.ok (.int k (k.wrap (x*y))) w:=by
  refine ⟨?_,?_,?_⟩<;>simp [binOp,Op.intArith]
omit envI in
theorem run_cmp {t:TypeId} {k:IntKind} {x y:Int}:(binOp .lss t (.int k x) (.int k y)).run P w=.ok (.bool (decide (x<y))) w∧(binOp .leq t (.int k x) (.int k y)).run P w=.ok (.bool (decide (x≤y))) w ∧
    (binOp .gtr t (.int k x) (.int k y)).run P w=.ok (.bool (decide (x>y))) w∧(binOp .geq t (.int k x) (.int k y)).run P w=.ok (.bool (decide (x≥y))) w ∧
    (binOp .eql t (.int k x) (.int k y)).run P w=.ok (.bool (x==y)) w∧(binOp .neq t (.int k x) (.int k y)).run P w=.ok (.bool (x != y)) w:=by
  refine ⟨?_,?_,?_,?_,?_,?_⟩<;>simp only [binOp,ne_eq,not_true_eq_false,if_false,Op.intCmp,Sem.run_pure]
omit envI in
theorem run_bits {t:TypeId} {k:IntKind} {x y:Int}:(binOp .and t (.int k x) (.int k y)).run P w=.ok (.int k (k.wrap ((BitVec.ofInt k.bits x &&& BitVec.ofInt k.bits y).toNat:Nat))) w ∧
    (binOp .or t (.int k x) (.int k y)).run P w=.ok (.int k (k.wrap ((BitVec.ofInt k.bits x ||| BitVec.ofInt k.bits y).toNat:Nat))) w ∧
    (binOp .xor t (.int k x) (.int k y)).run P w=.ok (.int k (k.wrap ((BitVec.ofInt k.bits x ^^^ BitVec.ofInt k.bits y).toNat:Nat))) w ∧
    (binOp .andNot t (.int k x) (.int k y)).run P w=.ok (.int k (k.wrap ((BitVec.ofInt k.bits x &&& ~~~(BitVec.ofInt k.bits y)).toNat:Nat))) w:=by
  refine ⟨?_,?_,?_,?_⟩<;>simp only [binOp,ne_eq,not_true_eq_false,if_false,Op.intBits,Sem.run_pure]
omit envI in
theorem run_div {t:TypeId} {k:IntKind} {x y:Int} (hy:¬ y=0):(binOp .quo t (.int k x) (.int k y)).run P w=.ok (.int k (k.wrap (x.tdiv y))) w∧(binOp .rem t (.int k x) (.int k y)).run P w=.ok (.int k (x.tmod y)) w:=by
  refine ⟨?_,?_⟩<;>simp only [binOp,ne_eq,not_true_eq_false,if_false,Op.intDiv,if_neg hy,Sem.run_pure]
omit envI in
theorem run_shift {t:TypeId} {j k:IntKind} {x y:Int} (hy:¬ y<0):(binOp .shl t (.int j x) (.int k y)).run P w=.ok (.int j (j.wrap (x*2 ^ (Nat.min y.toNat j.bits)))) w ∧
    (binOp .shr t (.int j x) (.int k y)).run P w=.ok (.int j (x.fdiv (2 ^ (Nat.min y.toNat j.bits)))) w:=by
  refine ⟨?_,?_⟩<;>simp only [binOp,Op.shift,if_neg hy,Sem.run_pure]<;>rfl
theorem read_bin_int {op:BinOp} {t:TypeId} {j k:IntKind} {x y:Int} {r:AV} (e:binAV op .one (.int j x) (.int k y)=some r) :
    ∃ v,(binOp op t (.int j x) (.int k y)).run P w=.ok v w∧VR w ρ L r v:=by
  have kk:∀ {α:Type} {s:Option α} {r:α},(bif eqK j k then s else none)=some r→j=k∧s=some r:=by
    intro α s r e
    cases hk:eqK j k with
    | false=>rw [hk] at e; cases e
    | true=>rw [hk] at e; exact ⟨eqK_iff.1 hk,e⟩
  have kz:∀ {α:Type} {s:Option α} {r:α},(bif eqI y 0 then none else s)=some r→¬ y=0∧s=some r:=by
    intro α s r e
    cases hk:eqI y 0 with
    | true=>rw [hk] at e; cases e
    | false=>rw [hk] at e; exact ⟨by rw [eqI_iff] at hk; simpa using hk,e⟩
  have kl:∀ {α:Type} {s:Option α} {r:α},(bif ltI y 0 then none else s)=some r→¬ y<0∧s=some r:=by
    intro α s r e
    cases hk:ltI y 0 with
    | true=>rw [hk] at e; cases e
    | false=>rw [hk] at e; exact ⟨by rw [ltI_iff] at hk; simpa using hk,e⟩
  cases op<;>simp only [binAV,eqAV] at e
  case shl =>
    obtain ⟨hy,e'⟩:=kl e; cases e'
    rw [wrapA_eq]; exact int_ex (run_shift hy).1
  case shr =>
    obtain ⟨hy,e'⟩:=kl e; cases e'
    exact int_ex (run_shift hy).2
  case eql =>
    simp only [Option.map_eq_some_iff] at e
    obtain ⟨b,e,rfl⟩:=e
    obtain ⟨rfl,e'⟩:=kk e; cases e'
    rw [eqI_iff]; exact bool_ex run_cmp.2.2.2.2.1
  case neq =>
    simp only [Option.map_eq_some_iff] at e
    obtain ⟨b,e,rfl⟩:=e
    obtain ⟨rfl,e'⟩:=kk e; cases e'
    rw [eqI_iff]; exact bool_ex run_cmp.2.2.2.2.2
  case add=>obtain ⟨rfl,e'⟩:=kk e; cases e'; rw [wrapA_eq]; exact int_ex (run_arith (_op:=.add)).1
  case sub=>obtain ⟨rfl,e'⟩:=kk e; cases e'; rw [wrapA_eq]; exact int_ex (run_arith (_op:=.add)).2.1
  case mul=>obtain ⟨rfl,e'⟩:=kk e; cases e'; rw [wrapA_eq]; exact int_ex (run_arith (_op:=.add)).2.2
  case quo=>obtain ⟨rfl,e'⟩:=kk e; obtain ⟨hy,e''⟩:=kz e'; cases e''; rw [wrapA_eq]; exact int_ex (run_div hy).1
  case rem=>obtain ⟨rfl,e'⟩:=kk e; obtain ⟨hy,e''⟩:=kz e'; cases e''; exact int_ex (run_div hy).2
  case and=>obtain ⟨rfl,e'⟩:=kk e; cases e'; rw [wrapA_eq]; exact int_ex run_bits.1
  case or=>obtain ⟨rfl,e'⟩:=kk e; cases e'; rw [wrapA_eq]; exact int_ex run_bits.2.1
  case xor=>obtain ⟨rfl,e'⟩:=kk e; cases e'; rw [wrapA_eq]; exact int_ex run_bits.2.2.1
  case andNot=>obtain ⟨rfl,e'⟩:=kk e; cases e'; rw [wrapA_eq]; exact int_ex run_bits.2.2.2
  case lss=>obtain ⟨rfl,e'⟩:=kk e; cases e'; rw [ltI_iff]; exact bool_ex run_cmp.1
  case leq=>obtain ⟨rfl,e'⟩:=kk e; cases e'; rw [leI_iff]; exact bool_ex run_cmp.2.1
  case gtr=>obtain ⟨rfl,e'⟩:=kk e; cases e'; rw [ltI_iff]; exact bool_ex run_cmp.2.2.1
  case geq=>obtain ⟨rfl,e'⟩:=kk e; cases e'; rw [leI_iff]; exact bool_ex run_cmp.2.2.2.1
omit envI in
theorem run_str {t:TypeId} {x y:ByteArray}:(binOp .eql t (.string x) (.string y)).run P w=.ok (.bool (x.toList==y.toList)) w∧(binOp .neq t (.string x) (.string y)).run P w=.ok (.bool (!(x.toList==y.toList))) w ∧
    (binOp .lss t (.string x) (.string y)).run P w=.ok (.bool (Op.bytesLess x.toList y.toList)) w∧(binOp .leq t (.string x) (.string y)).run P w=.ok (.bool (Op.bytesLess x.toList y.toList||x.toList==y.toList)) w ∧
    (binOp .gtr t (.string x) (.string y)).run P w=.ok (.bool (!(Op.bytesLess x.toList y.toList||x.toList==y.toList))) w∧(binOp .geq t (.string x) (.string y)).run P w=.ok (.bool (!(Op.bytesLess x.toList y.toList))) w:=by
  refine ⟨?_,?_,?_,?_,?_,?_⟩<;>simp only [binOp,Op.stringOp,Sem.run_pure]
omit envI in
theorem run_concat {t:TypeId} {x y:ByteArray} (hle:¬ ((x.size+y.size:Nat):Int)>IntKind.i64.max):(binOp .add t (.string x) (.string y)).run P w=.ok (.string (x++y)) w:=by
  simp only [binOp,Op.stringOp,if_neg hle,Sem.run_pure]
theorem read_bin_str {op:BinOp} {t:TypeId} {x y:ByteArray} {r:AV} (e:binAV op .one (.str (bytesL x)) (.str (bytesL y))=some r) :
    ∃ v,(binOp op t (.string x) (.string y)).run P w=.ok v w∧VR w ρ L r v:=by
  cases op<;>simp only [binAV,eqAV,Option.map_some,Option.some.injEq,reduceCtorEq] at e
  case add =>
    cases hb:Nat.blt ((bytesL x).length+(bytesL y).length) bigBytes with
    | false=>rw [hb] at e; cases e
    | true =>
      rw [hb] at e; cases e
      have:=blt_lt hb
      rw [bytesL_length,bytesL_length] at this
      refine ⟨_,run_concat ?_,by simp only [VR]; exact ⟨_,rfl,bytesL_append x y⟩⟩
      have h1:IntKind.i64.max=9223372036854775807:=by decide
      have h2:bigBytes=35184372088832:=rfl
      rw [h1]; omega
  case eql=>subst e; rw [eqS_bytes]; exact bool_ex run_str.1
  case neq=>subst e; rw [eqS_bytes]; exact bool_ex run_str.2.1
  case lss=>subst e; rw [bytesLt_bytes]; exact bool_ex run_str.2.2.1
  case leq=>subst e; rw [bytesLt_bytes,eqS_bytes]; exact bool_ex run_str.2.2.2.1
  case gtr=>subst e; rw [bytesLt_bytes,eqS_bytes]; exact bool_ex run_str.2.2.2.2.1
  case geq=>subst e; rw [bytesLt_bytes]; exact bool_ex run_str.2.2.2.2.2
theorem read_un {op:UnOp} {a r:AV} {x:Value} (hx:VR w ρ L a x) (e:readA h (.un op) [a]=some r):∃ v,(Op.unary op x).run P w=.ok v w∧VR w ρ L r v:=by
  cases op<;>cases a<;>simp only [readA,reduceCtorEq] at e
  case neg.int k n =>
    cases e
    rw [int_of hx,wrapA_eq]
    exact int_ex (by simp only [Op.unary,Op.intArith,Sem.run_pure])
  case xor.int k n =>
    cases e
    rw [int_of hx,wrapA_eq]
    exact int_ex (by simp only [Op.unary,Op.intBits,Sem.run_pure])
  case not.bool b =>
    cases e
    rw [bool_of hx]
    exact bool_ex (by simp only [Op.unary,Sem.run_pure])
end
end Go.Abs
end
