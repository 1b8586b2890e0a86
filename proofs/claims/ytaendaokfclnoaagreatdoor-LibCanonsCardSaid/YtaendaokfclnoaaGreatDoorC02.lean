/- A part of the proof that LibSwaps answers true at every input: AbsRel, AbsSym. -/
import Derived.Laws.Rows
import Derived.Test.YtaendaokfclnoaaGreatDoorC01
section
namespace Go.Abs
theorem Pth.num_inj:∀ {p q:Pth},p.num=q.num→p=q
 | .e,.e,_=>rfl
 | .e,.l q,h=>by simp [Pth.num] at h
 | .e,.r q,h=>by simp [Pth.num] at h
 | .l p,.e,h=>by simp [Pth.num] at h
 | .r p,.e,h=>by simp [Pth.num] at h
 | .l p,.l q,h=>by
  simp only [Pth.num] at h
  rw [Pth.num_inj (p:=p) (q:=q) (by omega)]
 | .r p,.r q,h=>by
  simp only [Pth.num] at h
  rw [Pth.num_inj (p:=p) (q:=q) (by omega)]
 | .l p,.r q,h=>by simp only [Pth.num] at h; omega
 | .r p,.l q,h=>by simp only [Pth.num] at h; omega
theorem Pth.num_succ:∀ p:Pth,p.succ.num=p.num+1
 | .e=>rfl
 | .l p=>rfl
 | .r p=>by simp only [Pth.succ,Pth.num,Pth.num_succ p]; omega
theorem Pth.beq_iff:∀ {p q:Pth},Pth.beq p q=true↔p=q
 | .e,.e=>by simp [Pth.beq]
 | .e,.l q=>by simp [Pth.beq]
 | .e,.r q=>by simp [Pth.beq]
 | .l p,.e=>by simp [Pth.beq]
 | .r p,.e=>by simp [Pth.beq]
 | .l p,.l q=>by simp [Pth.beq,Pth.beq_iff (p:=p) (q:=q)]
 | .r p,.r q=>by simp [Pth.beq,Pth.beq_iff (p:=p) (q:=q)]
 | .l p,.r q=>by simp [Pth.beq]
 | .r p,.l q=>by simp [Pth.beq]
instance:DecidableEq Pth:=fun _ _=>decidable_of_iff _ Pth.beq_iff
theorem xNr:∀ (n k:Nat),k<n→(zRs n k).num=k
 | 0,k,h=>by omega
 | n + 1,k,h=>by
  unfold zRs
  by_cases h0:k=0
  ·simp [h0,Pth.num]
  ·rw [if_neg h0]
   by_cases h1:k % 2=1
   ·rw [if_pos h1]; simp only [Pth.num]; rw [xNr n (k / 2) (by omega)]; omega
   ·rw [if_neg h1]; simp only [Pth.num]; rw [xNr n (k / 2 - 1) (by omega)]; omega
theorem mW (k:Nat):(pth k).num=k:=xNr (k+1) k (by omega)
theorem Tr.get_upd {α:Type} (x:Option α):∀ (p:Pth) (t:Tr α) (q:Pth),(Tr.upd x p t).get q=if q=p then x else t.get q
 | .e,.lf,.e=>by simp [Tr.upd,Tr.get]
 | .e,.lf,.l q=>by simp [Tr.upd,Tr.get]
 | .e,.lf,.r q=>by simp [Tr.upd,Tr.get]
 | .e,.nd l v r,.e=>by simp [Tr.upd,Tr.get]
 | .e,.nd l v r,.l q=>by simp [Tr.upd,Tr.get]
 | .e,.nd l v r,.r q=>by simp [Tr.upd,Tr.get]
 | .l p,.lf,.e=>by simp [Tr.upd,Tr.get]
 | .l p,.lf,.l q=>by simp [Tr.upd,Tr.get,Tr.get_upd x p .lf q]
 | .l p,.lf,.r q=>by simp [Tr.upd,Tr.get]
 | .l p,.nd l v r,.e=>by simp [Tr.upd,Tr.get]
 | .l p,.nd l v r,.l q=>by simp [Tr.upd,Tr.get,Tr.get_upd x p l q]
 | .l p,.nd l v r,.r q=>by simp [Tr.upd,Tr.get]
 | .r p,.lf,.e=>by simp [Tr.upd,Tr.get]
 | .r p,.lf,.l q=>by simp [Tr.upd,Tr.get]
 | .r p,.lf,.r q=>by simp [Tr.upd,Tr.get,Tr.get_upd x p .lf q]
 | .r p,.nd l v r,.e=>by simp [Tr.upd,Tr.get]
 | .r p,.nd l v r,.l q=>by simp [Tr.upd,Tr.get]
 | .r p,.nd l v r,.r q=>by simp [Tr.upd,Tr.get,Tr.get_upd x p r q]
theorem Tr.get_put {α:Type} (t:Tr α) (p q:Pth) (x:α):(t.put p x).get q=if q=p then some x else t.get q:=Tr.get_upd _ p t q
theorem Tr.get_del {α:Type} (t:Tr α) (p q:Pth):(t.del p).get q=if q=p then none else t.get q:=Tr.get_upd _ p t q
def bsz (w:World) (b:Nat):Nat:=match w.heap[b]? with | some (.cells c _ _)=>c.size | _=>0
def xP (x:ByteArray):List Nat:=x.data.toList.map (·.toNat)
structure Nm where
 f:Pth→Option Nat
 base:Nat→Prop
 res:Pth→Prop
instance:CoeFun Nm (fun _=>Pth→Option Nat):=⟨Nm.f⟩
def NL (ρ:Nm) (L:Nat→Prop) (b:Nat):Prop:=¬ L b∧ρ.base b
def MLe (o:Obj) (q:Option Obj):Prop:=∀ ms c,o=.map ms c→∃ ms' c',q=some (.map ms' c')∧ms.size≤ms'.size∧(ms'.size=ms.size→c'=c∧ms'.toList.map (·.born)=ms.toList.map (·.born))
def Ole (w w':World) (b:Nat):Prop:=bsz w' b=bsz w b∧∀ o,w.heap[b]?=some o→MLe o w'.heap[b]?
theorem Ole.of_eq {w w':World} {b:Nat} (h:w'.heap[b]?=w.heap[b]?):Ole w w' b:=by
 refine ⟨by unfold bsz; rw [h],fun o ho ms c e => ?_⟩
 rw [h,ho,e]
 exact ⟨ms,c,rfl,Nat.le_refl _,fun _=>⟨rfl,rfl⟩⟩
theorem Ole.trans {w w' w'':World} {b:Nat} (h:Ole w w' b) (h':Ole w' w'' b):Ole w w'' b:=by
 refine ⟨h'.1.trans h.1,fun o ho ms c e => ?_⟩
 obtain ⟨m1,c1,e1,l1,k1⟩:=h.2 o ho ms c e
 obtain ⟨m2,c2,e2,l2,k2⟩:=h'.2 _ e1 m1 c1 rfl
 refine ⟨m2,c2,e2,Nat.le_trans l1 l2,fun e3 => ?_⟩
 have e4:m1.size=ms.size:=by omega
 obtain ⟨a1,a2⟩:=k1 e4
 obtain ⟨b1,b2⟩:=k2 (by omega)
 exact ⟨b1.trans a1,b2.trans a2⟩
structure Sim0 (ρ:Nm) (L:Nat→Prop) (w:World) (ρ':Nm) (L':Nat→Prop) (w':World):Prop where
 base:∀ b,ρ.base b→ρ'.base b
 baseN:∀ b,b<w.heap.size→ρ'.base b→ρ.base b
 names:∀ id b,ρ id=some b→ρ' id=some b
 size:w.heap.size≤w'.heap.size
 same:∀ b,b<w.heap.size→¬ L b→w'.heap[b]?=w.heap[b]?
 cells:∀ b,b<w.heap.size→Ole w w' b
 live:∀ b,b<w.heap.size→L' b→L b
 os:w'.os=w.os
 output:w'.output=w.output
 tape:w'.tape=w.tape
def yRq (x y:List Nat):Nat:=bif xY x y then 1 else bif eqS x y then 2 else 3
def xSw (d:Nat) (x y:List Nat):Prop:=(d=1→xY x y=true)∧(d=2→x=y)∧(d=3→xY x y=false)
class Env where
 R:Nat→World→Nm→(Nat→Prop)→Value→Prop
 mono:∀ {i w ρ L w' ρ' L' v},Sim0 ρ L w ρ' L' w'→(∀ id b,ρ id=some b→b<w.heap.size)→R i w ρ L v→R i w' ρ' L' v
 relive:∀ {i w ρ ρ' L L' v},ρ'.f=ρ.f→ρ'.base=ρ.base→(∀ b,ρ.base b→L' b→L b)→R i w ρ L v→R i w ρ' L' v
 frzG:∀ {i w ρ L ρ2 L2 v},(∀ b,b<w.heap.size→NL ρ L b→NL ρ2 L2 b)→R i w ρ L v→R i w ρ2 L2 v
 one:∀ {i w ρ L v},R i w ρ L v→v.oneCell'=true
 top:∀ {w ρ L v},v.oneCell'=true→R topI w ρ L v
 int:∀ {w ρ L v},R xP0 w ρ L v↔∃ m:Int,v=.int .i64 m
 ord:∀ {i j w ρ L u v},¬ pR i j=0→R i w ρ L u→R j w ρ L v→∃ x y:ByteArray,u=.string x∧v=.string y∧xSw (pR i j) (xP x) (xP y)
 fre:∀ {i w ρ L u v},nX i=true→R i w ρ L u→R i w ρ L v→∃ x y:ByteArray,u=.string x∧v=.string y∧xP x=xP y∧mI (xP x) (zXs i)=false
 pos:Nat→Int
 posB:∀ c,0≤pos c∧pos c≤100000
 aff:∀ {i w ρ L v},wQ i=true→(R i w ρ L v↔v=.int .i64 (pos (xBt i)+yD i))
 bnd:∀ {w ρ L v},R xLk w ρ L v↔∃ m:Int,v=.int .i64 m ∧ -5000≤m∧m≤105000
 nng:∀ {w ρ L v},R xS9 w ρ L v↔∃ m:Int,v=.int .i64 m∧0≤m
 big:∀ {i w ρ L u v},mV i=true→R i w ρ L u→R i w ρ L v→∃ n:Int,2≤n∧u=.int .i64 n∧v=.int .i64 n
variable [envI:Env]
mutual
def VR (w:World) (ρ:Nm) (L:Nat→Prop):AV→Value→Prop
 | .bool b,v=>v=.bool b
 | .int k n,v=>v=.int k n
 | .str s,v=>∃ x:ByteArray,v=.string x∧xP x=s
 | .nilp,v=>v=.pointer none
 | .ptr id off,v=>∃ b,ρ id=some b∧v=.pointer (some ⟨b,off,none⟩)
 | .rptr cs,v=>∃ b off c el fz,v=.pointer (some ⟨b,off,none⟩)∧NL ρ L b∧w.heap[b]?=some (.cells c el fz)∧VRp w ρ L cs (c.toList.drop off)
 | .nils,v=>v=.slice none 0 0
 | .slc id off len sz cap,v=>∃ b c,ρ id=some b∧v=.slice (some ⟨b,off,none⟩) len c∧len≤c∧(match cap with | some k=>c=k | none=>off+c*sz=bsz w b)
 | .rslc len cs,v=>∃ a c,v=.slice a len c∧len≤c∧(cs=[]∧a.isSome=true∨∃ b off cc el fz,a=some ⟨b,off,none⟩∧NL ρ L b∧w.heap[b]?=some (.cells cc el fz)∧VRp w ρ L cs (cc.toList.drop off))
 | .eslc,v=>∃ a,v=.slice a 0 0
 | .nilm,v=>v=.map none
 | .mapv id,v=>∃ b,ρ id=some b∧v=.map (some b)
 | .rmap ks vs,v=>∃ b ms clock,v=.map (some b)∧NL ρ L b∧w.heap[b]?=some (.map ms clock)∧VRs w ρ L ks (ms.toList.map (·.key))∧VRs w ρ L vs (ms.toList.map (·.val))
 | .nilf,v=>v=.nilFunc
 | .fn f fs cs,v=>∃ x y,v=.func (.func f.num) x y∧VRs w ρ L fs x.toList∧VRs w ρ L cs y.toList
 | .yield id,v=>∃ b,ρ id=some b∧v=.func (.yield b) #[] #[]
 | .nili,v=>v=.nilIface
 | .iface t a,v=>∃ x,v=.iface t x∧VR w ρ L a x
 | .agg cs,v=>∃ x,v=.agg x∧VRs w ρ L cs x.toList
 | .tup cs,v=>∃ x,v=.tuple x∧VRs w ρ L cs x.toList
 | .sym i,v=>Env.R i w ρ L v
def VRp (w:World) (ρ:Nm) (L:Nat→Prop):List AV→List Value→Prop
 | [],_=>True
 | a::as1,vs=>∃ v vs',vs=v::vs'∧VR w ρ L a v∧VRp w ρ L as1 vs'
def VRs (w:World) (ρ:Nm) (L:Nat→Prop):List AV→List Value→Prop
 | [],vs=>vs=[]
 | a::as1,vs=>∃ v vs',vs=v::vs'∧VR w ρ L a v∧VRs w ρ L as1 vs'
end
structure Sim (ρ:Nm) (L:Nat→Prop) (w:World) (ρ':Nm) (L':Nat→Prop) (w':World):Prop extends Sim0 ρ L w ρ' L' w' where
 res:ρ'.res=ρ.res
omit envI in
theorem Sim0.refl (ρ:Nm) (L:Nat→Prop) (w:World):Sim0 ρ L w ρ L w :=
 ⟨fun _ h=>h,fun _ _ h=>h,fun _ _ h=>h,Nat.le_refl _,fun _ _ _=>rfl,fun _ _=>.of_eq rfl,fun _ _ h=>h,rfl,rfl,rfl⟩
omit envI in
theorem Sim.refl (ρ:Nm) (L:Nat→Prop) (w:World):Sim ρ L w ρ L w:=⟨Sim0.refl ..,rfl⟩
omit envI in
theorem Sim0.trans {ρ ρ' ρ'':Nm} {L L' L'':Nat→Prop} {w w' w'':World} (h:Sim0 ρ L w ρ' L' w') (h':Sim0 ρ' L' w' ρ'' L'' w''):Sim0 ρ L w ρ'' L'' w'' where
 base:=fun b x=>h'.base b (h.base b x)
 baseN:=fun b hb x=>h.baseN b hb (h'.baseN b (Nat.lt_of_lt_of_le hb h.size) x)
 names:=fun id b e=>h'.names id b (h.names id b e)
 size:=Nat.le_trans h.size h'.size
 same:=fun b hb hl=>(h'.same b (Nat.lt_of_lt_of_le hb h.size) (fun x=>hl (h.live b hb x))).trans (h.same b hb hl)
 cells:=fun b hb=>(h.cells b hb).trans (h'.cells b (Nat.lt_of_lt_of_le hb h.size))
 live:=fun b hb x=>h.live b hb (h'.live b (Nat.lt_of_lt_of_le hb h.size) x)
 os:=h'.os.trans h.os
 output:=h'.output.trans h.output
 tape:=h'.tape.trans h.tape
omit envI in
theorem Sim.trans {ρ ρ' ρ'':Nm} {L L' L'':Nat→Prop} {w w' w'':World} (h:Sim ρ L w ρ' L' w') (h':Sim ρ' L' w' ρ'' L'' w''):Sim ρ L w ρ'' L'' w'' :=
 ⟨h.toSim0.trans h'.toSim0,h'.res.trans h.res⟩
omit envI in
theorem Sim.less {ρ:Nm} {L L':Nat→Prop} {w:World} (h:∀ b,L' b→L b):Sim ρ L w ρ L' w :=
 ⟨⟨fun _ h=>h,fun _ _ h=>h,fun _ _ h=>h,Nat.le_refl _,fun _ _ _=>rfl,fun _ _=>.of_eq rfl,fun b _ x=>h b x,rfl,rfl,rfl⟩,rfl⟩
omit envI in
theorem lt_of_heap {w:World} {b:Nat} {o:Obj} (h:w.heap[b]?=some o):b<w.heap.size:=by
 rcases Nat.lt_or_ge b w.heap.size with h' | h'
 ·exact h'
 ·rw [Array.getElem?_eq_none h'] at h; cases h
section mono
variable {ρ ρ':Nm} {L L':Nat→Prop} {w w':World}
omit envI in
theorem NL.mono0 (hs:Sim0 ρ L w ρ' L' w') {b:Nat} (hb:b<w.heap.size) (h:NL ρ L b):NL ρ' L' b :=
 ⟨fun x=>h.1 (hs.live b hb x),hs.base b h.2⟩
mutual
theorem VR.mono0 (hs:Sim0 ρ L w ρ' L' w') (hb:∀ id b,ρ id=some b→b<w.heap.size):∀ {a:AV} {v:Value},VR w ρ L a v→VR w' ρ' L' a v
 | .bool b,v,h=>by simpa only [VR] using h
 | .int k n,v,h=>by simpa only [VR] using h
 | .str s,v,h=>by simpa only [VR] using h
 | .nilp,v,h=>by simpa only [VR] using h
 | .ptr id off,v,h=>by
  simp only [VR] at h ⊢
  obtain ⟨b,h1,h2⟩:=h
  exact ⟨b,hs.names _ _ h1,h2⟩
 | .rptr cs,v,h=>by
  simp only [VR] at h ⊢
  obtain ⟨b,off,c,el,fz,h1,h2,h3,h4⟩:=h
  have hlt:=lt_of_heap h3
  exact ⟨b,off,c,el,fz,h1,h2.mono0 hs hlt,(hs.same b hlt h2.1).trans h3,VRp.mono0 hs hb h4⟩
 | .nils,v,h=>by simpa only [VR] using h
 | .slc id off len sz cap,v,h=>by
  simp only [VR] at h ⊢
  obtain ⟨b,c,h1,h2,h3,h4⟩:=h
  refine ⟨b,c,hs.names _ _ h1,h2,h3,?_⟩
  cases cap with
  | some k=>exact h4
  | none=>simp only [] at h4 ⊢; rw [h4,(hs.cells b (hb _ _ h1)).1]
 | .rslc len cs,v,h=>by
  simp only [VR] at h ⊢
  obtain ⟨a,c,h1,h2,h3⟩:=h
  refine ⟨a,c,h1,h2,?_⟩
  rcases h3 with h3 | ⟨b,off,cc,el,fz,h3,h4,h5,h6⟩
  ·exact .inl h3
  ·have hlt:=lt_of_heap h5
   exact .inr ⟨b,off,cc,el,fz,h3,h4.mono0 hs hlt,(hs.same b hlt h4.1).trans h5,VRp.mono0 hs hb h6⟩
 | .eslc,v,h=>by simpa only [VR] using h
 | .nilm,v,h=>by simpa only [VR] using h
 | .mapv id,v,h=>by
  simp only [VR] at h ⊢
  obtain ⟨b,h1,h2⟩:=h
  exact ⟨b,hs.names _ _ h1,h2⟩
 | .rmap ks vs,v,h=>by
  simp only [VR] at h ⊢
  obtain ⟨b,ms,clock,h1,h2,h3,h4,h5⟩:=h
  have hlt:=lt_of_heap h3
  exact ⟨b,ms,clock,h1,h2.mono0 hs hlt,(hs.same b hlt h2.1).trans h3,VRs.mono0 hs hb h4,VRs.mono0 hs hb h5⟩
 | .nilf,v,h=>by simpa only [VR] using h
 | .fn f fs cs,v,h=>by
  simp only [VR] at h ⊢
  obtain ⟨x,y,h1,h2,h3⟩:=h
  exact ⟨x,y,h1,VRs.mono0 hs hb h2,VRs.mono0 hs hb h3⟩
 | .yield id,v,h=>by
  simp only [VR] at h ⊢
  obtain ⟨b,h1,h2⟩:=h
  exact ⟨b,hs.names _ _ h1,h2⟩
 | .nili,v,h=>by simpa only [VR] using h
 | .iface t a,v,h=>by
  simp only [VR] at h ⊢
  obtain ⟨x,h1,h2⟩:=h
  exact ⟨x,h1,VR.mono0 hs hb h2⟩
 | .agg cs,v,h=>by
  simp only [VR] at h ⊢
  obtain ⟨x,h1,h2⟩:=h
  exact ⟨x,h1,VRs.mono0 hs hb h2⟩
 | .tup cs,v,h=>by
  simp only [VR] at h ⊢
  obtain ⟨x,h1,h2⟩:=h
  exact ⟨x,h1,VRs.mono0 hs hb h2⟩
 | .sym i,v,h=>by
  simp only [VR] at h ⊢
  exact Env.mono hs hb h
theorem VRp.mono0 (hs:Sim0 ρ L w ρ' L' w') (hb:∀ id b,ρ id=some b→b<w.heap.size):∀ {as1:List AV} {vs:List Value},VRp w ρ L as1 vs→VRp w' ρ' L' as1 vs
 | [],vs,h=>by simp only [VRp]
 | a::as1,vs,h=>by
  simp only [VRp] at h ⊢
  obtain ⟨v,vs',h1,h2,h3⟩:=h
  exact ⟨v,vs',h1,VR.mono0 hs hb h2,VRp.mono0 hs hb h3⟩
theorem VRs.mono0 (hs:Sim0 ρ L w ρ' L' w') (hb:∀ id b,ρ id=some b→b<w.heap.size):∀ {as1:List AV} {vs:List Value},VRs w ρ L as1 vs→VRs w' ρ' L' as1 vs
 | [],vs,h=>by simpa only [VRs] using h
 | a::as1,vs,h=>by
  simp only [VRs] at h ⊢
  obtain ⟨v,vs',h1,h2,h3⟩:=h
  exact ⟨v,vs',h1,VR.mono0 hs hb h2,VRs.mono0 hs hb h3⟩
end
theorem VR.mono (hs:Sim ρ L w ρ' L' w') (hb:∀ id b,ρ id=some b→b<w.heap.size) {a:AV} {v:Value} (h:VR w ρ L a v):VR w' ρ' L' a v:=VR.mono0 hs.toSim0 hb h
theorem VRp.mono (hs:Sim ρ L w ρ' L' w') (hb:∀ id b,ρ id=some b→b<w.heap.size) {as1:List AV} {vs:List Value} (h:VRp w ρ L as1 vs):VRp w' ρ' L' as1 vs:=VRp.mono0 hs.toSim0 hb h
theorem VRs.mono (hs:Sim ρ L w ρ' L' w') (hb:∀ id b,ρ id=some b→b<w.heap.size) {as1:List AV} {vs:List Value} (h:VRs w ρ L as1 vs):VRs w' ρ' L' as1 vs:=VRs.mono0 hs.toSim0 hb h
end mono
section relive
variable {ρ ρ':Nm} {L L':Nat→Prop} {w:World}
mutual
theorem VR.relive (hf:ρ'.f=ρ.f) (he:ρ'.base=ρ.base) (hl:∀ b,ρ.base b→L' b→L b):∀ {a:AV} {v:Value},VR w ρ L a v→VR w ρ' L' a v
 | .bool b,v,h=>by simpa only [VR] using h
 | .int k n,v,h=>by simpa only [VR] using h
 | .str s,v,h=>by simpa only [VR] using h
 | .nilp,v,h=>by simpa only [VR] using h
 | .ptr id off,v,h=>by simpa only [VR,hf] using h
 | .rptr cs,v,h=>by
  simp only [VR] at h ⊢
  obtain ⟨b,off,c,el,fz,h1,h2,h3,h4⟩:=h
  exact ⟨b,off,c,el,fz,h1,⟨fun x=>h2.1 (hl b h2.2 x),by rw [he]; exact h2.2⟩,h3,VRp.relive hf he hl h4⟩
 | .nils,v,h=>by simpa only [VR] using h
 | .slc id off len sz cap,v,h=>by simpa only [VR,hf] using h
 | .rslc len cs,v,h=>by
  simp only [VR] at h ⊢
  obtain ⟨a,c,h1,h2,h3⟩:=h
  refine ⟨a,c,h1,h2,?_⟩
  rcases h3 with h3 | ⟨b,off,cc,el,fz,h3,h4,h5,h6⟩
  ·exact .inl h3
  ·exact .inr ⟨b,off,cc,el,fz,h3,⟨fun x=>h4.1 (hl b h4.2 x),by rw [he]; exact h4.2⟩,h5,VRp.relive hf he hl h6⟩
 | .eslc,v,h=>by simpa only [VR] using h
 | .nilm,v,h=>by simpa only [VR] using h
 | .mapv id,v,h=>by simpa only [VR,hf] using h
 | .rmap ks vs,v,h=>by
  simp only [VR] at h ⊢
  obtain ⟨b,ms,clock,h1,h2,h3,h4,h5⟩:=h
  exact ⟨b,ms,clock,h1,⟨fun x=>h2.1 (hl b h2.2 x),by rw [he]; exact h2.2⟩,h3,VRs.relive hf he hl h4,VRs.relive hf he hl h5⟩
 | .nilf,v,h=>by simpa only [VR] using h
 | .fn f fs cs,v,h=>by
  simp only [VR] at h ⊢
  obtain ⟨x,y,h1,h2,h3⟩:=h
  exact ⟨x,y,h1,VRs.relive hf he hl h2,VRs.relive hf he hl h3⟩
 | .yield id,v,h=>by simpa only [VR,hf] using h
 | .nili,v,h=>by simpa only [VR] using h
 | .iface t a,v,h=>by
  simp only [VR] at h ⊢
  obtain ⟨x,h1,h2⟩:=h
  exact ⟨x,h1,VR.relive hf he hl h2⟩
 | .agg cs,v,h=>by
  simp only [VR] at h ⊢
  obtain ⟨x,h1,h2⟩:=h
  exact ⟨x,h1,VRs.relive hf he hl h2⟩
 | .tup cs,v,h=>by
  simp only [VR] at h ⊢
  obtain ⟨x,h1,h2⟩:=h
  exact ⟨x,h1,VRs.relive hf he hl h2⟩
 | .sym i,v,h=>by
  simp only [VR] at h ⊢
  exact Env.relive hf he hl h
theorem VRp.relive (hf:ρ'.f=ρ.f) (he:ρ'.base=ρ.base) (hl:∀ b,ρ.base b→L' b→L b):∀ {as1:List AV} {vs:List Value},VRp w ρ L as1 vs→VRp w ρ' L' as1 vs
 | [],vs,h=>by simp only [VRp]
 | a::as1,vs,h=>by
  simp only [VRp] at h ⊢
  obtain ⟨v,vs',h1,h2,h3⟩:=h
  exact ⟨v,vs',h1,VR.relive hf he hl h2,VRp.relive hf he hl h3⟩
theorem VRs.relive (hf:ρ'.f=ρ.f) (he:ρ'.base=ρ.base) (hl:∀ b,ρ.base b→L' b→L b):∀ {as1:List AV} {vs:List Value},VRs w ρ L as1 vs→VRs w ρ' L' as1 vs
 | [],vs,h=>by simpa only [VRs] using h
 | a::as1,vs,h=>by
  simp only [VRs] at h ⊢
  obtain ⟨v,vs',h1,h2,h3⟩:=h
  exact ⟨v,vs',h1,VR.relive hf he hl h2,VRs.relive hf he hl h3⟩
end
end relive
section lists
variable {w:World} {ρ:Nm} {L:Nat→Prop}
theorem VRs.length:∀ {as1:List AV} {vs:List Value},VRs w ρ L as1 vs→vs.length=as1.length
 | [],vs,h=>by simp only [VRs] at h; simp [h]
 | a::as1,vs,h=>by
  simp only [VRs] at h
  obtain ⟨v,vs',rfl,_,h3⟩:=h
  simp [VRs.length h3]
theorem VRs.toP:∀ {as1:List AV} {vs:List Value},VRs w ρ L as1 vs→VRp w ρ L as1 vs
 | [],vs,h=>by simp only [VRp]
 | a::as1,vs,h=>by
  simp only [VRs] at h
  obtain ⟨v,vs',rfl,h2,h3⟩:=h
  simp only [VRp]
  exact ⟨v,vs',rfl,h2,VRs.toP h3⟩
theorem VRp.length:∀ {as1:List AV} {vs:List Value},VRp w ρ L as1 vs→as1.length≤vs.length
 | [],vs,h=>by simp
 | a::as1,vs,h=>by
  simp only [VRp] at h
  obtain ⟨v,vs',rfl,_,h3⟩:=h
  have:=VRp.length h3
  simp; omega
theorem VRp.toS:∀ {as1:List AV} {vs:List Value},VRp w ρ L as1 vs→VRs w ρ L as1 (vs.take as1.length)
 | [],vs,h=>by simp [VRs]
 | a::as1,vs,h=>by
  simp only [VRp] at h
  obtain ⟨v,vs',rfl,h2,h3⟩:=h
  simp only [VRs,List.length_cons,List.take_succ_cons]
  exact ⟨v,_,rfl,h2,VRp.toS h3⟩
theorem VRp.drop:∀ {as1:List AV} {vs:List Value} (n:Nat),VRp w ρ L as1 vs→VRp w ρ L (as1.drop n) (vs.drop n)
 | as1,vs,0,h=>by simpa using h
 | [],vs,n+1,h=>by simp [VRp]
 | a::as1,vs,n+1,h=>by
  simp only [VRp] at h
  obtain ⟨v,vs',rfl,_,h3⟩:=h
  simpa using VRp.drop n h3
theorem VRp.take:∀ {as1:List AV} {vs:List Value} (n:Nat),VRp w ρ L as1 vs→VRp w ρ L (as1.take n) vs
 | as1,vs,0,h=>by simp [VRp]
 | [],vs,n+1,h=>by simp [VRp]
 | a::as1,vs,n+1,h=>by
  simp only [VRp] at h
  obtain ⟨v,vs',rfl,h2,h3⟩:=h
  simp only [List.take_succ_cons,VRp]
  exact ⟨v,vs',rfl,h2,VRp.take n h3⟩
theorem VRs.append:∀ {as1 bs:List AV} {vs us:List Value},VRs w ρ L as1 vs→VRs w ρ L bs us→VRs w ρ L (as1++bs) (vs++us)
 | [],bs,vs,us,h,h'=>by simp only [VRs] at h; simpa [h] using h'
 | a::as1,bs,vs,us,h,h'=>by
  simp only [VRs] at h
  obtain ⟨v,vs',rfl,h2,h3⟩:=h
  simp only [List.cons_append,VRs]
  exact ⟨v,_,rfl,h2,VRs.append h3 h'⟩
theorem VRs.appendP:∀ {as1 bs:List AV} {vs us:List Value},VRs w ρ L as1 vs→VRp w ρ L bs us→VRp w ρ L (as1++bs) (vs++us)
 | [],bs,vs,us,h,h'=>by simp only [VRs] at h; simpa [h] using h'
 | a::as1,bs,vs,us,h,h'=>by
  simp only [VRs] at h
  obtain ⟨v,vs',rfl,h2,h3⟩:=h
  simp only [List.cons_append,VRp]
  exact ⟨v,_,rfl,h2,VRs.appendP h3 h'⟩
theorem VRp.get:∀ {as1:List AV} {vs:List Value} {i:Nat} {a:AV},VRp w ρ L as1 vs→as1[i]?=some a→∃ v,vs[i]?=some v∧VR w ρ L a v
 | [],vs,i,a,_,h=>by simp at h
 | a::as1,vs,0,a',h,e=>by
  simp only [VRp] at h
  obtain ⟨v,vs',rfl,h2,_⟩:=h
  simp at e; subst e
  exact ⟨v,by simp,h2⟩
 | a::as1,vs,i+1,a',h,e=>by
  simp only [VRp] at h
  obtain ⟨v,vs',rfl,_,h3⟩:=h
  simp at e
  obtain ⟨u,h5,h6⟩:=VRp.get h3 e
  exact ⟨u,by simpa using h5,h6⟩
theorem VRs.get {as1:List AV} {vs:List Value} {i:Nat} {a:AV} (h:VRs w ρ L as1 vs) (e:as1[i]?=some a):∃ v,vs[i]?=some v∧VR w ρ L a v:=h.toP.get e
theorem VRs.take:∀ {as1:List AV} {vs:List Value} (n:Nat),VRs w ρ L as1 vs→VRs w ρ L (as1.take n) (vs.take n)
 | as1,vs,0,h=>by simp [VRs]
 | [],vs,n+1,h=>by simp only [VRs] at h; simp [h,VRs]
 | a::as1,vs,n+1,h=>by
  simp only [VRs] at h
  obtain ⟨v,vs',rfl,h2,h3⟩:=h
  simp only [List.take_succ_cons,VRs]
  exact ⟨v,_,rfl,h2,VRs.take n h3⟩
theorem VRs.drop:∀ {as1:List AV} {vs:List Value} (n:Nat),VRs w ρ L as1 vs→VRs w ρ L (as1.drop n) (vs.drop n)
 | as1,vs,0,h=>by simpa using h
 | [],vs,n+1,h=>by simp only [VRs] at h; simp [h,VRs]
 | a::as1,vs,n+1,h=>by
  simp only [VRs] at h
  obtain ⟨v,vs',rfl,_,h3⟩:=h
  simpa using VRs.drop n h3
omit envI in
theorem xBd {cs l:List AV} {off n:Nat} (h:takeD cs off n=some l):l=(cs.drop off).take n∧l.length=n∧off+n≤cs.length∨(l=[]∧n=0):=by
 unfold takeD at h
 simp only at h
 cases hb:Nat.beq ((cs.drop off).take n).length n with
 | false=>rw [hb] at h; simp at h
 | true =>
  rw [hb] at h
  simp only [cond_true,Option.some.injEq] at h
  subst h
  have hl:=Nat.eq_of_beq_eq_true hb
  simp only [List.length_take,List.length_drop] at hl
  by_cases hn:n=0
  ·right; subst hn; simp
  ·left; refine ⟨rfl,by simp; omega,by omega⟩
theorem bA {cs l:List AV} {off n:Nat} {vs:List Value} (h:takeD cs off n=some l) (hv:VRp w ρ L cs vs) :
  l.length=n∧(n=0∨off+n≤vs.length)∧VRs w ρ L l ((vs.drop off).take n):=by
 rcases xBd h with ⟨e,hl,hle⟩ | ⟨e,hn⟩
 ·have:=hv.length
  refine ⟨hl,.inr (by omega),?_⟩
  have h1:=((hv.drop off).take n).toS
  rw [← e,hl] at h1
  exact h1
 ·subst hn; subst e
  exact ⟨rfl,.inl rfl,by simp [VRs]⟩
theorem xD3:∀ {cs cs':List AV} {n:Nat} {l:List AV} {vs us:List Value},setAt cs n l=some cs'→VRp w ρ L cs vs→VRs w ρ L l us →
  VRp w ρ L cs' (vs.take n++us++vs.drop (n+us.length))∧cs'.length=cs.length∧(us=[]∨n+us.length≤vs.length)
 | cs,cs',n,[],vs,us,h,hv,hu=>by
  simp only [VRs] at hu
  subst hu
  have e:cs'=cs:=by cases cs<;>simp [setAt] at h<;>first | exact h | exact h.symm
  subst e
  refine ⟨by simpa using hv,rfl,.inl rfl⟩
 | [],cs',n,l::ls,vs,us,h,hv,hu=>by simp [setAt] at h
 | c :: cs,cs',0,l::ls,vs,us,h,hv,hu=>by
  simp only [VRp] at hv
  obtain ⟨v,vs',rfl,h2,h3⟩:=hv
  simp only [VRs] at hu
  obtain ⟨u,us',rfl,h5,h6⟩:=hu
  simp only [setAt,Option.map_eq_some_iff] at h
  obtain ⟨d,hd,rfl⟩:=h
  obtain ⟨g1,g2,g3⟩:=xD3 hd h3 h6
  refine ⟨?_,by simp [g2],.inr ?_⟩
  ·simp only [VRp,List.take_zero,List.nil_append,List.length_cons,Nat.zero_add,List.cons_append,List.drop_succ_cons]
   exact ⟨u,_,rfl,h5,by simpa using g1⟩
  ·rcases g3 with rfl | g3
   ·simp
   ·simp; omega
 | c :: cs,cs',n+1,l::ls,vs,us,h,hv,hu=>by
  simp only [VRp] at hv
  obtain ⟨v,vs',rfl,h2,h3⟩:=hv
  simp only [setAt,Option.map_eq_some_iff] at h
  obtain ⟨d,hd,rfl⟩:=h
  obtain ⟨g1,g2,g3⟩:=xD3 hd h3 hu
  refine ⟨?_,by simp [g2],?_⟩
  ·simp only [VRp,List.take_succ_cons,List.cons_append]
   refine ⟨v,_,rfl,h2,?_⟩
   have e:n+1+us.length=(n+us.length)+1:=by omega
   rw [e,List.drop_succ_cons]
   exact g1
  ·rcases g3 with rfl | g3
   ·exact .inl rfl
   ·right; simp; omega
theorem VR.cells {a:AV} {v:Value} (h:VR w ρ L a v):VRs w ρ L a.cells v.cells.toList:=by
 cases a<;>simp only [AV.cells,VRs]
 case agg cs =>
  simp only [VR] at h
  obtain ⟨x,rfl,h2⟩:=h
  simpa [Value.cells] using h2
 case sym i =>
  refine ⟨v,[],?_,h,rfl⟩
  simp only [VR] at h
  have h1:=Env.one h
  cases v<;>first
   | (simp [Value.oneCell'] at h1; done)
   | simp [Value.cells]
 all_goals
  refine ⟨v,[],?_,h,rfl⟩
  simp only [VR] at h
  first
   | (subst h; simp [Value.cells]; done)
   | (obtain ⟨_,_,rfl,_,_⟩:=h; simp [Value.cells]; done)
   | (obtain ⟨_,rfl,_⟩:=h; simp [Value.cells])
   | (obtain ⟨_,_,rfl⟩:=h; simp [Value.cells])
   | (obtain ⟨_,rfl⟩:=h; simp [Value.cells])
   | (obtain ⟨_,_,_,_,_,rfl,_⟩:=h; simp [Value.cells])
   | (obtain ⟨_,_,_,rfl,_⟩:=h; simp [Value.cells])
   | (obtain ⟨_,_,rfl,_⟩:=h; simp [Value.cells])
end lists
end Go.Abs
end
section
namespace Go.Abs.Sym
section
variable (X:Ctx) (call:jA) (h:H) (fr:Tr AV)
theorem zH (x:AV):zS h .mov [x]=.val x h:=rfl
theorem rH (z:List AV):zS h (.alloc z) []=.val (.ptr h.next 0) (h.newB (.cells z false)):=rfl
theorem xIc (x:AV):zS h .box [x]=.val (.ptr h.next 0) (h.newB (.cells x.cells false)):=rfl
theorem qZ (n:Option Nat) (a:AV):zS h (.load n) [a]=match vJ h n a with | some v=>.val v h | none=>.bad:=rfl
theorem jC (n:Nat) (a v:AV):zS h (.store n) [a,v]=match wW h n a v with | some h=>.val (.tup []) h | none=>.bad:=rfl
theorem zJ (o:BinOp) (e:EqK) (x y:AV):zS h (.bin o e) [x,y]=match xG o e x y with | some v=>.val v h | none=>.bad:=rfl
theorem xY9 (b:Bool):zS h (.un .not) [.bool b]=.val (.bool (!b)) h:=rfl
theorem qW (f:AV) (as1:List AV):zS h .call (f::as1)=.call f as1:=rfl
theorem zBa (f:Pth) (n:Nat) (vs:List AV):zS h (.mkFn f n) vs=.val (.fn f (vs.take n) (vs.drop n)) h:=by cases vs<;>rfl
theorem zN (o:Nat) (id:Pth) (k:Nat):zS h (.fieldAddr o) [.ptr id k]=.val (.ptr id (k+o)) h:=rfl
theorem qK (k:IxK) (x i:AV):zS h (.indexAddr k) [x,i]=match zF k x i with | some v=>.val v h | none=>.bad:=rfl
theorem pK (z:List AV) (ps:List (Nat×Nat)) (vs:List AV):zS h (.build z ps) vs=match (jO z ps vs).map AV.agg with | some v=>.val v h | none=>.bad:=by cases vs<;>rfl
theorem xO9 (i:Nat) (ts:List AV):zS h (.extract i) [.tup ts]=match ts[i]? with | some v=>.val v h | none=>.bad:=rfl
end
end Go.Abs.Sym
end
