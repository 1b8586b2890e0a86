/- A part of the proof that LibSwaps answers true at every input: AbsDraw5, AbsDraw6, AbsDraw7, AbsDraw8. -/
import Derived.Test.YtaendaokfclnoaaGreatDoorC11
noncomputable section
section
namespace Go.Abs
variable [envI:Env]
section
variable {P:Program} {X:Ctx} {N:Nat} {ops:Array Oper} {ds:List DOper} {call:jA} {id0:Pth} {s0:St} {f:Nat→DSt} {m:Nat} {b:Frame} {cs:List Frame}
 {ρ0:Nm} {h0:H} {w0:World} {k:List Item}
variable (dc:DC P X N ops ds call id0 s0 f m) {D:Nat→Bool} {mm:Nat} {sB:St} {ρ:Nm} {a:Act} {w:World} (iv:DInv P X N ops ds id0 s0 f m b cs ρ0 h0 w0 D mm sB ρ a w)
include dc iv
theorem DInv.cut_same {i:Nat} {d:DOper} (hd:ds[i]?=some d) (hc:d.chain=false) (j:Nat) (e:DOper) (hj:ds[j]?=some e) (he:e.chain=true):upd D i j=true↔j<mm:=by
 have _:=dc
 have hne:j≠i:=fun x=>by subst x; cases hd.symm.trans hj; rw [hc] at he; cases he
 rw [upd_ne D hne]
 exact iv.cut j e hj he
theorem DInv.cut_next {i:Nat} (ht:Turn ops D i) {d:DOper} (hd:ds[i]?=some d) (hc:d.chain=true) (j:Nat) (e:DOper) (hj:ds[j]?=some e) (he:e.chain=true):upd D i j=true↔j<i+1:=by
 by_cases hne:j=i
 ·subst hne; simp [xAu]
 ·rw [upd_ne D hne,iv.cut j e hj he,iv.chain_lt dc ht hd hc hj he]
  omega
theorem DInv.sB_rest {i:Nat} (ht:Turn ops D i) (him:i≤m) (fr:Tr AV) (h:H):({ sB with fr:=fr,h:=h }:St)={ (f i).s with fr:=fr,h:=h } :=
 xTo ((iv.not_all dc ht).trans (dc.comps_same him ht.lt).symm) fr h
theorem DInv.step_skip {i:Nat} {rest:List Nat} (ht:Turn ops D i) (him:i<m) {o:Oper} (ho:ops[i]?=some o) {d:DOper} (hd:ds[i]?=some d) (hco:wG P N ops o=some d.o)
  (hdid:Did X call d i (yJ i id0) (f i) (.tup []) (f (i+1))) (hf:f (i+1)={ f i with s:=(f i).s.put d.o.dst (.tup []),hs:=bif d.chain then (i,(f i).s.h)::(f i).hs else (f i).hs })
  (hw:xI (f i).s.fr d.o.guard=some false) :
  ∃ mm' sB' ρ' a' w',DInv P X N ops ds id0 s0 f m b cs ρ0 h0 w0 (upd D i) mm' sB' ρ' a' w' ∧
   Steps P (lone (at' b a (.inRegion ops (i::rest)::k)) (wN sB.rc cs) w) (lone (at' b a' (.inRegion ops rest::k)) (wN sB'.rc cs) w'):=by
 obtain ⟨hop,hdst⟩:=gO hco
 have hwd:=xAv hco iv.sr.fr (iv.wanted dc ht (by omega) hd▸hw)
 have hst:=xMu (P:=P) (b:=b) (a:=a) (k:=k) (cs:=wN sB.rc cs) (w:=w) (ops:=ops) (i:=i) (rest:=rest) (by rw [ho]; simpa using hwd)
 rw [ho] at hst
 simp only [Option.bind_some] at hst
 have hs':=iv.sr.put hdst (v:=.tup []) (vv:=undef) xCp
 have hs'':SR P X N b cs { sB with fr:=rL (kF ds f D ops.size) d.o.dst (.tup []),h:=(f mm).s.h } ρ (a.put o.dst undef) w:=by
  cases hdd:d.o.dst with
  | none=>rw [hdd] at hs'; exact hs'
  | some t=>rw [hdd] at hs'; exact hs'
 have hcomps:mJ sB=mJ (f (i+1)).s:=by
  rw [hf]; simp only [wJ]
  exact (iv.not_all dc ht).trans (dc.comps_same (by omega) ht.lt).symm
 have hnm:∀ p,¬ jY X ds f id0 i p:=by
  rintro p ⟨_,_,d',v,vs,g1,_,_,g2,_⟩
  cases hd.symm.trans g1
  rw [hw] at g2; cases g2
 cases hc:d.chain with
 | false =>
  refine ⟨mm,sB,ρ,_,w,iv.next dc ht him hd hdid iv.mmle (iv.cut_same dc hd hc) hs'' (fun _ _ h=>h) (fun p hp=>absurd hp (hnm p)) iv.pend (fun j hj _ hD=>iv.res j hj hD) iv.res0 iv.sim hcomps,.one hst⟩
 | true =>
  have hh:(f (i+1)).s.h=(f mm).s.h:=by
   rw [hf]; simp only [xGj]
   exact (iv.chain_heap dc ht (by omega) hd hc).symm
  refine ⟨i+1,sB,ρ,_,w,iv.next dc ht him hd hdid him (iv.cut_next dc ht hd hc) (hh▸hs'') (fun _ _ h=>h) (fun p hp=>absurd hp (hnm p)) ?_ (fun j hj _ hD=>iv.res j hj hD) iv.res0 (hh▸iv.sim) hcomps,.one hst⟩
  intro j p hD hp hab
  rw [hh]
  refine iv.pend j p hD hp (fun c hcm hx => ?_)
  obtain ⟨e,g1,g2,_⟩:=id hx
  have:=(iv.chain_lt dc ht hd hc g1 g2).1 hcm
  exact hab c (by omega) hx
theorem DInv.step_read (hlog:∀ l∈(f m).log,qE l ((m,(f m).s.h)::(f m).hs)=true) {i:Nat} {rest:List Nat} (ht:Turn ops D i) (him:i<m) {o:Oper} (ho:ops[i]?=some o) {d:DOper} (hd:ds[i]?=some d) (hco:wG P N ops o=some d.o)
  {v:AV} {vs:List AV} {log:List Log} (hdid:Did X call d i (yJ i id0) (f i) v (f (i+1))) (hf:f (i+1)={ f i with s:=(f i).s.put d.o.dst v,log:=log })
  (hw:xI (f i).s.fr d.o.guard=some true) (he:xE X (f i).s.fr d.o.args=some vs) (hc:d.chain=false) (hm:xO d.o.op=false)
  (h1:xM ((f i).s.h.withP (zT d.makers (f i).pend)) d.o.op vs=some v)
  (h2:(xS d.o.op&&d.wide)=false∧log=(f i).log∨log=⟨d.o.op,vs,v,d.lo,d.hi,zT d.makers (f i).pend⟩::(f i).log) :
  ∃ mm' sB' ρ' a' w',DInv P X N ops ds id0 s0 f m b cs ρ0 h0 w0 (upd D i) mm' sB' ρ' a' w' ∧
   Steps P (lone (at' b a (.inRegion ops (i::rest)::k)) (wN sB.rc cs) w) (lone (at' b a' (.inRegion ops rest::k)) (wN sB'.rc cs) w'):=by
 obtain ⟨hop,hdst⟩:=gO hco
 have hwd:=xAv hco iv.sr.fr (iv.wanted dc ht (by omega) hd▸hw)
 obtain ⟨ps,g1,g2,g3⟩:=iv.read_val dc hlog ht him hd hc h1 (by
  rcases h2 with h2 | h2
  ·exact .inl h2.1
  ·exact .inr (by rw [hf]; simp [h2]))
 obtain ⟨hr',hl1,hl2⟩:=xCr ps iv.sr.hr g1 g2
 have hup:∀ c,ρ.base c→Lv ρ ((f mm).s.h.withP ps) c→Lv ρ (f mm).s.h c:=by
  intro c hc hl
  rcases hl1 c hl with h | ⟨p,hp,hpc⟩
  ·exact h
  ·obtain ⟨b',_,e1,e2,_⟩:=g1 p hp
   rw [hpc] at e1; cases e1; exact absurd hc e2
 have hfr':=iv.sr.fr.relive (ρ':=ρ) (L':=Lv ρ ((f mm).s.h.withP ps)) rfl rfl hup
 obtain ⟨vv,hrun,hv⟩:=zB0 hop (by rw [iv.args dc ht (by omega) hd]; exact he) hr' hfr' g3
 have hv':VR w ρ (Lv ρ (f mm).s.h) v vv:=hv.relive (ρ:=ρ) (L:=Lv ρ ((f mm).s.h.withP ps)) rfl rfl (fun c _ h=>hl2 c h)
 have hnd:∀ c,o.op≠.defer c:=by
  rcases xEe hop with ⟨_,h⟩ | ⟨_,_,_,_,_,h,_⟩ | ⟨_,_,_,_,_,_,h,_⟩ | ⟨_,_,_,_,_,_,h,_⟩ | ⟨_,_,h,_⟩ | ⟨_,_,h,_⟩
  ·exact h
  ·rw [h]; simp
  ·rw [h]; simp
  ·rw [h] at h1; simp [xM] at h1
  ·rw [h]; simp
  ·rw [h]; simp
 have hst:=xG4 (b:=b) (k:=k) (cs:=wN sB.rc cs) (rest:=rest) ho hwd (.inl hnd) hrun (.inl rfl)
 have hs':=iv.sr.put hdst hv'
 have hs'':SR P X N b cs { sB with fr:=rL (kF ds f D ops.size) d.o.dst v,h:=(f mm).s.h } ρ (a.put o.dst vv) w:=by
  cases hdd:d.o.dst with
  | none=>rw [hdd] at hs'; exact hs'
  | some t=>rw [hdd] at hs'; exact hs'
 have hcomps:mJ sB=mJ (f (i+1)).s:=by
  rw [hf]; simp only [wJ]
  exact (iv.not_all dc ht).trans (dc.comps_same (by omega) ht.lt).symm
 have hnm:∀ p,¬ jY X ds f id0 i p:=by
  rintro p ⟨_,_,d',v,vs,g1,_,g2,_⟩
  cases hd.symm.trans g1
  rw [hm] at g2; cases g2
 exact ⟨mm,sB,ρ,_,w,iv.next dc ht him hd hdid iv.mmle (iv.cut_same dc hd hc) hs'' (fun _ _ h=>h) (fun p hp=>absurd hp (hnm p)) iv.pend (fun j hj _ hD=>iv.res j hj hD) iv.res0 iv.sim hcomps,.one hst⟩
theorem DInv.step_maker (hid0:∀ id,ρ0.res id→id.num<id0.num) {i:Nat} {rest:List Nat} (ht:Turn ops D i) (him:i<m) {o:Oper} (ho:ops[i]?=some o) {d:DOper} (hd:ds[i]?=some d) (hco:wG P N ops o=some d.o)
  {v:AV} {x:AB} {vs:List AV} (hdid:Did X call d i (yJ i id0) (f i) v (f (i+1))) (hf:f (i+1)={ f i with s:=(f i).s.put d.o.dst v,pend:=⟨i,yJ i id0,x⟩::(f i).pend })
  (hw:xI (f i).s.fr d.o.guard=some true) (he:xE X (f i).s.fr d.o.args=some vs) (hc:d.chain=false) (hm:xO d.o.op=true) (h1:jX d.o.op vs (yJ i id0)=some (v,x)) :
  ∃ mm' sB' ρ' a' w',DInv P X N ops ds id0 s0 f m b cs ρ0 h0 w0 (upd D i) mm' sB' ρ' a' w' ∧
   Steps P (lone (at' b a (.inRegion ops (i::rest)::k)) (wN sB.rc cs) w) (lone (at' b a' (.inRegion ops rest::k)) (wN sB'.rc cs) w'):=by
 obtain ⟨hop,hdst⟩:=gO hco
 have hwd:=xAv hco iv.sr.fr (iv.wanted dc ht (by omega) hd▸hw)
 generalize hid:yJ i id0=id at *
 obtain ⟨hnone,hlt⟩:=iv.sr.hr.resv id (hid▸iv.res i ht.lt ht.no)
 let ρa:Nm:={ ρ with res:=fun j=>ρ.res j∧j≠id }
 have hra:HR P X ρa (f mm).s.h w:=iv.sr.hr.keep (fun j hj=>iv.sr.hr.resv j hj.1)
 have hsa:SR P X N b cs { sB with fr:=kF ds f D ops.size,h:=(f mm).s.h } ρa a w:=iv.sr.relive (ρ':=ρa) rfl rfl hra (fun _ _ h=>h)
 obtain ⟨vv,ob,kd,hrun,hbr,hvv⟩:=zAa hop (by rw [iv.args dc ht (by omega) hd]; exact he) hra hsa.fr h1
 obtain ⟨hrd,hsd⟩:=hra.drawn kd
 obtain ⟨hrn,hsn,hlv⟩:=hrd.newDead (id:=id) hnone (fun hx=>hx.2 rfl) hlt ob
 have hsim:=hsd.trans hsn
 have hsz:({ w with drawn:=kd }:World).heap.size=w.heap.size:=rfl
 rw [hsz] at hrn hsn hlv hsim
 have hs':=(hsa.step hrn hsim).put hdst (hvv _ _ _ (zW _ _ _) (by rw [jJ]; simp))
 have hs'':SR P X N b cs { sB with fr:=rL (kF ds f D ops.size) d.o.dst v,h:=(f mm).s.h } (extend ρa id w.heap.size) (a.put o.dst vv) (nK { w with drawn:=kd } ob):=by
  cases hdd:d.o.dst with
  | none=>rw [hdd] at hs'; exact hs'
  | some t=>rw [hdd] at hs'; exact hs'
 have hnd:∀ c,o.op≠.defer c:=by
  rcases xEe hop with ⟨_,h⟩ | ⟨_,_,_,_,_,h,_⟩ | ⟨_,_,_,_,_,_,h,_⟩ | ⟨_,_,_,_,_,_,h,_⟩ | ⟨_,_,h,_⟩ | ⟨_,_,h,_⟩
  ·exact h
  ·rw [h]; simp
  ·rw [h]; simp
  ·rw [h] at hm; simp [xO] at hm
  ·rw [h]; simp
  ·rw [h]; simp
 have hst:=xG4 (b:=b) (k:=k) (cs:=wN sB.rc cs) (rest:=rest) ho hwd (.inl hnd) hrun (.inl rfl)
 have hcomps:mJ sB=mJ (f (i+1)).s:=by
  rw [hf]; simp only [wJ]
  exact (iv.not_all dc ht).trans (dc.comps_same (by omega) ht.lt).symm
 have hmade:jY X ds f id0 i ⟨i,id,x⟩:=⟨rfl,hid.symm,d,v,vs,hd,hc,hm,hw,he,h1⟩
 have hnames:∀ j c,ρ j=some c→extend ρa id w.heap.size j=some c:=fun j c h=>hsim.names j c h
 have hold:∀ p,vK P w0.heap.size ρ (f mm).s.h w p→vK P w0.heap.size (extend ρa id w.heap.size) (f mm).s.h (nK { w with drawn:=kd } ob) p:=by
  rintro p ⟨b',o',e1,e2,e3,e4,e5,e6⟩
  have hblt:=iv.sr.hr.bound _ _ e1
  refine ⟨b',o',hnames _ _ e1,e2,e3,fun hl=>e4 ((hlv b').1 hl),?_,?_⟩
  ·rw [jJ,if_neg (by rw [hsz]; omega)]; exact e5
  ·exact (e6.relive (ρ:=ρ) (L:=Lv ρ (f mm).s.h) (ρ':=ρa) (L':=Lv ρa (f mm).s.h) rfl rfl (fun _ _ h=>h)).mono hsim hra.bound
 refine ⟨mm,sB,_,_,_,iv.next dc ht him hd (hid▸hdid) iv.mmle (iv.cut_same dc hd hc) hs'' hnames ?_ (fun j p hD hp hab=>hold p (iv.pend j p hD hp hab)) ?_ ?_ ?_ hcomps,.one hst⟩
 ·intro p hp
  cases hp.uniq hmade
  refine ⟨⟨_,zW _ _ _,Nat.le_refl _⟩,w.heap.size,ob,zW _ _ _,fun hx=>absurd (iv.sr.hr.low _ hx) (by omega),iv.sim.size,fun hl => ?_,?_,hbr _ _ _ hsim⟩
  ·obtain ⟨j,y,e1,e2⟩:=(hlv _).1 hl
   have:=hra.bound _ _ e2
   omega
  ·rw [jJ,if_pos rfl]
 ·intro j hj hji hD
  refine ⟨iv.res j hj hD,fun e => ?_⟩
  rw [← hid] at e
  have:=congrArg Pth.num e
  rw [nY,nY] at this
  omega
 ·intro j hj
  refine ⟨iv.res0 j hj,fun e => ?_⟩
  have h1:=hid0 j hj
  rw [e,← hid,nY] at h1
  omega
 ·exact iv.sim.on (fun _ _ h=>h) (show Sim0 ρ (Lv ρ (f mm).s.h) w _ _ _ from ⟨hsim.base,hsim.baseN,hnames,hsim.size,hsim.same,hsim.cells,hsim.live,hsim.os,hsim.output,hsim.tape⟩)
end
end Go.Abs
end
section
namespace Go.Abs
variable [envI:Env]
omit envI in
theorem zFd (s:St) (d:Option Pth) (v:AV):s.put d v={ s with fr:=rL s.fr d v }:=by cases d<;>rfl
section
variable {P:Program} {X:Ctx} {N:Nat} {ops:Array Oper} {ds:List DOper} {call:jA} {id0:Pth} {s0:St} {f:Nat→DSt} {m:Nat} {b:Frame} {cs:List Frame}
 {ρ0:Nm} {h0:H} {w0:World} {k:List Item}
variable (dc:DC P X N ops ds call id0 s0 f m) {D:Nat→Bool} {mm:Nat} {sB:St} {ρ:Nm} {a:Act} {w:World} (iv:DInv P X N ops ds id0 s0 f m b cs ρ0 h0 w0 D mm sB ρ a w)
include dc iv
theorem DInv.chain_ends (hcall:bD P X call) {i:Nat} {rest:List Nat} (ht:Turn ops D i) (him:i≤m) {o:Oper} (ho:ops[i]?=some o) {d:DOper} (hd:ds[i]?=some d) (hco:wG P N ops o=some d.o)
  (hc:d.chain=true) {vs:List AV} (hw:xI (f i).s.fr d.o.guard=some true) (he:xE X (f i).s.fr d.o.args=some vs) :
  ∃ hh,hh=(f i).s.h.withP (zT d.makers (f i).pend)∧HR P X ρ hh w∧(∀ c,Lv ρ hh c→Lv ρ (f mm).s.h c∨∃ p∈zT d.makers (f i).pend,ρ p.id=some c)∧(∀ p∈zT d.makers (f i).pend,vK P w0.heap.size ρ (f mm).s.h w p) ∧
   (∀ p∈zT d.makers (f i).pend,∃ j,j∈d.makers∧D j=true∧jY X ds f id0 j p) ∧
   Ends P X N b cs (.inRegion ops rest::k) ρ hh w (lone (at' b a (.inRegion ops (i::rest)::k)) (wN sB.rc cs) w) (yT call { (f i).s with h:=hh,fr:=kF ds f D ops.size } d.o vs):=by
 obtain ⟨hop,hdst⟩:=gO hco
 have hwd:=xAv hco iv.sr.fr (iv.wanted dc ht him hd▸hw)
 obtain ⟨g1,g2,g3⟩:=iv.takes dc ht him hd (fun c j hcm ⟨e,k1,k2,_⟩ _=>(iv.chain_lt dc ht hd hc k1 k2).1 hcm)
 obtain ⟨hr',hl1,hl2⟩:=xCr _ iv.sr.hr g1 g2
 have hheap:=iv.chain_heap dc ht him hd hc
 have hup:∀ c,ρ.base c→Lv ρ ((f mm).s.h.withP (zT d.makers (f i).pend)) c→Lv ρ (f mm).s.h c:=by
  intro c hc hl
  rcases hl1 c hl with h | ⟨p,hp,hpc⟩
  ·exact h
  ·obtain ⟨b',_,e1,e2,_⟩:=g1 p hp
   rw [hpc] at e1; cases e1; exact absurd hc e2
 have hs1:=iv.sr.relive (ρ':=ρ) rfl rfl hr' hup
 have heq:({ sB with fr:=kF ds f D ops.size,h:=(f mm).s.h.withP (zT d.makers (f i).pend) }:St)={ (f i).s with h:=(f i).s.h.withP (zT d.makers (f i).pend),fr:=kF ds f D ops.size }:=by
  rw [hheap]; exact iv.sB_rest dc ht him _ _
 refine ⟨(f i).s.h.withP (zT d.makers (f i).pend),rfl,hheap▸hr',?_,g1,g3,?_⟩
 ·intro c hl; exact hl1 c (by rw [hheap]; exact hl)
 ·have h1:=zAm (k:=k) (rest:=rest) hcall hop hdst ho hwd hs1 (by show xE X (kF ds f D ops.size) _=_; rw [iv.args dc ht him hd]; exact he)
  have hrc:sB.rc=(f i).s.rc:=by
   have:=(iv.not_all dc ht).trans (dc.comps_same him ht.lt).symm
   simp only [mJ,Prod.mk.injEq] at this
   exact this.2.1
  simp only at h1
  rw [heq] at h1
  rw [hheap] at h1
  exact h1
theorem DInv.chain_pend {i:Nat} (ht:Turn ops D i) (_him:i≤m) {d:DOper} (hd:ds[i]?=some d) (hc:d.chain=true) (hw:xI (f i).s.fr d.o.guard=some true) {hh h1:H} {ρ1:Nm} {w1:World}
  (hr:HR P X ρ hh w) (hl:∀ c,Lv ρ hh c→Lv ρ (f mm).s.h c∨∃ p∈zT d.makers (f i).pend,ρ p.id=some c) (hp1:∀ p∈zT d.makers (f i).pend,vK P w0.heap.size ρ (f mm).s.h w p)
  (hm:∀ p∈zT d.makers (f i).pend,∃ j,j∈d.makers∧D j=true∧jY X ds f id0 j p) (hs:Sim ρ (Lv ρ hh) w ρ1 (Lv ρ1 h1) w1) :
  (∀ j p,D j=true→jY X ds f id0 j p→(∀ c,c<i+1→¬ rO ds f c j)→vK P w0.heap.size ρ1 h1 w1 p)∧Sim0 ρ0 (Lv ρ0 h0) w0 ρ1 (Lv ρ1 h1) w1:=by
 refine ⟨fun j p hD hp hab => ?_,iv.sim.on (fun c hc hl' => ?_) hs.toSim0⟩
 ·obtain ⟨b',o',e1,e2,e3,e4,e5,e6⟩:=iv.pend j p hD hp (fun c hcm hx=>by
   obtain ⟨e,k1,k2,_⟩:=id hx
   have:=(iv.chain_lt dc ht hd hc k1 k2).1 hcm
   exact hab c (by omega) hx)
  have hnl:¬ Lv ρ hh b':=by
   intro hx
   rcases hl b' hx with h | ⟨q,hq,hqb⟩
   ·exact e4 h
   ·obtain ⟨j',k1,k2,k3⟩:=hm q hq
    have hne:j≠j':=fun e=>hab i (by omega) ⟨d,hd,hc,hw,e▸k1⟩
    exact iv.inj j p j' q hD k2 hp k3 hne (by rw [e1,hqb])
  have hlt:=iv.sr.hr.bound _ _ e1
  refine ⟨b',o',hs.names _ _ e1,fun hx=>e2 (hs.baseN _ hlt hx),e3,fun hx=>hnl (hs.live _ hlt hx),by rw [hs.same _ hlt hnl]; exact e5,?_⟩
  refine (e6.relive (ρ:=ρ) (L:=Lv ρ (f mm).s.h) (ρ':=ρ) (L':=Lv ρ hh) rfl rfl (fun c hc hx => ?_)).mono hs hr.bound
  rcases hl c hx with h | ⟨q,hq,hqb⟩
  ·exact h
  ·obtain ⟨b'',_,k1,k2,_⟩:=hp1 q hq
   rw [hqb] at k1; cases k1; exact absurd hc k2
 ·rcases hl c hl' with h | ⟨q,hq,hqb⟩
  ·exact h
  ·obtain ⟨b'',_,k1,_,k2,_⟩:=hp1 q hq
   rw [hqb] at k1; cases k1; omega
theorem DInv.step_chain (hcall:bD P X call) {i:Nat} {rest:List Nat} (ht:Turn ops D i) (him:i<m) {o:Oper} (ho:ops[i]?=some o) {d:DOper} (hd:ds[i]?=some d) (hco:wG P N ops o=some d.o)
  {v:AV} {s1:St} {vs:List AV} (hdid:Did X call d i (yJ i id0) (f i) v (f (i+1))) (hf:f (i+1)={ s:=s1.put d.o.dst v,hs:=(i,(f i).s.h)::(f i).hs,pend:=gF d.makers (f i).pend,log:=(f i).log })
  (hw:xI (f i).s.fr d.o.guard=some true) (he:xE X (f i).s.fr d.o.args=some vs) (hc:d.chain=true)
  (h1:∀ fr:Tr AV,yT call { (f i).s with h:=(f i).s.h.withP (zT d.makers (f i).pend),fr:=fr } d.o vs=.nrm (St.put { s1 with fr:=fr } d.o.dst v)) :
  ∃ mm' sB' ρ' a' w',DInv P X N ops ds id0 s0 f m b cs ρ0 h0 w0 (upd D i) mm' sB' ρ' a' w' ∧
   Steps P (lone (at' b a (.inRegion ops (i::rest)::k)) (wN sB.rc cs) w) (lone (at' b a' (.inRegion ops rest::k)) (wN sB'.rc cs) w'):=by
 obtain ⟨hh,ehh,hr,hl,hp1,hm,hends⟩:=iv.chain_ends dc (rest:=rest) (k:=k) hcall ht (by omega) ho hd hco hc hw he
 rw [ehh,h1] at hends
 obtain ⟨ρ1,a1,w1,g1,g2,g3⟩:=hends
 rw [← ehh] at g2
 rw [xGj] at g2
 have hrc:(St.put { s1 with fr:=kF ds f D ops.size } d.o.dst v).rc=s1.rc:=by cases d.o.dst<;>rfl
 rw [hrc] at g3
 obtain ⟨q1,q2⟩:=iv.chain_pend dc ht (by omega) hd hc hw hr hl hp1 hm g2
 have hh':(f (i+1)).s.h=s1.h:=by rw [hf]; exact xGj _ _ _
 have hsr:SR P X N b cs { s1 with fr:=rL (kF ds f D ops.size) d.o.dst v,h:=(f (i+1)).s.h } ρ1 a1 w1:=by
  rw [hh']; rw [zFd] at g1; exact g1
 refine ⟨i+1,s1,ρ1,a1,w1,iv.next dc ht him hd hdid him (iv.cut_next dc ht hd hc) hsr (fun _ _ h=>g2.names _ _ h) ?_ (fun j p hD hp hab=>hh'▸q1 j p hD hp hab) (fun j hj _ hD=>by rw [g2.res]; exact iv.res j hj hD)
  (fun id hid=>by rw [g2.res]; exact iv.res0 id hid) (hh'▸q2) ?_,g3⟩
 ·rintro p ⟨_,_,d',v,vs,k1,k2,_⟩
  cases hd.symm.trans k1
  rw [hc] at k2; cases k2
 ·rw [hf]; simp only [wJ]
theorem DInv.step (hcall:bD P X call) (hlog:∀ l∈(f m).log,qE l ((m,(f m).s.h)::(f m).hs)=true) (hid0:∀ id,ρ0.res id→id.num<id0.num) {i:Nat} {rest:List Nat} (ht:Turn ops D i) (him:i<m) :
  ∃ mm' sB' ρ' a' w',DInv P X N ops ds id0 s0 f m b cs ρ0 h0 w0 (upd D i) mm' sB' ρ' a' w' ∧
   Steps P (lone (at' b a (.inRegion ops (i::rest)::k)) (wN sB.rc cs) w) (lone (at' b a' (.inRegion ops rest::k)) (wN sB'.rc cs) w'):=by
 have hlt:=ht.lt
 have ho:ops[i]?=some ops[i]:=by simp [hlt]
 obtain ⟨d',hd',hco⟩:=dc.comp i _ ho
 obtain ⟨d,v,hd,hdid⟩:=dc.did i him
 cases hd.symm.trans hd'
 have hdid0:=hdid
 generalize hD':f (i+1)=D' at hdid
 cases hdid with
 | skip hw=>exact iv.step_skip dc ht him ho hd hco hdid0 hD' hw
 | chain hw he hc h1 h2 h3=>exact iv.step_chain dc hcall ht him ho hd hco hdid0 hD' hw he hc h1
 | maker hw he hc hm h1=>exact iv.step_maker dc hid0 ht him ho hd hco hdid0 hD' hw he hc hm h1
 | read hw he hc hm h1 h2=>exact iv.step_read dc hlog ht him ho hd hco hdid0 hD' hw he hc hm h1 h2
end
end Go.Abs
end
section
namespace Go.Abs
variable [envI:Env]
def cnt (D:Nat→Bool):Nat→Nat
 | 0=>0
 | n+1=>cnt D n+(if D n then 0 else 1)
omit envI in
theorem zHk (D:Nat→Bool):∀ n,cnt D n≤n
 | 0=>Nat.le_refl _
 | n+1=>by have:=zHk D n; simp only [cnt]; split<;>omega
omit envI in
theorem xTn {D:Nat→Bool}:∀ {n:Nat},cnt D n=0→∀ j,j<n→D j=true
 | 0,_,j,hj=>by omega
 | n + 1,h,j,hj=>by
  simp only [cnt] at h
  by_cases e:j=n
  ·subst e
   cases hD:D j with
   | true=>rfl
   | false=>rw [hD] at h; simp at h
  ·exact xTn (n:=n) (by omega) j (by omega)
omit envI in
theorem xPl {D D':Nat→Bool}:∀ {n:Nat},(∀ j,j<n→D j=D' j)→cnt D n=cnt D' n
 | 0,_=>rfl
 | n+1,h=>by
  have:=xPl (n:=n) (D:=D) (D':=D') (fun j hj=>h j (by omega))
  simp only [cnt,h n (by omega),this]
omit envI in
theorem xZa {D:Nat→Bool} {i:Nat} (hi:D i=false):∀ {n:Nat},i<n→cnt (upd D i) n+1=cnt D n
 | 0,h=>by omega
 | n + 1,h=>by
  simp only [cnt]
  by_cases e:i=n
  ·subst e
   rw [xAu,hi,xPl (D:=upd D i) (D':=D) (fun j hj=>upd_ne D (by omega))]
   simp
  ·have:=xZa hi (n:=n) (by omega)
   rw [upd_ne D (show n≠i from fun x=>e x.symm)]
   omega
section
variable {P:Program} {X:Ctx} {N:Nat} {ops:Array Oper} {ds:List DOper} {call:jA} {id0:Pth} {s0:St} {f:Nat→DSt} {m:Nat} {b:Frame} {cs:List Frame}
 {ρ0:Nm} {h0:H} {w0:World} {k:List Item}
def xOy (f:Nat→DSt) (n m:Nat) (pan:AV×St):Out :=
 if m=n then .nrm { (f n).s with h:=(f n).s.h.withP (f n).pend } else .panic pan.1 pan.2
def xYm (X:Ctx) (call:jA) (ds:List DOper) (_id0:Pth) (f:Nat→DSt) (m:Nat) (pan:AV×St):Prop :=
 ∃ d vs,ds[m]?=some d∧d.chain=true∧d.last=true∧xI (f m).s.fr d.o.guard=some true∧xE X (f m).s.fr d.o.args=some vs ∧
  yT call { (f m).s with h:=(f m).s.h.withP (zT d.makers (f m).pend) } d.o vs=.panic pan.1 pan.2
theorem SR.end (_hr0:HR P X ρ0 h0 w0) {s:St} {ρ:Nm} {a:Act} {w:World} (h:SR P X N b cs s ρ a w) (hres0:∀ id,ρ0.res id→ρ.res id) (hsim:Sim0 ρ0 (Lv ρ0 h0) w0 ρ (Lv ρ s.h) w) :
  SR P X N b cs s { ρ with res:=ρ0.res } a w∧Sim ρ0 (Lv ρ0 h0) w0 { ρ with res:=ρ0.res } (Lv { ρ with res:=ρ0.res } s.h) w:=by
 have hr:=h.hr.keep (R:=ρ0.res) (fun id hid=>h.hr.resv id (hres0 id hid))
 refine ⟨h.relive (ρ':={ ρ with res:=ρ0.res }) rfl rfl hr (fun _ _ h=>h),⟨⟨hsim.base,hsim.baseN,hsim.names,hsim.size,hsim.same,hsim.cells,hsim.live,hsim.os,hsim.output,hsim.tape⟩,rfl⟩⟩
set_option maxHeartbeats 1000000 in
theorem zHt (dc:DC P X N ops ds call id0 s0 f m) (hcall:bD P X call) (hlog:∀ l∈(f m).log,qE l ((m,(f m).s.h)::(f m).hs)=true) (hr0:HR P X ρ0 h0 w0) (hid0:∀ id,ρ0.res id→id.num<id0.num)
  {pan:AV×St} (hm:m=ops.size∨m+1=ops.size∧xYm X call ds id0 f m pan) :
  ∀ (fuel t:Nat) (listed:Array Bool) (D:Nat→Bool) (mm:Nat) (sB:St) (ρ:Nm) (a:Act) (w:World),listed.size=ops.size→(∀ j,listed.getD j false=D j)→cnt D ops.size≤fuel →
   DInv P X N ops ds id0 s0 f m b cs ρ0 h0 w0 D mm sB ρ a w →
   Ends P X N b cs k ρ0 h0 w0 (lone (at' b a (.inRegion ops (Region.linearise.go .any ops fuel t listed [])::k)) (wN sB.rc cs) w) (xOy f ops.size m pan):=by
 have fin:∀ (D:Nat→Bool) (mm:Nat) (sB:St) (ρ:Nm) (a:Act) (w:World),(∀ j,j<ops.size→D j=true)→DInv P X N ops ds id0 s0 f m b cs ρ0 h0 w0 D mm sB ρ a w →
   Ends P X N b cs k ρ0 h0 w0 (lone (at' b a (.inRegion ops []::k)) (wN sB.rc cs) w) (xOy f ops.size m pan):=by
  intro D mm sB ρ a w hall iv
  have hmn:m=ops.size:=by
   rcases hm with h | ⟨h,_⟩
   ·exact h
   ·have:=iv.dm m (by omega) (hall m (by omega)); omega
  have hfr:kF ds f D ops.size=(f ops.size).s.fr:=dc.frOf_all (by omega) hall
  have hheap:(f mm).s.h=(f ops.size).s.h:=by
   refine dc.heap_same (by have:=iv.mmle; omega) (by omega) (fun j e h1 h2 h3 => ?_)
   cases he:e.chain with
   | false=>rfl
   | true=>have:=(iv.cut j e h3 he).1 (hall j h2); omega
  obtain ⟨h1,h2⟩:=dc.pend_text (i:=ops.size) (by omega)
  have hpk:∀ p∈(f ops.size).pend,∃ j,D j=true∧jY X ds f id0 j p∧∀ c,c<mm→¬ rO ds f c j:=by
   intro p hp
   obtain ⟨j,g1,g2,g3⟩:=h1 p hp
   exact ⟨j,hall j g1,g2,fun c hc=>g3 c (by have:=iv.mmle; omega)⟩
  have hp:∀ p∈(f ops.size).pend,vK P w0.heap.size ρ (f mm).s.h w p:=fun p hp=>by
   obtain ⟨j,g1,g2,g3⟩:=hpk p hp
   exact iv.pend j p g1 g2 g3
  have hd:(f ops.size).pend.Pairwise (fun p q=>ρ p.id≠ρ q.id):=by
   refine List.Pairwise.imp_of_mem ?_ h2
   intro p q hp hq hne
   obtain ⟨j,g1,g2,_⟩:=hpk p hp
   obtain ⟨j',k1,k2,_⟩:=hpk q hq
   exact iv.inj j p j' q g1 k1 g2 k2 (fun e=>hne (by rw [g2.1,k2.1,e]))
  obtain ⟨hr',hl1,_⟩:=xCr _ iv.sr.hr hp hd
  have hup:∀ c,Lv ρ ((f mm).s.h.withP (f ops.size).pend) c→Lv ρ (f mm).s.h c∨(¬ ρ.base c∧w0.heap.size≤c):=by
   intro c hl
   rcases hl1 c hl with h | ⟨p,hpm,hpc⟩
   ·exact .inl h
   ·obtain ⟨b',_,e1,e2,e3,_⟩:=hp p hpm
    rw [hpc] at e1; cases e1
    exact .inr ⟨e2,e3⟩
  have hs1:=iv.sr.relive (ρ':=ρ) rfl rfl hr' (fun c hc hl=>by
   rcases hup c hl with h | h
   ·exact h
   ·exact absurd hc h.1)
  have hst:({ sB with fr:=kF ds f D ops.size,h:=(f mm).s.h.withP (f ops.size).pend }:St)={ (f ops.size).s with h:=(f ops.size).s.h.withP (f ops.size).pend }:=by
   rw [xTo (iv.full hall),hfr,hheap]
  simp only at hs1
  rw [hst] at hs1
  have hsim:Sim0 ρ0 (Lv ρ0 h0) w0 ρ (Lv ρ ((f ops.size).s.h.withP (f ops.size).pend)) w:=by
   refine ⟨iv.sim.base,iv.sim.baseN,iv.sim.names,iv.sim.size,iv.sim.same,iv.sim.cells,fun c hc hl => ?_,iv.sim.os,iv.sim.output,iv.sim.tape⟩
   rw [← hheap] at hl
   rcases hup c hl with h | h
   ·exact iv.sim.live c hc h
   ·omega
  obtain ⟨e1,e2⟩:=hs1.end hr0 iv.res0 hsim
  have hrc:sB.rc=(f ops.size).s.rc:=by
   have:=iv.full hall
   simp only [mJ,Prod.mk.injEq] at this
   exact this.2.1
  simp only [xOy,if_pos hmn]
  exact ⟨_,a,w,e1,e2,.one (hrc▸xE2)⟩
 intro fuel
 induction fuel with
 | zero =>
  intro t listed D mm sB ρ a w hsz hD hcnt iv
  simp only [Region.linearise.go,List.reverse_nil]
  exact fin D mm sB ρ a w (xTn (by omega)) iv
 | succ fuel ih =>
  intro t listed D mm sB ρ a w hsz hD hcnt iv
  have hgo:Region.linearise.go .any ops (fuel+1) t listed []=match (Region.ready .any ops listed)[t % (Region.ready .any ops listed).length]? with
   | some i=>Region.linearise.go .any ops fuel (t / (Region.ready .any ops listed).length) (listed.setIfInBounds i true) [i]
   | none=>[].reverse:=rfl
  rw [hgo]
  have hturn:∀ i,i<ops.size→D i=false→(∀ o,ops[i]?=some o→∀ e∈o.after,Region.binds .any e=true→D e.on=true)→Turn ops D i:=fun i h1 h2 h3=>⟨h1,h2,h3⟩
  cases hi:(Region.ready .any ops listed)[t % (Region.ready .any ops listed).length]? with
  | none =>
   have hnil:Region.ready .any ops listed=[]:=by
    cases hr:Region.ready .any ops listed with
    | nil=>rfl
    | cons x xs =>
     rw [hr] at hi
     have hlt:t % (x::xs).length<(x::xs).length:=Nat.mod_lt _ (by simp)
     rw [List.getElem?_eq_getElem hlt] at hi
     cases hi
   have hall : ∀ j,j<ops.size→D j=true:=by
    intro j
    induction j using Nat.strongRecOn with
    | _ j ihj =>
     intro hj
     cases hDj:D j with
     | true=>rfl
     | false =>
      exfalso
      have : j∈Region.ready .any ops listed:=by
       refine mem_ready.2 ⟨?_,ops[j],by simp [hj],fun e he hb => ?_⟩
       ·have:=hD j
        rw [hDj] at this
        rw [Array.getD_eq_getD_getElem?] at this ⊢
        have hlt:j<listed.size:=by omega
        rw [Array.getElem?_eq_getElem hlt] at this ⊢
        simpa using this
       ·have hlt:=dc.edges j ops[j] (by simp [hj]) e he hb
        rw [hD]
        exact ihj e.on hlt (by omega)
      rw [hnil] at this
      cases this
   exact fin D mm sB ρ a w hall iv
  | some i =>
   obtain ⟨hl,o,ho,hpre⟩:=mem_ready.1 (List.mem_of_getElem? hi)
   have hlt:i<ops.size:=(Array.getElem?_eq_some_iff.1 ho).1
   have ht:Turn ops D i:=by
    refine ⟨hlt,?_,fun o' ho' e he hb => ?_⟩
    ·rw [← hD i]
     have hlt':i<listed.size:=by omega
     rw [Array.getD_eq_getD_getElem?,Array.getElem?_eq_getElem hlt'] at hl ⊢
     simpa using hl
    ·cases ho.symm.trans ho'
     rw [← hD]; exact hpre e he hb
   simp only []
   rw [linearise_go_acc,List.reverse_singleton,List.singleton_append]
   by_cases him:i<m
   ·obtain ⟨mm',sB',ρ',a',w',iv',hst⟩:=iv.step dc hcall hlog hid0 (k:=k) (rest:=Region.linearise.go .any ops fuel (t / (Region.ready .any ops listed).length) (listed.setIfInBounds i true) []) ht him
    have h1:=ih (t / (Region.ready .any ops listed).length) (listed.setIfInBounds i true) (upd D i) mm' sB' ρ' a' w' (by simpa using hsz) (fun j => ?_) (by have:=xZa ht.no hlt; omega) iv'
    ·cases hfin:xOy f ops.size m pan with
     | nrm s =>
      rw [hfin] at h1
      obtain ⟨ρ1,a1,w1,g1,g2,g3⟩:=h1
      exact ⟨ρ1,a1,w1,g1,g2,hst.trans g3⟩
     | panic v s =>
      rw [hfin] at h1
      obtain ⟨ρ1,a1,w1,todo,vv,older,g1,g2,g3,g4,g5⟩:=h1
      exact ⟨ρ1,a1,w1,todo,vv,older,g1,g2,g3,g4,hst.trans g5⟩
     | exit _ _=>simp only [xOy] at hfin; split at hfin<;>cases hfin
     | ret _=>simp only [xOy] at hfin; split at hfin<;>cases hfin
     | bad _=>trivial
    ·by_cases hji:j=i
     ·subst hji
      rw [xAu,Array.getD_eq_getD_getElem?,Array.getElem?_setIfInBounds_self_of_lt (by omega)]; rfl
     ·rw [upd_ne D hji,← hD j,Array.getD_eq_getD_getElem?,Array.getD_eq_getD_getElem?,Array.getElem?_setIfInBounds_ne (fun e=>hji e.symm)]
   ·
    rcases hm with hm | ⟨hm,d,vs,hd,hc,hlast,hw,he,hone⟩
    ·omega
    have him':i=m:=by omega
    subst him'
    obtain ⟨d',hd',hco⟩:=dc.comp i o ho
    cases hd.symm.trans hd'
    have hfrt:kF ds f D ops.size=(f i).s.fr:=by
     have hDj:∀ j,j<i→D j=true:=fun j hj=>ht.anc iv.closed (dc.last i j d hd hlast (by omega) (by omega))
     have hDi:D i=false:=ht.no
     rw [← hm]
     simp only [kF,hDi,cond_false]
     exact dc.frOf_all (Nat.le_refl _) hDj
    obtain ⟨hh,ehh,hr,hl,hp1,hmm,hends⟩:=iv.chain_ends dc (rest:=Region.linearise.go .any ops fuel (t / (Region.ready .any ops listed).length) (listed.setIfInBounds i true) []) (k:=k) hcall ht (Nat.le_refl _) ho hd hco hc hw he
    rw [hfrt,ehh] at hends
    rw [hone] at hends
    obtain ⟨ρ1,a1,w1,todo,vv,older,g1,g2,g3,g4,g5⟩:=hends
    rw [← ehh] at g2
    obtain ⟨_,q2⟩:=iv.chain_pend dc ht (Nat.le_refl _) hd hc hw hr hl hp1 hmm g2
    obtain ⟨e1,e2⟩:=g1.end hr0 (fun id hid=>by rw [g2.res]; exact iv.res0 id hid) q2
    simp only [xOy,if_neg (show ¬ (i=ops.size) from by omega)]
    exact ⟨_,a1,w1,todo,vv,older,e1,e2,g3.relive (ρ:=ρ1) (L:=Lv ρ1 pan.2.h) (ρ':={ ρ1 with res:=ρ0.res }) (L':=Lv { ρ1 with res:=ρ0.res } pan.2.h) rfl rfl (fun _ _ h=>h),g4,g5⟩
end
end Go.Abs
end
section
namespace Go.Abs
variable [envI:Env]
section
variable {P:Program} {X:Ctx} {N:Nat} {ops:Array Oper} {ds:List DOper} {b:Frame} {cs:List Frame} {k:List Item}
omit envI in
theorem xAx {a b:Nat}:Nat.blt a b=true↔a<b:=⟨fun h=>Nat.le_of_ble_eq_true h,fun h=>Nat.ble_eq_true_of_le h⟩
omit envI in
theorem zRe {o:AOper} {t:Pth} (h:t∈tmpsOf o):zRd o t=true:=List.any_eq_true.2 ⟨t,h,Pth.beq_iff.2 rfl⟩
structure RegK (anc:Nat→Nat→Bool) (n:Nat) (ops:Array Oper) (ds:List DOper):Prop where
 edges:∀ (i:Nat) (o:Oper),i<n→ops[i]?=some o→(∃ d,ds[i]?=some d)→∀ e∈o.after,Region.binds .any e=true→e.on<i
 pair:∀ (i j:Nat) (d e:DOper),i<n→j<n→i≠j→(∃ o,ops[i]?=some o)→ds[i]?=some d→ds[j]?=some e →
  (∀ t,e.o.dst=some t→zRd d.o t=true→(if j<i then anc i j else anc j i)=true) ∧
  (d.chain=true→e.chain=true→j<i→anc i j=true) ∧
  (d.last=true→anc i j=true) ∧
  (xS d.o.op=true→d.chain=false→d.wide=true→e.chain=true→j<d.hi→∀ m:Nat,m∈e.makers→m∉d.makers) ∧
  (xS d.o.op=true→d.chain=false→d.wide=false→e.chain=true→j<d.lo∨d.hi≤j)
 makers:∀ (i:Nat) (d:DOper),i<n→(∃ o,ops[i]?=some o)→ds[i]?=some d→∀ m:Nat,m∈d.makers→anc i m=true
 win:∀ (i:Nat) (d:DOper),i<n→(∃ o,ops[i]?=some o)→ds[i]?=some d→xS d.o.op=true→d.chain=false →
  (d.lo=0∨0<d.lo∧anc i (d.lo - 1)=true∧∃ e,ds[d.lo - 1]?=some e∧e.chain=true)∧(d.hi=n∨anc d.hi i=true∧∃ e,ds[d.hi]?=some e∧e.chain=true)
omit envI in
theorem xO2 {anc:Nat→Nat→Bool} {n:Nat} (h:zB1 anc n ops ds=true):RegK anc n ops ds:=by
 unfold zB1 at h
 rw [List.all_eq_true] at h
 have at_:∀ (i:Nat) (o:Oper) (d:DOper),i<n→ops[i]?=some o→ds[i]?=some d→_:=fun i o d hi ho hd=>by
  have:=h i (List.mem_range.2 hi)
  rw [ho,hd] at this
  exact this
 refine ⟨?_,?_,?_,?_⟩
 ·intro i o hi ho ⟨d,hd⟩ e he hb
  have:=at_ i o d hi ho hd
  simp only [Bool.and_eq_true] at this
  have h1:=List.all_eq_true.1 this.1.1.1 e (Array.mem_toList_iff.2 he)
  rw [hb] at h1
  simp only [Bool.not_true,Bool.false_or] at h1
  exact xAx.1 h1
 ·intro i j d e hi hj hij ⟨o,ho⟩ hd he
  have:=at_ i o d hi ho hd
  simp only [Bool.and_eq_true] at this
  have h1:=List.all_eq_true.1 this.1.1.2 j (List.mem_range.2 hj)
  have hne:Nat.beq i j=false:=by
   cases hb:Nat.beq i j with
   | false=>rfl
   | true=>exact absurd (Nat.eq_of_beq_eq_true hb) hij
  rw [hne,he] at h1
  simp only [Bool.false_or,Bool.and_eq_true] at h1
  obtain ⟨⟨⟨⟨h2,h3⟩,h4⟩,h5⟩,h6⟩:=h1
  refine ⟨?_,?_,?_,?_,?_⟩
  ·intro t ht hon
   rw [ht] at h2
   simp only [hon,Bool.not_true,Bool.false_or] at h2
   by_cases hji:j<i
   ·rw [if_pos hji]
    have:Nat.blt j i=true:=xAx.2 hji
    rw [this] at h2; exact h2
   ·rw [if_neg hji]
    have:Nat.blt j i=false:=by
     cases hb:Nat.blt j i with
     | false=>rfl
     | true=>exact absurd (xAx.1 hb) hji
    rw [this] at h2; exact h2
  ·intro hc hc' hji
   have:Nat.blt j i=true:=xAx.2 hji
   rw [hc,hc',this] at h3
   simpa using h3
  ·intro hl
   rw [hl] at h4
   simpa using h4
  ·intro hs hc hw hc' hji m hm
   have:Nat.blt j d.hi=true:=xAx.2 hji
   rw [hs,hc,hw,hc',this] at h5
   simp only [Bool.not_false,Bool.and_true,Bool.not_true,Bool.false_or] at h5
   have:=List.all_eq_true.1 h5 m hm
   simpa using this
  ·intro hs hc hw hc'
   rw [hs,hc,hw,hc'] at h6
   simp only [Bool.not_false,Bool.and_true,Bool.not_true,Bool.false_or,Bool.or_eq_true] at h6
   rcases h6 with h6 | h6
   ·exact .inl (xAx.1 h6)
   ·exact .inr (Nat.le_of_ble_eq_true h6)
 ·intro i d hi ⟨o,ho⟩ hd m hm
  have:=at_ i o d hi ho hd
  simp only [Bool.and_eq_true] at this
  exact List.all_eq_true.1 this.1.2 m hm
 ·intro i d hi ⟨o,ho⟩ hd hs hc
  have:=at_ i o d hi ho hd
  simp only [Bool.and_eq_true] at this
  have h1:=this.2
  rw [hs,hc] at h1
  simp only [Bool.not_false,Bool.and_true,Bool.not_true,Bool.false_or,Bool.and_eq_true,Bool.or_eq_true] at h1
  obtain ⟨h2,h3⟩:=h1
  refine ⟨?_,?_⟩
  ·rcases h2 with h2 | ⟨⟨h2,h4⟩,h5⟩
   ·exact .inl (Nat.eq_of_beq_eq_true h2)
   ·refine .inr ⟨xAx.1 h2,h4,?_⟩
    cases e:ds[d.lo - 1]? with
    | none=>rw [e] at h5; cases h5
    | some x=>rw [e] at h5; exact ⟨x,rfl,h5⟩
  ·rcases h3 with h3 | ⟨h4,h5⟩
   ·exact .inl (Nat.eq_of_beq_eq_true h3)
   ·refine .inr ⟨h4,?_⟩
    cases e:ds[d.hi]? with
    | none=>rw [e] at h5; cases h5
    | some x=>rw [e] at h5; exact ⟨x,rfl,h5⟩
omit envI in
theorem xRe (hc:dO P N ops true=some (.dreg ds)):ds.length=ops.size∧(∀ (i:Nat) (o:Oper),ops[i]?=some o→∃ d:DOper,ds[i]?=some d∧wG P N ops o=some d.o) ∧
  RegK (fun i j=>((Region.before ops).getD i 0).testBit j) ops.size ops ds:=by
 unfold dO at hc
 cases hm:ops.toList.mapM (wG P N ops) with
 | none=>rw [hm] at hc; cases hc
 | some os =>
  rw [hm] at hc
  simp only [Bool.true_eq_false,if_false] at hc
  have key:∀ (an:Nat→Nat→Bool) (n:Nat) (ch mk:List Nat) (few:Bool),zHy an n ch mk few os=ds→ds.length=ops.size∧(∀ (i:Nat) (o:Oper),ops[i]?=some o→∃ d:DOper,ds[i]?=some d∧wG P N ops o=some d.o):=by
   intro an n ch mk few hc
   obtain ⟨hl,hg⟩:=xN7 hm
   refine ⟨?_,?_⟩
   ·rw [← hc]; simp [zHy,hl]
   ·intro i o ho
    obtain ⟨ao,h1,h2⟩:=hg i o (by simpa using ho)
    rw [← hc]
    simp only [zHy,List.getElem?_map,List.getElem?_zipIdx,h1,Option.map_some,Nat.zero_add]
    exact ⟨_,rfl,h2⟩
  split at hc
  ·rename_i hok
   simp only [Option.some.injEq,ACode.dreg.injEq] at hc
   obtain ⟨k1,k2⟩:=key _ _ _ _ _ hc
   rw [hc] at hok
   exact ⟨k1,k2,xO2 hok⟩
  ·split at hc
   ·rename_i hok
    simp only [Option.some.injEq,ACode.dreg.injEq] at hc
    obtain ⟨k1,k2⟩:=key _ _ _ _ _ hc
    rw [hc] at hok
    exact ⟨k1,k2,xO2 hok⟩
   ·cases hc
omit envI in
theorem xPo {call:jA} {d:DOper} {i:Nat} {id:Pth} {D:DSt} {out:Out} (h:kD X call d i id D=.out out):(∃ n,out=.bad n) ∨
  ∃ vs v s',out=.panic v s'∧d.chain=true∧d.last=true∧(∀ l∈D.log,qE l ((i,D.s.h)::D.hs)=true)∧xI D.s.fr d.o.guard=some true∧xE X D.s.fr d.o.args=some vs ∧
   yT call { D.s with h:=D.s.h.withP (zT d.makers D.pend) } d.o vs=.panic v s':=by
 unfold kD at h
 cases hw:xI D.s.fr d.o.guard with
 | none=>rw [hw] at h; cases h; exact .inl ⟨_,rfl⟩
 | some t =>
  rw [hw] at h
  cases t with
  | false =>
   simp only at h
   cases hc:d.chain<;>rw [hc] at h<;>cases h
  | true =>
   cases he:xE X D.s.fr d.o.args with
   | none=>rw [he] at h; cases h; exact .inl ⟨_,rfl⟩
   | some vs =>
    rw [he] at h
    simp only at h
    cases hc:d.chain with
    | true =>
     rw [hc] at h
     simp only [cond_true] at h
     cases ho:yT call { D.s with h:=D.s.h.withP (zT d.makers D.pend) } d.o vs with
     | nrm s' =>
      rw [ho] at h
      simp only at h
      cases hq:(d.last||quiet d.o.op) with
      | false=>rw [hq] at h; cases h; exact .inl ⟨_,rfl⟩
      | true=>rw [hq] at h; cases h
     | panic v s' =>
      rw [ho] at h
      simp only at h
      cases hl:(d.last&&D.log.all (fun l=>qE l ((i,D.s.h)::D.hs))) with
      | false=>rw [hl] at h; cases h; exact .inl ⟨_,rfl⟩
      | true =>
       rw [hl] at h
       cases h
       simp only [Bool.and_eq_true] at hl
       exact .inr ⟨vs,v,s',rfl,rfl,hl.1,List.all_eq_true.1 hl.2,rfl,rfl,ho⟩
     | exit _ _=>rw [ho] at h; cases h; exact .inl ⟨_,rfl⟩
     | ret _=>rw [ho] at h; cases h; exact .inl ⟨_,rfl⟩
     | bad _=>rw [ho] at h; cases h; exact .inl ⟨_,rfl⟩
    | false =>
     rw [hc] at h
     simp only [cond_false] at h
     cases hm:xO d.o.op with
     | true =>
      rw [hm] at h
      simp only [cond_true] at h
      cases hk:jX d.o.op vs id with
      | none=>rw [hk] at h; cases h; exact .inl ⟨_,rfl⟩
      | some p=>rw [hk] at h; cases h
     | false =>
      rw [hm] at h
      simp only [cond_false] at h
      cases hk:xM (D.s.h.withP (zT d.makers D.pend)) d.o.op vs with
      | none=>rw [hk] at h; cases h; exact .inl ⟨_,rfl⟩
      | some v =>
       rw [hk] at h
       simp only at h
       cases hs:(xS d.o.op&&d.wide)<;>rw [hs] at h<;>cases h
theorem zHu {call:jA} (hcall:bD P X call) (hmix:P.follows .mixedOrders=true) (hc:dO P N ops true=some (.dreg ds)) {s:St} {ρ:Nm} {a:Act} {w:World} (hs:SR P X N b cs s ρ a w) (id:Nat) :
  Ends P X N b cs k ρ s.h w (lone (at' b a (.code (.region id ops true)::k)) (wN s.rc cs) w) (mK X call ds s):=by
 obtain ⟨hlen,hcomp,rk⟩:=xRe hc
 have hst:=xMw (P:=P) (b:=b) (a:=a) (k:=k) (cs:=wN s.rc cs) (w:=w) (ops:=ops) (id:=id)
 simp only [Region.schedule,hmix,Bool.true_or,if_true] at hst
 let s0:St:={ s with h:={ s.h with next:=yJ ds.length s.h.next } }
 obtain ⟨f,m,hml,hf0,hdone,hres⟩:=xJk (X:=X) (call:=call) ds 0 s.h.next { s:=s0,hs:=[],pend:=[],log:=[] }
 have hnum:(yJ ds.length s.h.next).num=s.h.next.num+ops.size:=by rw [nY,hlen]
 have hdlt:∀ (i:Nat) (d:DOper),ds[i]?=some d→i<ops.size:=fun i d h=>by
  rw [← hlen]; exact (List.getElem?_eq_some_iff.1 h).1
 have hop:∀ i,i<ops.size→∃ o,ops[i]?=some o:=fun i h=>⟨ops[i],by simp [h]⟩
 have dc:DC P X N ops ds call s.h.next s0 f m:={
  mle:=by omega
  comp:=hcomp
  dlt:=hdlt
  edges:=fun i o ho=>by
   have hi:=(Array.getElem?_eq_some_iff.1 ho).1
   obtain ⟨d,hd,_⟩:=hcomp i o ho
   exact rk.edges i o hi ho ⟨d,hd⟩
  write:=fun i j d e t hd he hij ht hm=>by
   have:=(rk.pair i j d e (hdlt i d hd) (hdlt j e he) hij (hop i (hdlt i d hd)) hd he).1 t ht (zRe hm)
   refine ⟨fun h => ?_,fun h => ?_⟩
   ·rw [if_pos h] at this; exact nS ops this
   ·rw [if_neg (by omega)] at this; exact nS ops this
  chain:=fun i j d e hd he h1 h2 h3=>nS ops ((rk.pair i j d e (hdlt i d hd) (hdlt j e he) (by omega) (hop i (hdlt i d hd)) hd he).2.1 h1 h2 h3)
  last:=fun i j d hd hl hj hij=>by
   obtain ⟨o,ho⟩:=hop j hj
   obtain ⟨e,he,_⟩:=hcomp j o ho
   exact nS ops ((rk.pair i j d e (hdlt i d hd) hj hij (hop i (hdlt i d hd)) hd he).2.2.1 hl)
  makers:=fun i d hd j hj=>nS ops (rk.makers i d (hdlt i d hd) (hop i (hdlt i d hd)) hd j hj)
  lo := fun i d hd h1 h2=>by
   rcases (rk.win i d (hdlt i d hd) (hop i (hdlt i d hd)) hd h2 h1).1 with h | ⟨h3,h4,e,h5,h6⟩
   ·exact .inl h
   ·exact .inr ⟨e,h3,h5,h6,nS ops h4⟩
  hi := fun i d hd h1 h2=>by
   rcases (rk.win i d (hdlt i d hd) (hop i (hdlt i d hd)) hd h2 h1).2 with h | ⟨h4,e,h5,h6⟩
   ·exact .inl h
   ·exact .inr ⟨e,h5,h6,nS ops h4⟩
  wide:=fun i d hd h1 h2 h3 j e he h4 h5=>by
   by_cases hij:i=j
   ·subst hij; cases hd.symm.trans he; rw [h1] at h4; cases h4
   ·exact (rk.pair i j d e (hdlt i d hd) (hdlt j e he) hij (hop i (hdlt i d hd)) hd he).2.2.2.1 h2 h1 h3 h4 h5
  narrow:=fun i d hd h1 h2 h3 j e he h4=>by
   by_cases hij:i=j
   ·subst hij; cases hd.symm.trans he; rw [h1] at h4; cases h4
   ·exact (rk.pair i j d e (hdlt i d hd) (hdlt j e he) hij (hop i (hdlt i d hd)) hd he).2.2.2.2 h2 h1 h3 h4
  f0:=hf0
  did:=fun i hi=>by
   obtain ⟨o,h1,h2⟩:=hdone i hi
   rw [Nat.zero_add] at h2
   obtain ⟨v,hv⟩:=yDt h2
   exact ⟨o,v,h1,hv⟩ }
 let R:Pth→Prop:=fun j=>ρ.res j∨s.h.next.num≤j.num∧j.num<s.h.next.num+ops.size
 obtain ⟨hrd,hsd⟩:=hs.hr.drawn (w.drawn+1)
 have hrs:HR P X ρ s0.h { w with drawn:=w.drawn+1 }:=hrd.skip (nx:=yJ ds.length s.h.next) (by rw [hnum]; omega)
 have hrk:=hrs.keep (R:=R) (fun j hj=>by
  rcases hj with hj | ⟨h1,h2⟩
  ·obtain ⟨h3,h4⟩:=hs.hr.resv j hj
   exact ⟨h3,Nat.lt_of_lt_of_le h4 (by show _≤(yJ ds.length s.h.next).num; rw [hnum]; omega)⟩
  ·exact ⟨hs.hr.fresh j h1,by show _<(yJ ds.length s.h.next).num; rw [hnum]; exact h2⟩)
 have hs0:SR P X N b cs s0 { ρ with res:=R } a { w with drawn:=w.drawn+1 }:=by
  have h1:=hs.step hrd hsd
  exact h1.relive (ρ':={ ρ with res:=R }) (h':=s0.h) rfl rfl hrk (fun _ _ h=>h)
 have hf0s:(f 0).s=s0:=by rw [hf0]
 have iv:DInv P X N ops ds s.h.next s0 f m b cs ρ s.h w (fun _=>false) 0 s0 { ρ with res:=R } a { w with drawn:=w.drawn+1 }:={
  closed:=fun i o hi=>by cases hi
  dm:=fun j _ hj=>by cases hj
  mmle:=Nat.zero_le _
  cut:=fun j e _ _=>by simp
  sr := by
   have hfr:kF ds f (fun _=>false) ops.size=s0.fr:=by
    rw [xHt (i:=0) (Nat.zero_le _) (fun _ _ _=>rfl)]
    show (f 0).s.fr=_
    rw [hf0s]
   rw [hfr,hf0s]
   exact hs0
  named:=fun j p hj=>by cases hj
  pend:=fun j p hj=>by cases hj
  inj:=fun j p j' p' hj=>by cases hj
  res:=fun j hj _=>.inr (by rw [nY]; omega)
  res0:=fun id hid=>.inl hid
  sim:=by
   rw [hf0s]
   exact ⟨fun _ h=>h,fun _ _ h=>h,fun _ _ h=>h,Nat.le_refl _,fun _ _ _=>rfl,fun _ _=>.of_eq rfl,fun _ _ h=>h,rfl,rfl,rfl⟩
  full := fun hall=>by
   have:ops.size=0:=by
    rcases Nat.eq_zero_or_pos ops.size with h | h
    ·exact h
    ·have:=hall 0 h; cases this
   rw [this,hf0s]
  open_:=fun _ _ _=>rfl }
 have hrun:∀ pan:AV×St,(m=ops.size∨m+1=ops.size∧xYm X call ds s.h.next f m pan)→(∀ l∈(f m).log,qE l ((m,(f m).s.h)::(f m).hs)=true) →
   Ends P X N b cs k ρ s.h w (lone (at' b a (.code (.region id ops true)::k)) (wN s.rc cs) w) (xOy f ops.size m pan):=by
  intro pan hm hlog
  have h1:=zHt (k:=k) dc hcall hlog hs.hr (fun id hid=>(hs.hr.resv id hid).2) hm ops.size (w.tape w.drawn (.order b.fn id)) (Array.replicate ops.size false) _ _ _ _ _ _ (by simp)
   (fun j=>by
    rw [Array.getD_eq_getD_getElem?]
    by_cases hj:j<ops.size
    ·simp [hj]
    ·rw [Array.getElem?_eq_none (by simp; omega)]; rfl) (zHk _ _) iv
  exact h1.of_steps (.one hst) (Sim.refl ..)
 rcases hres with ⟨hm,hr⟩ | ⟨o,out,h1,h2,hr⟩
 ·have hd:mK X call ds s=(bif (f m).log.all (fun l=>qE l ((ds.length,(f m).s.h)::(f m).hs)) then .nrm { (f m).s with h:=(f m).s.h.withP (f m).pend } else .bad 21):=by
   unfold mK
   rw [show jB X call ds 0 s.h.next _=_ from hr]
  rw [hd]
  cases hl:(f m).log.all (fun l=>qE l ((ds.length,(f m).s.h)::(f m).hs)) with
  | false=>trivial
  | true =>
   have hmn:m=ops.size:=by omega
   have:=hrun (.nilp,s) (.inl hmn) (fun l hl'=>by rw [hm]; rw [← hm] at hl ⊢; exact List.all_eq_true.1 hl l hl')
   rw [xOy,if_pos hmn,← hmn] at this
   exact this
 ·have hd:mK X call ds s=out:=by
   unfold mK
   rw [show jB X call ds 0 s.h.next _=_ from hr]
  rw [hd]
  rw [Nat.zero_add] at h2
  have hmlt:=hdlt m o h1
  rcases xPo h2 with ⟨n,rfl⟩ | ⟨vs,v,s',rfl,g1,g2,g3,g4,g5,g6⟩
  ·trivial
  ·have hmn:m+1=ops.size:=by
    rcases Nat.lt_or_ge (m+1) ops.size with h | h
    ·exfalso
     have:=(dc.last m (m+1) o h1 g2 h (by omega)).lt dc.edges
     omega
    ·omega
   have:=hrun (v,s') (.inr ⟨hmn,o,vs,h1,g1,g2,g4,g5,g6⟩) g3
   rw [xOy,if_neg (by omega)] at this
   exact this
end
end Go.Abs
end
end
