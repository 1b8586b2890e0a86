/- Made: the symbols of a sheet. -/
import Derived.Test.YtipcmdllhllolaaGreatDoorK25
import Derived.Test.YtipcmdllhllolaaGreatDoorK05
noncomputable section
section
namespace Go.Abs.Sym
open Go.Abs.T
open Go.Proofs
theorem ShA.step {t t':Tr AB} {m m' sb db:Nat} {L:Sl Int} {Mu:List Nat} {nm pv wv uv sv jv:AV} {nbS nbJ:Nat} {rS rJ:List (List AV)} (h:ShA t m sb db L Mu nm pv wv uv sv jv nbS nbJ rS rJ) (hm:m≤m')
  (hk:∀ i,i<m→i≠db→t'.get (up .e i)=t.get (up .e i)) (hd:DrawAt t' (up .e db) L):ShA t' m' sb db L Mu nm pv wv uv sv jv nbS nbJ rS rJ:=by
 have hag:Agr t t' m Mu:=fun i hi hn=>hk i hi (fun e=>hn (e▸h.dM))
 exact ⟨(hk sb h.sm h.sd).trans h.blk,hd,h.gS.step hm hag (fun h0 hb=>hk _ hb (h.nS h0).2.1) (fun i hi=>.inl hi) id,h.gJ.step hm hag (fun h0 hb=>hk _ hb (h.nJ h0).2.1) (fun i hi=>.inl hi) id,h.sM,h.dM,
  fun i hi=>by have:=h.bM i hi; omega,fun h0=>⟨(h.nS h0).1,(h.nS h0).2.1,by have:=(h.nS h0).2.2; omega⟩,fun h0=>⟨(h.nJ h0).1,(h.nJ h0).2.1,by have:=(h.nJ h0).2.2; omega⟩,h.ne,by have:=h.one; omega,h.sd,h.os⟩
def refN:List Bs:=[[85,49],[85,50],[74,49]]
abbrev Zt:=SymD×TypD×List JoinD
def ZOk (va:Bool) (most:Nat) (Ts:List TypD) (ref:Bs) (z:Zt):Prop:=z.1.ref=ref∧z.2.1∈Ts∧z.1.ty=z.2.1.nm∧NotOf va z.1.nots∧JoOf z.2.1 ref most z.2.2∧z.2.2.length≤100
def ZsOk (va:Bool) (most:Nat) (Ts:List TypD) (zs:List Zt):Prop:=∀ k z,zs[k]?=some z→ZOk va most Ts (refN.getD k []) z
theorem ZsOk.snoc {va:Bool} {most:Nat} {Ts:List TypD} {zs:List Zt} (h:ZsOk va most Ts zs) {z:Zt} (hz:ZOk va most Ts (refN.getD zs.length []) z):ZsOk va most Ts (zs++[z]):=fun k y hy=>by
 rcases Nat.lt_trichotomy k zs.length with hk | hk | hk
 ·rw [List.getElem?_append_left hk] at hy
  exact h k y hy
 ·subst hk
  rw [List.getElem?_append_right (Nat.le_refl _),Nat.sub_self] at hy
  cases hy
  exact hz
 ·rw [List.getElem?_eq_none (by rw [List.length_append,List.length_singleton]; omega)] at hy
  cases hy
theorem ZsOk.js {va:Bool} {most:Nat} {Ts:List TypD}:∀ {zs:List Zt},(∀ z∈zs,z.2.2.length≤100)→(zs.flatMap (·.2.2)).length≤100*zs.length
 | [],_=>Nat.le_refl _
 | z::zs,h=>by
  have h1:=ZsOk.js (va:=va) (most:=most) (Ts:=Ts) (zs:=zs) (fun z hz=>h z (List.mem_cons_of_mem _ hz))
  have h2:=h z List.mem_cons_self
  rw [List.flatMap_cons,List.length_append,List.length_cons]
  omega
theorem ZsOk.le {va:Bool} {most:Nat} {Ts:List TypD} {zs:List Zt} (h:ZsOk va most Ts zs):(zs.flatMap (·.2.2)).length≤100*zs.length :=
 ZsOk.js (va:=va) (most:=most) (Ts:=Ts) fun z hz=>by
  obtain ⟨k,hk⟩:=List.getElem?_of_mem hz
  exact (h k z hk).2.2.2.2.2
structure SyE where
 T0:TypD
 T1:TypD
 T2:TypD
 L:Sl Int
 va:Bool
 most:Nat
 n:Nat
 sb:Nat
 db:Nat
 d4:Nat
 yb:Nat
 dn:AV
 dv:AV
 vv:AV
 nm:AV
 pv:AV
 wv:AV
 uv:AV
 m0:Nat
 t0:Tr AB
 fr0:Tr AV
 Mu0:List Nat
def mkR:List Pth:=[t0,t2,t3,t4,t5,t6,t7,t8,t9,t10,t11]
def SyI (E:SyE) (r:Nat) (s:St):Prop:=∃ fr m t sv jv nbS nbJ zs Mu,s=⟨fr,[],⟨up .e m,t,.lf⟩,.no,none,t7⟩∧zs.length+r=E.n∧E.m0≤m∧KeepF mkR E.fr0 fr∧fr.get t12=some (.int .i64 (.ofNat zs.length)) ∧
 ShA t m E.sb E.db E.L Mu E.nm E.pv E.wv E.uv sv jv nbS nbJ (zs.map fun z=>symC z.1) ((zs.flatMap (·.2.2)).map joinC) ∧
 (∀ i,i<E.m0→i≠E.sb→i≠E.db→t.get (up .e i)=E.t0.get (up .e i))∧(0<zs.length→E.m0≤nbS)∧(0<(zs.flatMap (·.2.2)).length→E.m0≤nbJ) ∧
 (∀ i∈E.Mu0,i∈Mu)∧(∀ i∈Mu,i∈E.Mu0∨E.m0≤i)∧ZsOk E.va E.most [E.T0,E.T1,E.T2] zs
structure SyOK (E:SyE):Prop where
 hL:E.L.l.length<9223372036854775808
 h0:E.T0.pads.l.length≤100
 h1:E.T1.pads.l.length≤100
 h2:E.T2.pads.l.length≤100
 hm:E.most≤9
 hn:E.n≤3
 l4:E.d4<E.m0
 ly:E.yb<E.m0
 ls:E.sb<E.m0
 ld:E.db<E.m0
 s4:E.sb≠E.d4
 d4d:E.db≠E.d4
 sy:E.sb≠E.yb
 dy:E.db≠E.yb
 g4:E.fr0.get t4=some (.ptr (up .e E.d4) 0)
 g5:E.fr0.get t5=some (.bool E.va)
 g8:E.fr0.get t8=some (.ptr (up .e E.sb) 0)
 g9:E.fr0.get t9=some (.int .i64 (.ofNat E.most))
 g10:E.fr0.get t10=some (.ptr (up .e E.db) 0)
 g11:E.fr0.get t11=some (.int .i64 (.ofNat E.n))
 c4:E.t0.get (up .e E.d4)=some (.cells [E.dn,E.dv,.slc (up .e E.yb) 0 3 3 (some 3),E.vv] false)
 cy:E.t0.get (up .e E.yb)=some (.cells (tyC E.T0++tyC E.T1++tyC E.T2) false)
set_option maxHeartbeats 1000000 in
theorem sy_round (E:SyE) (ok:SyOK E) (r:Nat) (s:St) (h:SyI E r s):Stp (SyI E) (fun o=>∃ s,o=.exit 2 s∧SyI E 0 s) r (execA K3 (callN K3 49) c7_l0 s):=by
 obtain ⟨fr,m,t,sv,jv,nbS,nbJ,zs,Mu,rfl,hk,hm,kf,g12,hA,hfr,hbS,hbJ,hu1,hu2,hz⟩:=h
 have g4:fr.get t4=some (.ptr (up .e E.d4) 0):=(kf t4 (by simp [mkR])).trans ok.g4
 have g5:fr.get t5=some (.bool E.va):=(kf t5 (by simp [mkR])).trans ok.g5
 have g8:fr.get t8=some (.ptr (up .e E.sb) 0):=(kf t8 (by simp [mkR])).trans ok.g8
 have g9:fr.get t9=some (.int .i64 (.ofNat E.most)):=(kf t9 (by simp [mkR])).trans ok.g9
 have g10:fr.get t10=some (.ptr (up .e E.db) 0):=(kf t10 (by simp [mkR])).trans ok.g10
 have g11:fr.get t11=some (.int .i64 (.ofNat E.n)):=(kf t11 (by simp [mkR])).trans ok.g11
 have c4:=(hfr E.d4 ok.l4 ok.s4.symm ok.d4d.symm).trans ok.c4
 have cy:=(hfr E.yb ok.ly ok.sy.symm ok.dy.symm).trans ok.cy
 have l4:=ok.l4
 have ly:=ok.ly
 have hn:=ok.hn
 cases r with
 | zero =>
  have hkn:(zs.length<E.n)=False:=eq_false (by omega)
  simp +decide only [SC,c7_l0,g11,g12,ltI_dec,hkn,stp_e]
  refine ⟨_,rfl,_,m,t,sv,jv,nbS,nbJ,zs,Mu,rfl,hk,hm,fun q hq => ?_,?_,hA,hfr,hbS,hbJ,hu1,hu2,hz⟩
  ·rw [← kf q hq]
   simp [mkR] at hq
   rcases hq with rfl | rfl | rfl | rfl | rfl | rfl | rfl | rfl | rfl | rfl | rfl<;>simp +decide only [gp,if_false]
  ·simp +decide only [gp,g12,if_false]
 | succ r =>
  have hkn:(zs.length<E.n)=True:=eq_true (by omega)
  have hw1:=wr_add zs.length 1 (by omega)
  have d4d:(E.d4=E.db)=False:=eq_false ok.d4d.symm
  have yd:(E.yb=E.db)=False:=eq_false ok.dy.symm
  simp +decide only [SC,c7_l0,Nat.reduceAdd,Nat.reduceMul,beq_rfl,Bool.and_self,Nat.add_assoc,g4,g10,g11,g12,c4,ltI_dec,hkn]
  generalize hR:callN K3 49 (g t22) _ _=R
  obtain ⟨x,p1,j1,rfl,hx,hj1,hp1⟩:=next3 (f:=47) (n:=3) (by omega) (by omega) ok.hL hR hA.dr
  obtain ⟨T,hT,hTp,tkT⟩:∃ T,T∈[E.T0,E.T1,E.T2]∧T.pads.l.length≤100∧takeD (tyC E.T0++tyC E.T1++tyC E.T2) (x*3) 3=some (tyC T):=by
   rcases (show x=0∨x=1∨x=2 by omega) with rfl | rfl | rfl
   ·exact ⟨E.T0,by simp,ok.h0,rfl⟩
   ·exact ⟨E.T1,by simp,ok.h1,rfl⟩
   ·exact ⟨E.T2,by simp,ok.h2,rfl⟩
  have ia:indexAddrA (.slc 3) (.slc (up .e E.yb) 0 3 3 (some 3)) (.int .i64 (.ofNat x))=some (.ptr (up .e E.yb) (x*3)):=by
   rcases (show x=0∨x=1∨x=2 by omega) with rfl | rfl | rfl<;>rfl
  have ir:∀ b,indexAddrA (.slc 1) (.slc b 0 3 1 (some 3)) (.int .i64 (.ofNat zs.length))=some (.ptr b zs.length):=by
   rcases (show zs.length=0∨zs.length=1∨zs.length=2 by omega) with e | e | e<;>rw [e]<;>intro b<;>rfl
  have tkr:takeD [.str [85,49],.str [85,50],.str [74,49]] zs.length 1=some [.str (refN.getD zs.length [])]:=by
   rcases (show zs.length=0∨zs.length=1∨zs.length=2 by omega) with e | e | e<;>rw [e]<;>rfl
  have h4j:∀ i,(E.d4=j1+i)=False:=fun i=>eq_false (by omega)
  have hyj:∀ i,(E.yb=j1+i)=False:=fun i=>eq_false (by omega)
  simp +decide only [SC,up_inj,Nat.reduceLeDiff,beq_rfl,Bool.and_self,g5,g8,g9,g12,c4,cy,d4d,yd,ia,ir,tkT,tkr,tkP_c,lvP_c,withP_c,cont_c,cont_n]
  generalize hC:callN K3 49 (g t23) _ _=C
  have hge:∀ {i:Nat} (y:AB),i<m→i≠E.db→((t.put (up .e E.db) (.cells [slV inC E.L,.int .i64 (.ofNat p1)] false)).put (up .e (m+7)) y).get (up .e i)=t.get (up .e i):=fun {i} y hi hd=>by
   rw [gp,if_neg (fun e=>by rw [up_inj] at e; omega),gp,if_neg (fun e=>hd (by rw [up_inj] at e; exact e))]
  have hA2:=fun y=>hA.step (m':=j1) (t':=((t.put (up .e E.db) (.cells [slV inC E.L,.int .i64 (.ofNat p1)] false)).put (up .e (m+7)) y)) (by omega) (fun i hi hd=>hge y hi hd) ⟨p1,hp1,by rw [gp,if_neg (fun e=>by rw [up_inj] at e; have:=hA.dm; omega),gp,if_pos rfl]⟩
  have hjs:=hz.le
  have hD:=add_call ok.hL hTp ok.hm hC (hA2 _) (by rw [List.length_map]; omega) (by rw [List.length_map]; omega)
  obtain ⟨m2,u2,Mu2,sv2,jv2,nbS2,nbJ2,y,js,hC2,hm2,y1,y2,y3,y4,y5,hb1,hb2,hA3,v1,v2,f2⟩:=hD
  subst hC2
  have q4:u2.get (up .e E.d4)=some (.cells [E.dn,E.dv,.slc (up .e E.yb) 0 3 3 (some 3),E.vv] false):=by
   rw [f2 E.d4 (by omega) ok.s4.symm ok.d4d.symm (fun h0 e => ?_) (fun h0 e => ?_),hge _ (by omega) ok.d4d.symm]
   ·exact c4
   ·have:=hbS (by simpa using h0)
    omega
   ·have:=hbJ (by simpa using h0)
    omega
  simp +decide only [SC,up_inj,Nat.reduceLeDiff,beq_rfl,Bool.and_self,g12,q4,c4,d4d,tkr,hw1,stp_n,withP_c]
  have hln:(zs++[(y,T,js)]).length=zs.length+1:=by rw [List.length_append,List.length_singleton]
  have hfm:(zs++[(y,T,js)]).flatMap (·.2.2)=zs.flatMap (·.2.2)++js:=by rw [List.flatMap_append,List.flatMap_cons,List.flatMap_nil,List.append_nil]
  rw [← List.map_append,← hfm] at hA3
  have hsm:(zs.map fun z=>symC z.1)++[symC y]=(zs++[(y,T,js)]).map fun z=>symC z.1:=by rw [List.map_append]; rfl
  rw [hsm] at hA3
  refine ⟨r,by omega,_,m2,u2,sv2,jv2,nbS2,nbJ2,zs++[(y,T,js)],Mu2,rfl,by omega,by omega,fun q hq => ?_,?_,hA3,fun i hi h1 h2 => ?_,fun _=>by omega,fun h0 => ?_,fun i hi=>v1 i (hu1 i hi),fun i hi => ?_,hz.snoc ⟨y1,hT,y2,y3,y4,y5⟩⟩
  ·rw [← kf q hq]
   simp [mkR] at hq
   rcases hq with rfl | rfl | rfl | rfl | rfl | rfl | rfl | rfl | rfl | rfl | rfl<;>simp +decide only [gp,if_false]
  ·rw [hln]
   simp +decide only [gp,if_true,reduceIte]
  ·rw [f2 i (by omega) h1 h2 (fun h0 e => ?_) (fun h0 e => ?_),hge _ (by omega) h2]
   ·exact hfr i hi h1 h2
   ·have:=hbS (by simpa using h0)
    omega
   ·have:=hbJ (by simpa using h0)
    omega
  ·rcases hb2 with ⟨rfl,rfl⟩ | hb2
   ·rw [hfm,List.append_nil] at h0
    exact hbJ h0
   ·omega
  ·rcases v2 i hi with hi | hi
   ·exact hu2 i hi
   ·exact .inr (by omega)
end Go.Abs.Sym
end
section
namespace Go.Abs.Sym
open Go.Abs.T
open Go.Proofs
def subN:List Bs:=[[120],[121]]
def sheetN:List Bs:=[[109,97,105,110],[99,101,108,108],[108,101,97,102]]
def inB:Bs:=[73,78]
def edgeB:Bs:=[69,91,48,46,46,49,93]
def edgeN:List Bs:=[[65,91,48,46,46,49,93],[65,91,49,46,46,48,93],[66,91,52,46,46,53,93]]
theorem keep_c (a:Pth) (l:List Pth) (fr fr':Tr AV):KeepF (a::l) fr fr'=(fr'.get a=fr.get a∧KeepF l fr fr'):=by
 simp only [KeepF,List.mem_cons,forall_eq_or_imp]
theorem keep_n (fr fr':Tr AV):KeepF [] fr fr'=True:=by
 simp only [KeepF,List.not_mem_nil,false_implies,implies_true]
theorem KeepF.trans {l:List Pth} {fr fr' fr'':Tr AV} (h:KeepF l fr fr') (h':KeepF l fr' fr''):KeepF l fr fr'':=fun q hq=>(h' q hq).trans (h q hq)
theorem KeepF.sub {l l':List Pth} {fr fr':Tr AV} (h:KeepF l fr fr') (hl:∀ q∈l',q∈l):KeepF l' fr fr':=fun q hq=>h q (hl q hq)
def mkU:List Pth:=t13::t12::mkR
def mkS:List Pth:=t14::t13::mkR
theorem sub_0 {fr:Tr AV} {m i k:Nat} {t:Tr AB} {o:Out} (hX:execA K3 (callN K3 49) c7_u0 ⟨fr,[],⟨up .e m,t,.lf⟩,.no,none,t7⟩=o) (g13:fr.get t13=some (.int .i64 (.ofNat i))) (g7:fr.get t7=some (.int .i64 (.ofNat k))) (hi:i<2) (hk:k<2) :
  ∃ fr' t',o=.nrm ⟨fr',[],⟨up .e (m+12),t',.lf⟩,.no,none,t7⟩∧KeepF mkU fr fr'∧fr'.get t14=some (.ptr (up .e (m+10)) 0)∧t'.get (up .e (m+10))=some (.cells [.str (subN.getD i []),.str (sheetN.getD (k+1) []),.nils] false)∧∀ i,i<m→t'.get (up .e i)=t.get (up .e i):=by
 have ii:∀ b,indexAddrA (.slc 1) (.slc b 0 2 1 (some 2)) (.int .i64 (.ofNat i))=some (.ptr b i):=by
  rcases (show i=0∨i=1 by omega) with rfl | rfl<;>intro b<;>rfl
 have ti:takeD [.str [120],.str [121]] i 1=some [.str (subN.getD i [])]:=by
  rcases (show i=0∨i=1 by omega) with rfl | rfl<;>rfl
 have hw:=wr_add k 1 (by omega)
 have ik:∀ b,indexAddrA (.slc 1) (.slc b 0 3 1 (some 3)) (.int .i64 (.ofNat (k+1)))=some (.ptr b (k+1)):=by
  rcases (show k=0∨k=1 by omega) with rfl | rfl<;>intro b<;>rfl
 have tk:takeD [.str [109,97,105,110],.str [99,101,108,108],.str [108,101,97,102]] (k+1) 1=some [.str (sheetN.getD (k+1) [])]:=by
  rcases (show k=0∨k=1 by omega) with rfl | rfl<;>rfl
 rw [← hX]
 simp +decide only [SC,c7_u0,up_inj,Nat.reduceAdd,Nat.reduceMul,Nat.reduceEqDiff,Bool.and_self,Nat.add_assoc,Nat.reduceEqDiff,g13,g7,ii,ti,hw,ik,tk,Nat.add_eq_left,tkP_c,lvP_c,withP_c,cont_c,cont_n]
 refine ⟨_,_,rfl,?_,?_,?_,fun i hi => ?_⟩
 ·simp +decide only [mkU,mkR,keep_c,keep_n,gp,if_false,and_self]
 ·simp +decide only [gp,if_true,reduceIte]
 ·simp +decide only [gp,if_true]
 ·have h1:(i=m+10)=False:=eq_false (by omega)
  have h2:(i=m+4)=False:=eq_false (by omega)
  have h3:(i=m)=False:=eq_false (by omega)
  simp +decide only [gp,up_inj,h1,h2,h3,if_false]
structure BndR (t t':Tr AB) (m m' xb db:Nat) (L:Sl Int) (a b:AV) (Mu Mu':List Nat) (nb nb':Nat) (rows add:List (List AV)):Prop where
 ad:DrawAt t' (up .e db) L
 ax:∃ bv',t'.get (up .e xb)=some (.cells [a,b,bv'] false)∧GrowF 1 t' m' Mu' 2 nb' bv' (rows++add)
 fr:∀ i,i<m→i≠db→i≠xb→(0<rows.length→i≠nb)→t'.get (up .e i)=t.get (up .e i)
 m1:∀ i∈Mu,i∈Mu'
 m2:∀ i∈Mu',i∈Mu∨m≤i∧i<m'
 nw:add=[]∧nb'=nb∨m≤nb'∧nb'<m'
 le:m≤m'
theorem sub_1 {L:Sl Int} (hL:L.l.length<9223372036854775808) {fr:Tr AV} {m xb db nb:Nat} {t:Tr AB} {a b bv:AV} {Mu:List Nat} {rows:List (List AV)} {o:Out} (hX:execA K3 (callN K3 49) c7_u1 ⟨fr,[],⟨up .e m,t,.lf⟩,.no,none,t7⟩=o)
  (g10:fr.get t10=some (.ptr (up .e db) 0)) (g14:fr.get t14=some (.ptr (up .e xb) 0)) (ad:DrawAt t (up .e db) L) (ax:t.get (up .e xb)=some (.cells [a,b,bv] false)) (hG:GrowF 1 t m Mu 2 nb bv rows) (hdM:db∈Mu) (hxM:xb∈Mu) (hdx:xb≠db) (hdm:db<m) (hxm:xb<m)
  (hnb:0<rows.length→nb≠db∧nb≠xb∧nb<m) (hlen:rows.length<1000) (_hM:∀ i∈Mu,i<m) (_h1m:1≤m) :
  ∃ fr' m' t' Mu' nb' add,o=.nrm ⟨fr',[],⟨up .e m',t',.lf⟩,.no,none,t7⟩∧KeepF mkS fr fr'∧(add=[]∨∃ k,k<6∧add=[[.str inB,.str (netN.getD k [])]])∧BndR t t' m m' xb db L a b Mu Mu' nb nb' rows add:=by
 rw [← hX]
 simp +decide only [SC,c7_u1,Nat.reduceAdd,Bool.and_self,g10]
 generalize hR:callN K3 49 (g t22) _ _=R
 obtain ⟨x,p,j1,rfl,hx,hj1,hp⟩:=next3 (f:=47) (n:=4) (by decide) (by decide) hL hR ad
 have hdraw:∀ T2:Tr AB,T2.get (up .e db)=some (.cells [slV inC L,.int .i64 (.ofNat p)] false)→DrawAt T2 (up .e db) L:=fun T2 h=>⟨p,hp,h⟩
 have hne:∀ {i:Nat},i≠db→(t.put (up .e db) (.cells [slV inC L,.int .i64 (.ofNat p)] false)).get (up .e i)=t.get (up .e i):=fun {i} hi=>by
  rw [gp,if_neg (fun e=>hi (by rw [up_inj] at e; exact e))]
 have hG1:=hG.step (m':=j1) (Mu':=Mu) (by omega) ((Agr.refl t m Mu).put (.inl hdM) (.cells [slV inC L,.int .i64 (.ofNat p)] false)) (fun h0 _=>hne (hnb h0).1) (fun i hi=>.inl hi) id
 have xd:(xb=db)=False:=eq_false hdx
 cases hc:ltI (.ofNat 0) (.ofNat x) with
 | false =>
  simp +decide only [SC,hc]
  refine ⟨_,j1,_,Mu,nb,[],rfl,by simp +decide only [mkS,mkR,keep_c,keep_n,gp,if_false,and_self],.inl rfl,hdraw _ (by rw [gp,if_pos rfl]),⟨bv,(hne hdx).trans ax,by simpa using hG1⟩,fun i _ h1 _ _=>hne h1,fun _ h=>h,fun _ h=>.inl h,.inl ⟨rfl,rfl⟩,hj1⟩
 | true =>
  simp +decide only [SC,up_inj,Nat.reduceAdd,Nat.add_assoc,g10,g14,hc,ax,xd]
  generalize hR2:callN K3 49 (g t22) _ _=R2
  obtain ⟨k,p2,j2,rfl,hk,hj2,hp2⟩:=next3 (f:=47) (n:=6) (by decide) (by decide) hL hR2 (hdraw _ (by rw [gp,if_pos rfl]))
  have hn:∀ h,callN K3 49 (.fn t24 [] []) [.int .i64 (.ofNat k)] h=.ret (.str (netN.getD k [])) h:=fun h=>nets3 (f:=48) (by omega) h
  have hxj:∀ i,(xb=j1+i)=False:=fun i=>eq_false (by omega)
  have hon:bv.one=true:=hG.one
  simp +decide only [SC,Nat.reduceAdd,Bool.and_self,hn,tkP_c,lvP_c,withP_c,cont_c,cont_n]
  generalize hA:appendA _ 2 32 _ _=A
  have hag:∀ y:AB,Agr t (((t.put (up .e db) (.cells [slV inC L,.int .i64 (.ofNat p)] false)).put (up .e db) (.cells [slV inC L,.int .i64 (.ofNat p2)] false)).put (up .e (j1+6)) y) m Mu:=fun y =>
   (((Agr.refl t m Mu).put (.inl hdM) _).put (.inl hdM) _).put (.inr (by omega)) _
  have hne2:∀ {i:Nat} (y:AB),i<m→i≠db→(((t.put (up .e db) (.cells [slV inC L,.int .i64 (.ofNat p)] false)).put (up .e db) (.cells [slV inC L,.int .i64 (.ofNat p2)] false)).put (up .e (j1+6)) y).get (up .e i)=t.get (up .e i):=fun {i} y hi hd=>by
   have h1:(i=j1+6)=False:=eq_false (by omega)
   simp only [gp,up_inj,h1,hd,if_false]
  have hG2:=fun y=>hG.step (m':=j2) (Mu':=Mu) (by omega) (hag y) (fun h0 hb=>hne2 y hb (hnb h0).1) (fun i hi=>.inl hi) id
  have hQ:=(hG2 (.cells [.str [73,78],.str (netN.getD k [])] false)).append (row:=[.str [73,78],.str (netN.getD k [])]) (ra:=[.str inB,.str (netN.getD k [])]) hA (sp:=false) (by rw [gp,if_pos rfl]) (FzL.of (k:=1) rfl rfl) rfl (by decide) (by omega) (by omega)
  obtain ⟨t2,hA2,b1,b2⟩:=hQ
  subst hA2
  have q:t2.get (up .e xb)=some (.cells [a,b,bv] false):=by
   rw [b1 xb (by omega) (fun h e=>(hnb h).2.1 e.symm),hne2 _ hxm hdx]
   exact ax
  have qd:t2.get (up .e db)=some (.cells [slV inC L,.int .i64 (.ofNat p2)] false):=by
   rw [b1 db (by omega) (fun h e=>(hnb h).1 e.symm)]
   have h1:(db=j1+6)=False:=eq_false (by omega)
   simp only [gp,up_inj,h1,if_false,if_true]
  simp +decide only [SC,up_inj,Nat.reduceLeDiff,beq_rfl,Bool.and_self,g14,q,ax,xd]
  refine ⟨_,_,_,j2::Mu,j2,[[.str inB,.str (netN.getD k [])]],rfl,by simp +decide only [mkS,mkR,keep_c,keep_n,gp,if_false,and_self],.inr ⟨k,hk,rfl⟩,⟨p2,hp2,?_⟩,⟨_,by rw [gp,if_pos rfl],b2.step (Nat.le_refl _) ((Agr.refl _ _ _).put (.inl (List.mem_cons_of_mem _ hxM)) _) (fun _ _ => ?_) (fun i hi=>.inl hi) id⟩,fun i hi h1 h2 h3 => ?_,fun i hi=>List.mem_cons_of_mem _ hi,fun i hi => ?_,.inr ⟨by omega,by omega⟩,by omega⟩
  ·rw [gp,if_neg (fun e=>hdx (by rw [up_inj] at e; exact e.symm))]
   exact qd
  ·rw [gp,if_neg (fun e=>by rw [up_inj] at e; omega)]
  ·rw [gp,if_neg (fun e=>h2 (by rw [up_inj] at e; exact e)),b1 i (by omega) h3,hne2 _ hi h1]
  ·rcases List.mem_cons.1 hi with rfl | hi
   ·exact .inr (by omega)
   ·exact .inl hi
theorem sub_2 {L:Sl Int} (hL:L.l.length<9223372036854775808) {fr:Tr AV} {m xb db nb:Nat} {t:Tr AB} {a b bv:AV} {Mu:List Nat} {rows:List (List AV)} {o:Out} (hX:execA K3 (callN K3 49) c7_u2 ⟨fr,[],⟨up .e m,t,.lf⟩,.no,none,t7⟩=o)
  (g10:fr.get t10=some (.ptr (up .e db) 0)) (g14:fr.get t14=some (.ptr (up .e xb) 0)) (ad:DrawAt t (up .e db) L) (ax:t.get (up .e xb)=some (.cells [a,b,bv] false)) (hG:GrowF 1 t m Mu 2 nb bv rows) (hdM:db∈Mu) (hxM:xb∈Mu) (hdx:xb≠db) (hdm:db<m) (hxm:xb<m)
  (hnb:0<rows.length→nb≠db∧nb≠xb∧nb<m) (hlen:rows.length<1000) (_hM:∀ i∈Mu,i<m) (_h1m:1≤m) :
  ∃ fr' m' t' Mu' nb' add,o=.nrm ⟨fr',[],⟨up .e m',t',.lf⟩,.no,none,t7⟩∧KeepF mkS fr fr'∧(add=[]∨∃ k,k<3∧add=[[.str edgeB,.str (edgeN.getD k [])]])∧BndR t t' m m' xb db L a b Mu Mu' nb nb' rows add:=by
 rw [← hX]
 simp +decide only [SC,c7_u2,Nat.reduceAdd,Nat.reduceMul,Bool.and_self,g10]
 generalize hR:callN K3 49 (g t22) _ _=R
 obtain ⟨x,p,j1,rfl,hx,hj1,hp⟩:=next3 (f:=47) (n:=2) (by decide) (by decide) hL hR ad
 have hdraw:∀ T2:Tr AB,T2.get (up .e db)=some (.cells [slV inC L,.int .i64 (.ofNat p)] false)→DrawAt T2 (up .e db) L:=fun T2 h=>⟨p,hp,h⟩
 have hne:∀ {i:Nat},i≠db→(t.put (up .e db) (.cells [slV inC L,.int .i64 (.ofNat p)] false)).get (up .e i)=t.get (up .e i):=fun {i} hi=>by
  rw [gp,if_neg (fun e=>hi (by rw [up_inj] at e; exact e))]
 have hG1:=hG.step (m':=j1) (Mu':=Mu) (by omega) ((Agr.refl t m Mu).put (.inl hdM) (.cells [slV inC L,.int .i64 (.ofNat p)] false)) (fun h0 _=>hne (hnb h0).1) (fun i hi=>.inl hi) id
 have xd:(xb=db)=False:=eq_false hdx
 cases hc:eqI (.ofNat x) (.ofNat 1) with
 | false =>
  simp +decide only [SC,hc]
  refine ⟨_,j1,_,Mu,nb,[],rfl,by simp +decide only [mkS,mkR,keep_c,keep_n,gp,if_false,and_self],.inl rfl,hdraw _ (by rw [gp,if_pos rfl]),⟨bv,(hne hdx).trans ax,by simpa using hG1⟩,fun i _ h1 _ _=>hne h1,fun _ h=>h,fun _ h=>.inl h,.inl ⟨rfl,rfl⟩,hj1⟩
 | true =>
  simp +decide only [SC,up_inj,Nat.reduceAdd,Nat.add_assoc,g10,g14,hc,ax,xd,tkP_c,lvP_c,cont_n]
  generalize hR2:callN K3 49 (g t22) _ _=R2
  obtain ⟨k,p2,j2,rfl,hk,hj2,hp2⟩:=next3 (f:=47) (n:=3) (by decide) (by decide) hL hR2 (hdraw _ (by rw [gp,if_pos rfl]))
  have ik:∀ b,indexAddrA (.slc 1) (.slc b 0 3 1 (some 3)) (.int .i64 (.ofNat k))=some (.ptr b k):=by
   rcases (show k=0∨k=1∨k=2 by omega) with e | e | e<;>rw [e]<;>intro b<;>rfl
  have tk:takeD [.str [65,91,48,46,46,49,93],.str [65,91,49,46,46,48,93],.str [66,91,52,46,46,53,93]] k 1=some [.str (edgeN.getD k [])]:=by
   rcases (show k=0∨k=1∨k=2 by omega) with e | e | e<;>rw [e]<;>rfl
  have hxj:∀ i,(xb=j1+i)=False:=fun i=>eq_false (by omega)
  have hon:bv.one=true:=hG.one
  simp +decide only [SC,up_inj,Nat.reduceAdd,Bool.and_self,ik,tk,tkP_c,lvP_c,withP_c,cont_c,cont_n]
  generalize hA:appendA _ 2 32 _ _=A
  have hag:∀ y z:AB,Agr t ((((t.put (up .e db) (.cells [slV inC L,.int .i64 (.ofNat p)] false)).put (up .e db) (.cells [slV inC L,.int .i64 (.ofNat p2)] false)).put (up .e (j1+8)) y).put (up .e (j1+2)) z) m Mu:=fun y z =>
   ((((Agr.refl t m Mu).put (.inl hdM) _).put (.inl hdM) _).put (.inr (by omega)) _).put (.inr (by omega)) _
  have hne2:∀ {i:Nat} (y z:AB),i<m→i≠db→((((t.put (up .e db) (.cells [slV inC L,.int .i64 (.ofNat p)] false)).put (up .e db) (.cells [slV inC L,.int .i64 (.ofNat p2)] false)).put (up .e (j1+8)) y).put (up .e (j1+2)) z).get (up .e i)=t.get (up .e i):=fun {i} y z hi hd=>by
   have h1:(i=j1+8)=False:=eq_false (by omega)
   have h2:(i=j1+2)=False:=eq_false (by omega)
   simp only [gp,up_inj,h1,h2,hd,if_false]
  have hG2:=fun y z=>hG.step (m':=j2) (Mu':=Mu) (by omega) (hag y z) (fun h0 hb=>hne2 y z hb (hnb h0).1) (fun i hi=>.inl hi) id
  have h82:(j1+8=j1+2)=False:=eq_false (by omega)
  have hQ:=(hG2 (.cells [.str [69,91,48,46,46,49,93],.str (edgeN.getD k [])] false) (.cells [.str [65,91,48,46,46,49,93],.str [65,91,49,46,46,48,93],.str [66,91,52,46,46,53,93]] false)).append (row:=[.str [69,91,48,46,46,49,93],.str (edgeN.getD k [])]) (ra:=[.str edgeB,.str (edgeN.getD k [])]) hA (sp:=false) (by rw [gp,if_neg (fun e=>by rw [up_inj] at e; omega),gp,if_pos rfl]) (FzL.of (k:=1) rfl rfl) rfl (by decide) (by omega) (by omega)
  obtain ⟨t2,hA2,b1,b2⟩:=hQ
  subst hA2
  have q:t2.get (up .e xb)=some (.cells [a,b,bv] false):=by
   rw [b1 xb (by omega) (fun h e=>(hnb h).2.1 e.symm),hne2 _ _ hxm hdx]
   exact ax
  have qd:t2.get (up .e db)=some (.cells [slV inC L,.int .i64 (.ofNat p2)] false):=by
   rw [b1 db (by omega) (fun h e=>(hnb h).1 e.symm)]
   have h1:(db=j1+8)=False:=eq_false (by omega)
   have h2:(db=j1+2)=False:=eq_false (by omega)
   simp only [gp,up_inj,h1,h2,if_false,if_true]
  simp +decide only [SC,up_inj,Nat.reduceLeDiff,beq_rfl,Bool.and_self,g14,q,ax,xd]
  refine ⟨_,_,_,j2::Mu,j2,[[.str edgeB,.str (edgeN.getD k [])]],rfl,by simp +decide only [mkS,mkR,keep_c,keep_n,gp,if_false,and_self],.inr ⟨k,hk,rfl⟩,⟨p2,hp2,?_⟩,⟨_,by rw [gp,if_pos rfl],b2.step (Nat.le_refl _) ((Agr.refl _ _ _).put (.inl (List.mem_cons_of_mem _ hxM)) _) (fun _ _ => ?_) (fun i hi=>.inl hi) id⟩,fun i hi h1 h2 h3 => ?_,fun i hi=>List.mem_cons_of_mem _ hi,fun i hi => ?_,.inr ⟨by omega,by omega⟩,by omega⟩
  ·rw [gp,if_neg (fun e=>hdx (by rw [up_inj] at e; exact e.symm))]
   exact qd
  ·rw [gp,if_neg (fun e=>by rw [up_inj] at e; omega)]
  ·rw [gp,if_neg (fun e=>h2 (by rw [up_inj] at e; exact e)),b1 i (by omega) h3,hne2 _ _ hi h1]
  ·rcases List.mem_cons.1 hi with rfl | hi
   ·exact .inr (by omega)
   ·exact .inl hi
end Go.Abs.Sym
end
end
