/- The function add: the joins of a symbol's pads. -/
import Derived.Test.YtipcmdllhllolaaGreatDoorK24
noncomputable section
section
namespace Go.Abs.Sym
open Go.Abs.T
open Go.Proofs
theorem nets3 {f k:Nat} (hk:k<9) (h:H):callN K3 (f+1) (g t24) [.int .i64 (.ofNat k)] h=.ret (.str (netN.getD k [])) h :=
 call_sum (by rw [List.nil_append,List.append_nil,sums3_2 _ _ _ rfl,sums2_1 _ _ _ rfl]; exact nets_sum hk h)
def JsOf (ref:Bs) (most:Nat) (ps:List PadD) (js:List JoinD):Prop:=(js.map (·.pad)).Sublist (ps.map (·.nm))∧∀ j∈js,j.ref=ref∧∃ k,k<most∧j.net=netN.getD k []
theorem JsOf.skip {ref:Bs} {most:Nat} {ps:List PadD} {js:List JoinD} (h:JsOf ref most ps js) (p:PadD):JsOf ref most (ps++[p]) js :=
 ⟨by rw [List.map_append]; exact h.1.trans (List.sublist_append_left _ _),h.2⟩
theorem JsOf.snoc {ref:Bs} {most:Nat} {ps:List PadD} {js:List JoinD} (h:JsOf ref most ps js) (p:PadD) {k:Nat} (hk:k<most):JsOf ref most (ps++[p]) (js++[⟨netN.getD k [],ref,p.nm⟩]):=by
 refine ⟨by rw [List.map_append,List.map_append]; exact h.1.append (List.Sublist.refl _),fun j hj => ?_⟩
 rcases List.mem_append.1 hj with hj | hj
 ·exact h.2 j hj
 ·rw [List.mem_singleton.1 hj]
  exact ⟨rfl,k,hk,rfl⟩
structure AddE where
 T:TypD
 L:Sl Int
 sb:Nat
 db:Nat
 tb:Nat
 ref:Bs
 most:Nat
 nm:AV
 pv:AV
 wv:AV
 sv:AV
 uv:AV
 m0:Nat
 nb0:Nat
 t0:Tr AB
 rows0:List (List AV)
 Mu0:List Nat
def AddI (E:AddE) (r:Nat) (s:St):Prop:=∃ fr m t nb jv k js Mu,s=⟨fr,[],⟨up .e m,t,.lf⟩,.no,none,t23⟩∧k+r=E.T.pads.l.length∧E.m0≤m ∧
 fr.get t0=some (.ptr (up .e E.sb) 0)∧fr.get t1=some (.ptr (up .e E.db) 0)∧fr.get t3=some (.str E.ref)∧fr.get t4=some (.int .i64 (.ofNat E.most))∧fr.get t8=some (.ptr (up .e E.tb) 0)∧fr.get t13=some (.int .i64 (.ofNat k)) ∧
 t.get (up .e E.sb)=some (.cells [E.nm,E.pv,E.wv,E.sv,jv,E.uv] false)∧t.get (up .e E.tb)=some (.cells [.str E.T.nm,slV padC E.T.pads,slV gateC E.T.gates] false)∧DrawAt t (up .e E.db) E.L ∧
 GrowF 1 t m Mu 3 nb jv (E.rows0++js.map joinC)∧E.sb∈Mu∧E.db∈Mu∧(∀ i∈Mu,i<m)∧(0<(E.rows0++js.map joinC).length→nb≠E.sb∧nb≠E.db∧nb≠E.tb∧nb<m) ∧
 (∀ i,i<E.m0→i≠E.sb→i≠E.db→(0<E.rows0.length→i≠E.nb0)→t.get (up .e i)=E.t0.get (up .e i)) ∧
 JsOf E.ref E.most (E.T.pads.l.take k) js∧js.length≤k∧(js=[]∧nb=E.nb0∨js≠[]∧E.m0≤nb)∧(∀ i∈E.Mu0,i∈Mu)∧(∀ i∈Mu,i∈E.Mu0∨E.m0≤i)
structure AddOK (E:AddE):Prop where
 hL:E.L.l.length<9223372036854775808
 hp:E.T.pads.l.length≤100
 hm:E.most≤9
 h1:1≤E.m0
 hs:E.sb<E.m0
 hd:E.db<E.m0
 ht:E.tb<E.m0
 sd:E.sb≠E.db
 td:E.tb≠E.db
 ts:E.tb≠E.sb
 hr:E.rows0.length≤500
set_option maxHeartbeats 1000000 in
theorem add_round (E:AddE) (ok:AddOK E) (r:Nat) (s:St) (h:AddI E r s):Stp (AddI E) (fun o=>∃ s,o=.exit 0 s∧AddI E 0 s) r (execA K3 (callN K3 48) c23_l0 s):=by
 obtain ⟨fr,m,t,nb,jv,k,js,Mu,rfl,hk,hm,g0,g1,g3,g4,g8,g13,as',at',ad,hG,hsM,hdM,hM,hnb,hfr,hjs,hjl,hnbo,hu1,hu2⟩:=h
 have hs:=ok.hs
 have hd:=ok.hd
 have ht:=ok.ht
 have h1:=ok.h1
 have hp:=ok.hp
 have hmo:=ok.hm
 have hr:=ok.hr
 have sd:(E.sb=E.db)=False:=eq_false ok.sd
 have td:(E.tb=E.db)=False:=eq_false ok.td
 have ts:(E.tb=E.sb)=False:=eq_false ok.ts
 cases r with
 | zero =>
  have hkn:(k<E.T.pads.l.length)=False:=eq_false (by omega)
  simp +decide only [SC,c23_l0,len_slV,g8,g13,at',ltI_dec,hkn,stp_e]
  refine ⟨_,rfl,_,m,t,nb,jv,k,js,Mu,rfl,by omega,hm,?_,?_,?_,?_,?_,?_,as',at',ad,hG,hsM,hdM,hM,hnb,hfr,hjs,hjl,hnbo,hu1,hu2⟩
  all_goals simp +decide only [gp,g0,g1,g3,g4,g8,g13,if_false]
 | succ r =>
  have hkn:(k<E.T.pads.l.length)=True:=eq_true (by omega)
  obtain ⟨p,hka⟩:∃ p,E.T.pads.l[k]?=some p:=⟨_,List.getElem?_eq_getElem (by omega)⟩
  have ia:=at_slV (f:=padC) (sz:=7) len_pad (by decide) hka
  have hw:=wr_add E.most 2 (by omega)
  have hw1:=wr_add k 1 (by omega)
  have htk:E.T.pads.l.take (k+1)=E.T.pads.l.take k++[p]:=by rw [List.take_add_one,hka]; rfl
  simp +decide only [SC,c23_l0,Nat.reduceAdd,Bool.and_self,len_slV,g1,g4,g8,g13,at',ltI_dec,hkn,hw]
  generalize hR:callN K3 48 (g t22) _ _=R
  obtain ⟨x,p1,j1,rfl,hx,hj1,hp1⟩:=next3 (f:=46) (n:=E.most+2) (by omega) (by omega) ok.hL hR ad
  have hdraw:∀ T2:Tr AB,T2.get (up .e E.db)=some (.cells [slV inC E.L,.int .i64 (.ofNat p1)] false)→DrawAt T2 (up .e E.db) E.L:=fun T2 h=>⟨p1,hp1,h⟩
  have hne:∀ {i:Nat},i≠E.db→(t.put (up .e E.db) (.cells [slV inC E.L,.int .i64 (.ofNat p1)] false)).get (up .e i)=t.get (up .e i):=fun {i} hi=>by
   rw [gp,if_neg (fun e=>hi (by rw [up_inj] at e; exact e))]
  have hG1:=hG.step (m':=j1) (Mu':=Mu) (by omega) ((Agr.refl t m Mu).put (.inl hdM) (.cells [slV inC E.L,.int .i64 (.ofNat p1)] false)) (fun h0 _=>hne (hnb h0).2.1) (fun i hi=>.inl hi) id
  by_cases hxm:x<E.most
  ·have hxm':(x<E.most)=True:=eq_true hxm
   have hn:∀ h,callN K3 48 (.fn t24 [] []) [.int .i64 (.ofNat x)] h=.ret (.str (netN.getD x [])) h:=fun h=>nets3 (f:=47) (by omega) h
   have hsj:∀ i,(E.sb=j1+i)=False:=fun i=>eq_false (by omega)
   have htj:∀ i,(E.tb=j1+i)=False:=fun i=>eq_false (by omega)
   have hpn:padC p=[.str p.nm,.int .i64 p.kd,slV edC p.es,.int .i64 p.r,.int .i64 p.x,.int .i64 p.y,.int .i64 p.dr]:=rfl
   rw [hpn] at ia
   simp +decide only [SC,up_inj,Nat.reduceAdd,Nat.reduceLeDiff,Bool.and_self,Nat.add_assoc,ltI_dec,hxm',g0,g3,g4,g8,g13,as',at',sd,td,ia,hn,tkP_c,lvP_c,withP_c,cont_c,cont_n]
   generalize hA:appendA _ 3 48 _ _=A
   have hne2:∀ {i:Nat} (y:AB),i<j1→i≠E.db→((t.put (up .e E.db) (.cells [slV inC E.L,.int .i64 (.ofNat p1)] false)).put (up .e (j1+15)) y).get (up .e i)=t.get (up .e i):=fun {i} y hi hd=>by
    rw [gp,if_neg (fun e=>by rw [up_inj] at e; omega),hne hd]
   have hG2:=fun y=>hG1.step (m':=j1+20) (Mu':=Mu) (by omega) ((Agr.refl (t.put (up .e E.db) (.cells [slV inC E.L,.int .i64 (.ofNat p1)] false)) j1 Mu).put (j:=j1+15) (.inr (by omega)) y) (fun h0 hb=>by rw [gp,if_neg (fun e=>by rw [up_inj] at e; omega)]) (fun i hi=>.inl hi) id
   have hlr:(E.rows0++js.map joinC).length<1000:=by
    rw [List.length_append,List.length_map]
    omega
   have hQ:=(hG2 (.cells [.str (netN.getD x []),.str E.ref,.str p.nm] false)).append (row:=[.str (netN.getD x []),.str E.ref,.str p.nm]) (ra:=[.str (netN.getD x []),.str E.ref,.str p.nm]) hA (sp:=false) (by rw [gp,if_pos rfl]) (FzL.of (k:=1) rfl rfl) rfl (by decide) (by omega) (by omega)
   obtain ⟨t2,hA2,b1,b2⟩:=hQ
   subst hA2
   have q:t2.get (up .e E.sb)=some (.cells [E.nm,E.pv,E.wv,E.sv,jv,E.uv] false):=by
    rw [b1 E.sb (by omega) (fun h e=>(hnb h).1 e.symm),hne2 _ (by omega) ok.sd]
    exact as'
   have qt:t2.get (up .e E.tb)=some (.cells [.str E.T.nm,slV padC E.T.pads,slV gateC E.T.gates] false):=by
    rw [b1 E.tb (by omega) (fun h e=>(hnb h).2.2.1 e.symm),hne2 _ (by omega) ok.td]
    exact at'
   have qd:t2.get (up .e E.db)=some (.cells [slV inC E.L,.int .i64 (.ofNat p1)] false):=by
    rw [b1 E.db (by omega) (fun h e=>(hnb h).2.1 e.symm),gp,if_neg (fun e=>by rw [up_inj] at e; omega),gp,if_pos rfl]
   simp +decide only [SC,up_inj,Nat.reduceAdd,Nat.reduceLeDiff,beq_rfl,Bool.and_self,Nat.add_assoc,g13,q,as',at',sd,td,hw1,stp_n]
   have hrow:E.rows0++js.map joinC++[[.str (netN.getD x []),.str E.ref,.str p.nm]]=E.rows0++(js++[JoinD.mk (netN.getD x []) E.ref p.nm]).map joinC:=by
    rw [List.map_append,List.append_assoc]
    rfl
   rw [hrow] at b2
   refine ⟨r,by omega,_,j1+20+1,_,j1+20,_,k+1,js++[JoinD.mk (netN.getD x []) E.ref p.nm],_,rfl,by omega,by omega,?_,?_,?_,?_,?_,?_,by rw [gp,if_pos rfl],?_,hdraw _ ?_,
    b2.step (Nat.le_refl _) ((Agr.refl _ _ _).put (.inl (List.mem_cons_of_mem _ hsM)) _) (fun _ _ => ?_) (fun i hi=>.inl hi) id,List.mem_cons_of_mem _ hsM,List.mem_cons_of_mem _ hdM,fun i hi => ?_,fun _=>⟨by omega,by omega,by omega,by omega⟩,fun i hi h1 h2 h3 => ?_,by rw [htk]; exact hjs.snoc p hxm,?_,.inr ⟨by simp,by omega⟩,fun i hi=>List.mem_cons_of_mem _ (hu1 i hi),fun i hi => ?_⟩
   any_goals simp +decide only [gp,g0,g1,g3,g4,g8,if_false,if_true]
   ·rw [if_neg (fun e=>ok.ts (by rw [up_inj] at e; exact e))]
    exact qt
   ·rw [if_neg (fun e=>ok.sd (by rw [up_inj] at e; exact e.symm))]
    exact qd
   ·rw [if_neg (fun e=>by rw [up_inj] at e; omega)]
   ·rcases List.mem_cons.1 hi with rfl | hi
    ·omega
    ·have:=hM i hi; omega
   ·rw [if_neg (fun e=>h1 (by rw [up_inj] at e; exact e)),b1 i (by omega) (fun h0 e => ?_),hne2 _ (by omega) h2]
    ·exact hfr i hi h1 h2 h3
    ·rcases hnbo with ⟨hq,hq2⟩ | ⟨_,hq⟩
     ·subst hq
      exact h3 (by simpa using h0) (e.trans hq2)
     ·omega
   ·rw [List.length_append,List.length_singleton]; omega
   ·rcases List.mem_cons.1 hi with rfl | hi
    ·exact .inr (by omega)
    ·exact hu2 i hi
  ·have hxm':(x<E.most)=False:=eq_false hxm
   simp +decide only [SC,ltI_dec,hxm',g4,g13,hw1,stp_n]
   refine ⟨r,by omega,_,j1,_,nb,jv,k+1,js,Mu,rfl,by omega,by omega,?_,?_,?_,?_,?_,?_,(hne ok.sd).trans as',(hne ok.td).trans at',hdraw _ (by rw [gp,if_pos rfl]),hG1,hsM,hdM,fun i hi=>by have:=hM i hi; omega,fun h0=>⟨(hnb h0).1,(hnb h0).2.1,(hnb h0).2.2.1,by have:=(hnb h0).2.2.2; omega⟩,fun i hi h1 h2 h3=>(hne h2).trans (hfr i hi h1 h2 h3),by rw [htk]; exact hjs.skip p,by omega,hnbo,hu1,hu2⟩
   all_goals simp +decide only [gp,g0,g1,g3,g4,g8,if_false,if_true]
end Go.Abs.Sym
end
section
namespace Go.Abs.Sym
open Go.Abs.T
open Go.Proofs
theorem GrowF.mem {k m sz nb:Nat} {t:Tr AB} {Mu:List Nat} {v:AV} {rows:List (List AV)} (h:GrowF k t m Mu sz nb v rows) (h0:0<rows.length):nb∈Mu:=by
 obtain ⟨rs,_,h2,_,_,h5⟩:=h
 exact h5 (by omega)
def JoOf (T:TypD) (ref:Bs) (most:Nat) (js:List JoinD):Prop:=T.nm=busB∧(∃ n∈busN,js=[⟨n,ref,busP⟩])∨JsOf ref most T.pads.l js
def NotOf (va:Bool) (nots:Sl Bs):Prop:=nots=⟨0,[]⟩∨va=true∧nots=⟨1,[liteB]⟩
structure ShA (t:Tr AB) (m sb db:Nat) (L:Sl Int) (Mu:List Nat) (nm pv wv uv sv jv:AV) (nbS nbJ:Nat) (rS rJ:List (List AV)):Prop where
 blk:t.get (up .e sb)=some (.cells [nm,pv,wv,sv,jv,uv] false)
 dr:DrawAt t (up .e db) L
 gS:GrowF 2 t m Mu 3 nbS sv rS
 gJ:GrowF 1 t m Mu 3 nbJ jv rJ
 sM:sb∈Mu
 dM:db∈Mu
 bM:∀ i∈Mu,i<m
 nS:0<rS.length→nbS≠sb∧nbS≠db∧nbS<m
 nJ:0<rJ.length→nbJ≠sb∧nbJ≠db∧nbJ<m
 ne:0<rS.length→0<rJ.length→nbS≠nbJ
 one:1≤m
 sd:sb≠db
 os:nm.one=true∧pv.one=true∧wv.one=true∧uv.one=true
theorem ShA.sm {t:Tr AB} {m sb db:Nat} {L:Sl Int} {Mu:List Nat} {nm pv wv uv sv jv:AV} {nbS nbJ:Nat} {rS rJ:List (List AV)} (h:ShA t m sb db L Mu nm pv wv uv sv jv nbS nbJ rS rJ):sb<m:=h.bM _ h.sM
theorem ShA.dm {t:Tr AB} {m sb db:Nat} {L:Sl Int} {Mu:List Nat} {nm pv wv uv sv jv:AV} {nbS nbJ:Nat} {rS rJ:List (List AV)} (h:ShA t m sb db L Mu nm pv wv uv sv jv nbS nbJ rS rJ):db<m:=h.bM _ h.dM
set_option maxHeartbeats 1000000 in
theorem add_call {T:TypD} {L:Sl Int} (hL:L.l.length<9223372036854775808) (hp:T.pads.l.length≤100) {most:Nat} (hmo:most≤9) {ref:Bs} {va:Bool} {t:Tr AB} {m sb db:Nat} {Mu:List Nat} {nm pv wv uv sv jv:AV} {nbS nbJ:Nat} {rS rJ:List (List AV)} {R:CRes}
  (hR:callN K3 49 (g t23) [.ptr (up .e sb) 0,.ptr (up .e db) 0,.agg (tyC T),.str ref,.int .i64 (.ofNat most),.bool va] ⟨up .e m,t,.lf⟩=R)
  (h:ShA t m sb db L Mu nm pv wv uv sv jv nbS nbJ rS rJ) (hrS:rS.length<500) (hrJ:rJ.length≤500) :
  ∃ m' t' Mu' sv' jv' nbS' nbJ' x js,R=.ret (.tup []) ⟨up .e m',t',.lf⟩∧m≤m'∧x.ref=ref∧x.ty=T.nm∧NotOf va x.nots∧JoOf T ref most js∧js.length≤100∧m≤nbS'∧(js=[]∧nbJ'=nbJ∨m≤nbJ') ∧
   ShA t' m' sb db L Mu' nm pv wv uv sv' jv' nbS' nbJ' (rS++[symC x]) (rJ++js.map joinC)∧(∀ i∈Mu,i∈Mu')∧(∀ i∈Mu',i∈Mu∨m≤i) ∧
   (∀ i,i<m→i≠sb→i≠db→(0<rS.length→i≠nbS)→(0<rJ.length→i≠nbJ)→t'.get (up .e i)=t.get (up .e i)):=by
 have hsm:=h.sm
 have hdm:=h.dm
 have h1m:=h.one
 rw [← hR,call_fn (F:=c23) rfl rfl,c23]
 have hsj:∀ i,(sb=m+i)=False:=fun i=>eq_false (by omega)
 simp +decide only [SC,up_inj,Nat.reduceAdd,Bool.and_self,Nat.add_assoc,tyC]
 generalize hX:execA K3 (callN K3 48) c23_v _=o
 have hx1:(m+1=m)=False:=eq_false (by omega)
 have put2:∀ {i:Nat} (x y z:AB),i<m→(((t.put (up .e m) x).put (up .e (m+1)) y).put (up .e (m+1)) z).get (up .e i)=t.get (up .e i):=fun {i} x y z hi=>by
  rw [gp,if_neg (fun e=>by rw [up_inj] at e; omega),gp,if_neg (fun e=>by rw [up_inj] at e; omega),gp,if_neg (fun e=>by rw [up_inj] at e; omega)]
 have at0:∀ (x y z:AB),(((t.put (up .e m) x).put (up .e (m+1)) y).put (up .e (m+1)) z).get (up .e m)=some x:=fun x y z=>by
  rw [gp,if_neg (fun e=>by rw [up_inj] at e; omega),gp,if_neg (fun e=>by rw [up_inj] at e; omega),gp,if_pos rfl]
 have ad0:∀ (x y z:AB),DrawAt (((t.put (up .e m) x).put (up .e (m+1)) y).put (up .e (m+1)) z) (up .e db) L:=fun x y z=>by
  obtain ⟨pos,hpos,hg⟩:=h.dr
  exact ⟨pos,hpos,(put2 x y z hdm).trans hg⟩
 have hV:=add_v hL hX rfl rfl rfl (ad0 _ _ _) (by rw [gp,if_pos rfl]) (by omega) (by omega) (by omega)
 obtain ⟨fr1,m1,u1,nv,ho,hm1,k1,ad1,ax1,f1,nots,hnots,hnv⟩:=hV
 subst ho
 have e0:fr1.get t0=some (.ptr (up .e sb) 0):=(k1 t0 (by simp [addR])).trans rfl
 have e1:fr1.get t1=some (.ptr (up .e db) 0):=(k1 t1 (by simp [addR])).trans rfl
 have e3:fr1.get t3=some (.str ref):=(k1 t3 (by simp [addR])).trans rfl
 have e4:fr1.get t4=some (.int .i64 (.ofNat most)):=(k1 t4 (by simp [addR])).trans rfl
 have e8:fr1.get t8=some (.ptr (up .e m) 0):=(k1 t8 (by simp [addR])).trans rfl
 have e12:fr1.get t12=some (.ptr (up .e (m+1)) 0):=(k1 t12 (by simp [addR])).trans rfl
 clear k1 hX
 have g1:∀ i,i<m→i≠db→u1.get (up .e i)=t.get (up .e i):=fun i hi hd=>(f1 i (by omega) hd (by omega)).trans (put2 _ _ _ hi)
 have at1:u1.get (up .e m)=some (.cells [.str T.nm,slV padC T.pads,slV gateC T.gates] false):=(f1 m (by omega) (by omega) (by omega)).trans (at0 _ _ _)
 have as1:u1.get (up .e sb)=some (.cells [nm,pv,wv,sv,jv,uv] false):=(g1 sb hsm h.sd).trans h.blk
 have agr1:Agr t u1 m Mu:=fun i hi hn=>g1 i hi (fun e=>hn (e▸h.dM))
 have gS1:=h.gS.step (m':=m1) (Mu':=Mu) (by omega) agr1 (fun h0 _=>g1 nbS (h.nS h0).2.2 (h.nS h0).2.1) (fun i hi=>.inl hi) id
 have gJ1:=h.gJ.step (m':=m1) (Mu':=Mu) (by omega) agr1 (fun h0 _=>g1 nbJ (h.nJ h0).2.2 (h.nJ h0).2.1) (fun i hi=>.inl hi) id
 have hz1:=hnv Mu (fun i hi=>by have:=h.bM i hi; omega)
 clear hnv f1 ad0 at0 put2
 simp only
 generalize hX2:execA K3 (callN K3 48) c23_s _=o2
 have hS:=add_s hX2 e0 e12 as1 ax1 gS1 hz1 h.sM (by omega) (by omega) (by omega) (fun h0=>⟨(h.nS h0).1,by have:=(h.nS h0).2.2; omega⟩) (by omega) (fun i hi=>by have:=h.bM i hi; omega)
 obtain ⟨fr2,m2,u2,ho2,hm2,k2,nbS',sv',hn1,hn2,as2,f2,gS2⟩:=hS
 subst ho2
 clear hX2
 have q0:fr2.get t0=some (.ptr (up .e sb) 0):=(k2 t0 (by simp [addR])).trans e0
 have q1:fr2.get t1=some (.ptr (up .e db) 0):=(k2 t1 (by simp [addR])).trans e1
 have q3:fr2.get t3=some (.str ref):=(k2 t3 (by simp [addR])).trans e3
 have q4:fr2.get t4=some (.int .i64 (.ofNat most)):=(k2 t4 (by simp [addR])).trans e4
 have q8:fr2.get t8=some (.ptr (up .e m) 0):=(k2 t8 (by simp [addR])).trans e8
 clear k2
 have agr2:Agr u1 u2 m1 Mu:=fun i hi hn=>f2 i hi (fun e=>hn (e▸h.sM)) (fun h0 e=>hn (e▸h.gS.mem h0))
 have hMu2:∀ i∈nbS'::Mu,i<m2:=fun i hi=>by
  rcases List.mem_cons.1 hi with rfl | hi
  ·omega
  ·have:=h.bM i hi; omega
 have gJ2:=gJ1.step (m':=m2) (Mu':=nbS'::Mu) (by omega) agr2 (fun h0 _=>f2 nbJ (by have:=(h.nJ h0).2.2; omega) (h.nJ h0).1 (fun h1 e=>h.ne h1 h0 e.symm)) (fun i hi=>by
  rcases List.mem_cons.1 hi with rfl | hi
  ·exact .inr hn1
  ·exact .inl hi) (fun hi=>List.mem_cons_of_mem _ hi)
 have ad2:DrawAt u2 (up .e db) L:=by
  obtain ⟨pos,hpos,hg⟩:=ad1
  exact ⟨pos,hpos,(f2 db (by omega) (fun e=>h.sd e.symm) (fun h0 e=>(h.nS h0).2.1 e.symm)).trans hg⟩
 have at2:u2.get (up .e m)=some (.cells [.str T.nm,slV padC T.pads,slV gateC T.gates] false):=(f2 m (by omega) (by omega) (fun h0=>by have:=(h.nS h0).2.2; omega)).trans at1
 have fr02:∀ i,i<m→i≠sb→i≠db→(0<rS.length→i≠nbS)→u2.get (up .e i)=t.get (up .e i):=fun i hi h1 h2 h3=>(f2 i (by omega) h1 h3).trans (g1 i hi h2)
 simp only
 generalize hX3:execA K3 (callN K3 48) c23_b _=o3
 have hB:=add_b hL hX3 q0 q1 q3 q8 as2 at2 ad2 gJ2 (List.mem_cons_of_mem _ h.sM) (List.mem_cons_of_mem _ h.dM) (by omega) (by omega) (by omega) h.sd (by omega) (by omega) (fun h0=>⟨(h.nJ h0).1,(h.nJ h0).2.1,by have:=(h.nJ h0).2.2; omega⟩) (by omega) hMu2
 have hsymC:rS++[symC ⟨ref,T.nm,nots⟩]=rS++[[.str ref,.str T.nm,slV bsC nots]]:=rfl
 have hnS:nbS'≠sb∧nbS'≠db:=⟨by omega,by omega⟩
 rcases hB with ⟨fr3,m3,u3,ho3,hm3,k3,ad3,f3⟩ | ⟨hbus,fr3,m3,u3,ho3,hm3,ad3,nbJ',jv',n,hn,hn3,hn4,as3,f3,gJ3⟩
 ·subst ho3
  clear hX3
  have r0:fr3.get t0=some (.ptr (up .e sb) 0):=(k3 t0 (by simp [addR])).trans q0
  have r1:fr3.get t1=some (.ptr (up .e db) 0):=(k3 t1 (by simp [addR])).trans q1
  have r3:fr3.get t3=some (.str ref):=(k3 t3 (by simp [addR])).trans q3
  have r4:fr3.get t4=some (.int .i64 (.ofNat most)):=(k3 t4 (by simp [addR])).trans q4
  have r8:fr3.get t8=some (.ptr (up .e m) 0):=(k3 t8 (by simp [addR])).trans q8
  clear k3
  simp +decide only [kf3]
  generalize hit:iterA (execA K3 (callN K3 48) c23_l0) 100000 _=o4
  have hnS3:nbS'≠sb∧nbS'≠db:=⟨by omega,by omega⟩
  have as3:u3.get (up .e sb)=some (.cells [nm,pv,wv,sv',jv,uv] false):=(f3 sb (by omega) h.sd).trans as2
  have at3:u3.get (up .e m)=some (.cells [.str T.nm,slV padC T.pads,slV gateC T.gates] false):=(f3 m (by omega) (by omega)).trans at2
  have agr3:Agr u2 u3 m2 (nbS'::Mu):=fun i hi hni=>f3 i hi (fun e=>hni (e▸List.mem_cons_of_mem _ h.dM))
  have gJ3:=gJ2.step (m':=m3) (Mu':=nbS'::Mu) hm3 agr3 (fun h0 hb=>f3 nbJ hb (h.nJ h0).2.1) (fun i hi=>.inl hi) id
  have gS3:=gS2.step (m':=m3) (Mu':=nbS'::Mu) hm3 agr3 (fun _ hb=>f3 nbS' hb hnS3.2) (fun i hi=>.inl hi) id
  have fr03:∀ i,i<m→i≠sb→i≠db→(0<rS.length→i≠nbS)→u3.get (up .e i)=t.get (up .e i):=fun i hi h1 h2 h3=>(f3 i (by omega) h2).trans (fr02 i hi h1 h2 h3)
  generalize hE:AddE.mk T L sb db m ref most nm pv wv sv' uv m3 nbJ u3 rJ (nbS'::Mu)=E
  have ok:AddOK E:=by
   subst hE
   exact ⟨hL,hp,hmo,by simp only; omega,by simp only; omega,by simp only; omega,by simp only; omega,h.sd,by simp only; omega,by simp only; omega,hrJ⟩
  have hI:∃ s,o4=.exit 0 s∧AddI E 0 s:=by
   rw [← hit]
   refine iter_rule (AddI E) (fun o=>∃ s,o=.exit 0 s∧AddI E 0 s) (add_round E ok) 100000 T.pads.l.length _ ?_ (by omega)
   subst hE
   refine ⟨_,m3,u3,nbJ,jv,0,[],nbS'::Mu,rfl,by simp,Nat.le_refl _,?_,?_,?_,?_,?_,?_,as3,at3,ad3,by simpa using gJ3,List.mem_cons_of_mem _ h.sM,List.mem_cons_of_mem _ h.dM,fun i hi=>by have:=hMu2 i hi; omega,fun h0 => ?_,fun i hi _ _ _=>rfl,?_,by simp,.inl ⟨rfl,rfl⟩,fun _ hi=>hi,fun _ hi=>.inl hi⟩
   ·simp +decide only [gp,r0,if_false]
   ·simp +decide only [gp,r1,if_false]
   ·simp +decide only [gp,r3,if_false]
   ·simp +decide only [gp,r4,if_false]
   ·simp +decide only [gp,r8,if_false]
   ·simp +decide only [gp,if_true]
   ·have h0':0<rJ.length:=by simpa using h0
    have:=h.nJ h0'
    exact ⟨this.1,this.2.1,by simp only; omega,by omega⟩
   ·exact ⟨by simp,fun j hj=>absurd hj List.not_mem_nil⟩
  obtain ⟨s,ho4,fr4,m4,u4,nbJ4,jv4,k4,js,Mu4,rfl,hk4,hm4,-,-,-,-,-,-,as4,at4,ad4,gJ4,hsM4,hdM4,hM4,hnb4,f4,hjs4,hjl4,hnbo4,hu1,hu2⟩:=hI
  subst ho4
  subst hE
  simp +decide only [cond_true,decide_true,leaveA,dfrsA,resultA,resultsA,leaveA,dfrsA,resultA,resultsA]
  simp only at hm4 hk4 hsM4 hdM4 hnb4 f4 hnbo4 gJ4 as4 at4 ad4 hjs4 hu1 hu2
  have hka:k4=T.pads.l.length:=by omega
  subst hka
  rw [List.take_length] at hjs4
  have hne4:0<rJ.length∨js≠[]→nbS'≠nbJ4:=fun h0 e=>by
   rcases hnbo4 with ⟨hq,hq2⟩ | ⟨hq,hq2⟩
   ·rcases h0 with h0 | h0
    ·have:=h.nJ h0
     omega
    ·exact h0 hq
   ·omega
  have hne5:0<(rJ++js.map joinC).length→0<rJ.length∨js≠[]:=fun h0=>by
   rcases js with _ | ⟨x,xs⟩
   ·exact .inl (by simpa using h0)
   ·exact .inr (by simp)
  refine ⟨m4,u4,Mu4,sv',jv4,nbS',nbJ4,⟨ref,T.nm,nots⟩,js,rfl,by omega,rfl,rfl,hnots,.inr hjs4,by omega,by omega,?_,⟨as4,ad4,?_,gJ4,hsM4,hdM4,hM4,fun _=>⟨hnS3.1,hnS3.2,by omega⟩,fun h0 => ?_,fun _ h0=>hne4 (hne5 h0),by omega,h.sd,h.os⟩,fun i hi=>hu1 i (List.mem_cons_of_mem _ hi),fun i hi => ?_,fun i hi h1 h2 h3 h4 => ?_⟩
  ·rcases hnbo4 with ⟨hq,hq2⟩ | ⟨hq,hq2⟩
   ·exact .inl ⟨hq,hq2⟩
   ·exact .inr (by omega)
  ·rw [hsymC]
   refine gS3.step hm4 (fun i hi hni=>f4 i hi (fun e=>hni (e▸List.mem_cons_of_mem _ h.sM)) (fun e=>hni (e▸List.mem_cons_of_mem _ h.dM)) (fun h0 e=>hni (e▸List.mem_cons_of_mem _ (h.gJ.mem h0)))) (fun _ hb=>f4 nbS' hb hnS3.1 hnS3.2 (fun h0=>by have:=(h.nJ h0).2.2; omega)) (fun i hi=>hu2 i hi) (fun hi=>hu1 _ hi)
  ·rcases hnbo4 with ⟨hq,hq2⟩ | ⟨hq,hq2⟩
   ·rw [hq,List.map_nil,List.append_nil] at h0
    have:=h.nJ h0
    rw [hq2]
    exact ⟨this.1,this.2.1,by omega⟩
   ·exact ⟨by omega,by omega,(hnb4 h0).2.2.2⟩
  ·rcases hu2 i hi with hi | hi
   ·rcases List.mem_cons.1 hi with rfl | hi
    ·exact .inr (by omega)
    ·exact .inl hi
   ·exact .inr (by omega)
  ·exact (f4 i (by omega) h1 h2 h4).trans (fr03 i hi h1 h2 h3)
 ·subst ho3
  clear hX3
  simp +decide only [leaveA,dfrsA,resultA,resultsA,leaveA,dfrsA,resultA,resultsA]
  refine ⟨m3,u3,nbJ'::nbS'::Mu,sv',jv',nbS',nbJ',⟨ref,T.nm,nots⟩,[⟨n,ref,busP⟩],rfl,by omega,rfl,rfl,hnots,.inl ⟨hbus,n,hn,rfl⟩,by simp,by omega,.inr (by omega),⟨as3,ad3,?_,gJ3,by simp [h.sM],by simp [h.dM],fun i hi => ?_,fun _=>⟨hnS.1,hnS.2,by omega⟩,fun _=>⟨by omega,by omega,by omega⟩,fun _ _=>by omega,by omega,h.sd,h.os⟩,fun i hi=>by simp [hi],fun i hi => ?_,fun i hi h1 h2 h3 h4 => ?_⟩
  ·rw [hsymC]
   refine gS2.step (by omega) (fun i hi hni=>f3 i hi (fun e=>hni (e▸List.mem_cons_of_mem _ h.dM)) (fun e=>hni (e▸List.mem_cons_of_mem _ h.sM)) (fun h0 e=>hni (e▸List.mem_cons_of_mem _ (h.gJ.mem h0)))) (fun _ hb=>f3 nbS' hb hnS.2 hnS.1 (fun h0=>by have:=(h.nJ h0).2.2; omega)) (fun i hi => ?_) (fun hi=>by simp)
   rcases List.mem_cons.1 hi with rfl | hi
   ·exact .inr hn3
   ·exact .inl hi
  ·rcases List.mem_cons.1 hi with rfl | hi
   ·omega
   ·have:=hMu2 i hi; omega
  ·simp only [List.mem_cons] at hi
   rcases hi with rfl | rfl | hi
   ·exact .inr (by omega)
   ·exact .inr (by omega)
   ·exact .inl hi
  ·exact (f3 i (by omega) h2 h1 h4).trans (fr02 i hi h1 h2 h3)
end Go.Abs.Sym
end
end
