/- Made: the sheets in a sheet, a round. -/
import Derived.Test.YtipcmdllhllolaaGreatDoorK26
import Derived.KernelRfl
noncomputable section
section
namespace Go.Abs.Sym
open Go.Abs.T
open Go.Proofs
theorem Fz.mono {k m:Nat} {t:Tr AB} {Mu Mu':List Nat} {v a:AV} (h:Fz k t m Mu v a) (hM:∀ i∈Mu',i∈Mu):Fz k t m Mu' v a :=
 ⟨h.1,h.2.1,fun t' nx d hg hd=>h.2.2 t' nx d (fun i hi hn=>hg i hi (fun e=>hn (hM i e))) hd⟩
theorem FzL.mono {k m:Nat} {t:Tr AB} {Mu Mu':List Nat} (hM:∀ i∈Mu',i∈Mu):∀ {vs al:List AV},FzL k t m Mu vs al→FzL k t m Mu' vs al
 | [],[],_=>trivial
 | _::_,_::_,h=>⟨h.1.mono hM,FzL.mono hM h.2⟩
 | [],_::_,h=>h.elim
 | _::_,[],h=>h.elim
theorem GrowF.fz {α:Type} {f:α→List AV} {k m sz nb:Nat} {t:Tr AB} {Mu Mu':List Nat} {v:AV} {l:List α} (h:GrowF k t m Mu sz nb v (l.map f)) (hM:∀ i∈Mu',i∈Mu) (hn:0<l.length→nb∉Mu'):Fz (k+1) t m Mu' v (slV f ⟨0,l⟩):=by
 obtain ⟨rs,h1,h2,h3,h4,h5⟩:=h
 rw [List.length_map] at h2
 rcases h1 with ⟨rfl,rfl,rfl⟩ | ⟨hp,rfl,hg,hlo,hhi⟩
 ·have hl:l=[]:=List.length_eq_zero_iff.1 h2.symm
  subst hl
  exact (Fz.of (k:=0) rfl rfl).le (by omega)
 ·have hlp:0<l.length:=by omega
  have hl:l≠[]:=fun e=>by rw [e] at hlp; simp at hlp
  rw [slV_ne f (s:=⟨0,l⟩) hl 1,slV_rslc,← h2,List.flatMap_def]
  exact Fz.slc hg hhi (hn hlp) (takeD_all (rows_len (Rw:=fun r=>r.length=sz) (fun _ h=>h) rs h3)) (h4.mono hM)
theorem sub_3 {fr:Tr AV} {m sb xb nb:Nat} {t:Tr AB} {Mu:List Nat} {nm pv wv uv sv jv bv al:AV} {a b:Bs} {rows:List (List AV)} {o:Out}
  (hX:execA K3 (callN K3 49) c7_u3 ⟨fr,[],⟨up .e m,t,.lf⟩,.no,none,t7⟩=o) (g8:fr.get t8=some (.ptr (up .e sb) 0)) (g14:fr.get t14=some (.ptr (up .e xb) 0))
  (as':t.get (up .e sb)=some (.cells [nm,pv,wv,sv,jv,uv] false)) (ax:t.get (up .e xb)=some (.cells [.str a,.str b,bv] false))
  (hG:GrowF 2 t m Mu 3 nb uv rows) (hz:Fz 2 t m Mu bv al) (hsb:sb∈Mu) (hsm:sb<m) (hxm:xb<m) (hm1:1≤m) (hnb:0<rows.length→nb≠sb∧nb<m) (hlen:rows.length<1000) (_hM:∀ i∈Mu,i<m) :
  ∃ fr' m' t',o=.nrm ⟨fr',[],⟨up .e m',t',.lf⟩,.no,none,t7⟩∧m<m'∧KeepF mkS fr fr'∧∃ nb' uv',m≤nb'∧nb'<m'∧t'.get (up .e sb)=some (.cells [nm,pv,wv,sv,jv,uv'] false) ∧
   (∀ i,i<m→i≠sb→(0<rows.length→i≠nb)→t'.get (up .e i)=t.get (up .e i))∧GrowF 2 t' m' (nb'::Mu) 3 nb' uv' (rows++[[.str a,.str b,al]]):=by
 have hxs:∀ k,(xb=m+k)=False:=fun k=>eq_false (by omega)
 have hss:∀ k,(sb=m+k)=False:=fun k=>eq_false (by omega)
 have hnv:bv.one=true:=hz.1
 rw [← hX]
 simp +decide only [SC,c7_u3,Nat.reduceAdd,Bool.and_self,g8,g14,as',ax]
 generalize hA:appendA _ 3 56 _ _=A
 have hag:∀ x:AB,Agr t (t.put (up .e m) x) m Mu:=fun x=>(Agr.refl t m Mu).put (.inr (by omega)) x
 have hG':=hG.step (m':=m+1) (Mu':=Mu) (by omega) (hag (.cells [.str a,.str b,bv] false)) (fun _ hb=>by rw [gp,if_neg (fun e=>by rw [up_inj] at e; omega)]) (fun i hi=>.inl hi) id
 have hz':=hz.step (m':=m+1) (Mu':=Mu) (by omega) (hag (.cells [.str a,.str b,bv] false)) (fun i hi=>.inl hi)
 have hQ:=hG'.append (row:=[.str a,.str b,bv]) (ra:=[.str a,.str b,al]) hA (sp:=false) (by rw [gp,if_pos rfl]) ⟨(Fz.of (k:=0) rfl rfl).le (by omega),(Fz.of (k:=0) rfl rfl).le (by omega),hz'.le (by omega),trivial⟩ rfl (by decide) (by omega) (by omega)
 obtain ⟨t2,hA2,b1,b2⟩:=hQ
 subst hA2
 have q:t2.get (up .e sb)=some (.cells [nm,pv,wv,sv,jv,uv] false):=by
  rw [b1 sb (by omega) (fun h e=>(hnb h).1 e.symm),gp,if_neg (fun e=>by rw [up_inj] at e; omega)]
  exact as'
 simp +decide only [SC,Nat.reduceAdd,Bool.and_self,Nat.add_assoc,g8,q]
 refine ⟨_,_,_,rfl,by omega,by simp +decide only [mkS,mkR,keep_c,keep_n,gp,if_false,and_self],m+1,_,by omega,by omega,by rw [gp,if_pos rfl],fun i hi h1 h2 => ?_,b2.step (Nat.le_refl _) ((Agr.refl _ _ _).put (.inl (List.mem_cons_of_mem _ hsb)) _) (fun _ _ => ?_) (fun i hi=>.inl hi) id⟩
 ·rw [gp,if_neg (fun e=>h1 (by rw [up_inj] at e; exact e)),b1 i (by omega) h2,gp,if_neg (fun e=>by rw [up_inj] at e; omega)]
 ·rw [gp,if_neg (fun e=>by rw [up_inj] at e; omega)]
structure SuE where
 L:Sl Int
 n:Nat
 k:Nat
 cnt:Nat
 sb:Nat
 db:Nat
 nm:AV
 pv:AV
 wv:AV
 sv:AV
 jv:AV
 nbS:Nat
 nbJ:Nat
 rS:List (List AV)
 rJ:List (List AV)
 m0:Nat
 t0:Tr AB
 fr0:Tr AV
 Mu0:List Nat
def BindsOk (bs:List BindD):Prop:=∃ x y:List BindD,bs=x++y∧(x=[]∨∃ k,k<6∧x=[⟨inB,netN.getD k []⟩])∧(y=[]∨∃ k,k<3∧y=[⟨edgeB,edgeN.getD k []⟩])
def SubsOk (k:Nat) (us:List SubD):Prop:=∀ j u,us[j]?=some u→u.nm=subN.getD j []∧u.sh=sheetN.getD (k+1) []∧u.binds.kind=0∧BindsOk u.binds.l
theorem SubsOk.snoc {k:Nat} {us:List SubD} (h:SubsOk k us) {u:SubD} (hu:u.nm=subN.getD us.length []∧u.sh=sheetN.getD (k+1) []∧u.binds.kind=0∧BindsOk u.binds.l):SubsOk k (us++[u]):=fun j y hy=>by
 rcases Nat.lt_trichotomy j us.length with hk | hk | hk
 ·rw [List.getElem?_append_left hk] at hy
  exact h j y hy
 ·subst hk
  rw [List.getElem?_append_right (Nat.le_refl _),Nat.sub_self] at hy
  cases hy
  exact hu
 ·rw [List.getElem?_eq_none (by rw [List.length_append,List.length_singleton]; omega)] at hy
  cases hy
def SuI (E:SuE) (r:Nat) (s:St):Prop:=∃ fr m t uv nbU us Mu,s=⟨fr,[],⟨up .e m,t,.lf⟩,.no,none,t7⟩∧us.length+r=E.n∧E.m0≤m∧KeepF mkR E.fr0 fr∧fr.get t13=some (.int .i64 (.ofNat us.length)) ∧
 ShA t m E.sb E.db E.L Mu E.nm E.pv E.wv uv E.sv E.jv E.nbS E.nbJ E.rS E.rJ∧GrowF 2 t m Mu 3 nbU uv (us.map subC)∧(0<us.length→E.m0≤nbU∧nbU<m) ∧
 (∀ i,i<E.m0→i≠E.sb→i≠E.db→t.get (up .e i)=E.t0.get (up .e i))∧(∀ i∈E.Mu0,i∈Mu)∧(∀ i∈Mu,i∈E.Mu0∨E.m0≤i)∧SubsOk E.k us∧(0<us.length→E.k+1<E.cnt)
structure SuOK (E:SuE):Prop where
 hL:E.L.l.length<9223372036854775808
 hn:E.n≤2
 hk:E.k≤2
 hc:E.cnt≤3
 ls:E.sb<E.m0
 ld:E.db<E.m0
 lS:0<E.rS.length→E.nbS<E.m0
 lJ:0<E.rJ.length→E.nbJ<E.m0
 g6:E.fr0.get t6=some (.int .i64 (.ofNat E.cnt))
 g7:E.fr0.get t7=some (.int .i64 (.ofNat E.k))
 g8:E.fr0.get t8=some (.ptr (up .e E.sb) 0)
 g10:E.fr0.get t10=some (.ptr (up .e E.db) 0)
 g11:E.fr0.get t11=some (.int .i64 (.ofNat E.n))
def SuQ (E:SuE) (o:Out):Prop:=∃ s r,o=.exit 4 s∧SuI E r s∧(r=0∨E.cnt≤E.k+1)
set_option maxHeartbeats 1000000 in
theorem su_round (E:SuE) (ok:SuOK E) (r:Nat) (s:St) (h:SuI E r s):Stp (SuI E) (SuQ E) r (execA K3 (callN K3 49) c7_l1 s):=by
 obtain ⟨fr,m,t,uv,nbU,us,Mu,rfl,hk,hm,kf,g13,hA,hG,hnb,hfr,hu1,hu2,hso,hcn⟩:=h
 have g6:fr.get t6=some (.int .i64 (.ofNat E.cnt)):=(kf t6 (by simp [mkR])).trans ok.g6
 have g7:fr.get t7=some (.int .i64 (.ofNat E.k)):=(kf t7 (by simp [mkR])).trans ok.g7
 have g8:fr.get t8=some (.ptr (up .e E.sb) 0):=(kf t8 (by simp [mkR])).trans ok.g8
 have g10:fr.get t10=some (.ptr (up .e E.db) 0):=(kf t10 (by simp [mkR])).trans ok.g10
 have g11:fr.get t11=some (.int .i64 (.ofNat E.n)):=(kf t11 (by simp [mkR])).trans ok.g11
 have hn:=ok.hn
 have hc:=ok.hc
 have hw:=wr_add E.k 1 (by have:=ok.hk; omega)
 have hw1:=wr_add us.length 1 (by omega)
 rw [c7_l1]
 cases r with
 | zero =>
  have hkn:(us.length<E.n)=False:=eq_false (by omega)
  simp +decide only [SC,c7_uc,g11,g13,ltI_dec,hkn,stp_e]
  refine ⟨_,0,rfl,⟨_,m,t,uv,nbU,us,Mu,rfl,hk,hm,kf.trans ?_,?_,hA,hG,hnb,hfr,hu1,hu2,hso,hcn⟩,.inl rfl⟩
  ·simp +decide only [mkR,keep_c,keep_n,gp,if_false,and_self]
  ·simp +decide only [gp,g13,if_false]
 | succ r =>
  have hkn:(us.length<E.n)=True:=eq_true (by omega)
  by_cases hcc:E.k+1<E.cnt
  ·have hcc':(E.k+1<E.cnt)=True:=eq_true hcc
   simp +decide only [SC,c7_uc,g6,g7,g11,g13,ltI_dec,hkn,hw,hcc']
   generalize hX0:execA K3 (callN K3 49) c7_u0 _=o0
   obtain ⟨fr0,u0,rfl,k0,x14,ax0,f0⟩:=sub_0 hX0 ((by simp +decide only [gp,g13,if_false])) (by simp +decide only [gp,g7,if_false]) (show us.length<2 by omega) (show E.k<2 by omega)
   have k0':=(show KeepF mkU fr _ by simp +decide only [mkU,mkR,keep_c,keep_n,gp,if_false,and_self]).trans k0
   clear k0 hX0
   have y10:fr0.get t10=some (.ptr (up .e E.db) 0):=(k0' t10 (by simp [mkU,mkR])).trans g10
   have y13:fr0.get t13=some (.int .i64 (.ofNat us.length)):=(k0' t13 (by simp [mkU,mkR])).trans g13
   have y8:fr0.get t8=some (.ptr (up .e E.sb) 0):=(k0' t8 (by simp [mkU,mkR])).trans g8
   have hdm:=hA.dm
   have hsm:=hA.sm
   have ad0:DrawAt u0 (up .e E.db) E.L:=by
    obtain ⟨pos,hp,hg⟩:=hA.dr
    exact ⟨pos,hp,(f0 _ hdm).trans hg⟩
   simp only
   generalize hX1:execA K3 (callN K3 49) c7_u1 _=o1
   have hMb:∀ i∈(m+10)::E.db::Mu,i<m+12:=fun i hi=>by
    simp only [List.mem_cons] at hi
    rcases hi with rfl | rfl | hi
    ·omega
    ·omega
    ·have:=hA.bM i hi; omega
   obtain ⟨fr1,m1,u1,Mb1,nb1,a1,rfl,k1,ha1,B1⟩:=sub_1 ok.hL hX1 y10 x14 ad0 ax0 (GrowF.nil (k:=1) (sz:=2)) (by simp) (List.mem_cons_self) (by omega) (by omega) (by omega) (fun h=>absurd h (by simp)) (by simp) hMb (by omega)
   clear hX1
   have z10:fr1.get t10=some (.ptr (up .e E.db) 0):=(k1 t10 (by simp [mkS,mkR])).trans y10
   have z14:fr1.get t14=some (.ptr (up .e (m+10)) 0):=(k1 t14 (by simp [mkS,mkR])).trans x14
   have B1le:=B1.le
   have hMb1:∀ i∈Mb1,i<m1:=fun i hi=>by
    rcases B1.m2 i hi with hi | hi
    ·have:=hMb i hi; omega
    ·exact hi.2
   obtain ⟨bv1,ax1,gb1⟩:=B1.ax
   have hla1:a1.length≤1:=by
    rcases ha1 with rfl | ⟨_,_,rfl⟩<;>simp
   have hnw1:0<a1.length→m+12≤nb1∧nb1<m1:=fun h0=>by
    rcases B1.nw with ⟨h1,_⟩ | h1
    ·rw [h1] at h0; exact absurd h0 (by simp)
    ·exact h1
   simp only
   generalize hX2:execA K3 (callN K3 49) c7_u2 _=o2
   obtain ⟨fr2,m2,u2,Mb2,nb2,a2,rfl,k2,ha2,B2⟩:=sub_2 ok.hL hX2 z10 z14 B1.ad ax1 gb1 (B1.m1 _ (by simp)) (B1.m1 _ (List.mem_cons_self)) (by omega) (by omega) (by omega) (fun h=>by have:=hnw1 (by simpa using h); omega) (by rw [List.length_append,List.length_nil]; omega) hMb1 (by omega)
   clear hX2
   have B2le:=B2.le
   have w8:fr2.get t8=some (.ptr (up .e E.sb) 0):=(k2 t8 (by simp [mkS,mkR])).trans ((k1 t8 (by simp [mkS,mkR])).trans y8)
   have w14:fr2.get t14=some (.ptr (up .e (m+10)) 0):=(k2 t14 (by simp [mkS,mkR])).trans z14
   obtain ⟨bv2,ax2,gb2⟩:=B2.ax
   have f2:∀ i,i<m→i≠E.db→u2.get (up .e i)=t.get (up .e i):=fun i hi hd=>by
    rw [B2.fr i (by omega) hd (by omega) (fun h=>by have:=hnw1 (by simpa using h); omega),B1.fr i (by omega) hd (by omega) (fun h=>absurd h (by simp)),f0 i hi]
   have hA2:=hA.step (m':=m2) (t':=u2) (by omega) f2 B2.ad
   have hG2:=hG.step (m':=m2) (t':=u2) (Mu':=Mu) (by omega) (fun i hi hn=>f2 i hi (fun e=>hn (e▸hA.dM))) (fun h0 hb=>f2 _ hb (by have:=hnb (by simpa using h0); have:=ok.ld; omega)) (fun i hi=>.inl hi) id
   obtain ⟨bs,hbs,hbk⟩:∃ bs:List BindD,[]++a1++a2=bs.map bindC∧BindsOk bs:=by
    rcases ha1 with rfl | ⟨p,hp,rfl⟩<;>rcases ha2 with rfl | ⟨q,hq,rfl⟩
    ·exact ⟨[],rfl,[],[],rfl,.inl rfl,.inl rfl⟩
    ·exact ⟨[⟨edgeB,edgeN.getD q []⟩],rfl,[],_,rfl,.inl rfl,.inr ⟨q,hq,rfl⟩⟩
    ·exact ⟨[⟨inB,netN.getD p []⟩],rfl,_,[],rfl,.inr ⟨p,hp,rfl⟩,.inl rfl⟩
    ·exact ⟨[⟨inB,netN.getD p []⟩,⟨edgeB,edgeN.getD q []⟩],rfl,[_],[_],rfl,.inr ⟨p,hp,rfl⟩,.inr ⟨q,hq,rfl⟩⟩
   rw [hbs] at gb2
   have hz2:=gb2.fz (Mu':=Mu) (fun i hi=>B2.m1 _ (B1.m1 _ (by simp [hi]))) (fun h0 hx=>by
    have h1:=hA.bM _ hx
    rcases B2.nw with ⟨h2,h3⟩ | h2
    ·rw [h3] at h1
     have h5:0<([]++a1++a2).length:=by rw [hbs,List.length_map]; exact h0
     rw [h2,List.append_nil] at h5
     have:=hnw1 (by simpa using h5)
     omega
    ·omega)
   simp only
   generalize hX3:execA K3 (callN K3 49) c7_u3 _=o3
   have hnb2:0<(us.map subC).length→nbU≠E.sb∧nbU<m2:=fun h0=>by
    have:=hnb (by simpa using h0)
    have:=ok.ls
    omega
   obtain ⟨fr3,m3,u3,rfl,hm3,k3,nb3,uv3,hn3,hn4,as3,f3,gU3⟩:=sub_3 hX3 w8 w14 hA2.blk ax2 hG2 hz2 hA.sM hA2.sm (by omega) hA2.one hnb2 (by rw [List.length_map]; omega) hA2.bM
   clear hX3
   have v13:fr3.get t13=some (.int .i64 (.ofNat us.length)):=(k3 t13 (by simp [mkS,mkR])).trans ((k2 t13 (by simp [mkS,mkR])).trans ((k1 t13 (by simp [mkS,mkR])).trans y13))
   have kall:KeepF mkR fr fr3:=(k0'.sub (fun q hq=>by simp [mkU,hq])).trans ((k1.sub (fun q hq=>by simp [mkS,hq])).trans ((k2.sub (fun q hq=>by simp [mkS,hq])).trans (k3.sub (fun q hq=>by simp [mkS,hq]))))
   simp +decide only [SC,c7_ui,v13,hw1,stp_n]
   have hls:=ok.ls
   have hld:=ok.ld
   have nbUm:0<(us.map subC).length→nbU∈Mu:=hG.mem
   have hMu3:∀ i∈nb3::Mu,i∈Mu∨m2≤i:=fun i hi=>by
    rcases List.mem_cons.1 hi with rfl | hi
    ·exact .inr hn3
    ·exact .inl hi
   have hag3:Agr u2 u3 m2 Mu:=fun i hi hn=>f3 i hi (fun e=>hn (e▸hA.sM)) (fun h0 e=>hn (e▸nbUm h0))
   have hnbU:0<(us.map subC).length→E.m0≤nbU:=fun h0=>(hnb (by simpa using h0)).1
   have hrow:us.map subC++[[.str (subN.getD us.length []),.str (sheetN.getD (E.k+1) []),slV bindC ⟨0,bs⟩]]=(us++[SubD.mk (subN.getD us.length []) (sheetN.getD (E.k+1) []) ⟨0,bs⟩]).map subC:=by rw [List.map_append]; rfl
   rw [hrow] at gU3
   refine ⟨r,by omega,_,m3,u3,uv3,nb3,us++[SubD.mk (subN.getD us.length []) (sheetN.getD (E.k+1) []) ⟨0,bs⟩],nb3::Mu,rfl,by rw [List.length_append,List.length_singleton]; omega,by omega,(kf.trans kall).trans ?_,?_,⟨as3,?_,hA2.gS.step (by omega) hag3 (fun h0 hb=>f3 _ hb (hA2.nS h0).1 (fun h1=>by have:=hnbU h1; have:=ok.lS h0; omega)) hMu3 (List.mem_cons_of_mem _),hA2.gJ.step (by omega) hag3 (fun h0 hb=>f3 _ hb (hA2.nJ h0).1 (fun h1=>by have:=hnbU h1; have:=ok.lJ h0; omega)) hMu3 (List.mem_cons_of_mem _),List.mem_cons_of_mem _ hA.sM,List.mem_cons_of_mem _ hA.dM,fun i hi => ?_,fun h0=>⟨(hA2.nS h0).1,(hA2.nS h0).2.1,by have:=(hA2.nS h0).2.2; omega⟩,fun h0=>⟨(hA2.nJ h0).1,(hA2.nJ h0).2.1,by have:=(hA2.nJ h0).2.2; omega⟩,hA2.ne,by omega,hA.sd,hA.os.1,hA.os.2.1,hA.os.2.2.1,gU3.one⟩,gU3,fun _=>⟨by omega,hn4⟩,fun i hi h1 h2 => ?_,fun i hi=>List.mem_cons_of_mem _ (hu1 i hi),fun i hi => ?_,hso.snoc ⟨rfl,rfl,rfl,hbk⟩,fun _=>hcc⟩
   ·simp +decide only [mkR,keep_c,keep_n,gp,if_false,and_self]
   ·rw [List.length_append,List.length_singleton]
    simp +decide only [gp,if_true,reduceIte]
   ·obtain ⟨pos,hp,hg⟩:=hA2.dr
    exact ⟨pos,hp,(f3 _ hA2.dm hA.sd.symm (fun h1=>by have:=hnbU h1; omega)).trans hg⟩
   ·rcases List.mem_cons.1 hi with rfl | hi
    ·omega
    ·have:=hA2.bM i hi; omega
   ·rw [f3 i (by omega) h1 (fun h3=>by have:=hnbU h3; omega),f2 i (by omega) h2]
    exact hfr i hi h1 h2
   ·rcases List.mem_cons.1 hi with rfl | hi
    ·exact .inr (by omega)
    ·exact hu2 i hi
  ·have hcc':(E.k+1<E.cnt)=False:=eq_false hcc
   simp +decide only [SC,c7_uc,g6,g7,g11,g13,ltI_dec,hkn,hw,hcc',stp_e]
   refine ⟨_,r+1,rfl,⟨_,m,t,uv,nbU,us,Mu,rfl,hk,hm,kf.trans ?_,?_,hA,hG,hnb,hfr,hu1,hu2,hso,hcn⟩,.inr (by omega)⟩
   ·simp +decide only [mkR,keep_c,keep_n,gp,if_false,and_self]
   ·simp +decide only [gp,g13,if_false]
end Go.Abs.Sym
end
section
namespace Go.Abs.Sym
open Go.Abs.T
open Go.Proofs
def liC (L:Sl Int):List AV:=[slV inC L]
theorem frz_li (L:Sl Int):frzs (liC L)=true:=by simp only [liC,frzs,frz_slV frz_in,Bool.and_self]
theorem len_li (L:Sl Int):(liC L).length=1:=rfl
def partL (Ls:Sl (Sl Int)) (k:Nat):Sl Int:=Ls.l[k]?.getD ⟨0,[]⟩
theorem part_run (Ls:Sl (Sl Int)) (k:Nat):∃ h1,callN K0 50 (.fn t19 [] []) [slV liC Ls,.int .i64 (.ofNat k)] h0=.ret (slV inC (partL Ls k)) h1:=by
 rw [call_fn (F:=c19) rfl rfl]
 by_cases hk:k<Ls.l.length
 ·obtain ⟨a,ha⟩:∃ a,Ls.l[k]?=some a:=⟨_,List.getElem?_eq_getElem hk⟩
  have hk':(k<Ls.l.length)=True:=eq_true hk
  have ia:=at_slV (f:=liC) (sz:=1) len_li (by decide) ha
  simp +decide only [SC,c19,leaveA,dfrsA,resultA,resultsA,len_slV,ltI_dec,hk',ia,liC]
  exact ⟨_,by rw [partL,ha]; rfl⟩
 ·have hk':(k<Ls.l.length)=False:=eq_false hk
  simp +decide only [SC,c19,leaveA,dfrsA,resultA,resultsA,len_slV,ltI_dec,hk']
  exact ⟨_,by rw [partL,List.getElem?_eq_none (by omega)]; rfl⟩
theorem part_sum (Ls:Sl (Sl Int)) (k:Nat) (h:H):K1.sums t19 [slV liC Ls,.int .i64 (.ofNat k)] h=some (slV inC (partL Ls k)):=by
 obtain ⟨h1,h2⟩:=part_run Ls k
 exact over_fz' rfl h2 (by simp only [frzs,frz,frz_slV frz_li,Bool.and_self]) (frz_slV frz_in _) h
theorem part3 {f:Nat} (Ls:Sl (Sl Int)) (k:Nat) (h:H):callN K3 (f+1) (g t19) [slV liC Ls,.int .i64 (.ofNat k)] h=.ret (slV inC (partL Ls k)) h :=
 call_sum (by rw [List.nil_append,List.append_nil,sums3_2 _ _ _ rfl,sums2_1 _ _ _ rfl]; exact part_sum Ls k h)
theorem partL_len {Ls:Sl (Sl Int)} (h:∀ L∈Ls.l,L.l.length<9223372036854775808) (k:Nat):(partL Ls k).l.length<9223372036854775808:=by
 unfold partL
 cases hk:Ls.l[k]? with
 | none=>exact (by decide:0<9223372036854775808)
 | some a=>exact h a (List.mem_of_getElem? hk)
def busPd (nm:Bs) (x:Int):PadD:=⟨nm,1,discE x 0,5,x,0,0⟩
def busT:TypD:=⟨busB,⟨1,[busPd [68,91,48,93] 0,busPd [68,91,49,93] 25,busPd [68,91,50,93] 50,busPd [67] 75]⟩,⟨0,[]⟩⟩
theorem bus_all:F.callC K0 50 (.fn t21 [] []) [] h0 (isD (.agg (tyC busT)))=true:=by kernel_rfl
theorem bus_sum (h:H):K1.sums t21 [] h=some (.agg (tyC busT)):=by
 have h1:=bus_all
 rw [F.callC_eq] at h1
 obtain ⟨v,h2,h3,h4⟩:=isD_ret h1
 rw [← h4]
 exact over_fz rfl h3 rfl (by rw [h4]; exact frz_ty _) h
theorem bus3 {f:Nat} (h:H):callN K3 (f+1) (g t21) [] h=.ret (.agg (tyC busT)) h :=
 call_sum (by rw [List.nil_append,List.append_nil,sums3_2 _ _ _ rfl,sums2_1 _ _ _ rfl]; exact bus_sum h)
theorem made3 {f:Nat} {L:Sl Int} (hL:L.l.length<9223372036854775808) (nm:Bs):∃ cs gs,2≤cs.length∧cs.length≤6∧(∀ c∈cs,CodeOK c)∧GOK cs.length gs∧∀ h,callN K3 (f+1) (g t20) [slV inC L,.str nm] h=.ret (.agg (tyC (tyOf nm cs gs))) h:=by
 obtain ⟨v,h1,hc,cs,gs,k1,k2,k3,k4,k5⟩:=made22 L hL nm
 refine ⟨cs,gs,k1,k2,k3,k4,fun h=>call_sum ?_⟩
 rw [List.nil_append,List.append_nil,← k5]
 exact over_fz (X:=K2) rfl hc (by simp only [frzs,frz,frz_slV frz_in,Bool.and_self]) (by rw [k5]; exact frz_ty _) h
theorem ty_len (nm:Bs) {cs:List (Nat×Nat×Nat)} (gs:List GateD):(tyOf nm cs gs).pads.l.length=cs.length:=len_padsOf 0 cs
end Go.Abs.Sym
end
section
namespace Go.Abs.Sym
open Go.Abs.T
open Go.Proofs
def mkM:List Pth:=[t0,t2,t3,t4,t5,t6,t7]
def mkN:List Pth:=t8::t9::mkM
def PortsOk (k most:Nat) (ports:Sl Bs):Prop:=k=0∧most=6∧ports=⟨0,[]⟩∨0<k∧most=9∧ports=⟨0,[inB,edgeB]⟩
def vccB:Bs:=[86,67,67]
theorem sh_a {fr:Tr AV} {m k:Nat} {t:Tr AB} {o:Out} (hX:execA K3 (callN K3 49) (.seq c7_s0 (.seq c7_s1 c7_s2)) ⟨fr,[],⟨up .e m,t,.lf⟩,.no,none,t7⟩=o) (g7:fr.get t7=some (.int .i64 (.ofNat k))) (hk:k<3) :
  ∃ fr' m' t' pv ports most,o=.nrm ⟨fr',[],⟨up .e m',t',.lf⟩,.no,none,t7⟩∧m+1<m'∧KeepF mkM fr fr'∧fr'.get t8=some (.ptr (up .e (m+1)) 0)∧fr'.get t9=some (.int .i64 (.ofNat most)) ∧
   t'.get (up .e (m+1))=some (.cells [.str (sheetN.getD k []),pv,.nils,.nils,.nils,.nils] false)∧(∀ i,i<m→t'.get (up .e i)=t.get (up .e i))∧pv.one=true∧PortsOk k most ports ∧
   ∀ Mu:List Nat,(∀ i∈Mu,i<m+2)→Fz 1 t' m' Mu pv (slV bsC ports):=by
 have ik:∀ b,indexAddrA (.slc 1) (.slc b 0 3 1 (some 3)) (.int .i64 (.ofNat k))=some (.ptr b k):=by
  rcases (show k=0∨k=1∨k=2 by omega) with rfl | rfl | rfl<;>intro b<;>rfl
 have tk:takeD [.str [109,97,105,110],.str [99,101,108,108],.str [108,101,97,102]] k 1=some [.str (sheetN.getD k [])]:=by
  rcases (show k=0∨k=1∨k=2 by omega) with rfl | rfl | rfl<;>rfl
 rw [← hX]
 cases hc:ltI (.ofNat 0) (.ofNat k) with
 | false =>
  have h0:k=0:=by
   rw [ltI_dec,decide_eq_false_iff_not] at hc
   omega
  simp +decide only [SC,c7_s0,c7_s1,c7_s2,up_inj,Nat.reduceAdd,Nat.reduceMul,Bool.and_self,Nat.add_assoc,g7,ik,tk,hc,Nat.add_eq_left]
  refine ⟨_,_,_,.nils,⟨0,[]⟩,6,rfl,by omega,?_,?_,?_,by rw [gp,if_pos rfl],fun i hi => ?_,rfl,.inl ⟨h0,rfl,rfl⟩,fun Mu _=>(Fz.of (k:=0) rfl rfl).le (by omega)⟩
  ·simp +decide only [mkM,keep_c,keep_n,gp,if_false,and_self]
  ·simp +decide only [gp,if_false,if_true]
  ·simp +decide only [gp,if_false,if_true]
  ·have h1:(i=m+1)=False:=eq_false (by omega)
   have h2:(i=m)=False:=eq_false (by omega)
   simp only [gp,up_inj,h1,h2,if_false]
 | true =>
  have h0:0<k:=by
   rw [ltI_dec,decide_eq_true_eq] at hc
   omega
  simp +decide only [SC,c7_s0,c7_s1,c7_s2,up_inj,Nat.reduceAdd,Nat.reduceMul,Nat.reduceEqDiff,Bool.and_self,Nat.add_assoc,Nat.reduceEqDiff,g7,ik,tk,hc,Nat.add_eq_left,Nat.left_eq_add]
  refine ⟨_,_,_,_,⟨0,[inB,edgeB]⟩,9,rfl,by omega,?_,?_,?_,by rw [gp,if_pos rfl],fun i hi => ?_,rfl,.inr ⟨h0,rfl,rfl⟩,fun Mu hM => ?_⟩
  ·simp +decide only [mkM,keep_c,keep_n,gp,if_false,and_self]
  ·simp +decide only [gp,if_false,if_true]
  ·simp +decide only [gp,if_false,if_true]
  ·have h1:(i=m+1)=False:=eq_false (by omega)
   have h2:(i=m)=False:=eq_false (by omega)
   have h3:(i=m+2)=False:=eq_false (by omega)
   simp only [gp,up_inj,h1,h2,h3,if_false]
  ·refine Fz.slc (k:=0) (l:=[.str inB,.str edgeB]) (al:=[.str inB,.str edgeB]) (cs:=[.str inB,.str edgeB]) (sp:=false) ?_ (by omega) (fun h=>by have:=hM _ h; omega) rfl (FzL.of rfl rfl)
   rw [gp,if_neg (fun e=>by rw [up_inj] at e; omega),gp,if_pos rfl]
   rfl
theorem sh_b {Ls:Sl (Sl Int)} (_hLs:∀ L∈Ls.l,L.l.length<9223372036854775808) {L:Sl Int} (hL:L.l.length<9223372036854775808) {fr:Tr AV} {m k sb d3:Nat} {t:Tr AB} {nm pv:AV} {o:Out} (hX:execA K3 (callN K3 49) (.seq c7_s3 c7_s4) ⟨fr,[],⟨up .e m,t,.lf⟩,.no,none,t7⟩=o)
  (g0:fr.get t0=some (slV liC Ls)) (g3:fr.get t3=some (.ptr (up .e d3) 0)) (g7:fr.get t7=some (.int .i64 (.ofNat k))) (g8:fr.get t8=some (.ptr (up .e sb) 0)) (hk:k<3) (ad:DrawAt t (up .e d3) L) (as':t.get (up .e sb)=some (.cells [nm,pv,.nils,.nils,.nils,.nils] false)) (hsd:sb≠d3) (hsm:sb<m) (hdm:d3<m) :
  ∃ fr' m' t' wv power db,o=.nrm ⟨fr',[],⟨up .e m',t',.lf⟩,.no,none,t7⟩∧m≤db∧db<m'∧KeepF mkN fr fr'∧fr'.get t10=some (.ptr (up .e db) 0)∧DrawAt t' (up .e db) (partL Ls (3+k))∧DrawAt t' (up .e d3) L ∧
   t'.get (up .e sb)=some (.cells [nm,pv,wv,.nils,.nils,.nils] false)∧(∀ i,i<m→i≠d3→i≠sb→t'.get (up .e i)=t.get (up .e i))∧wv.one=true∧(power=⟨0,[]⟩∨power=⟨0,[vccB]⟩) ∧
   ∀ Mu:List Nat,(∀ i∈Mu,i<m∨i=db)→Fz 1 t' m' Mu wv (slV bsC power):=by
 have hw:=wr_add 3 k (by omega)
 have sd:(sb=d3)=False:=eq_false hsd
 have ds:(d3=sb)=False:=eq_false hsd.symm
 rw [← hX]
 simp +decide only [SC,c7_s3,Bool.and_self,g3]
 generalize hR:callN K3 49 (g t22) _ _=R
 obtain ⟨x,p,j1,rfl,hx,hj1,hp⟩:=next3 (f:=47) (n:=2) (by decide) (by decide) hL hR ad
 have hpt:∀ h,callN K3 49 (.fn t19 [] []) [slV liC Ls,.int .i64 (.ofNat (3+k))] h=.ret (slV inC (partL Ls (3+k))) h:=fun h=>part3 Ls (3+k) h
 cases hc:eqI (.ofNat x) (.ofNat 1) with
 | false =>
  simp +decide only [SC,c7_s4,Nat.reduceAdd,Bool.and_self,g0,g7,hc,hw,hpt]
  refine ⟨_,_,_,.nils,⟨0,[]⟩,j1,rfl,by omega,by omega,?_,?_,⟨0,Nat.zero_le _,by rw [gp,if_pos rfl]⟩,⟨p,hp,?_⟩,?_,fun i hi h1 h2 => ?_,rfl,.inl rfl,fun Mu _=>(Fz.of (k:=0) rfl rfl).le (by omega)⟩
  ·simp +decide only [mkN,mkM,keep_c,keep_n,gp,if_false,and_self]
  ·simp +decide only [gp,if_false,if_true]
  ·rw [gp,if_neg (fun e=>by rw [up_inj] at e; omega),gp,if_pos rfl]
  ·rw [gp,if_neg (fun e=>by rw [up_inj] at e; omega),gp,if_neg (fun e=>by rw [up_inj] at e; omega)]
   exact as'
  ·rw [gp,if_neg (fun e=>by rw [up_inj] at e; omega),gp,if_neg (fun e=>by rw [up_inj] at e; omega)]
 | true =>
  have sj:(sb=j1)=False:=eq_false (by omega)
  simp +decide only [SC,c7_s4,up_inj,Nat.reduceAdd,Bool.and_self,Nat.add_assoc,g0,g7,g8,hc,as',sd,sj,hw,hpt]
  refine ⟨_,_,_,.slc (up .e j1) 0 1 1 (some 1),⟨0,[vccB]⟩,j1+1,rfl,by omega,by omega,?_,?_,⟨0,Nat.zero_le _,by rw [gp,if_pos rfl]⟩,⟨p,hp,?_⟩,?_,fun i hi h1 h2 => ?_,rfl,.inr rfl,fun Mu hM => ?_⟩
  ·simp +decide only [mkN,mkM,keep_c,keep_n,gp,if_false,and_self]
  ·simp +decide only [gp,if_false,if_true]
  ·have h1:(d3=j1)=False:=eq_false (by omega)
   have h2:(d3=j1+1)=False:=eq_false (by omega)
   simp only [gp,up_inj,h1,h2,ds,if_false,if_true]
  ·rw [gp,if_neg (fun e=>by rw [up_inj] at e; omega),gp,if_pos rfl]
  ·have h3:(i=j1)=False:=eq_false (by omega)
   have h4:(i=j1+1)=False:=eq_false (by omega)
   simp only [gp,up_inj,h1,h2,h3,h4,if_false]
  ·refine Fz.slc (k:=0) (l:=[.str vccB]) (al:=[.str vccB]) (cs:=[.str vccB]) (sp:=false) ?_ (by omega) (fun h=>by have:=hM _ h; omega) rfl (FzL.of rfl rfl)
   have h1:(j1=j1+1)=False:=eq_false (by omega)
   have h2:(j1=sb)=False:=eq_false (by omega)
   simp only [gp,up_inj,h1,h2,if_false,if_true]
   rfl
end Go.Abs.Sym
end
end
