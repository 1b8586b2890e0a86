/- Made: a sheet as a whole. -/
import Derived.Test.YtipcmdllhllolaaGreatDoorK27
noncomputable section
section
namespace Go.Abs.T
def c7_sr:ACode:=(.seq c7_s5 (.seq c7_s6 (.seq c7_s7 (.seq c7_s8 c7_s9))))
def c7_sb:ACode:=(.seq c7_s0 (.seq c7_s1 (.seq c7_s2 (.seq c7_s3 (.seq c7_s4 c7_sr)))))
theorem c7_l2_q:c7_l2=(.seq c7_sc (.seq (.block 1 c7_sb) c7_si)):=rfl
end Go.Abs.T
namespace Go.Abs.Sym
open Go.Abs.T
open Go.Proofs
theorem seq3 {X:Ctx} {f:AV→List AV→H→CRes} {a b c r:ACode} {s s':St} (h:execA X f (.seq a (.seq b c)) s=.nrm s'):execA X f (.seq a (.seq b (.seq c r))) s=execA X f r s':=by
 simp only [execA] at h ⊢
 cases ha:execA X f a s<;>simp only [ha] at h ⊢ <;> try cases h
 rename_i s1
 cases hb:execA X f b s1<;>simp only [hb] at h ⊢ <;> try cases h
 rename_i s2
 rw [h]
theorem seq2 {X:Ctx} {f:AV→List AV→H→CRes} {a b r:ACode} {s s':St} (h:execA X f (.seq a b) s=.nrm s'):execA X f (.seq a (.seq b r)) s=execA X f r s':=by
 simp only [execA] at h ⊢
 cases ha:execA X f a s<;>simp only [ha] at h ⊢ <;> try cases h
 rename_i s1
 rw [h]
theorem sh_9 {fr:Tr AV} {m sb d4 nb:Nat} {t:Tr AB} {Mu:List Nat} {dn dv ty vv nm pv wv sv jv uv:AV} {sh:SheetD} {rows:List (List AV)} {o:Out}
  (hX:execA K3 (callN K3 49) c7_s9 ⟨fr,[],⟨up .e m,t,.lf⟩,.no,none,t7⟩=o) (g4:fr.get t4=some (.ptr (up .e d4) 0)) (g8:fr.get t8=some (.ptr (up .e sb) 0))
  (a4:t.get (up .e d4)=some (.cells [dn,dv,ty,vv] false)) (as':t.get (up .e sb)=some (.cells [nm,pv,wv,sv,jv,uv] false)) (os:nm.one=true∧pv.one=true∧wv.one=true∧sv.one=true∧jv.one=true∧uv.one=true)
  (hG:GrowF 3 t m Mu 6 nb dv rows) (hz:FzL 3 t m Mu [nm,pv,wv,sv,jv,uv] (sheetC sh)) (h4:d4∈Mu) (h4m:d4<m) (hsm:sb<m) (hm1:1≤m) (hnb:0<rows.length→nb≠d4∧nb<m) (hlen:rows.length<1000) (_hM:∀ i∈Mu,i<m) :
  ∃ fr' m' t',o=.nrm ⟨fr',[],⟨up .e m',t',.lf⟩,.no,none,t7⟩∧m<m'∧KeepF mkM fr fr'∧∃ nb' dv',m≤nb'∧nb'<m'∧t'.get (up .e d4)=some (.cells [dn,dv',ty,vv] false) ∧
   (∀ i,i<m→i≠d4→(0<rows.length→i≠nb)→t'.get (up .e i)=t.get (up .e i))∧GrowF 3 t' m' (nb'::Mu) 6 nb' dv' (rows++[sheetC sh]):=by
 have hxs:∀ k,(sb=m+k)=False:=fun k=>eq_false (by omega)
 have hss:∀ k,(d4=m+k)=False:=fun k=>eq_false (by omega)
 obtain ⟨o1,o2,o3,o4,o5,o6⟩:=os
 rw [← hX]
 simp +decide only [SC,c7_s9,Nat.reduceAdd,Bool.and_self,g4,g8,a4,as']
 generalize hA:appendA _ 6 136 _ _=A
 have hag:∀ x:AB,Agr t (t.put (up .e m) x) m Mu:=fun x=>(Agr.refl t m Mu).put (.inr (by omega)) x
 have hG':=fun x=>hG.step (m':=m+1) (Mu':=Mu) (by omega) (hag x) (fun _ hb=>by rw [gp,if_neg (fun e=>by rw [up_inj] at e; omega)]) (fun i hi=>.inl hi) id
 have hz':=fun x=>hz.step (m':=m+1) (Mu':=Mu) (by omega) (hag x) (fun i hi=>.inl hi)
 have hQ:=(hG' (.cells [nm,pv,wv,sv,jv,uv] false)).append (row:=[nm,pv,wv,sv,jv,uv]) (ra:=sheetC sh) hA (sp:=false) (by rw [gp,if_pos rfl]) (hz' _) rfl (by decide) (by omega) (by omega)
 obtain ⟨t2,hA2,b1,b2⟩:=hQ
 subst hA2
 have q:t2.get (up .e d4)=some (.cells [dn,dv,ty,vv] false):=by
  rw [b1 d4 (by omega) (fun h e=>(hnb h).1 e.symm),gp,if_neg (fun e=>by rw [up_inj] at e; omega)]
  exact a4
 simp +decide only [SC,Nat.reduceAdd,Bool.and_self,Nat.add_assoc,g4,q]
 refine ⟨_,_,_,rfl,by omega,by simp +decide only [mkM,keep_c,keep_n,gp,if_false,and_self],m+1,_,by omega,by omega,by rw [gp,if_pos rfl],fun i hi h1 h2 => ?_,b2.step (Nat.le_refl _) ((Agr.refl _ _ _).put (.inl (List.mem_cons_of_mem _ h4)) _) (fun _ _ => ?_) (fun i hi=>.inl hi) id⟩
 ·rw [gp,if_neg (fun e=>h1 (by rw [up_inj] at e; exact e)),b1 i (by omega) h2,gp,if_neg (fun e=>by rw [up_inj] at e; omega)]
 ·rw [gp,if_neg (fun e=>by rw [up_inj] at e; omega)]
def ShOk (va:Bool) (Ts:List TypD) (k cnt:Nat) (s:SheetD):Prop:=s.nm=sheetN.getD k []∧(s.power=⟨0,[]⟩∨s.power=⟨0,[vccB]⟩) ∧
 (∃ most zs,PortsOk k most s.ports∧ZsOk va most Ts zs∧1≤zs.length∧zs.length≤3∧s.syms=⟨0,zs.map (·.1)⟩∧s.joins=⟨0,zs.flatMap (·.2.2)⟩) ∧
 s.subs.kind=0∧SubsOk k s.subs.l∧(cnt≤k+1→s.subs.l=[])∧(k+1<cnt→1≤s.subs.l.length∧s.subs.l.length≤2)
set_option maxHeartbeats 1000000 in
theorem sh_body {Ls:Sl (Sl Int)} (hLs:∀ L∈Ls.l,L.l.length<9223372036854775808) {L:Sl Int} (hL:L.l.length<9223372036854775808) {T0 T1 T2:TypD} (hT0:T0.pads.l.length≤100) (hT1:T1.pads.l.length≤100) (hT2:T2.pads.l.length≤100) {va:Bool} {cnt:Nat} (hcnt:cnt≤3)
  {fr:Tr AV} {m k d3 d4 yb nb:Nat} {t:Tr AB} {Mu:List Nat} {dn dv vv:AV} {rows:List (List AV)}
  (g0:fr.get t0=some (slV liC Ls)) (g3:fr.get t3=some (.ptr (up .e d3) 0)) (g4:fr.get t4=some (.ptr (up .e d4) 0)) (g5:fr.get t5=some (.bool va)) (g6:fr.get t6=some (.int .i64 (.ofNat cnt))) (g7:fr.get t7=some (.int .i64 (.ofNat k))) (hk:k<cnt)
  (ad:DrawAt t (up .e d3) L) (a4:t.get (up .e d4)=some (.cells [dn,dv,.slc (up .e yb) 0 3 3 (some 3),vv] false)) (ay:t.get (up .e yb)=some (.cells (tyC T0++tyC T1++tyC T2) false))
  (hG:GrowF 3 t m Mu 6 nb dv rows) (h3:d3∈Mu) (h4:d4∈Mu) (h34:d3≠d4) (hy3:yb≠d3) (_hy4:yb≠d4) (hym:yb<m) (_hm1:1≤m) (hnb:0<rows.length→nb≠d3∧nb≠d4∧nb<m) (hlen:rows.length<1000) (hM:∀ i∈Mu,i<m) :
  ∃ fr' m' t' nb' dv' sh,execA K3 (callN K3 49) c7_sb ⟨fr,[],⟨up .e m,t,.lf⟩,.no,none,t7⟩=.nrm ⟨fr',[],⟨up .e m',t',.lf⟩,.no,none,t7⟩∧m≤nb'∧nb'<m'∧KeepF mkM fr fr'∧DrawAt t' (up .e d3) L ∧
   t'.get (up .e d4)=some (.cells [dn,dv',.slc (up .e yb) 0 3 3 (some 3),vv] false)∧GrowF 3 t' m' (nb'::Mu) 6 nb' dv' (rows++[sheetC sh]) ∧
   (∀ i,i<m→i≠d3→i≠d4→(0<rows.length→i≠nb)→t'.get (up .e i)=t.get (up .e i))∧ShOk va [T0,T1,T2] k cnt sh:=by
 have h3m:=hM _ h3
 have h4m:=hM _ h4
 obtain ⟨fr1,m1,u1,pv,ports,most,e1,hm1',k1,x8,x9,as1,f1,opv,hpo,zp⟩:=sh_a (t:=t) (m:=m) rfl g7 (by omega)
 have y0:=(k1 t0 (by simp [mkM])).trans g0
 have y3:=(k1 t3 (by simp [mkM])).trans g3
 have y7:=(k1 t7 (by simp [mkM])).trans g7
 have ad1:DrawAt u1 (up .e d3) L:=by
  obtain ⟨p,hp,hg⟩:=ad
  exact ⟨p,hp,(f1 _ h3m).trans hg⟩
 obtain ⟨fr2,m2,u2,wv,power,db,e2,hdb1,hdb2,k2,z10,adb,ad2,as2,f2,owv,hpw,zw⟩:=sh_b (t:=u1) (m:=m1) hLs hL rfl y0 y3 y7 x8 (by omega) ad1 as1 (by omega) (by omega) (by omega)
 rw [show c7_sb=(.seq c7_s0 (.seq c7_s1 (.seq c7_s2 (.seq c7_s3 (.seq c7_s4 c7_sr))))) from rfl,seq3 e1,seq2 e2]
 have hLk:=partL_len hLs (3+k)
 generalize partL Ls (3+k)=Lk at adb hLk
 have w4:fr2.get t4=some (.ptr (up .e d4) 0):=(k2 t4 (by simp [mkN,mkM])).trans ((k1 t4 (by simp [mkM])).trans g4)
 have w5:fr2.get t5=some (.bool va):=(k2 t5 (by simp [mkN,mkM])).trans ((k1 t5 (by simp [mkM])).trans g5)
 have w6:fr2.get t6=some (.int .i64 (.ofNat cnt)):=(k2 t6 (by simp [mkN,mkM])).trans ((k1 t6 (by simp [mkM])).trans g6)
 have w7:fr2.get t7=some (.int .i64 (.ofNat k)):=(k2 t7 (by simp [mkN,mkM])).trans y7
 have w8:fr2.get t8=some (.ptr (up .e (m+1)) 0):=(k2 t8 (by simp [mkN,mkM])).trans x8
 have w9:fr2.get t9=some (.int .i64 (.ofNat most)):=(k2 t9 (by simp [mkN,mkM])).trans x9
 have hMh:∀ i∈(m+1)::db::Mu,i<m2:=fun i hi=>by
  simp only [List.mem_cons] at hi
  rcases hi with rfl | rfl | hi
  ·omega
  ·omega
  ·have:=hM i hi; omega
 have hA2:ShA u2 m2 (m+1) db Lk ((m+1)::db::Mu) (.str (sheetN.getD k [])) pv wv .nils .nils .nils 0 0 [] [] :=
  ⟨as2,adb,GrowF.nil,GrowF.nil,by simp,by simp,hMh,fun h=>absurd h (by simp),fun h=>absurd h (by simp),fun h=>absurd h (by simp),by omega,by omega,rfl,opv,owv,rfl⟩
 have zp2:Fz 1 u2 m2 ((m+1)::db::Mu) pv (slV bsC ports):=by
  refine (zp ((m+1)::d3::Mu) (fun i hi => ?_)).step (by omega) (fun i hi hn=>f2 i hi (fun e=>hn (by simp [e])) (fun e=>hn (by simp [e]))) (fun i hi => ?_)
  ·simp only [List.mem_cons] at hi
   rcases hi with rfl | rfl | hi
   ·omega
   ·omega
   ·have:=hM i hi; omega
  ·simp only [List.mem_cons] at hi
   rcases hi with rfl | rfl | hi
   ·exact .inl (by simp)
   ·exact .inr (by omega)
   ·exact .inl (by simp [hi])
 have zw2:Fz 1 u2 m2 ((m+1)::db::Mu) wv (slV bsC power):=zw _ (fun i hi=>by
  simp only [List.mem_cons] at hi
  rcases hi with rfl | rfl | hi
  ·exact .inl (by omega)
  ·exact .inr rfl
  ·exact .inl (by have:=hM i hi; omega))
 have f02:∀ i,i<m→i≠d3→u2.get (up .e i)=t.get (up .e i):=fun i hi h=>(f2 i (by omega) h (by omega)).trans (f1 i hi)
 simp +decide only [SC,c7_sr,c7_s5,z10]
 generalize hR:callN K3 49 (g t22) _ _=R
 obtain ⟨x,p,j1,rfl,hx,hj1,hp⟩:=next3 (f:=47) (n:=3) (by decide) (by decide) hLk hR adb
 have hw:=wr_add 1 x (by omega)
 simp +decide only [SC,hw]
 have hA3:=hA2.step (m':=j1) (t':=u2.put (up .e db) (.cells [slV inC Lk,.int .i64 (.ofNat p)] false)) hj1 (fun i _ hd=>by rw [gp,if_neg (fun e=>hd (by rw [up_inj] at e; exact e))]) ⟨p,hp,by rw [gp,if_pos rfl]⟩
 generalize hu3:u2.put (up .e db) (.cells [slV inC Lk,.int .i64 (.ofNat p)] false)=u3 at hA3
 have f3:∀ i,i≠db→u3.get (up .e i)=u2.get (up .e i):=fun i hd=>by
  rw [← hu3,gp,if_neg (fun e=>hd (by rw [up_inj] at e; exact e))]
 simp +decide only [c7_s6,execA,opsA,wantedA,evalAll,evalA,oneA,st_mov,St.put,nbeq,kf3]
 generalize hit:iterA (execA K3 (callN K3 49) c7_l0) 100000 _=o6
 have c4:u3.get (up .e d4)=some (.cells [dn,dv,.slc (up .e yb) 0 3 3 (some 3),vv] false):=by
  rw [f3 _ (by omega),f02 _ h4m h34.symm]
  exact a4
 have cy:u3.get (up .e yb)=some (.cells (tyC T0++tyC T1++tyC T2) false):=by
  rw [f3 _ (by omega),f02 _ hym hy3]
  exact ay
 have hmo:most≤9:=by
  rcases hpo with ⟨_,rfl,_⟩ | ⟨_,rfl,_⟩<;>omega
 generalize hfr3:((((fr2.put t62 (.ptr (up .e db) 0)).put t63 (.int .i64 (.ofNat x))).put t64 (.int .i64 (.ofNat (1+x)))).put t11 (.int .i64 (.ofNat (1+x))))=fr3 at hit
 have k3:KeepF mkN fr2 fr3:=by
  rw [← hfr3]
  simp +decide only [mkN,mkM,keep_c,keep_n,gp,if_false,and_self]
 have r10:fr3.get t10=some (.ptr (up .e db) 0):=by
  rw [← hfr3]
  simp +decide only [gp,z10,if_false]
 have r11:fr3.get t11=some (.int .i64 (.ofNat (1+x))):=by
  rw [← hfr3]
  simp +decide only [gp,if_true,reduceIte]
 generalize hE:SyE.mk T0 T1 T2 Lk va most (1+x) (m+1) db d4 yb dn dv vv (.str (sheetN.getD k [])) pv wv .nils j1 u3 fr3 ((m+1)::db::Mu)=E
 have ok:SyOK E:=by
  subst hE
  exact ⟨hLk,hT0,hT1,hT2,hmo,by simp only; omega,by simp only; omega,by simp only; omega,by simp only; omega,by simp only; omega,by simp only; omega,by simp only; omega,by simp only; omega,by simp only; omega,
   (k3 t4 (by simp [mkN,mkM])).trans w4,(k3 t5 (by simp [mkN,mkM])).trans w5,(k3 t8 (by simp [mkN,mkM])).trans w8,(k3 t9 (by simp [mkN,mkM])).trans w9,r10,r11,c4,cy⟩
 have hI:∃ s,o6=.exit 2 s∧SyI E 0 s:=by
  rw [← hit]
  refine iter_rule (SyI E) (fun o=>∃ s,o=.exit 2 s∧SyI E 0 s) (sy_round E ok) 100000 (1+x) _ ?_ (by omega)
  subst hE
  refine ⟨_,j1,u3,.nils,.nils,0,0,[],(m+1)::db::Mu,rfl,by simp,Nat.le_refl _,?_,?_,hA3,fun _ _ _ _=>rfl,fun h=>absurd h (by simp),fun h=>absurd h (by simp),fun _ h=>h,fun _ h=>.inl h,fun k z h=>by cases h⟩
  ·simp +decide only [mkR,keep_c,keep_n,gp,if_false,and_self]
  ·simp +decide only [gp,if_true,List.length_nil]
 obtain ⟨s,ho6,fr4,m4,u4,sv,jv,nbS,nbJ,zs,Mu4,rfl,hzl,hm4,k4,-,hA4,f4,hbS,hbJ,hv1,hv2,hzs⟩:=hI
 subst ho6
 subst hE
 simp only at hzl hm4 k4 hA4 f4 hbS hbJ hv1 hv2 hzs
 clear hit
 have r8:fr4.get t8=some (.ptr (up .e (m+1)) 0):=(k4 t8 (by simp [mkR])).trans ((k3 t8 (by simp [mkN,mkM])).trans w8)
 have s10:fr4.get t10=some (.ptr (up .e db) 0):=(k4 t10 (by simp [mkR])).trans r10
 simp +decide only [SC,c7_s7,s10]
 generalize hR2:callN K3 49 (g t22) _ _=R2
 obtain ⟨y,p2,j2,rfl,hy,hj2,hp2⟩:=next3 (f:=47) (n:=2) (by decide) (by decide) hLk hR2 hA4.dr
 have hw2:=wr_add 1 y (by omega)
 simp +decide only [SC,hw2]
 have hA5:=hA4.step (m':=j2) (t':=u4.put (up .e db) (.cells [slV inC Lk,.int .i64 (.ofNat p2)] false)) hj2 (fun i _ hd=>by rw [gp,if_neg (fun e=>hd (by rw [up_inj] at e; exact e))]) ⟨p2,hp2,by rw [gp,if_pos rfl]⟩
 generalize hu5:u4.put (up .e db) (.cells [slV inC Lk,.int .i64 (.ofNat p2)] false)=u5 at hA5
 have f5:∀ i,i≠db→u5.get (up .e i)=u4.get (up .e i):=fun i hd=>by
  rw [← hu5,gp,if_neg (fun e=>hd (by rw [up_inj] at e; exact e))]
 simp +decide only [c7_s8,execA,opsA,wantedA,evalAll,evalA,oneA,st_mov,St.put,nbeq,kf3]
 generalize hit2:iterA (execA K3 (callN K3 49) c7_l1) 100000 _=o8
 generalize hfr5:((((fr4.put t84 (.ptr (up .e db) 0)).put t85 (.int .i64 (.ofNat y))).put t86 (.int .i64 (.ofNat (1+y)))).put t11 (.int .i64 (.ofNat (1+y))))=fr5 at hit2
 have k5':KeepF mkN fr4 fr5:=by
  rw [← hfr5]
  simp +decide only [mkN,mkM,keep_c,keep_n,gp,if_false,and_self]
 have q10:fr5.get t10=some (.ptr (up .e db) 0):=by
  rw [← hfr5]
  simp +decide only [gp,s10,if_false]
 have q11:fr5.get t11=some (.int .i64 (.ofNat (1+y))):=by
  rw [← hfr5]
  simp +decide only [gp,if_true,reduceIte]
 have k4n:KeepF mkN fr3 fr4:=k4.sub (fun q hq=>by simp [mkN,mkM,mkR] at hq ⊢; rcases hq with rfl | rfl | rfl | rfl | rfl | rfl | rfl | rfl | rfl<;>simp)
 have kN:KeepF mkN fr2 fr5:=k3.trans (k4n.trans k5')
 generalize hE2:SuE.mk Lk (1+y) k cnt (m+1) db (.str (sheetN.getD k [])) pv wv sv jv nbS nbJ (zs.map fun z=>symC z.1) ((zs.flatMap (·.2.2)).map joinC) j2 u5 fr5 Mu4=E2
 have ok2:SuOK E2:=by
  subst hE2
  exact ⟨hLk,by simp only; omega,by simp only; omega,hcnt,by simp only; omega,by simp only; omega,fun h0=>(hA5.nS h0).2.2,fun h0=>(hA5.nJ h0).2.2,(kN t6 (by simp [mkN,mkM])).trans w6,(kN t7 (by simp [mkN,mkM])).trans w7,(kN t8 (by simp [mkN,mkM])).trans w8,q10,q11⟩
 have hI2:SuQ E2 o8:=by
  rw [← hit2]
  refine iter_rule (SuI E2) (SuQ E2) (su_round E2 ok2) 100000 (1+y) _ ?_ (by omega)
  subst hE2
  refine ⟨_,j2,u5,.nils,0,[],Mu4,rfl,by simp,Nat.le_refl _,?_,?_,hA5,GrowF.nil,fun h=>absurd h (by simp),fun _ _ _ _=>rfl,fun _ h=>h,fun _ h=>.inl h,(fun k z h=>by cases h),fun h=>absurd h (by simp)⟩
  ·simp +decide only [mkR,keep_c,keep_n,gp,if_false,and_self]
  ·simp +decide only [gp,if_true,List.length_nil]
 obtain ⟨s,r,ho8,⟨fr6,m6,u6,uv,nbU,us,Mu6,rfl,hul,hm6,k6,-,hA6,gU6,hbU,f6,hv3,hv4,hso,hcn⟩,hr0⟩:=hI2
 subst ho8
 subst hE2
 simp only at hul hm6 k6 hA6 gU6 hbU f6 hv3 hv4 hso hcn hr0
 clear hit2
 simp +decide only [cond_true,decide_true]
 generalize hX9:execA K3 (callN K3 49) c7_s9 _=o9
 have k6n:KeepF mkN fr5 fr6:=k6.sub (fun q hq=>by simp [mkN,mkM,mkR] at hq ⊢; rcases hq with rfl | rfl | rfl | rfl | rfl | rfl | rfl | rfl | rfl<;>simp)
 have kN6:=kN.trans k6n
 have f26:∀ i,i<m2→i≠m+1→i≠db→u6.get (up .e i)=u2.get (up .e i):=fun i hi h1 h2=>by
  rw [f6 i (by omega) h1 h2,f5 i h2,f4 i (by omega) h1 h2,f3 i h2]
 have f06:∀ i,i<m→i≠d3→u6.get (up .e i)=t.get (up .e i):=fun i hi h=>(f26 i (by omega) (by omega) (by omega)).trans (f02 i hi h)
 have hMin:∀ i∈Mu,i∈Mu6:=fun i hi=>hv3 i (hv1 i (by simp [hi]))
 have hnS:0<zs.length→nbS∉Mu:=fun h0 hx=>by
  have:=hbS h0
  have:=hM _ hx
  omega
 have hnJ:0<(zs.flatMap (·.2.2)).length→nbJ∉Mu:=fun h0 hx=>by
  have:=hbJ h0
  have:=hM _ hx
  omega
 have hnU:0<us.length→nbU∉Mu:=fun h0 hx=>by
  have:=(hbU h0).1
  have:=hM _ hx
  omega
 have hag6:Agr u2 u6 m2 ((m+1)::db::Mu):=fun i hi hn=>f26 i hi (fun e=>hn (by simp [e])) (fun e=>hn (by simp [e]))
 have zp6:=zp2.step (Mu':=Mu) (show m2≤m6 by omega) hag6 (fun i hi=>.inl (by simp [hi]))
 have zw6:=zw2.step (Mu':=Mu) (show m2≤m6 by omega) hag6 (fun i hi=>.inl (by simp [hi]))
 have gS6:=hA6.gS
 rw [show (zs.map fun z=>symC z.1)=(zs.map (·.1)).map symC by rw [List.map_map]; rfl] at gS6
 have zs6:=gS6.fz (Mu':=Mu) hMin (fun h0=>hnS (by simpa using h0))
 have zj6:=hA6.gJ.fz (Mu':=Mu) hMin hnJ
 have zu6:=gU6.fz (Mu':=Mu) hMin hnU
 have hG6:=hG.step (m':=m6) (t':=u6) (Mu':=Mu) (by omega) (fun i hi hn=>f06 i hi (fun e=>hn (e▸h3))) (fun h0 hb=>f06 _ hb (hnb h0).1) (fun i hi=>.inl hi) id
 have hQ:=sh_9 (sh:=⟨sheetN.getD k [],ports,power,⟨0,zs.map (·.1)⟩,⟨0,zs.flatMap (·.2.2)⟩,⟨0,us⟩⟩) hX9 ((kN6 t4 (by simp [mkN,mkM])).trans w4) ((kN6 t8 (by simp [mkN,mkM])).trans w8) ((f06 _ h4m h34.symm).trans a4) hA6.blk
  ⟨rfl,opv,owv,hA6.gS.one,hA6.gJ.one,gU6.one⟩ hG6 ⟨(Fz.of (k:=0) rfl rfl).le (by omega),zp6.le (by omega),zw6.le (by omega),zs6,zj6.le (by omega),zu6,trivial⟩ h4 (by omega) (by omega) (by omega) (fun h0=>⟨(hnb h0).2.1,by have:=(hnb h0).2.2; omega⟩) hlen (fun i hi=>by have:=hM i hi; omega)
 obtain ⟨fr9,m9,u9,ho9,hm9,k9,nb9,dv9,hn9,hn9',a9,f9,g9⟩:=hQ
 subst ho9
 have hnb3:0<rows.length→d3≠nb:=fun h0 e=>(hnb h0).1 e.symm
 refine ⟨fr9,m9,u9,nb9,dv9,_,rfl,by omega,hn9',?_,?_,a9,g9,fun i hi h1 h2 h5=>(f9 i (by omega) h2 h5).trans (f06 i hi h1),rfl,hpw,⟨most,zs,hpo,hzs,by omega,by omega,rfl,rfl⟩,rfl,hso,fun h => ?_,fun h => ?_⟩
 ·exact k1.trans ((((k2.trans kN6).sub (fun q hq=>by simp [mkN,hq]))).trans k9)
 ·obtain ⟨pos,hp',hg⟩:=ad2
  exact ⟨pos,hp',(f9 _ (by omega) h34 hnb3).trans ((f26 _ (by omega) (by omega) (by omega)).trans hg)⟩
 ·rcases us with _ | ⟨a,us⟩
  ·rfl
  ·have:=hcn (by simp)
   omega
 ·simp only
  omega
end Go.Abs.Sym
end
section
namespace Go.Abs.T
open AV
def c7_rest:ACode:=(.seq (.reg [⟨s34,.mov,[v3],none⟩,⟨s35,.call,[.const (g t22),v34,.const i3],none⟩,⟨s36,.bin .add .one,[.const i1,v35],none⟩,⟨s6,.mov,[v36],none⟩]) (.seq (.seq (.reg [⟨s7,.mov,[.const i0],none⟩]) (.block 0 (.loop c7_l2))) (.seq (.reg [⟨s146,.load (some 4),[v4],none⟩,⟨none,.store 4,[v2,v146],none⟩]) .ret)))
theorem c7_eq2:c7=⟨147,[.cell t2 (some 4)],(.seq (.reg [⟨s2,.alloc [e0,nils,nils,nils],[],none⟩]) (.seq (.reg [⟨s15,.mov,[v0],none⟩,⟨s16,.call,[.const (g t19),v15,.const i2],none⟩,⟨s17,.build [nils,i0] [(0,1)],[v16],none⟩,⟨s18,.box,[v17],none⟩,⟨s3,.mov,[v18],none⟩]) (.seq (.reg [⟨s19,.mov,[v0],none⟩,⟨s20,.call,[.const (g t19),v19,.const i0],none⟩,⟨s21,.call,[.const (g t20),v20,.const (str [82])],none⟩,⟨s22,.mov,[v0],none⟩,⟨s23,.call,[.const (g t19),v22,.const i1],none⟩,⟨s24,.call,[.const (g t20),v23,.const (str [81])],none⟩,⟨s25,.call,[.const (g t21)],none⟩,⟨s26,.buildSl 3 3 [e0,nils,nils,e0,nils,nils,e0,nils,nils] [0,1,2],[v21,v24,v25],none⟩,⟨s27,.build [e0,nils,nils,nils] [(0,1),(2,1)],[.const (str [109,97,105,110]),v26],none⟩,⟨s4,.alloc [e0,nils,nils,nils],[],none⟩,⟨none,.store 4,[v4,v27],none⟩]) (.seq (.reg [⟨s28,.mov,[v3],none⟩,⟨s29,.call,[.const (g t22),v28,.const i2],none⟩,⟨s30,.bin .eql .one,[v29,.const i1],none⟩,⟨s5,.mov,[v30],none⟩]) (.seq (.seq (.reg [⟨s31,.mov,[v5],none⟩]) (.cond (v31) (.reg [⟨s32,.buildSl 1 1 [e0] [0],[.const (str [108,105,116,101])],none⟩,⟨s33,.fieldAddr 3,[v4],none⟩,⟨none,.store 1,[v33,v32],none⟩]) .skip)) c7_rest)))))⟩:=rfl
end Go.Abs.T
namespace Go.Abs.Sym
open Go.Abs.T
open Go.Proofs
structure DsE where
 Ls:Sl (Sl Int)
 L:Sl Int
 T0:TypD
 T1:TypD
 T2:TypD
 va:Bool
 cnt:Nat
 d3:Nat
 d4:Nat
 yb:Nat
 dn:AV
 vv:AV
 m0:Nat
 t0:Tr AB
 fr0:Tr AV
 Mu0:List Nat
def mkD:List Pth:=[t0,t2,t3,t4,t5,t6]
def ShsOk (va:Bool) (Ts:List TypD) (cnt:Nat) (l:List SheetD):Prop:=∀ k s,l[k]?=some s→ShOk va Ts k cnt s
theorem ShsOk.snoc {va:Bool} {Ts:List TypD} {cnt:Nat} {l:List SheetD} (h:ShsOk va Ts cnt l) {s:SheetD} (hs:ShOk va Ts l.length cnt s):ShsOk va Ts cnt (l++[s]):=fun j y hy=>by
 rcases Nat.lt_trichotomy j l.length with hk | hk | hk
 ·rw [List.getElem?_append_left hk] at hy
  exact h j y hy
 ·subst hk
  rw [List.getElem?_append_right (Nat.le_refl _),Nat.sub_self] at hy
  cases hy
  exact hs
 ·rw [List.getElem?_eq_none (by rw [List.length_append,List.length_singleton]; omega)] at hy
  cases hy
def DsI (E:DsE) (r:Nat) (s:St):Prop:=∃ fr m t nb dv l Mu,s=⟨fr,[],⟨up .e m,t,.lf⟩,.no,none,t7⟩∧l.length+r=E.cnt∧E.m0≤m∧KeepF mkD E.fr0 fr∧fr.get t7=some (.int .i64 (.ofNat l.length))∧DrawAt t (up .e E.d3) E.L ∧
 t.get (up .e E.d4)=some (.cells [E.dn,dv,.slc (up .e E.yb) 0 3 3 (some 3),E.vv] false)∧GrowF 3 t m Mu 6 nb dv (l.map sheetC)∧E.d3∈Mu∧E.d4∈Mu∧(∀ i∈Mu,i<m)∧(∀ i∈E.Mu0,i∈Mu)∧(∀ i∈Mu,i∈E.Mu0∨E.m0≤i) ∧
 (0<l.length→E.m0≤nb∧nb<m)∧(∀ i,i<E.m0→i≠E.d3→i≠E.d4→t.get (up .e i)=E.t0.get (up .e i))∧ShsOk E.va [E.T0,E.T1,E.T2] E.cnt l
structure DsOK (E:DsE):Prop where
 hLs:∀ L∈E.Ls.l,L.l.length<9223372036854775808
 hL:E.L.l.length<9223372036854775808
 h0:E.T0.pads.l.length≤100
 h1:E.T1.pads.l.length≤100
 h2:E.T2.pads.l.length≤100
 hc:E.cnt≤3
 l3:E.d3<E.m0
 l4:E.d4<E.m0
 ly:E.yb<E.m0
 h34:E.d3≠E.d4
 y3:E.yb≠E.d3
 y4:E.yb≠E.d4
 g0:E.fr0.get t0=some (slV liC E.Ls)
 g3:E.fr0.get t3=some (.ptr (up .e E.d3) 0)
 g4:E.fr0.get t4=some (.ptr (up .e E.d4) 0)
 g5:E.fr0.get t5=some (.bool E.va)
 g6:E.fr0.get t6=some (.int .i64 (.ofNat E.cnt))
 cy:E.t0.get (up .e E.yb)=some (.cells (tyC E.T0++tyC E.T1++tyC E.T2) false)
theorem ds_round (E:DsE) (ok:DsOK E) (r:Nat) (s:St) (h:DsI E r s):Stp (DsI E) (fun o=>∃ s,o=.exit 0 s∧DsI E 0 s) r (execA K3 (callN K3 49) c7_l2 s):=by
 obtain ⟨fr,m,t,nb,dv,l,Mu,rfl,hk,hm,kf,g7,ad,a4,hG,h3,h4,hM,hM1,hM2,hnb,hfr,hso⟩:=h
 have g0:=(kf t0 (by simp [mkD])).trans ok.g0
 have g3:=(kf t3 (by simp [mkD])).trans ok.g3
 have g4:=(kf t4 (by simp [mkD])).trans ok.g4
 have g5:=(kf t5 (by simp [mkD])).trans ok.g5
 have g6:=(kf t6 (by simp [mkD])).trans ok.g6
 have hc:=ok.hc
 have l3:=ok.l3
 have l4:=ok.l4
 have ly:=ok.ly
 have hw1:=wr_add l.length 1 (by omega)
 rw [c7_l2_q]
 cases r with
 | zero =>
  have hkn:(l.length<E.cnt)=False:=eq_false (by omega)
  simp +decide only [SC,c7_sc,g6,g7,ltI_dec,hkn,stp_e]
  refine ⟨_,rfl,_,m,t,nb,dv,l,Mu,rfl,hk,hm,kf.trans ?_,?_,ad,a4,hG,h3,h4,hM,hM1,hM2,hnb,hfr,hso⟩
  ·simp +decide only [mkD,keep_c,keep_n,gp,if_false,and_self]
  ·simp +decide only [gp,g7,if_false]
 | succ r =>
  have hkn:(l.length<E.cnt)=True:=eq_true (by omega)
  simp +decide only [SC,c7_sc,g6,g7,ltI_dec,hkn]
  generalize hfr1:(((fr.put t37 (.int .i64 (.ofNat l.length))).put t38 (.int .i64 (.ofNat E.cnt))).put t39 (.bool true))=fr1
  have k1:KeepF mkM fr fr1:=by
   rw [← hfr1]
   simp +decide only [mkM,keep_c,keep_n,gp,if_false,and_self]
  obtain ⟨fr2,m2,t2,nb2,dv2,sh,e2,hn1,hn2,k2,ad2,a42,hG2,f2,hs2⟩:=sh_body ok.hLs ok.hL ok.h0 ok.h1 ok.h2 hc ((k1 t0 (by simp [mkM])).trans g0) ((k1 t3 (by simp [mkM])).trans g3) ((k1 t4 (by simp [mkM])).trans g4) ((k1 t5 (by simp [mkM])).trans g5) ((k1 t6 (by simp [mkM])).trans g6) ((k1 t7 (by simp [mkM])).trans g7) (show l.length<E.cnt by omega)
   ad a4 ((hfr E.yb ly ok.y3 ok.y4).trans ok.cy) hG h3 h4 ok.h34 ok.y3 ok.y4 (by omega) (by omega) (fun h0=>by have:=hnb (by simpa using h0); omega) (by rw [List.length_map]; omega) hM
  have g72:fr2.get t7=some (.int .i64 (.ofNat l.length)):=(k2 t7 (by simp [mkM])).trans ((k1 t7 (by simp [mkM])).trans g7)
  simp +decide only [SC,e2,c7_si,g72,hw1,stp_n]
  have hrow:l.map sheetC++[sheetC sh]=(l++[sh]).map sheetC:=by rw [List.map_append]; rfl
  rw [hrow] at hG2
  refine ⟨r,by omega,_,m2,t2,nb2,dv2,l++[sh],nb2::Mu,rfl,by rw [List.length_append,List.length_singleton]; omega,by omega,(kf.trans ((k1.trans k2).sub (fun q hq=>by simp [mkD,mkM] at hq ⊢; rcases hq with rfl | rfl | rfl | rfl | rfl | rfl<;>simp))).trans ?_,?_,ad2,a42,hG2,List.mem_cons_of_mem _ h3,List.mem_cons_of_mem _ h4,fun i hi => ?_,fun i hi=>List.mem_cons_of_mem _ (hM1 i hi),fun i hi => ?_,fun _=>⟨by omega,hn2⟩,fun i hi h1 h2 => ?_,hso.snoc hs2⟩
  ·simp +decide only [mkD,keep_c,keep_n,gp,if_false,and_self]
  ·rw [List.length_append,List.length_singleton]
   simp +decide only [gp,if_true,reduceIte]
  ·rcases List.mem_cons.1 hi with rfl | hi
   ·exact hn2
   ·have:=hM i hi; omega
  ·rcases List.mem_cons.1 hi with rfl | hi
   ·exact .inr (by omega)
   ·exact hM2 i hi
  ·rw [f2 i (by omega) h1 h2 (fun h0=>by have:=hnb (by simpa using h0); omega)]
   exact hfr i hi h1 h2
def mainB:Bs:=[109,97,105,110]
structure DesOk (d:DesD):Prop where
 top:d.top=mainB
 ok : ∃ (va:Bool) (cnt:Nat) (cs cs':List (Nat×Nat×Nat)) (gs gs':List GateD),1≤cnt∧cnt≤3∧(2≤cs.length∧cs.length≤6∧(∀ c∈cs,CodeOK c)∧GOK cs.length gs)∧(2≤cs'.length∧cs'.length≤6∧(∀ c∈cs',CodeOK c)∧GOK cs'.length gs') ∧
  d.types=⟨1,[tyOf [82] cs gs,tyOf [81] cs' gs',busT]⟩∧d.variants=(if va then ⟨0,[liteB]⟩ else ⟨0,[]⟩)∧d.sheets.kind=0∧d.sheets.l.length=cnt∧ShsOk va [tyOf [82] cs gs,tyOf [81] cs' gs',busT] cnt d.sheets.l
set_option maxHeartbeats 1000000 in
theorem made_rest14 {Ls:Sl (Sl Int)} (hLs:∀ L∈Ls.l,L.l.length<9223372036854775808) {L:Sl Int} (hL:L.l.length<9223372036854775808) {T0 T1 T2:TypD} (hT0:T0.pads.l.length≤100) (hT1:T1.pads.l.length≤100) (hT2:T2.pads.l.length≤100) {va:Bool} {vs:Sl Bs} {vv:AV} {fr:Tr AV} {m:Nat} {t:Tr AB} {o:Out}
  (hX:execA K3 (callN K3 49) c7_rest ⟨fr,[],⟨up .e m,t,.lf⟩,.no,none,t7⟩=o) (g0:fr.get t0=some (slV liC Ls)) (g2:fr.get t2=some (.ptr (up .e 0) 0)) (g3:fr.get t3=some (.ptr (up .e 1) 0)) (g4:fr.get t4=some (.ptr (up .e 3) 0)) (g5:fr.get t5=some (.bool va))
  (ad:DrawAt t (up .e 1) L) (a0:t.get (up .e 0)=some (.cells [e0,.nils,.nils,.nils] false)) (a2:t.get (up .e 2)=some (.cells (tyC T0++tyC T1++tyC T2) false)) (a3:t.get (up .e 3)=some (.cells [.str mainB,.nils,.slc (up .e 2) 0 3 3 (some 3),vv] false)) (hm:4≤m) (ov:vv.one=true) (zv:Fz 1 t m [0,1,3] vv (slV bsC vs)) :
  ∃ fr' h1 v cnt l,o=.ret ⟨fr',[],h1,.no,none,t7⟩∧resultA h1 fr' [.cell t2 (some 4)]=some v∧1≤cnt∧cnt≤3∧l.length=cnt∧ShsOk va [T0,T1,T2] cnt l∧deep 8 h1 v=.agg (desC ⟨mainB,⟨0,l⟩,⟨1,[T0,T1,T2]⟩,vs⟩):=by
 rw [← hX]
 simp +decide only [SC,c7_rest,resultA,resultsA,g3]
 generalize hR:callN K3 49 (g t22) _ _=R
 obtain ⟨x,p,j1,rfl,hx,hj1,hp⟩:=next3 (f:=47) (n:=3) (by decide) (by decide) hL hR ad
 have hw:=wr_add 1 x (by omega)
 simp +decide only [SC,hw,kf3]
 generalize hit:iterA (execA K3 (callN K3 49) c7_l2) 100000 _=o1
 generalize hfr1:((((fr.put t34 (.ptr (up .e 1) 0)).put t35 (.int .i64 (.ofNat x))).put t36 (.int .i64 (.ofNat (1+x)))).put t6 (.int .i64 (.ofNat (1+x))))=fr1 at hit
 generalize hu1:t.put (up .e 1) (.cells [slV inC L,.int .i64 (.ofNat p)] false)=u1 at hit
 have f1:∀ i,i≠1→u1.get (up .e i)=t.get (up .e i):=fun i hi=>by
  rw [← hu1,gp,if_neg (fun e=>hi (by rw [up_inj] at e; exact e))]
 have gg:fr1.get t0=fr.get t0∧fr1.get t2=fr.get t2∧fr1.get t3=fr.get t3∧fr1.get t4=fr.get t4∧fr1.get t5=fr.get t5:=by
  rw [← hfr1]
  simp +decide only [gp,if_false,and_self]
 have x6:fr1.get t6=some (.int .i64 (.ofNat (1+x))):=by
  rw [← hfr1]
  simp +decide only [gp,if_true,reduceIte]
 generalize hE:DsE.mk Ls L T0 T1 T2 va (1+x) 1 3 2 (.str mainB) vv j1 u1 fr1 [0,1,3]=E
 have ok:DsOK E:=by
  subst hE
  exact ⟨hLs,hL,hT0,hT1,hT2,by simp only; omega,by simp only; omega,by simp only; omega,by simp only; omega,by simp only; omega,by simp only; omega,by simp only; omega,gg.1.trans g0,gg.2.2.1.trans g3,gg.2.2.2.1.trans g4,gg.2.2.2.2.trans g5,x6,(f1 2 (by omega)).trans a2⟩
 have hI:∃ s,o1=.exit 0 s∧DsI E 0 s:=by
  rw [← hit]
  refine iter_rule (DsI E) (fun o=>∃ s,o=.exit 0 s∧DsI E 0 s) (ds_round E ok) 100000 (1+x) _ ?_ (by omega)
  subst hE
  refine ⟨_,j1,u1,0,.nils,[],[0,1,3],rfl,by simp,Nat.le_refl _,?_,?_,⟨p,hp,by rw [← hu1,gp,if_pos rfl]⟩,(f1 3 (by omega)).trans a3,GrowF.nil,by simp,by simp,fun i hi => ?_,fun _ h=>h,fun _ h=>.inl h,fun h=>absurd h (by simp),fun _ _ _ _=>rfl,(fun k z h=>by cases h)⟩
  ·simp +decide only [mkD,keep_c,keep_n,gp,if_false,and_self]
  ·simp +decide only [gp,if_true,List.length_nil]
  ·simp at hi
   omega
 obtain ⟨s,ho1,fr4,m4,w4,nb,dv,l,Mu,rfl,hk,hm4,kf,-,ad4,a4,hG,h3,h4,hM,hM1,hM2,hnb,hfr,hso⟩:=hI
 subst ho1
 subst hE
 simp only at hk hm4 kf ad4 a4 hG h3 h4 hM1 hM2 hnb hfr hso
 clear hit
 have y4:fr4.get t4=some (.ptr (up .e 3) 0):=(kf t4 (by simp [mkD])).trans (gg.2.2.2.1.trans g4)
 have y2:fr4.get t2=some (.ptr (up .e 0) 0):=(kf t2 (by simp [mkD])).trans (gg.2.1.trans g2)
 have b0:w4.get (up .e 0)=some (.cells [e0,.nils,.nils,.nils] false):=(hfr 0 (by omega) (by omega) (by omega)).trans ((f1 0 (by omega)).trans a0)
 have od:dv.one=true:=hG.one
 have hb:∀ i∈[0],i∈Mu:=fun i hi=>hM1 i (by simp at hi; subst hi; simp)
 have zd:=hG.fz (Mu':=[0]) hb (fun h0 hx=>by have:=hnb h0; simp at hx; omega)
 have zw:=zv.step (t':=w4) (m':=m4) (Mu':=[0]) (by omega) (fun i hi hn=>by
  simp only [List.mem_cons,List.not_mem_nil,or_false,not_or] at hn
  rw [hfr i (by omega) hn.2.1 hn.2.2,f1 i hn.2.1]) (fun i hi=>.inl (by simp at hi; simp [hi]))
 have b2:w4.get (up .e 2)=some (.cells (tyC T0++tyC T1++tyC T2) false):=(hfr 2 (by omega) (by omega) (by omega)).trans ((f1 2 (by omega)).trans a2)
 have fz3:Abs.frzs (tyC T0++tyC T1++tyC T2)=true:=by rw [frzs_append,frzs_append,frz_ty,frz_ty,frz_ty]; rfl
 have on3:Abs.ones (tyC T0++tyC T1++tyC T2)=true:=by
  simp only [tyC,List.cons_append,List.nil_append,Abs.ones,on_str,on_slV,Bool.and_self]
 have zt:Fz 1 w4 m4 [0] (.slc (up .e 2) 0 3 3 (some 3)) (.rslc 3 (tyC T0++tyC T1++tyC T2)):=Fz.slc (k:=0) b2 (by omega) (by simp) (takeD_all rfl) (FzL.of on3 fz3)
 simp +decide only [SC,Nat.reduceAdd,Bool.and_self,y4,y2,a4,b0,od,ov]
 refine ⟨_,_,.agg [.str mainB,dv,.slc (up .e 2) 0 3 3 (some 3),vv],1+x,l,rfl,?_,by omega,by omega,by omega,hso,?_⟩
 ·simp +decide only [SC,y2]
 ·have hag:∀ x:AB,Agr w4 (w4.put (up .e 0) x) m4 [0]:=fun x=>(Agr.refl _ _ _).put (.inl (by simp)) x
  rw [deep_agg]
  simp only [List.map_cons,List.map_nil]
  rw [zd.2.2 _ _ 7 (hag _) (by omega),zw.2.2 _ _ 7 (hag _) (by omega),zt.2.2 _ _ 7 (hag _) (by omega)]
  rw [desC,slV_ne tyC (s:=⟨1,[T0,T1,T2]⟩) (by simp) 1,slV_rslc]
  simp only [List.flatMap_cons,List.flatMap_nil,List.append_nil,List.append_assoc]
  rfl
set_option maxHeartbeats 1000000 in
theorem made14 (Ls:Sl (Sl Int)) (hLs:∀ L∈Ls.l,L.l.length<9223372036854775808):Ret (callN K3 50 (.fn t7 [] []) [slV liC Ls] h0) (fun v h1=>∃ d,DesOk d∧deep 8 h1 v=.agg (desC d)):=by
 rw [call_fn (F:=c7) rfl rfl,c7_eq2]
 generalize hres:[ARes.cell t2 (some 4)]=res
 have hfr:(frameOf .e ([]++[slV liC Ls]++[]) .lf).get t0=some (slV liC Ls):=rfl
 generalize frameOf .e ([]++[slV liC Ls]++[]) .lf=fr at hfr
 rw [show h0=⟨up .e 0,.lf,.lf⟩ from rfl]
 have hp2:∀ h,callN K3 49 (.fn t19 [] []) [slV liC Ls,.int .i64 (.ofNat 2)] h=.ret (slV inC (partL Ls 2)) h:=fun h=>part3 Ls 2 h
 have hp0:∀ h,callN K3 49 (.fn t19 [] []) [slV liC Ls,.int .i64 (.ofNat 0)] h=.ret (slV inC (partL Ls 0)) h:=fun h=>part3 Ls 0 h
 have hp1:∀ h,callN K3 49 (.fn t19 [] []) [slV liC Ls,.int .i64 (.ofNat 1)] h=.ret (slV inC (partL Ls 1)) h:=fun h=>part3 Ls 1 h
 obtain ⟨cs,gs,a1,a2,a3,a4,hR⟩:=made3 (f:=48) (partL_len hLs 0) [82]
 obtain ⟨cs',gs',b1,b2,b3,b4,hQ⟩:=made3 (f:=48) (partL_len hLs 1) [81]
 have hB:∀ h,callN K3 49 (.fn t21 [] []) [] h=.ret (.agg (tyC busT)) h:=fun h=>bus3 h
 have hL:=partL_len hLs 2
 generalize partL Ls 2=L at hp2 hL
 have hl0:(tyOf [82] cs gs).pads.l.length≤100:=by rw [ty_len]; omega
 have hl1:(tyOf [81] cs' gs').pads.l.length≤100:=by rw [ty_len]; omega
 generalize hT0:tyOf [82] cs gs=T0 at hR hl0
 generalize hT1:tyOf [81] cs' gs'=T1 at hQ hl1
 have hR':∀ h,callN K3 49 (.fn t20 [] []) [slV inC (partL Ls 0),.str [82]] h=.ret (.agg (tyC T0)) h:=hR
 have hQ':∀ h,callN K3 49 (.fn t20 [] []) [slV inC (partL Ls 1),.str [81]] h=.ret (.agg (tyC T1)) h:=hQ
 simp +decide only [SC,Nat.reduceAdd,Nat.reduceMul,Bool.and_self,hfr,tyC,hp2,hp0,hp1,hR',hQ',hB]
 generalize hN:callN K3 49 (g t22) _ _=N
 obtain ⟨x,p,j1,rfl,hx,hj1,hp⟩:=next3 (f:=47) (n:=2) (by decide) (by decide) hL hN ⟨0,Nat.zero_le _,by simp +decide only [gp,if_true,if_false]⟩
 have fin:∀ {va:Bool} {vs:Sl Bs} {o:Out},vs=(if va then ⟨0,[liteB]⟩ else ⟨0,[]⟩)→(∃ fr' h1 v cnt l,o=.ret ⟨fr',[],h1,.no,none,t7⟩∧resultA h1 fr' [.cell t2 (some 4)]=some v∧1≤cnt∧cnt≤3∧l.length=cnt∧ShsOk va [T0,T1,busT] cnt l∧deep 8 h1 v=.agg (desC ⟨mainB,⟨0,l⟩,⟨1,[T0,T1,busT]⟩,vs⟩)) →
   ∀ F:AFunc,F.results=[.cell t2 (some 4)]→Ret (leaveA (dcallN K3 49) F o) (fun v h1=>∃ d,DesOk d∧deep 8 h1 v=.agg (desC d)):=by
  intro va vs o hvs ⟨fr',h1,v,cnt,l,ho,hv,c1,c2,c3,c4,c5⟩ F hF
  subst ho
  exact ⟨v,h1,leave_r (by rw [hF]; exact hv),_,⟨rfl,va,cnt,cs,cs',gs,gs',c1,c2,⟨a1,a2,a3,a4⟩,⟨b1,b2,b3,b4⟩,by rw [hT0,hT1],hvs,rfl,c3,by rw [hT0,hT1]; exact c4⟩,c5⟩
 cases hc:eqI (.ofNat x) (.ofNat 1) with
 | false =>
  simp +decide only [SC,hc]
  generalize hX:execA K3 (callN K3 49) c7_rest _=o
  refine fin (va:=false) (vs:=⟨0,[]⟩) rfl (made_rest14 hLs hL hl0 hl1 (by decide) (vv:=.nils) hX ?_ ?_ ?_ ?_ ?_ ⟨p,hp,?_⟩ ?_ ?_ ?_ ?_ rfl ((Fz.of (k:=0) rfl rfl).le (by omega))) _ ?hF
  case hF=>exact hres.symm
  all_goals try simp +decide only [gp,hfr,if_true,if_false]
  ·rfl
  ·rfl
  ·omega
 | true =>
  have h3j:(3=j1)=False:=eq_false (by omega)
  have h0j:(0=j1)=False:=eq_false (by omega)
  have h1j:(1=j1)=False:=eq_false (by omega)
  have h2j:(2=j1)=False:=eq_false (by omega)
  simp +decide only [SC,up_inj,Bool.and_self,hc,h3j]
  generalize hX:execA K3 (callN K3 49) c7_rest _=o
  refine fin (va:=true) (vs:=⟨0,[liteB]⟩) rfl (made_rest14 hLs hL hl0 hl1 (by decide) (vv:=.slc (up .e j1) 0 1 1 (some 1)) hX ?_ ?_ ?_ ?_ ?_ ⟨p,hp,?_⟩ ?_ ?_ ?_ ?_ rfl ?_) _ ?hF
  case hF=>exact hres.symm
  all_goals try simp +decide only [gp,up_inj,hfr,h0j,h1j,h2j,h3j,if_true,if_false]
  ·rfl
  ·rfl
  ·omega
  ·refine Fz.slc (k:=0) (l:=[.str liteB]) (al:=[.str liteB]) (cs:=[.str liteB]) (sp:=false) ?_ (by omega) (fun h=>by simp at h; omega) rfl (FzL.of rfl rfl)
   have hj3:(j1=3)=False:=eq_false (by omega)
   simp +decide only [gp,up_inj,hj3,if_true,if_false]
   rfl
theorem made14_sum (Ls:Sl (Sl Int)) (hLs:∀ L∈Ls.l,L.l.length<9223372036854775808):∃ d,DesOk d∧∀ h,K4.sums t7 [slV liC Ls] h=some (.agg (desC d)):=by
 obtain ⟨v,h1,hc,d,hd,hv⟩:=made14 Ls hLs
 refine ⟨d,hd,fun h => ?_⟩
 rw [← hv]
 exact over_fz (X:=K3) rfl hc (by simp only [frzs,frz_slV frz_li,Bool.and_self]) (by rw [hv]; exact frz_des _) h
end Go.Abs.Sym
end
end
