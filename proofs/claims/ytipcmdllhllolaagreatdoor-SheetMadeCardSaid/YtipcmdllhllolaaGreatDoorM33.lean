/- The check of a design. -/
import Derived.Test.YtipcmdllhllolaaGreatDoorM32
import Derived.Test.YtipcmdllhllolaaGreatDoorM30
noncomputable section
section
namespace Go.Abs.Sym
open Go.Abs.T
open Go.Proofs
theorem on_shV (l:List SheetD):(shV l).one=true:=rfl
structure CkF (T0 T1:TypD) (E:CkE):Prop extends CkOK E where
 s10:E.Ss.l.length≤10
 t20:E.Ts.l.length≤20
 hof:∀ h,K4.sums t28 [.agg E.d4] h=some (.agg E.d)
 hty:∀ h,(KD T0 T1).sums t29 [.agg E.d] h=some (.tup [])
 hdp:∃ k:Nat,k<6∧∀ h,K4.sums t37 [.agg E.d] h=some (.int .i64 (.ofNat k))
 hB:∃ B,E.Ss.l.find? (fun a=>decide (E.top=a.nm))=some B
theorem ck_loop {T0 T1:TypD} (E:CkE) (ok:CkOK E) {fr:Tr AV} {m db ob:Nat} {t:Tr AB} {o:Out}
  (hit:iterA (execA (KD T0 T1) (callN (KD T0 T1) 47) c26_l0) 100000 ⟨fr,[],⟨up .e m,t,.lf⟩,.no,none,t26⟩=o) (ad:t.get (up .e db)=some (.cells E.d4 false)) (ao:t.get (up .e ob)=some (.cells E.d false)) (hdb:db<m) (hob:ob<m)
  (g0:fr.get t0=some (.ptr (up .e db) 0)) (g1:fr.get t1=some (.ptr (up .e ob) 0)) (g29:fr.get t29=some (slV sheetC E.Ss)) (g30:fr.get t30=some (.int .i64 (.ofNat E.Ss.l.length))) (g31:fr.get t31=some i0) :
  ∃ fr' m' t',o=.exit 0 ⟨fr',[],⟨up .e m',t',.lf⟩,.no,none,t26⟩∧m≤m'∧fr'.get t0=some (.ptr (up .e db) 0)∧fr'.get t1=some (.ptr (up .e ob) 0)∧∀ i,i<m→t'.get (up .e i)=t.get (up .e i):=by
 have ho:∃ s,o=.exit 0 s∧CkI E db ob m t 0 s:=by
  rw [← hit]
  exact iter_rule (CkI E db ob m t) (fun o=>∃ s,o=.exit 0 s∧CkI E db ob m t 0 s) (fun r s h=>ck_round E ok ad ao hdb hob r s h) 100000 E.Ss.l.length _ ⟨fr,m,t,0,rfl,Nat.zero_add _,Nat.le_refl _,g0,g1,g29,g30,g31,fun _ _=>rfl⟩ (by have:=ok.lt; omega)
 obtain ⟨s,rfl,fr',m',t',k,rfl,_,h1,h2,h3,_,_,_,h4⟩:=ho
 exact ⟨fr',m',t',rfl,h1,h2,h3,h4⟩
set_option maxHeartbeats 1000000 in
theorem check1 {T0 T1:TypD} (E:CkE) (ok:CkF T0 T1 E) {db m:Nat} {t:Tr AB} (ad:t.get (up .e db)=some (.cells E.d4 false)) (hdb:db<m) :
  Ret (callN (KD T0 T1) 48 (.fn t26 [] [.ptr (up .e db) 0]) [] ⟨up .e m,t,.lf⟩) (fun v h=>v=.tup []∧∃ m' t',h=⟨up .e m',t',.lf⟩∧m≤m'∧∀ i,i<m→t'.get (up .e i)=t.get (up .e i)):=by
 have hs:∀ xs h,(KD T0 T1).sums t26 xs h=none:=fun _ _=>rfl
 have hF:(KD T0 T1).funcs.get t26=some c26:=rfl
 have hfu:(KD T0 T1).fuel=100000:=rfl
 obtain ⟨k,hk6,hdp⟩:=ok.hdp
 obtain ⟨B,hB⟩:=ok.hB
 have hfl:∀ (e:Nat) h,callN (KD T0 T1) 47 (.fn t27 [] []) [.bool false,.int .i64 (.ofNat e)] h=.ret (.tup []) h:=fun e h=>failD (f:=46) e h
 have hof:∀ h,callN (KD T0 T1) 47 (.fn t28 [] []) [.agg E.d4] h=.ret (.agg E.d) h:=fun h=>sD (f:=46) rfl rfl rfl (ok.hof h)
 have hty:∀ h,callN (KD T0 T1) 47 (.fn t29 [] []) [.agg E.d] h=.ret (.tup []) h:=fun h=>call_sum (n:=46) (by rw [List.nil_append,List.append_nil]; exact ok.hty h)
 have hdp':∀ h,callN (KD T0 T1) 47 (.fn t37 [] []) [.agg E.d] h=.ret (.int .i64 (.ofNat k)) h:=fun h=>sD (f:=46) rfl rfl rfl (hdp h)
 have hk:eqI (.ofNat k) (.ofNat 6)=false:=by rw [eqI_dec]; exact decide_eq_false (fun e=>by have:=Int.ofNat.inj e; omega)
 have hle:∀ {a b:Nat},a≤b→ltI (.ofNat b) (.ofNat a)=false:=fun {a b} h=>by
  rw [ltI_dec]; exact decide_eq_false (by omega)
 have e1:=hle ok.t20
 have e2:ltI (.ofNat 4) (.ofNat (vaL E.va).l.length)=false:=by cases E.va<;>rfl
 have e3:=hle ok.s10
 have hlk:∀ (h:H) (z:AV),lookupA h ⟨[.s],false⟩ z true (shV E.Ss.l) (.str E.top)=some (.tup [.agg (sheetC B),.bool true]):=fun h z=>by
  have:=look_R (fun a:SheetD=>a.nm) (fun a=>.agg (sheetC a)) E.Ss.l h z true E.top
  rw [hB] at this
  exact this
 have nd:=nz0 hdb
 have ad':=ad
 rw [call_fn (F:=c26) (hs _ _) hF,c26]
 have gfr:(frameOf .e ([]++[]++[.ptr (up .e db) 0]) .lf).get t0=some (.ptr (up .e db) 0):=rfl
 generalize frameOf .e ([]++[]++[.ptr (up .e db) 0]) .lf=fr at gfr
 simp only [CkE.d4] at ad' hof
 have hof0:=hof
 simp only [CkE.d] at hof hty hdp'
 simp +decide only [SC,up_inj,Nat.reduceAdd,Bool.and_self,gfr,ad',nd,e1,e2,e3,hfl,hof,hty,len_slV,hfu,on_shV]
 generalize hit:iterA (execA (KD T0 T1) (callN (KD T0 T1) 47) c26_l0) _ _=o
 obtain ⟨fr',m',t',rfl,hm',g0,g1,hfr⟩:=ck_loop (db:=db) (ob:=m) E ok.toCkOK hit (by simp only [gp,up_inj,nd,if_false]; exact ad) (by rw [gp,if_pos rfl]; rfl) (by omega) (by omega) (by simp +decide only [gp,gfr,if_false]) (by simp +decide only [gp,if_true,if_false]) (by simp +decide only [gp,if_true,if_false]) (by simp +decide only [gp,if_true,if_false]) (by simp +decide only [gp,if_true,if_false])
 clear hit
 have bo:t'.get (up .e m)=some (.cells E.d false):=(hfr m (by omega)).trans (by rw [gp,if_pos rfl]; rfl)
 have bd:t'.get (up .e db)=some (.cells E.d4 false):=(hfr db (by omega)).trans (by simp only [gp,up_inj,nd,if_false]; exact ad)
 have bo':=bo
 have bd':=bd
 simp only [CkE.d] at bo'
 simp only [CkE.d4] at bd'
 have nm:=nz0 (show m<m' by omega)
 simp only [sheetC] at hlk
 simp +decide only [SC,up_inj,Nat.reduceAdd,leaveA,dfrsA,resultA,resultsA,g0,g1,bo',bd',nm,hlk,st_look',hdp',hk,hfl,List.getElem?_cons_zero,List.getElem?_cons_succ]
 refine ⟨trivial,_,_,rfl,by omega,fun i hi => ?_⟩
 have ni:=nz0 (show i<m' by omega)
 simp only [gp,up_inj,ni,if_false]
 have ni2:=nz0 hi
 rw [hfr i (by omega)]
 simp only [gp,up_inj,ni2,if_false]
end Go.Abs.Sym
end
section
namespace Go.Abs.Sym
open Go.Abs.T
open Go.Proofs
theorem st_defer (h:H) (i:Pth) (a b vs:List AV):stepA h .defer (.fn i a b::vs)=.defer (.fn i a b) vs:=rfl
theorem st_recover (h:H):stepA h .recover []=.recover:=rfl
theorem guard25 {T0 T1:TypD} (E:CkE) (ok:CkF T0 T1 E) {t:Tr AB} (ad:t.get (up .e 0)=some (.cells E.d4 false)) :
  Ret (callN (KD T0 T1) 49 (.fn t25 [] []) [.fn t26 [] [.ptr (up .e 0) 0]] ⟨up .e 1,t,.lf⟩) (fun v _=>v=i0):=by
 have hs:∀ xs h,(KD T0 T1).sums t25 xs h=none:=fun _ _=>rfl
 have hF:(KD T0 T1).funcs.get t25=some c25:=rfl
 have hF62:(KD T0 T1).funcs.get t62=some c62:=rfl
 rw [call_fn (F:=c25) (hs _ _) hF]
 have gfr:(frameOf .e ([]++[.fn t26 [] [.ptr (up .e 0) 0]]++[]) .lf).get t0=some (.fn t26 [] [.ptr (up .e 0) 0]):=rfl
 generalize frameOf .e ([]++[.fn t26 [] [.ptr (up .e 0) 0]]++[]) .lf=fr at gfr
 simp +decide only [SC,c25,Nat.reduceAdd,gfr,st_defer]
 have n1:(0=1)=False:=eq_false (by decide)
 obtain ⟨v,h',hc,rfl,m',t',rfl,hm,hfr⟩:=check1 E ok (db:=0) (m:=2) (t:=t.put (up .e 1) (.cells [i0] false)) (by simp only [gp,up_inj,n1,if_false]; exact ad) (by decide)
 have a1:t'.get (up .e 1)=some (.cells [i0] false):=(hfr 1 (by decide)).trans (by rw [gp,if_pos rfl])
 simp +decide only [SC,leaveA,dfrsA,resultA,resultsA,hc,a1,dcallN,hF62,c62,st_recover]
theorem frz_d4 (E:CkE):frzs E.d4=true:=by
 simp only [CkE.d4,frzs,frz,frz_slV frz_sheet,frz_slV frz_ty,frz_slV frz_bs,Bool.and_self]
theorem check_sum {T0 T1:TypD} (E:CkE) (ok:CkF T0 T1 E) (h:H):(over (KD T0 T1) [t8] []).sums t8 [.agg E.d4] h=some i0:=by
 have hs:∀ xs,(KD T0 T1).sums t8 xs h0=none:=fun _=>rfl
 have hF:(KD T0 T1).funcs.get t8=some c8:=rfl
 have hr:Ret (callN (KD T0 T1) 50 (.fn t8 [] []) [.agg E.d4] h0) (fun v _=>v=i0):=by
  refine begin1 (hs _) hF fun fr t ga => ?_
  simp +decide only [SC,c8,ga]
  obtain ⟨v,h',hc,rfl⟩:=guard25 (T0:=T0) (T1:=T1) E ok (t:=t.put (up .e 0) (.cells E.d4 false)) (by rw [gp,if_pos rfl])
  simp +decide only [st_mov,gp,if_true,if_false,ret_iff,leaveA,dfrsA,resultA,resultsA,hc]
 obtain ⟨v,h1,hc,rfl⟩:=hr
 exact over_fz' (X:=KD T0 T1) rfl hc (by simp only [frzs,frz,frz_d4,Bool.and_self]) rfl h
end Go.Abs.Sym
end
section
namespace Go.Abs.Sym
open Go.Abs.T
open Go.Proofs
def okM (s:Bs):Bool:=decide ((s,memF s)∈memT)&&decide (0<(memF s).length)&&decide ((memF s).length<1000)
theorem okM_1:∀ k,k<6→okM (nmOf k)=true∧memF (nmOf k)=[nmOf k]
 | 0,_=>⟨by decide,by decide⟩
 | 1,_=>⟨by decide,by decide⟩
 | 2,_=>⟨by decide,by decide⟩
 | 3,_=>⟨by decide,by decide⟩
 | 4,_=>⟨by decide,by decide⟩
 | 5,_=>⟨by decide,by decide⟩
 | k+6,h=>absurd h (by omega)
theorem okM_net:∀ k,k<9→okM (netN.getD k [])=true∧(memF (netN.getD k [])).length=1:=by decide
theorem okM_busN:∀ n∈busN,okM n=true∧(memF n).length=3:=by decide
theorem okM_busP:okM busP=true∧memF busP=[[68,91,48,93],[68,91,49,93],[68,91,50,93]]:=by decide
theorem okM_edge:∀ k,k<3→okM (edgeN.getD k [])=true∧(memF (edgeN.getD k [])).length=2:=by decide
theorem okM_E:okM edgeB=true∧(memF edgeB).length=2:=by decide
theorem okM_I:okM inB=true∧(memF inB).length=1:=by decide
theorem okM_mem {s:Bs} (h:okM s=true):(s,memF s)∈memT∧0<(memF s).length∧(memF s).length<1000:=by
 simp only [okM,Bool.and_eq_true,decide_eq_true_eq] at h
 exact ⟨h.1.1,h.1.2,h.2⟩
structure TyF (T:TypD):Prop where
 nice:Nice T
 le:T.pads.l.length≤6
 pn:∀ p∈T.pads.l,okM p.nm=true∧memF p.nm=[p.nm]
 nd:(T.pads.l.map (·.nm)).Nodup
theorem padsOf_at:∀ (k:Nat) (cs:List (Nat×Nat×Nat)) (p:PadD),p∈padsOf k cs→∃ i,i<cs.length∧∃ c∈cs,p=padOf (k+i) c.1 c.2.1 c.2.2
 | _,[],p,h=>by cases h
 | k, c::cs,p,h=>by
  rcases List.mem_cons.1 h with rfl | h
  ·exact ⟨0,by simp,c,by simp,rfl⟩
  ·obtain ⟨i,h1,c',h2,h3⟩:=padsOf_at (k+1) cs p h
   exact ⟨i+1,by simp; omega,c',by simp [h2],by rw [h3]; congr 1; omega⟩
theorem padsOf_nms:∀ (k:Nat) (cs:List (Nat×Nat×Nat)),(padsOf k cs).map (·.nm)=(List.range' k cs.length).map nmOf
 | _,[]=>rfl
 | k,c::cs=>by
  rw [List.length_cons,List.range'_succ,List.map_cons,← padsOf_nms (k+1) cs]
  rfl
theorem nmOf_nd:∀ m,m≤6→((List.range' 0 m).map nmOf).Nodup
 | 0,_=>by decide
 | 1,_=>by decide
 | 2,_=>by decide
 | 3,_=>by decide
 | 4,_=>by decide
 | 5,_=>by decide
 | 6,_=>by decide
 | m+7,h=>absurd h (by omega)
theorem shE_len (a b:Int) (s:Nat):(shE a b s).length<90000:=by
 unfold shE
 split<;>simp []
theorem gok_facts {m:Nat} {gs:List GateD} (h:GOK m gs):gs.length<90000∧∀ g∈gs,g.legs.l≠[]∧g.legs.l.length<90000:=by
 rcases h with rfl | ⟨_,x,_,rfl⟩ | ⟨_,x,_,rfl⟩ | ⟨_,x,k,_,_,rfl⟩
 ·simp
 all_goals
  refine ⟨by simp [gs1,gs2,gs3],fun g hg => ?_⟩
  simp only [gs1,gs2,gs3,List.mem_cons,List.not_mem_nil,or_false] at hg
 ·subst hg; simp [lg2]
 ·rcases hg with rfl | rfl<;>simp [lg2]
 ·rcases hg with rfl | rfl | rfl<;>simp [lg2]
theorem tyF_of {nm:Bs} {cs:List (Nat×Nat×Nat)} {gs:List GateD} (h2:2≤cs.length) (h6:cs.length≤6) (hg:GOK cs.length gs):TyF (tyOf nm cs gs) where
 nice := {
  pads:=by show (padsOf 0 cs).length<90000; rw [len_padsOf]; omega
  gates:=(gok_facts hg).1
  es := fun p hp=>by
   obtain ⟨i,_,c,_,rfl⟩:=padsOf_at 0 cs p hp
   exact shE_len _ _ _
  legs:=fun g h=>((gok_facts hg).2 g h).2
  ne := fun p hp=>by
   obtain ⟨i,_,c,_,rfl⟩:=padsOf_at 0 cs p hp
   exact shE_ne _ _ _
  le:=fun g h=>((gok_facts hg).2 g h).1
  p0 := fun e=>by
   have:(padsOf 0 cs).length=0:=by rw [show padsOf 0 cs=[] from e]; rfl
   rw [len_padsOf] at this
   omega
  g0:=fun _=>rfl }
 le:=by show (padsOf 0 cs).length≤6; rw [len_padsOf]; exact h6
 pn := fun p hp=>by
  obtain ⟨i,hi,c,_,rfl⟩:=padsOf_at 0 cs p hp
  rw [Nat.zero_add]
  exact okM_1 i (by omega)
 nd := by
  show ((padsOf 0 cs).map (·.nm)).Nodup
  rw [padsOf_nms]
  exact nmOf_nd _ h6
theorem tyF_bus:TyF busT where
 nice:={
  pads:=by decide
  gates:=by decide
  es:=by decide
  legs:=by decide
  ne:=by decide
  le:=by decide
  p0:=by decide
  g0:=by decide }
 le:=by decide
 pn:=by decide
 nd:=by decide
theorem bus_find:∀ p∈memF busP,∃ pd,findP busT p=some pd:=by
 intro p hp
 rw [okM_busP.2] at hp
 simp only [List.mem_cons,List.not_mem_nil,or_false] at hp
 rcases hp with rfl | rfl | rfl
 ·exact ⟨_,rfl⟩
 ·exact ⟨_,rfl⟩
 ·exact ⟨_,rfl⟩
theorem find_of {T:TypD} {nm:Bs} (h:nm∈T.pads.l.map (·.nm)):∃ pd,findP T nm=some pd:=by
 obtain ⟨p,hp,rfl⟩:=List.mem_map.1 h
 cases hf:findP T p.nm with
 | some x=>exact ⟨x,rfl⟩
 | none =>
  have:=List.find?_eq_none.1 hf p hp
  rw [eqS_dec] at this
  simp at this
end Go.Abs.Sym
end
section
namespace Go.Abs.Sym
open Go.Abs.T
open Go.Proofs
structure TsF (Ts:List TypD):Prop where
 f:∀ T∈Ts,TyF T
 bus:∀ T∈Ts,T.nm=busB→T=busT
 nd:(Ts.map (·.nm)).Nodup
theorem tsF_of {cs cs':List (Nat×Nat×Nat)} {gs gs':List GateD} (h2:2≤cs.length) (h6:cs.length≤6) (hg:GOK cs.length gs) (h2':2≤cs'.length) (h6':cs'.length≤6) (hg':GOK cs'.length gs'):TsF [tyOf [82] cs gs,tyOf [81] cs' gs',busT] where
 f := fun T hT=>by
  simp only [List.mem_cons,List.not_mem_nil,or_false] at hT
  rcases hT with rfl | rfl | rfl
  ·exact tyF_of h2 h6 hg
  ·exact tyF_of h2' h6' hg'
  ·exact tyF_bus
 bus:=fun T hT hn=>by
  simp only [List.mem_cons,List.not_mem_nil,or_false] at hT
  rcases hT with rfl | rfl | rfl
  ·exact absurd (show ([82]:Bs)=busB from hn) (by decide)
  ·exact absurd (show ([81]:Bs)=busB from hn) (by decide)
  ·rfl
 nd := by
  show [[82],[81],busB].Nodup
  decide
theorem z_len {va:Bool} {most:Nat} {Ts:List TypD} (hT:TsF Ts) {ref:Bs} {z:Zt} (hz:ZOk va most Ts ref z):z.2.2.length≤6:=by
 obtain ⟨_,hm,_,_,hj,_⟩:=hz
 rcases hj with ⟨_,n,_,e⟩ | ⟨hs,_⟩
 ·rw [e]; exact (by decide:1≤6)
 ·have:=hs.length_le
  rw [List.length_map,List.length_map] at this
  have:=(hT.f _ hm).le
  omega
theorem z_ref {va:Bool} {most:Nat} {Ts:List TypD} {ref:Bs} {z:Zt} (hz:ZOk va most Ts ref z):∀ j∈z.2.2,j.ref=ref:=by
 obtain ⟨_,hm,_,_,hj,_⟩:=hz
 rcases hj with ⟨_,n,_,e⟩ | ⟨_,hs⟩
 ·rw [e]; intro j hj; rw [List.mem_singleton.1 hj]
 ·exact fun j hj=>(hs j hj).1
theorem z_jn {va:Bool} {most:Nat} (hmost:most≤9) {Ts:List TypD} (hT:TsF Ts) {ref:Bs} {z:Zt} (hz:ZOk va most Ts ref z) {tm:List (Bs×TypD)} (htm:tm.find? (fun a=>decide (ref=a.1))=some (ref,z.2.1)):∀ j∈z.2.2,JnOk tm j:=by
 intro j hj
 have hr:=z_ref hz j hj
 obtain ⟨_,hm,_,_,hjo,_⟩:=hz
 rcases hjo with ⟨hb,n,hn,e⟩ | ⟨hs,hs'⟩
 ·rw [e] at hj
  have ej:=List.mem_singleton.1 hj
  subst ej
  obtain ⟨o1,o2⟩:=okM_busN n hn
  obtain ⟨p1,p2⟩:=okM_busP
  have q1:=okM_mem o1
  have q2:=okM_mem p1
  refine ⟨q1.1,q2.1,fun e => ?_,q2.2.2,?_,z.2.1,htm,(hT.f _ hm).nice,?_⟩
  ·have:=q2.2.1
   rw [show memF busP=[] from e] at this
   exact absurd this (by decide)
  ·rw [o2]
   show 3=(memF busP).length
   rw [p2]
   rfl
  ·rw [hT.bus _ hm hb]
   exact bus_find
 ·obtain ⟨_,k,hk,hnet⟩:=hs' j hj
  obtain ⟨o1,o2⟩:=okM_net k (by omega)
  have hpm:j.pad∈z.2.1.pads.l.map (·.nm):=hs.subset (List.mem_map.2 ⟨j,hj,rfl⟩)
  obtain ⟨pd,hpd,hpn⟩:=List.mem_map.1 hpm
  obtain ⟨p1,p2⟩:=(hT.f _ hm).pn pd hpd
  rw [hpn] at p1 p2
  rw [← hnet] at o1 o2
  have q1:=okM_mem o1
  have q2:=okM_mem p1
  refine ⟨q1.1,q2.1,fun e => ?_,q2.2.2,?_,z.2.1,by rw [hr]; exact htm,(hT.f _ hm).nice,?_⟩
  ·have:=q2.2.1
   rw [e] at this
   exact absurd this (by decide)
  ·rw [o2,p2]; rfl
  ·rw [p2]
   intro p hp
   rw [List.mem_singleton.1 hp]
   exact find_of hpm
theorem z_pins {va:Bool} {most:Nat} {Ts:List TypD} (hT:TsF Ts) {ref:Bs} {z:Zt} (hz:ZOk va most Ts ref z):(z.2.2.flatMap pinsJ).Nodup∧∀ p∈z.2.2.flatMap pinsJ,p.1=ref:=by
 have hr:=z_ref hz
 refine ⟨?_,fun p hp => ?_⟩
 ·obtain ⟨_,hm,_,_,hjo,_⟩:=hz
  rcases hjo with ⟨hb,n,hn,e⟩ | ⟨hs,_⟩
  ·rw [e]
   simp only [List.flatMap_cons,List.flatMap_nil,List.append_nil,pinsJ,okM_busP.2,List.map_cons,List.map_nil]
   simp
  ·have e:z.2.2.flatMap pinsJ=z.2.2.map fun j=>(ref,j.pad):=by
    rw [List.flatMap_def]
    have:z.2.2.map pinsJ=z.2.2.map fun j=>[(ref,j.pad)]:=List.map_congr_left fun j hj=>by
     have hpm:j.pad∈z.2.1.pads.l.map (·.nm):=hs.subset (List.mem_map.2 ⟨j,hj,rfl⟩)
     obtain ⟨pd,hpd,hpn⟩:=List.mem_map.1 hpm
     have p2:=((hT.f _ hm).pn pd hpd).2
     rw [hpn] at p2
     simp only [pinsJ,p2,hr j hj,List.map_cons,List.map_nil]
    rw [this,← List.flatMap_def]
    induction z.2.2 with
    | nil=>rfl
    | cons a l ih=>simp only [List.flatMap_cons,List.map_cons,ih]; rfl
   rw [e]
   have h1:(z.2.2.map (·.pad)).Nodup:=(hT.f _ hm).nd.sublist hs
   have h2:z.2.2.map (fun j=>(ref,j.pad))=(z.2.2.map (·.pad)).map fun p=>(ref,p):=by rw [List.map_map]; rfl
   rw [h2]
   exact (List.pairwise_map.2 (h1.imp fun {a b} hab e=>hab (Prod.ext_iff.1 e).2))
 ·obtain ⟨j,hj,hp⟩:=List.mem_flatMap.1 hp
  obtain ⟨q,_,rfl⟩:=List.mem_map.1 hp
  exact hr j hj
def tmZ (zs:List Zt):List (Bs×TypD):=zs.map fun z=>(z.1.ref,z.2.1)
theorem refN_nd (i j:Nat) (hi:i<3) (hj:j<3):i≠j→refN.getD i []≠refN.getD j []:=(by decide:∀ i<3,∀ j<3,i≠j→refN.getD i []≠refN.getD j []) i hi j hj
theorem zs_refs {va:Bool} {most:Nat} {Ts:List TypD} {zs:List Zt} (hz:ZsOk va most Ts zs) (h3:zs.length≤3):zs.Pairwise fun a b=>a.1.ref≠b.1.ref:=by
 rw [List.pairwise_iff_getElem]
 intro i j hi hj hij
 have h1:=(hz i _ (List.getElem?_eq_getElem hi)).1
 have h2:=(hz j _ (List.getElem?_eq_getElem hj)).1
 rw [h1,h2]
 exact refN_nd i j (by omega) (by omega) (by omega)
theorem tm_find {zs:List Zt} (hp:zs.Pairwise fun a b=>a.1.ref≠b.1.ref) {z:Zt} (hz:z∈zs):(tmZ zs).find? (fun a=>decide (z.1.ref=a.1))=some (z.1.ref,z.2.1):=by
 induction zs with
 | nil=>cases hz
 | cons a l ih =>
  obtain ⟨h1,h2⟩:=List.pairwise_cons.1 hp
  rcases List.mem_cons.1 hz with rfl | hz
  ·simp [tmZ]
  ·have:z.1.ref≠a.1.ref:=fun e=>h1 z hz e.symm
   have:=ih h2 hz
   simp only [tmZ,List.map_cons,List.find?_cons] at this ⊢
   rw [decide_eq_false ‹z.1.ref≠a.1.ref›]
   exact this
theorem zs_joins {va:Bool} {most:Nat} (hmost:most≤9) {Ts:List TypD} (hT:TsF Ts) {zs:List Zt} (hz:ZsOk va most Ts zs) (h3:zs.length≤3) :
  (zs.flatMap (·.2.2)).length≤18∧(∀ j∈zs.flatMap (·.2.2),JnOk (tmZ zs) j)∧((zs.flatMap (·.2.2)).flatMap pinsJ).Nodup:=by
 have hp:=zs_refs hz h3
 have hz':∀ z∈zs,ZOk va most Ts z.1.ref z:=fun z hm=>by
  obtain ⟨k,hk⟩:=List.mem_iff_getElem?.1 hm
  have:=hz k z hk
  rw [← this.1] at this
  exact this
 refine ⟨?_,fun j hj => ?_,?_⟩
 ·have : ∀ (l:List Zt),(∀ z∈l,z.2.2.length≤6)→(l.flatMap (·.2.2)).length≤6*l.length:=by
   intro l
   induction l with
   | nil=>intro _; simp
   | cons a l ih =>
    intro h
    have h1:=h a List.mem_cons_self
    have h2:=ih fun z hz=>h z (List.mem_cons_of_mem _ hz)
    rw [List.flatMap_cons,List.length_append,List.length_cons]
    omega
  have:=this zs fun z hm=>z_len hT (hz' z hm)
  omega
 ·obtain ⟨z,hm,hj⟩:=List.mem_flatMap.1 hj
  exact z_jn hmost hT (hz' z hm) (tm_find hp hm) j hj
 ·clear hz h3
  induction zs with
  | nil=>exact List.nodup_nil
  | cons a l ih =>
   obtain ⟨h1,h2⟩:=List.pairwise_cons.1 hp
   have ih:=ih h2 fun z hm=>hz' z (List.mem_cons_of_mem _ hm)
   rw [List.flatMap_cons,List.flatMap_append]
   obtain ⟨p1,p2⟩:=z_pins hT (hz' a List.mem_cons_self)
   refine List.nodup_append.2 ⟨p1,ih,fun x hx y hy e => ?_⟩
   subst e
   obtain ⟨j,hj,hy⟩:=List.mem_flatMap.1 hy
   obtain ⟨z,hm,hj⟩:=List.mem_flatMap.1 hj
   have e1:=p2 x hx
   have e2:=(z_pins hT (hz' z (List.mem_cons_of_mem _ hm))).2 x (List.mem_flatMap.2 ⟨j,hj,hy⟩)
   exact h1 z hm (e1.symm.trans e2)
end Go.Abs.Sym
end
section
namespace Go.Abs.Sym
open Go.Abs.T
open Go.Proofs
theorem has_I (h:H):K1.sums t67 [slV bsC ⟨0,[inB,edgeB]⟩,.str inB] h=some (.bool true):=row1 rfl rfl rfl (by kernel_rfl) h
theorem has_E (h:H):K1.sums t67 [slV bsC ⟨0,[inB,edgeB]⟩,.str edgeB] h=some (.bool true):=row1 rfl rfl rfl (by kernel_rfl) h
theorem biI {k:Nat} (hk:k<6):BiOk ⟨0,[inB,edgeB]⟩ ⟨inB,netN.getD k []⟩:=by
 obtain ⟨o1,o2⟩:=okM_net k (by omega)
 obtain ⟨p1,p2⟩:=okM_I
 have q1:=okM_mem o1
 have q2:=okM_mem p1
 exact ⟨has_I,q1.1,q2.1,o2.trans p2.symm,q2.2.1⟩
theorem biE {k:Nat} (hk:k<3):BiOk ⟨0,[inB,edgeB]⟩ ⟨edgeB,edgeN.getD k []⟩:=by
 obtain ⟨o1,o2⟩:=okM_edge k (by omega)
 obtain ⟨p1,p2⟩:=okM_E
 have q1:=okM_mem o1
 have q2:=okM_mem p1
 exact ⟨has_E,q1.1,q2.1,o2.trans p2.symm,q2.2.1⟩
theorem binds_ok {bs:List BindD} (h:BindsOk bs):bs.length≤2∧∀ (k:Nat) b,bs[k]?=some b→BiOk ⟨0,[inB,edgeB]⟩ b∧(bs.take k).any (fun c=>eqS c.port b.port)=false:=by
 obtain ⟨x,y,rfl,hx,hy⟩:=h
 have n1:eqS inB edgeB=false:=by decide
 rcases hx with rfl | ⟨i,hi,rfl⟩<;>rcases hy with rfl | ⟨j,hj,rfl⟩
 ·simp
 ·refine ⟨by simp,fun k b hb => ?_⟩
  match k with
  | 0=>cases hb; exact ⟨biE hj,rfl⟩
  | k+1=>cases hb
 ·refine ⟨by simp,fun k b hb => ?_⟩
  match k with
  | 0=>cases hb; exact ⟨biI hi,rfl⟩
  | k+1=>cases hb
 ·refine ⟨by simp,fun k b hb => ?_⟩
  match k with
  | 0=>cases hb; exact ⟨biI hi,rfl⟩
  | 1=>cases hb; exact ⟨biE hj,by simp [n1]⟩
  | k+2=>cases hb
theorem sheet_ne (i j:Nat) (hi:i<3) (hj:j<3):i≠j→sheetN.getD i []≠sheetN.getD j []:=(by decide:∀ i<3,∀ j<3,i≠j→sheetN.getD i []≠sheetN.getD j []) i hi j hj
section
variable {va:Bool} {Ts:List TypD} {cnt:Nat} {l:List SheetD} (hs:ShsOk va Ts cnt l) (hc:cnt≤3) (hl:l.length=cnt)
include hs hc hl
theorem shs_pw:l.Pairwise fun a b=>a.nm≠b.nm:=by
 rw [List.pairwise_iff_getElem]
 intro i j hi hj hij
 have h1:=(hs i _ (List.getElem?_eq_getElem hi)).1
 have h2:=(hs j _ (List.getElem?_eq_getElem hj)).1
 rw [h1,h2]
 exact sheet_ne i j (by omega) (by omega) (by omega)
theorem shs_nd:(l.map (·.nm)).Nodup:=List.pairwise_map.2 (shs_pw hs hc hl)
omit hs hc hl in
theorem find_pw {l:List SheetD} (hp:l.Pairwise fun a b=>a.nm≠b.nm) {s:SheetD} (hm:s∈l):l.find? (fun a=>decide (s.nm=a.nm))=some s:=by
 induction l with
 | nil=>cases hm
 | cons a l ih =>
  obtain ⟨h1,h2⟩:=List.pairwise_cons.1 hp
  rcases List.mem_cons.1 hm with rfl | hm
  ·simp
  ·have hne:s.nm≠a.nm:=fun e=>h1 s hm e.symm
   rw [List.find?_cons,decide_eq_false hne]
   exact ih h2 hm
theorem shs_any {k:Nat} {s:SheetD} (hk:l[k]?=some s):(l.take k).any (fun c=>eqS c.nm s.nm)=false:=by
 rw [List.any_eq_false]
 intro a ha
 rw [eqS_dec,decide_eq_true_eq]
 have hkl:k<l.length:=by
  rcases Nat.lt_or_ge k l.length with h | h
  ·exact h
  ·rw [List.getElem?_eq_none h] at hk; cases hk
 obtain ⟨i,hi⟩:=List.mem_iff_getElem?.1 ha
 have hik:i<k:=by
  rcases Nat.lt_or_ge i k with h | h
  ·exact h
  ·rw [List.getElem?_eq_none (by rw [List.length_take]; omega)] at hi; cases hi
 rw [List.getElem?_take_of_lt hik] at hi
 rw [(hs i a hi).1,(hs k s hk).1]
 exact sheet_ne i k (by omega) (by omega) (by omega)
theorem sub_ok {k:Nat} {s:SheetD} (hk:l[k]?=some s):s.subs.l.length≤2∧∀ (j:Nat) u,s.subs.l[j]?=some u→SubOk l u∧(s.subs.l.take j).any (fun c=>eqS c.nm u.nm)=false:=by
 obtain ⟨_,_,_,_,hsub,h0,h1⟩:=hs k s hk
 have hkl:k<l.length:=by
  rcases Nat.lt_or_ge k l.length with h | h
  ·exact h
  ·rw [List.getElem?_eq_none h] at hk; cases hk
 have hlen:s.subs.l.length≤2:=by
  rcases Nat.lt_or_ge (k+1) cnt with h | h
  ·exact (h1 h).2
  ·rw [h0 h]; simp
 refine ⟨hlen,fun j u hu => ?_⟩
 have hj:j<s.subs.l.length:=by
  rcases Nat.lt_or_ge j s.subs.l.length with h | h
  ·exact h
  ·rw [List.getElem?_eq_none h] at hu; cases hu
 have hk1:k+1<cnt:=by
  rcases Nat.lt_or_ge (k+1) cnt with h | h
  ·exact h
  ·rw [h0 h] at hj; exact absurd hj (by simp)
 obtain ⟨e1,e2,e3,e4⟩:=hsub j u hu
 have hB:=List.getElem?_eq_getElem (l:=l) (i:=k+1) (by omega)
 obtain ⟨b1,_,⟨most,zs,hpo,_⟩,_⟩:=hs (k+1) _ hB
 have hports:l[k+1].ports=⟨0,[inB,edgeB]⟩:=by
  rcases hpo with ⟨h,_⟩ | ⟨_,_,h⟩
  ·omega
  ·exact h
 obtain ⟨q1,q2⟩:=binds_ok e4
 refine ⟨⟨?_,by omega,l[k+1],?_,?_⟩,?_⟩
 ·rw [e1]
  have:∀ j<2,subN.getD j []∈rightNs:=by decide
  exact this j (by omega)
 ·rw [e2,← b1]
  exact find_pw (shs_pw hs hc hl) (List.getElem_mem _)
 ·rw [hports]
  exact q2
 ·rw [List.any_eq_false]
  intro a ha
  rw [eqS_dec,decide_eq_true_eq]
  obtain ⟨i,hi⟩:=List.mem_iff_getElem?.1 ha
  have hij:i<j:=by
   rcases Nat.lt_or_ge i j with h | h
   ·exact h
   ·rw [List.getElem?_eq_none (by rw [List.length_take]; omega)] at hi; cases hi
  rw [List.getElem?_take_of_lt hij] at hi
  rw [(hsub i a hi).1,e1]
  have h2:∀ i<2,∀ j<2,i≠j→subN.getD i []≠subN.getD j []:=by decide
  exact h2 i (by omega) j (by omega) (by omega)
end
end Go.Abs.Sym
end
section
namespace Go.Abs.Sym
open Go.Abs.T
open Go.Proofs
theorem bind_form {s:Sl BindD} (h:s.kind=0):∃ b n cs,slV bindC s=bF b n cs:=by
 obtain ⟨kd,l⟩:=s
 cases h
 cases l with
 | nil=>exact ⟨false,0,[],rfl⟩
 | cons a l=>exact ⟨true,_,_,rfl⟩
theorem subs_form {k:Nat} {s:Sl SubD} (hk:s.kind=0) (h:SubsOk k s.l) (h2:s.l.length≤2) :
  (s.l.length=0∧slV subC s=uF k [])∨(s.l.length=1∧∃ b n c,slV subC s=uF k [bF b n c])∨(s.l.length=2∧∃ b n c b' n' c',slV subC s=uF k [bF b n c,bF b' n' c']):=by
 obtain ⟨kd,l⟩:=s
 cases hk
 match l,h,h2 with
 | [],_,_=>exact .inl ⟨rfl,rfl⟩
 | [u],h,_ =>
  obtain ⟨e1,e2,e3,_⟩:=h 0 u rfl
  obtain ⟨b,n,c,e⟩:=bind_form e3
  refine .inr (.inl ⟨rfl,b,n,c,?_⟩)
  show AV.rslc 1 (subC u++[])=_
  simp only [subC,e1,e2,e,List.append_nil,uF]
 | [u,v],h,_ =>
  obtain ⟨e1,e2,e3,_⟩:=h 0 u rfl
  obtain ⟨b,n,c,e⟩:=bind_form e3
  obtain ⟨e1',e2',e3',_⟩:=h 1 v rfl
  obtain ⟨b',n',c',e'⟩:=bind_form e3'
  refine .inr (.inr ⟨rfl,b,n,c,b',n',c',?_⟩)
  show AV.rslc 2 (subC u++(subC v++[]))=_
  simp only [subC,e1,e2,e,e1',e2',e',List.append_nil,uF,List.cons_append,List.nil_append]
 | _::_::_::_,_,h2=>simp at h2
theorem dp_sum {cs:List AV} {k:Nat} (h1:dpRun (.agg cs) k) (hf:frzs cs=true) (h:H):K4.sums t37 [.agg cs] h=some (.int .i64 (.ofNat k)):=by
 unfold dpRun at h1
 rw [F.callC_eq] at h1
 obtain ⟨h2,h3⟩:=isV_ret h1
 exact over_fz' (X:=K3) rfl h3 (by simp only [frzs,frz,hf,Bool.and_self]) rfl h
section
variable {va:Bool} {Ts:List TypD} {cnt:Nat} {l:List SheetD} (hs:ShsOk va Ts cnt l) (h1:1≤cnt) (hc:cnt≤3) (hl:l.length=cnt)
theorem sh_form {k:Nat} {s:SheetD} (h:ShOk va Ts k cnt s):AV.agg (sheetC s)=.agg [.str (sheetN.getD k []),slV bsC s.ports,slV bsC s.power,slV symC s.syms,slV joinC s.joins,slV subC s.subs]:=by
 rw [sheetC,h.1]
include hs h1 hc hl in
theorem dp_made (Sh T V:AV) (fl:Bool) (hf:frz Sh=true∧frz T=true∧frz V=true) (h:H):K4.sums t37 [.agg [.str mainB,Sh,T,V,shV l,.bool fl]] h=some (.int .i64 (.ofNat cnt)):=by
 have hfs:frz (shV l)=true:=by
  simp only [shV,frz,Bool.and_eq_true]
  exact ⟨frzs_map (fun _=>rfl) _,frzs_map (f:=fun a:SheetD=>.agg (sheetC a)) (fun a=>by simp only [frz,frz_sheet]) _⟩
 refine dp_sum ?_ (by simp only [frzs,frz,hf.1,hf.2.1,hf.2.2,hfs,Bool.and_self]) h
 have sub2:∀ (k:Nat) s,l[k]?=some s→s.subs.l.length≤2∧(cnt≤k+1→s.subs.l.length=0)∧(k+1<cnt→1≤s.subs.l.length):=fun k s hk=>by
  obtain ⟨_,_,_,_,_,q0,q1⟩:=hs k s hk
  rcases Nat.lt_or_ge (k+1) cnt with q | q
  ·exact ⟨(q1 q).2,fun _=>by omega,fun _=>(q1 q).1⟩
  ·exact ⟨by rw [q0 q]; simp,fun _=>by rw [q0 q]; rfl,fun _=>by omega⟩
 match l,hl,hs,sub2 with
 | [a],hl,hs,sub2 =>
  have e0:=hs 0 a rfl
  have hcn:cnt=1:=hl.symm
  subst hcn
  obtain ⟨_,_,_,ek,eo,_⟩:=e0
  rcases subs_form ek eo (sub2 0 a rfl).1 with ⟨n,e⟩ | ⟨n,_⟩ | ⟨n,_⟩
  ·have:=dp_1 Sh T V (slV bsC a.ports) (slV bsC a.power) (slV symC a.syms) (slV joinC a.joins) fl
   simp only [shV,List.map_cons,List.map_nil,sh_form (hs 0 a rfl),(hs 0 a rfl).1,e]
   exact this
  ·have:=(sub2 0 a rfl).2.1 (by omega); omega
  ·have:=(sub2 0 a rfl).2.1 (by omega); omega
 | [a,b],hl,hs,sub2 =>
  have hcn:cnt=2:=hl.symm
  subst hcn
  obtain ⟨_,_,_,ek,eo,_⟩:=hs 0 a rfl
  obtain ⟨_,_,_,ek1,eo1,_⟩:=hs 1 b rfl
  have l0:=(sub2 0 a rfl).2.2 (by omega)
  have l1:=(sub2 1 b rfl).2.1 (by omega)
  rcases subs_form ek1 eo1 (sub2 1 b rfl).1 with ⟨n1,e1⟩ | ⟨n1,_⟩ | ⟨n1,_⟩
  ·simp only [shV,List.map_cons,List.map_nil,sh_form (hs 0 a rfl),sh_form (hs 1 b rfl),(hs 0 a rfl).1,(hs 1 b rfl).1,e1]
   rcases subs_form ek eo (sub2 0 a rfl).1 with ⟨n,e⟩ | ⟨n,b0,m0,c0,e⟩ | ⟨n,b0,m0,c0,b1,m1,c1,e⟩
   ·omega
   ·rw [e]; exact dp_21 Sh T V _ _ _ _ _ _ _ _ fl m0 c0 b0
   ·rw [e]; exact dp_22 Sh T V _ _ _ _ _ _ _ _ fl m0 m1 c0 c1 b0 b1
  ·omega
  ·omega
 | [a, b,c],hl,hs,sub2 =>
  have hcn:cnt=3:=hl.symm
  subst hcn
  obtain ⟨_,_,_,ek,eo,_⟩:=hs 0 a rfl
  obtain ⟨_,_,_,ek1,eo1,_⟩:=hs 1 b rfl
  obtain ⟨_,_,_,ek2,eo2,_⟩:=hs 2 c rfl
  have l0:=(sub2 0 a rfl).2.2 (by omega)
  have l1:=(sub2 1 b rfl).2.2 (by omega)
  have l2:=(sub2 2 c rfl).2.1 (by omega)
  rcases subs_form ek2 eo2 (sub2 2 c rfl).1 with ⟨n2,e2⟩ | ⟨n2,_⟩ | ⟨n2,_⟩
  ·simp only [shV,List.map_cons,List.map_nil,sh_form (hs 0 a rfl),sh_form (hs 1 b rfl),sh_form (hs 2 c rfl),(hs 0 a rfl).1,(hs 1 b rfl).1,(hs 2 c rfl).1,e2]
   rcases subs_form ek eo (sub2 0 a rfl).1 with ⟨n,e⟩ | ⟨n,b0,m0,c0,e⟩ | ⟨n,b0,m0,c0,b1,m1,c1,e⟩
   ·omega
   ·rcases subs_form ek1 eo1 (sub2 1 b rfl).1 with ⟨n1,e1⟩ | ⟨n1,b2,m2,c2,e1⟩ | ⟨n1,b2,m2,c2,b3,m3,c3,e1⟩
    ·omega
    ·rw [e,e1]; exact dp_311 Sh T V _ _ _ _ _ _ _ _ _ _ _ _ fl m0 m2 c0 c2 b0 b2
    ·rw [e,e1]; exact dp_312 Sh T V _ _ _ _ _ _ _ _ _ _ _ _ fl m0 m2 m3 c0 c2 c3 b0 b2 b3
   ·rcases subs_form ek1 eo1 (sub2 1 b rfl).1 with ⟨n1,e1⟩ | ⟨n1,b2,m2,c2,e1⟩ | ⟨n1,b2,m2,c2,b3,m3,c3,e1⟩
    ·omega
    ·rw [e,e1]; exact dp_321 Sh T V _ _ _ _ _ _ _ _ _ _ _ _ fl m0 m1 m2 c0 c1 c2 b0 b1 b2
    ·rw [e,e1]; exact dp_322 Sh T V _ _ _ _ _ _ _ _ _ _ _ _ fl m0 m1 m2 m3 c0 c1 c2 c3 b0 b1 b2 b3
  ·omega
  ·omega
 | [],hl,_,_=>simp at hl; omega
 | _::_::_::_::_,hl,_,_=>simp at hl; omega
end
end Go.Abs.Sym
end
section
namespace Go.Abs.Sym
open Go.Abs.T
open Go.Proofs
theorem frz_shV (l:List SheetD):frz (shV l)=true:=by
 simp only [shV,frz,Bool.and_eq_true]
 exact ⟨frzs_map (fun _=>rfl) _,frzs_map (f:=fun a:SheetD=>.agg (sheetC a)) (fun a=>by simp only [frz,frz_sheet]) _⟩
theorem frz_d (E:CkE):frzs E.d=true:=by
 simp only [CkE.d,frzs,frz,frz_slV frz_sheet,frz_slV frz_ty,frz_slV frz_bs,frz_shV,Bool.and_self]
structure DesK (T0 T1:TypD) (E:CkE) (cnt:Nat):Prop where
 h1:1≤cnt
 h3:cnt≤3
 top:E.top=mainB
 ts:E.Ts=⟨1,[T0,T1,busT]⟩
 tf:TsF [T0,T1,busT]
 kd:E.Ss.kind=0
 ln:E.Ss.l.length=cnt
 ok:ShsOk E.va [T0,T1,busT] cnt E.Ss.l
 fl:∀ B,E.Ss.l[0]?=some B→E.fl=(!intoL E.top E.Ss.l&&decide (B.subs.l.length=0))
section
variable {T0 T1:TypD} {E:CkE} {cnt:Nat} (K:DesK T0 T1 E cnt)
include K
theorem desk_first:∃ B,E.Ss.l[0]?=some B∧E.Ss.l.find? (fun a=>decide (E.top=a.nm))=some B:=by
 have h:=K.h1
 have hl:=K.ln
 refine ⟨_,List.getElem?_eq_getElem (by omega),?_⟩
 have hn:=(K.ok 0 _ (List.getElem?_eq_getElem (l:=E.Ss.l) (i:=0) (by omega))).1
 rw [K.top,show mainB=E.Ss.l[0].nm from hn.symm]
 exact find_pw (shs_pw K.ok K.h3 K.ln) (List.getElem_mem _)
theorem sh_facts {k:Nat} {s:SheetD} (hk:E.Ss.l[k]?=some s):ShFacts E s:=by
 have hkl:k<3:=by
  have:=K.ln
  have:=K.h3
  rcases Nat.lt_or_ge k E.Ss.l.length with h | h
  ·omega
  ·rw [List.getElem?_eq_none h] at hk; cases hk
 have tf:=K.tf
 obtain ⟨sub2,sok⟩:=sub_ok K.ok K.h3 K.ln hk
 obtain ⟨e1,e2,⟨most,zs,hpo,hz,z1,z3,ey,ej⟩,ek,_⟩:=K.ok k s hk
 have hmost:most≤9:=by rcases hpo with ⟨_,h,_⟩ | ⟨_,h,_⟩<;>omega
 obtain ⟨j1,j2,j3⟩:=zs_joins hmost tf hz z3
 have hprt:∃ a b,s.ports=prtL a∧s.power=pwrL b:=by
  rcases hpo with ⟨_,_,h⟩ | ⟨_,_,h⟩<;>rcases e2 with g | g
  ·exact ⟨false,false,h,g⟩
  ·exact ⟨false,true,h,g⟩
  ·exact ⟨true,false,h,g⟩
  ·exact ⟨true,true,h,g⟩
 obtain ⟨pa,pb,hp,hw⟩:=hprt
 have hpw:=zs_refs hz z3
 refine {
  right:=?_
  n1:=by rw [ey]; simp; omega
  n2:=by rw [ej]; simp only; omega
  n3:=by omega
  n4:=by rw [hp]; cases pa<;>decide
  n5:=by rw [hw]; cases pb<;>decide
  prt:=fun h => ?_
  sym:=⟨tmZ zs,fun pm h => ?_,fun pm h => ?_⟩
  sub:=fun h => ?_ }
 ·rw [e1]
  exact (by decide:∀ k<3,sheetN.getD k []∈rightNs) k hkl
 ·have:=ports_sum (nm:=s.nm) (S:=slV symC s.syms) (J:=slV joinC s.joins) (U:=slV subC s.subs) pa pb (frz_slV frz_sym _) (frz_slV frz_join _) (frz_slV frz_sub _) h
  rw [← hp,← hw] at this
  exact this
 ·refine syms_sum ⟨.str E.top,slV sheetC E.Ss,E.Ts,E.va,shV E.Ss.l,.bool E.fl,s.syms,tmZ zs⟩ ⟨?_,?_,?_,?_,?_,?_⟩ rfl (frz_d E) h
  ·show s.syms.l.length<1000
   rw [ey]; simp; omega
  ·show E.Ts.l.length<90000
   rw [K.ts]; exact (by decide:3<90000)
  ·intro T hT
   have hT:T∈E.Ts.l:=hT
   rw [K.ts] at hT
   exact (tf.f T hT).nice
  ·show (tmZ zs).length=s.syms.l.length
   rw [ey]; simp [tmZ]
  ·intro i x hx
   have hx:s.syms.l[i]?=some x:=hx
   rw [ey] at hx
   simp only [List.getElem?_map,Option.map_eq_some_iff] at hx
   obtain ⟨z,hzi,rfl⟩:=hx
   obtain ⟨o1,o2,o3,o4,_⟩:=hz i z hzi
   have hi:i<3:=by
    rcases Nat.lt_or_ge i zs.length with h | h
    ·omega
    ·rw [List.getElem?_eq_none h] at hzi; cases hzi
   refine ⟨z.2.1,?_,?_,?_,o4⟩
   ·show (tmZ zs)[i]?=_
    simp only [tmZ,List.getElem?_map,hzi,Option.map_some]
   ·rw [o1]
    exact (by decide:∀ i<3,refN.getD i []∈rightNs) i hi
   ·show E.Ts.l.find? _=_
    rw [K.ts]
    have hnd:[T0,T1,busT].Pairwise fun a b=>a.nm≠b.nm:=List.pairwise_map.1 tf.nd
    rw [o3]
    clear o1 o3 o4 hzi
    generalize [T0,T1,busT]=Ts at o2 hnd
    induction Ts with
    | nil=>cases o2
    | cons a l ih =>
     obtain ⟨q1,q2⟩:=List.pairwise_cons.1 hnd
     rcases List.mem_cons.1 o2 with h | h
     ·subst h
      simp [eqS_dec]
     ·have hne:a.nm≠z.2.1.nm:=q1 _ h
      rw [List.find?_cons,eqS_dec,decide_eq_false hne]
      exact ih h q2
  ·show ((tmZ zs).map (·.1)).Nodup
   simp only [tmZ,List.map_map]
   exact List.pairwise_map.2 hpw
 ·exact joins_sum ⟨tmZ zs,s.joins,pm⟩ rfl (by show s.joins.l.length<1000; rw [ej]; simp only; omega) (by show ∀ j∈s.joins.l,_; rw [ej]; exact j2) (by show (s.joins.l.flatMap pinsJ).Nodup; rw [ej]; exact j3) h
 ·exact subs_sum ⟨.str E.top,slV sheetC E.Ss,slV tyC E.Ts,slV bsC (vaL E.va),.bool E.fl,E.Ss.l,s⟩ ⟨by show s.subs.l.length<1000; omega,sok⟩ (frz_d E) h
theorem of_made (h:H):K4.sums t28 [.agg E.d4] h=some (.agg E.d):=by
 obtain ⟨B,hB0,hB⟩:=desk_first K
 have hls:∀ s∈E.Ss.l,s.subs.l.length<1000:=fun s hs=>by
  obtain ⟨k,hk⟩:=List.mem_iff_getElem?.1 hs
  have:=(sub_ok K.ok K.h3 K.ln hk).1
  omega
 have hlt:E.Ss.l.length<1000:=by have:=K.ln; have:=K.h3; omega
 have:=of_sum ⟨E.top,E.Ss,slV tyC E.Ts,slV bsC (vaL E.va)⟩ ⟨⟨hlt,shs_nd K.ok K.h3 K.ln,hls,on_slV _ _,on_slV _ _⟩,frz_slV frz_ty _,frz_slV frz_bs _⟩ hB h
 simp only at this
 rw [← K.fl B hB0] at this
 exact this
theorem types_made (h:H):(KD T0 T1).sums t29 [.agg E.d] h=some (.tup []):=by
 refine types_sum ⟨.str E.top,slV sheetC E.Ss,E.Ts,E.va,shV E.Ss.l,.bool E.fl,⟨0,[]⟩,[]⟩ ⟨?_,?_,?_,?_⟩ (frz_d E) h
 ·show E.Ts.l.length<1000
  rw [K.ts]; exact (by decide:3<1000)
 ·intro T hT
  have hT:T∈E.Ts.l:=hT
  rw [K.ts] at hT
  exact (K.tf.f T hT).nice
 ·intro T hT
  have hT:T∈E.Ts.l:=hT
  rw [K.ts] at hT
  exact hT
 ·show (E.Ts.l.map (·.nm)).Nodup
  rw [K.ts]; exact K.tf.nd
theorem depth_made (h:H):K4.sums t37 [.agg E.d] h=some (.int .i64 (.ofNat cnt)):=by
 have:=dp_made K.ok K.h1 K.h3 K.ln (slV sheetC E.Ss) (slV tyC E.Ts) (slV bsC (vaL E.va)) E.fl ⟨frz_slV frz_sheet _,frz_slV frz_ty _,frz_slV frz_bs _⟩ h
 rw [← K.top] at this
 exact this
theorem ck_made:CkF T0 T1 E where
 lt:=by have:=K.ln; have:=K.h3; omega
 ok:=fun k s hk=>⟨sh_facts K hk,shs_any K.ok K.h3 K.ln hk⟩
 s10:=by have:=K.ln; have:=K.h3; omega
 t20:=by rw [K.ts]; exact (by decide:3≤20)
 hof:=of_made K
 hty:=types_made K
 hdp:=⟨cnt,by have:=K.h3; omega,depth_made K⟩
 hB:=by obtain ⟨B,_,hB⟩:=desk_first K; exact ⟨B,hB⟩
end
theorem desk_of {d:DesD} (h:DesOk d):∃ (cs cs':List (Nat×Nat×Nat)) (gs gs':List GateD) (E:CkE) (cnt:Nat),(2≤cs.length∧cs.length≤6∧(∀ c∈cs,CodeOK c)∧GOK cs.length gs)∧(2≤cs'.length∧cs'.length≤6∧(∀ c∈cs',CodeOK c)∧GOK cs'.length gs')∧desC d=E.d4∧DesK (tyOf [82] cs gs) (tyOf [81] cs' gs') E cnt:=by
 obtain ⟨top,va,cnt,cs,cs',gs,gs',h1,h3,hc,hc',ht,hv,hk,hn,hs⟩:=h
 refine ⟨cs,cs',gs,gs',⟨d.top,d.sheets,d.types,va,!intoL d.top d.sheets.l&&decide ((d.sheets.l[0]?.map fun B=>B.subs.l.length).getD 0=0)⟩,cnt,hc,hc',?_,⟨h1,h3,top,ht,tsF_of hc.1 hc.2.1 hc.2.2.2 hc'.1 hc'.2.1 hc'.2.2.2,hk,hn,hs,fun B hB => ?_⟩⟩
 ·simp only [desC,CkE.d4,hv,vaL]
  cases va<;>rfl
 ·simp only at hB ⊢
  rw [hB]
  rfl
end Go.Abs.Sym
end
end
