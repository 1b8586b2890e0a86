/- The reference's check of joins: inner loops. -/
import Derived.Test.YtipcmdllhllolaaGreatDoorM41
import Derived.Test.YtipcmdllhllolaaGreatDoorM30
noncomputable section
section
namespace Go.Abs.Sym
open Go.Abs.T
open Go.Proofs
theorem flat_take {sz:Nat}:∀ {rs:List (List AV)} {k:Nat} {row:List AV}, rs[k]?=some row→(∀ r∈rs, r.length=sz)→takeD rs.flatten (k*sz) sz=some row
 | [], _, _, h, _=>by cases h
 | a::rs, 0, row, h, hl=>by
  cases h
  rw [Nat.zero_mul, List.flatten_cons]
  exact tk_app (hl _ (by simp))
 | a :: rs, k+1, row, h, hl=>by
  have ih:=flat_take (sz:=sz) (rs:=rs) (k:=k) (row:=row) h (fun r hr=>hl r (by simp [hr]))
  have ha:a.length=sz:=hl a (by simp)
  simp only [takeD] at ih ⊢
  have e:List.drop ((k+1)*sz) (a::rs).flatten=List.drop (k*sz) rs.flatten:=by
   rw [List.flatten_cons, Nat.add_mul, Nat.one_mul, Nat.add_comm, ← List.drop_drop, ← ha, List.drop_left]
  rw [e]
  exact ih
theorem at_grow {sz:Nat} {t:Tr AB} {lo hi nb:Nat} {pv:AV} {rs:List (List AV)} {k:Nat} {row:List AV} (h:Grow sz t lo hi nb pv rs) (hk:rs[k]?=some row) (hl:∀ r∈rs, r.length=sz) :
  indexAddrA (.slc sz) pv (.int .i64 (.ofNat k))=some (.ptr (up .e nb) (k*sz))∧t.get (up .e nb)=some (.cells rs.flatten true)∧takeD rs.flatten (k*sz) sz=some row∧lo≤nb∧nb<hi:=by
 have hkl:=(List.getElem?_eq_some_iff.1 hk).1
 rcases h with ⟨rfl, _, _⟩ | ⟨h1, rfl, h2, h3, h4⟩
 ·cases hk
 ·refine ⟨?_, h2, flat_take hk hl, h3, h4⟩
  have h5:leI 0 (.ofNat k)=true:=rfl
  have h6:ltI (.ofNat k) (.ofNat rs.length)=true:=by rw [ltI_dec]; exact decide_eq_true hkl
  have h7:(Int.ofNat k).toNat=k:=rfl
  simp only [indexAddrA, nbeq, decide_true, h5, h6, h7, Bool.and_self, cond_true, Nat.zero_add]
theorem len_grow {sz:Nat} {t:Tr AB} {lo hi nb:Nat} {pv:AV} {rs:List (List AV)} (h:Grow sz t lo hi nb pv rs) (hh:H):lenVal hh .slc pv=some (.int .i64 (.ofNat rs.length)):=by
 rcases h with ⟨rfl, rfl, _⟩ | ⟨_, rfl, _⟩<;>rfl
def jaR:List Pth:=[t2, t3, t4, t7, t8, t9, t10, t12, t13]
def JaI (n m0:Nat) (u0:Tr AB) (fr0:Tr AV) (r:Nat) (st:St):Prop:=∃ fr k m t, st=⟨fr, [], ⟨up .e m, t, .lf⟩, .no, none, t85⟩∧k+r=n∧m0≤m∧KeepF jaR fr0 fr∧fr.get t14=some (.int .i64 (.ofNat k))∧∀ i, i<m0→t.get (up .e i)=u0.get (up .e i)
theorem ja_round {T:TypD} (lT:T.pads.l.length<90000) {l:List Bs} (hl:l.length<1000) (hf:∀ p∈l, ∃ pd, findP T p=some pd) {tb m0:Nat} {u0:Tr AB} {fr0:Tr AV} (g10:fr0.get t10=some (.ptr (up .e tb) 0)) (g13:fr0.get t13=some (slV bsC ⟨1, l⟩)) (a10:u0.get (up .e tb)=some (.cells (tyC T) false)) (htb:tb<m0) (r:Nat) (st:St) (h:JaI l.length m0 u0 fr0 r st) :
  Stp (JaI l.length m0 u0 fr0) (fun o=>∃ st, o=.exit 2 st∧JaI l.length m0 u0 fr0 0 st) r (execA RB (callN RB 49) c85_l0 st):=by
 obtain ⟨fr, k, m, t, rfl, hk, hm, kf, g14, hfr⟩:=h
 have h10:=(kf t10 (by simp [jaR])).trans g10
 have h13:=(kf t13 (by simp [jaR])).trans g13
 have b10:=(hfr tb htb).trans a10
 cases r with
 | zero =>
  have hkn:(k<l.length)=False:=eq_false (by omega)
  simp +decide only [c85_l0,SF,h13,g14,len_slV,ltI_dec,hkn,stp_e]
  refine ⟨_, rfl, _, k, m, t, rfl, hk, hm, ?_, ?_, hfr⟩
  ·simp +decide only [KeepF_put]
   exact kf
  all_goals simp +decide only [gp,g14,if_false]
 | succ r =>
  have hkn:(k<l.length)=True:=eq_true (by omega)
  obtain ⟨p, hka⟩:∃ p, l[k]?=some p:=⟨_, List.getElem?_eq_getElem (by omega)⟩
  have ia:=at_slV (f:=bsC) (sz:=1) (s:=⟨1, l⟩) len_bs (by decide) hka
  obtain ⟨pd, hpd⟩:=hf p (List.mem_of_getElem? hka)
  have hw:=wr_add k 1 (by omega)
  have hfd:∀ h, callN RB 49 (.fn t128 [] []) [.agg (tyC T), .str p] h=.ret (.tup [.agg (padC pd), .bool true]) h:=fun h=>call_sum (by rw [List.nil_append, List.append_nil]; exact findA_sum lT hpd h)
  simp only [bsC] at ia
  have htk:takeD (tyC T) 0 3=some (tyC T):=takeD_all rfl
  have on1:=on_slV edC pd.es
  simp only [tyC] at htk b10 hfd
  simp only [padC] at hfd
  simp +decide only [c85_l0,SF,Nat.reduceAdd,h10,h13,g14,b10,htk,ltI_dec,hkn,ia,hfd,hw,on1,len_slV,stp_n,List.getElem?_cons_zero,List.getElem?_cons_succ,tkP_c,lvP_c,withP_c,cont_c,cont_n,dopsA]
  refine ⟨r, by omega, _, k+1, _, _, rfl, by omega, by omega, ?_, ?_, fun i hi => ?_⟩
  ·simp +decide only [KeepF_put]
   exact kf
  ·simp +decide only [gp,if_true,if_false]
  ·have n0:=nz0 (show i<m by omega)
   have n0':=nz (show i<m by omega)
   simp only [gp,up_inj,n0',if_false]
   exact hfr i hi
end Go.Abs.Sym
end
section
namespace Go.Abs.Sym
open Go.Abs.T
open Go.Proofs
def pinR (p:Bs×Bs):List AV:=[.str p.1, .str p.2]
theorem pin_len (l:List (Bs×Bs)):∀ r∈l.map pinR, r.length=2:=fun r hr=>by
 obtain ⟨p, _, rfl⟩:=List.mem_map.1 hr
 rfl
theorem eq_pin {a b c d:Bs} (h:(a, b)≠(c, d)):eqFlat [.s, .s] [.str a, .str b] [.str c, .str d]=some false:=by
 have h1:eqS a c=decide (a=c):=eqS_dec a c
 have h2:eqS b d=decide (b=d):=eqS_dec b d
 by_cases e:a=c
 ·subst e
  have:b≠d:=fun e=>h (by rw [e])
  simp [eqFlat, h1, h2, this]
 ·simp [eqFlat, h1, e]
def jbR:List Pth:=[t2, t3, t4, t7, t8, t9, t10, t12, t13, t17]
def JbI (n m0:Nat) (t:Tr AB) (fr0:Tr AV) (r:Nat) (st:St):Prop:=∃ fr k m, st=⟨fr, [], ⟨up .e m, t, .lf⟩, .no, none, t85⟩∧k+r=n∧m0≤m∧KeepF jbR fr0 fr∧fr.get t18=some (.int .i64 (.ofNat k))
theorem jb_round {seen:List (Bs×Bs)} {ref net pad p:Bs} {l:List Bs} {i:Nat} (hs:seen.length<90000) (hi:l[i]?=some p) (hno:(ref, p)∉seen) {lo hi' nb jb m0:Nat} {v:AV} {t:Tr AB} {fr0:Tr AV} (hg:Grow 2 t lo hi' nb v (seen.map pinR))
  (g7:fr0.get t7=some v) (g9:fr0.get t9=some (.ptr (up .e jb) 0)) (g13:fr0.get t13=some (slV bsC ⟨1, l⟩)) (g17:fr0.get t17=some (.int .i64 (.ofNat i))) (a9:t.get (up .e jb)=some (.cells [.str net, .str ref, .str pad] false)) (r:Nat) (st:St) (h:JbI seen.length m0 t fr0 r st) :
  Stp (JbI seen.length m0 t fr0) (fun o=>∃ st, o=.exit 6 st∧JbI seen.length m0 t fr0 0 st) r (execA RB (callN RB 49) c85_l1 st):=by
 obtain ⟨fr, k, m, rfl, hk, hm, kf, g18⟩:=h
 have h7:=(kf t7 (by simp [jbR])).trans g7
 have h9:=(kf t9 (by simp [jbR])).trans g9
 have h13:=(kf t13 (by simp [jbR])).trans g13
 have h17:=(kf t17 (by simp [jbR])).trans g17
 have hlen:∀ h, lenVal h .slc v=some (.int .i64 (.ofNat seen.length)):=fun h=>by rw [len_grow hg h, List.length_map]
 cases r with
 | zero =>
  have hkn:(k<seen.length)=False:=eq_false (by omega)
  simp +decide only [c85_l1,SF,h7,g18,hlen,ltI_dec,hkn,stp_e]
  refine ⟨_, rfl, _, k, m, rfl, hk, hm, ?_, ?_⟩
  ·simp +decide only [KeepF_put]
   exact kf
  all_goals simp +decide only [gp,g18,if_false]
 | succ r =>
  have hkn:(k<seen.length)=True:=eq_true (by omega)
  obtain ⟨q, hka⟩:∃ q, seen[k]?=some q:=⟨_, List.getElem?_eq_getElem (by omega)⟩
  have hkr:(seen.map pinR)[k]?=some (pinR q):=by rw [List.getElem?_map, hka]; rfl
  obtain ⟨e1, e2, e3, _, _⟩:=at_grow hg hkr (pin_len _)
  have ia:=at_slV (f:=bsC) (sz:=1) (s:=⟨1, l⟩) len_bs (by decide) hi
  have hw:=wr_add k 1 (by omega)
  have hne:eqFlat [.s, .s] [.str q.1, .str q.2] [.str ref, .str p]=some false:=eq_pin fun e=>hno (by rw [← e]; exact List.mem_of_getElem? hka)
  simp only [bsC] at ia
  simp only [pinR] at e3
  simp +decide only [c85_l1,SF,Nat.reduceAdd,h7,h9,h13,h17,g18,hlen,a9,e1,e2,e3,hne,ltI_dec,hkn,ia,hw,stp_n]
  refine ⟨r, by omega, _, k+1, _, rfl, by omega, by omega, ?_, ?_⟩
  ·simp +decide only [KeepF_put]
   exact kf
  all_goals simp +decide only [gp,if_true,if_false]
theorem jb_loop {seen:List (Bs×Bs)} {ref net pad p:Bs} {l:List Bs} {i:Nat} (hs:seen.length<90000) (hi:l[i]?=some p) (hno:(ref, p)∉seen) {lo hi' nb jb m:Nat} {v:AV} {t:Tr AB} {fr0:Tr AV} (hg:Grow 2 t lo hi' nb v (seen.map pinR)) {o:Out}
  (hit:iterA (execA RB (callN RB 49) c85_l1) 100000 ⟨fr0, [], ⟨up .e m, t, .lf⟩, .no, none, t85⟩=o)
  (g7:fr0.get t7=some v) (g9:fr0.get t9=some (.ptr (up .e jb) 0)) (g13:fr0.get t13=some (slV bsC ⟨1, l⟩)) (g17:fr0.get t17=some (.int .i64 (.ofNat i))) (g18:fr0.get t18=some (.int .i64 (.ofNat 0))) (a9:t.get (up .e jb)=some (.cells [.str net, .str ref, .str pad] false)) :
  ∃ fr m', o=.exit 6 ⟨fr, [], ⟨up .e m', t, .lf⟩, .no, none, t85⟩∧m≤m'∧KeepF jbR fr0 fr:=by
 have:=iter_rule (JbI seen.length m t fr0) (fun o=>∃ st, o=.exit 6 st∧JbI seen.length m t fr0 0 st) (fun r st h=>jb_round hs hi hno hg g7 g9 g13 g17 a9 r st h) 100000 seen.length _ ⟨_, 0, m, rfl, Nat.zero_add _, Nat.le_refl _, fun _ _=>rfl, g18⟩ (by omega)
 rw [hit] at this
 obtain ⟨st, e, fr, k, m1, rfl, _, hm, kf, _⟩:=this
 exact ⟨fr, m1, e, hm, kf⟩
def JcI (n m0:Nat) (t:Tr AB) (fr0:Tr AV) (r:Nat) (st:St):Prop:=∃ fr k m, st=⟨fr, [], ⟨up .e m, t, .lf⟩, .no, none, t85⟩∧k+r=n∧m0≤m∧KeepF jaR fr0 fr∧fr.get t17=some (.int .i64 (.ofNat k))
theorem jc_round {seen:List (Bs×Bs)} {ref net pad:Bs} {l:List Bs} (hl:l.length<1000) (hs:seen.length<90000) (hno:∀ p∈l, (ref, p)∉seen) {lo hi' nb jb m0:Nat} {v:AV} {t:Tr AB} {fr0:Tr AV} (hg:Grow 2 t lo hi' nb v (seen.map pinR))
  (g7:fr0.get t7=some v) (g9:fr0.get t9=some (.ptr (up .e jb) 0)) (g13:fr0.get t13=some (slV bsC ⟨1, l⟩)) (a9:t.get (up .e jb)=some (.cells [.str net, .str ref, .str pad] false)) (r:Nat) (st:St) (h:JcI l.length m0 t fr0 r st) :
  Stp (JcI l.length m0 t fr0) (fun o=>∃ st, o=.exit 4 st∧JcI l.length m0 t fr0 0 st) r (execA RB (callN RB 49) c85_l2 st):=by
 obtain ⟨fr, k, m, rfl, hk, hm, kf, g17⟩:=h
 have h7:=(kf t7 (by simp [jaR])).trans g7
 have h9:=(kf t9 (by simp [jaR])).trans g9
 have h13:=(kf t13 (by simp [jaR])).trans g13
 cases r with
 | zero =>
  have hkn:(k<l.length)=False:=eq_false (by omega)
  simp +decide only [c85_l2,SF,h13,g17,len_slV,ltI_dec,hkn,stp_e]
  refine ⟨_, rfl, _, k, m, rfl, hk, hm, ?_, ?_⟩
  ·simp +decide only [KeepF_put]
   exact kf
  all_goals simp +decide only [gp,g17,if_false]
 | succ r =>
  have hkn:(k<l.length)=True:=eq_true (by omega)
  obtain ⟨p, hka⟩:∃ p, l[k]?=some p:=⟨_, List.getElem?_eq_getElem (by omega)⟩
  have hw:=wr_add k 1 (by omega)
  simp +decide only [c85_l2,SF,h13,g17,len_slV,ltI_dec,hkn,kfB]
  generalize hit:iterA (execA RB (callN RB 49) c85_l1) _ _=o
  obtain ⟨fr2, m2, rfl, hm2, kf2⟩:=jb_loop (jb:=jb) (net:=net) (pad:=pad) hs hka (hno p (List.mem_of_getElem? hka)) hg hit
   (by simp +decide only [gp,h7,if_false]) (by simp +decide only [gp,h9,if_false]) (by simp +decide only [gp,h13,if_false]) (by simp +decide only [gp,g17,if_false]) (by simp +decide only [gp,if_true,if_false]) a9
  clear hit
  have k17:fr2.get t17=some (.int .i64 (.ofNat k)):=(kf2 t17 (by simp [jbR])).trans (by simp +decide only [gp,g17,if_false])
  simp +decide only [SF,k17,hw,stp_n]
  refine ⟨r, by omega, _, k+1, _, rfl, by omega, by omega, ?_, ?_⟩
  ·have hkk:KeepF jaR fr0 fr2:=fun q hq=>by
    rw [kf2 q (by simp only [jaR, jbR, List.mem_cons, List.not_mem_nil, or_false] at hq ⊢; rcases hq with rfl | rfl | rfl | rfl | rfl | rfl | rfl | rfl | rfl<;>simp)]
    have:=kf
    rw [← kf q hq]
    simp only [jaR, List.mem_cons, List.not_mem_nil, or_false] at hq
    rcases hq with rfl | rfl | rfl | rfl | rfl | rfl | rfl | rfl | rfl<;>simp +decide only [gp,if_false]
   simp +decide only [KeepF_put]
   exact hkk
  ·simp +decide only [gp,if_true,if_false]
end Go.Abs.Sym
end
section
namespace Go.Abs.Sym
open Go.Abs.T
open Go.Proofs
def jdR:List Pth:=[t2, t3, t4, t8, t9, t10, t12, t13]
def JdI (ref:Bs) (l:List Bs) (seen:List (Bs×Bs)) (m0:Nat) (u0:Tr AB) (nb0:Nat) (fr0:Tr AV) (r:Nat) (st:St):Prop:=∃ fr k m t nb v, st=⟨fr, [], ⟨up .e m, t, .lf⟩, .no, none, t85⟩∧k+r=l.length∧m0≤m∧KeepF jdR fr0 fr∧fr.get t19=some (.int .i64 (.ofNat k)) ∧
 fr.get t7=some v∧Grow 2 t 2 m nb v ((seen++(l.take k).map fun p=>(ref, p)).map pinR)∧(∀ i, i<m0→(2≤nb0→i≠nb0)→t.get (up .e i)=u0.get (up .e i))∧(nb=nb0∨m0≤nb)
theorem jd_round {seen:List (Bs×Bs)} {ref net pad:Bs} {l:List Bs} (hl:l.length<1000) (hs:seen.length<90000) {jb m0 nb0:Nat} {u0:Tr AB} {fr0:Tr AV}
  (g9:fr0.get t9=some (.ptr (up .e jb) 0)) (g13:fr0.get t13=some (slV bsC ⟨1, l⟩)) (a9:u0.get (up .e jb)=some (.cells [.str net, .str ref, .str pad] false)) (hjb:jb<m0) (hjn:2≤nb0→jb≠nb0) (_h2:2≤m0) (_hnb0:nb0<m0) (r:Nat) (st:St) (h:JdI ref l seen m0 u0 nb0 fr0 r st) :
  Stp (JdI ref l seen m0 u0 nb0 fr0) (fun o=>∃ st, o=.exit 8 st∧JdI ref l seen m0 u0 nb0 fr0 0 st) r (execA RB (callN RB 49) c85_l3 st):=by
 obtain ⟨fr, k, m, t, nb, v, rfl, hk, hm, kf, g19, g7, hg, hfr, hnn⟩:=h
 have h9:=(kf t9 (by simp [jdR])).trans g9
 have h13:=(kf t13 (by simp [jdR])).trans g13
 have b9:=(hfr jb hjb hjn).trans a9
 cases r with
 | zero =>
  have hkn:(k<l.length)=False:=eq_false (by omega)
  simp +decide only [c85_l3,SF,h13,g19,len_slV,ltI_dec,hkn,stp_e]
  refine ⟨_, rfl, _, k, m, t, nb, v, rfl, hk, hm, ?_, ?_, ?_, hg, hfr, hnn⟩
  ·simp +decide only [KeepF_put]
   exact kf
  all_goals simp +decide only [gp,g19,g7,if_false]
 | succ r =>
  have hkn:(k<l.length)=True:=eq_true (by omega)
  obtain ⟨p, hka⟩:∃ p, l[k]?=some p:=⟨_, List.getElem?_eq_getElem (by omega)⟩
  have hw:=wr_add k 1 (by omega)
  have ia:=at_slV (f:=bsC) (sz:=1) (s:=⟨1, l⟩) len_bs (by decide) hka
  have htk1:l.take (k+1)=l.take k++[p]:=by rw [List.take_add_one, hka]; rfl
  have hrows:((seen++(l.take (k+1)).map fun p=>(ref, p)).map pinR)=((seen++(l.take k).map fun p=>(ref, p)).map pinR)++[[.str ref, .str p]]:=by
   simp [htk1, pinR]
  simp only [bsC] at ia
  have hvo:=hg.one
  simp +decide only [c85_l3,SF,Nat.reduceAdd,h9,h13,g7,g19,b9,len_slV,ltI_dec,hkn,ia,tkP_c,lvP_c,withP_c,cont_c,cont_n,dopsA]
  generalize hA:appendA _ 2 32 _ _=A
  have hrl:((seen++(l.take k).map fun p=>(ref, p)).map pinR).length<1000000:=by
   simp only [List.length_map, List.length_append, List.length_take]
   omega
  have hg2:Grow 2 (t.put (up .e (m+8)) (.cells [.str ref, .str p] false)) 2 (m+11) nb v ((seen++(l.take k).map fun p=>(ref, p)).map pinR):=hg.keep (by omega) fun _ hlt=>by
   have n0:=nz hlt 8
   simp only [gp, up_inj, n0, if_false]
  have hAp:=Grow.append hg2 hA (sp:=false) (by rw [gp, if_pos rfl]) rfl rfl (pin_len _) (by decide) hrl (by omega)
  obtain ⟨t2, hA2, b1, b2, b3⟩:=hAp
  subst hA2
  rw [← hrows] at b3
  simp +decide only [SF,Nat.reduceAdd,g19,hw,stp_n]
  refine ⟨r, by omega, _, k+1, _, t2, m+11, _, rfl, by omega, by omega, ?_, ?_, ?_, b3, fun i hi hne => ?_, .inr (by omega)⟩
  ·simp +decide only [KeepF_put]
   exact kf
  ·simp +decide only [gp,if_true,if_false]
  ·simp +decide only [gp,if_true,if_false]
  ·have n0:=nz (show i<m by omega) 8
   rw [b2 i (by omega) (fun h1 h2=>by
    rcases hnn with e | e
    ·rw [e]; rw [e] at h1; exact hne h1
    ·omega)]
   simp only [gp, up_inj, n0, if_false]
   exact hfr i hi hne
end Go.Abs.Sym
end
section
namespace Go.Abs.Sym
open Go.Abs.T
open Go.Proofs
theorem ja_loop {T:TypD} (lT:T.pads.l.length<90000) {l:List Bs} (hl:l.length<1000) (hf:∀ p∈l, ∃ pd, findP T p=some pd) {tb m:Nat} {t:Tr AB} {fr0:Tr AV} {o:Out} (hit:iterA (execA RB (callN RB 49) c85_l0) 100000 ⟨fr0, [], ⟨up .e m, t, .lf⟩, .no, none, t85⟩=o)
  (g10:fr0.get t10=some (.ptr (up .e tb) 0)) (g13:fr0.get t13=some (slV bsC ⟨1, l⟩)) (g14:fr0.get t14=some (.int .i64 (.ofNat 0))) (a10:t.get (up .e tb)=some (.cells (tyC T) false)) (htb:tb<m) :
  ∃ fr m' t', o=.exit 2 ⟨fr, [], ⟨up .e m', t', .lf⟩, .no, none, t85⟩∧m≤m'∧KeepF jaR fr0 fr∧∀ i, i<m→t'.get (up .e i)=t.get (up .e i):=by
 have:=iter_rule (JaI l.length m t fr0) (fun o=>∃ st, o=.exit 2 st∧JaI l.length m t fr0 0 st) (fun r st h=>ja_round lT hl hf g10 g13 a10 htb r st h) 100000 l.length _ ⟨_, 0, m, t, rfl, Nat.zero_add _, Nat.le_refl _, fun _ _=>rfl, g14, fun _ _=>rfl⟩ (by omega)
 rw [hit] at this
 obtain ⟨st, e, fr, k, m1, t', rfl, _, hm, kf, _, hfr⟩:=this
 exact ⟨fr, m1, t', e, hm, kf, hfr⟩
theorem jc_loop {seen:List (Bs×Bs)} {ref net pad:Bs} {l:List Bs} (hl:l.length<1000) (hs:seen.length<90000) (hno:∀ p∈l, (ref, p)∉seen) {lo hi' nb jb m:Nat} {v:AV} {t:Tr AB} {fr0:Tr AV} (hg:Grow 2 t lo hi' nb v (seen.map pinR)) {o:Out} (hit:iterA (execA RB (callN RB 49) c85_l2) 100000 ⟨fr0, [], ⟨up .e m, t, .lf⟩, .no, none, t85⟩=o)
  (g7:fr0.get t7=some v) (g9:fr0.get t9=some (.ptr (up .e jb) 0)) (g13:fr0.get t13=some (slV bsC ⟨1, l⟩)) (g17:fr0.get t17=some (.int .i64 (.ofNat 0))) (a9:t.get (up .e jb)=some (.cells [.str net, .str ref, .str pad] false)) :
  ∃ fr m', o=.exit 4 ⟨fr, [], ⟨up .e m', t, .lf⟩, .no, none, t85⟩∧m≤m'∧KeepF jaR fr0 fr:=by
 have:=iter_rule (JcI l.length m t fr0) (fun o=>∃ st, o=.exit 4 st∧JcI l.length m t fr0 0 st) (fun r st h=>jc_round hl hs hno hg g7 g9 g13 a9 r st h) 100000 l.length _ ⟨_, 0, m, rfl, Nat.zero_add _, Nat.le_refl _, fun _ _=>rfl, g17⟩ (by omega)
 rw [hit] at this
 obtain ⟨st, e, fr, k, m1, rfl, _, hm, kf, _⟩:=this
 exact ⟨fr, m1, e, hm, kf⟩
theorem jd_loop {seen:List (Bs×Bs)} {ref net pad:Bs} {l:List Bs} (hl:l.length<1000) (hs:seen.length<90000) {jb m nb:Nat} {v:AV} {t:Tr AB} {fr0:Tr AV} (hg:Grow 2 t 2 m nb v (seen.map pinR)) {o:Out} (hit:iterA (execA RB (callN RB 49) c85_l3) 100000 ⟨fr0, [], ⟨up .e m, t, .lf⟩, .no, none, t85⟩=o)
  (g7:fr0.get t7=some v) (g9:fr0.get t9=some (.ptr (up .e jb) 0)) (g13:fr0.get t13=some (slV bsC ⟨1, l⟩)) (g19:fr0.get t19=some (.int .i64 (.ofNat 0))) (a9:t.get (up .e jb)=some (.cells [.str net, .str ref, .str pad] false)) (hjb:jb<m) (hjn:2≤nb→jb≠nb) (h2:2≤m) (hnb:nb<m) :
  ∃ fr m' t' nb' v', o=.exit 8 ⟨fr, [], ⟨up .e m', t', .lf⟩, .no, none, t85⟩∧m≤m'∧KeepF jdR fr0 fr∧fr.get t7=some v'∧Grow 2 t' 2 m' nb' v' ((seen++l.map fun p=>(ref, p)).map pinR)∧∀ i, i<m→(2≤nb→i≠nb)→t'.get (up .e i)=t.get (up .e i):=by
 have:=iter_rule (JdI ref l seen m t nb fr0) (fun o=>∃ st, o=.exit 8 st∧JdI ref l seen m t nb fr0 0 st) (fun r st h=>jd_round hl hs g9 g13 a9 hjb hjn h2 hnb r st h) 100000 l.length _ ⟨_, 0, m, t, nb, v, rfl, Nat.zero_add _, Nat.le_refl _, fun _ _=>rfl, g19, g7, by rw [List.take_zero, List.map_nil, List.append_nil]; exact hg, fun _ _ _=>rfl, .inl rfl⟩ (by omega)
 rw [hit] at this
 obtain ⟨st, e, fr, k, m1, t', nb', v', rfl, hk, hm, kf, _, g7', hg', hfr, _⟩:=this
 rw [List.take_of_length_le (by omega)] at hg'
 exact ⟨fr, m1, t', nb', v', e, hm, kf, g7', hg', hfr⟩
structure JaOk (Ts:Sl TypD) (s:SheetD) (j:JoinD):Prop where
 net:(j.net, memF j.net)∈memT
 pad:(j.pad, memF j.pad)∈memT
 ne:memF j.pad≠[]
 lt:(memF j.pad).length<1000
 len:(memF j.net).length=(memF j.pad).length
 ty:∃ x T, s.syms.l.find? (fun x=>eqS x.ref j.ref)=some x∧Ts.l.find? (fun T=>eqS T.nm x.ty)=some T∧T.pads.l.length<90000∧∀ p∈memF j.pad, ∃ pd, findP T p=some pd
structure JeOK (Ts:Sl TypD) (s:SheetD):Prop where
 ls:s.syms.l.length<90000
 lT:Ts.l.length<90000
 lt:s.joins.l.length<90000
 all:(s.joins.l.flatMap pinsJ).length<90000
 nd:(s.joins.l.flatMap pinsJ).Nodup
 ok:∀ j∈s.joins.l, JaOk Ts s j
def JeI (top S V:AV) (Ts:Sl TypD) (s:SheetD) (pm:Bool) (r:Nat) (st:St):Prop:=∃ fr m t k nb v, st=⟨fr, [], ⟨up .e m, t, .lf⟩, .no, none, t85⟩∧k+r=s.joins.l.length∧2≤m ∧
 fr.get t2=some (.bool pm)∧fr.get t3=some (.ptr (up .e 0) 0)∧fr.get t4=some (.ptr (up .e 1) 0)∧fr.get t7=some v∧fr.get t8=some (.int .i64 (.ofNat k)) ∧
 Grow 2 t 2 m nb v (((s.joins.l.take k).flatMap pinsJ).map pinR)∧t.get (up .e 0)=some (.cells (dR top S Ts V) false)∧t.get (up .e 1)=some (.cells (sheetC s) false)
theorem je_round {top S V:AV} {Ts:Sl TypD} {s:SheetD} {pm:Bool} (ok:JeOK Ts s) (hf:frzs (dR top S Ts V)=true) (r:Nat) (st:St) (h:JeI top S V Ts s pm r st) :
  Stp (JeI top S V Ts s pm) (fun o=>∃ st, o=.exit 0 st∧JeI top S V Ts s pm 0 st) r (execA RB (callN RB 49) c85_l4 st):=by
 obtain ⟨fr, m, t, k, nb, v, rfl, hk, hm, g2, g3, g4, g7, g8, hg, a0, a1⟩:=h
 have hlt:=ok.lt
 have b0:=a0
 have b1:=a1
 simp only [dR] at b0
 simp only [sheetC] at b1
 cases r with
 | zero =>
  have hkn:(k<s.joins.l.length)=False:=eq_false (by omega)
  simp +decide only [c85_l4,SF,g4,g8,b1,len_slV,ltI_dec,hkn,stp_e]
  refine ⟨_, rfl, _, m, t, k, nb, v, rfl, hk, hm, ?_, ?_, ?_, ?_, ?_, hg, a0, a1⟩
  all_goals simp +decide only [gp,g2,g3,g4,g7,g8,if_false]
 | succ r =>
  have hkn:(k<s.joins.l.length)=True:=eq_true (by omega)
  obtain ⟨j, hka⟩:∃ j, s.joins.l[k]?=some j:=⟨_, List.getElem?_eq_getElem (by omega)⟩
  have hjm:=List.mem_of_getElem? hka
  have fj:=ok.ok j hjm
  obtain ⟨x, T, hx, hT, lp, hpf⟩:=fj.ty
  have ia:=at_slV (f:=joinC) (sz:=3) len_join (by decide) hka
  have hw:=wr_add k 1 (by omega)
  have htk:takeD (joinC j++(s.joins.l.drop (k+1)).flatMap joinC) 0 3=some (joinC j):=tk_join j _
  have htd:takeD (dR top S Ts V) 0 4=some (dR top S Ts V):=takeD_all rfl
  have hts:takeD (sheetC s) 0 6=some (sheetC s):=takeD_all rfl
  have hsy:∀ h, callN RB 49 (.fn t127 [] []) [.agg (dR top S Ts V), .agg (sheetC s), .str j.ref] h=.ret (.tup [.agg (tyC T), .bool true]) h:=fun h=>call_sum (by rw [List.nil_append, List.append_nil]; exact symbolA_sum ok.ls ok.lT hx hT hf h)
  have hm1:∀ h, callN RB 49 (.fn t124 [] []) [.str j.net, .bool pm] h=.ret (slV bsC ⟨1, memF j.net⟩) h:=fun h=>sBA (f:=48) rfl (memA_sum fj.net pm h)
  have hm2:∀ h, callN RB 49 (.fn t124 [] []) [.str j.pad, .bool false] h=.ret (slV bsC ⟨1, memF j.pad⟩) h:=fun h=>sBA (f:=48) rfl (memA_sum fj.pad false h)
  have hlp:0<(memF j.pad).length:=List.length_pos_iff.2 fj.ne
  have e1:eqI (.ofNat (memF j.net).length) (.ofNat 0)=false:=by
   rw [fj.len]
   cases hc:(memF j.pad).length with
   | zero=>omega
   | succ n=>rfl
  have e2:eqI (.ofNat (memF j.pad).length) (.ofNat 0)=false:=by
   cases hc:(memF j.pad).length with
   | zero=>omega
   | succ n=>rfl
  have e3:eqI (.ofNat (memF j.net).length) (.ofNat (memF j.pad).length)=true:=by
   rw [fj.len]
   show Nat.beq _ _=true
   rw [nbeq]
   exact decide_eq_true rfl
  have n0:(0=m)=False:=eq_false (by omega)
  have n0':∀ c, (0=m+c)=False:=fun c=>eq_false (by omega)
  have n1:(1=m)=False:=eq_false (by omega)
  have n1':∀ c, (1=m+c)=False:=fun c=>eq_false (by omega)
  have nm1:(m=m+1)=False:=eq_false (by omega)
  simp only [joinC] at ia htk
  simp only [dR, sheetC, tyC] at hsy
  simp only [dR] at htd
  simp only [sheetC] at hts
  simp +decide only [c85_l4,SF,Nat.reduceAdd,g2,g3,g4,g8,b0,b1,n0,n1,nm1,htd,hts,hsy,hm1,hm2,e1,e2,ltI_dec,hkn,ia,len_slV,kfB,List.getElem?_cons_zero,List.getElem?_cons_succ]
  generalize hit:iterA (execA RB (callN RB 49) c85_l0) _ _=o
  obtain ⟨fr2, m2, t2', rfl, hm2', kf, hfr⟩:=ja_loop (T:=T) lp fj.lt hpf (tb:=m+1) hit (by simp +decide only [gp,if_true,if_false]) (by simp +decide only [gp,if_true,if_false]) (by simp +decide only [gp,if_true,if_false])
   (by simp +decide only [gp,up_inj,tyC,if_true]) (by omega)
  clear hit
  have k2:fr2.get t2=some (.bool pm):=(kf t2 (by simp [jaR])).trans (by simp +decide only [gp,g2,if_false])
  have k3:fr2.get t3=some (.ptr (up .e 0) 0):=(kf t3 (by simp [jaR])).trans (by simp +decide only [gp,g3,if_false])
  have k4:fr2.get t4=some (.ptr (up .e 1) 0):=(kf t4 (by simp [jaR])).trans (by simp +decide only [gp,g4,if_false])
  have k7:fr2.get t7=some v:=(kf t7 (by simp [jaR])).trans (by simp +decide only [gp,g7,if_false])
  have k8:fr2.get t8=some (.int .i64 (.ofNat k)):=(kf t8 (by simp [jaR])).trans (by simp +decide only [gp,g8,if_false])
  have k9:fr2.get t9=some (.ptr (up .e m) 0):=(kf t9 (by simp [jaR])).trans (by simp +decide only [gp,if_true,if_false])
  have k12:fr2.get t12=some (slV bsC ⟨1, memF j.net⟩):=(kf t12 (by simp [jaR])).trans (by simp +decide only [gp,if_true,if_false])
  have k13:fr2.get t13=some (slV bsC ⟨1, memF j.pad⟩):=(kf t13 (by simp [jaR])).trans (by simp +decide only [gp,if_true,if_false])
  have c0:t2'.get (up .e 0)=some (.cells (dR top S Ts V) false):=(hfr 0 (by omega)).trans (by simp +decide only [gp,up_inj,n0,n0',a0,if_false])
  have c1:t2'.get (up .e 1)=some (.cells (sheetC s) false):=(hfr 1 (by omega)).trans (by simp +decide only [gp,up_inj,n1,n1',a1,if_false])
  have cm:t2'.get (up .e m)=some (.cells [.str j.net, .str j.ref, .str j.pad] false):=(hfr m (by omega)).trans (by simp +decide only [gp,up_inj,nm1,if_true,if_false])
  have hg2:Grow 2 t2' 2 m2 nb v (((s.joins.l.take k).flatMap pinsJ).map pinR):=hg.keep (by omega) fun _ hlt=>(hfr nb (by omega)).trans (by
   have q0:=nz0 hlt
   have q1:=nz hlt 1
   simp only [gp, up_inj, q0, q1, if_false])
  have hnb:nb<m2:=by
   rcases hg.lt with h | h<;>omega
  have hmn:2≤nb→m≠nb:=fun h=>by
   rcases hg.lt with h' | h'<;>omega
  clear kf hfr
  have htk1:s.joins.l.take (k+1)=s.joins.l.take k++[j]:=by rw [List.take_add_one, hka]; rfl
  have hsl:((s.joins.l.take k).flatMap pinsJ).length<90000:=by
   have:=ok.all
   rw [← List.take_append_drop k s.joins.l, List.flatMap_append, List.length_append] at this
   omega
  have hno:∀ p∈memF j.pad, (j.ref, p)∉(s.joins.l.take k).flatMap pinsJ:=fun p hp hin=>by
   have h1:((s.joins.l.take (k+1)).flatMap pinsJ).Nodup:=by
    have:=ok.nd
    rw [← List.take_append_drop (k+1) s.joins.l, List.flatMap_append] at this
    exact (List.nodup_append.1 this).1
   rw [htk1, List.flatMap_append] at h1
   exact (List.nodup_append.1 h1).2.2 _ hin _ (by simp only [List.flatMap_cons, List.flatMap_nil, List.append_nil, pinsJ]; exact List.mem_map.2 ⟨p, hp, rfl⟩) rfl
  simp +decide only [SF,k12,k13,len_slV,e3]
  generalize hit:iterA (execA RB (callN RB 49) c85_l2) _ _=o
  obtain ⟨fr3, m3, rfl, hm3, kf⟩:=jc_loop (jb:=m) fj.lt hsl hno hg2 hit (by simp +decide only [gp,k7,if_false]) (by simp +decide only [gp,k9,if_false]) (by simp +decide only [gp,k13,if_false]) (by simp +decide only [gp,if_true,if_false]) cm
  clear hit
  have q2:fr3.get t2=some (.bool pm):=(kf t2 (by simp [jaR])).trans (by simp +decide only [gp,k2,if_false])
  have q3:fr3.get t3=some (.ptr (up .e 0) 0):=(kf t3 (by simp [jaR])).trans (by simp +decide only [gp,k3,if_false])
  have q4:fr3.get t4=some (.ptr (up .e 1) 0):=(kf t4 (by simp [jaR])).trans (by simp +decide only [gp,k4,if_false])
  have q7:fr3.get t7=some v:=(kf t7 (by simp [jaR])).trans (by simp +decide only [gp,k7,if_false])
  have q8:fr3.get t8=some (.int .i64 (.ofNat k)):=(kf t8 (by simp [jaR])).trans (by simp +decide only [gp,k8,if_false])
  have q9:fr3.get t9=some (.ptr (up .e m) 0):=(kf t9 (by simp [jaR])).trans (by simp +decide only [gp,k9,if_false])
  have q13:fr3.get t13=some (slV bsC ⟨1, memF j.pad⟩):=(kf t13 (by simp [jaR])).trans (by simp +decide only [gp,k13,if_false])
  clear kf
  simp +decide only [SF]
  generalize hit:iterA (execA RB (callN RB 49) c85_l3) _ _=o
  obtain ⟨fr4, m4, t4', nb4, v4, rfl, hm4, kf, w7, hg4, hfr⟩:=jd_loop (ref:=j.ref) (net:=j.net) (pad:=j.pad) (jb:=m) fj.lt hsl (hg2.keep hm3 fun _ _=>rfl) hit (by simp +decide only [gp,q7,if_false]) (by simp +decide only [gp,q9,if_false]) (by simp +decide only [gp,q13,if_false]) (by simp +decide only [gp,if_true]) cm (by omega) hmn (by omega) (by omega)
  clear hit
  have w2:fr4.get t2=some (.bool pm):=(kf t2 (by simp [jdR])).trans (by simp +decide only [gp,q2,if_false])
  have w3:fr4.get t3=some (.ptr (up .e 0) 0):=(kf t3 (by simp [jdR])).trans (by simp +decide only [gp,q3,if_false])
  have w4:fr4.get t4=some (.ptr (up .e 1) 0):=(kf t4 (by simp [jdR])).trans (by simp +decide only [gp,q4,if_false])
  have w8:fr4.get t8=some (.int .i64 (.ofNat k)):=(kf t8 (by simp [jdR])).trans (by simp +decide only [gp,q8,if_false])
  clear kf
  have hg5:Grow 2 t4' 2 m4 nb4 v4 (((s.joins.l.take (k+1)).flatMap pinsJ).map pinR):=by
   rw [htk1, List.flatMap_append]
   simp only [List.flatMap_cons, List.flatMap_nil, List.append_nil, pinsJ]
   exact hg4
  simp +decide only [SF,w8,hw,stp_n]
  refine ⟨r, by omega, _, m4, t4', k+1, nb4, v4, rfl, by omega, by omega, ?_, ?_, ?_, ?_, ?_, hg5, (hfr 0 (by omega) (fun h=>by omega)).trans c0, (hfr 1 (by omega) (fun h=>by omega)).trans c1⟩
  all_goals simp +decide only [gp,w2,w3,w4,w7,if_true,if_false]
theorem joinsA_sum {top S V:AV} {Ts:Sl TypD} {s:SheetD} (ok:JeOK Ts s) (pm:Bool) (hf:frzs (dR top S Ts V)=true) (h:H):RC.sums t85 [.agg (dR top S Ts V), .agg (sheetC s), .bool pm] h=some i0:=by
 have hs:∀ xs, RB.sums t85 xs h0=none:=fun _=>rfl
 have hF:RB.funcs.get t85=some c85:=rfl
 have hr:Ret (callN RB 50 (.fn t85 [] []) [.agg (dR top S Ts V), .agg (sheetC s), .bool pm] h0) (fun v h=>v=i0):=by
  refine begin3 (hs _) hF fun fr t ga gb gc => ?_
  rw [c85]
  have ga':=ga
  have gb':=gb
  simp only [dR] at ga'
  simp only [sheetC] at gb'
  simp +decide only [SK,Nat.reduceAdd,ga',gb',kfB]
  generalize hit:iterA (execA RB (callN RB 49) c85_l4) _ _=o
  have ho:∃ st, o=.exit 0 st∧JeI top S V Ts s pm 0 st:=by
   rw [← hit]
   refine iter_rule (JeI top S V Ts s pm) _ (fun r st h=>je_round ok hf r st h) 100000 s.joins.l.length _ ⟨_, 2, _, 0, 0, .nils, rfl, Nat.zero_add _, Nat.le_refl _, ?_, ?_, ?_, ?_, ?_, .inl ⟨rfl, rfl, rfl⟩, ?_, ?_⟩ (by have:=ok.lt; omega)
   all_goals simp +decide only [gp,gc,dR,sheetC,if_true,if_false]
  clear hit
  obtain ⟨st, rfl, fr', m, t', k, nb, v, rfl, _⟩:=ho
  simp +decide only [SM]
 obtain ⟨v, h1, hc, rfl⟩:=hr
 exact over_fz' (X:=RB) rfl hc (by simp only [frzs, frz, frz_sheet, hf, Bool.and_self]) rfl h
end Go.Abs.Sym
end
end
