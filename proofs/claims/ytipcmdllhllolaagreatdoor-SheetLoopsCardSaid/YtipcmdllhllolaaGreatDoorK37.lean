/- Copy of a design: a round of the loop over the sheets. -/
import Derived.Test.YtipcmdllhllolaaGreatDoorK36
noncomputable section
section
namespace Go.Abs.Sym
open Go.Abs.T
open Go.Proofs
variable {X:Ctx}
def RowC (t:Tr AB) (m:Nat) (Mu:List Nat) (s:SheetD) (row:List AV) (nb:Nat):Prop:=∃ p w y j u, row=[.str s.nm, p, w, y, j, u]∧Fz 1 t m Mu p (slV bsC (cpL s.ports))∧Fz 1 t m Mu w (slV bsC (cpL s.power)) ∧
 Fz 3 t m Mu y (slV symC ⟨0, s.syms.l.map cpSy⟩)∧Fz 1 t m Mu j (slV joinC (cpL s.joins))∧GrowF 2 t m Mu 3 nb u ((s.subs.l.map cpSu).map subC)∧(0<s.subs.l.length→nb<m)
theorem RowC.step {t t':Tr AB} {m m':Nat} {Mu Mu':List Nat} {s:SheetD} {row:List AV} {nb:Nat} (h:RowC t m Mu s row nb) (hm:m≤m') (hk:Agr t t' m Mu) (hM:∀ i∈Mu', i∈Mu∨m≤i) (hM':∀ i∈Mu, i∈Mu') (hb:0<s.subs.l.length→t'.get (up .e nb)=t.get (up .e nb)):RowC t' m' Mu' s row nb:=by
 obtain ⟨p, w, y, j, u, e, h1, h2, h3, h4, h5, h6⟩:=h
 exact ⟨p, w, y, j, u, e, h1.step hm hk hM, h2.step hm hk hM, h3.step hm hk hM, h4.step hm hk hM, h5.step hm hk (fun h0 _=>hb (by simpa using h0)) hM (hM' nb), fun h0=>Nat.lt_of_lt_of_le (h6 h0) hm⟩
theorem RowC.len {t:Tr AB} {m:Nat} {Mu:List Nat} {s:SheetD} {row:List AV} {nb:Nat} (h:RowC t m Mu s row nb):row.length=6:=by
 obtain ⟨p, w, y, j, u, rfl, _⟩:=h
 rfl
structure CpO (S:List SheetD) (t:Tr AB) (m ob:Nat) (Mu:List Nat) (tp tv vv:AV) (aT aV:AV) (ov:AV) (nbO:Nat) (rs:List (List AV)) (nbs:List Nat) (i:Nat):Prop where
 out:t.get (up .e ob)=some (.cells [tp, ov, tv, vv] false)
 gr:Grow 6 t 1 m nbO ov rs
 len:rs.length=i
 nlen:nbs.length=i
 row:∀ (k:Nat) s row nb, S[k]?=some s→rs[k]?=some row→nbs[k]?=some nb→RowC t m Mu s row nb
 zt:Fz 1 t m Mu tv aT
 zv:Fz 1 t m Mu vv aV
 MO:0<i→nbO∈Mu
 Mo:ob∈Mu
 Mb:∀ x∈Mu, x<m
 lo:0<ob
 oO:0<i→nbO≠ob
 sep:∀ (k:Nat) s nb, S[k]?=some s→nbs[k]?=some nb→0<s.subs.l.length→nb≠ob∧nb≠nbO
 upn:∀ (k:Nat) s nb, S[k]?=some s→nbs[k]?=some nb→0<s.subs.l.length→ob<nb
 upO:0<i→ob<nbO
 dis:∀ (k l:Nat) s s' nb nb', k<l→S[k]?=some s→S[l]?=some s'→nbs[k]?=some nb→nbs[l]?=some nb'→0<s.subs.l.length→0<s'.subs.l.length→nb≠nb'
theorem cp_p4 {f:Nat} {fr:Tr AV} {m m6 ob nbO:Nat} {t:Tr AB} {tp tv vv ov:AV} {rs:List (List AV)} {row:List AV} (g3:fr.get t3=some (.ptr (up .e ob) 0)) (g6:fr.get t6=some (.ptr (up .e m6) 0)) (ao:t.get (up .e ob)=some (.cells [tp, ov, tv, vv] false)) (a6:t.get (up .e m6)=some (.cells row false))
  (hG:Grow 6 t 1 m nbO ov rs) (hr6:row.length=6) (hone:Abs.ones row=true) (hlen:∀ r∈rs, r.length=6) (hn:rs.length<1000) (h6:m6<m) (ho:ob<m) (hm1:1≤m) (hoO:0<rs.length→nbO≠ob) :
  ∃ fr' t' ov', execA X (callN X f) c14_p4 ⟨fr, [], ⟨up .e m, t, .lf⟩, .no, none, t14⟩=.nrm ⟨fr', [], ⟨up .e (m+2), t', .lf⟩, .no, none, t14⟩∧KeepF cpR fr fr'∧fr'.get t4=fr.get t4∧t'.get (up .e ob)=some (.cells [tp, ov', tv, vv] false)∧Grow 6 t' 1 (m+2) (m+1) ov' (rs++[row]) ∧
   ∀ i, i<m→i≠ob→(0<rs.length→i≠nbO)→t'.get (up .e i)=t.get (up .e i):=by
 have n6:=nz h6
 have n60:=nz0 h6
 have no:=nz ho
 have no0:=nz0 ho
 have htk:takeD row 0 6=some row:=takeD_all hr6
 match row, hr6, hone, a6, htk with
 | [r0, r1, r2, r3, r4, r5], hr6, hone, a6, htk =>
 have hgl:Grow 6 (t.put (up .e m) (.cells [r0, r1, r2, r3, r4, r5] false)) 1 (m+1) nbO ov rs:=hG.keep (by omega) (fun h1 h2=>by rw [gp, if_neg (fun e=>by rw [up_inj] at e; omega)])
 have hov:ov.one=true:=hG.one
 simp +decide only [c14_p4,SF,Nat.reduceAdd,g3,g6,ao,a6,htk]
 generalize hA:appendA _ 6 136 _ _=A
 have hQ:=hgl.append (row:=[r0, r1, r2, r3, r4, r5]) (x:=m) (sp:=false) hA (by rw [gp, if_pos rfl]) rfl hone hlen (by decide) (by omega) (by omega)
 obtain ⟨t2, hA2, d1, d2, d3⟩:=hQ
 subst hA2
 have qo:t2.get (up .e ob)=some (.cells [tp, ov, tv, vv] false):=by
  rw [d2 ob (by omega) (fun hb1 hb2 e=>by
   rcases hG with ⟨_, _, h0⟩ | ⟨hp, _⟩
   ·omega
   ·exact hoO hp e.symm), gp, if_neg (fun e=>by rw [up_inj] at e; omega)]
  exact ao
 simp +decide only [SF,Nat.reduceAdd,g3,qo]
 refine ⟨_, _, .slc (up .e (m+1)) 0 (rs.length+1) 6 none, rfl, ?_, ?_, ?_, ?_, fun i hi h1 h2 => ?_⟩
 ·simp +decide only [KeepF_put]
  exact fun _ _=>rfl
 ·simp +decide only [gp,if_false]
 ·rw [gp, if_pos rfl]
 ·exact d3.keep (Nat.le_refl _) (fun _ _=>by rw [gp, if_neg (fun e=>by rw [up_inj] at e; omega)])
 ·rw [gp, if_neg (fun e=>h1 (by rw [up_inj] at e; exact e)), d2 i (by omega) (fun hb1 hb2 e=>by
   rcases hG with ⟨_, _, h0⟩ | ⟨hp, _⟩
   ·omega
   ·exact h2 hp e), gp, if_neg (fun e=>by rw [up_inj] at e; omega)]
end Go.Abs.Sym
end
section
namespace Go.Abs.Sym
open Go.Abs.T
open Go.Proofs
variable {X:Ctx}
section
variable {call:CallF}
theorem ex_seq {a b:ACode} {s s':St} (h:execA X call a s=.nrm s'):execA X call (.seq a b) s=execA X call b s':=by simp only [execA, h]
theorem ex_block {id:Nat} {a:ACode} {s s':St} (h:execA X call a s=.nrm s'):execA X call (.block id a) s=.nrm s':=by simp only [execA, h]
end
structure Mod (s:SheetD):Prop where
 p:s.ports.l.length≤1000
 w:s.power.l.length≤1000
 j:s.joins.l.length≤1000
 y:s.syms.l.length≤1000
 u:s.subs.l.length≤100
 yn:∀ x∈s.syms.l, x.nots.l.length≤1000
 ub:∀ x∈s.subs.l, x.binds.l.length≤1000
theorem cp_sheet (hfu:X.fuel=100000) {f:Nat} {d:DesD} {i:Nat} {s:SheetD} (hi:d.sheets.l[i]?=some s) (ms:Mod s) {fr:Tr AV} {m bx:Nat} {t:Tr AB} {Mu:List Nat} (g1:fr.get t1=some (.ptr (up .e bx) 0)) (g4:fr.get t4=some (.int .i64 (.ofNat i))) (a0:t.get (up .e bx)=some (.cells (desC d) false)) (h0:bx<m) (hb:∀ i∈Mu, i<m) :
  ∃ fr' m' t' m6 row nb MuS, execA X (callN X f) (.seq c14_p0 (.seq c14_p1 (.seq c14_p2 (.seq c14_p3 c14_p4)))) ⟨fr, [], ⟨up .e m, t, .lf⟩, .no, none, t14⟩=execA X (callN X f) c14_p4 ⟨fr', [], ⟨up .e m', t', .lf⟩, .no, none, t14⟩∧m<m'∧KeepF [t1, t2, t3, t4] fr fr'∧fr'.get t6=some (.ptr (up .e m6) 0) ∧
   m≤m6∧m6<m'∧t'.get (up .e m6)=some (.cells row false)∧Abs.ones row=true∧RowC t' m' MuS s row nb∧(∀ i∈Mu, i∈MuS)∧m6∈MuS∧(∀ i∈MuS, i∈Mu∨m≤i∧i<m')∧(0<s.subs.l.length→m≤nb∧nb<m'∧nb≠m6)∧(0<s.subs.l.length→nb∈MuS)∧∀ i, i<m→t'.get (up .e i)=t.get (up .e i):=by
 obtain ⟨f0, u0, x0, k0, q0, b0, r0⟩:=cp_p0 (f:=f) hi g1 g4 a0 h0
 obtain ⟨f1, m1, u1, pv, wv, jv, x1, l1, k1, q1, b1, r1, z1⟩:=cp_p1 (f:=f) ms.p ms.w ms.j q0 b0 (Nat.lt_succ_self m)
 have e5:f1.get t5=some (.ptr (up .e m) 0):=(k1 t5 (by simp)).trans q0
 have d5:u1.get (up .e m)=some (.cells (sheetC s) false):=(r1 m (by omega)).trans b0
 have hb1:∀ i∈(m+1+15)::Mu, i<m1:=fun i hi=>by
  rcases List.mem_cons.1 hi with h | h
  ·omega
  ·have:=hb i h; omega
 obtain ⟨zp, zw, zj⟩:=z1 ((m+1+15)::Mu) (fun i hi=>by
  rcases List.mem_cons.1 hi with h | h
  ·exact .inr (by omega)
  ·have:=hb i h; exact .inl (by omega))
 obtain ⟨f2, m2, u2, nbY, sv, MuY, x2, l2, k2, b2, gY, inY, bdY, nY, r2⟩:=cp_p2 hfu (f:=f) ms.y ms.yn (m0:=m1) e5 q1 d5 b1 (by omega) (by omega) (by omega) (List.mem_cons_self (l:=Mu)) hb1
 have f6:f2.get t6=some (.ptr (up .e (m+1+15)) 0):=(k2 t6 (by simp [cpR])).trans q1
 have f5:f2.get t5=some (.ptr (up .e m) 0):=(k2 t5 (by simp [cpR])).trans e5
 have d5':u2.get (up .e m)=some (.cells (sheetC s) false):=(r2 m (by omega) (by omega)).trans d5
 have hb2:∀ i∈(m+1+15)::Mu, i<m2:=fun i hi=>by have:=hb1 i hi; omega
 have zy:Fz 3 u2 m2 ((m+1+15)::Mu) sv (slV symC ⟨0, s.syms.l.map cpSy⟩):=gY.fz inY (fun h0 h=>by
  have:=nY (by simpa using h0)
  have:=hb1 nbY h
  omega)
 obtain ⟨f3, m3, u3, nbU, uv, MuU, x3, l3, k3, b3, gU, inU, bdU, nU, r3⟩:=cp_p3 hfu (f:=f) (Nat.le_trans ms.u (by decide)) ms.ub (m0:=m2) f5 f6 d5' b2 (by omega) (by omega) (by omega) (List.mem_cons_self (l:=Mu)) hb2
 have ag12:Agr u1 u2 m1 ((m+1+15)::Mu):=fun i hi hn=>r2 i hi (fun e=>hn (by rw [e]; exact List.mem_cons_self))
 have ag23:Agr u2 u3 m2 ((m+1+15)::Mu):=fun i hi hn=>r3 i hi (fun e=>hn (by rw [e]; exact List.mem_cons_self))
 have hMU:∀ i∈MuU, i∈(m+1+15)::Mu∨m2≤i:=fun i hi=>(bdU i hi).imp id (fun h=>h.1)
 have tr:=fun (v a:AV) (q:Fz 1 u1 m1 ((m+1+15)::Mu) v a)=>(q.step (m':=m2) l2 ag12 (fun i hi=>.inl hi)).step (m':=m3) (Mu':=MuU) l3 ag23 hMU
 refine ⟨f3, m3, u3, m+1+15, [.str s.nm, pv, wv, sv, jv, uv], nbU, MuU, ?_, by omega, fun p hp => ?_, (k3 t6 (by simp [cpR])).trans f6, by omega, by omega, b3, ?_, ⟨pv, wv, sv, jv, uv, rfl, tr _ _ zp, tr _ _ zw, zy.step (m':=m3) (Mu':=MuU) l3 ag23 hMU, tr _ _ zj, gU, fun h=>(nU h).2⟩,
  fun i hi=>inU i (List.mem_cons_of_mem _ hi), inU _ List.mem_cons_self, fun i hi => ?_, fun h => ?_, fun h=>gU.mem (by simpa using h), fun i hi => ?_⟩
 ·exact (ex_seq x0).trans ((ex_seq x1).trans ((ex_seq x2).trans (ex_seq x3)))
 ·have hp5:p∈cpR:=by
   simp only [List.mem_cons, List.not_mem_nil, or_false] at hp
   rcases hp with rfl | rfl | rfl | rfl<;>simp [cpR]
  have hp4:p∈[t1, t2, t3, t4, t5]:=by
   simp only [List.mem_cons, List.not_mem_nil, or_false] at hp ⊢
   rcases hp with rfl | rfl | rfl | rfl<;>simp
  exact (k3 p hp5).trans ((k2 p hp5).trans ((k1 p hp4).trans (k0 p hp)))
 ·simp only [Abs.ones, on_str, zp.1, zw.1, zj.1, gU.one, zy.1, Bool.and_self]
 ·rcases bdU i hi with h | h
  ·rcases List.mem_cons.1 h with h | h
   ·exact .inr (by omega)
   ·exact .inl h
  ·exact .inr (by omega)
 ·have:=nU h
  omega
 ·rw [r3 i (by omega) (by omega), r2 i (by omega) (by omega), r1 i (by omega), r0 i hi]
end Go.Abs.Sym
end
section
namespace Go.Abs.Sym
open Go.Abs.T
open Go.Proofs
variable {X:Ctx}
theorem get_snoc {α:Type} {l:List α} {a x:α} {k n:Nat} (hn:l.length=n) (h:(l++[a])[k]?=some x):k<n∧l[k]?=some x∨k=n∧x=a:=by
 rcases Nat.lt_or_ge k l.length with h1 | h1
 ·rw [List.getElem?_append_left h1] at h
  exact .inl ⟨by omega, h⟩
 ·rw [List.getElem?_append_right h1] at h
  rcases Nat.eq_zero_or_pos (k - l.length) with h2 | h2
  ·rw [h2] at h
   cases h
   exact .inr ⟨by omega, rfl⟩
  ·rw [List.getElem?_eq_none (by simp; omega)] at h
   cases h
theorem CpO.rlen {S:List SheetD} {t:Tr AB} {m ob:Nat} {Mu:List Nat} {tp tv vv aT aV ov:AV} {nbO:Nat} {rs:List (List AV)} {nbs:List Nat} {i:Nat} (h:CpO S t m ob Mu tp tv vv aT aV ov nbO rs nbs i) (hi:i≤S.length):∀ r∈rs, r.length=6:=by
 intro r hr
 obtain ⟨k, hk⟩:=List.mem_iff_getElem?.1 hr
 have hk1:=(List.getElem?_eq_some_iff.1 hk).1
 have h1:=h.len
 have h2:=h.nlen
 exact (h.row k _ r _ (List.getElem?_eq_getElem (by omega)) hk (List.getElem?_eq_getElem (by omega))).len
theorem CpO.snoc {S:List SheetD} {t u t4:Tr AB} {m m3 ob:Nat} {Mu MuS:List Nat} {tp tv vv aT aV ov ov':AV} {nbO:Nat} {rs:List (List AV)} {nbs:List Nat} {i:Nat} (h:CpO S t m ob Mu tp tv vv aT aV ov nbO rs nbs i) {s:SheetD} {row:List AV} {nb:Nat} (hs:S[i]?=some s) (hm:m<m3)
  (hu:∀ x, x<m→u.get (up .e x)=t.get (up .e x)) (hr:RowC u m3 MuS s row nb) (hM1:∀ x∈Mu, x∈MuS) (hM2:∀ x∈MuS, x∈Mu∨m≤x∧x<m3) (hnb:0<s.subs.l.length→m≤nb∧nb<m3)
  (ho:t4.get (up .e ob)=some (.cells [tp, ov', tv, vv] false)) (hg:Grow 6 t4 1 (m3+2) (m3+1) ov' (rs++[row])) (hk:∀ x, x<m3→x≠ob→(0<rs.length→x≠nbO)→t4.get (up .e x)=u.get (up .e x)) :
  CpO S t4 (m3+2) ob ((m3+1)::MuS) tp tv vv aT aV ov' (m3+1) (rs++[row]) (nbs++[nb]) (i+1):=by
 have hl:=h.len
 have hom:=h.Mb ob h.Mo
 have hkt:∀ x, x<m→x≠ob→(0<i→x≠nbO)→t4.get (up .e x)=t.get (up .e x):=fun x hx h1 h2=>(hk x (by omega) h1 (fun h0=>h2 (by omega))).trans (hu x hx)
 have ag:Agr t t4 m Mu:=fun x hx hn=>hkt x hx (fun e=>hn (e▸h.Mo)) (fun h0 e=>hn (e▸h.MO h0))
 have agu:Agr u t4 m3 MuS:=fun x hx hn=>hk x hx (fun e=>hn (e▸hM1 _ h.Mo)) (fun h0 e=>hn (e▸hM1 _ (h.MO (by omega))))
 have hMu:∀ x∈(m3+1)::MuS, x∈Mu∨m≤x:=fun x hx=>by
  rcases List.mem_cons.1 hx with h | h
  ·exact .inr (by omega)
  ·exact (hM2 x h).imp id (fun h=>h.1)
 have hnO:0<i→nbO<m:=fun h0=>h.Mb _ (h.MO h0)
 have hold:∀ (k:Nat) s nb, S[k]?=some s→nbs[k]?=some nb→0<s.subs.l.length→nb<m:=fun k s nb h1 h2 h0=>by
  have hk1:=(List.getElem?_eq_some_iff.1 h2).1
  have hn:=h.nlen
  obtain ⟨p, w, y, j, u', _, _, _, _, _, _, h6⟩:=h.row k s _ nb h1 (List.getElem?_eq_getElem (by omega)) h2
  exact h6 h0
 refine { out:=ho, gr:=hg, len:=by simp [hl], nlen:=by simp [h.nlen], row:=?_, zt:=h.zt.step (by omega) ag hMu, zv:=h.zv.step (by omega) ag hMu, MO:=fun _=>List.mem_cons_self, Mo:=List.mem_cons_of_mem _ (hM1 _ h.Mo), Mb:=?_, lo:=h.lo, oO:=fun _=>by omega, sep:=?_, upn:=?_, upO:=fun _=>by omega, dis:=?_ }
 ·intro k s' row' nb' h1 h2 h3
  rcases get_snoc hl h2 with ⟨hk1, h2⟩ | ⟨hk1, rfl⟩
  ·rcases get_snoc h.nlen h3 with ⟨_, h3⟩ | ⟨h4, _⟩
   ·refine (h.row k s' row' nb' h1 h2 h3).step (by omega) ag hMu (fun x hx=>List.mem_cons_of_mem _ (hM1 x hx)) (fun h0 => ?_)
    obtain ⟨e1, e2⟩:=h.sep k s' nb' h1 h3 h0
    exact hkt nb' (hold k s' nb' h1 h3 h0) e1 (fun _=>e2)
   ·omega
  ·subst hk1
   rcases get_snoc h.nlen h3 with ⟨h4, _⟩ | ⟨_, rfl⟩
   ·omega
   ·rw [hs] at h1
    cases h1
    refine hr.step (by omega) agu (fun x hx => ?_) (fun x hx=>List.mem_cons_of_mem _ hx) (fun h0 => ?_)
    ·rcases List.mem_cons.1 hx with h | h
     ·exact .inr (by omega)
     ·exact .inl h
    ·have:=hnb h0
     exact hk nb' this.2 (by omega) (fun h1 e=>by have:=hnO (by omega); omega)
 ·intro x hx
  rcases List.mem_cons.1 hx with h1 | h1
  ·omega
  ·rcases hM2 x h1 with h2 | h2
   ·have:=h.Mb x h2; omega
   ·omega
 ·intro k s' nb' h1 h3 h0
  rcases get_snoc h.nlen h3 with ⟨hk1, h3⟩ | ⟨hk1, rfl⟩
  ·have:=hold k s' nb' h1 h3 h0
   exact ⟨(h.sep k s' nb' h1 h3 h0).1, by omega⟩
  ·subst hk1
   rw [hs] at h1
   cases h1
   have:=hnb h0
   exact ⟨by omega, by omega⟩
 ·intro k s' nb' h1 h3 h0
  rcases get_snoc h.nlen h3 with ⟨hk1, h3⟩ | ⟨hk1, rfl⟩
  ·exact h.upn k s' nb' h1 h3 h0
  ·subst hk1
   rw [hs] at h1
   cases h1
   have:=hnb h0
   omega
 ·intro k l s1 s2 nb1 nb2 hkl h1 h2 h3 h4 h5 h6
  rcases get_snoc h.nlen h4 with ⟨hl1, h4⟩ | ⟨hl1, rfl⟩
  ·rcases get_snoc h.nlen h3 with ⟨_, h3⟩ | ⟨h7, _⟩
   ·exact h.dis k l s1 s2 nb1 nb2 hkl h1 h2 h3 h4 h5 h6
   ·omega
  ·subst hl1
   rw [hs] at h2
   cases h2
   rcases get_snoc h.nlen h3 with ⟨_, h3⟩ | ⟨h7, _⟩
   ·have:=hold k s1 nb1 h1 h3 h5
    have:=hnb h6
    omega
   ·omega
theorem CpO.put {S:List SheetD} {t:Tr AB} {m ob:Nat} {Mu:List Nat} {tp tv vv aT aV ov:AV} {nbO:Nat} {rs:List (List AV)} {nbs:List Nat} {i:Nat} (h:CpO S t m ob Mu tp tv vv aT aV ov nbO rs nbs i) {x:Nat} (hx:x∈Mu) (hxo:x<ob) (b:AB):CpO S (t.put (up .e x) b) m ob Mu tp tv vv aT aV ov nbO rs nbs i:=by
 have ag:Agr t (t.put (up .e x) b) m Mu:=(Agr.refl t m Mu).put (.inl hx) b
 have hk:∀ j, j≠x→(t.put (up .e x) b).get (up .e j)=t.get (up .e j):=fun j hj=>by rw [gp, if_neg (fun e=>hj (by rw [up_inj] at e; exact e))]
 exact { h with
  out:=(hk ob (by omega)).trans h.out
  gr := h.gr.keep (Nat.le_refl _) (fun h1 h2=>hk nbO (fun e=>by
   rcases h.gr with ⟨_, _, h0⟩ | ⟨hp, _⟩
   ·omega
   ·have:=h.upO (by rw [← h.len]; exact hp)
    omega))
  row:=fun k s row nb h1 h2 h3=>(h.row k s row nb h1 h2 h3).step (Nat.le_refl _) ag (fun i hi=>.inl hi) (fun i hi=>hi) (fun h0=>hk nb (by have:=h.upn k s nb h1 h3 h0; omega))
  zt:=h.zt.step (Nat.le_refl _) ag (fun i hi=>.inl hi)
  zv:=h.zv.step (Nat.le_refl _) ag (fun i hi=>.inl hi) }
def CoI (d:DesD) (u0:Tr AB) (bx ob:Nat) (aT aV:AV) (r:Nat) (st:St):Prop:=∃ fr m t i Mu tv vv ov nbO rs nbs, st=⟨fr, [], ⟨up .e m, t, .lf⟩, .no, none, t14⟩∧i+r=d.sheets.l.length∧fr.get t1=some (.ptr (up .e bx) 0)∧fr.get t2=some (.ptr (up .e (bx+1)) 0)∧fr.get t3=some (.ptr (up .e ob) 0)∧fr.get t4=some (.int .i64 (.ofNat i)) ∧
 t.get (up .e bx)=some (.cells (desC d) false)∧t.get (up .e (bx+1))=some (.cells [e0, .nils, .nils, .nils] false)∧CpO d.sheets.l t m ob Mu (.str d.top) tv vv aT aV ov nbO rs nbs i∧bx+1<ob∧bx+1∈Mu∧∀ x, x<bx→t.get (up .e x)=u0.get (up .e x)
theorem co_round (hfu:X.fuel=100000) {f:Nat} {d:DesD} (hl:d.sheets.l.length<1000) (hm:∀ s∈d.sheets.l, Mod s) {u0:Tr AB} {bx ob:Nat} {aT aV:AV} (r:Nat) (st:St) (h:CoI d u0 bx ob aT aV r st) :
  Stp (CoI d u0 bx ob aT aV) (fun o=>∃ st, o=.exit 0 st∧CoI d u0 bx ob aT aV 0 st) r (execA X (callN X f) c14_l2 st):=by
 obtain ⟨fr, m, t, i, Mu, tv, vv, ov, nbO, rs, nbs, rfl, hi, g1, g2, g3, g4, a0, a1, hO, h1o, hbM, hfr⟩:=h
 have hom:=hO.Mb ob hO.Mo
 have a0':=a0
 simp only [desC] at a0'
 rw [c14_l2]
 cases r with
 | zero =>
  have hkn:(i<d.sheets.l.length)=False:=eq_false (by omega)
  simp +decide only [SF,g1,a0',g4,len_slV,ltI_dec,hkn,stp_e]
  refine ⟨_, rfl, _, m, t, i, Mu, tv, vv, ov, nbO, rs, nbs, rfl, hi, ?_, ?_, ?_, ?_, a0, a1, hO, h1o, hbM, hfr⟩
  all_goals simp +decide only [gp,g1,g2,g3,g4,if_false]
 | succ r =>
  have hkn:(i<d.sheets.l.length)=True:=eq_true (by omega)
  obtain ⟨s, hs⟩:∃ s, d.sheets.l[i]?=some s:=⟨_, List.getElem?_eq_getElem (by omega)⟩
  obtain ⟨fr1, hc, kf1⟩:∃ fr1, execA X (callN X f) (.seq (.reg [⟨s22, .mov, [v4], none⟩, ⟨s23, .fieldAddr 1, [v1], none⟩, ⟨s24, .load none, [v23], none⟩, ⟨s25, .len .slc, [v24], none⟩, ⟨s26, .bin .lss .one, [v22, v25], none⟩]) (.cond v26 .skip (.exit 0))) ⟨fr, [], ⟨up .e m, t, .lf⟩, .no, none, t14⟩=.nrm ⟨fr1, [], ⟨up .e m, t, .lf⟩, .no, none, t14⟩∧KeepF [t1, t2, t3, t4] fr fr1:=by
   simp +decide only [SF,g1,a0',g4,len_slV,ltI_dec,hkn]
   refine ⟨_, rfl, ?_⟩
   simp +decide only [KeepF_put]
   exact fun _ _=>rfl
  have p1:=(kf1 t1 (by simp)).trans g1
  have p2:=(kf1 t2 (by simp)).trans g2
  have p3:=(kf1 t3 (by simp)).trans g3
  have p4:=(kf1 t4 (by simp)).trans g4
  obtain ⟨fr2, m3, u, m6, row, nb, MuS, hx, hmm, kf2, q6, l6, l6', b6, ho6, hr, hM1, hM6, hM2, hnb, _, hu⟩:=cp_sheet hfu (f:=f) hs (hm s (List.mem_of_getElem? hs)) p1 p4 a0 (by omega) hO.Mb
  have q3:=(kf2 t3 (by simp)).trans p3
  have hlr:=hO.len
  obtain ⟨fr3, t4', ov', hy, kf3, h4, hout, hg, hk⟩:=cp_p4 (f:=f) q3 q6 ((hu ob hom).trans hO.out) b6 (hO.gr.keep (by omega) (fun _ h2=>hu nbO h2)) hr.len ho6 (hO.rlen (by omega)) (by omega) l6' (by omega) (by omega) (fun h0=>hO.oO (by omega))
  have hN:=hO.snoc hs hmm hu hr hM1 hM2 (fun h0=>⟨(hnb h0).1, (hnb h0).2.1⟩) hout hg hk
  have hw:=wr_add i 1 (by omega)
  rw [ex_seq hc, ex_seq (ex_block (hx.trans hy))]
  have j4:fr3.get t4=some (.int .i64 (.ofNat i)):=h4.trans ((kf2 t4 (by simp)).trans p4)
  simp +decide only [SF,j4,hw,stp_n]
  refine ⟨r, by omega, _, m3+2, t4', i+1, (m3+1)::MuS, tv, vv, ov', m3+1, rs++[row], nbs++[nb], rfl, by omega, ?_, ?_, ?_, ?_, ?_, ?_, hN, h1o, List.mem_cons_of_mem _ (hM1 _ hbM), fun x hx=>by rw [hk x (by omega) (by omega) (fun h0 e=>by have:=hO.upO (by omega); omega), hu x (by omega)]; exact hfr x hx⟩
  ·simp +decide only [gp,if_false]
   exact (kf3 t1 (by simp [cpR])).trans ((kf2 t1 (by simp)).trans p1)
  ·simp +decide only [gp,if_false]
   exact (kf3 t2 (by simp [cpR])).trans ((kf2 t2 (by simp)).trans p2)
  ·simp +decide only [gp,if_false]
   exact (kf3 t3 (by simp [cpR])).trans q3
  ·simp +decide only [gp, if_true, reduceIte]
  ·rw [hk bx (by omega) (by omega) (fun h0 e=>by have:=hO.upO (by omega); omega), hu bx (by omega)]
   exact a0
  ·rw [hk (bx+1) (by omega) (by omega) (fun h0 e=>by have:=hO.upO (by omega); omega), hu (bx+1) (by omega)]
   exact a1
end Go.Abs.Sym
end
section
namespace Go.Abs.Sym
open Go.Abs.T
open Go.Proofs
theorem copy_call {X:Ctx} (hfu:X.fuel=100000) (hF:X.funcs.get t14=some c14) {n:Nat} {d:DesD} (ht:d.types.l.length≤1000) (hv:d.variants.l.length≤1000) (hl:d.sheets.l.length<1000) (hm:∀ s∈d.sheets.l, Mod s) {m:Nat} {t:Tr AB} (hs:X.sums t14 [.agg (desC d)] ⟨up .e m, t, .lf⟩=none) :
  ∃ m' t' Mu ob tv vv ov nbO rs nbs, callN X (n+1) (.fn t14 [] []) [.agg (desC d)] ⟨up .e m, t, .lf⟩=.ret (.agg [.str d.top, ov, tv, vv]) ⟨up .e m', t', .lf⟩∧m+1<ob∧(0<d.sheets.l.length→m+1<nbO)∧(∀ i, i<m→t'.get (up .e i)=t.get (up .e i)) ∧
   CpO d.sheets.l t' m' ob Mu (.str d.top) tv vv (slV tyC (cpL d.types)) (slV bsC (cpL d.variants)) ov nbO rs nbs d.sheets.l.length:=by
 rw [call_fn (F:=c14) hs hF, c14]
 have ga:(frameOf .e ([]++[.agg (desC d)]++[]) .lf).get t0=some (.agg (desC d)):=rfl
 generalize frameOf .e ([]++[.agg (desC d)]++[]) .lf=fr at ga
 have e1:∃ fr1, execA X (callN X n) (.reg [⟨s1, .box, [v0], none⟩, ⟨s2, .alloc [e0, .nils, .nils, .nils], [], none⟩]) ⟨fr, [], ⟨up .e m, t, .lf⟩, .no, none, t14⟩=.nrm ⟨fr1, [], ⟨up .e (m+2), (t.put (up .e m) (.cells (desC d) false)).put (up .e (m+1)) (.cells [e0, .nils, .nils, .nils] false), .lf⟩, .no, none, t14⟩∧fr1.get t1=some (.ptr (up .e m) 0)∧fr1.get t2=some (.ptr (up .e (m+1)) 0):=by
  simp +decide only [SF,Nat.reduceAdd,ga]
  refine ⟨_, rfl, ?_, ?_⟩
  ·simp +decide only [gp,if_true,if_false]
  ·simp +decide only [gp,if_true,if_false]
 obtain ⟨fr1, e1, p1, p2⟩:=e1
 generalize hT:(t.put (up .e m) (.cells (desC d) false)).put (up .e (m+1)) (.cells [e0, .nils, .nils, .nils] false)=T at e1
 have T0:T.get (up .e m)=some (.cells (desC d) false):=by rw [← hT, gp, if_neg (fun e=>by rw [up_inj] at e; omega), gp, if_pos rfl]
 have T1:T.get (up .e (m+1))=some (.cells [e0, .nils, .nils, .nils] false):=by rw [← hT, gp, if_pos rfl]
 have Tt:∀ i, i<m→T.get (up .e i)=t.get (up .e i):=fun i hi=>by rw [← hT, gp, if_neg (fun e=>by rw [up_inj] at e; omega), gp, if_neg (fun e=>by rw [up_inj] at e; omega)]
 obtain ⟨fr2, m2, ta, tv, vv, e2, l2, k2, q3, ao, f2, z2⟩:=cp_head (X:=X) (f:=n) ht hv (m:=m+2) (bx:=m) (by omega) p1 T0
 obtain ⟨zt, zv⟩:=z2 [m+2+11, m+1] (by intro i hi; simp at hi; omega)
 have j1:=(k2 t1 (by simp)).trans p1
 have j2:=(k2 t2 (by simp)).trans p2
 have hO:CpO d.sheets.l ta m2 (m+2+11) [m+2+11, m+1] (.str d.top) tv vv (slV tyC (cpL d.types)) (slV bsC (cpL d.variants)) .nils 0 [] [] 0 :=
  { out:=ao, gr:=.inl ⟨rfl, rfl, rfl⟩, len:=rfl, nlen:=rfl, row:=fun k s row nb _ h _=>by simp at h, zt:=zt, zv:=zv, MO:=fun h=>absurd h (Nat.lt_irrefl 0), Mo:=by simp, Mb:=by intro i hi; simp at hi; omega, lo:=by omega, oO:=fun h=>absurd h (Nat.lt_irrefl 0), sep:=fun k s nb _ h _=>by simp at h, upn:=fun k s nb _ h _=>by simp at h, upO:=fun h=>absurd h (Nat.lt_irrefl 0), dis:=fun k l s s' nb nb' _ _ _ h _ _ _=>by simp at h }
 obtain ⟨st, e3, fr4, m4, t4', i, Mu, tv', vv', ov, nbO, rs, nbs, rfl, hi, g1, g2, g3, _, a0, a1, hO4, _, hbM, hfr⟩:=iter_rule (CoI d t m (m+2+11) (slV tyC (cpL d.types)) (slV bsC (cpL d.variants))) (fun o=>∃ st, o=.exit 0 st∧CoI d t m (m+2+11) (slV tyC (cpL d.types)) (slV bsC (cpL d.variants)) 0 st)
  (fun r st h=>co_round hfu (f:=n) hl hm r st h) 100000 d.sheets.l.length ⟨fr2.put t4 i0, [], ⟨up .e m2, ta, .lf⟩, .no, none, t14⟩
  ⟨fr2.put t4 i0, m2, ta, 0, [m+2+11, m+1], tv, vv, .nils, 0, [], [], rfl, Nat.zero_add _, by simp +decide only [gp,j1,if_false], by simp +decide only [gp,j2,if_false], by simp +decide only [gp,q3,if_false], by rw [gp, if_pos rfl], (f2 m (by omega)).trans T0, (f2 (m+1) (by omega)).trans T1, hO, by omega, by simp, fun x hx=>(f2 x (by omega)).trans (Tt x hx)⟩ (by omega)
 have hi':i=d.sheets.l.length:=by omega
 subst hi'
 have ho:=hO4.out
 have e4:execA X (callN X n) (.seq (.reg [⟨s4, .mov, [.const i0], none⟩]) (.block 0 (.loop c14_l2))) ⟨fr2, [], ⟨up .e m2, ta, .lf⟩, .no, none, t14⟩=.nrm ⟨fr4, [], ⟨up .e m4, t4', .lf⟩, .no, none, t14⟩:=by
  simp +decide only [SF,hfu,e3]
 have n1:(m+1=m+2+11)=False:=eq_false (by omega)
 refine ⟨m4, t4'.put (up .e (m+1)) (.cells [.str d.top, ov, tv', vv'] false), Mu, m+2+11, tv', vv', ov, nbO, rs, nbs, ?_, by omega, fun h0=>by have:=hO4.upO h0; omega, fun i hi => ?_, hO4.put hbM (by omega) _⟩
 ·have ex:execA X (callN X n) c14.body ⟨fr, [], ⟨up .e m, t, .lf⟩, .no, none, t14⟩=execA X (callN X n) (.seq (.reg [⟨s101, .load (some 4), [v3], none⟩, ⟨none, .store 4, [v2, v101], none⟩]) .ret) ⟨fr4, [], ⟨up .e m4, t4', .lf⟩, .no, none, t14⟩:=by
   rw [c14]
   exact (ex_seq e1).trans ((ex_seq e2).trans (ex_seq e4))
  rw [c14] at ex
  rw [ex]
  have o1:=hO4.gr.one
  have o2:=hO4.zt.1
  have o3:=hO4.zv.1
  simp +decide only [SM,Nat.reduceAdd,g2,g3,ho,a1,o1,o2,o3]
 ·rw [gp, if_neg (fun e=>by rw [up_inj] at e; omega)]
  exact hfr i hi
end Go.Abs.Sym
end
end
