/- Lemmas that other claims had no use for. -/
import Derived.Test.YtipcmdllhllolaaGreatDoorK24
import Derived.Test.YtipcmdllhllolaaGreatDoorK30
import Derived.Test.YtipcmdllhllolaaGreatDoorK05
import Derived.Test.YtipcmdllhllolaaGreatDoorK33
import Derived.Test.YtipcmdllhllolaaGreatDoorK34
noncomputable section
section
namespace Go.Abs.Sym
open Go.Abs.T
theorem tk_sym (x:SymD) (r:List AV):takeD (symC x++r) 0 3=some (symC x):=tk_app rfl
theorem tk_sub (x:SubD) (r:List AV):takeD (subC x++r) 0 3=some (subC x):=tk_app rfl
theorem tk_sheet (x:SheetD) (r:List AV):takeD (sheetC x++r) 0 6=some (sheetC x):=tk_app rfl
end Go.Abs.Sym
end
section
namespace Go.Abs.Sym
open Go.Abs.T
open Go.Proofs
def mpT (ns:List Bs):List (AV×AV):=mpS (fun s:Bs=>s) (fun _=>.bool true) ns
def insT:List Bs→Bs→List Bs
 | [], k=>[k]
 | a::l, k=>if k=a then a::l else a::insT l k
theorem ins_mem (k:Bs):∀ l, k∈insT l k
 | []=>List.mem_cons_self
 | a::l=>by
  by_cases h:k=a
  ·simp only [insT, h, if_true]; exact List.mem_cons_self
  ·simp only [insT, h, if_false]; exact List.mem_cons_of_mem _ (ins_mem k l)
theorem ins_sub (k:Bs) {s:Bs}:∀ {l}, s∈l→s∈insT l k
 | a :: l, h=>by
  by_cases e:k=a
  ·simp only [insT, e, if_true]; exact h
  ·simp only [insT, e, if_false]
   rcases List.mem_cons.1 h with h | h
   ·rw [h]; exact List.mem_cons_self
   ·exact List.mem_cons_of_mem _ (ins_sub k h)
theorem upd_T (k:Bs):∀ l, updA kS (.str k) (.bool true) (mpT l)=mpT (insT l k)
 | []=>rfl
 | a::l=>by
  have ih:=upd_T k l
  simp only [mpT, mpS, List.map_cons, updA, keyEq_S] at ih ⊢
  by_cases h:k=a
  ·simp [h, insT]
  ·simp only [h, decide_false, insT, if_false, List.map_cons, ih]
theorem mapUpd_T {l:List Bs} {h:H} {id:Pth} (hg:h.t.get id=some (.amap (mpT l))) (k:Bs):mapUpdA h kS (.mapv id) (.str k) (.bool true)=some { h with t:=h.t.put id (.amap (mpT (insT l k))) }:=by
 have hf:findA kS (.str k) (mpT l)=_:=find_S (fun s:Bs=>s) (fun _=>.bool true) k l
 simp only [mapUpdA, keyOK_S, cond_true, hg, hf, upd_T]
theorem mpT_len (l:List Bs):(mpT l).length=l.length:=by simp only [mpT, mpS, List.length_map]
theorem mpT_get {l:List Bs} {i:Nat} {e:AV×AV} (h:(mpT l)[i]?=some e):∃ s, l[i]?=some s∧e=(.str s, .bool true):=by
 simp only [mpT, mpS, List.getElem?_map, Option.map_eq_some_iff] at h
 obtain ⟨s, h1, rfl⟩:=h
 exact ⟨s, h1, rfl⟩
def dlR:List Pth:=[t1, t2, t3, t4, t5, t20]
def D0 (U:Sl SubD) (nx m0:Nat) (u0:Tr AB) (fr0:Tr AV) (ns0:List Bs) (r:Nat) (s:St):Prop:=∃ fr m t k ns, s=⟨fr, [], ⟨up .e m, t, .lf⟩, .no, none, t37⟩∧k+r=U.l.length∧m0≤m∧KeepF dlR fr0 fr ∧
 fr.get t29=some (slV subC U)∧fr.get t30=some (.int .i64 (.ofNat U.l.length))∧fr.get t31=some (.int .i64 (.ofNat k))∧t.get (up .e nx)=some (.amap (mpT ns))∧(∀ x∈ns0, x∈ns)∧(∀ j u, j<k→U.l[j]?=some u→u.sh∈ns) ∧
 ∀ i, i<m0→i≠nx→t.get (up .e i)=u0.get (up .e i)
theorem dl0_round {f:Nat} {U:Sl SubD} (hl:U.l.length<1000) {nx m0:Nat} {u0:Tr AB} {fr0:Tr AV} {ns0:List Bs} (g5:fr0.get t5=some (.mapv (up .e nx))) (hnx:nx<m0) (r:Nat) (s:St) (h:D0 U nx m0 u0 fr0 ns0 r s) :
  Stp (D0 U nx m0 u0 fr0 ns0) (fun o=>∃ s, o=.exit 4 s∧D0 U nx m0 u0 fr0 ns0 0 s) r (execA X0 (callN X0 f) c37_l0 s):=by
 obtain ⟨fr, m, t, k, ns, rfl, hk, hm, kf, g29, g30, g31, hn, hs, hj, hfr⟩:=h
 have h5:=(kf t5 (by simp [dlR])).trans g5
 cases r with
 | zero =>
  have hkn:(k<U.l.length)=False:=eq_false (by omega)
  simp +decide only [c37_l0,SF,g30,g31,ltI_dec,hkn,stp_e]
  refine ⟨_, rfl, _, m, t, k, ns, rfl, hk, hm, ?_, ?_, ?_, ?_, hn, hs, hj, hfr⟩
  ·simp +decide only [KeepF_put]
   exact kf
  all_goals simp +decide only [gp,g29,g30,g31,if_false]
 | succ r =>
  have hkn:(k<U.l.length)=True:=eq_true (by omega)
  obtain ⟨x, hka⟩:∃ x, U.l[k]?=some x:=⟨_, List.getElem?_eq_getElem (by omega)⟩
  have ia:=at_slV (f:=subC) (sz:=3) len_sub (by decide) hka
  have hw:=wr_add k 1 (by omega)
  have n1:=nw0 (show nx<m by omega)
  have n2:=nz0 (show nx<m by omega)
  have mu:∀ (p:Pth) (x y:AB) (b:Bs), mapUpdA ⟨p, (t.put (up .e m) x).put (up .e m) y, .lf⟩ ⟨[.s], false⟩ (.mapv (up .e nx)) (.str b) (.bool true)=some ⟨p, ((t.put (up .e m) x).put (up .e m) y).put (up .e nx) (.amap (mpT (insT ns b))), .lf⟩:=fun p x y b=>by
   have hg:((t.put (up .e m) x).put (up .e m) y).get (up .e nx)=some (.amap (mpT ns)):=by
    simp only [gp, up_inj, n2, if_false]
    exact hn
   exact mapUpd_T (h:=⟨p, (t.put (up .e m) x).put (up .e m) y, .lf⟩) hg b
  simp +decide only [c37_l0,SF,Nat.reduceAdd,g29,g30,g31,h5,ltI_dec,hkn,ia,subC,st_upd,mu,hw,stp_n]
  refine ⟨r, by omega, _, m+1, _, k+1, insT ns x.sh, rfl, by omega, by omega, ?_, ?_, ?_, ?_, ?_, fun y hy=>ins_sub _ (hs y hy), fun j u hj' hu => ?_, fun i hi hin => ?_⟩
  ·simp +decide only [KeepF_put]
   exact kf
  ·simp +decide only [gp,g29,if_false]
  ·simp +decide only [gp,g30,if_false]
  ·simp +decide only [gp, if_true, reduceIte]
  ·rw [gp, if_pos rfl]
  ·rcases Nat.lt_or_ge j k with h1 | h1
   ·exact ins_sub _ (hj j u h1 hu)
   ·have:j=k:=by omega
    subst this
    rw [hka] at hu
    cases hu
    exact ins_mem _ _
  ·have h1:(i=m)=False:=eq_false (by omega)
   have h2:(i=nx)=False:=eq_false hin
   simp only [gp, up_inj, h1, h2, if_false]
   exact hfr i hi hin
theorem dl0_loop {f:Nat} {U:Sl SubD} (hl:U.l.length<1000) {nx m:Nat} {t:Tr AB} {fr:Tr AV} {ns:List Bs} (g5:fr.get t5=some (.mapv (up .e nx))) (hnx:nx<m) (g29:fr.get t29=some (slV subC U)) (g30:fr.get t30=some (.int .i64 (.ofNat U.l.length)))
  (g31:fr.get t31=some i0) (hn:t.get (up .e nx)=some (.amap (mpT ns))):∃ fr' m' t' ns', iterA (execA X0 (callN X0 f) c37_l0) 100000 ⟨fr, [], ⟨up .e m, t, .lf⟩, .no, none, t37⟩=.exit 4 ⟨fr', [], ⟨up .e m', t', .lf⟩, .no, none, t37⟩∧m≤m'∧KeepF dlR fr fr' ∧
   t'.get (up .e nx)=some (.amap (mpT ns'))∧(∀ x∈ns, x∈ns')∧(∀ u∈U.l, u.sh∈ns')∧∀ i, i<m→i≠nx→t'.get (up .e i)=t.get (up .e i):=by
 have ho:=iter_rule (D0 U nx m t fr ns) (fun o=>∃ s, o=.exit 4 s∧D0 U nx m t fr ns 0 s) (fun r s h=>dl0_round (f:=f) hl g5 hnx r s h) 100000 U.l.length ⟨fr, [], ⟨up .e m, t, .lf⟩, .no, none, t37⟩
  ⟨fr, m, t, 0, ns, rfl, Nat.zero_add _, Nat.le_refl _, fun _ _=>rfl, g29, g30, g31, hn, fun _ h=>h, (fun j _ h=>absurd h (Nat.not_lt_zero j)), fun _ _ _=>rfl⟩ (by omega)
 obtain ⟨s, e, fr', m', t', k, ns', rfl, hk, h1, h2, _, _, _, h3, h4, h5, h6⟩:=ho
 refine ⟨fr', m', t', ns', e, h1, h2, h3, h4, fun u hu => ?_, h6⟩
 obtain ⟨j, hj, rfl⟩:=List.mem_iff_getElem.1 hu
 exact h5 j _ (by omega) (List.getElem?_eq_getElem hj)
end Go.Abs.Sym
end
section
namespace Go.Abs.Sym
open Go.Abs.T
open Go.Proofs
section
variable {X:Ctx} {call:CallF}
theorem wp_reg {ops:List AOper} {b:ACode} {s s':St} {Q:Out→Prop} (h:opsA X call ops s=.nrm s') (hb:wpA X call b s' Q):wpA X call (.seq (.reg ops) b) s Q:=by
 simp only [wpA]
 exact .inr (by rw [h]; exact hb)
theorem wp_next {dst:Option Pth} {a:Opd} {os:List AOper} {b:ACode} {s:St} {Q:Out→Prop} (id m:Pth) (n k:Nat) (q:Option (List Nat)) (es:List (AV×AV)) (h1:evalA X s.fr a=some (.ptr id 0)) (h2:s.h.t.get id=some (.miter (some m) n k q))
  (h3:s.h.t.get m=some (.amap es)) (h4:es.length=n) (h5:k<n)
  (hb:∀ i e, es[i]?=some e→(∀ l, q=some l→i∉l)→∃ s', opsA X call os (({ s with h:={ s.h with t:=s.h.t.put id (.miter (some m) n (k+1) (q.map (i :: ·))) } }:St).put dst (.tup [.bool true, e.1, e.2]))=.nrm s'∧wpA X call b s' Q) :
  wpA X call (.seq (.reg (⟨dst, .next false, [a], none⟩::os)) b) s Q:=by
 simp only [wpA]
 refine .inl ⟨id, m, n, k, q, es, h1, h2, h3, h4, h5, fun i e he hq => ?_⟩
 obtain ⟨s', g1, g2⟩:=hb i e he hq
 rw [g1]
 exact g2
theorem wp_condT {c:Opd} {e b:ACode} {s:St} {Q:Out→Prop} (h:evalA X s.fr c=some (.bool true)) (hb:wpA X call b s Q):wpA X call (.seq (.cond c .skip e) b) s Q:=by
 simp only [wpA, h]
 exact hb
theorem wp_condF {c:Opd} {id:Nat} {b:ACode} {s:St} {Q:Out→Prop} (h:evalA X s.fr c=some (.bool false)) (hb:Q (.exit id s)):wpA X call (.seq (.cond c .skip (.exit id)) b) s Q:=by
 simp only [wpA, h]
 exact hb
theorem wp_nrm {c:ACode} {s s':St} {Q:Out→Prop} (h:execA X call c s=.nrm s') (hq:Q (.nrm s')):wpA X call c s Q:=wp_det c s Q (by rw [h]; intro n e; cases e) (by rw [h]; exact hq)
end
theorem dl0_loop' {f:Nat} {U:Sl SubD} (hl:U.l.length<1000) {nx m:Nat} {t:Tr AB} {fr:Tr AV} {ns:List Bs} {o:Out} (hit:iterA (execA X0 (callN X0 f) c37_l0) 100000 ⟨fr, [], ⟨up .e m, t, .lf⟩, .no, none, t37⟩=o) (g5:fr.get t5=some (.mapv (up .e nx))) (hnx:nx<m) (g29:fr.get t29=some (slV subC U)) (g30:fr.get t30=some (.int .i64 (.ofNat U.l.length)))
  (g31:fr.get t31=some i0) (hn:t.get (up .e nx)=some (.amap (mpT ns))):∃ fr' m' t' ns', o=.exit 4 ⟨fr', [], ⟨up .e m', t', .lf⟩, .no, none, t37⟩∧m≤m'∧KeepF dlR fr fr' ∧
   t'.get (up .e nx)=some (.amap (mpT ns'))∧(∀ x∈ns, x∈ns')∧(∀ u∈U.l, u.sh∈ns')∧∀ i, i<m→i≠nx→t'.get (up .e i)=t.get (up .e i):=by
 obtain ⟨fr', m', t', ns', e, h⟩:=dl0_loop (f:=f) hl g5 hnx g29 g30 g31 hn
 exact ⟨fr', m', t', ns', hit.symm.trans e, h⟩
structure RingD (S:List SheetD) (C:Bs→Prop):Prop where
 step:∀ x, C x→∃ B, S.find? (fun a=>decide (x=a.nm))=some B∧∃ u∈B.subs.l, C u.sh
 len:∀ B∈S, B.subs.l.length<1000
def D1 (C:Bs→Prop) (ns:List Bs) (i0 mp nx it m0:Nat) (u0:Tr AB) (fr0:Tr AV) (r:Nat) (s:St):Prop:=∃ fr m t q ns1, s=⟨fr, [], ⟨up .e m, t, .lf⟩, .no, none, t37⟩∧q.length+r=ns.length∧q.Nodup∧(∀ i∈q, i<ns.length)∧m0≤m ∧
 KeepF dlR fr0 fr∧t.get (up .e it)=some (.miter (some (up .e mp)) ns.length q.length (some q))∧t.get (up .e nx)=some (.amap (mpT ns1))∧(i0∈q→∃ y∈ns1, C y)∧∀ i, i<m0→i≠nx→i≠it→t.get (up .e i)=u0.get (up .e i)
theorem st_nextE {h:H} {id m:Pth} {n k:Nat} {q:Option (List Nat)} {es:List (AV×AV)} (hg:h.t.get id=some (.miter (some m) n k q)) (hm:h.t.get m=some (.amap es)) (hl:es.length=n) (hk:n≤k):stepA h (.next false) [.ptr id 0]=.val (.tup [.bool false]) h:=by
 have e1:Nat.beq es.length n=true:=by rw [hl]; exact Nat.beq_refl n
 have e2:Nat.blt k n=false:=by
  rw [Bool.eq_false_iff]
  intro hb
  rw [Nat.blt_eq] at hb
  omega
 simp only [stepA, hg, nextM, hm, e1, e2, cond_true, cond_false]
theorem st_entryA {h:H} {id m:Pth} {n k i:Nat} {q:List Nat} {es:List (AV×AV)} {e:AV×AV} (hg:h.t.get id=some (.miter (some m) n k (some (i::q)))) (hm:h.t.get m=some (.amap es)) (hl:es.length=n) (hk:0<k) (he:es[i]?=some e) :
  stepA h .entry [.ptr id 0]=.val (.tup [e.1, e.2]) h:=by
 have e1:(Nat.beq es.length n&&Nat.blt 0 k)=true:=by
  rw [hl, Nat.beq_refl, show Nat.blt 0 k=true from by rw [Nat.blt_eq]; exact hk]
  rfl
 simp only [stepA, hg, entryM, hm, e1, cond_true, pickA, he]
theorem all_in {q:List Nat} {n i0:Nat} (hn:q.Nodup) (hb:∀ i∈q, i<n) (hl:q.length=n) (hi:i0<n):i0∈q :=
 all_seen (A:=List.range n) hn (fun x hx=>List.mem_range.2 (hb x hx)) (by rw [List.length_range]; omega) i0 (List.mem_range.2 hi)
section
variable {E:CkE} {C:Bs→Prop} (R:RingD E.Ss.l C)
include R
theorem dl1_round {f:Nat} {ns:List Bs} {x0:Bs} {i0 mp nx it m0:Nat} {u0:Tr AB} {fr0:Tr AV} (hx0:ns[i0]?=some x0) (hC:C x0) (g1:fr0.get t1=some (.ptr (up .e 0) 0)) (g5:fr0.get t5=some (.mapv (up .e nx))) (g20:fr0.get t20=some (.ptr (up .e it) 0))
  (a0:u0.get (up .e 0)=some (.cells E.d false)) (am:u0.get (up .e mp)=some (.amap (mpT ns))) (h0:0<mp) (h1:mp<nx) (h2:nx<it) (h3:it<m0) (r:Nat) (s:St) (h:D1 C ns i0 mp nx it m0 u0 fr0 r s) :
  wpA X0 (callN X0 f) c37_l1 s (fun o=>match o with
   | .nrm s'=>∃ r', r'<r∧D1 C ns i0 mp nx it m0 u0 fr0 r' s'
   | o=>∃ s, o=.exit 2 s∧D1 C ns i0 mp nx it m0 u0 fr0 0 s):=by
 obtain ⟨fr, m, t, q, ns1, rfl, hq, hnd, hb, hm, kf, ti, tn, hc, hfr⟩:=h
 have k1:=(kf t1 (by simp [dlR])).trans g1
 have k5:=(kf t5 (by simp [dlR])).trans g5
 have k20:=(kf t20 (by simp [dlR])).trans g20
 have b0:=(hfr 0 (by omega) (by omega) (by omega)).trans a0
 have bm:=(hfr mp (by omega) (by omega) (by omega)).trans am
 unfold c37_l1
 cases r with
 | zero =>
  have hst:stepA ⟨up .e m, t, .lf⟩ (.next false) [.ptr (up .e it) 0]=.val (.tup [.bool false]) ⟨up .e m, t, .lf⟩:=st_nextE (h:=⟨up .e m, t, .lf⟩) ti bm (mpT_len ns) (by omega)
  have e1:opsA X0 (callN X0 f) [⟨s21, .next false, [v20], none⟩, ⟨s22, .extract 0, [v21], none⟩] ⟨fr, [], ⟨up .e m, t, .lf⟩, .no, none, t37⟩=.nrm ⟨(fr.put t21 (.tup [.bool false])).put t22 (.bool false), [], ⟨up .e m, t, .lf⟩, .no, none, t37⟩:=by
   simp +decide only [SF,k20,hst,List.getElem?_cons_zero]
  refine wp_reg e1 (wp_condF (by simp +decide only [SF]) ⟨_, rfl, _, m, t, q, ns1, rfl, hq, hnd, hb, hm, ?_, ti, tn, hc, hfr⟩)
  simp +decide only [KeepF_put]
  exact kf
 | succ r =>
  refine wp_next (up .e it) (up .e mp) ns.length q.length (some q) (mpT ns) (by simp only [evalA, k20]) ti bm (mpT_len ns) (by omega) fun i e he hni => ?_
  obtain ⟨x, hx, rfl⟩:=mpT_get he
  have hni:i∉q:=hni q rfl
  have hin:i<ns.length:=(List.getElem?_eq_some_iff.1 hx).1
  simp only [Option.map_some]
  have d1:(mp=it)=False:=eq_false (by omega)
  have d2:(nx=it)=False:=eq_false (by omega)
  have d3:(0=it)=False:=eq_false (by omega)
  have e1:opsA X0 (callN X0 f) [⟨s22, .extract 0, [v21], none⟩] (({ fr:=fr, df:=[], h:={ next:=up .e m, t:=t.put (up .e it) (.miter (some (up .e mp)) ns.length (q.length+1) (some (i::q))), ro:=.lf }, rc:=.no, rd:=none, fnid:=t37 }:St).put s21 (.tup [.bool true, .str x, .bool true])) =
    .nrm ⟨(fr.put t21 (.tup [.bool true, .str x, .bool true])).put t22 (.bool true), [], ⟨up .e m, t.put (up .e it) (.miter (some (up .e mp)) ns.length (q.length+1) (some (i::q))), .lf⟩, .no, none, t37⟩:=by
   simp +decide only [SF,List.getElem?_cons_zero]
  refine ⟨_, e1, wp_condT (by simp +decide only [SF]) ?_⟩
  generalize ht1:t.put (up .e it) (.miter (some (up .e mp)) ns.length (q.length+1) (some (i::q)))=u
  have ui:u.get (up .e it)=some (.miter (some (up .e mp)) ns.length (q.length+1) (some (i::q))):=by rw [← ht1, gp, if_pos rfl]
  have uo:∀ j, j≠it→u.get (up .e j)=t.get (up .e j):=fun j hj=>by rw [← ht1, gp, if_neg (fun e=>hj (by rw [up_inj] at e; exact e))]
  have um:=(uo mp (by omega)).trans bm
  have un:=(uo nx (by omega)).trans tn
  have u0':=(uo 0 (by omega)).trans b0
  have hen:stepA ⟨up .e m, u, .lf⟩ .entry [.ptr (up .e it) 0]=.val (.tup [.str x, .bool true]) ⟨up .e m, u, .lf⟩:=st_entryA (h:=⟨up .e m, u, .lf⟩) ui um (mpT_len ns) (by omega) he
  -- the sheet of the name, or none
  obtain ⟨B, hlk, hBl, hBC⟩:∃ B:SheetD, (∀ h:H, lookupA h ⟨[.s], false⟩ (.agg [e0, .nils, .nils, .nils, .nils, .nils]) false (shV E.Ss.l) (.str x)=some (.agg (sheetC B)))∧B.subs.l.length<1000∧(C x→∃ u∈B.subs.l, C u.sh):=by
   cases hf:E.Ss.l.find? (fun a=>decide (x=a.nm)) with
   | none =>
    refine ⟨⟨[], ⟨0, []⟩, ⟨0, []⟩, ⟨0, []⟩, ⟨0, []⟩, ⟨0, []⟩⟩, fun h => ?_, by decide, fun hx => ?_⟩
    ·have:=look_R (fun a:SheetD=>a.nm) (fun a=>.agg (sheetC a)) E.Ss.l h (.agg [e0, .nils, .nils, .nils, .nils, .nils]) false x
     rw [hf] at this
     exact this
    ·obtain ⟨B, hB, _⟩:=R.step x hx
     rw [hf] at hB
     cases hB
   | some B =>
    refine ⟨B, fun h => ?_, R.len B (List.mem_of_find?_eq_some hf), fun hx => ?_⟩
    ·have:=look_R (fun a:SheetD=>a.nm) (fun a=>.agg (sheetC a)) E.Ss.l h (.agg [e0, .nils, .nils, .nils, .nils, .nils]) false x
     rw [hf] at this
     exact this
    ·obtain ⟨B', hB, h2⟩:=R.step x hx
     rw [hf] at hB
     cases hB
     exact h2
  obtain ⟨fr2, m2, u2, ns2, hex, f1, f2, f3, f4, f5, f6⟩:∃ fr2 m2 u2 ns2, execA X0 (callN X0 f) (.block 3 (.seq (.reg [⟨s23, .entry, [v20], none⟩, ⟨s24, .extract 0, [v23], none⟩, ⟨s6, .mov, [v24], none⟩]) (.seq (.reg [⟨s25, .fieldAddr 4, [v1], none⟩, ⟨s26, .load none, [v25], none⟩, ⟨s27, .mov, [v6], none⟩, ⟨s28, .lookup ⟨[.s], false⟩ (.agg [e0, .nils, .nils, .nils, .nils, .nils]) false, [v26, v27], none⟩, ⟨s29, .field 5 none, [v28], none⟩, ⟨s30, .len .slc, [v29], none⟩, ⟨T.s31, .mov, [.const T.i0], none⟩]) (.block 4 (.loop c37_l0)))))
    ⟨(fr.put t21 (.tup [.bool true, .str x, .bool true])).put t22 (.bool true), [], ⟨up .e m, u, .lf⟩, .no, none, t37⟩=.nrm ⟨fr2, [], ⟨up .e m2, u2, .lf⟩, .no, none, t37⟩∧m≤m2∧KeepF dlR fr fr2∧u2.get (up .e nx)=some (.amap (mpT ns2))∧(∀ y∈ns1, y∈ns2)∧(∀ v∈B.subs.l, v.sh∈ns2)∧∀ j, j<m→j≠nx→u2.get (up .e j)=u.get (up .e j):=by
   have hfu:X0.fuel=100000:=rfl
   have u0c:=u0'
   simp only [CkE.d] at u0c
   simp +decide only [SF,k20,k1,hen,u0c,st_look',hlk,sheetC,len_slV,hfu,List.getElem?_cons_zero]
   generalize hit:iterA (execA X0 (callN X0 f) c37_l0) _ _=o
   obtain ⟨fr2, m2, u2, ns2, rfl, h1, h2, h3, h4, h5, h6⟩:=dl0_loop' hBl (nx:=nx) (ns:=ns1) hit (by simp +decide only [gp,k5,if_false]) (by omega) (by simp +decide only [gp,if_false,if_true]) (by simp +decide only [gp,if_false,if_true]) (by simp +decide only [gp,if_false,if_true]) un
   simp +decide only [SF]
   refine ⟨_, _, _, ns2, rfl, h1, ?_, h3, h4, h5, h6⟩
   simp +decide only [dlR,keep_c,keep_n,gp,if_false] at h2 ⊢
   exact h2
  refine wp_nrm hex ⟨r, by omega, fr2, m2, u2, i::q, ns2, rfl, by rw [List.length_cons]; omega, List.nodup_cons.2 ⟨hni, hnd⟩, fun j hj => ?_, by omega, fun p hp=>(f2 p hp).trans (kf p hp), ?_, f3, fun hi0 => ?_, fun j hj hj1 hj2 => ?_⟩
  ·rcases List.mem_cons.1 hj with rfl | hj
   ·exact hin
   ·exact hb j hj
  ·rw [f6 it (by omega) (by omega)]
   exact ui
  ·rcases List.mem_cons.1 hi0 with rfl | hi0
   ·rw [hx0] at hx
    cases hx
    obtain ⟨v, hv, hCv⟩:=hBC hC
    exact ⟨_, f5 v hv, hCv⟩
   ·obtain ⟨y, hy, hCy⟩:=hc hi0
    exact ⟨y, f4 y hy, hCy⟩
  ·rw [f6 j (by omega) hj1, uo j hj2]
   exact hfr j hj hj1 hj2
end
end Go.Abs.Sym
end
section
namespace Go.Abs.Sym
open Go.Abs.T
open Go.Proofs
section
variable {X:Ctx} {call:CallF}
theorem wp_seqN {a b:ACode} {s s':St} {Q:Out→Prop} (h:execA X call a s=.nrm s') (hb:wpA X call b s' Q):wpA X call (.seq a b) s Q:=by
 simp only [wpA]
 exact wp_nrm h hb
theorem wp_seqE {a b:ACode} {s s':St} {j:Nat} {Q:Out→Prop} (h:execA X call a s=.exit j s') (hq:Q (.exit j s')):wpA X call (.seq a b) s Q:=by
 simp only [wpA]
 exact wp_det a s _ (by rw [h]; intro n e; cases e) (by rw [h]; exact hq)
theorem wp_seq {a b:ACode} {s:St} {Q R:Out→Prop} (ha:wpA X call a s R) (hn:∀ o, R o→∃ s', o=.nrm s'∧wpA X call b s' Q):wpA X call (.seq a b) s Q:=by
 simp only [wpA]
 refine wp_mono a s R _ (fun o ho => ?_) ha
 obtain ⟨s', rfl, h⟩:=hn o ho
 exact h
theorem wp_block {id:Nat} {a:ACode} {s:St} {Q R:Out→Prop} (ha:wpA X call a s R) (hn:∀ o, R o→(∃ s', o=.nrm s'∧Q (.nrm s'))∨∃ s', o=.exit id s'∧Q (.nrm s')):wpA X call (.block id a) s Q:=by
 simp only [wpA]
 refine wp_mono a s R _ (fun o ho => ?_) ha
 rcases hn o ho with ⟨s', rfl, h⟩ | ⟨s', rfl, h⟩
 ·exact h
 ·dsimp only
  rw [Nat.beq_refl]
  exact h
end
theorem st_lenM {h:H} {id:Pth} {es:List (AV×AV)} (hg:h.t.get id=some (.amap es)):stepA h (.len .map) [.mapv id]=.val (.int .i64 (.ofNat es.length)) h:=by
 simp only [stepA, isMaker, cond_false, readA, lenVal, hg]
 rfl
theorem st_rangeM {h:H} {id:Pth} {es:List (AV×AV)} (hg:h.t.get id=some (.amap es)):stepA h .rangeMap [.mapv id]=.val (.ptr h.next 0) (h.newB (.miter (some id) es.length 0 (some []))):=by
 simp only [stepA, rangeM, hg]
section
variable {E:CkE} {C:Bs→Prop} (R:RingD E.Ss.l C)
include R
def D2 (E:CkE) (C:Bs→Prop) (r:Nat) (s:St):Prop:=∃ fr m t k mp ns, s=⟨fr, [], ⟨up .e m, t, .lf⟩, .no, none, t37⟩∧k+r=6∧0<mp∧mp<m∧t.get (up .e 0)=some (.cells E.d false)∧t.get (up .e mp)=some (.amap (mpT ns))∧(∃ x∈ns, C x) ∧
 fr.get t1=some (.ptr (up .e 0) 0)∧fr.get t3=some (.mapv (up .e mp))∧fr.get t4=some (.int .i64 (.ofNat k))
theorem dl2_round {f:Nat} (r:Nat) (s:St) (h:D2 E C r s):wpA X0 (callN X0 f) c37_l2 s (fun o=>match o with
   | .nrm s'=>∃ r', r'<r∧D2 E C r' s'
   | o=>∃ fr m t, o=.exit 0 ⟨fr, [], ⟨up .e m, t, .lf⟩, .no, none, t37⟩):=by
 obtain ⟨fr, m, t, k, mp, ns, rfl, hk, hmp, hm, a0, am, ⟨x0, hx0, hC⟩, g1, g3, g4⟩:=h
 obtain ⟨i0, hi0, hx0⟩:=List.mem_iff_getElem.1 hx0
 have hx0:ns[i0]?=some x0:=by rw [List.getElem?_eq_getElem hi0, hx0]
 unfold c37_l2
 cases r with
 | zero =>
  have hk6:k=6:=by omega
  subst hk6
  have e1:∃ s', execA X0 (callN X0 f) (.seq (.reg [⟨s14, .mov, [v4], none⟩, ⟨s15, .bin .lss .one, [v14, .const i6], none⟩]) (.cond v15 .skip (.exit 0))) ⟨fr, [], ⟨up .e m, t, .lf⟩, .no, none, t37⟩=.exit 0 s'∧∃ fr m t, s'=⟨fr, [], ⟨up .e m, t, .lf⟩, .no, none, t37⟩:=by
   have hlt:ltI (.ofNat 6) (.ofNat 6)=false:=rfl
   simp +decide only [SF,g4,hlt]
   exact ⟨_, rfl, _, _, _, rfl⟩
  obtain ⟨s', e1, fr', m', t', rfl⟩:=e1
  exact wp_seqE e1 ⟨_, _, _, rfl⟩
 | succ r =>
  have hk6:k<6:=by omega
  have e1:∃ fr', execA X0 (callN X0 f) (.seq (.reg [⟨s14, .mov, [v4], none⟩, ⟨s15, .bin .lss .one, [v14, .const i6], none⟩]) (.cond v15 .skip (.exit 0))) ⟨fr, [], ⟨up .e m, t, .lf⟩, .no, none, t37⟩=.nrm ⟨fr', [], ⟨up .e m, t, .lf⟩, .no, none, t37⟩∧KeepF [t1, t3, t4] fr fr':=by
   have hlt:ltI (.ofNat k) (.ofNat 6)=true:=by rw [ltI_dec]; exact decide_eq_true (by omega)
   simp +decide only [SF,g4,hlt]
   refine ⟨_, rfl, ?_⟩
   simp +decide only [KeepF_put]
   exact fun _ _=>rfl
  obtain ⟨fr1, e1, kf1⟩:=e1
  have h1:=(kf1 t1 (by simp)).trans g1
  have h3:=(kf1 t3 (by simp)).trans g3
  have h4:=(kf1 t4 (by simp)).trans g4
  refine wp_seqN e1 ?_
  -- the round
  refine wp_seq (R:=fun o=>∃ fr2 m2 t2 mp2 ns2, o=.nrm ⟨fr2, [], ⟨up .e m2, t2, .lf⟩, .no, none, t37⟩∧0<mp2∧mp2<m2∧t2.get (up .e 0)=some (.cells E.d false)∧t2.get (up .e mp2)=some (.amap (mpT ns2))∧(∃ x∈ns2, C x)∧fr2.get t1=some (.ptr (up .e 0) 0)∧fr2.get t3=some (.mapv (up .e mp2))∧fr2.get t4=some (.int .i64 (.ofNat k)))
   (wp_block (R:=fun o=>∃ fr2 m2 t2 mp2 ns2, o=.nrm ⟨fr2, [], ⟨up .e m2, t2, .lf⟩, .no, none, t37⟩∧0<mp2∧mp2<m2∧t2.get (up .e 0)=some (.cells E.d false)∧t2.get (up .e mp2)=some (.amap (mpT ns2))∧(∃ x∈ns2, C x)∧fr2.get t1=some (.ptr (up .e 0) 0)∧fr2.get t3=some (.mapv (up .e mp2))∧fr2.get t4=some (.int .i64 (.ofNat k))) ?_ (fun o ho=>.inl ?_)) (fun o ho => ?_)
  ·-- a new set
   have e2:opsA X0 (callN X0 f) [⟨s18, .mkMap, [], none⟩, ⟨s5, .mov, [v18], none⟩] ⟨fr1, [], ⟨up .e m, t, .lf⟩, .no, none, t37⟩=.nrm ⟨(fr1.put t18 (.mapv (up .e m))).put t5 (.mapv (up .e m)), [], ⟨up .e (m+1), t.put (up .e m) (.amap []), .lf⟩, .no, none, t37⟩:=by
    simp +decide only [SF,st_mkMap]
   refine wp_reg e2 ?_
   have nm:=nz0 hm
   have am1:(t.put (up .e m) (.amap [])).get (up .e mp)=some (.amap (mpT ns)):=by
    simp only [gp, up_inj, nm, if_false]
    exact am
   have hrg:stepA ⟨up .e (m+1), t.put (up .e m) (.amap []), .lf⟩ .rangeMap [.mapv (up .e mp)]=.val (.ptr (up .e (m+1)) 0) ⟨up .e (m+2), (t.put (up .e m) (.amap [])).put (up .e (m+1)) (.miter (some (up .e mp)) ns.length 0 (some [])), .lf⟩:=by
    rw [st_rangeM (h:=⟨up .e (m+1), t.put (up .e m) (.amap []), .lf⟩) am1, mpT_len]
    simp only [H.newB, up_succ]
   refine wp_seq (R:=fun o=>∃ s, o=.nrm s∧D1 C ns i0 mp m (m+1) (m+2) ((t.put (up .e m) (.amap [])).put (up .e (m+1)) (.miter (some (up .e mp)) ns.length 0 (some []))) ((((fr1.put t18 (.mapv (up .e m))).put t5 (.mapv (up .e m))).put t19 (.mapv (up .e mp))).put t20 (.ptr (up .e (m+1)) 0)) 0 s) ?_ (fun o ho => ?_)
   ·have e3:opsA X0 (callN X0 f) [⟨s19, .mov, [v3], none⟩, ⟨s20, .rangeMap, [v19], none⟩] ⟨(fr1.put t18 (.mapv (up .e m))).put t5 (.mapv (up .e m)), [], ⟨up .e (m+1), t.put (up .e m) (.amap []), .lf⟩, .no, none, t37⟩ =
      .nrm ⟨(((fr1.put t18 (.mapv (up .e m))).put t5 (.mapv (up .e m))).put t19 (.mapv (up .e mp))).put t20 (.ptr (up .e (m+1)) 0), [], ⟨up .e (m+2), (t.put (up .e m) (.amap [])).put (up .e (m+1)) (.miter (some (up .e mp)) ns.length 0 (some [])), .lf⟩, .no, none, t37⟩:=by
     simp +decide only [SF,h3,hrg]
    refine wp_reg e3 (wp_block (R:=fun o=>∃ s, o=.exit 2 s∧D1 C ns i0 mp m (m+1) (m+2) ((t.put (up .e m) (.amap [])).put (up .e (m+1)) (.miter (some (up .e mp)) ns.length 0 (some []))) ((((fr1.put t18 (.mapv (up .e m))).put t5 (.mapv (up .e m))).put t19 (.mapv (up .e mp))).put t20 (.ptr (up .e (m+1)) 0)) 0 s) ?_ (fun o ho=>.inr ?_))
    ·simp only [wpA]
     refine ⟨D1 C ns i0 mp m (m+1) (m+2) ((t.put (up .e m) (.amap [])).put (up .e (m+1)) (.miter (some (up .e mp)) ns.length 0 (some []))) ((((fr1.put t18 (.mapv (up .e m))).put t5 (.mapv (up .e m))).put t19 (.mapv (up .e mp))).put t20 (.ptr (up .e (m+1)) 0)), ns.length, ?_, fun r s hD => ?_⟩
     ·refine ⟨_, m+2, _, [], [], rfl, by simp, List.nodup_nil, (fun i h=>by cases h), Nat.le_refl _, fun _ _=>rfl, ?_, ?_, (fun h=>by cases h), fun _ _ _ _=>rfl⟩
      ·rw [gp, if_pos rfl]
       rfl
      ·have n1:=nz (show m<m+1 by omega) 0
       rw [gp, if_neg (fun e=>by rw [up_inj] at e; omega), gp, if_pos rfl]
       rfl
     ·refine wp_mono _ s _ _ (fun o ho => ?_) (dl1_round R (f:=f) hx0 hC ?_ ?_ ?_ ?_ ?_ hmp hm (Nat.lt_succ_self m) (by omega) r s hD)
      ·cases o with
       | nrm s'=>exact ho
       | _=>exact ho
      ·simp +decide only [gp,h1,if_false]
      ·simp +decide only [gp,if_true,if_false]
      ·simp +decide only [gp, if_true, reduceIte]
      ·rw [gp, if_neg (fun e=>by rw [up_inj] at e; omega), gp, if_neg (fun e=>by rw [up_inj] at e; omega)]
       exact a0
      ·rw [gp, if_neg (fun e=>by rw [up_inj] at e; omega), gp, if_neg (fun e=>by rw [up_inj] at e; omega)]
       exact am
    ·obtain ⟨s, rfl, hD⟩:=ho
     exact ⟨s, rfl, s, rfl, hD⟩
   ·obtain ⟨s, rfl, hD⟩:=ho
    refine ⟨s, rfl, ?_⟩
    obtain ⟨fr2, m2, t2, q, ns2, rfl, hq, hnd, hb, hm2, kf2, _, tn, hc, hfr⟩:=hD
    obtain ⟨y, hy, hCy⟩:=hc (all_in hnd hb (by omega) hi0)
    have j1:fr2.get t1=some (.ptr (up .e 0) 0):=(kf2 t1 (by simp [dlR])).trans (by simp +decide only [gp,h1,if_false])
    have j4:fr2.get t4=some (.int .i64 (.ofNat k)):=(kf2 t4 (by simp [dlR])).trans (by simp +decide only [gp,h4,if_false])
    have j5:fr2.get t5=some (.mapv (up .e m)):=(kf2 t5 (by simp [dlR])).trans (by simp +decide only [gp,if_true,if_false])
    have b0:t2.get (up .e 0)=some (.cells E.d false):=(hfr 0 (by omega) (by omega) (by omega)).trans (by
     rw [gp, if_neg (fun e=>by rw [up_inj] at e; omega), gp, if_neg (fun e=>by rw [up_inj] at e; omega)]
     exact a0)
    have hln:stepA ⟨up .e m2, t2, .lf⟩ (.len .map) [.mapv (up .e m)]=.val (.int .i64 (.ofNat ns2.length)) ⟨up .e m2, t2, .lf⟩:=by
     rw [st_lenM (h:=⟨up .e m2, t2, .lf⟩) tn, mpT_len]
    have hne:eqI (.ofNat ns2.length) (.ofNat 0)=false:=by
     rw [eqI_dec]
     refine decide_eq_false (fun e => ?_)
     have:=Int.ofNat.inj e
     rw [List.length_eq_zero_iff] at this
     rw [this] at hy
     cases hy
    have e4:∃ fr3, execA X0 (callN X0 f) (.seq (.seq (.reg [⟨s39, .mov, [v5], none⟩, ⟨s40, .len .map, [v39], none⟩, ⟨s41, .bin .eql .one, [v40, .const T.i0], none⟩]) (.cond v41 (.seq (.reg [⟨s42, .mov, [v4], none⟩, ⟨s2, .mov, [v42], none⟩]) .ret) .skip)) (.reg [⟨s43, .mov, [v5], none⟩, ⟨s3, .mov, [v43], none⟩]))
      ⟨fr2, [], ⟨up .e m2, t2, .lf⟩, .no, none, t37⟩=.nrm ⟨fr3, [], ⟨up .e m2, t2, .lf⟩, .no, none, t37⟩∧fr3.get t1=some (.ptr (up .e 0) 0)∧fr3.get t3=some (.mapv (up .e m))∧fr3.get t4=some (.int .i64 (.ofNat k)):=by
     simp +decide only [SF,j5,hln,hne]
     refine ⟨_, rfl, ?_, ?_, ?_⟩
     ·simp +decide only [gp,j1,if_false]
     ·simp +decide only [gp, if_true, reduceIte]
     ·simp +decide only [gp,j4,if_false]
    obtain ⟨fr3, e4, p1, p3, p4⟩:=e4
    exact wp_nrm e4 ⟨fr3, m2, t2, m, ns2, rfl, by omega, by omega, b0, tn, ⟨y, hy, hCy⟩, p1, p3, p4⟩
  ·obtain ⟨fr2, m2, t2, mp2, ns2, rfl, h⟩:=ho
   exact ⟨_, rfl, fr2, m2, t2, mp2, ns2, rfl, h⟩
  ·obtain ⟨fr2, m2, t2, mp2, ns2, rfl, z1, z2, z3, z4, z5, z6, z7, z8⟩:=ho
   refine ⟨_, rfl, ?_⟩
   have hw:=wr_add k 1 (by omega)
   have e5:∃ fr3, execA X0 (callN X0 f) (.reg [⟨s16, .mov, [v4], none⟩, ⟨s17, .bin .add .one, [v16, .const i1], none⟩, ⟨s4, .mov, [v17], none⟩]) ⟨fr2, [], ⟨up .e m2, t2, .lf⟩, .no, none, t37⟩=.nrm ⟨fr3, [], ⟨up .e m2, t2, .lf⟩, .no, none, t37⟩ ∧
     fr3.get t1=some (.ptr (up .e 0) 0)∧fr3.get t3=some (.mapv (up .e mp2))∧fr3.get t4=some (.int .i64 (.ofNat (k+1))):=by
    simp +decide only [SF,z8,hw]
    refine ⟨_, rfl, ?_, ?_, ?_⟩
    ·simp +decide only [gp,z6,if_false]
    ·simp +decide only [gp,z7,if_false]
    ·simp +decide only [gp, if_true, reduceIte]
   obtain ⟨fr3, e5, p1, p3, p4⟩:=e5
   exact wp_nrm e5 ⟨r, by omega, fr3, m2, t2, k+1, mp2, ns2, rfl, by omega, z1, z2, z3, z4, z5, p1, p3, p4⟩
theorem depthL_call {X:Ctx} {ρ:Nm} {h:H} {w:World} (htop:C E.top) (hfz:frzs E.d=true) (hr:@HR triv Tryz.prog X ρ h w) {avs:Array Value} (hv:@VRs triv w ρ (Lv ρ h) [.agg E.d] avs.toList):@CallR triv Tryz.prog X ρ h w (callFunc t37.num avs) (.ret i6 h):=by
 refine sum_wp (envI:=triv) (ok0 (envI:=triv)) rfl (n:=0) (F:=c37) rfl ?_ rfl (by simp only [frzs, frz, hfz, Bool.and_self]) hr hv
 rw [c37]
 have ga:(frameOf .e [.agg E.d] .lf).get t0=some (.agg E.d):=rfl
 generalize frameOf .e [.agg E.d] .lf=fr at ga
 obtain ⟨fr1, e1, g1⟩:∃ fr1, opsA X0 (callN X0 0) [⟨s1, .box, [v0], none⟩, ⟨s2, .mov, [.const T.i0], none⟩] ⟨fr, [], h0, .no, none, t37⟩=.nrm ⟨fr1, [], ⟨up .e 1, (Tr.lf:Tr AB).put (up .e 0) (.cells E.d false), .lf⟩, .no, none, t37⟩∧fr1.get t1=some (.ptr (up .e 0) 0):=by
  have e0:h0=⟨up .e 0, .lf, .lf⟩:=rfl
  rw [e0]
  simp +decide only [SF,ga]
  refine ⟨_, rfl, ?_⟩
  simp +decide only [gp,if_false,if_true]
 refine wp_reg e1 ?_
 obtain ⟨fr2, t2, e2, p0, p1, p2, p3⟩:∃ fr2 t2, opsA X0 (callN X0 0) [⟨s9, .mkMap, [], none⟩, ⟨s10, .fieldAddr 0, [v1], none⟩, ⟨s11, .fieldAddr 0, [v10], none⟩, ⟨s12, .load none, [v11], none⟩, ⟨none, .mapUpd ⟨[.s], false⟩, [v9, v12, .const (.bool true)], none⟩, ⟨s13, .mov, [v9], none⟩, ⟨s3, .mov, [v13], none⟩] ⟨fr1, [], ⟨up .e 1, (Tr.lf:Tr AB).put (up .e 0) (.cells E.d false), .lf⟩, .no, none, t37⟩ =
   .nrm ⟨fr2, [], ⟨up .e 2, t2, .lf⟩, .no, none, t37⟩∧t2.get (up .e 0)=some (.cells E.d false)∧t2.get (up .e 1)=some (.amap (mpT [E.top]))∧fr2.get t1=some (.ptr (up .e 0) 0)∧fr2.get t3=some (.mapv (up .e 1)):=by
  have mu:∀ (p:Pth), mapUpdA ⟨p, ((Tr.lf:Tr AB).put (up .e 0) (.cells E.d false)).put (up .e 1) (.amap []), .lf⟩ ⟨[.s], false⟩ (.mapv (up .e 1)) (.str E.top) (.bool true)=some ⟨p, (((Tr.lf:Tr AB).put (up .e 0) (.cells E.d false)).put (up .e 1) (.amap [])).put (up .e 1) (.amap (mpT [E.top])), .lf⟩:=fun p=>by
   have hg:(((Tr.lf:Tr AB).put (up .e 0) (.cells E.d false)).put (up .e 1) (.amap [])).get (up .e 1)=some (.amap (mpT [])):=by rw [gp, if_pos rfl]; rfl
   exact mapUpd_T (h:=⟨p, ((Tr.lf:Tr AB).put (up .e 0) (.cells E.d false)).put (up .e 1) (.amap []), .lf⟩) hg E.top
  simp only [CkE.d] at mu ⊢
  simp +decide only [SF,Nat.reduceAdd,g1,st_mkMap,st_upd,mu]
  refine ⟨_, _, rfl, ?_, ?_, ?_, ?_⟩
  ·simp +decide only [gp,if_false,if_true]
  ·simp +decide only [gp,if_false,if_true]
  ·simp +decide only [gp,g1,if_false]
  ·simp +decide only [gp,if_false,if_true]
 refine wp_reg e2 ?_
 refine wp_seq (R:=fun o=>∃ fr m t, o=.nrm ⟨fr, [], ⟨up .e m, t, .lf⟩, .no, none, t37⟩) ?_ (fun o ho => ?_)
 ·obtain ⟨fr3, e3, q1, q3, q4⟩:∃ fr3, opsA X0 (callN X0 0) [⟨s4, .mov, [.const i1], none⟩] ⟨fr2, [], ⟨up .e 2, t2, .lf⟩, .no, none, t37⟩=.nrm ⟨fr3, [], ⟨up .e 2, t2, .lf⟩, .no, none, t37⟩∧fr3.get t1=some (.ptr (up .e 0) 0)∧fr3.get t3=some (.mapv (up .e 1))∧fr3.get t4=some (.int .i64 (.ofNat 1)):=by
   simp +decide only [SF]
   refine ⟨_, rfl, ?_, ?_, ?_⟩
   ·simp +decide only [gp,p2,if_false]
   ·simp +decide only [gp,p3,if_false]
   ·simp +decide only [gp,if_true]
  refine wp_reg e3 (wp_block (R:=fun o=>∃ fr m t, o=.exit 0 ⟨fr, [], ⟨up .e m, t, .lf⟩, .no, none, t37⟩) ?_ (fun o ho=>.inr ?_))
  ·simp only [wpA]
   refine ⟨D2 E C, 5, ⟨fr3, 2, t2, 1, 1, [E.top], rfl, rfl, by decide, by decide, p0, p1, ⟨_, List.mem_singleton.2 rfl, htop⟩, q1, q3, q4⟩, fun r s hD=>wp_mono _ s _ _ (fun o ho => ?_) (dl2_round R (f:=0) r s hD)⟩
   cases o with
   | nrm s'=>exact ho
   | _=>exact ho
  ·obtain ⟨fr, m, t, rfl⟩:=ho
   exact ⟨_, rfl, _, _, _, rfl⟩
 ·obtain ⟨fr, m, t, rfl⟩:=ho
  refine ⟨_, rfl, ?_⟩
  have e6:opsA X0 (callN X0 0) [⟨s2, .mov, [.const i6], none⟩] ⟨fr, [], ⟨up .e m, t, .lf⟩, .no, none, t37⟩=.nrm ⟨fr.put T.t2 i6, [], ⟨up .e m, t, .lf⟩, .no, none, t37⟩:=by
   simp +decide only [SF]
  refine wp_reg e6 ?_
  simp only [wpA]
  refine ⟨⟨up .e m, t, .lf⟩, ?_⟩
  simp +decide only [SM]
end
end Go.Abs.Sym
end
section
namespace Go.Abs.Sym
open Go.Abs.T
open Go.Proofs
theorem has_I (h:H):K1.sums t67 [slV bsC ⟨1, [inB, edgeB]⟩, .str inB] h=some (.bool true):=row1 rfl rfl rfl (by kernel_rfl) h
theorem has_E (h:H):K1.sums t67 [slV bsC ⟨1, [inB, edgeB]⟩, .str edgeB] h=some (.bool true):=row1 rfl rfl rfl (by kernel_rfl) h
theorem biI {k:Nat} (hk:k<6):BiOk ⟨1, [inB, edgeB]⟩ ⟨inB, netN.getD k []⟩:=by
 obtain ⟨o1, o2⟩:=okM_net k (by omega)
 obtain ⟨p1, p2⟩:=okM_I
 have q1:=okM_mem o1
 have q2:=okM_mem p1
 exact ⟨has_I, q1.1, q2.1, o2.trans p2.symm, q2.2.1⟩
theorem biE {k:Nat} (hk:k<3):BiOk ⟨1, [inB, edgeB]⟩ ⟨edgeB, edgeN.getD k []⟩:=by
 obtain ⟨o1, o2⟩:=okM_edge k (by omega)
 obtain ⟨p1, p2⟩:=okM_E
 have q1:=okM_mem o1
 have q2:=okM_mem p1
 exact ⟨has_E, q1.1, q2.1, o2.trans p2.symm, q2.2.1⟩
theorem binds_ok {bs:List BindD} (h:BindsOk bs):bs.length≤2∧∀ (k:Nat) b, bs[k]?=some b→BiOk ⟨1, [inB, edgeB]⟩ b∧(bs.take k).any (fun c=>eqS c.port b.port)=false:=by
 obtain ⟨x, y, rfl, hx, hy⟩:=h
 have n1:eqS inB edgeB=false:=by decide
 rcases hx with rfl | ⟨i, hi, rfl⟩<;>rcases hy with rfl | ⟨j, hj, rfl⟩
 ·simp
 ·refine ⟨by simp, fun k b hb => ?_⟩
  match k with
  | 0=>cases hb; exact ⟨biE hj, rfl⟩
  | k+1=>cases hb
 ·refine ⟨by simp, fun k b hb => ?_⟩
  match k with
  | 0=>cases hb; exact ⟨biI hi, rfl⟩
  | k+1=>cases hb
 ·refine ⟨by simp, fun k b hb => ?_⟩
  match k with
  | 0=>cases hb; exact ⟨biI hi, rfl⟩
  | 1=>cases hb; exact ⟨biE hj, by simp [n1]⟩
  | k+2=>cases hb
theorem sheet_ne (i j:Nat) (hi:i<3) (hj:j<3):i≠j→sheetN.getD i []≠sheetN.getD j []:=(by decide:∀ i<3, ∀ j<3, i≠j→sheetN.getD i []≠sheetN.getD j []) i hi j hj
theorem find_pw {l:List SheetD} (hp:l.Pairwise fun a b=>a.nm≠b.nm) {s:SheetD} (hm:s∈l):l.find? (fun a=>decide (s.nm=a.nm))=some s:=by
 induction l with
 | nil=>cases hm
 | cons a l ih =>
  obtain ⟨h1, h2⟩:=List.pairwise_cons.1 hp
  rcases List.mem_cons.1 hm with rfl | hm
  ·simp
  ·have hne:s.nm≠a.nm:=fun e=>h1 s hm e.symm
   rw [List.find?_cons, decide_eq_false hne]
   exact ih h2 hm
section
variable {va:Bool} {Ts:List TypD} {a b cnt:Nat} {l:List SheetD} (hs:ShsOkK va Ts a b cnt l) (hc:cnt≤3) (hl:l.length=cnt) (hb:b≤a) (ha:a<cnt)
include hs hc hl
theorem shs_pw:l.Pairwise fun a b=>a.nm≠b.nm:=by
 rw [List.pairwise_iff_getElem]
 intro i j hi hj hij
 have h1:=(hs i _ (List.getElem?_eq_getElem hi)).1
 have h2:=(hs j _ (List.getElem?_eq_getElem hj)).1
 rw [h1, h2]
 exact sheet_ne i j (by omega) (by omega) (by omega)
theorem shs_nd:(l.map (·.nm)).Nodup:=List.pairwise_map.2 (shs_pw hs hc hl)
theorem shs_any {k:Nat} {s:SheetD} (hk:l[k]?=some s):(l.take k).any (fun c=>eqS c.nm s.nm)=false:=by
 rw [List.any_eq_false]
 intro a' ha'
 rw [eqS_dec, decide_eq_true_eq]
 have hkl:k<l.length:=(List.getElem?_eq_some_iff.1 hk).1
 obtain ⟨i, hi⟩:=List.mem_iff_getElem?.1 ha'
 have hik:i<k:=by
  rcases Nat.lt_or_ge i k with h | h
  ·exact h
  ·rw [List.getElem?_eq_none (by rw [List.length_take]; omega)] at hi; cases hi
 rw [List.getElem?_take_of_lt hik] at hi
 rw [(hs i a' hi).1, (hs k s hk).1]
 exact sheet_ne i k (by omega) (by omega) (by omega)
theorem sheet_at {k:Nat} (hk:k<cnt):l.find? (fun s=>decide (sheetN.getD k []=s.nm))=l[k]?:=by
 have hB:=List.getElem?_eq_getElem (l:=l) (i:=k) (by omega)
 rw [hB, ← (hs k _ hB).1]
 exact find_pw (shs_pw hs hc hl) (List.getElem_mem _)
include hb ha
omit hc hl hb ha in
theorem subs_at {k:Nat} {s:SheetD} (hk:l[k]?=some s):∃ us, s.subs.l=us++(if k=a then [loopU b] else [])∧us.length≤2∧SubsOkK k us∧(us≠[]→k+1<cnt)∧(k+1<cnt→us≠[]):=by
 obtain ⟨_, _, _, us, e, hsub, h0, h1⟩:=hs k s hk
 refine ⟨us, e, ?_, hsub, fun hne => ?_, fun h => ?_⟩
 ·rcases Nat.lt_or_ge (k+1) cnt with h | h
  ·exact (h1 h).2
  ·rw [h0 h]; simp
 ·rcases Nat.lt_or_ge (k+1) cnt with h | h
  ·exact h
  ·exact absurd (h0 h) hne
 ·intro e0
  have:=(h1 h).1
  rw [e0] at this
  exact absurd this (by simp)
theorem sub_ok {k:Nat} {s:SheetD} (hk:l[k]?=some s):s.subs.l.length≤3∧∀ (j:Nat) u, s.subs.l[j]?=some u→SubOk l u∧(s.subs.l.take j).any (fun c=>eqS c.nm u.nm)=false:=by
 obtain ⟨us, e, h2, hsub, hne, _⟩:=subs_at hs hk
 have hlen:s.subs.l.length≤3:=by
  rw [e, List.length_append]
  have:(if k=a then [loopU b] else []).length≤1:=by split<;>simp
  omega
 refine ⟨hlen, fun j u hu => ?_⟩
 rw [e] at hu ⊢
 rcases Nat.lt_or_ge j us.length with hj | hj
 ·rw [List.getElem?_append_left hj] at hu
  have hk1:k+1<cnt:=hne (fun e0=>by rw [e0] at hj; exact absurd hj (by simp))
  obtain ⟨e1, e2, e4⟩:=hsub j u hu
  have hB:=List.getElem?_eq_getElem (l:=l) (i:=k+1) (by omega)
  obtain ⟨b1, _, ⟨most, zs, hpo, _⟩, _⟩:=hs (k+1) _ hB
  have hports:l[k+1].ports=⟨1, [inB, edgeB]⟩:=by
   rcases hpo with ⟨h, _⟩ | ⟨_, _, h⟩
   ·omega
   ·exact h
  obtain ⟨q1, q2⟩:=binds_ok e4
  refine ⟨⟨?_, by omega, l[k+1], ?_, ?_⟩, ?_⟩
  ·rw [e1]
   have:∀ j<2, subN.getD j []∈rightNs:=by decide
   exact this j (by omega)
  ·rw [e2]
   exact (sheet_at hs hc hl hk1).trans hB
  ·rw [hports]
   exact q2
  ·rw [List.any_eq_false]
   intro c hc'
   rw [eqS_dec, decide_eq_true_eq]
   rw [List.take_append_of_le_length (by omega)] at hc'
   obtain ⟨i, hi⟩:=List.mem_iff_getElem?.1 hc'
   have hij:i<j:=by
    rcases Nat.lt_or_ge i j with h | h
    ·exact h
    ·rw [List.getElem?_eq_none (by rw [List.length_take]; omega)] at hi; cases hi
   rw [List.getElem?_take_of_lt hij] at hi
   rw [(hsub i c hi).1, e1]
   have h2:∀ i<2, ∀ j<2, i≠j→subN.getD i []≠subN.getD j []:=by decide
   exact h2 i (by omega) j (by omega) (by omega)
 ·rw [List.getElem?_append_right hj] at hu
  by_cases hka:k=a
  ·simp only [hka, if_true] at hu ⊢
   have hj0:j=us.length:=by
    rcases Nat.lt_or_ge us.length j with h | h
    ·rw [List.getElem?_eq_none (by simp; omega)] at hu; cases hu
    ·omega
   subst hj0
   simp only [Nat.sub_self, List.getElem?_cons_zero, Option.some.injEq] at hu
   subst hu
   have hB:=List.getElem?_eq_getElem (l:=l) (i:=b) (by omega)
   refine ⟨⟨(by decide:loopB∈rightNs), (by decide:0<1000), l[b], (sheet_at hs hc hl (by omega)).trans hB, fun k x hx=>by cases hx⟩, ?_⟩
   rw [List.any_eq_false]
   intro c hc'
   rw [eqS_dec, decide_eq_true_eq]
   rw [List.take_append_of_le_length (Nat.le_refl _), List.take_length] at hc'
   obtain ⟨i, hi⟩:=List.mem_iff_getElem?.1 hc'
   have hil:=(List.getElem?_eq_some_iff.1 hi).1
   rw [(hsub i c hi).1]
   have h2:∀ i<2, subN.getD i []≠loopB:=by decide
   exact h2 i (by omega)
  ·simp only [hka, if_false] at hu
   cases hu
theorem ring_of:RingD l (fun x=>∃ k, k≤a∧x=sheetN.getD k []) where
 step := fun x ⟨k, hk, hx⟩=>by
  have hB:=List.getElem?_eq_getElem (l:=l) (i:=k) (by omega)
  subst hx
  refine ⟨l[k], (sheet_at hs hc hl (by omega)).trans hB, ?_⟩
  obtain ⟨us, e, h2, hsub, _, hne⟩:=subs_at hs hB
  rw [e]
  by_cases hka:k=a
  ·exact ⟨loopU b, by simp [hka], b, hb, rfl⟩
  ·have hne:=hne (by omega)
   obtain ⟨u, us', rfl⟩:=List.exists_cons_of_ne_nil hne
   refine ⟨u, by simp, k+1, by omega, ?_⟩
   exact (hsub 0 u rfl).2.1
 len:=fun B hB=>by
  obtain ⟨k, hk⟩:=List.mem_iff_getElem?.1 hB
  have:=(sub_ok hs hc hl hb ha hk).1
  omega
end
end Go.Abs.Sym
end
section
namespace Go.Abs.Sym
open Go.Abs.T
open Go.Proofs
theorem frz_shV (l:List SheetD):frz (shV l)=true:=by
 simp only [shV, frz, Bool.and_eq_true]
 exact ⟨frzs_map (fun _=>rfl) _, frzs_map (f:=fun a:SheetD=>.agg (sheetC a)) (fun a=>by simp only [frz, frz_sheet]) _⟩
theorem frz_d (E:CkE):frzs E.d=true:=by
 simp only [CkE.d, frzs, frz, frz_slV frz_sheet, frz_slV frz_ty, frz_slV frz_bs, frz_shV, Bool.and_self]
structure DesL (T0 T1:TypD) (E:CkE) (a b cnt:Nat):Prop where
 h3:cnt≤3
 ha:a<cnt
 hb:b≤a
 top:E.top=mainB
 ts:E.Ts=⟨1, [T0, T1, busT]⟩
 tf:TsF [T0, T1, busT]
 ln:E.Ss.l.length=cnt
 ok:ShsOkK E.va [T0, T1, busT] a b cnt E.Ss.l
 fl:∀ B, E.Ss.l[0]?=some B→E.fl=(!intoL E.top E.Ss.l&&decide (B.subs.l.length=0))
section
variable {T0 T1:TypD} {E:CkE} {a b cnt:Nat} (K:DesL T0 T1 E a b cnt)
include K
theorem desk_first:∃ B, E.Ss.l[0]?=some B∧E.Ss.l.find? (fun a=>decide (E.top=a.nm))=some B:=by
 have h:1≤cnt:=by have:=K.ha; omega
 have hl:=K.ln
 refine ⟨_, List.getElem?_eq_getElem (by omega), ?_⟩
 have hn:=(K.ok 0 _ (List.getElem?_eq_getElem (l:=E.Ss.l) (i:=0) (by omega))).1
 rw [K.top, show mainB=E.Ss.l[0].nm from hn.symm]
 exact find_pw (shs_pw K.ok K.h3 K.ln) (List.getElem_mem _)
theorem sh_facts {k:Nat} {s:SheetD} (hk:E.Ss.l[k]?=some s):ShFacts E s:=by
 have hkl:k<3:=by
  have:=K.ln
  have:=K.h3
  rcases Nat.lt_or_ge k E.Ss.l.length with h | h
  ·omega
  ·rw [List.getElem?_eq_none h] at hk; cases hk
 have tf:=K.tf
 obtain ⟨sub2, sok⟩:=sub_ok K.ok K.h3 K.ln K.hb K.ha hk
 obtain ⟨e1, e2, ⟨most, zs, hpo, hz, z1, z3, ey, ej⟩, _⟩:=K.ok k s hk
 have hmost:most≤9:=by rcases hpo with ⟨_, h, _⟩ | ⟨_, h, _⟩<;>omega
 obtain ⟨j1, j2, j3⟩:=zs_joins hmost tf hz z3
 have hprt:∃ a b, s.ports=prtL a∧s.power=pwrL b:=by
  rcases hpo with ⟨_, _, h⟩ | ⟨_, _, h⟩<;>rcases e2 with g | g
  ·exact ⟨false, false, h, g⟩
  ·exact ⟨false, true, h, g⟩
  ·exact ⟨true, false, h, g⟩
  ·exact ⟨true, true, h, g⟩
 obtain ⟨pa, pb, hp, hw⟩:=hprt
 have hpw:=zs_refs hz z3
 refine {
  right:=?_
  n1:=by rw [ey]; simp; omega
  n2:=by rw [ej]; simp only; omega
  n3:=by omega
  n4:=by rw [hp]; cases pa<;>decide
  n5:=by rw [hw]; cases pb<;>decide
  prt:=fun h => ?_
  sym:=⟨tmZ zs, fun pm h => ?_, fun pm h => ?_⟩
  sub:=fun h => ?_ }
 ·rw [e1]
  exact (by decide:∀ k<3, sheetN.getD k []∈rightNs) k hkl
 ·have:=ports_sum (nm:=s.nm) (S:=slV symC s.syms) (J:=slV joinC s.joins) (U:=slV subC s.subs) pa pb (frz_slV frz_sym _) (frz_slV frz_join _) (frz_slV frz_sub _) h
  rw [← hp, ← hw] at this
  exact this
 ·refine syms_sum ⟨.str E.top, slV sheetC E.Ss, E.Ts, E.va, shV E.Ss.l, .bool E.fl, s.syms, tmZ zs⟩ ⟨?_, ?_, ?_, ?_, ?_, ?_⟩ rfl (frz_d E) h
  ·show s.syms.l.length<1000
   rw [ey]; simp; omega
  ·show E.Ts.l.length<90000
   rw [K.ts]; exact (by decide:3<90000)
  ·intro T hT
   have hT:T∈E.Ts.l:=hT
   rw [K.ts] at hT
   exact (tf.f T hT).nice
  ·show (tmZ zs).length=s.syms.l.length
   rw [ey]; simp [tmZ]
  ·intro i x hx
   have hx:s.syms.l[i]?=some x:=hx
   rw [ey] at hx
   simp only [List.getElem?_map, Option.map_eq_some_iff] at hx
   obtain ⟨z, hzi, rfl⟩:=hx
   obtain ⟨o1, o2, o3, o4, _⟩:=hz i z hzi
   have hi:i<3:=by
    rcases Nat.lt_or_ge i zs.length with h | h
    ·omega
    ·rw [List.getElem?_eq_none h] at hzi; cases hzi
   refine ⟨z.2.1, ?_, ?_, ?_, o4⟩
   ·show (tmZ zs)[i]?=_
    simp only [tmZ, List.getElem?_map, hzi, Option.map_some]
   ·rw [o1]
    exact (by decide:∀ i<3, refN.getD i []∈rightNs) i hi
   ·show E.Ts.l.find? _=_
    rw [K.ts]
    have hnd:[T0, T1, busT].Pairwise fun a b=>a.nm≠b.nm:=List.pairwise_map.1 tf.nd
    rw [o3]
    clear o1 o3 o4 hzi
    generalize [T0, T1, busT]=Ts at o2 hnd
    induction Ts with
    | nil=>cases o2
    | cons a l ih =>
     obtain ⟨q1, q2⟩:=List.pairwise_cons.1 hnd
     rcases List.mem_cons.1 o2 with h | h
     ·subst h
      simp [eqS_dec]
     ·have hne:a.nm≠z.2.1.nm:=q1 _ h
      rw [List.find?_cons, eqS_dec, decide_eq_false hne]
      exact ih h q2
  ·show ((tmZ zs).map (·.1)).Nodup
   simp only [tmZ, List.map_map]
   exact List.pairwise_map.2 hpw
 ·exact joins_sum ⟨tmZ zs, s.joins, pm⟩ rfl (by show s.joins.l.length<1000; rw [ej]; simp only; omega) (by show ∀ j∈s.joins.l, _; rw [ej]; exact j2) (by show (s.joins.l.flatMap pinsJ).Nodup; rw [ej]; exact j3) h
 ·exact subs_sum ⟨.str E.top, slV sheetC E.Ss, slV tyC E.Ts, slV bsC (vaL E.va), .bool E.fl, E.Ss.l, s⟩ ⟨by show s.subs.l.length<1000; omega, sok⟩ (frz_d E) h
theorem of_made (h:H):K4.sums t28 [.agg E.d4] h=some (.agg E.d):=by
 obtain ⟨B, hB0, hB⟩:=desk_first K
 have hls:∀ s∈E.Ss.l, s.subs.l.length<1000:=fun s hs=>by
  obtain ⟨k, hk⟩:=List.mem_iff_getElem?.1 hs
  have:=(sub_ok K.ok K.h3 K.ln K.hb K.ha hk).1
  omega
 have hlt:E.Ss.l.length<1000:=by have:=K.ln; have:=K.h3; omega
 have:=of_sum ⟨E.top, E.Ss, slV tyC E.Ts, slV bsC (vaL E.va)⟩ ⟨⟨hlt, shs_nd K.ok K.h3 K.ln, hls, on_slV _ _, on_slV _ _⟩, frz_slV frz_ty _, frz_slV frz_bs _⟩ hB h
 simp only at this
 rw [← K.fl B hB0] at this
 exact this
theorem types_made (h:H):(KD T0 T1 (.agg E.d)).sums t29 [.agg E.d] h=some (.tup []):=by
 refine types_sum ⟨.str E.top, slV sheetC E.Ss, E.Ts, E.va, shV E.Ss.l, .bool E.fl, ⟨0, []⟩, []⟩ ⟨?_, ?_, ?_, ?_⟩ (frz_d E) h
 ·show E.Ts.l.length<1000
  rw [K.ts]; exact (by decide:3<1000)
 ·intro T hT
  have hT:T∈E.Ts.l:=hT
  rw [K.ts] at hT
  exact (K.tf.f T hT).nice
 ·intro T hT
  have hT:T∈E.Ts.l:=hT
  rw [K.ts] at hT
  exact hT
 ·show (E.Ts.l.map (·.nm)).Nodup
  rw [K.ts]; exact K.tf.nd
theorem ckl_made:CkL T0 T1 E where
 lt:=by have:=K.ln; have:=K.h3; omega
 ok:=fun k s hk=>⟨sh_facts K hk, shs_any K.ok K.h3 K.ln hk⟩
 s10:=by have:=K.ln; have:=K.h3; omega
 t20:=by rw [K.ts]; exact (by decide:3≤20)
 hof:=of_made K
 hty:=types_made K
 hB:=by obtain ⟨B, _, hB⟩:=desk_first K; exact ⟨B, hB⟩
theorem ring_made:RingD E.Ss.l (fun x=>∃ k, k≤a∧x=sheetN.getD k []):=ring_of K.ok K.h3 K.ln K.hb K.ha
end
end Go.Abs.Sym
end
end
