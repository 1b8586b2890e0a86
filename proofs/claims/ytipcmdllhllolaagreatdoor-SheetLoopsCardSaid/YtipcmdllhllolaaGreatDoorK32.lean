/- The sheets in a sheet: their binds. -/
import Derived.Test.YtipcmdllhllolaaGreatDoorK31
noncomputable section
section
namespace Go.Abs.Sym
open Go.Abs.T
open Go.Proofs
theorem slice_slV {α:Type} {f:α→List AV} {sz:Nat} (hf:∀ a, (f a).length=sz) {kd:Nat} {l:List α} (hl:l≠[]) {k:Nat} (hk:k≤l.length):sliceA (.slc sz) false true false [slV f ⟨kd, l⟩, .int .i64 (.ofNat k)]=some (slV f ⟨1, l.take k⟩):=by
 have e1:slV f ⟨kd, l⟩=.rslc l.length (l.flatMap f):=by
  cases l with
  | nil=>exact absurd rfl hl
  | cons a l=>rfl
 have e2:slV f ⟨1, l.take k⟩=.rslc k ((l.flatMap f).take (k*sz)):=by
  have e3:(l.flatMap f).take (k*sz)=(l.take k).flatMap f:=by
   conv=>lhs; rw [← List.take_append_drop k l, List.flatMap_append]
   exact List.take_left' (by rw [len_flat hf, List.length_take, Nat.min_eq_left hk])
  have e4:(l.take k).length=k:=by rw [List.length_take, Nat.min_eq_left hk]
  rw [e3]
  cases hq:l.take k with
  | nil=>rw [hq] at e4; subst e4; rfl
  | cons a l'=>rw [hq] at e4; rw [← e4]; rfl
 have hb:natIn (.ofNat k) l.length=some k:=by
  have h1:leI (.ofNat 0) (.ofNat k)=true:=rfl
  have h2:leI (.ofNat k) (.ofNat l.length)=true:=Nat.ble_eq_true_of_le hk
  simp only [natIn]
  rw [show leI 0 (.ofNat k)=true from h1, h2]
  rfl
 rw [e1, e2]
 simp only [sliceA, bounds, Option.getD_none, hb, Nat.sub_zero, Nat.zero_mul, List.drop_zero]
structure BiOk (ports:Sl Bs) (b:BindD):Prop where
 has:∀ h, K1.sums t67 [slV bsC ports, .str b.port] h=some (.bool true)
 net:(b.net, memF b.net)∈memT
 port:(b.port, memF b.port)∈memT
 len:(memF b.net).length=(memF b.port).length
 ne:0<(memF b.port).length
def sbR:List Pth:=[t2, t3, t4, t5, t6, t12, t13, t14]
structure BiE where
 us:SubD
 pb:Sl Bs
 B:SheetD
 sb:Nat
 bb:Nat
 m0:Nat
 u0:Tr AB
 fr0:Tr AV
structure BiOK (E:BiE):Prop where
 g5:E.fr0.get t5=some (.ptr (up .e E.sb) 0)
 g6:E.fr0.get t6=some (.ptr (up .e E.bb) 0)
 a5:E.u0.get (up .e E.sb)=some (.cells (subC E.us) false)
 a6:E.u0.get (up .e E.bb)=some (.cells (sheetC E.B) false)
 s0:E.sb<E.m0
 b0:E.bb<E.m0
 lt:E.us.binds.l.length<1000
 ok:∀ (k:Nat) b, E.us.binds.l[k]?=some b→BiOk E.B.ports b∧(E.us.binds.l.take k).any (fun c=>eqS c.port b.port)=false
def BiI (E:BiE) (r:Nat) (s:St):Prop:=∃ fr m t k, s=⟨fr, [], ⟨up .e m, t, .lf⟩, .no, none, t36⟩∧k+r=E.us.binds.l.length∧E.m0≤m∧KeepF sbR E.fr0 fr ∧
 fr.get t43=some (slV bindC E.us.binds)∧fr.get t44=some (.int .i64 (.ofNat E.us.binds.l.length))∧fr.get t45=some (.int .i64 (.ofNat k))∧∀ i, i<E.m0→t.get (up .e i)=E.u0.get (up .e i)
theorem bi_round (E:BiE) (ok:BiOK E) (r:Nat) (s:St) (h:BiI E r s) :
  Stp (BiI E) (fun o=>∃ s, o=.exit 2 s∧BiI E 0 s) r (execA K3 (callN K3 49) c36_l0 s):=by
 obtain ⟨fr, m, t, k, rfl, hk, hm, kf, g43, g44, g45, hfr⟩:=h
 have hlt:=ok.lt
 have hs0:=ok.s0
 have hb0:=ok.b0
 have g5:=(kf t5 (by simp [sbR])).trans ok.g5
 have g6:=(kf t6 (by simp [sbR])).trans ok.g6
 have a5:=(hfr _ hs0).trans ok.a5
 have a6:=(hfr _ hb0).trans ok.a6
 cases r with
 | zero =>
  have hkn:(k<E.us.binds.l.length)=False:=eq_false (by omega)
  simp +decide only [c36_l0,SF,g44,g45,ltI_dec,hkn,stp_e]
  refine ⟨_, rfl, _, m, t, k, rfl, hk, hm, ?_, ?_, ?_, ?_, hfr⟩
  ·simp +decide only [KeepF_put]
   exact kf
  all_goals simp +decide only [gp,g43,g44,g45,if_false]
 | succ r =>
  have hkn:(k<E.us.binds.l.length)=True:=eq_true (by omega)
  obtain ⟨b, hka⟩:∃ b, E.us.binds.l[k]?=some b:=⟨_, List.getElem?_eq_getElem (by omega)⟩
  have ia:=at_slV (f:=bindC) (sz:=2) len_bind (by decide) hka
  have hw:=wr_add k 1 (by omega)
  obtain ⟨hb, hany⟩:=ok.ok k b hka
  have hfl:∀ (e:Nat) h, callN K3 49 (.fn t27 [] []) [.bool false, .int .i64 (.ofNat e)] h=.ret (.tup []) h:=fun e h=>fail3 (f:=48) e h
  have hhas:∀ h, callN K3 49 (.fn t67 [] []) [slV bsC E.B.ports, .str b.port] h=.ret (.bool true) h:=fun h=>s31 (f:=48) rfl rfl (hb.has h)
  have hmn:∀ h, callN K3 49 (.fn t74 [] []) [.str b.net, .bool false] h=.ret (slV bsC ⟨1, memF b.net⟩) h:=fun h=>mem3 (f:=48) hb.net false h
  have hmp:∀ h, callN K3 49 (.fn t74 [] []) [.str b.port, .bool false] h=.ret (slV bsC ⟨1, memF b.port⟩) h:=fun h=>mem3 (f:=48) hb.port false h
  have hln:=hb.len
  have hne:=hb.ne
  have hl1:eqI (.ofNat (memF b.net).length) (.ofNat 0)=false:=by rw [eqI_dec]; exact decide_eq_false (fun e=>by have:=Int.ofNat.inj e; omega)
  have hl3:eqI (.ofNat (memF b.net).length) (.ofNat (memF b.port).length)=true:=by rw [eqI_dec]; exact decide_eq_true (by rw [hln])
  have hsl:=slice_slV len_bind (kd:=E.us.binds.kind) (l:=E.us.binds.l) (k:=k) (fun e=>by rw [e] at hka; exact absurd hka (by simp)) (by omega)
  have ns:=nz0 (show E.sb<m by omega)
  have nb:=nz0 (show E.bb<m by omega)
  simp only [subC] at a5
  simp only [sheetC] at a6
  simp only [bindC] at ia
  simp +decide only [c36_l0,SF,Nat.reduceAdd,g5,g6,g43,g44,g45,a5,a6,ns,nb,hhas,hsl,ltI_dec,hkn,ia,hfl]
  generalize hR:callN K3 49 (g t78) _ _=R
  have hl0:(E.us.binds.l.take k).length<90000:=by rw [List.length_take]; omega
  have hF78:K3.funcs.get t78=some (cfF t119):=rfl
  have hF119:K3.funcs.get t119=some (idxF 2):=rfl
  have hF79:K3.funcs.get t79=some c77:=rfl
  have hQ:=cf_nm (X:=K3) (n:=46) (i:=t78) (c:=t79) (i2:=t119) (nm:=b.port) (r':=[.str b.net]) (f:=bindC) (q:=fun c=>eqS c.port b.port) (l:=E.us.binds.l.take k) (fun _ _=>rfl) hF78 (fun _ _=>rfl) hF119 (fun _ _=>rfl) hF79 rfl (View_slV len_bind (by decide) _ ⟨1, E.us.binds.l.take k⟩) hl0 (fun _=>⟨_, _, rfl⟩) (fun _=>rfl) rfl (by omega) (by rw [gp, if_pos rfl]) hR
  clear hR
  obtain ⟨j1, t', hRe, hold', hj1⟩:=hQ
  subst hRe
  have b9:t'.get (up .e m)=some (.cells [.str b.port, .str b.net] false):=(hold' m (by omega)).trans (by rw [gp, if_pos rfl])
  have old:∀ i, i<E.m0→t'.get (up .e i)=E.u0.get (up .e i):=fun i hi=>by
   have n0:=nz0 (show i<m by omega)
   rw [hold' i (by omega)]
   simp only [gp, up_inj, n0, if_false]
   exact hfr i hi
  simp +decide only [SF,hany,hfl,b9,hmn,hmp,hl1,hl3,g45,len_slV,hw,stp_n]
  refine ⟨r, by omega, _, j1, t', k+1, rfl, by omega, by omega, ?_, ?_, ?_, ?_, old⟩
  ·simp +decide only [KeepF_put]
   exact kf
  ·simp +decide only [gp,g43,if_false]
  ·simp +decide only [gp,g44,if_false]
  ·simp +decide only [gp, if_true, reduceIte]
theorem bi_loop {us:SubD} {B:SheetD} (hlt:us.binds.l.length<1000) (hok:∀ (k:Nat) b, us.binds.l[k]?=some b→BiOk B.ports b∧(us.binds.l.take k).any (fun c=>eqS c.port b.port)=false) {fr:Tr AV} {m sb bb:Nat} {t:Tr AB} {o:Out}
  (hit:iterA (execA K3 (callN K3 49) c36_l0) 100000 ⟨fr, [], ⟨up .e m, t, .lf⟩, .no, none, t36⟩=o) (g5:fr.get t5=some (.ptr (up .e sb) 0)) (g6:fr.get t6=some (.ptr (up .e bb) 0)) (a5:t.get (up .e sb)=some (.cells (subC us) false)) (a6:t.get (up .e bb)=some (.cells (sheetC B) false)) (hs:sb<m) (hb:bb<m)
  (g43:fr.get t43=some (slV bindC us.binds)) (g44:fr.get t44=some (.int .i64 (.ofNat us.binds.l.length))) (g45:fr.get t45=some i0) :
  ∃ fr' m' t', o=.exit 2 ⟨fr', [], ⟨up .e m', t', .lf⟩, .no, none, t36⟩∧m≤m'∧KeepF sbR fr fr'∧∀ i, i<m→t'.get (up .e i)=t.get (up .e i):=by
 have ho:∃ s, o=.exit 2 s∧BiI ⟨us, B.ports, B, sb, bb, m, t, fr⟩ 0 s:=by
  rw [← hit]
  exact iter_rule (BiI ⟨us, B.ports, B, sb, bb, m, t, fr⟩) (fun o=>∃ s, o=.exit 2 s∧BiI ⟨us, B.ports, B, sb, bb, m, t, fr⟩ 0 s) (fun r s h=>bi_round _ ⟨g5, g6, a5, a6, hs, hb, hlt, hok⟩ r s h) 100000 us.binds.l.length _ ⟨fr, m, t, 0, rfl, Nat.zero_add _, Nat.le_refl _, fun _ _=>rfl, g43, g44, g45, fun _ _=>rfl⟩ (by omega)
 obtain ⟨s, rfl, fr', m', t', k, rfl, _, h1, h2, _, _, _, h3⟩:=ho
 exact ⟨fr', m', t', rfl, h1, h2, h3⟩
end Go.Abs.Sym
end
section
namespace Go.Abs.Sym
open Go.Abs.T
open Go.Proofs
def shV (l:List SheetD):AV:=.rmap (l.map fun a=>.str a.nm) (l.map fun a=>.agg (sheetC a))
structure SubOk (Sh:List SheetD) (u:SubD):Prop where
 right:u.nm∈rightNs
 lt:u.binds.l.length<1000
 sh:∃ B, Sh.find? (fun a=>decide (u.sh=a.nm))=some B∧∀ (k:Nat) b, u.binds.l[k]?=some b→BiOk B.ports b∧(u.binds.l.take k).any (fun c=>eqS c.port b.port)=false
structure SuqE where
 top:AV
 S:AV
 Ts:AV
 V:AV
 fl:AV
 Sh:List SheetD
 s:SheetD
structure SuqOK (E:SuqE):Prop where
 lt:E.s.subs.l.length<1000
 ok:∀ (k:Nat) u, E.s.subs.l[k]?=some u→SubOk E.Sh u∧(E.s.subs.l.take k).any (fun c=>eqS c.nm u.nm)=false
def dqC (E:SuqE):List AV:=[E.top, E.S, E.Ts, E.V, shV E.Sh, E.fl]
def SuqI (E:SuqE) (r:Nat) (s:St):Prop:=∃ fr m t k, s=⟨fr, [], ⟨up .e m, t, .lf⟩, .no, none, t36⟩∧k+r=E.s.subs.l.length∧2≤m ∧
 fr.get t2=some (.ptr (up .e 0) 0)∧fr.get t3=some (.ptr (up .e 1) 0)∧fr.get t12=some (slV subC E.s.subs)∧fr.get t13=some (.int .i64 (.ofNat E.s.subs.l.length))∧fr.get t14=some (.int .i64 (.ofNat k)) ∧
 t.get (up .e 0)=some (.cells (dqC E) false)∧t.get (up .e 1)=some (.cells (sheetC E.s) false)
theorem suq_round (E:SuqE) (ok:SuqOK E) (r:Nat) (s:St) (h:SuqI E r s) :
  Stp (SuqI E) (fun o=>∃ s, o=.exit 0 s∧SuqI E 0 s) r (execA K3 (callN K3 49) c36_l1 s):=by
 obtain ⟨fr, m, t, k, rfl, hk, hm, g2, g3, g12, g13, g14, a0, a1⟩:=h
 have hlt:=ok.lt
 cases r with
 | zero =>
  have hkn:(k<E.s.subs.l.length)=False:=eq_false (by omega)
  simp +decide only [c36_l1,SF,g13,g14,ltI_dec,hkn,stp_e]
  refine ⟨_, rfl, _, m, t, k, rfl, hk, hm, ?_, ?_, ?_, ?_, ?_, a0, a1⟩
  all_goals simp +decide only [gp,g2,g3,g12,g13,g14,if_false]
 | succ r =>
  have hkn:(k<E.s.subs.l.length)=True:=eq_true (by omega)
  obtain ⟨u, hka⟩:∃ u, E.s.subs.l[k]?=some u:=⟨_, List.getElem?_eq_getElem (by omega)⟩
  have ia:=at_slV (f:=subC) (sz:=3) len_sub (by decide) hka
  have hw:=wr_add k 1 (by omega)
  obtain ⟨hu, hany⟩:=ok.ok k u hka
  obtain ⟨B, hB, hbi⟩:=hu.sh
  have hfl:∀ (e:Nat) h, callN K3 49 (.fn t27 [] []) [.bool false, .int .i64 (.ofNat e)] h=.ret (.tup []) h:=fun e h=>fail3 (f:=48) e h
  have hri:∀ h, callN K3 49 (.fn t30 [] []) [.str u.nm] h=.ret (.bool true) h:=fun h=>right3 (f:=48) hu.right h
  have hsl:=slice_slV len_sub (kd:=E.s.subs.kind) (l:=E.s.subs.l) (k:=k) (fun e=>by rw [e] at hka; exact absurd hka (by simp)) (by omega)
  have hlk:∀ (h:H) (z:AV), lookupA h ⟨[.s], false⟩ z true (shV E.Sh) (.str u.sh)=some (.tup [.agg (sheetC B), .bool true]):=fun h z=>by
   have:=look_R (fun a:SheetD=>a.nm) (fun a=>.agg (sheetC a)) E.Sh h z true u.sh
   rw [hB] at this
   exact this
  have n0:(0=m)=False:=eq_false (by omega)
  have n1:(1=m)=False:=eq_false (by omega)
  have n0':∀ c, (0=m+c)=False:=fun c=>eq_false (by omega)
  have n1':∀ c, (1=m+c)=False:=fun c=>eq_false (by omega)
  have a0':=a0
  have a1':=a1
  simp only [dqC] at a0'
  simp only [sheetC] at a1' hlk
  simp only [subC] at ia
  simp +decide only [c36_l1,SF,Nat.reduceAdd,g3,g12,g13,g14,a1',n1,hri,hsl,ltI_dec,hkn,ia,hfl]
  generalize hR:callN K3 49 (g t63) _ _=R
  have hl0:(E.s.subs.l.take k).length<90000:=by rw [List.length_take]; omega
  have hF63:K3.funcs.get t63=some (cfF t105):=rfl
  have hF105:K3.funcs.get t105=some (idxF 3):=rfl
  have hF77:K3.funcs.get t77=some c77:=rfl
  have hQ:=cf_nm (X:=K3) (n:=46) (i:=t63) (c:=t77) (i2:=t105) (nm:=u.nm) (r':=[.str u.sh, slV bindC u.binds]) (f:=subC) (q:=fun c=>eqS c.nm u.nm) (l:=E.s.subs.l.take k) (fun _ _=>rfl) hF63 (fun _ _=>rfl) hF105 (fun _ _=>rfl) hF77 rfl (View_slV len_sub (by decide) _ ⟨1, E.s.subs.l.take k⟩) hl0 (fun _=>⟨_, _, rfl⟩) (fun _=>rfl) rfl (by omega) (by rw [gp, if_pos rfl]) hR
  clear hR
  obtain ⟨j1, t', hRe, hold, hj1⟩:=hQ
  subst hRe
  have b5:t'.get (up .e m)=some (.cells [.str u.nm, .str u.sh, slV bindC u.binds] false):=(hold m (by omega)).trans (by rw [gp, if_pos rfl])
  have b0:t'.get (up .e 0)=some (.cells (dqC E) false):=(hold 0 (by omega)).trans (by simp only [gp, up_inj, n0, if_false]; exact a0)
  have b1:t'.get (up .e 1)=some (.cells (sheetC E.s) false):=(hold 1 (by omega)).trans (by simp only [gp, up_inj, n1, if_false]; exact a1)
  clear hold
  have b0':=b0
  simp only [dqC] at b0'
  have nm:=nz0 (show m<j1 by omega)
  simp +decide only [SF,Nat.reduceAdd,hany,hfl,b5,b0',nm,g2,st_look',hlk,len_slV,List.getElem?_cons_zero,List.getElem?_cons_succ]
  generalize hit:iterA (execA K3 (callN K3 49) c36_l0) _ _=o
  obtain ⟨fr2, m2, t2', rfl, hm2, kf, hfr⟩:=bi_loop (sb:=m) (bb:=j1) (us:=u) (B:=B) hu.lt hbi hit (by simp +decide only [gp,if_true,if_false]) (by simp +decide only [gp,if_true,if_false])
   (by simp only [gp, up_inj, nm, if_false]; exact b5) (by rw [gp, if_pos rfl]; rfl) (by omega) (by omega) (by simp +decide only [gp,if_true,if_false]) (by simp +decide only [gp,if_true,if_false]) (by simp +decide only [gp,if_true,if_false])
  clear hit
  have k2:fr2.get t2=some (.ptr (up .e 0) 0):=(kf t2 (by simp [sbR])).trans (by simp +decide only [gp,g2,if_false])
  have k3:fr2.get t3=some (.ptr (up .e 1) 0):=(kf t3 (by simp [sbR])).trans (by simp +decide only [gp,g3,if_false])
  have k12:fr2.get t12=some (slV subC E.s.subs):=(kf t12 (by simp [sbR])).trans (by simp +decide only [gp,g12,if_false])
  have k13:fr2.get t13=some (.int .i64 (.ofNat E.s.subs.l.length)):=(kf t13 (by simp [sbR])).trans (by simp +decide only [gp,g13,if_false])
  have k14:fr2.get t14=some (.int .i64 (.ofNat k)):=(kf t14 (by simp [sbR])).trans (by simp +decide only [gp,g14,if_false])
  have j0:=nz0 (show 0<j1 by omega)
  have j1':=nz0 (show 1<j1 by omega)
  have c0:t2'.get (up .e 0)=some (.cells (dqC E) false):=(hfr 0 (by omega)).trans (by simp only [gp, up_inj, j0, if_false]; exact b0)
  have c1:t2'.get (up .e 1)=some (.cells (sheetC E.s) false):=(hfr 1 (by omega)).trans (by simp only [gp, up_inj, j1', if_false]; exact b1)
  simp +decide only [SF,k14,hw,stp_n]
  refine ⟨r, by omega, _, m2, t2', k+1, rfl, by omega, by omega, ?_, ?_, ?_, ?_, ?_, c0, c1⟩
  all_goals simp +decide only [gp,k2,k3,k12,k13,if_true,if_false]
theorem subs_sum (E:SuqE) (ok:SuqOK E) (hf:frzs (dqC E)=true) (h:H):K4.sums t36 [.agg (dqC E), .agg (sheetC E.s)] h=some (.tup []):=by
 have hs:∀ xs, K3.sums t36 xs h0=none:=fun _=>rfl
 have hF:K3.funcs.get t36=some c36:=rfl
 have hr:Ret (callN K3 50 (.fn t36 [] []) [.agg (dqC E), .agg (sheetC E.s)] h0) (fun v h=>v=.tup []):=by
  refine begin2 (hs _) hF fun fr t ga gb => ?_
  rw [c36]
  have gb':=gb
  simp only [sheetC] at gb'
  simp +decide only [SM,Nat.reduceAdd,ga,gb',len_slV,kf3]
  generalize hit:iterA (execA K3 (callN K3 49) c36_l1) _ _=o
  have ho:∃ s, o=.exit 0 s∧SuqI E 0 s:=by
   rw [← hit]
   refine iter_rule (SuqI E) (fun o=>∃ s, o=.exit 0 s∧SuqI E 0 s) (fun r s h=>suq_round E ok r s h) 100000 E.s.subs.l.length _ ⟨_, 2, _, 0, rfl, Nat.zero_add _, by omega, ?_, ?_, ?_, ?_, ?_, ?_, ?_⟩ (by have:=ok.lt; omega)
   all_goals simp +decide only [gp,if_true,if_false]
   rfl
  obtain ⟨s, rfl, fr', m', t', k, rfl, _⟩:=ho
  simp +decide only [SM]
 obtain ⟨v, h1, hc, rfl⟩:=hr
 exact over_fz' (X:=K3) rfl hc (by simp only [frzs, frz, frz_sheet, hf, Bool.and_self]) rfl h
end Go.Abs.Sym
end
section
namespace Go.Abs.Sym
open Go.Abs.T
open Go.Proofs
def chkS (T0 T1:TypD) (more:Pth→List AV→H→Option AV) (i:Pth) (args:List AV) (h:H):Option AV :=
 bif Pth.beq i t65 then (match args with
  | [a]=>bif AV.beq a (.agg (tyC T0))||AV.beq a (.agg (tyC T1))||AV.beq a (.agg (tyC busT)) then some i0 else none
  | _=>none) else bif Pth.beq i t29 then none else more i args h
def KC (T0 T1:TypD):Ctx:={ K4 with sums:=chkS T0 T1 K4.sums }
variable {T0 T1:TypD}
theorem kc_4 (i:Pth) (h1:Pth.beq i t65=false) (h2:Pth.beq i t29=false) (xs:List AV) (h:H):(KC T0 T1).sums i xs h=K4.sums i xs h:=by
 simp only [KC, chkS, h1, h2, cond_false]
theorem kc_3 (i:Pth) (h1:Pth.beq i t65=false) (h2:Pth.beq i t29=false) (h3:memP i [t7,t28,t29,t35,t34,t36,t37]=false) (xs:List AV) (h:H):(KC T0 T1).sums i xs h=K3.sums i xs h :=
 (kc_4 i h1 h2 xs h).trans (over_rest (X:=K3) h3 rfl xs h)
theorem sC {f:Nat} {i:Pth} {xs:List AV} {v:AV} {h:H} (h1:Pth.beq i t65=false) (h2:Pth.beq i t29=false) (h3:memP i [t7,t28,t29,t35,t34,t36,t37]=false) (h4:K3.sums i xs h=some v):callN (KC T0 T1) (f+1) (g i) xs h=.ret v h :=
 call_sum (by rw [List.nil_append, List.append_nil, kc_3 i h1 h2 h3]; exact h4)
theorem sC1 {f:Nat} {i:Pth} {xs:List AV} {v:AV} {h:H} (h1:Pth.beq i t65=false) (h2:Pth.beq i t29=false) (h3:memP i [t7,t28,t29,t35,t34,t36,t37]=false) (h5:memP i [t20, t66]=false) (h6:Pth.beq i t75=false) (h4:K1.sums i xs h=some v):callN (KC T0 T1) (f+1) (g i) xs h=.ret v h :=
 sC h1 h2 h3 ((sums3_2 _ _ _ h5).trans ((sums2_1 _ _ _ h6).trans h4))
theorem failC {f:Nat} (e:Nat) (h:H):callN (KC T0 T1) (f+1) (g t27) [.bool false, .int .i64 (.ofNat e)] h=.ret (.tup []) h:=sC1 rfl rfl rfl rfl rfl (fail_sum _ h)
theorem rightC {f:Nat} {s:Bs} (hs:s∈rightNs) (h:H):callN (KC T0 T1) (f+1) (g t30) [.str s] h=.ret (.bool true) h:=sC1 rfl rfl rfl rfl rfl (right_sum hs h)
theorem get_none {Ts:Sl TypD} (hl:Ts.l.length<90000) (sm:∀ T∈Ts.l, Nice T) {nm:Bs} (hT:Ts.l.find? (fun T=>eqS T.nm nm)=none) (h:H):K3.sums t66 [slV tyC Ts, .str nm] h=some (.tup [.agg (tyC zeroT), .bool false]):=by
 obtain ⟨r, h1, hc, hr⟩:=get66 Ts hl (fun T hT=>(sm T hT).toSmall) nm
 rcases hr with ⟨hr, _⟩ | ⟨T', hT', _⟩
 ·rw [hr] at hc
  exact over_fz' (X:=K2) rfl hc (by simp only [frzs, frz, frz_slV frz_ty, Bool.and_self]) (by simp only [frz, frzs, frz_ty, Bool.and_self]) h
 ·rw [hT] at hT'
  cases hT'
theorem chkC {f:Nat} {T:TypD} (hT:T∈[T0, T1, busT]) (h:H):callN (KC T0 T1) (f+1) (g t65) [.agg (tyC T)] h=.ret i0 h:=by
 refine call_sum ?_
 rw [List.nil_append, List.append_nil]
 simp only [List.mem_cons, List.not_mem_nil, or_false] at hT
 have hb:AV.beq (.agg (tyC T)) (.agg (tyC T))=true:=beq_rfl _
 show chkS T0 T1 K4.sums t65 [.agg (tyC T)] h=some i0
 rcases hT with rfl | rfl | rfl
 ·simp only [chkS, hb, Bool.true_or, cond_true]
  rfl
 ·simp only [chkS, hb, Bool.true_or, Bool.or_true, cond_true]
  rfl
 ·simp only [chkS, hb, Bool.or_true, cond_true]
  rfl
end Go.Abs.Sym
end
section
namespace Go.Abs.Sym
open Go.Abs.T
open Go.Proofs
structure TqOK (T0 T1:TypD) (E:SmE):Prop where
 lT:E.Ts.l.length<1000
 nice:∀ T∈E.Ts.l, Nice T
 mem:∀ T∈E.Ts.l, T∈[T0, T1, busT]
 nd:(E.Ts.l.map (·.nm)).Nodup
def TqI (E:SmE) (r:Nat) (s:St):Prop:=∃ fr m t k, s=⟨fr, [], ⟨up .e m, t, .lf⟩, .no, none, t29⟩∧k+r=E.Ts.l.length∧1≤m ∧
 fr.get t1=some (.ptr (up .e 0) 0)∧fr.get t11=some (slV tyC E.Ts)∧fr.get t12=some (.int .i64 (.ofNat E.Ts.l.length))∧fr.get t13=some (.int .i64 (.ofNat k))∧t.get (up .e 0)=some (.cells (dC E) false)
theorem tq_round {T0 T1:TypD} (E:SmE) (ok:TqOK T0 T1 E) (r:Nat) (s:St) (h:TqI E r s) :
  Stp (TqI E) (fun o=>∃ s, o=.exit 0 s∧TqI E 0 s) r (execA (KC T0 T1) (callN (KC T0 T1) 49) c29_l0 s):=by
 obtain ⟨fr, m, t, k, rfl, hk, hm, g1, g11, g12, g13, ad⟩:=h
 have hlt:=ok.lT
 cases r with
 | zero =>
  have hkn:(k<E.Ts.l.length)=False:=eq_false (by omega)
  simp +decide only [c29_l0,SF,g12,g13,ltI_dec,hkn,stp_e]
  refine ⟨_, rfl, _, m, t, k, rfl, hk, hm, ?_, ?_, ?_, ?_, ad⟩
  all_goals simp +decide only [gp,g1,g11,g12,g13,if_false]
 | succ r =>
  have hkn:(k<E.Ts.l.length)=True:=eq_true (by omega)
  obtain ⟨T, hka⟩:∃ T, E.Ts.l[k]?=some T:=⟨_, List.getElem?_eq_getElem (by omega)⟩
  have hTm:=List.mem_of_getElem? hka
  have ia:=at_slV (f:=tyC) (sz:=3) (fun _=>rfl) (by decide) hka
  have hw:=wr_add k 1 (by omega)
  have hfl:∀ (e:Nat) h, callN (KC T0 T1) 49 (.fn t27 [] []) [.bool false, .int .i64 (.ofNat e)] h=.ret (.tup []) h:=fun e h=>failC (f:=48) e h
  have hck:∀ h, callN (KC T0 T1) 49 (.fn t65 [] []) [.agg (tyC T)] h=.ret i0 h:=fun h=>chkC (f:=48) (ok.mem T hTm) h
  have hsl:=slice_slV (f:=tyC) (sz:=3) (fun _=>rfl) (kd:=E.Ts.kind) (l:=E.Ts.l) (k:=k) (fun e=>by rw [e] at hka; exact absurd hka (by simp)) (by omega)
  have hfn:(E.Ts.l.take k).find? (fun a=>eqS a.nm T.nm)=none:=List.find?_eq_none.2 fun a ha hq=>by
   rw [eqS_dec, decide_eq_true_eq] at hq
   have htk1:E.Ts.l.take (k+1)=E.Ts.l.take k++[T]:=by rw [List.take_add_one, hka]; rfl
   have h1:((E.Ts.l.take (k+1)).map (·.nm)).Nodup:=ok.nd.sublist ((List.take_sublist _ _).map _)
   rw [htk1, List.map_append] at h1
   exact (List.nodup_append.1 h1).2.2 _ (List.mem_map.2 ⟨a, ha, rfl⟩) _ (by simp) hq
  have hge:∀ h, callN (KC T0 T1) 49 (.fn t66 [] []) [slV tyC ⟨1, E.Ts.l.take k⟩, .str T.nm] h=.ret (.tup [.agg (tyC zeroT), .bool false]) h:=fun h =>
   sC (f:=48) rfl rfl rfl (get_none (Ts:=⟨1, E.Ts.l.take k⟩) (by simp only [List.length_take]; omega) (fun a ha=>ok.nice a (List.mem_of_mem_take ha)) hfn h)
  have hz:eqI (.ofNat 0) (.ofNat 0)=true:=rfl
  have n0:(0=m)=False:=eq_false (by omega)
  have n0':∀ c, (0=m+c)=False:=fun c=>eq_false (by omega)
  have n1:(m=m+1)=False:=eq_false (by omega)
  have ad':=ad
  simp only [dC] at ad'
  simp only [tyC] at hck hge ia
  have htk:takeD [AV.str T.nm, slV padC T.pads, slV gateC T.gates] 0 3=some [AV.str T.nm, slV padC T.pads, slV gateC T.gates]:=takeD_all rfl
  simp +decide only [c29_l0,SF,Nat.reduceAdd,g1,g11,g12,g13,ad',hz,n0,htk,hck,hge,hsl,ltI_dec,hkn,ia,hfl,hw,stp_n,List.getElem?_cons_zero,List.getElem?_cons_succ,tkP_c,lvP_c,withP_c,cont_c,cont_n,dopsA]
  refine ⟨r, by omega, _, _, _, k+1, rfl, by omega, ?_, ?_, ?_, ?_, ?_, ?_⟩
  ·omega
  any_goals simp +decide only [gp,up_inj,n0,n0',g1,g11,g12,ad,if_true,if_false]
def VqI (E:SmE) (r:Nat) (s:St):Prop:=∃ fr m t k, s=⟨fr, [], ⟨up .e m, t, .lf⟩, .no, none, t29⟩∧k+r=(vaL E.va).l.length∧1≤m ∧
 fr.get t1=some (.ptr (up .e 0) 0)∧fr.get t40=some (slV bsC (vaL E.va))∧fr.get t41=some (.int .i64 (.ofNat (vaL E.va).l.length))∧fr.get t42=some (.int .i64 (.ofNat k))∧t.get (up .e 0)=some (.cells (dC E) false)
theorem vq_round {T0 T1:TypD} (E:SmE) (r:Nat) (s:St) (h:VqI E r s) :
  Stp (VqI E) (fun o=>∃ s, o=.exit 2 s∧VqI E 0 s) r (execA (KC T0 T1) (callN (KC T0 T1) 49) c29_l1 s):=by
 obtain ⟨fr, m, t, k, rfl, hk, hm, g1, g40, g41, g42, ad⟩:=h
 cases r with
 | zero =>
  have hkn:(k<(vaL E.va).l.length)=False:=eq_false (by omega)
  simp +decide only [c29_l1,SF,g41,g42,ltI_dec,hkn,stp_e]
  refine ⟨_, rfl, _, m, t, k, rfl, hk, hm, ?_, ?_, ?_, ?_, ad⟩
  all_goals simp +decide only [gp,g1,g40,g41,g42,if_false]
 | succ r =>
  have hva:E.va=true∧k=0∧r=0:=by
   cases hv:E.va with
   | false=>rw [hv] at hk; simp [vaL] at hk
   | true=>rw [hv] at hk; simp [vaL] at hk; exact ⟨rfl, by omega, by omega⟩
  obtain ⟨hv, rfl, rfl⟩:=hva
  have ev:vaL E.va=⟨0, [liteB]⟩:=by rw [hv]; rfl
  have ad':=ad
  simp only [dC, ev] at ad'
  rw [ev] at g40 g41
  have hfl:∀ (e:Nat) h, callN (KC T0 T1) 49 (.fn t27 [] []) [.bool false, .int .i64 (.ofNat e)] h=.ret (.tup []) h:=fun e h=>failC (f:=48) e h
  have hri:∀ h, callN (KC T0 T1) 49 (.fn t30 [] []) [.str liteB] h=.ret (.bool true) h:=fun h=>rightC (f:=48) (by simp [rightNs, liteB]) h
  have hc2:∀ h, callN (KC T0 T1) 49 (.fn t67 [] []) [.rslc 0 [], .str liteB] h=.ret (.bool false) h:=fun h=>sC1 (f:=48) rfl rfl rfl rfl rfl (not_lite h)
  have ia:=at_slV (f:=bsC) (sz:=1) (s:=⟨0, [liteB]⟩) (k:=0) len_bs (by decide) rfl
  have hsl:sliceA (.slc 1) false true false [slV bsC ⟨0, [liteB]⟩, .int .i64 (.ofNat 0)]=some (.rslc 0 []):=rfl
  have hw:wrapA .i64 (.ofNat 0 + .ofNat 1)=.ofNat 1:=rfl
  have hlt:ltI (.ofNat 0) (.ofNat 1)=true:=rfl
  simp only [bsC] at ia
  simp +decide only [c29_l1,SF,g1,g40,g41,g42,ad',ia,hri,hc2,hsl,hfl,hw,hlt,stp_n]
  refine ⟨0, by omega, _, m, t, 1, rfl, by rw [ev]; rfl, hm, ?_, ?_, ?_, ?_, ad⟩
  all_goals simp +decide only [gp,ev,g1,g40,g41,if_true,if_false]
theorem types_sum {T0 T1:TypD} (E:SmE) (ok:TqOK T0 T1 E) (hf:frzs (dC E)=true) (h:H):(over (KC T0 T1) [t29] []).sums t29 [.agg (dC E)] h=some (.tup []):=by
 have hs:∀ xs, (KC T0 T1).sums t29 xs h0=none:=fun _=>rfl
 have hF:(KC T0 T1).funcs.get t29=some c29:=rfl
 have hfu:(KC T0 T1).fuel=100000:=rfl
 have hr:Ret (callN (KC T0 T1) 50 (.fn t29 [] []) [.agg (dC E)] h0) (fun v h=>v=.tup []):=by
  refine begin1 (hs _) hF fun fr t ga => ?_
  rw [c29]
  have ga':=ga
  simp only [dC] at ga'
  simp +decide only [SK,ga',len_slV,hfu]
  generalize hit:iterA (execA (KC T0 T1) (callN (KC T0 T1) 49) c29_l0) _ _=o
  have ho:∃ s, o=.exit 0 s∧TqI E 0 s:=by
   rw [← hit]
   refine iter_rule (TqI E) (fun o=>∃ s, o=.exit 0 s∧TqI E 0 s) (fun r s h=>tq_round E ok r s h) 100000 E.Ts.l.length _ ⟨_, 1, _, 0, rfl, Nat.zero_add _, by omega, ?_, ?_, ?_, ?_, ?_⟩ (by have:=ok.lT; omega)
   all_goals simp +decide only [gp,if_true,if_false]
   rfl
  clear hit
  obtain ⟨s, rfl, fr', m', t', k, rfl, hk, hm, k1, _, _, _, ad⟩:=ho
  have ad':=ad
  simp only [dC] at ad'
  simp +decide only [SK,k1,ad',len_slV]
  generalize hit:iterA (execA (KC T0 T1) (callN (KC T0 T1) 49) c29_l1) _ _=o
  have ho:∃ s, o=.exit 2 s∧VqI E 0 s:=by
   rw [← hit]
   refine iter_rule (VqI E) (fun o=>∃ s, o=.exit 2 s∧VqI E 0 s) (fun r s h=>vq_round E r s h) 100000 (vaL E.va).l.length _ ⟨_, m', t', 0, rfl, Nat.zero_add _, hm, ?_, ?_, ?_, ?_, ad⟩ (by cases E.va<;>decide)
   all_goals simp +decide only [gp,k1,if_true,if_false]
  obtain ⟨s, rfl, fr2, m2, t2', k2, rfl, _⟩:=ho
  simp +decide only [SM]
 obtain ⟨v, h1, hc, rfl⟩:=hr
 exact over_fz' (X:=KC T0 T1) rfl hc (by simp only [frzs, frz, hf, Bool.and_self]) rfl h
end Go.Abs.Sym
end
section
namespace Go.Abs.Sym
open Go.Abs.T
open Go.Proofs
structure OfE where
 top:Bs
 Ss:Sl SheetD
 Ts:AV
 V:AV
def intoL (top:Bs) (l:List SheetD):Bool:=l.any fun s=>s.subs.l.any fun u=>eqS u.sh top
structure OfOK (E:OfE):Prop where
 lt:E.Ss.l.length<1000
 nd:(E.Ss.l.map (·.nm)).Nodup
 ls:∀ s∈E.Ss.l, s.subs.l.length<1000
 on:AV.one E.Ts=true∧AV.one E.V=true
def OfI (E:OfE) (r:Nat) (s:St):Prop:=∃ fr m t k ob mb, s=⟨fr, [], ⟨up .e m, t, .lf⟩, .no, none, t28⟩∧k+r=E.Ss.l.length∧0<ob∧ob<m∧0<mb∧mb<m∧ob≠mb ∧
 fr.get t1=some (.ptr (up .e 0) 0)∧fr.get t2=some (.ptr (up .e 1) 0)∧fr.get t3=some (.ptr (up .e ob) 0)∧fr.get t4=some (.bool (intoL E.top (E.Ss.l.take k)))∧fr.get t13=some (slV sheetC E.Ss)∧fr.get t14=some (.int .i64 (.ofNat E.Ss.l.length))∧fr.get t15=some (.int .i64 (.ofNat k)) ∧
 t.get (up .e 0)=some (.cells [.str E.top, slV sheetC E.Ss, E.Ts, E.V] false)∧t.get (up .e 1)=some (.cells [e0, .nils, .nils, .nils, .nilm, .bool false] false)∧1<ob∧1<mb ∧
 t.get (up .e ob)=some (.cells [.str E.top, slV sheetC E.Ss, E.Ts, E.V, .mapv (up .e mb), .bool false] false)∧t.get (up .e mb)=some (.amap (mpS (·.nm) (fun a:SheetD=>.agg (sheetC a)) (E.Ss.l.take k)))
theorem intoL_snoc (top:Bs) (l:List SheetD) (s:SheetD):intoL top (l++[s])=(intoL top l||s.subs.l.any fun u=>eqS u.sh top):=by
 simp only [intoL, List.any_append, List.any_cons, List.any_nil, Bool.or_false]
theorem of_round (E:OfE) (ok:OfOK E) (r:Nat) (s:St) (h:OfI E r s) :
  Stp (OfI E) (fun o=>∃ s, o=.exit 0 s∧OfI E 0 s) r (execA K3 (callN K3 49) c28_l0 s):=by
 obtain ⟨fr, m, t, k, ob, mb, rfl, hk, ho0, hob, hm0, hmb, hom, g1, g2, g3, g4, g13, g14, g15, a0, a1, ho1, hm1, ao, am⟩:=h
 have hlt:=ok.lt
 cases r with
 | zero =>
  have hkn:(k<E.Ss.l.length)=False:=eq_false (by omega)
  simp +decide only [c28_l0,SF,g14,g15,ltI_dec,hkn,stp_e]
  refine ⟨_, rfl, _, m, t, k, ob, mb, rfl, hk, ho0, hob, hm0, hmb, hom, ?_, ?_, ?_, ?_, ?_, ?_, ?_, a0, a1, ho1, hm1, ao, am⟩
  all_goals simp +decide only [gp,g1,g2,g3,g4,g13,g14,g15,if_false]
 | succ r =>
  have hkn:(k<E.Ss.l.length)=True:=eq_true (by omega)
  obtain ⟨x, hka⟩:∃ x, E.Ss.l[k]?=some x:=⟨_, List.getElem?_eq_getElem (by omega)⟩
  have ia:=at_slV (f:=sheetC) (sz:=6) len_sheet (by decide) hka
  have hw:=wr_add k 1 (by omega)
  have htk1:E.Ss.l.take (k+1)=E.Ss.l.take k++[x]:=by rw [List.take_add_one, hka]; rfl
  have hno:∀ a∈E.Ss.l.take k, a.nm≠x.nm:=by
   have h1:((E.Ss.l.take (k+1)).map (·.nm)).Nodup:=ok.nd.sublist ((List.take_sublist _ _).map _)
   rw [htk1, List.map_append] at h1
   have h2:=(List.nodup_append.1 h1).2.2
   intro a ha e
   exact h2 _ (List.mem_map.2 ⟨a, ha, rfl⟩) _ (by simp) e
  have hnf:(E.Ss.l.take k).find? (fun a=>decide (x.nm=a.nm))=none:=List.find?_eq_none.2 fun a ha=>by
   simp only [decide_eq_true_eq]
   exact fun e=>hno a ha e.symm
  have n0:(0=m)=False:=eq_false (by omega)
  have n0':∀ c, (0=m+c)=False:=fun c=>eq_false (by omega)
  have nm1:(m=m+1)=False:=eq_false (by omega)
  have no:=nz0 hob
  have no':=nz hob
  have nb:=nz0 hmb
  have nb':=nz hmb
  have lk:∀ (nx:Pth) (t':Tr AB) (z:AV), t'.get (up .e mb)=some (.amap (mpS (·.nm) (fun a:SheetD=>.agg (sheetC a)) (E.Ss.l.take k)))→lookupA ⟨nx, t', .lf⟩ ⟨[.s], false⟩ z true (.mapv (up .e mb)) (.str x.nm)=some (.tup [z, .bool false]):=fun nx t' z hg=>by
   have:=look_S (h:=⟨nx, t', .lf⟩) hg z true x.nm
   rw [hnf] at this
   exact this
  have lk1:∀ (nx:Pth) (z:AV) (a b:AB), lookupA ⟨nx, (t.put (up .e m) a).put (up .e m) b, .lf⟩ ⟨[.s], false⟩ z true (.mapv (up .e mb)) (.str x.nm)=some (.tup [z, .bool false]):=fun nx z a b=>lk _ _ z (by simp only [gp, up_inj, nb, if_false]; exact am)
  have mu:∀ (nx:Pth) (a b c d:AB), mapUpdA ⟨nx, (((t.put (up .e m) a).put (up .e m) b).put (up .e (m+1)) c).put (up .e (m+1)) d, .lf⟩ ⟨[.s], false⟩ (.mapv (up .e mb)) (.str x.nm) (.agg [.str x.nm, slV bsC x.ports, slV bsC x.power, slV symC x.syms, slV joinC x.joins, slV subC x.subs])=some ⟨nx, ((((t.put (up .e m) a).put (up .e m) b).put (up .e (m+1)) c).put (up .e (m+1)) d).put (up .e mb) (.amap (mpS (·.nm) (fun a:SheetD=>.agg (sheetC a)) (E.Ss.l.take (k+1)))), .lf⟩:=fun nx a b c d=>by
   have:=mapUpd_S (h:=⟨nx, (((t.put (up .e m) a).put (up .e m) b).put (up .e (m+1)) c).put (up .e (m+1)) d, .lf⟩) (id:=up .e mb) (key:=fun a:SheetD=>a.nm) (f:=fun a:SheetD=>.agg (sheetC a)) (l:=E.Ss.l.take k) (by simp only [gp, up_inj, nb, nb', if_false]; exact am) hno (.agg (sheetC x))
   rw [mpS_snoc (fun a:SheetD=>a.nm) (fun a:SheetD=>.agg (sheetC a)) (E.Ss.l.take k) x, ← htk1] at this
   exact this
  simp only [sheetC] at ia
  have hs:intoL E.top (E.Ss.l.take (k+1))=(intoL E.top (E.Ss.l.take k)||x.subs.l.any fun u=>eqS u.sh E.top):=by rw [htk1, intoL_snoc]
  have nb0:(0=mb)=False:=eq_false (by omega)
  have n1b:(1=mb)=False:=eq_false (by omega)
  have n1:(1=m)=False:=eq_false (by omega)
  have n1':∀ c, (1=m+c)=False:=fun c=>eq_false (by omega)
  have nob:(ob=mb)=False:=eq_false hom
  have nmb:(m=mb)=False:=eq_false (by omega)
  cases hi:intoL E.top (E.Ss.l.take k) with
  | true =>
   rw [hi] at g4 hs
   rw [Bool.true_or] at hs
   simp +decide only [c28_l0,SF,Nat.reduceAdd,g3,g4,g13,g14,g15,ao,st_look',st_upd,no,no',nm1,lk1,mu,ltI_dec,hkn,ia,hw,stp_n,List.getElem?_cons_zero,List.getElem?_cons_succ]
   refine ⟨r, by omega, _, _, _, k+1, ob, mb, rfl, by omega, ho0, ?_, hm0, ?_, hom, ?_, ?_, ?_, ?_, ?_, ?_, ?_, ?_, ?_, ho1, hm1, ?_, ?_⟩
   ·omega
   ·omega
   any_goals simp +decide only [gp,up_inj,n0,n0',n1,n1',nb0,n1b,no,no',nob,hs,g1,g2,g3,g13,g14,a0,a1,ao,if_true,if_false]
  | false =>
   rw [hi] at g4 hs
   rw [Bool.false_or] at hs
   simp +decide only [c28_l0,SF,Nat.reduceAdd,g1,g3,g4,g13,g14,g15,ao,st_look',st_upd,no,no',nm1,nmb,lk1,mu,ltI_dec,hkn,ia,List.getElem?_cons_zero,List.getElem?_cons_succ]
   generalize hR:callN K3 49 (g t63) _ _=R
   have hl0:x.subs.l.length<90000:=by have:=ok.ls x (List.mem_of_getElem? hka); omega
   have hF63:K3.funcs.get t63=some (cfF t105):=rfl
   have hF105:K3.funcs.get t105=some (idxF 3):=rfl
   have hF64:K3.funcs.get t64=some c64:=rfl
   have hQ:=cf_sd (X:=K3) (n:=46) (i:=t63) (c:=t64) (i2:=t105) (nm:=E.top) (r':=[slV sheetC E.Ss, E.Ts, E.V]) (f:=subC) (q:=fun c=>eqS c.sh E.top) (l:=x.subs.l) (fun _ _=>rfl) hF63 (fun _ _=>rfl) hF105 (fun _ _=>rfl) hF64 rfl (View_slV len_sub (by decide) _ x.subs) hl0 (fun _=>⟨_, _, _, rfl⟩) (fun _=>rfl) rfl (by omega) (by simp only [gp, up_inj, n0, n0', nb0, if_false]; exact a0) hR
   clear hR
   obtain ⟨j1, t', hRe, hold, hj1⟩:=hQ
   subst hRe
   simp +decide only [SF,g15,hw,stp_n]
   refine ⟨r, by omega, _, j1, t', k+1, ob, mb, rfl, by omega, ho0, by omega, hm0, by omega, hom, ?_, ?_, ?_, ?_, ?_, ?_, ?_, (hold 0 (by omega)).trans ?_, (hold 1 (by omega)).trans ?_, ho1, hm1, (hold ob (by omega)).trans ?_, (hold mb (by omega)).trans ?_⟩
   any_goals simp +decide only [gp,up_inj,n0,n0',n1,n1',nb0,n1b,no,no',nob,hs,g1,g2,g3,g13,g14,a0,a1,ao,if_true,if_false]
structure OfD (E:OfE):Prop extends OfOK E where
 fr:frz E.Ts=true∧frz E.V=true
theorem of_sum (E:OfE) (ok:OfD E) {B:SheetD} (hB:E.Ss.l.find? (fun a=>decide (E.top=a.nm))=some B) (h:H) :
  K4.sums t28 [.agg [.str E.top, slV sheetC E.Ss, E.Ts, E.V]] h=some (.agg [.str E.top, slV sheetC E.Ss, E.Ts, E.V, shV E.Ss.l, .bool (!intoL E.top E.Ss.l&&decide (B.subs.l.length=0))]):=by
 have hs:∀ xs, K3.sums t28 xs h0=none:=fun _=>rfl
 have hF:K3.funcs.get t28=some c28:=rfl
 have on1:=ok.on.1
 have on2:=ok.on.2
 have hr:Ret (callN K3 50 (.fn t28 [] []) [.agg [.str E.top, slV sheetC E.Ss, E.Ts, E.V]] h0) (fun v h=>deep 8 h v=.agg [.str E.top, slV sheetC E.Ss, E.Ts, E.V, shV E.Ss.l, .bool (!intoL E.top E.Ss.l&&decide (B.subs.l.length=0))]):=by
  refine begin1 (hs _) hF fun fr t ga => ?_
  rw [c28]
  simp +decide only [SK,Nat.reduceAdd,ga,len_slV,kf3,st_mkMap,on1,on2]
  generalize hit:iterA (execA K3 (callN K3 49) c28_l0) _ _=o
  have ho:∃ s, o=.exit 0 s∧OfI E 0 s:=by
   rw [← hit]
   refine iter_rule (OfI E) (fun o=>∃ s, o=.exit 0 s∧OfI E 0 s) (fun r s h=>of_round E ok.toOfOK r s h) 100000 E.Ss.l.length _ ⟨_, 4, _, 0, 3, 2, rfl, Nat.zero_add _, by omega, by omega, by omega, by omega, by omega, ?_, ?_, ?_, ?_, ?_, ?_, ?_, ?_, ?_, by omega, by omega, ?_, ?_⟩ (by have:=ok.lt; omega)
   all_goals simp +decide only [gp,if_true,if_false]
   ·rfl
   ·rfl
  clear hit
  obtain ⟨s, rfl, fr', m', t', k, ob, mb, rfl, hk, ho0, hob, hm0, hmb, hom, k1, k2, k3, k4, _, _, _, a0, a1, ho1, hm1, ao, am⟩:=ho
  rw [List.take_of_length_le (by omega)] at am k4
  have n1o:(1=ob)=False:=eq_false (by omega)
  have n1o':(ob=1)=False:=eq_false (by omega)
  have n0o:(0=ob)=False:=eq_false (by omega)
  have nmo:(mb=ob)=False:=eq_false (by omega)
  have n1m:(mb=1)=False:=eq_false (by omega)
  have lk:∀ (nx:Pth) (z:AV), lookupA ⟨nx, t', .lf⟩ ⟨[.s], false⟩ z false (.mapv (up .e mb)) (.str E.top)=some (.agg (sheetC B)):=fun nx z=>by
   have:=look_S (h:=⟨nx, t', .lf⟩) am z false E.top
   rw [hB] at this
   exact this
  simp only [sheetC] at lk
  have he:∀ b:SheetD, eqI (.ofNat b.subs.l.length) (.ofNat 0)=decide (b.subs.l.length=0):=fun b=>by
   rw [eqI_dec]
   exact decide_eq_decide.2 ⟨fun e=>Int.ofNat.inj e, fun e=>by rw [e]⟩
  have hd:∀ (nx:Pth) (t2:Tr AB) (b:Bool), t2.get (up .e mb)=some (.amap (mpS (·.nm) (fun a:SheetD=>.agg (sheetC a)) E.Ss.l))→deep 8 ⟨nx, t2, .lf⟩ (.agg [.str E.top, slV sheetC E.Ss, E.Ts, E.V, .mapv (up .e mb), .bool b])=.agg [.str E.top, slV sheetC E.Ss, E.Ts, E.V, shV E.Ss.l, .bool b]:=fun nx t2 b hg=>by
   rw [deep_agg]
   simp only [List.map_cons, List.map_nil]
   rw [deep_frz _ _ _ (rfl:frz (.str E.top)=true), deep_frz _ _ _ (frz_slV frz_sheet E.Ss), deep_frz _ _ _ ok.fr.1, deep_frz _ _ _ ok.fr.2, deep_frz _ _ _ (rfl:frz (.bool b)=true), deep_mp (h:=⟨nx, t2, .lf⟩) (key:=fun a:SheetD=>a.nm) (f:=fun a:SheetD=>.agg (sheetC a)) (fun a=>by simp only [frz, frz_sheet]) hg]
   rfl
  cases hi:intoL E.top E.Ss.l with
  | true =>
   rw [hi] at k4
   simp +decide only [SM,Nat.reduceAdd,k2,k3,k4,ao,a1,on1,on2,n1o]
   exact hd _ _ _ (by simp only [gp, up_inj, nmo, n1m, if_false]; exact am)
  | false =>
   rw [hi] at k4
   simp +decide only [SM,Nat.reduceAdd,k1,k2,k3,k4,ao,a0,a1,on1,on2,n1o,st_look',lk,len_slV,he]
   exact hd _ _ _ (by simp only [gp, up_inj, nmo, n1m, if_false]; exact am)
 obtain ⟨v, h1, hc, hd⟩:=hr
 rw [← hd]
 have hfs:frz (shV E.Ss.l)=true:=by
  simp only [shV, frz, Bool.and_eq_true]
  exact ⟨frzs_map (fun _=>rfl) _, frzs_map (f:=fun a:SheetD=>.agg (sheetC a)) (fun a=>by simp only [frz, frz_sheet]) _⟩
 exact over_fz (X:=K3) rfl hc (by simp only [frzs, frz, frz_slV frz_sheet, ok.fr.1, ok.fr.2, Bool.and_self]) (by rw [hd]; simp only [frzs, frz, frz_slV frz_sheet, ok.fr.1, ok.fr.2, hfs, Bool.and_self]) h
end Go.Abs.Sym
end
end
