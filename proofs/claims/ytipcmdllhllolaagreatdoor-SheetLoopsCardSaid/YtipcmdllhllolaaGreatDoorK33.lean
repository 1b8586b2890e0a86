/- The check of a design: its sheets. -/
import Derived.Test.YtipcmdllhllolaaGreatDoorK32
noncomputable section
section
namespace Go.Abs.Sym
open Go.Abs.T
open Go.Proofs
def dpS (dA:AV) (more:Pth→List AV→H→Option AV) (i:Pth) (args:List AV) (h:H):Option AV :=
 bif Pth.beq i t37 then (match args with
  | [a]=>bif AV.beq a dA then some i6 else none
  | _=>none) else more i args h
def KD (T0 T1:TypD) (dA:AV):Ctx:={ over (KC T0 T1) [t29] [] with sums:=dpS dA (over (KC T0 T1) [t29] []).sums }
section
variable {T0 T1:TypD} {dA:AV}
theorem kd_4 (i:Pth) (h1:Pth.beq i t65=false) (h2:Pth.beq i t29=false) (h3:memP i [t29]=false) (xs:List AV) (h:H) (h37:Pth.beq i t37=false:=by rfl):(KD T0 T1 dA).sums i xs h=K4.sums i xs h :=
 (show dpS dA (over (KC T0 T1) [t29] []).sums i xs h=(over (KC T0 T1) [t29] []).sums i xs h by simp only [dpS, h37, cond_false]).trans <| (over_rest (X:=KC T0 T1) h3 rfl xs h).trans (kc_4 i h1 h2 xs h)
theorem sD {f:Nat} {i:Pth} {xs:List AV} {v:AV} {h:H} (h1:Pth.beq i t65=false) (h2:Pth.beq i t29=false) (h3:memP i [t29]=false) (h4:K4.sums i xs h=some v) (h37:Pth.beq i t37=false:=by rfl):callN (KD T0 T1 dA) (f+1) (g i) xs h=.ret v h :=
 call_sum (by rw [List.nil_append, List.append_nil, kd_4 i h1 h2 h3 xs h h37]; exact h4)
theorem k4_1 (i:Pth) (h3:memP i [t7,t28,t29,t35,t34,t36,t37]=false) (h5:memP i [t20, t66]=false) (h6:Pth.beq i t75=false) (xs:List AV) (h:H):K4.sums i xs h=K1.sums i xs h :=
 (over_rest (X:=K3) h3 rfl xs h).trans ((sums3_2 _ _ _ h5).trans (sums2_1 _ _ _ h6))
theorem failD {f:Nat} (e:Nat) (h:H):callN (KD T0 T1 dA) (f+1) (g t27) [.bool false, .int .i64 (.ofNat e)] h=.ret (.tup []) h:=sD rfl rfl rfl ((k4_1 t27 rfl rfl rfl _ _).trans (fail_sum _ h))
theorem rightD {f:Nat} {s:Bs} (hs:s∈rightNs) (h:H):callN (KD T0 T1 dA) (f+1) (g t30) [.str s] h=.ret (.bool true) h:=sD rfl rfl rfl ((k4_1 t30 rfl rfl rfl _ _).trans (right_sum hs h))
end
structure CkE where
 top:Bs
 Ss:Sl SheetD
 Ts:Sl TypD
 va:Bool
 fl:Bool
def CkE.d (E:CkE):List AV:=[.str E.top, slV sheetC E.Ss, slV tyC E.Ts, slV bsC (vaL E.va), shV E.Ss.l, .bool E.fl]
def CkE.d4 (E:CkE):List AV:=[.str E.top, slV sheetC E.Ss, slV tyC E.Ts, slV bsC (vaL E.va)]
structure ShFacts (E:CkE) (s:SheetD):Prop where
 right:s.nm∈rightNs
 n1:s.syms.l.length≤40
 n2:s.joins.l.length≤80
 n3:s.subs.l.length≤10
 n4:s.ports.l.length≤16
 n5:s.power.l.length≤16
 prt:∀ h, K1.sums t33 [.agg (sheetC s)] h=some (.tup [])
 sym:∃ tm, (∀ pm h, K4.sums t35 [.agg E.d, .agg (sheetC s), .bool pm] h=some (tmV tm))∧∀ pm h, K4.sums t34 [.agg (sheetC s), tmV tm, .bool pm] h=some (.tup [])
 sub:∀ h, K4.sums t36 [.agg E.d, .agg (sheetC s)] h=some (.tup [])
structure CkOK (E:CkE):Prop where
 lt:E.Ss.l.length<1000
 ok:∀ (k:Nat) s, E.Ss.l[k]?=some s→ShFacts E s∧(E.Ss.l.take k).any (fun c=>eqS c.nm s.nm)=false
def CkI (E:CkE) (db ob m0:Nat) (u0:Tr AB) (r:Nat) (s:St):Prop:=∃ fr m t k, s=⟨fr, [], ⟨up .e m, t, .lf⟩, .no, none, t26⟩∧k+r=E.Ss.l.length∧m0≤m ∧
 fr.get t0=some (.ptr (up .e db) 0)∧fr.get t1=some (.ptr (up .e ob) 0)∧fr.get t29=some (slV sheetC E.Ss)∧fr.get t30=some (.int .i64 (.ofNat E.Ss.l.length))∧fr.get t31=some (.int .i64 (.ofNat k))∧∀ i, i<m0→t.get (up .e i)=u0.get (up .e i)
theorem st_max' (h:H) (k k':IntKind) (x y:Int):stepA h .max [.int k x, .int k' y]=.val (.int k (bif ltI x y then y else x)) h:=rfl
set_option maxHeartbeats 1000000 in
theorem ck_round {T0 T1:TypD} {dA:AV} (E:CkE) (ok:CkOK E) {db ob m0:Nat} {u0:Tr AB} (ad:u0.get (up .e db)=some (.cells E.d4 false)) (ao:u0.get (up .e ob)=some (.cells E.d false)) (hdb:db<m0) (hob:ob<m0) (r:Nat) (s:St) (h:CkI E db ob m0 u0 r s) :
  Stp (CkI E db ob m0 u0) (fun o=>∃ s, o=.exit 0 s∧CkI E db ob m0 u0 0 s) r (execA (KD T0 T1 dA) (callN (KD T0 T1 dA) 47) c26_l0 s):=by
 obtain ⟨fr, m, t, k, rfl, hk, hm, g0, g1, g29, g30, g31, hfr⟩:=h
 have hlt:=ok.lt
 have bd:=(hfr db hdb).trans ad
 have bo:=(hfr ob hob).trans ao
 cases r with
 | zero =>
  have hkn:(k<E.Ss.l.length)=False:=eq_false (by omega)
  simp +decide only [c26_l0,SF,g30,g31,ltI_dec,hkn,stp_e]
  refine ⟨_, rfl, _, m, t, k, rfl, hk, hm, ?_, ?_, ?_, ?_, ?_, hfr⟩
  all_goals simp +decide only [gp,g0,g1,g29,g30,g31,if_false]
 | succ r =>
  have hkn:(k<E.Ss.l.length)=True:=eq_true (by omega)
  obtain ⟨x, hka⟩:∃ x, E.Ss.l[k]?=some x:=⟨_, List.getElem?_eq_getElem (by omega)⟩
  have ia:=at_slV (f:=sheetC) (sz:=6) len_sheet (by decide) hka
  have hw:=wr_add k 1 (by omega)
  obtain ⟨fx, hany⟩:=ok.ok k x hka
  obtain ⟨tm, hsy, hjn⟩:=fx.sym
  have hfl:∀ (e:Nat) h, callN (KD T0 T1 dA) 47 (.fn t27 [] []) [.bool false, .int .i64 (.ofNat e)] h=.ret (.tup []) h:=fun e h=>failD (f:=46) e h
  have hri:∀ h, callN (KD T0 T1 dA) 47 (.fn t30 [] []) [.str x.nm] h=.ret (.bool true) h:=fun h=>rightD (f:=46) fx.right h
  have hpo:∀ h, callN (KD T0 T1 dA) 47 (.fn t33 [] []) [.agg (sheetC x)] h=.ret (.tup []) h:=fun h=>sD (f:=46) rfl rfl rfl ((k4_1 t33 rfl rfl rfl _ _).trans (fx.prt h))
  have hsy':∀ pm h, callN (KD T0 T1 dA) 47 (.fn t35 [] []) [.agg E.d, .agg (sheetC x), .bool pm] h=.ret (tmV tm) h:=fun pm h=>sD (f:=46) rfl rfl rfl (hsy pm h)
  have hjn':∀ pm h, callN (KD T0 T1 dA) 47 (.fn t34 [] []) [.agg (sheetC x), tmV tm, .bool pm] h=.ret (.tup []) h:=fun pm h=>sD (f:=46) rfl rfl rfl (hjn pm h)
  have hsb:∀ h, callN (KD T0 T1 dA) 47 (.fn t36 [] []) [.agg E.d, .agg (sheetC x)] h=.ret (.tup []) h:=fun h=>sD (f:=46) rfl rfl rfl (fx.sub h)
  have hsl:=slice_slV len_sheet (kd:=E.Ss.kind) (l:=E.Ss.l) (k:=k) (fun e=>by rw [e] at hka; exact absurd hka (by simp)) (by omega)
  have hle:∀ {a b:Nat}, a≤b→ltI (.ofNat b) (.ofNat a)=false:=fun {a b} h=>by
   rw [ltI_dec]; exact decide_eq_false (by omega)
  have e1:=hle fx.n1
  have e2:=hle fx.n2
  have e3:=hle fx.n3
  have e4:ltI (.ofNat 16) (bif ltI (.ofNat x.ports.l.length) (.ofNat x.power.l.length) then .ofNat x.power.l.length else .ofNat x.ports.l.length)=false:=by
   cases ltI (.ofNat x.ports.l.length) (.ofNat x.power.l.length)
   ·exact hle fx.n4
   ·exact hle fx.n5
  have nd:=nz0 (show db<m by omega)
  have no:=nz0 (show ob<m by omega)
  simp only [CkE.d4] at bd
  simp only [CkE.d] at bo hsy' hsb
  simp only [sheetC] at ia hpo hsy' hjn' hsb
  simp +decide only [c26_l0,SF,Nat.reduceAdd,g0,g29,g30,g31,bd,nd,hri,hsl,ltI_dec,hkn,ia,hfl]
  generalize hR:callN (KD T0 T1 dA) 47 (g t31) _ _=R
  have hl0:(E.Ss.l.take k).length<90000:=by rw [List.length_take]; omega
  have hF31:(KD T0 T1 dA).funcs.get t31=some (cfF t72):=rfl
  have hF72:(KD T0 T1 dA).funcs.get t72=some (idxF 6):=rfl
  have hF32:(KD T0 T1 dA).funcs.get t32=some c77:=rfl
  have hQ:=cf_nm (X:=KD T0 T1 dA) (n:=44) (i:=t31) (c:=t32) (i2:=t72) (nm:=x.nm) (r':=[slV bsC x.ports, slV bsC x.power, slV symC x.syms, slV joinC x.joins, slV subC x.subs]) (f:=sheetC) (q:=fun c=>eqS c.nm x.nm) (l:=E.Ss.l.take k) (fun _ _=>rfl) hF31 (fun _ _=>rfl) hF72 (fun _ _=>rfl) hF32 rfl (View_slV len_sheet (by decide) _ ⟨1, E.Ss.l.take k⟩) hl0 (fun _=>⟨_, _, rfl⟩) (fun _=>rfl) rfl (by omega) (by rw [gp, if_pos rfl]) hR
  clear hR
  obtain ⟨j1, t', hRe, hold, hj1⟩:=hQ
  subst hRe
  have b3:t'.get (up .e m)=some (.cells [.str x.nm, slV bsC x.ports, slV bsC x.power, slV symC x.syms, slV joinC x.joins, slV subC x.subs] false):=(hold m (by omega)).trans (by rw [gp, if_pos rfl])
  have old:∀ i, i<m0→t'.get (up .e i)=u0.get (up .e i):=fun i hi=>by
   have n0:=nz0 (show i<m by omega)
   rw [hold i (by omega)]
   simp only [gp, up_inj, n0, if_false]
   exact hfr i hi
  have bd':=(old db hdb).trans ad
  have bo':=(old ob hob).trans ao
  simp only [CkE.d4] at bd'
  simp only [CkE.d] at bo'
  clear hold
  cases hE:E.fl with
  | false =>
   rw [hE] at hsy' hsb bo'
   simp +decide only [SF,Nat.reduceLeDiff,hany,g1,g31,b3,bo',st_max',e1,e2,e3,e4,hpo,hsy',hjn',hsb,hfl,hw,len_slV,stp_n]
   refine ⟨r, by omega, _, _, t', k+1, rfl, by omega, ?_, ?_, ?_, ?_, ?_, ?_, old⟩
   ·omega
   all_goals simp +decide only [gp,g0,g1,g29,g30,if_true,if_false]
  | true =>
   rw [hE] at hsy' hsb bo'
   simp +decide only [SF,Nat.reduceLeDiff,hany,g0,g1,g31,b3,bd',bo',st_max',e1,e2,e3,e4,hpo,hsy',hjn',hsb,hfl,hw,len_slV,stp_n]
   refine ⟨r, by omega, _, _, t', k+1, rfl, by omega, ?_, ?_, ?_, ?_, ?_, ?_, old⟩
   ·omega
   all_goals simp +decide only [gp,g0,g1,g29,g30,if_true,if_false]
end Go.Abs.Sym
end
section
namespace Go.Abs.Sym
open Go.Abs.T
open Go.Proofs
theorem on_shV (l:List SheetD):(shV l).one=true:=rfl
theorem cl_shV (l:List SheetD):(shV l).cells=[shV l]:=rfl
structure CkL (T0 T1:TypD) (E:CkE):Prop extends CkOK E where
 s10:E.Ss.l.length≤10
 t20:E.Ts.l.length≤20
 hof:∀ h, K4.sums t28 [.agg E.d4] h=some (.agg E.d)
 hty:∀ h, (KD T0 T1 (.agg E.d)).sums t29 [.agg E.d] h=some (.tup [])
 hB:∃ B, E.Ss.l.find? (fun a=>decide (E.top=a.nm))=some B
theorem ck_loop {T0 T1:TypD} {dA:AV} (E:CkE) (ok:CkOK E) {fr:Tr AV} {m db ob:Nat} {t:Tr AB} {o:Out}
  (hit:iterA (execA (KD T0 T1 dA) (callN (KD T0 T1 dA) 47) c26_l0) 100000 ⟨fr, [], ⟨up .e m, t, .lf⟩, .no, none, t26⟩=o) (ad:t.get (up .e db)=some (.cells E.d4 false)) (ao:t.get (up .e ob)=some (.cells E.d false)) (hdb:db<m) (hob:ob<m)
  (g0:fr.get t0=some (.ptr (up .e db) 0)) (g1:fr.get t1=some (.ptr (up .e ob) 0)) (g29:fr.get t29=some (slV sheetC E.Ss)) (g30:fr.get t30=some (.int .i64 (.ofNat E.Ss.l.length))) (g31:fr.get t31=some i0) :
  ∃ fr' m' t', o=.exit 0 ⟨fr', [], ⟨up .e m', t', .lf⟩, .no, none, t26⟩∧m≤m'∧fr'.get t0=some (.ptr (up .e db) 0)∧fr'.get t1=some (.ptr (up .e ob) 0)∧∀ i, i<m→t'.get (up .e i)=t.get (up .e i):=by
 have ho:∃ s, o=.exit 0 s∧CkI E db ob m t 0 s:=by
  rw [← hit]
  exact iter_rule (CkI E db ob m t) (fun o=>∃ s, o=.exit 0 s∧CkI E db ob m t 0 s) (fun r s h=>ck_round E ok ad ao hdb hob r s h) 100000 E.Ss.l.length _ ⟨fr, m, t, 0, rfl, Nat.zero_add _, Nat.le_refl _, g0, g1, g29, g30, g31, fun _ _=>rfl⟩ (by have:=ok.lt; omega)
 obtain ⟨s, rfl, fr', m', t', k, rfl, _, h1, h2, h3, _, _, _, h4⟩:=ho
 exact ⟨fr', m', t', rfl, h1, h2, h3, h4⟩
theorem rt_pan {X:Ctx} {n:Nat} {v:AV} {fr:Tr AV} {h:H} {rc:Rc} {rd:Option Pth} {i:Pth} (F:AFunc):leaveA (dcallN X n) F (.panic v ⟨fr, [], h, rc, rd, i⟩)=.panic v h:=by
 simp only [leaveA, dfrsA]
theorem failN (e:Nat) (h:H):K1.sums t27 [.bool true, .int .i64 (.ofNat e)] h=none:=by kernel_rfl
theorem st_panic (h:H) (t:Nat) (v:AV):stepA h .panic [.iface t v]=.panic (.iface t v) h:=rfl
theorem st_mkI (h:H) (t:Nat) (v:AV):stepA h (.mkIface t) [v]=.val (.iface t v) h:=rfl
theorem failP {T0 T1:TypD} {dA:AV} {f:Nat} (e:Nat) (h:H):callN (KD T0 T1 dA) (f+1) (g t27) [.bool true, .int .i64 (.ofNat e)] h=.panic (.iface 30 (.int .i64 (.ofNat e))) h:=by
 have hs0:(KD T0 T1 dA).sums t27 [.bool true, .int .i64 (.ofNat e)] h=none:=(kd_4 t27 rfl rfl rfl _ h).trans ((k4_1 t27 rfl rfl rfl _ _).trans (failN e h))
 have hF:(KD T0 T1 dA).funcs.get t27=some c27:=rfl
 rw [call_fn (F:=c27) hs0 hF]
 have ga:(frameOf .e ([]++[.bool true, .int .i64 (.ofNat e)]++[]) .lf).get t0=some (.bool true):=rfl
 have gb:(frameOf .e ([]++[.bool true, .int .i64 (.ofNat e)]++[]) .lf).get t1=some (.int .i64 (.ofNat e)):=rfl
 generalize frameOf .e ([]++[.bool true, .int .i64 (.ofNat e)]++[]) .lf=fr at ga gb
 simp +decide only [c27,SK,ga,gb,st_panic,st_mkI,rt_pan]
set_option maxHeartbeats 1000000 in
theorem check1 {T0 T1:TypD} {dA:AV} (E:CkE) (ok:CkL T0 T1 E) (hA:dA=.agg E.d) {db m:Nat} {t:Tr AB} (ad:t.get (up .e db)=some (.cells E.d4 false)) (hdb:db<m) :
  ∃ m' t', callN (KD T0 T1 dA) 48 (.fn t26 [] [.ptr (up .e db) 0]) [] ⟨up .e m, t, .lf⟩=.panic (.iface 30 (.int .i64 (.ofNat 25))) ⟨up .e m', t', .lf⟩∧m≤m'∧∀ i, i<m→t'.get (up .e i)=t.get (up .e i):=by
 have hs:∀ xs h, (KD T0 T1 dA).sums t26 xs h=none:=fun _ _=>rfl
 have hF:(KD T0 T1 dA).funcs.get t26=some c26:=rfl
 have hfu:(KD T0 T1 dA).fuel=100000:=rfl
 obtain ⟨B, hB⟩:=ok.hB
 have hfl:∀ (e:Nat) h, callN (KD T0 T1 dA) 47 (.fn t27 [] []) [.bool false, .int .i64 (.ofNat e)] h=.ret (.tup []) h:=fun e h=>failD (f:=46) e h
 have hof:∀ h, callN (KD T0 T1 dA) 47 (.fn t28 [] []) [.agg E.d4] h=.ret (.agg E.d) h:=fun h=>sD (f:=46) rfl rfl rfl (ok.hof h)
 have hty:∀ h, callN (KD T0 T1 dA) 47 (.fn t29 [] []) [.agg E.d] h=.ret (.tup []) h:=fun h=>call_sum (n:=46) (by rw [List.nil_append, List.append_nil, hA]; exact ok.hty h)
 have hdp':∀ h, callN (KD T0 T1 dA) 47 (.fn t37 [] []) [.agg E.d] h=.ret i6 h:=fun h=>call_sum (n:=46) (by
  rw [List.nil_append, List.append_nil, hA]
  show dpS (.agg E.d) (over (KC T0 T1) [t29] []).sums t37 [.agg E.d] h=some i6
  have hb:AV.beq (.agg E.d) (.agg E.d)=true:=beq_rfl _
  have hi:Pth.beq t37 t37=true:=rfl
  simp only [dpS, hb, hi, cond_true])
 have hfp:∀ h, callN (KD T0 T1 dA) 47 (.fn t27 [] []) [.bool true, .int .i64 (.ofNat 25)] h=.panic (.iface 30 (.int .i64 (.ofNat 25))) h:=fun h=>failP (f:=46) 25 h
 have hk:eqI (.ofNat 6) (.ofNat 6)=true:=rfl
 have hle:∀ {a b:Nat}, a≤b→ltI (.ofNat b) (.ofNat a)=false:=fun {a b} h=>by
  rw [ltI_dec]; exact decide_eq_false (by omega)
 have e1:=hle ok.t20
 have e2:ltI (.ofNat 4) (.ofNat (vaL E.va).l.length)=false:=by cases E.va<;>rfl
 have e3:=hle ok.s10
 have hlk:∀ (h:H) (z:AV), lookupA h ⟨[.s], false⟩ z true (shV E.Ss.l) (.str E.top)=some (.tup [.agg (sheetC B), .bool true]):=fun h z=>by
  have:=look_R (fun a:SheetD=>a.nm) (fun a=>.agg (sheetC a)) E.Ss.l h z true E.top
  rw [hB] at this
  exact this
 have nd:=nz0 hdb
 have ad':=ad
 rw [call_fn (F:=c26) (hs _ _) hF, c26]
 have gfr:(frameOf .e ([]++[]++[.ptr (up .e db) 0]) .lf).get t0=some (.ptr (up .e db) 0):=rfl
 generalize frameOf .e ([]++[]++[.ptr (up .e db) 0]) .lf=fr at gfr
 simp only [CkE.d4] at ad' hof
 have hof0:=hof
 simp only [CkE.d] at hof hty hdp'
 simp +decide only [SK,Nat.reduceAdd,gfr,ad',nd,e1,e2,e3,hfl,hof,hty,len_slV,hfu,on_shV]
 generalize hit:iterA (execA (KD T0 T1 dA) (callN (KD T0 T1 dA) 47) c26_l0) _ _=o
 obtain ⟨fr', m', t', rfl, hm', g0, g1, hfr⟩:=ck_loop (db:=db) (ob:=m) E ok.toCkOK hit (by simp only [gp, up_inj, nd, if_false]; exact ad) (by rw [gp, if_pos rfl]; rfl) (by omega) (by omega) (by simp +decide only [gp,gfr,if_false]) (by simp +decide only [gp,if_true,if_false]) (by simp +decide only [gp,if_true,if_false]) (by simp +decide only [gp,if_true,if_false]) (by simp +decide only [gp,if_true,if_false])
 clear hit
 have bo:t'.get (up .e m)=some (.cells E.d false):=(hfr m (by omega)).trans (by rw [gp, if_pos rfl]; rfl)
 have bd:t'.get (up .e db)=some (.cells E.d4 false):=(hfr db (by omega)).trans (by simp only [gp, up_inj, nd, if_false]; exact ad)
 have bo':=bo
 have bd':=bd
 simp only [CkE.d] at bo'
 simp only [CkE.d4] at bd'
 have nm:=nz0 (show m<m' by omega)
 simp only [sheetC] at hlk
 simp +decide only [SM,Nat.reduceAdd,g0,g1,bo',bd',nm,hlk,st_look',hdp',hk,hfp,List.getElem?_cons_zero,List.getElem?_cons_succ]
 refine ⟨_, _, rfl, by omega, fun i hi => ?_⟩
 have ni:=nz0 (show i<m' by omega)
 simp only [gp, up_inj, ni, if_false]
 have ni2:=nz0 hi
 rw [hfr i (by omega)]
 simp only [gp, up_inj, ni2, if_false]
theorem st_assert (h:H) (t u:Nat) (z v:AV):stepA h (.assertTo t z true) [.iface u v]=.val (bif Nat.beq u t then .tup [v, .bool true] else .tup [z, .bool false]) h:=by
 simp only [stepA, isMaker, cond_false, readA, cond_true]
 cases Nat.beq u t<;>rfl
theorem eq_ifc (u:Nat) (v:AV):eqAV .ifc (.iface u v) .nili=some false:=rfl
theorem st_defer (h:H) (i:Pth) (a b vs:List AV):stepA h .defer (.fn i a b::vs)=.defer (.fn i a b) vs:=rfl
theorem st_recover (h:H):stepA h .recover []=.recover:=rfl
theorem guard25 {T0 T1:TypD} (E:CkE) (ok:CkL T0 T1 E) {t:Tr AB} (ad:t.get (up .e 0)=some (.cells E.d4 false)) :
  Ret (callN (KD T0 T1 (.agg E.d)) 49 (.fn t25 [] []) [.fn t26 [] [.ptr (up .e 0) 0]] ⟨up .e 1, t, .lf⟩) (fun v _=>v=.int .i64 (.ofNat 25)):=by
 have hs:∀ xs h, (KD T0 T1 (.agg E.d)).sums t25 xs h=none:=fun _ _=>rfl
 have hF:(KD T0 T1 (.agg E.d)).funcs.get t25=some c25:=rfl
 have hF62:(KD T0 T1 (.agg E.d)).funcs.get t62=some c62:=rfl
 rw [call_fn (F:=c25) (hs _ _) hF]
 have gfr:(frameOf .e ([]++[.fn t26 [] [.ptr (up .e 0) 0]]++[]) .lf).get t0=some (.fn t26 [] [.ptr (up .e 0) 0]):=rfl
 generalize frameOf .e ([]++[.fn t26 [] [.ptr (up .e 0) 0]]++[]) .lf=fr at gfr
 simp +decide only [c25,SK,Nat.reduceAdd,gfr,st_defer]
 have n1:(0=1)=False:=eq_false (by decide)
 obtain ⟨m', t', hc, hm, hfr⟩:=check1 E ok rfl (db:=0) (m:=2) (t:=t.put (up .e 1) (.cells [i0] false)) (by simp only [gp, up_inj, n1, if_false]; exact ad) (by decide)
 have a1:t'.get (up .e 1)=some (.cells [i0] false):=(hfr 1 (by decide)).trans (by rw [gp, if_pos rfl])
 have h30:Nat.beq 30 30=true:=rfl
 have nm:=nz0 (show 1<m' by omega)
 simp +decide only [SM,hc,a1,dcallN,hF62,c62,st_recover,st_assert,List.getElem?_cons_zero,List.getElem?_cons_succ]
theorem frz_d4 (E:CkE):frzs E.d4=true:=by
 simp only [CkE.d4, frzs, frz, frz_slV frz_sheet, frz_slV frz_ty, frz_slV frz_bs, Bool.and_self]
theorem check_sum {T0 T1:TypD} (E:CkE) (ok:CkL T0 T1 E) (h:H):(over (KD T0 T1 (.agg E.d)) [t8] []).sums t8 [.agg E.d4] h=some (.int .i64 (.ofNat 25)):=by
 have hs:∀ xs, (KD T0 T1 (.agg E.d)).sums t8 xs h0=none:=fun _=>rfl
 have hF:(KD T0 T1 (.agg E.d)).funcs.get t8=some c8:=rfl
 have hr:Ret (callN (KD T0 T1 (.agg E.d)) 50 (.fn t8 [] []) [.agg E.d4] h0) (fun v _=>v=.int .i64 (.ofNat 25)):=by
  refine begin1 (hs _) hF fun fr t ga => ?_
  simp +decide only [c8,SK,ga]
  obtain ⟨v, h', hc, rfl⟩:=guard25 (T0:=T0) (T1:=T1) E ok (t:=t.put (up .e 0) (.cells E.d4 false)) (by rw [gp, if_pos rfl])
  simp +decide only [SM,hc]
 obtain ⟨v, h1, hc, rfl⟩:=hr
 exact over_fz' (X:=KD T0 T1 (.agg E.d)) rfl hc (by simp only [frzs, frz, frz_d4, Bool.and_self]) rfl h
end Go.Abs.Sym
end
end
