/- The reference's check of a sheet. -/
import Derived.Test.YtipcmdllhllolaaGreatDoorM43
import Derived.Test.YtipcmdllhllolaaGreatDoorM31
import Derived.Test.YtipcmdllhllolaaGreatDoorM39
import Derived.KernelRfl
import Derived.Test.YtipcmdllhllolaaGreatDoorM41
import Derived.Test.YtipcmdllhllolaaGreatDoorM19
noncomputable section
section
namespace Go.Abs.Sym
open Go.Abs.T
open Go.Proofs
theorem kfC:RC.fuel=100000:=rfl
theorem sC1' {f:Nat} {i:Pth} {xs:List AV} {v:AV} {h:H} (h4:RC.sums i xs h=some v):callN RC (f+1) (g i) xs h=.ret v h :=
 call_sum (by rw [List.nil_append, List.append_nil]; exact h4)
theorem sCA {f:Nat} {i:Pth} {xs:List AV} {v:AV} {h:H} (h0:memP i [t84,t85,t86]=false) (h1:memP i [t128,t127,t41]=false) (h4:RA.sums i xs h=some v):callN RC (f+1) (g i) xs h=.ret v h :=
 sC1' ((over_rest (X:=RB) h0 rfl xs h).trans ((over_rest (X:=RA) h1 rfl xs h).trans h4))
structure ShR (d:List AV) (s:SheetD):Prop where
 right:s.nm∈rightNs
 n1:s.syms.l.length≤40
 n2:s.joins.l.length≤80
 n3:s.subs.l.length≤10
 n4:s.ports.l.length≤16
 n5:s.power.l.length≤16
 prt:∀ h, RA.sums t83 [.agg (sheetC s)] h=some i0
 sym:∀ pm h, RC.sums t84 [.agg d, .agg (sheetC s), .bool pm] h=some i0
 jn:∀ pm h, RC.sums t85 [.agg d, .agg (sheetC s), .bool pm] h=some i0
 sub:∀ h, RC.sums t86 [.agg d, .agg (sheetC s)] h=some i0
def SnI (n m0:Nat) (t:Tr AB) (fr0:Tr AV) (r:Nat) (st:St):Prop:=∃ fr k m, st=⟨fr, [], ⟨up .e m, t, .lf⟩, .no, none, t40⟩∧k+r=n∧m0≤m∧KeepF [t1, t2, t3, t7] fr0 fr∧fr.get t9=some (.int .i64 (.ofNat k))
theorem sn_round {top V:AV} {Ss:Sl SheetD} {Ts:Sl TypD} {x:SheetD} {n m0:Nat} {t:Tr AB} {fr0:Tr AV} (hn:n<Ss.l.length) (hl:Ss.l.length<90000) (hd:∀ j<n, ∀ y, Ss.l[j]?=some y→eqS y.nm x.nm=false)
  (g1:fr0.get t1=some (.int .i64 (.ofNat n))) (g3:fr0.get t3=some (.ptr (up .e 0) 0)) (g7:fr0.get t7=some (.ptr (up .e 1) 0)) (a0:t.get (up .e 0)=some (.cells (dR top (slV sheetC Ss) Ts V) false)) (a1:t.get (up .e 1)=some (.cells (sheetC x) false)) (r:Nat) (st:St) (h:SnI n m0 t fr0 r st) :
  Stp (SnI n m0 t fr0) (fun o=>∃ st, o=.exit 0 st∧SnI n m0 t fr0 0 st) r (execA RC (callN RC 49) c40_l0 st):=by
 obtain ⟨fr, k, m, rfl, hk, hm, kf, g9⟩:=h
 have h1:=(kf t1 (by simp)).trans g1
 have h3:=(kf t3 (by simp)).trans g3
 have h7:=(kf t7 (by simp)).trans g7
 simp only [dR] at a0
 simp only [sheetC] at a1
 cases r with
 | zero =>
  have hkn:(k<n)=False:=eq_false (by omega)
  simp +decide only [c40_l0,SF,h1,g9,ltI_dec,hkn,stp_e]
  refine ⟨_, rfl, _, k, m, rfl, hk, hm, ?_, ?_⟩
  ·simp +decide only [KeepF_put]
   exact kf
  all_goals simp +decide only [gp,g9,if_false]
 | succ r =>
  have hkn:(k<n)=True:=eq_true (by omega)
  obtain ⟨a, hka⟩:∃ a, Ss.l[k]?=some a:=⟨_, List.getElem?_eq_getElem (by omega)⟩
  have ia:=at_slV (f:=sheetC) (sz:=6) len_sheet (by decide) hka
  have hqa:=hd k (by omega) a hka
  have hw:=wr_add k 1 (by omega)
  simp only [sheetC] at ia
  simp +decide only [c40_l0,SF,Nat.reduceAdd,Nat.reduceLeDiff,h1,h3,h7,g9,a0,a1,ltI_dec,hkn,ia,hqa,hw,stp_n]
  refine ⟨r, by omega, _, k+1, _, rfl, by omega, by omega, ?_, ?_⟩
  ·simp +decide only [KeepF_put]
   exact kf
  all_goals simp +decide only [gp,if_true,if_false]
theorem sn_loop {top V:AV} {Ss:Sl SheetD} {Ts:Sl TypD} {x:SheetD} {n m:Nat} {t:Tr AB} {fr0:Tr AV} {o:Out} (hit:iterA (execA RC (callN RC 49) c40_l0) 100000 ⟨fr0, [], ⟨up .e m, t, .lf⟩, .no, none, t40⟩=o) (hn:n<Ss.l.length) (hl:Ss.l.length<90000) (hd:∀ j<n, ∀ y, Ss.l[j]?=some y→eqS y.nm x.nm=false)
  (g1:fr0.get t1=some (.int .i64 (.ofNat n))) (g3:fr0.get t3=some (.ptr (up .e 0) 0)) (g7:fr0.get t7=some (.ptr (up .e 1) 0)) (g9:fr0.get t9=some (.int .i64 (.ofNat 0))) (a0:t.get (up .e 0)=some (.cells (dR top (slV sheetC Ss) Ts V) false)) (a1:t.get (up .e 1)=some (.cells (sheetC x) false)) :
  ∃ fr m', o=.exit 0 ⟨fr, [], ⟨up .e m', t, .lf⟩, .no, none, t40⟩∧m≤m'∧KeepF [t1, t2, t3, t7] fr0 fr:=by
 have:=iter_rule (SnI n m t fr0) (fun o=>∃ st, o=.exit 0 st∧SnI n m t fr0 0 st) (fun r st h=>sn_round hn hl hd g1 g3 g7 a0 a1 r st h) 100000 n _ ⟨_, 0, m, rfl, Nat.zero_add _, Nat.le_refl _, fun _ _=>rfl, g9⟩ (by omega)
 rw [hit] at this
 obtain ⟨st, e, fr, k, m1, rfl, _, hm, kf, _⟩:=this
 exact ⟨fr, m1, e, hm, kf⟩
def RD:Ctx:=over RC [t40] []
theorem sheetA_sum {top V:AV} {Ss:Sl SheetD} {Ts:Sl TypD} {s:SheetD} {n:Nat} (hl:Ss.l.length<90000) (hn:Ss.l[n]?=some s) (hd:∀ j<n, ∀ y, Ss.l[j]?=some y→eqS y.nm s.nm=false) (fx:ShR (dR top (slV sheetC Ss) Ts V) s) (hf:frzs (dR top (slV sheetC Ss) Ts V)=true) (pm:Bool) (h:H) :
  RD.sums t40 [.agg (dR top (slV sheetC Ss) Ts V), .int .i64 (.ofNat n), .bool pm] h=some i0:=by
 have hs:∀ xs, RC.sums t40 xs h0=none:=fun _=>rfl
 have hF:RC.funcs.get t40=some c40:=rfl
 have hnl:n<Ss.l.length:=(List.getElem?_eq_some_iff.1 hn).1
 have hr:Ret (callN RC 50 (.fn t40 [] []) [.agg (dR top (slV sheetC Ss) Ts V), .int .i64 (.ofNat n), .bool pm] h0) (fun v h=>v=i0):=by
  refine begin3 (hs _) hF fun fr t ga gb gc => ?_
  rw [c40]
  have ga':=ga
  simp only [dR] at ga'
  have ia:=at_slV (f:=sheetC) (sz:=6) len_sheet (by decide) hn
  have htk:takeD (sheetC s++(Ss.l.drop (n+1)).flatMap sheetC) 0 6=some (sheetC s):=tk_sheet s _
  have htd:takeD (dR top (slV sheetC Ss) Ts V) 0 4=some (dR top (slV sheetC Ss) Ts V):=takeD_all rfl
  have hts:takeD (sheetC s) 0 6=some (sheetC s):=takeD_all rfl
  have hri:∀ h, callN RC 49 (.fn t81 [] []) [.str s.nm] h=.ret (.bool true) h:=fun h=>sCA (f:=48) rfl rfl (rightA_sum fx.right h)
  have hpo:∀ h, callN RC 49 (.fn t83 [] []) [.agg (sheetC s)] h=.ret i0 h:=fun h=>sCA (f:=48) rfl rfl (fx.prt h)
  have hsy:∀ h, callN RC 49 (.fn t84 [] []) [.agg (dR top (slV sheetC Ss) Ts V), .agg (sheetC s), .bool pm] h=.ret i0 h:=fun h=>sC1' (f:=48) (fx.sym pm h)
  have hjn:∀ h, callN RC 49 (.fn t85 [] []) [.agg (dR top (slV sheetC Ss) Ts V), .agg (sheetC s), .bool pm] h=.ret i0 h:=fun h=>sC1' (f:=48) (fx.jn pm h)
  have hsu:∀ h, callN RC 49 (.fn t86 [] []) [.agg (dR top (slV sheetC Ss) Ts V), .agg (sheetC s)] h=.ret i0 h:=fun h=>sC1' (f:=48) (fx.sub h)
  have hle:∀ {a b:Nat}, a≤b→ltI (.ofNat b) (.ofNat a)=false:=fun {a b} h=>by
   rw [ltI_dec]; exact decide_eq_false (by omega)
  have e1:=hle fx.n1
  have e2:=hle fx.n2
  have e3:=hle fx.n3
  have e4:=hle fx.n4
  have e5:=hle fx.n5
  have e0:eqI (.ofNat 0) (.ofNat 0)=true:=rfl
  simp only [sheetC] at ia htk hts hpo hsy hjn hsu
  simp only [dR] at htd hsy hjn hsu
  simp +decide only [SK,Nat.reduceAdd,ga',gb,hri,ia,kfC]
  generalize hit:iterA (execA RC (callN RC 49) c40_l0) _ _=o
  obtain ⟨fr', m', rfl, hm', kf⟩:=sn_loop (top:=top) (V:=V) (Ss:=Ss) (Ts:=Ts) (x:=s) (n:=n) hit hnl hl hd (by simp +decide only [gp,gb,if_false]) (by simp +decide only [gp,if_true,if_false]) (by simp +decide only [gp,if_true,if_false]) (by simp +decide only [gp,if_true,if_false])
   (by simp +decide only [gp,dR,if_true,if_false]) (by simp +decide only [gp,sheetC,if_true,if_false])
  clear hit
  have k2:fr'.get t2=some (.bool pm):=(kf t2 (by simp)).trans (by simp +decide only [gp,gc,if_false])
  have k3:fr'.get t3=some (.ptr (up .e 0) 0):=(kf t3 (by simp)).trans (by simp +decide only [gp,if_true,if_false])
  have k7:fr'.get t7=some (.ptr (up .e 1) 0):=(kf t7 (by simp)).trans (by simp +decide only [gp,if_true,if_false])
  simp +decide only [SF,k2,k3,k7,htd,hts,e0,e1,e2,e3,e4,e5,hpo,hsy,hjn,hsu,len_slV]
 obtain ⟨v, h1, hc, rfl⟩:=hr
 exact over_fz' (X:=RC) rfl hc (by simp only [frzs, frz, hf, Bool.and_self]) rfl h
end Go.Abs.Sym
end
section
namespace Go.Abs.Sym
open Go.Abs.T
open Go.Proofs
def chkR (T0 T1:TypD) (more:Pth→List AV→H→Option AV) (i:Pth) (args:List AV) (h:H):Option AV :=
 bif Pth.beq i t80 then (match args with
  | [a]=>bif AV.beq a (.agg (tyC T0))||AV.beq a (.agg (tyC T1))||AV.beq a (.agg (tyC busT)) then some i0 else none
  | _=>none) else bif Pth.beq i t38 then none else more i args h
def RE (T0 T1:TypD):Ctx:={ RD with sums:=chkR T0 T1 RD.sums }
section
variable {T0 T1:TypD}
theorem kfE:(RE T0 T1).fuel=100000:=rfl
theorem re_d (i:Pth) (h1:Pth.beq i t80=false) (h2:Pth.beq i t38=false) (xs:List AV) (h:H):(RE T0 T1).sums i xs h=RD.sums i xs h:=by
 simp only [RE, chkR, h1, h2, cond_false]
theorem sEA {f:Nat} {i:Pth} {xs:List AV} {v:AV} {h:H} (h1:Pth.beq i t80=false) (h2:Pth.beq i t38=false) (h3:memP i [t40]=false) (h5:memP i [t84,t85,t86]=false) (h6:memP i [t128,t127,t41]=false) (h4:RA.sums i xs h=some v):callN (RE T0 T1) (f+1) (g i) xs h=.ret v h :=
 call_sum (by rw [List.nil_append, List.append_nil]; exact (re_d i h1 h2 xs h).trans ((over_rest (X:=RC) h3 rfl xs h).trans ((over_rest (X:=RB) h5 rfl xs h).trans ((over_rest (X:=RA) h6 rfl xs h).trans h4))))
theorem chkE {f:Nat} {T:TypD} (hT:T∈[T0, T1, busT]) (h:H):callN (RE T0 T1) (f+1) (g t80) [.agg (tyC T)] h=.ret i0 h:=by
 refine call_sum ?_
 rw [List.nil_append, List.append_nil]
 simp only [List.mem_cons, List.not_mem_nil, or_false] at hT
 have hb:AV.beq (.agg (tyC T)) (.agg (tyC T))=true:=beq_rfl _
 show chkR T0 T1 RD.sums t80 [.agg (tyC T)] h=some i0
 rcases hT with rfl | rfl | rfl
 ·simp only [chkR, hb, Bool.true_or, cond_true]
  rfl
 ·simp only [chkR, hb, Bool.true_or, Bool.or_true, cond_true]
  rfl
 ·simp only [chkR, hb, Bool.or_true, cond_true]
  rfl
end
structure TrOK (T0 T1:TypD) (Ts:Sl TypD) (va:Sl Bs):Prop where
 lT:Ts.l.length<90000
 mem:∀ T∈Ts.l, T∈[T0, T1, busT]
 nd:∀ (k:Nat) x, Ts.l[k]?=some x→∀ j<k, ∀ y, Ts.l[j]?=some y→eqS y.nm x.nm=false
 lv:va.l.length<90000
 vr:∀ v∈va.l, v∈rightNs
 vn:∀ (k:Nat) a, va.l[k]?=some a→cntS (va.l.take k) a=0
def TnI (n m0:Nat) (t:Tr AB) (fr0:Tr AV) (r:Nat) (st:St):Prop:=∃ fr k m, st=⟨fr, [], ⟨up .e m, t, .lf⟩, .no, none, t38⟩∧k+r=n∧m0≤m∧KeepF [t1, t3] fr0 fr∧fr.get t5=some (.int .i64 (.ofNat k))
theorem tn_round {T0 T1:TypD} {top S V:AV} {Ts:Sl TypD} {x:TypD} {n m0:Nat} {t:Tr AB} {fr0:Tr AV} (hx:Ts.l[n]?=some x) (hl:Ts.l.length<90000) (hd:∀ j<n, ∀ y, Ts.l[j]?=some y→eqS y.nm x.nm=false)
  (g1:fr0.get t1=some (.ptr (up .e 0) 0)) (g3:fr0.get t3=some (.int .i64 (.ofNat n))) (a0:t.get (up .e 0)=some (.cells (dR top S Ts V) false)) (r:Nat) (st:St) (h:TnI n m0 t fr0 r st) :
  Stp (TnI n m0 t fr0) (fun o=>∃ st, o=.exit 2 st∧TnI n m0 t fr0 0 st) r (execA (RE T0 T1) (callN (RE T0 T1) 49) c38_l0 st):=by
 obtain ⟨fr, k, m, rfl, hk, hm, kf, g5⟩:=h
 have hn:=(List.getElem?_eq_some_iff.1 hx).1
 have h1:=(kf t1 (by simp)).trans g1
 have h3:=(kf t3 (by simp)).trans g3
 simp only [dR] at a0
 cases r with
 | zero =>
  have hkn:(k<n)=False:=eq_false (by omega)
  simp +decide only [c38_l0,SF,h3,g5,ltI_dec,hkn,stp_e]
  refine ⟨_, rfl, _, k, m, rfl, hk, hm, ?_, ?_⟩
  ·simp +decide only [KeepF_put]
   exact kf
  all_goals simp +decide only [gp,g5,if_false]
 | succ r =>
  have hkn:(k<n)=True:=eq_true (by omega)
  obtain ⟨a, hka⟩:∃ a, Ts.l[k]?=some a:=⟨_, List.getElem?_eq_getElem (by omega)⟩
  have ia:=at_slV (f:=tyC) (sz:=3) (fun _=>rfl) (by decide) hka
  have ib:=at_slV (f:=tyC) (sz:=3) (fun _=>rfl) (by decide) hx
  have hqa:=hd k (by omega) a hka
  have hw:=wr_add k 1 (by omega)
  simp only [tyC] at ia ib
  simp +decide only [c38_l0,SF,Nat.reduceAdd,Nat.reduceLeDiff,h1,h3,g5,a0,ltI_dec,hkn,ia,ib,hqa,hw,stp_n]
  refine ⟨r, by omega, _, k+1, _, rfl, by omega, by omega, ?_, ?_⟩
  ·simp +decide only [KeepF_put]
   exact kf
  all_goals simp +decide only [gp,if_true,if_false]
theorem tn_loop {T0 T1:TypD} {top S V:AV} {Ts:Sl TypD} {x:TypD} {n m:Nat} {t:Tr AB} {fr0:Tr AV} {o:Out} (hit:iterA (execA (RE T0 T1) (callN (RE T0 T1) 49) c38_l0) 100000 ⟨fr0, [], ⟨up .e m, t, .lf⟩, .no, none, t38⟩=o) (hx:Ts.l[n]?=some x) (hl:Ts.l.length<90000) (hd:∀ j<n, ∀ y, Ts.l[j]?=some y→eqS y.nm x.nm=false)
  (g1:fr0.get t1=some (.ptr (up .e 0) 0)) (g3:fr0.get t3=some (.int .i64 (.ofNat n))) (g5:fr0.get t5=some (.int .i64 (.ofNat 0))) (a0:t.get (up .e 0)=some (.cells (dR top S Ts V) false)) :
  ∃ fr m', o=.exit 2 ⟨fr, [], ⟨up .e m', t, .lf⟩, .no, none, t38⟩∧m≤m'∧KeepF [t1, t3] fr0 fr:=by
 have hn:=(List.getElem?_eq_some_iff.1 hx).1
 have:=iter_rule (TnI n m t fr0) (fun o=>∃ st, o=.exit 2 st∧TnI n m t fr0 0 st) (fun r st h=>tn_round (T0:=T0) (T1:=T1) hx hl hd g1 g3 a0 r st h) 100000 n _ ⟨_, 0, m, rfl, Nat.zero_add _, Nat.le_refl _, fun _ _=>rfl, g5⟩ (by omega)
 rw [hit] at this
 obtain ⟨st, e, fr, k, m1, rfl, _, hm, kf, _⟩:=this
 exact ⟨fr, m1, e, hm, kf⟩
def TrI (t:Tr AB) (n:Nat) (r:Nat) (st:St):Prop:=∃ fr k m, st=⟨fr, [], ⟨up .e m, t, .lf⟩, .no, none, t38⟩∧k+r=n∧fr.get t1=some (.ptr (up .e 0) 0)∧fr.get t3=some (.int .i64 (.ofNat k))
theorem tr_round {T0 T1:TypD} {top S:AV} {Ts:Sl TypD} {va:Sl Bs} (ok:TrOK T0 T1 Ts va) {t:Tr AB} (a0:t.get (up .e 0)=some (.cells (dR top S Ts (slV bsC va)) false)) (r:Nat) (st:St) (h:TrI t Ts.l.length r st) :
  Stp (TrI t Ts.l.length) (fun o=>∃ st, o=.exit 0 st∧TrI t Ts.l.length 0 st) r (execA (RE T0 T1) (callN (RE T0 T1) 49) c38_l1 st):=by
 obtain ⟨fr, k, m, rfl, hk, g1, g3⟩:=h
 have hlt:=ok.lT
 have b0:=a0
 simp only [dR] at b0
 cases r with
 | zero =>
  have hkn:(k<Ts.l.length)=False:=eq_false (by omega)
  simp +decide only [c38_l1,SF,g1,g3,b0,len_slV,ltI_dec,hkn,stp_e]
  refine ⟨_, rfl, _, k, m, rfl, hk, ?_, ?_⟩
  all_goals simp +decide only [gp,g1,g3,if_false]
 | succ r =>
  have hkn:(k<Ts.l.length)=True:=eq_true (by omega)
  obtain ⟨x, hka⟩:∃ x, Ts.l[k]?=some x:=⟨_, List.getElem?_eq_getElem (by omega)⟩
  have ia:=at_slV (f:=tyC) (sz:=3) (fun _=>rfl) (by decide) hka
  have htk:takeD (tyC x++(Ts.l.drop (k+1)).flatMap tyC) 0 3=some (tyC x):=tk_app rfl
  have hck:∀ h, callN (RE T0 T1) 49 (.fn t80 [] []) [.agg (tyC x)] h=.ret i0 h:=fun h=>chkE (f:=48) (ok.mem x (List.mem_of_getElem? hka)) h
  have hw:=wr_add k 1 (by omega)
  have e0:eqI (.ofNat 0) (.ofNat 0)=true:=rfl
  simp only [tyC] at ia htk hck
  simp +decide only [c38_l1,SF,g1,g3,b0,hck,e0,len_slV,ltI_dec,hkn,ia,kfE]
  generalize hit:iterA (execA (RE T0 T1) (callN (RE T0 T1) 49) c38_l0) _ _=o
  obtain ⟨fr2, m2, rfl, hm2, kf⟩:=tn_loop (n:=k) hit hka hlt (ok.nd k x hka) (by simp +decide only [gp,g1,if_false]) (by simp +decide only [gp,g3,if_false]) (by simp +decide only [gp,if_true,if_false]) a0
  clear hit
  have k1:fr2.get t1=some (.ptr (up .e 0) 0):=(kf t1 (by simp)).trans (by simp +decide only [gp,g1,if_false])
  have k3:fr2.get t3=some (.int .i64 (.ofNat k)):=(kf t3 (by simp)).trans (by simp +decide only [gp,g3,if_false])
  simp +decide only [SF,k3,hw,stp_n]
  refine ⟨r, by omega, _, k+1, _, rfl, by omega, ?_, ?_⟩
  all_goals simp +decide only [gp,k1,if_true,if_false]
end Go.Abs.Sym
end
section
namespace Go.Abs.Sym
open Go.Abs.T
open Go.Proofs
def VrI (t:Tr AB) (n:Nat) (r:Nat) (st:St):Prop:=∃ fr k m, st=⟨fr, [], ⟨up .e m, t, .lf⟩, .no, none, t38⟩∧k+r=n∧fr.get t1=some (.ptr (up .e 0) 0)∧fr.get t6=some (.int .i64 (.ofNat k))
theorem vr_round {T0 T1:TypD} {top S:AV} {Ts:Sl TypD} {va:Sl Bs} (ok:TrOK T0 T1 Ts va) {t:Tr AB} (a0:t.get (up .e 0)=some (.cells (dR top S Ts (slV bsC va)) false)) (r:Nat) (st:St) (h:VrI t va.l.length r st) :
  Stp (VrI t va.l.length) (fun o=>∃ st, o=.exit 4 st∧VrI t va.l.length 0 st) r (execA (RE T0 T1) (callN (RE T0 T1) 49) c38_l2 st):=by
 obtain ⟨fr, k, m, rfl, hk, g1, g6⟩:=h
 have hlt:=ok.lv
 have b0:=a0
 simp only [dR] at b0
 cases r with
 | zero =>
  have hkn:(k<va.l.length)=False:=eq_false (by omega)
  simp +decide only [c38_l2,SF,g1,g6,b0,len_slV,ltI_dec,hkn,stp_e]
  refine ⟨_, rfl, _, k, m, rfl, hk, ?_, ?_⟩
  all_goals simp +decide only [gp,g1,g6,if_false]
 | succ r =>
  have hkn:(k<va.l.length)=True:=eq_true (by omega)
  obtain ⟨a, hka⟩:∃ a, va.l[k]?=some a:=⟨_, List.getElem?_eq_getElem (by omega)⟩
  have ia:=at_slV (f:=bsC) (sz:=1) len_bs (by decide) hka
  have hri:∀ h, callN (RE T0 T1) 49 (.fn t81 [] []) [.str a] h=.ret (.bool true) h:=fun h=>sEA (f:=48) rfl rfl rfl rfl rfl (rightA_sum (ok.vr a (List.mem_of_getElem? hka)) h)
  have hsl:=slice_slV (f:=bsC) (sz:=1) len_bs (kd:=va.kind) (l:=va.l) (k:=k) (fun e=>by rw [e] at hka; exact absurd hka (by simp)) (by omega)
  have hc2:∀ h, callN (RE T0 T1) 49 (.fn t82 [] []) [slV bsC ⟨1, va.l.take k⟩, .str a] h=.ret (.int .i64 (.ofNat 0)) h:=fun h=>by
   have:=cnt_sum 1 (l:=va.l.take k) (by simp only [List.length_take]; omega) a h
   rw [ok.vn k a hka] at this
   exact sEA (f:=48) rfl rfl rfl rfl rfl this
  have hw:=wr_add k 1 (by omega)
  have e2:ltI (.ofNat 0) (.ofNat 0)=false:=rfl
  simp only [bsC] at ia
  simp +decide only [c38_l2,SF,Nat.reduceAdd,g1,g6,b0,hri,hsl,hc2,e2,len_slV,ltI_dec,hkn,ia,hw,stp_n,dopsA]
  refine ⟨r, by omega, _, k+1, _, rfl, by omega, ?_, ?_⟩
  all_goals simp +decide only [gp,g1,if_true,if_false]
def RF (T0 T1:TypD):Ctx:=over (RE T0 T1) [t38] []
theorem typesA_sum {T0 T1:TypD} {top S:AV} {Ts:Sl TypD} {va:Sl Bs} (ok:TrOK T0 T1 Ts va) (hf:frzs (dR top S Ts (slV bsC va))=true) (h:H):(RF T0 T1).sums t38 [.agg (dR top S Ts (slV bsC va))] h=some i0:=by
 have hs:∀ xs, (RE T0 T1).sums t38 xs h0=none:=fun _=>rfl
 have hF:(RE T0 T1).funcs.get t38=some c38:=rfl
 have hr:Ret (callN (RE T0 T1) 50 (.fn t38 [] []) [.agg (dR top S Ts (slV bsC va))] h0) (fun v h=>v=i0):=by
  refine begin1 (hs _) hF fun fr t ga => ?_
  rw [c38]
  have ga':=ga
  simp only [dR] at ga'
  simp +decide only [SK,ga',kfE]
  generalize hit:iterA (execA (RE T0 T1) (callN (RE T0 T1) 49) c38_l1) _ _=o
  have ho:∃ st, o=.exit 0 st∧TrI (t.put (up .e 0) (.cells [top, S, slV tyC Ts, slV bsC va] false)) Ts.l.length 0 st:=by
   rw [← hit]
   refine iter_rule (TrI _ Ts.l.length) _ (fun r st h=>tr_round (top:=top) (S:=S) ok (by simp only [gp, if_true, dR]) r st h) 100000 Ts.l.length _ ⟨_, 0, 1, rfl, Nat.zero_add _, ?_, ?_⟩ (by have:=ok.lT; omega)
   all_goals simp +decide only [gp,if_true,if_false]
  clear hit
  obtain ⟨st, rfl, fr', k, m, rfl, _, k1, _⟩:=ho
  simp +decide only [SF]
  generalize hit:iterA (execA (RE T0 T1) (callN (RE T0 T1) 49) c38_l2) _ _=o
  have ho:∃ st, o=.exit 4 st∧VrI (t.put (up .e 0) (.cells [top, S, slV tyC Ts, slV bsC va] false)) va.l.length 0 st:=by
   rw [← hit]
   refine iter_rule (VrI _ va.l.length) _ (fun r st h=>vr_round (top:=top) (S:=S) (Ts:=Ts) ok (by simp only [gp, if_true, dR]) r st h) 100000 va.l.length _ ⟨_, 0, m, rfl, Nat.zero_add _, ?_, ?_⟩ (by have:=ok.lv; omega)
   all_goals simp +decide only [gp,k1,if_true,if_false]
  clear hit
  obtain ⟨st, rfl, fr2, k2, m2, rfl, _⟩:=ho
  simp +decide only [SM]
 obtain ⟨v, h1, hc, rfl⟩:=hr
 exact over_fz' (X:=RE T0 T1) rfl hc (by simp only [frzs, frz, hf, Bool.and_self]) rfl h
end Go.Abs.Sym
end
section
namespace Go.Abs.Sym
open Go.Abs.T
open Go.Proofs
def flS (d:AV) (b:Bool) (n:Nat) (more:Pth→List AV→H→Option AV) (i:Pth) (args:List AV) (h:H):Option AV :=
 bif Pth.beq i t39 then (match args with
  | [a]=>bif AV.beq a d then some (.bool b) else none
  | _=>none) else bif Pth.beq i t42 then (match args with
  | [a]=>bif AV.beq a d then some (.int .i64 (.ofNat n)) else none
  | _=>none) else bif Pth.beq i t9 then none else more i args h
def RG (T0 T1:TypD) (d:AV) (b:Bool) (n:Nat):Ctx:={ RF T0 T1 with sums:=flS d b n (RF T0 T1).sums }
section
variable {T0 T1:TypD} {d:AV} {b:Bool} {n:Nat}
theorem kfG:(RG T0 T1 d b n).fuel=100000:=rfl
theorem rg_f (i:Pth) (h1:Pth.beq i t39=false) (h2:Pth.beq i t42=false) (h3:Pth.beq i t9=false) (xs:List AV) (h:H):(RG T0 T1 d b n).sums i xs h=(RF T0 T1).sums i xs h:=by
 simp only [RG, flS, h1, h2, h3, cond_false]
theorem flG {f:Nat} (h:H):callN (RG T0 T1 d b n) (f+1) (g t39) [d] h=.ret (.bool b) h:=by
 refine call_sum ?_
 rw [List.nil_append, List.append_nil]
 have hb:AV.beq d d=true:=beq_rfl _
 show flS d b n (RF T0 T1).sums t39 [d] h=some (.bool b)
 simp only [flS, hb, cond_true]
 rfl
theorem lvG {f:Nat} (h:H):callN (RG T0 T1 d b n) (f+1) (g t42) [d] h=.ret (.int .i64 (.ofNat n)) h:=by
 refine call_sum ?_
 rw [List.nil_append, List.append_nil]
 have hb:AV.beq d d=true:=beq_rfl _
 show flS d b n (RF T0 T1).sums t42 [d] h=some (.int .i64 (.ofNat n))
 simp only [flS, hb, cond_true]
 rfl
end
structure CrOK (T0 T1:TypD) (top:Bs) (Ss:Sl SheetD) (Ts:Sl TypD) (va:Sl Bs):Prop where
 ty:TrOK T0 T1 Ts va
 nT:Ts.l.length≤20
 nV:va.l.length≤4
 nS:Ss.l.length≤10
 tp:∃ B, Ss.l.find? (fun a=>eqS a.nm top)=some B
 sh:∀ (k:Nat) s, Ss.l[k]?=some s→ShR (dR (.str top) (slV sheetC Ss) Ts (slV bsC va)) s∧∀ j<k, ∀ y, Ss.l[j]?=some y→eqS y.nm s.nm=false
def CrI (t:Tr AB) (b:Bool) (n:Nat) (r:Nat) (st:St):Prop:=∃ fr k m, st=⟨fr, [], ⟨up .e m, t, .lf⟩, .no, none, t9⟩∧k+r=n∧1≤m∧fr.get t1=some (.ptr (up .e 0) 0)∧fr.get t4=some (.bool b)∧fr.get t5=some (.int .i64 (.ofNat k))
set_option maxHeartbeats 1000000 in
theorem cr_round {T0 T1:TypD} {top:Bs} {Ss:Sl SheetD} {Ts:Sl TypD} {va:Sl Bs} (ok:CrOK T0 T1 top Ss Ts va) (hf:frzs (dR (.str top) (slV sheetC Ss) Ts (slV bsC va))=true) {b:Bool} {n:Nat} {t:Tr AB} (a0:t.get (up .e 0)=some (.cells (dR (.str top) (slV sheetC Ss) Ts (slV bsC va)) false)) (r:Nat) (st:St) (h:CrI t b Ss.l.length r st) :
  Stp (CrI t b Ss.l.length) (fun o=>∃ st, o=.exit 0 st∧CrI t b Ss.l.length 0 st) r (execA (RG T0 T1 (.agg (dR (.str top) (slV sheetC Ss) Ts (slV bsC va))) b n) (callN (RG T0 T1 (.agg (dR (.str top) (slV sheetC Ss) Ts (slV bsC va))) b n) 49) c9_l0 st):=by
 obtain ⟨fr, k, m, rfl, hk, hm, g1, g4, g5⟩:=h
 have hlt:=ok.nS
 have b0:=a0
 simp only [dR] at b0
 cases r with
 | zero =>
  have hkn:(k<Ss.l.length)=False:=eq_false (by omega)
  simp +decide only [c9_l0,SF,g1,g5,b0,len_slV,ltI_dec,hkn,stp_e]
  refine ⟨_, rfl, _, k, m, rfl, hk, hm, ?_, ?_, ?_⟩
  all_goals simp +decide only [gp,g1,g4,g5,if_false]
 | succ r =>
  have hkn:(k<Ss.l.length)=True:=eq_true (by omega)
  obtain ⟨s, hka⟩:∃ s, Ss.l[k]?=some s:=⟨_, List.getElem?_eq_getElem (by omega)⟩
  have ia:=at_slV (f:=sheetC) (sz:=6) len_sheet (by decide) hka
  have htd:takeD (dR (.str top) (slV sheetC Ss) Ts (slV bsC va)) 0 4=some (dR (.str top) (slV sheetC Ss) Ts (slV bsC va)):=takeD_all rfl
  obtain ⟨fx, hd⟩:=ok.sh k s hka
  have hsh:∀ pm h, callN (RG T0 T1 (.agg (dR (.str top) (slV sheetC Ss) Ts (slV bsC va))) b n) 49 (.fn t40 [] []) [.agg (dR (.str top) (slV sheetC Ss) Ts (slV bsC va)), .int .i64 (.ofNat k), .bool pm] h=.ret i0 h:=fun pm h =>
   call_sum (by rw [List.nil_append, List.append_nil]; exact (rg_f t40 rfl rfl rfl _ _).trans ((over_rest (X:=RE T0 T1) rfl rfl _ _).trans ((re_d t40 rfl rfl _ _).trans (sheetA_sum (by omega) hka hd fx hf pm h))))
  have hw:=wr_add k 1 (by omega)
  have e0:eqI (.ofNat 0) (.ofNat 0)=true:=rfl
  simp only [sheetC] at ia
  cases b with
  | false =>
   simp only [dR] at hsh htd ⊢
   simp +decide only [c9_l0,SF,Nat.reduceAdd,g1,g4,g5,b0,htd,hsh,e0,len_slV,ltI_dec,hkn,hw,stp_n,dopsA]
   refine ⟨r, by omega, _, k+1, _, rfl, by omega, by omega, ?_, ?_, ?_⟩
   all_goals simp +decide only [gp,g1,g4,if_true,if_false]
  | true =>
   simp only [dR] at hsh htd ⊢
   simp +decide only [c9_l0,SF,Nat.reduceAdd,Nat.reduceLeDiff,g1,g4,g5,b0,htd,hsh,e0,len_slV,ltI_dec,hkn,ia,hw,stp_n,dopsA]
   refine ⟨r, by omega, _, k+1, _, rfl, by omega, by omega, ?_, ?_, ?_⟩
   all_goals simp +decide only [gp,g1,g4,if_true,if_false]
end Go.Abs.Sym
end
section
namespace Go.Abs.Sym
open Go.Abs.T
open Go.Proofs
set_option maxHeartbeats 1000000 in
theorem checkA_sum {T0 T1:TypD} {top:Bs} {Ss:Sl SheetD} {Ts:Sl TypD} {va:Sl Bs} (ok:CrOK T0 T1 top Ss Ts va) (hf:frzs (dR (.str top) (slV sheetC Ss) Ts (slV bsC va))=true) {b:Bool} {n:Nat} (hn:n≤5) (h:H) :
  (over (RG T0 T1 (.agg (dR (.str top) (slV sheetC Ss) Ts (slV bsC va))) b n) [t9] []).sums t9 [.agg (dR (.str top) (slV sheetC Ss) Ts (slV bsC va))] h=some i0:=by
 have hs:∀ xs, (RG T0 T1 (.agg (dR (.str top) (slV sheetC Ss) Ts (slV bsC va))) b n).sums t9 xs h0=none:=fun _=>rfl
 have hF:(RG T0 T1 (.agg (dR (.str top) (slV sheetC Ss) Ts (slV bsC va))) b n).funcs.get t9=some c9:=rfl
 obtain ⟨B, hB⟩:=ok.tp
 have hr:Ret (callN (RG T0 T1 (.agg (dR (.str top) (slV sheetC Ss) Ts (slV bsC va))) b n) 50 (.fn t9 [] []) [.agg (dR (.str top) (slV sheetC Ss) Ts (slV bsC va))] h0) (fun v h=>v=i0):=by
  refine begin1 (hs _) hF fun fr t ga => ?_
  rw [c9]
  have ga':=ga
  have htd:takeD (dR (.str top) (slV sheetC Ss) Ts (slV bsC va)) 0 4=some (dR (.str top) (slV sheetC Ss) Ts (slV bsC va)):=takeD_all rfl
  have hle:∀ {a b:Nat}, a≤b→ltI (.ofNat b) (.ofNat a)=false:=fun {a b} h=>by
   rw [ltI_dec]; exact decide_eq_false (by omega)
  have e1:=hle ok.nT
  have e2:=hle ok.nV
  have e3:=hle ok.nS
  have e4:=hle hn
  have e0:eqI (.ofNat 0) (.ofNat 0)=true:=rfl
  have hty:∀ h, callN (RG T0 T1 (.agg (dR (.str top) (slV sheetC Ss) Ts (slV bsC va))) b n) 49 (.fn t38 [] []) [.agg (dR (.str top) (slV sheetC Ss) Ts (slV bsC va))] h=.ret i0 h:=fun h =>
   call_sum (by rw [List.nil_append, List.append_nil]; exact (rg_f t38 rfl rfl rfl _ _).trans (typesA_sum ok.ty hf h))
  have hfl:∀ h, callN (RG T0 T1 (.agg (dR (.str top) (slV sheetC Ss) Ts (slV bsC va))) b n) 49 (.fn t39 [] []) [.agg (dR (.str top) (slV sheetC Ss) Ts (slV bsC va))] h=.ret (.bool b) h:=fun h=>flG (f:=48) h
  have hlv:∀ h, callN (RG T0 T1 (.agg (dR (.str top) (slV sheetC Ss) Ts (slV bsC va))) b n) 49 (.fn t42 [] []) [.agg (dR (.str top) (slV sheetC Ss) Ts (slV bsC va))] h=.ret (.int .i64 (.ofNat n)) h:=fun h=>lvG (f:=48) h
  have hfi:∀ h, callN (RG T0 T1 (.agg (dR (.str top) (slV sheetC Ss) Ts (slV bsC va))) b n) 49 (.fn t41 [] []) [.agg (dR (.str top) (slV sheetC Ss) Ts (slV bsC va)), .str top] h=.ret (.tup [.agg (sheetC B), .bool true]) h:=fun h =>
   call_sum (by rw [List.nil_append, List.append_nil]; exact (rg_f t41 rfl rfl rfl _ _).trans ((over_rest (X:=RE T0 T1) rfl rfl _ _).trans ((re_d t41 rfl rfl _ _).trans ((over_rest (X:=RC) rfl rfl _ _).trans ((over_rest (X:=RB) rfl rfl _ _).trans (findS_sum (by have:=ok.nS; omega) hB hf h))))))
  simp only [sheetC] at hfi
  have hcr:=fun t a0 r st h=>cr_round ok hf (b:=b) (n:=n) (t:=t) a0 r st h
  generalize hX:RG T0 T1 (.agg (dR (.str top) (slV sheetC Ss) Ts (slV bsC va))) b n=X at hty hfl hlv hfi hcr ⊢
  have kfX:X.fuel=100000:=by rw [← hX]; rfl
  simp only [dR] at ga' htd hty hfl hlv hfi
  simp +decide only [SK,ga',htd,hty,hfl,e0,e1,e2,e3,len_slV,kfX]
  generalize hit:iterA (execA X (callN X 49) c9_l0) _ _=o
  have ho:∃ st, o=.exit 0 st∧CrI (t.put (up .e 0) (.cells [.str top, slV sheetC Ss, slV tyC Ts, slV bsC va] false)) b Ss.l.length 0 st:=by
   rw [← hit]
   refine iter_rule (CrI _ b Ss.l.length) _ (fun r st h=>hcr _ (by simp only [gp, if_true, dR]) r st h) 100000 Ss.l.length _ ⟨_, 0, 1, rfl, Nat.zero_add _, Nat.le_refl _, ?_, ?_, ?_⟩ (by have:=ok.nS; omega)
   all_goals simp +decide only [gp,if_true,if_false]
  clear hit
  obtain ⟨st, rfl, fr', k, m, rfl, _, hm, k1, _, _⟩:=ho
  have p0:(0=m)=False:=eq_false (by omega)
  have p0':∀ c, (0=m+c)=False:=fun c=>eq_false (by omega)
  simp +decide only [SF,Nat.reduceAdd,k1,p0,htd,hfi,hlv,e4,List.getElem?_cons_zero,List.getElem?_cons_succ]
 obtain ⟨v, h1, hc, rfl⟩:=hr
 exact over_fz' (X:=RG T0 T1 (.agg (dR (.str top) (slV sheetC Ss) Ts (slV bsC va))) b n) rfl hc (by simp only [frzs, frz, hf, Bool.and_self]) rfl h
end Go.Abs.Sym
end
section
namespace Go.Abs.Sym
open Go.Abs.T
open Go.Proofs
noncomputable def flB (s:Nat×Nat×Nat):Bool:=F.callC X0 50 (.fn t39 [] []) [dTok s] h0 (isV (.bool (Nat.beq s.1 1)))
theorem flAll:shapes.all flB=true:=by kernel_rfl
noncomputable def lvB (s:Nat×Nat×Nat):Bool:=F.callC X0 50 (.fn t42 [] []) [dTok s] h0 (isV (.int .i64 (.ofNat s.1)))
theorem lvAll:shapes.all lvB=true:=by kernel_rfl
end Go.Abs.Sym
end
section
namespace Go.Abs.Sym
open Go.Abs.T
open Go.Proofs
theorem busRowA:F.callC X0 100 (.fn t80 [] []) [.agg (tyC busT)] h0 (isV i0)=true:=by kernel_rfl
end Go.Abs.Sym
end
section
namespace Go.Abs.Sym
open Go.Abs.T
open Go.Proofs
theorem farA_sum {n:Int} (h1:ltI n (.negSucc 1048575)=false) (h2:ltI (.ofNat 1048576) n=false) (h:H):RA.sums t155 [.int .i64 n] h=some (.bool false):=by
 have hs:∀ xs, K0.sums t155 xs h0=none:=fun _=>rfl
 have hF:K0.funcs.get t155=some c155:=rfl
 have hr:Ret (callN K0 50 (.fn t155 [] []) [.int .i64 n] h0) (fun v h=>v=.bool false):=by
  refine begin1 (hs _) hF fun fr t ga => ?_
  simp +decide only [c155,SF,ga,h1,h2]
 obtain ⟨v, h1, hc, rfl⟩:=hr
 exact over_fz' (X:=K0) rfl hc rfl rfl h
end Go.Abs.Sym
end
section
namespace Go.Abs
def argSums (f:Pth) (al:List AV) (r:AV) (more:Pth→List AV→H→Option AV) (i:Pth) (args:List AV) (h:H):Option AV :=
 bif Pth.beq i f&&AV.beqs args al then some r else more i args h
theorem argSums_ok {P:Program} {X:Ctx} (t:Toks) {f:Pth} {al:List AV} {r:AV} {more:Pth→List AV→H→Option AV} (hz:frzs al=true) (hp:plainA r=true)
  (hc:∀ w, OpnW w→∀ (avs:Array Value), @VRs triv w (ρ0 w) (Lv (ρ0 w) h0) (substs t al) avs.toList→∃ X0 h1, @CallR triv P X0 (ρ0 w) h0 w (callFunc f.num avs) (.ret r h1))
  (hm:@SumsOK t.env P X more):@SumsOK t.env P X (argSums f al r more):=by
 intro i args h v hs ρ w avs hr hv
 unfold argSums at hs
 cases hi:(Pth.beq i f&&AV.beqs args al) with
 | false=>rw [hi] at hs; exact hm i args h v hs ρ w avs hr hv
 | true =>
  rw [hi] at hs
  simp only [cond_true, Option.some.injEq] at hs
  subst hs
  rw [Bool.and_eq_true] at hi
  obtain ⟨h1, h2⟩:=hi
  have:=AV.beqs_eq _ _ h2
  subst this
  rw [Pth.beq_iff.1 h1]
  have h1:@VRs t.env w (ρ0 w) (Lv (ρ0 w) h0) args avs.toList :=
   VRs.frzG (envI:=t.env) (ρ:=ρ) (L:=Lv ρ h) (fun b hb' hx=>⟨no_live b, hb'⟩) hv hz
  have h2:=(VRs_subst _ _).1 h1
  obtain ⟨X0, h1', hR⟩:=hc w (HR.opn (envI:=t.env) hr).1 avs h2
  exact CallR.lift (envI:=t.env) triv hr hp hR
end Go.Abs
end
end
