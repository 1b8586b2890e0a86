/- The reference's Find of sheets. -/
import Derived.Test.YtipcmdllhllolaaGreatDoorM42
noncomputable section
section
namespace Go.Abs.Sym
open Go.Abs.T
open Go.Proofs
def FsI (nm:Bs) (i:Nat) (hh:H) (r:Nat) (st:St):Prop:=∃ fr k, st=⟨fr, [], hh, .no, none, t41⟩∧k+r=i ∧
 fr.get t1=some (.str nm)∧fr.get t2=some (.ptr (up .e 0) 0)∧fr.get t4=some (.ptr (up .e 1) 0)∧fr.get t6=some (.int .i64 (.ofNat k))
theorem fs_round {top V:AV} {Ss:Sl SheetD} {Ts:Sl TypD} {nm:Bs} {i:Nat} {B:SheetD} (hl:Ss.l.length<90000) (hi:Ss.l[i]?=some B) (hq:eqS B.nm nm=true) (hn:∀ j<i, ∀ y, Ss.l[j]?=some y→eqS y.nm nm=false) {t:Tr AB} (a0:t.get (up .e 0)=some (.cells (dR top (slV sheetC Ss) Ts V) false)) (a1:t.get (up .e 1)=some (.cells [e0, .nils, .nils, .nils, .nils, .nils] false)) (r:Nat) (st:St) (h:FsI nm i ⟨up .e 2, t, .lf⟩ r st) :
  Stp (FsI nm i ⟨up .e 2, t, .lf⟩) (fun o=>∃ fr t', o=.ret ⟨fr, [], ⟨up .e 2, t', .lf⟩, .no, none, t41⟩∧fr.get t4=some (.ptr (up .e 1) 0)∧fr.get t5=some (.bool true)∧t'.get (up .e 1)=some (.cells (sheetC B) false)) r (execA RA (callN RA 49) c41_l0 st):=by
 obtain ⟨fr, k, rfl, hk, g1, g2, g4, g6⟩:=h
 have hil:i<Ss.l.length:=(List.getElem?_eq_some_iff.1 hi).1
 have hkn:(k<Ss.l.length)=True:=eq_true (by omega)
 simp only [dR] at a0
 cases r with
 | zero =>
  have:k=i:=by omega
  subst this
  have ia:=at_slV (f:=sheetC) (sz:=6) len_sheet (by decide) hi
  have htk:takeD (sheetC B++(Ss.l.drop (k+1)).flatMap sheetC) 0 6=some (sheetC B):=tk_sheet B _
  simp only [sheetC] at ia htk
  simp +decide only [c41_l0,SF,Nat.reduceAdd,Nat.reduceLeDiff,g1,g2,g4,g6,a0,a1,len_slV,ltI_dec,hkn,ia,hq,stp_r]
  refine ⟨_, _, rfl, ?_, ?_, ?_⟩
  all_goals simp +decide only [gp,g4,sheetC,if_true,if_false]
 | succ r =>
  obtain ⟨a, hka⟩:∃ a, Ss.l[k]?=some a:=⟨_, List.getElem?_eq_getElem (by omega)⟩
  have ia:=at_slV (f:=sheetC) (sz:=6) len_sheet (by decide) hka
  have hqa:=hn k (by omega) a hka
  have hw:=wr_add k 1 (by omega)
  simp only [sheetC] at ia
  simp +decide only [c41_l0,SF,Nat.reduceAdd,Nat.reduceLeDiff,g1,g2,g6,a0,len_slV,ltI_dec,hkn,ia,hqa,hw,stp_n]
  refine ⟨r, by omega, _, k+1, rfl, by omega, ?_, ?_, ?_, ?_⟩
  all_goals simp +decide only [gp,g1,g2,g4,if_true,if_false]
theorem findS_sum {top V:AV} {Ss:Sl SheetD} {Ts:Sl TypD} {nm:Bs} {B:SheetD} (hl:Ss.l.length<90000) (hB:Ss.l.find? (fun a=>eqS a.nm nm)=some B) (hf:frzs (dR top (slV sheetC Ss) Ts V)=true) (h:H):RB.sums t41 [.agg (dR top (slV sheetC Ss) Ts V), .str nm] h=some (.tup [.agg (sheetC B), .bool true]):=by
 obtain ⟨i, hil, hi, hq, hn⟩:=find_ix hB
 have hs:∀ xs, RA.sums t41 xs h0=none:=fun _=>rfl
 have hF:RA.funcs.get t41=some c41:=rfl
 have hr:Ret (callN RA 50 (.fn t41 [] []) [.agg (dR top (slV sheetC Ss) Ts V), .str nm] h0) (fun v h=>v=.tup [.agg (sheetC B), .bool true]):=by
  refine begin2 (hs _) hF fun fr t ga gb => ?_
  rw [c41]
  have ga':=ga
  simp only [dR] at ga'
  simp +decide only [SK,Nat.reduceAdd,ga',kfA]
  generalize hit:iterA (execA RA (callN RA 49) c41_l0) _ _=o
  have ho:∃ fr t', o=.ret ⟨fr, [], ⟨up .e 2, t', .lf⟩, .no, none, t41⟩∧fr.get t4=some (.ptr (up .e 1) 0)∧fr.get t5=some (.bool true)∧t'.get (up .e 1)=some (.cells (sheetC B) false):=by
   rw [← hit]
   refine iter_rule (FsI nm i ⟨up .e 2, _, .lf⟩) _ (fun r st h=>fs_round (top:=top) (Ss:=Ss) (Ts:=Ts) (V:=V) hl hi hq hn (by simp +decide only [gp,dR,if_true,if_false]) (by simp +decide only [gp,if_true,if_false]) r st h) 100000 i _ ⟨_, 0, rfl, Nat.zero_add _, ?_, ?_, ?_, ?_⟩ (by omega)
   all_goals simp +decide only [gp,gb,if_true,if_false]
  clear hit
  obtain ⟨fr', t', rfl, k4, k5, a1⟩:=ho
  have htk:takeD (sheetC B) 0 6=some (sheetC B):=takeD_all rfl
  simp only [sheetC] at a1 htk
  simp +decide only [SM,k4,k5,a1,htk]
  rfl
 obtain ⟨v, h1, hc, rfl⟩:=hr
 exact over_fz' (X:=RA) rfl hc (by simp only [frzs, frz, hf, Bool.and_self]) (by simp only [frz, frzs, frz_sheet, Bool.and_self]) h
end Go.Abs.Sym
end
section
namespace Go.Abs.Sym
open Go.Abs.T
open Go.Proofs
def sbA:List Pth:=[t2, t3, t5, t6]
def UnI (n m0:Nat) (t:Tr AB) (fr0:Tr AV) (r:Nat) (st:St):Prop:=∃ fr k m, st=⟨fr, [], ⟨up .e m, t, .lf⟩, .no, none, t86⟩∧k+r=n∧m0≤m∧KeepF sbA fr0 fr∧fr.get t8=some (.int .i64 (.ofNat k))
theorem un_round {s:SheetD} {x:SubD} {n xb m0:Nat} {t:Tr AB} {fr0:Tr AV} (hn:n<s.subs.l.length) (hl:s.subs.l.length<90000) (hd:∀ j<n, ∀ y, s.subs.l[j]?=some y→eqS y.nm x.nm=false)
  (g3:fr0.get t3=some (.ptr (up .e 1) 0)) (g5:fr0.get t5=some (.int .i64 (.ofNat n))) (g6:fr0.get t6=some (.ptr (up .e xb) 0)) (a1:t.get (up .e 1)=some (.cells (sheetC s) false)) (ax:t.get (up .e xb)=some (.cells (subC x) false)) (r:Nat) (st:St) (h:UnI n m0 t fr0 r st) :
  Stp (UnI n m0 t fr0) (fun o=>∃ st, o=.exit 2 st∧UnI n m0 t fr0 0 st) r (execA RB (callN RB 49) c86_l0 st):=by
 obtain ⟨fr, k, m, rfl, hk, hm, kf, g8⟩:=h
 have h3:=(kf t3 (by simp [sbA])).trans g3
 have h5:=(kf t5 (by simp [sbA])).trans g5
 have h6:=(kf t6 (by simp [sbA])).trans g6
 simp only [sheetC] at a1
 simp only [subC] at ax
 cases r with
 | zero =>
  have hkn:(k<n)=False:=eq_false (by omega)
  simp +decide only [c86_l0,SF,h5,g8,ltI_dec,hkn,stp_e]
  refine ⟨_, rfl, _, k, m, rfl, hk, hm, ?_, ?_⟩
  ·simp +decide only [KeepF_put]
   exact kf
  all_goals simp +decide only [gp,g8,if_false]
 | succ r =>
  have hkn:(k<n)=True:=eq_true (by omega)
  obtain ⟨a, hka⟩:∃ a, s.subs.l[k]?=some a:=⟨_, List.getElem?_eq_getElem (by omega)⟩
  have ia:=at_slV (f:=subC) (sz:=3) len_sub (by decide) hka
  have hqa:=hd k (by omega) a hka
  have hw:=wr_add k 1 (by omega)
  simp only [subC] at ia
  simp +decide only [c86_l0,SF,Nat.reduceAdd,Nat.reduceLeDiff,h3,h5,h6,g8,a1,ax,ltI_dec,hkn,ia,hqa,hw,stp_n]
  refine ⟨r, by omega, _, k+1, _, rfl, by omega, by omega, ?_, ?_⟩
  ·simp +decide only [KeepF_put]
   exact kf
  all_goals simp +decide only [gp,if_true,if_false]
theorem un_loop {s:SheetD} {x:SubD} {n xb m:Nat} {t:Tr AB} {fr0:Tr AV} {o:Out} (hit:iterA (execA RB (callN RB 49) c86_l0) 100000 ⟨fr0, [], ⟨up .e m, t, .lf⟩, .no, none, t86⟩=o) (hn:n<s.subs.l.length) (hl:s.subs.l.length<90000) (hd:∀ j<n, ∀ y, s.subs.l[j]?=some y→eqS y.nm x.nm=false)
  (g3:fr0.get t3=some (.ptr (up .e 1) 0)) (g5:fr0.get t5=some (.int .i64 (.ofNat n))) (g6:fr0.get t6=some (.ptr (up .e xb) 0)) (g8:fr0.get t8=some (.int .i64 (.ofNat 0))) (a1:t.get (up .e 1)=some (.cells (sheetC s) false)) (ax:t.get (up .e xb)=some (.cells (subC x) false)) :
  ∃ fr m', o=.exit 2 ⟨fr, [], ⟨up .e m', t, .lf⟩, .no, none, t86⟩∧m≤m'∧KeepF sbA fr0 fr:=by
 have:=iter_rule (UnI n m t fr0) (fun o=>∃ st, o=.exit 2 st∧UnI n m t fr0 0 st) (fun r st h=>un_round hn hl hd g3 g5 g6 a1 ax r st h) 100000 n _ ⟨_, 0, m, rfl, Nat.zero_add _, Nat.le_refl _, fun _ _=>rfl, g8⟩ (by omega)
 rw [hit] at this
 obtain ⟨st, e, fr, k, m1, rfl, _, hm, kf, _⟩:=this
 exact ⟨fr, m1, e, hm, kf⟩
def sbB:List Pth:=[t2, t3, t5, t6, t9, t11, t12]
def UpI (n m0:Nat) (t:Tr AB) (fr0:Tr AV) (r:Nat) (st:St):Prop:=∃ fr k m, st=⟨fr, [], ⟨up .e m, t, .lf⟩, .no, none, t86⟩∧k+r=n∧m0≤m∧KeepF sbB fr0 fr∧fr.get t13=some (.int .i64 (.ofNat k))
theorem up_round {x:SubD} {b:BindD} {n xb bb m0:Nat} {t:Tr AB} {fr0:Tr AV} (hn:n<x.binds.l.length) (hl:x.binds.l.length<90000) (hd:∀ j<n, ∀ y, x.binds.l[j]?=some y→eqS y.port b.port=false)
  (g6:fr0.get t6=some (.ptr (up .e xb) 0)) (g11:fr0.get t11=some (.int .i64 (.ofNat n))) (g12:fr0.get t12=some (.ptr (up .e bb) 0)) (ax:t.get (up .e xb)=some (.cells (subC x) false)) (ab:t.get (up .e bb)=some (.cells (bindC b) false)) (r:Nat) (st:St) (h:UpI n m0 t fr0 r st) :
  Stp (UpI n m0 t fr0) (fun o=>∃ st, o=.exit 6 st∧UpI n m0 t fr0 0 st) r (execA RB (callN RB 49) c86_l1 st):=by
 obtain ⟨fr, k, m, rfl, hk, hm, kf, g13⟩:=h
 have h6:=(kf t6 (by simp [sbB])).trans g6
 have h11:=(kf t11 (by simp [sbB])).trans g11
 have h12:=(kf t12 (by simp [sbB])).trans g12
 simp only [subC] at ax
 simp only [bindC] at ab
 cases r with
 | zero =>
  have hkn:(k<n)=False:=eq_false (by omega)
  simp +decide only [c86_l1,SF,h11,g13,ltI_dec,hkn,stp_e]
  refine ⟨_, rfl, _, k, m, rfl, hk, hm, ?_, ?_⟩
  ·simp +decide only [KeepF_put]
   exact kf
  all_goals simp +decide only [gp,g13,if_false]
 | succ r =>
  have hkn:(k<n)=True:=eq_true (by omega)
  obtain ⟨a, hka⟩:∃ a, x.binds.l[k]?=some a:=⟨_, List.getElem?_eq_getElem (by omega)⟩
  have ia:=at_slV (f:=bindC) (sz:=2) len_bind (by decide) hka
  have hqa:=hd k (by omega) a hka
  have hw:=wr_add k 1 (by omega)
  simp only [bindC] at ia
  simp +decide only [c86_l1,SF,Nat.reduceAdd,Nat.reduceLeDiff,h6,h11,h12,g13,ax,ab,ltI_dec,hkn,ia,hqa,hw,stp_n]
  refine ⟨r, by omega, _, k+1, _, rfl, by omega, by omega, ?_, ?_⟩
  ·simp +decide only [KeepF_put]
   exact kf
  all_goals simp +decide only [gp,if_true,if_false]
theorem up_loop {x:SubD} {b:BindD} {n xb bb m:Nat} {t:Tr AB} {fr0:Tr AV} {o:Out} (hit:iterA (execA RB (callN RB 49) c86_l1) 100000 ⟨fr0, [], ⟨up .e m, t, .lf⟩, .no, none, t86⟩=o) (hn:n<x.binds.l.length) (hl:x.binds.l.length<90000) (hd:∀ j<n, ∀ y, x.binds.l[j]?=some y→eqS y.port b.port=false)
  (g6:fr0.get t6=some (.ptr (up .e xb) 0)) (g11:fr0.get t11=some (.int .i64 (.ofNat n))) (g12:fr0.get t12=some (.ptr (up .e bb) 0)) (g13:fr0.get t13=some (.int .i64 (.ofNat 0))) (ax:t.get (up .e xb)=some (.cells (subC x) false)) (ab:t.get (up .e bb)=some (.cells (bindC b) false)) :
  ∃ fr m', o=.exit 6 ⟨fr, [], ⟨up .e m', t, .lf⟩, .no, none, t86⟩∧m≤m'∧KeepF sbB fr0 fr:=by
 have:=iter_rule (UpI n m t fr0) (fun o=>∃ st, o=.exit 6 st∧UpI n m t fr0 0 st) (fun r st h=>up_round hn hl hd g6 g11 g12 ax ab r st h) 100000 n _ ⟨_, 0, m, rfl, Nat.zero_add _, Nat.le_refl _, fun _ _=>rfl, g13⟩ (by omega)
 rw [hit] at this
 obtain ⟨st, e, fr, k, m1, rfl, _, hm, kf, _⟩:=this
 exact ⟨fr, m1, e, hm, kf⟩
end Go.Abs.Sym
end
section
namespace Go.Abs.Sym
open Go.Abs.T
open Go.Proofs
structure BkOk (ports:Sl Bs) (b:BindD):Prop where
 has:0<cntS ports.l b.port
 net:(b.net, memF b.net)∈memT
 port:(b.port, memF b.port)∈memT
 len:(memF b.net).length=(memF b.port).length
 ne:0<(memF b.port).length
structure BnOK (x:SubD) (B:SheetD):Prop where
 lb:x.binds.l.length<90000
 lp:B.ports.l.length<90000
 ok:∀ (k:Nat) b, x.binds.l[k]?=some b→BkOk B.ports b∧∀ j<k, ∀ y, x.binds.l[j]?=some y→eqS y.port b.port=false
def sbC:List Pth:=[t2, t3, t5, t6, t9]
def BnI (n m0:Nat) (u0:Tr AB) (fr0:Tr AV) (r:Nat) (st:St):Prop:=∃ fr k m t, st=⟨fr, [], ⟨up .e m, t, .lf⟩, .no, none, t86⟩∧k+r=n∧m0≤m∧KeepF sbC fr0 fr∧fr.get t11=some (.int .i64 (.ofNat k))∧∀ i, i<m0→t.get (up .e i)=u0.get (up .e i)
theorem bn_round {x:SubD} {B:SheetD} (ok:BnOK x B) {xb sb m0:Nat} {u0:Tr AB} {fr0:Tr AV} (g6:fr0.get t6=some (.ptr (up .e xb) 0)) (g9:fr0.get t9=some (.ptr (up .e sb) 0)) (ax:u0.get (up .e xb)=some (.cells (subC x) false)) (ab:u0.get (up .e sb)=some (.cells (sheetC B) false)) (hx:xb<m0) (hb:sb<m0) (r:Nat) (st:St) (h:BnI x.binds.l.length m0 u0 fr0 r st) :
  Stp (BnI x.binds.l.length m0 u0 fr0) (fun o=>∃ st, o=.exit 4 st∧BnI x.binds.l.length m0 u0 fr0 0 st) r (execA RB (callN RB 49) c86_l2 st):=by
 obtain ⟨fr, k, m, t, rfl, hk, hm, kf, g11, hfr⟩:=h
 have hlt:=ok.lb
 have h6:=(kf t6 (by simp [sbC])).trans g6
 have h9:=(kf t9 (by simp [sbC])).trans g9
 have bx:=(hfr xb hx).trans ax
 have bb:=(hfr sb hb).trans ab
 have bx':=bx
 simp only [subC] at bx
 simp only [sheetC] at bb
 cases r with
 | zero =>
  have hkn:(k<x.binds.l.length)=False:=eq_false (by omega)
  simp +decide only [c86_l2,SF,h6,bx,g11,len_slV,ltI_dec,hkn,stp_e]
  refine ⟨_, rfl, _, k, m, t, rfl, hk, hm, ?_, ?_, hfr⟩
  ·simp +decide only [KeepF_put]
   exact kf
  all_goals simp +decide only [gp,g11,if_false]
 | succ r =>
  have hkn:(k<x.binds.l.length)=True:=eq_true (by omega)
  obtain ⟨b, hka⟩:∃ b, x.binds.l[k]?=some b:=⟨_, List.getElem?_eq_getElem (by omega)⟩
  have ia:=at_slV (f:=bindC) (sz:=2) len_bind (by decide) hka
  have htk:takeD (bindC b++(x.binds.l.drop (k+1)).flatMap bindC) 0 2=some (bindC b):=tk_bind b _
  have hw:=wr_add k 1 (by omega)
  obtain ⟨fb, hd⟩:=ok.ok k b hka
  have hc1:∀ h, callN RB 49 (.fn t82 [] []) [slV bsC B.ports, .str b.port] h=.ret (.int .i64 (.ofNat (cntS B.ports.l b.port))) h:=fun h=>sBA (f:=48) rfl (cnt_sum B.ports.kind ok.lp b.port h)
  have hm1:∀ h, callN RB 49 (.fn t124 [] []) [.str b.net, .bool false] h=.ret (slV bsC ⟨1, memF b.net⟩) h:=fun h=>sBA (f:=48) rfl (memA_sum fb.net false h)
  have hm2:∀ h, callN RB 49 (.fn t124 [] []) [.str b.port, .bool false] h=.ret (slV bsC ⟨1, memF b.port⟩) h:=fun h=>sBA (f:=48) rfl (memA_sum fb.port false h)
  have e0:eqI (.ofNat (cntS B.ports.l b.port)) (.ofNat 0)=false:=by
   have:=fb.has
   cases hc:cntS B.ports.l b.port with
   | zero=>omega
   | succ n=>rfl
  have e1:eqI (.ofNat (memF b.net).length) (.ofNat 0)=false:=by
   rw [fb.len]
   have:=fb.ne
   cases hc:(memF b.port).length with
   | zero=>omega
   | succ n=>rfl
  have e3:eqI (.ofNat (memF b.net).length) (.ofNat (memF b.port).length)=true:=by
   rw [fb.len]
   show Nat.beq _ _=true
   rw [nbeq]
   exact decide_eq_true rfl
  have nx:=nz0 (show xb<m by omega)
  have nx':=nz (show xb<m by omega)
  have nb:=nz0 (show sb<m by omega)
  have nb':=nz (show sb<m by omega)
  simp only [bindC] at ia htk
  simp +decide only [c86_l2,SF,Nat.reduceAdd,h6,h9,g11,bx,bb,nb,hc1,e0,ltI_dec,hkn,ia,len_slV,kfB]
  generalize hit:iterA (execA RB (callN RB 49) c86_l1) _ _=o
  obtain ⟨fr2, m2, rfl, hm2', kf2⟩:=up_loop (x:=x) (b:=b) (n:=k) (xb:=xb) (bb:=m) hit (by omega) (by omega) hd
   (by simp +decide only [gp,h6,if_false]) (by simp +decide only [gp,g11,if_false]) (by simp +decide only [gp,if_true,if_false]) (by simp +decide only [gp,if_true,if_false])
   (by simp +decide only [gp,up_inj,nx,if_false]; exact bx') (by simp +decide only [gp,bindC,if_true])
  clear hit
  have k6:fr2.get t6=some (.ptr (up .e xb) 0):=(kf2 t6 (by simp [sbB])).trans (by simp +decide only [gp,h6,if_false])
  have k11:fr2.get t11=some (.int .i64 (.ofNat k)):=(kf2 t11 (by simp [sbB])).trans (by simp +decide only [gp,g11,if_false])
  have k12:fr2.get t12=some (.ptr (up .e m) 0):=(kf2 t12 (by simp [sbB])).trans (by simp +decide only [gp,if_true,if_false])
  have hkk:KeepF sbC fr0 fr2:=fun q hq=>by
   rw [kf2 q (by simp only [sbB, sbC, List.mem_cons, List.not_mem_nil, or_false] at hq ⊢; rcases hq with rfl | rfl | rfl | rfl | rfl<;>simp), ← kf q hq]
   simp only [sbC, List.mem_cons, List.not_mem_nil, or_false] at hq
   rcases hq with rfl | rfl | rfl | rfl | rfl<;>simp +decide only [gp,if_false]
  clear kf2
  simp +decide only [SF,k11,k12,hm1,hm2,e1,e3,hw,len_slV,stp_n]
  refine ⟨r, by omega, _, k+1, m2, _, rfl, by omega, by omega, ?_, ?_, fun i hi => ?_⟩
  ·simp +decide only [KeepF_put]
   exact hkk
  ·simp +decide only [gp,if_true,if_false]
  ·have n0:=nz0 (show i<m by omega)
   have n0':=nz (show i<m by omega)
   simp only [gp,up_inj,n0,if_false]
   exact hfr i hi
theorem bn_loop {x:SubD} {B:SheetD} (ok:BnOK x B) {xb sb m:Nat} {t:Tr AB} {fr0:Tr AV} {o:Out} (hit:iterA (execA RB (callN RB 49) c86_l2) 100000 ⟨fr0, [], ⟨up .e m, t, .lf⟩, .no, none, t86⟩=o) (g6:fr0.get t6=some (.ptr (up .e xb) 0)) (g9:fr0.get t9=some (.ptr (up .e sb) 0)) (g11:fr0.get t11=some (.int .i64 (.ofNat 0))) (ax:t.get (up .e xb)=some (.cells (subC x) false)) (ab:t.get (up .e sb)=some (.cells (sheetC B) false)) (hx:xb<m) (hb:sb<m) :
  ∃ fr m' t', o=.exit 4 ⟨fr, [], ⟨up .e m', t', .lf⟩, .no, none, t86⟩∧m≤m'∧KeepF sbC fr0 fr∧∀ i, i<m→t'.get (up .e i)=t.get (up .e i):=by
 have:=iter_rule (BnI x.binds.l.length m t fr0) (fun o=>∃ st, o=.exit 4 st∧BnI x.binds.l.length m t fr0 0 st) (fun r st h=>bn_round ok g6 g9 ax ab hx hb r st h) 100000 x.binds.l.length _ ⟨_, 0, m, t, rfl, Nat.zero_add _, Nat.le_refl _, fun _ _=>rfl, g11, fun _ _=>rfl⟩ (by have:=ok.lb; omega)
 rw [hit] at this
 obtain ⟨st, e, fr, k, m1, t', rfl, _, hm, kf, _, hfr⟩:=this
 exact ⟨fr, m1, t', e, hm, kf, hfr⟩
end Go.Abs.Sym
end
section
namespace Go.Abs.Sym
open Go.Abs.T
open Go.Proofs
structure SkOk (Ss:Sl SheetD) (x:SubD):Prop where
 right:x.nm∈rightNs
 sh:∃ B, Ss.l.find? (fun a=>eqS a.nm x.sh)=some B∧BnOK x B
structure SkOK (Ss:Sl SheetD) (s:SheetD):Prop where
 lS:Ss.l.length<90000
 lt:s.subs.l.length<90000
 ok:∀ (k:Nat) x, s.subs.l[k]?=some x→SkOk Ss x∧∀ j<k, ∀ y, s.subs.l[j]?=some y→eqS y.nm x.nm=false
def SkI (top:AV) (Ss:Sl SheetD) (Ts:Sl TypD) (V:AV) (s:SheetD) (r:Nat) (st:St):Prop:=∃ fr m t k, st=⟨fr, [], ⟨up .e m, t, .lf⟩, .no, none, t86⟩∧k+r=s.subs.l.length∧2≤m ∧
 fr.get t2=some (.ptr (up .e 0) 0)∧fr.get t3=some (.ptr (up .e 1) 0)∧fr.get t5=some (.int .i64 (.ofNat k))∧t.get (up .e 0)=some (.cells (dR top (slV sheetC Ss) Ts V) false)∧t.get (up .e 1)=some (.cells (sheetC s) false)
theorem sk_round {top V:AV} {Ss:Sl SheetD} {Ts:Sl TypD} {s:SheetD} (ok:SkOK Ss s) (hf:frzs (dR top (slV sheetC Ss) Ts V)=true) (r:Nat) (st:St) (h:SkI top Ss Ts V s r st) :
  Stp (SkI top Ss Ts V s) (fun o=>∃ st, o=.exit 0 st∧SkI top Ss Ts V s 0 st) r (execA RB (callN RB 49) c86_l3 st):=by
 obtain ⟨fr, m, t, k, rfl, hk, hm, g2, g3, g5, a0, a1⟩:=h
 have hlt:=ok.lt
 have b0:=a0
 have b1:=a1
 simp only [dR] at b0
 simp only [sheetC] at b1
 cases r with
 | zero =>
  have hkn:(k<s.subs.l.length)=False:=eq_false (by omega)
  simp +decide only [c86_l3,SF,g3,g5,b1,len_slV,ltI_dec,hkn,stp_e]
  refine ⟨_, rfl, _, m, t, k, rfl, hk, hm, ?_, ?_, ?_, a0, a1⟩
  all_goals simp +decide only [gp,g2,g3,g5,if_false]
 | succ r =>
  have hkn:(k<s.subs.l.length)=True:=eq_true (by omega)
  obtain ⟨x, hka⟩:∃ x, s.subs.l[k]?=some x:=⟨_, List.getElem?_eq_getElem (by omega)⟩
  have ia:=at_slV (f:=subC) (sz:=3) len_sub (by decide) hka
  have hw:=wr_add k 1 (by omega)
  obtain ⟨fx, hd⟩:=ok.ok k x hka
  obtain ⟨B, hB, hbn⟩:=fx.sh
  have hri:∀ h, callN RB 49 (.fn t81 [] []) [.str x.nm] h=.ret (.bool true) h:=fun h=>sBA (f:=48) rfl (rightA_sum fx.right h)
  have hfi:∀ h, callN RB 49 (.fn t41 [] []) [.agg (dR top (slV sheetC Ss) Ts V), .str x.sh] h=.ret (.tup [.agg (sheetC B), .bool true]) h:=fun h=>call_sum (by rw [List.nil_append, List.append_nil]; exact findS_sum ok.lS hB hf h)
  have htk:takeD (subC x++(s.subs.l.drop (k+1)).flatMap subC) 0 3=some (subC x):=tk_sub x _
  have htd:takeD (dR top (slV sheetC Ss) Ts V) 0 4=some (dR top (slV sheetC Ss) Ts V):=takeD_all rfl
  have n0:(0=m)=False:=eq_false (by omega)
  have n0':∀ c, (0=m+c)=False:=fun c=>eq_false (by omega)
  have n1:(1=m)=False:=eq_false (by omega)
  have n1':∀ c, (1=m+c)=False:=fun c=>eq_false (by omega)
  simp only [subC] at ia htk
  simp only [dR, sheetC] at hfi
  simp only [dR] at htd
  simp +decide only [c86_l3,SF,Nat.reduceAdd,g3,g5,b1,hri,ltI_dec,hkn,ia,len_slV,kfB]
  generalize hit:iterA (execA RB (callN RB 49) c86_l0) _ _=o
  obtain ⟨fr2, m2, rfl, hm2, kf⟩:=un_loop (s:=s) (x:=x) (n:=k) (xb:=m) hit (by omega) (by omega) hd
   (by simp +decide only [gp,g3,if_false]) (by simp +decide only [gp,g5,if_false]) (by simp +decide only [gp,if_true,if_false]) (by simp +decide only [gp,if_true,if_false])
   (by simp +decide only [gp,up_inj,n1,a1,if_false]) (by simp +decide only [gp,subC,if_true])
  clear hit
  have k2:fr2.get t2=some (.ptr (up .e 0) 0):=(kf t2 (by simp [sbA])).trans (by simp +decide only [gp,g2,if_false])
  have k3:fr2.get t3=some (.ptr (up .e 1) 0):=(kf t3 (by simp [sbA])).trans (by simp +decide only [gp,g3,if_false])
  have k5:fr2.get t5=some (.int .i64 (.ofNat k)):=(kf t5 (by simp [sbA])).trans (by simp +decide only [gp,g5,if_false])
  have k6:fr2.get t6=some (.ptr (up .e m) 0):=(kf t6 (by simp [sbA])).trans (by simp +decide only [gp,if_true,if_false])
  clear kf
  have nm0:(m=m2)=False:=eq_false (by omega)
  have nm':∀ c, (m=m2+c)=False:=fun c=>eq_false (by omega)
  have p0:(0=m2)=False:=eq_false (by omega)
  have p1:(1=m2)=False:=eq_false (by omega)
  simp +decide only [SF,Nat.reduceAdd,k2,k6,b0,n0,htd,hfi,List.getElem?_cons_zero,List.getElem?_cons_succ]
  generalize hit:iterA (execA RB (callN RB 49) c86_l2) _ _=o
  obtain ⟨fr3, m3, t3', rfl, hm3, kf, hfr⟩:=bn_loop (x:=x) (B:=B) hbn (xb:=m) (sb:=m2) hit
   (by simp +decide only [gp,k6,if_false]) (by simp +decide only [gp,if_true,if_false]) (by simp +decide only [gp,if_true,if_false])
   (by simp +decide only [gp,up_inj,nm0,subC,if_true,if_false]) (by simp +decide only [gp,up_inj,sheetC,if_true]) (by omega) (by omega)
  clear hit
  have q2:fr3.get t2=some (.ptr (up .e 0) 0):=(kf t2 (by simp [sbC])).trans (by simp +decide only [gp,k2,if_false])
  have q3:fr3.get t3=some (.ptr (up .e 1) 0):=(kf t3 (by simp [sbC])).trans (by simp +decide only [gp,k3,if_false])
  have q5:fr3.get t5=some (.int .i64 (.ofNat k)):=(kf t5 (by simp [sbC])).trans (by simp +decide only [gp,k5,if_false])
  clear kf
  have c0:t3'.get (up .e 0)=some (.cells (dR top (slV sheetC Ss) Ts V) false):=(hfr 0 (by omega)).trans (by simp +decide only [gp,up_inj,n0,p0,a0,if_false])
  have c1:t3'.get (up .e 1)=some (.cells (sheetC s) false):=(hfr 1 (by omega)).trans (by simp +decide only [gp,up_inj,n1,p1,a1,if_false])
  simp +decide only [SF,q5,hw,stp_n]
  refine ⟨r, by omega, _, m3, _, k+1, rfl, by omega, by omega, ?_, ?_, ?_, c0, c1⟩
  all_goals simp +decide only [gp,q2,q3,if_true,if_false]
theorem subsA_sum {top V:AV} {Ss:Sl SheetD} {Ts:Sl TypD} {s:SheetD} (ok:SkOK Ss s) (hf:frzs (dR top (slV sheetC Ss) Ts V)=true) (h:H):RC.sums t86 [.agg (dR top (slV sheetC Ss) Ts V), .agg (sheetC s)] h=some i0:=by
 have hs:∀ xs, RB.sums t86 xs h0=none:=fun _=>rfl
 have hF:RB.funcs.get t86=some c86:=rfl
 have hr:Ret (callN RB 50 (.fn t86 [] []) [.agg (dR top (slV sheetC Ss) Ts V), .agg (sheetC s)] h0) (fun v h=>v=i0):=by
  refine begin2 (hs _) hF fun fr t ga gb => ?_
  rw [c86]
  have ga':=ga
  have gb':=gb
  simp only [dR] at ga'
  simp only [sheetC] at gb'
  simp +decide only [SK,Nat.reduceAdd,ga',gb',kfB]
  generalize hit:iterA (execA RB (callN RB 49) c86_l3) _ _=o
  have ho:∃ st, o=.exit 0 st∧SkI top Ss Ts V s 0 st:=by
   rw [← hit]
   refine iter_rule (SkI top Ss Ts V s) _ (fun r st h=>sk_round ok hf r st h) 100000 s.subs.l.length _ ⟨_, 2, _, 0, rfl, Nat.zero_add _, Nat.le_refl _, ?_, ?_, ?_, ?_, ?_⟩ (by have:=ok.lt; omega)
   all_goals simp +decide only [gp,dR,sheetC,if_true,if_false]
  clear hit
  obtain ⟨st, rfl, fr', m, t', k, rfl, _⟩:=ho
  simp +decide only [SM]
 obtain ⟨v, h1, hc, rfl⟩:=hr
 exact over_fz' (X:=RB) rfl hc (by simp only [frzs, frz, frz_sheet, hf, Bool.and_self]) rfl h
end Go.Abs.Sym
end
end
