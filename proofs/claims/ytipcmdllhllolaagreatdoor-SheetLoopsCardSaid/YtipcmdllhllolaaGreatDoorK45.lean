/- SheetLoops: the law up to the design that is put into itself. -/
import Derived.Test.YtipcmdllhllolaaGreatDoorK44
import Derived.Test.YtipcmdllhllolaaGreatDoorK38
noncomputable section
section
namespace Go.Abs.Sym
open Go.Abs.T
open Go.Proofs
theorem min_i' (a b:Nat):foldA min2A (.int .i64 (.ofNat a)) [.int .i64 (.ofNat b)]=some (.int .i64 (bif ltI (.ofNat b) (.ofNat a) then .ofNat b else .ofNat a)):=rfl
theorem min_nat' (a b:Nat):(bif ltI (.ofNat b) (.ofNat a) then Int.ofNat b else .ofNat a)=.ofNat (min a b):=by
 rw [ltI_dec]
 by_cases h:b<a
 ·simp only [h, decide_true, cond_true]
  rw [Nat.min_eq_right (by omega)]
 ·simp only [h, decide_false, cond_false]
  rw [Nat.min_eq_left (by omega)]
section
variable {T0 T1:TypD} {E:CkE}
theorem kl_4 (i:Pth) (h1:Pth.beq i t65=false) (h2:Pth.beq i t29=false) (h3:memP i [t29]=false) (h4:memP i [t8]=false) (h5:memP i [t10, t13]=false) (h6:Pth.beq i t8=false) (h7:Pth.beq i t10=false) (h8:Pth.beq i t13=false) (h37:Pth.beq i t37=false) (xs:List AV) (h:H):(KL T0 T1 E).sums i xs h=K4.sums i xs h:=by
 show lpS E (KFL T0 T1 E).sums i xs h=_
 rw [lpS, dpK_ne h6, dpK_ne h6, dpK_ne h8, dpK_ne h6, dpK_ne h7, dpK_ne h8]
 exact (over_rest (X:=KEL T0 T1 E) h5 rfl xs h).trans ((over_rest (X:=KD T0 T1 (.agg E.d)) h4 rfl xs h).trans (kd_4 i h1 h2 h3 xs h h37))
def u8V (q:Nat):AV:=.int .u8 (.ofNat q)
theorem ix0 (b:Nat):indexAddrA (.arr 2 1) (.ptr (up .e b) 0) i0=some (.ptr (up .e b) 0):=rfl
theorem ix1 (b:Nat):indexAddrA (.arr 2 1) (.ptr (up .e b) 0) i1=some (.ptr (up .e b) 1):=rfl
theorem tk0 (x y:AV):takeD [x, y] 0 1=some [x]:=rfl
theorem tk1 (x y:AV):takeD [x, y] 1 1=some [y]:=rfl
theorem st_cv (h:H) (p:Nat) (hp:p<256):stepA h (.conv (.int .i64)) [.int .u8 (.ofNat p)]=.val (.int .i64 (.ofNat p)) h:=by
 have:stepA h (.conv (.int .i64)) [.int .u8 (.ofNat p)]=.val (.int .i64 (wrapA .i64 (.ofNat p))) h:=rfl
 rw [this, wrap_small (by omega)]
theorem st_rem (h:H) (p n:Nat) (hn:0<n) (_hp:p<1000):stepA h (.bin .rem .one) [.int .i64 (.ofNat p), .int .i64 (.ofNat n)]=.val (.int .i64 (.ofNat (p % n))) h:=by
 cases n with
 | zero=>omega
 | succ n =>
  have:stepA h (.bin .rem .one) [.int .i64 (.ofNat p), .int .i64 (.ofNat (n+1))]=.val (.int .i64 ((Int.ofNat p).tmod (Int.ofNat (n+1)))) h:=rfl
  rw [this]
  rfl
theorem q3_run {X:Ctx} {f:Nat} {fr:Tr AV} {m bq c O n p q:Nat} {t:Tr AB} {x1 x2 tp ov:AV} (hn:0<n) (hp:p<256) (_hn2:n<1000) (g3:fr.get t3=some (.ptr (up .e bq) 0)) (g6:fr.get t6=some (.ptr (up .e c) 0)) (aq:t.get (up .e bq)=some (.cells [u8V p, u8V q] false)) (ac:t.get (up .e c)=some (.cells [tp, ov, x1, x2] false)) (hov:ov=.slc (up .e O) 0 n 6 none) :
  ∃ fr', execA X (callN X f) c5_q3 ⟨fr, [], ⟨up .e m, t, .lf⟩, .no, none, t5⟩=.nrm ⟨fr', [], ⟨up .e m, t, .lf⟩, .no, none, t5⟩∧KeepF [t3, t5, t6] fr fr'∧fr'.get t7=some (.int .i64 (.ofNat (p % n))):=by
 subst hov
 simp only [u8V] at aq
 have hc:=fun h=>st_cv h p hp
 have hr:=fun h=>st_rem h p n hn (by omega)
 simp +decide only [c5_q3,SF,g3,g6,aq,ac,ix0,hc,hr]
 refine ⟨_, rfl, ?_, ?_⟩
 ·simp +decide only [KeepF_put]
  exact fun _ _=>rfl
 ·simp +decide only [gp, if_true, reduceIte]
theorem q4_run {X:Ctx} {f:Nat} {fr:Tr AV} {m bq a p q:Nat} {t:Tr AB} (ha:a<1000) (hq:q<256) (g3:fr.get t3=some (.ptr (up .e bq) 0)) (g7:fr.get t7=some (.int .i64 (.ofNat a))) (aq:t.get (up .e bq)=some (.cells [u8V p, u8V q] false)) :
  ∃ fr', execA X (callN X f) c5_q4 ⟨fr, [], ⟨up .e m, t, .lf⟩, .no, none, t5⟩=.nrm ⟨fr', [], ⟨up .e m, t, .lf⟩, .no, none, t5⟩∧KeepF [t5, t6, t7] fr fr'∧fr'.get t8=some (.int .i64 (.ofNat (q % (a+1)))):=by
 simp only [u8V] at aq
 have hc:=fun h=>st_cv h q hq
 have hr:=fun h=>st_rem h q (a+1) (by omega) (by omega)
 have hw:=wr_add a 1 (by omega)
 simp +decide only [c5_q4,SF,g3,g7,aq,ix1,hc,hr,hw]
 refine ⟨_, rfl, ?_, ?_⟩
 ·simp +decide only [KeepF_put]
  exact fun _ _=>rfl
 ·simp +decide only [gp, if_true, reduceIte]
theorem q012_run {d:DesD} {Ls Ls':Sl (Sl Int)} {p q:Nat} (hsl:sliceA (.slc 1) false true false [slV liC Ls, .int .i64 (.ofNat (min Ls.l.length 8))]=some (slV liC Ls')) (hmade:∀ h, K4.sums t7 [slV liC Ls'] h=some (.agg (desC d))) (ht:d.types.l.length≤1000) (hv:d.variants.l.length≤1000) (hl:d.sheets.l.length<1000) (hm:∀ s∈d.sheets.l, Mod s)
  {fr:Tr AV} {t:Tr AB} (ga:fr.get t0=some (slV liC Ls)) (gb:fr.get t1=some (.agg [u8V p, u8V q])) :
  ∃ fr' m t' Mu ob tv vv ov nbO rs nbs, (∀ rest, execA (KL T0 T1 E) (callN (KL T0 T1 E) 49) (.seq c5_q0 (.seq c5_q1 (.seq c5_q2 rest))) ⟨fr, [], ⟨up .e 0, t, .lf⟩, .no, none, t5⟩=execA (KL T0 T1 E) (callN (KL T0 T1 E) 49) rest ⟨fr', [], ⟨up .e (m+1), t', .lf⟩, .no, none, t5⟩) ∧
   fr'.get t3=some (.ptr (up .e 0) 0)∧fr'.get t5=some (.bool true)∧fr'.get t6=some (.ptr (up .e m) 0)∧t'.get (up .e 0)=some (.cells [u8V p, u8V q] false)∧t'.get (up .e m)=some (.cells [.str d.top, ov, tv, vv] false)∧2<ob∧0<m ∧
   CpO d.sheets.l t' (m+1) ob Mu (.str d.top) tv vv (slV tyC (cpL d.types)) (slV bsC (cpL d.variants)) ov nbO rs nbs d.sheets.l.length∧m∉Mu∧(∀ (k:Nat) s nb, d.sheets.l[k]?=some s→nbs[k]?=some nb→0<s.subs.l.length→nb≠m):=by
 have hfu:(KL T0 T1 E).fuel=100000:=rfl
 have hsan:∀ h, callN (KL T0 T1 E) 49 (.fn t6 [] []) [] h=.ret (.bool true) h:=fun h=>call_sum (n:=48) rfl
 have hma:∀ h, callN (KL T0 T1 E) 49 (.fn t7 [] []) [slV liC Ls'] h=.ret (.agg (desC d)) h:=fun h=>call_sum (n:=48) (by
  rw [List.nil_append, List.append_nil, kl_4 t7 rfl rfl rfl rfl rfl rfl rfl rfl rfl]
  exact hmade h)
 have e1:∃ fr1, execA (KL T0 T1 E) (callN (KL T0 T1 E) 49) c5_q0 ⟨fr, [], ⟨up .e 0, t, .lf⟩, .no, none, t5⟩=.nrm ⟨fr1, [], ⟨up .e 1, t.put (up .e 0) (.cells [u8V p, u8V q] false), .lf⟩, .no, none, t5⟩∧fr1.get t0=some (slV liC Ls)∧fr1.get t3=some (.ptr (up .e 0) 0):=by
  simp +decide only [c5_q0,SF,gb]
  refine ⟨_, rfl, ?_, ?_⟩
  ·simp +decide only [gp,ga,if_false]
  ·simp +decide only [gp,if_true,if_false]
 obtain ⟨fr1, e1, p0, p3⟩:=e1
 have e2:∃ fr2, ∀ h, execA (KL T0 T1 E) (callN (KL T0 T1 E) 49) c5_q1 ⟨fr1, [], h, .no, none, t5⟩=.nrm ⟨fr2, [], h, .no, none, t5⟩∧fr2.get t0=some (slV liC Ls)∧fr2.get t3=some (.ptr (up .e 0) 0)∧fr2.get t5=some (.bool true):=by
  simp +decide only [c5_q1,SF,hsan]
  refine ⟨_, fun h=>⟨rfl, ?_, ?_, ?_⟩⟩
  ·simp +decide only [gp,p0,if_false]
  ·simp +decide only [gp,p3,if_false]
  ·simp +decide only [gp,if_true,if_false]
 obtain ⟨fr2, e2⟩:=e2
 obtain ⟨e2, r0, r3, r5⟩:=e2 ⟨up .e 1, t.put (up .e 0) (.cells [u8V p, u8V q] false), .lf⟩
 obtain ⟨m, t2, Mu, ob, tv, vv, ov, nbO, rs, nbs, hcp, ho, hoO, hfr, hO⟩:=copy_call (X:=KL T0 T1 E) hfu rfl (n:=48) ht hv hl hm (m:=1) (t:=t.put (up .e 0) (.cells [u8V p, u8V q] false)) rfl
 have a0:t2.get (up .e 0)=some (.cells [u8V p, u8V q] false):=(hfr 0 (by omega)).trans (by rw [gp, if_pos rfl])
 have hobm:ob<m:=hO.Mb ob hO.Mo
 have e3:∃ fr3 t3, execA (KL T0 T1 E) (callN (KL T0 T1 E) 49) c5_q2 ⟨fr2, [], ⟨up .e 1, t.put (up .e 0) (.cells [u8V p, u8V q] false), .lf⟩, .no, none, t5⟩=.nrm ⟨fr3, [], ⟨up .e (m+1), t3, .lf⟩, .no, none, t5⟩∧t3.get (up .e m)=some (.cells [.str d.top, ov, tv, vv] false)∧(∀ i, i<m→t3.get (up .e i)=t2.get (up .e i))∧fr3.get T.t3=some (.ptr (up .e 0) 0)∧fr3.get t5=some (.bool true)∧fr3.get t6=some (.ptr (up .e m) 0):=by
  have o1:=hO.gr.one
  have o2:=hO.zt.1
  have o3:=hO.zv.1
  simp +decide only [c5_q2,SF,Nat.reduceAdd,r0,hma,hcp,len_slV,min_i',min_nat',hsl,o1,o2,o3]
  refine ⟨_, _, rfl, ?_, fun i hi => ?_, ?_, ?_, ?_⟩
  ·rw [gp, if_pos rfl]
  ·have:=nz0 hi
   simp only [gp, up_inj, this, if_false]
  ·simp +decide only [gp,r3,if_false]
  ·simp +decide only [gp,r5,if_false]
  ·simp +decide only [gp,if_true,if_false]
 obtain ⟨fr3, t3, e3, am, hk3, s3, s5, s6⟩:=e3
 refine ⟨fr3, m, _, Mu, ob, tv, vv, ov, nbO, rs, nbs, fun rest=>(ex_seq e1).trans ((ex_seq e2).trans (ex_seq e3)), s3, s5, s6, ?_, ?_, by omega, by omega, ?_, fun h=>absurd (hO.Mb m h) (Nat.lt_irrefl m), fun k s nb h1 h2 h3 => ?_⟩
 ·exact (hk3 0 (by omega)).trans a0
 ·exact am
 ·exact hO.later (by omega) fun x hx=>hk3 x hx
 ·have hkl:k<rs.length:=by
   have:=(List.getElem?_eq_some_iff.1 h1).1
   rw [hO.len]
   exact this
  obtain ⟨_, _, _, _, _, _, _, _, _, _, _, h6⟩:=hO.row k s _ nb h1 (List.getElem?_eq_getElem hkl) h2
  have:=h6 h3
  omega
end
end Go.Abs.Sym
end
section
namespace Go.Abs.Sym
open Go.Abs.T
open Go.Proofs
section
variable {T0 T1:TypD} {E:CkE}
theorem live_deep {t:Tr AB} {m:Nat} {vs al:List AV} {nx:Pth} (h:FzL 5 t m [] vs al):deep 8 ⟨nx, t, .lf⟩ (.agg vs)=.agg al:=by
 rw [deep_agg, h.deep t nx 7 (Agr.refl t m []) (by decide)]
theorem kl_8 (htop:E.top=mainB) {h:H} {x:AV} (e:deep 8 h x=.agg E.d4):(KL T0 T1 E).sums t8 [x] h=some i25':=by
 show lpS E (KFL T0 T1 E).sums t8 [x] h=_
 have b1:AV.beq (deep 8 h x) deepD=false:=by rw [e, CkE.d4, htop]; rfl
 have b2:AV.beq (deep 8 h x) topD=false:=by rw [e, CkE.d4, htop]; rfl
 rw [lpS, dpK_no b1, dpK_no b2, dpK_ne rfl, dpK_at e]
theorem kl_10 {h:H} {x:AV} (e:deep 8 h x=.agg E.d4):(KL T0 T1 E).sums t10 [x] h=some .nils:=by
 show lpS E (KFL T0 T1 E).sums t10 [x] h=_
 rw [lpS, dpK_ne rfl, dpK_ne rfl, dpK_ne rfl, dpK_ne rfl, dpK_at e]
theorem kl_13 (htop:E.top=mainB) {h:H} {x:AV} (e:deep 8 h x=.agg E.d4):(KL T0 T1 E).sums t13 [x] h=some i0:=by
 show lpS E (KFL T0 T1 E).sums t13 [x] h=_
 have b2:AV.beq (deep 8 h x) topD=false:=by rw [e, CkE.d4, htop]; rfl
 rw [lpS, dpK_ne rfl, dpK_ne rfl, dpK_no b2, dpK_ne rfl, dpK_ne rfl, dpK_at e]
theorem kl_d8 {h:H} {x:AV} (e:deep 8 h x=deepD):(KL T0 T1 E).sums t8 [x] h=some i25':=by
 show lpS E (KFL T0 T1 E).sums t8 [x] h=_
 rw [lpS, dpK_at e]
theorem kl_t8 {h:H} {x:AV} (e:deep 8 h x=topD):(KL T0 T1 E).sums t8 [x] h=some i0:=by
 show lpS E (KFL T0 T1 E).sums t8 [x] h=_
 have b1:AV.beq (deep 8 h x) deepD=false:=by rw [e]; rfl
 rw [lpS, dpK_no b1, dpK_at e]
theorem kl_t13 {h:H} {x:AV} (e:deep 8 h x=topD):(KL T0 T1 E).sums t13 [x] h=some i5':=by
 show lpS E (KFL T0 T1 E).sums t13 [x] h=_
 rw [lpS, dpK_ne rfl, dpK_ne rfl, dpK_at e]
theorem q6_run (htop:E.top=mainB) {fr:Tr AV} {m c:Nat} {t:Tr AB} {vs:List AV} (g6:fr.get t6=some (.ptr (up .e c) 0)) (ac:t.get (up .e c)=some (.cells vs false)) (hz:FzL 5 t m [] vs E.d4) :
  ∃ fr', execA (KL T0 T1 E) (callN (KL T0 T1 E) 49) c5_q6 ⟨fr, [], ⟨up .e m, t, .lf⟩, .no, none, t5⟩=.nrm ⟨fr', [], ⟨up .e m, t, .lf⟩, .no, none, t5⟩∧KeepF [t5] fr fr':=by
 have hl:vs.length=4:=hz.len
 have htk:takeD vs 0 4=some vs:=takeD_all hl
 have e:=fun nx=>live_deep (nx:=nx) hz
 have h8:∀ nx, callN (KL T0 T1 E) 49 (.fn t8 [] []) [.agg vs] ⟨nx, t, .lf⟩=.ret (.int .i64 (.ofNat 25)) ⟨nx, t, .lf⟩:=fun nx=>call_sum (n:=48) (kl_8 htop (e nx))
 have h10:∀ nx, callN (KL T0 T1 E) 49 (.fn t10 [] []) [.agg vs] ⟨nx, t, .lf⟩=.ret .nils ⟨nx, t, .lf⟩:=fun nx=>call_sum (n:=48) (kl_10 (e nx))
 have h13:∀ nx, callN (KL T0 T1 E) 49 (.fn t13 [] []) [.agg vs] ⟨nx, t, .lf⟩=.ret i0 ⟨nx, t, .lf⟩:=fun nx=>call_sum (n:=48) (kl_13 htop (e nx))
 have n1:eqI (.ofNat 25) (.ofNat 25)=true:=rfl
 have n0:eqI (.ofNat 0) (.ofNat 0)=true:=rfl
 match vs, hl, ac, htk, h8, h10, h13 with
 | [w0, w1, w2, w3], hl, ac, htk, h8, h10, h13 =>
 simp +decide only [c5_q6,SF,g6,ac,htk,h8,h10,h13,n1,n0]
 refine ⟨_, rfl, ?_⟩
 simp +decide only [KeepF_put]
 exact fun _ _=>rfl
theorem grow_slc {t:Tr AB} {m nb:Nat} {v:AV} {rs:List (List AV)} (h:Grow 6 t 1 m nb v rs) (h0:0<rs.length):v=.slc (up .e nb) 0 rs.length 6 none:=by
 rcases h with ⟨h1, _⟩ | ⟨_, h2, _⟩
 ·rw [h1] at h0; simp at h0
 ·exact h2
theorem l_head {d:DesD} {va:Bool} {cnt:Nat} {Ls Ls':Sl (Sl Int)} {p q:Nat} (hp:p<256) (hq:q<256) (hsl:sliceA (.slc 1) false true false [slV liC Ls, .int .i64 (.ofNat (min Ls.l.length 8))]=some (slV liC Ls')) (hmade:∀ h, K4.sums t7 [slV liC Ls'] h=some (.agg (desC d))) (ht:d.types.l.length≤1000) (hv:d.variants.l.length≤1000) (hm:∀ s∈d.sheets.l, Mod s)
  (h1:1≤cnt) (h3:cnt≤3) (hl:d.sheets.l.length=cnt) (hva:slV bsC (cpL d.variants)=slV bsC (vaL va)) (hnm:∀ k, k<cnt→∃ s, d.sheets.l[k]?=some s∧s.nm=sheetN.getD k []) (hE:E=lpE d va (p % cnt) (q % (p % cnt+1))) (htop:E.top=mainB)
  {fr:Tr AV} {t:Tr AB} (ga:fr.get t0=some (slV liC Ls)) (gb:fr.get t1=some (.agg [u8V p, u8V q])) :
  ∃ fr' m t', (∀ rest, execA (KL T0 T1 E) (callN (KL T0 T1 E) 49) (.seq c5_q0 (.seq c5_q1 (.seq c5_q2 (.seq c5_q3 (.seq c5_q4 (.seq c5_q5 (.seq c5_q6 rest))))))) ⟨fr, [], ⟨up .e 0, t, .lf⟩, .no, none, t5⟩=execA (KL T0 T1 E) (callN (KL T0 T1 E) 49) rest ⟨fr', [], ⟨up .e m, t', .lf⟩, .no, none, t5⟩)∧fr'.get t5=some (.bool true)∧1≤m:=by
 obtain ⟨fr1, c, t1', Mu, ob, tv, vv, ov, nbO, rs, nbs, e1, a3, a5, a6, aq, ac, ho, hc0, hO, hcM, hnc⟩:=q012_run (T0:=T0) (T1:=T1) (E:=E) (p:=p) (q:=q) hsl hmade ht hv (by omega) hm ga gb (t:=t)
 have hov:=grow_slc hO.gr (by rw [hO.len]; omega)
 rw [hO.len] at hov
 obtain ⟨fr2, e2, k2, b7⟩:=q3_run (X:=KL T0 T1 E) (f:=49) (m:=c+1) (n:=d.sheets.l.length) (q:=q) (by omega) hp (by omega) a3 a6 aq ac hov
 have b3:=(k2 T.t3 (by simp)).trans a3
 have b5:=(k2 T.t5 (by simp)).trans a5
 have b6:=(k2 T.t6 (by simp)).trans a6
 have hpn:p % d.sheets.l.length<d.sheets.l.length:=Nat.mod_lt _ (by omega)
 obtain ⟨fr3, e3, k3, c8⟩:=q4_run (X:=KL T0 T1 E) (f:=49) (m:=c+1) (a:=p % d.sheets.l.length) (by omega) hq b3 b7 aq
 have c5:=(k3 T.t5 (by simp)).trans b5
 have c6:=(k3 T.t6 (by simp)).trans b6
 have c7:=(k3 T.t7 (by simp)).trans b7
 have hqb:q % (p % d.sheets.l.length+1)≤p % d.sheets.l.length:=by
  have:=Nat.mod_lt q (show 0<p % d.sheets.l.length+1 by omega)
  omega
 obtain ⟨fr4, m4, t4', u4, e4, hm4, k4, d1, d2, _⟩:=q5_law (X:=KL T0 T1 E) (f:=49) hO hpn hqb (by omega) (fun s hs=>by have:=(hm s hs).u; omega) (fun k s hk=>by
  obtain ⟨s', h1, h2⟩:=hnm k (by have:=(List.getElem?_eq_some_iff.1 hk).1; omega)
  rw [hk] at h1
  cases h1
  exact h2) c6 c7 c8 ac (by omega) hcM hnc (Fz.of rfl rfl)
 have hd4:[.str d.top, slV sheetC ⟨0, d.sheets.l.mapIdx (lpSh (p % d.sheets.l.length) (q % (p % d.sheets.l.length+1)))⟩, slV tyC (cpL d.types), slV bsC (cpL d.variants)]=E.d4:=by
  rw [hE, ← hl, hva]
  rfl
 rw [hd4] at d2
 obtain ⟨fr5, e5, k5⟩:=q6_run (T0:=T0) (T1:=T1) htop ((k4 T.t6 (by simp)).trans c6) d1 d2
 exact ⟨fr5, m4, t4', fun rest=>(e1 _).trans ((ex_seq e2).trans ((ex_seq e3).trans ((ex_seq e4).trans (ex_seq e5)))), (k5 T.t5 (by simp)).trans ((k4 T.t5 (by simp)).trans c5), by omega⟩
end
end Go.Abs.Sym
end
section
namespace Go.Abs.Sym
open Go.Abs.T
open Go.Proofs
section
variable {X:Ctx}
def DpI (m0:Nat) (r:Nat) (s:St):Prop:=∃ fr m t i Mu nb ov, s=⟨fr, [], ⟨up .e m, t, .lf⟩, .no, none, t5⟩∧i+r=6∧m0<m∧1≤m0∧fr.get t9=some (.ptr (up .e m0) 0)∧fr.get t5=some (.bool true)∧fr.get t10=some (.int .i64 (.ofNat (i+1))) ∧
 t.get (up .e m0)=some (.cells [.str (sN 1), ov, .nils, .nils] false)∧GrowF 2 t m Mu 6 nb ov (dRows i)∧m0∈Mu∧(∀ x∈Mu, x<m)∧(0<i→nb≠m0)
set_option maxRecDepth 100000 in
theorem st_u8 (h:H) (p:Nat) (hp:p<256):stepA h (.conv (.int .u8)) [.int .i64 (.ofNat p)]=.val (.int .u8 (.ofNat p)) h:=by
 have:∀ p<256, wrapA .u8 (.ofNat p)=.ofNat p:=by decide
 have e:stepA h (.conv (.int .u8)) [.int .i64 (.ofNat p)]=.val (.int .u8 (wrapA .u8 (.ofNat p))) h:=rfl
 rw [e, this p hp]
theorem cv_by (n:Nat) (hn:n<256) (nx:Pth) (T:Tr AB) (b:Nat) (sp:Bool) (c:Option Nat):convA ⟨nx, T.put (up .e b) (.cells [.int .u8 (.ofNat n)] sp), .lf⟩ .ofBytes (.slc (up .e b) 0 1 1 c)=some (.str [n], ⟨nx, T.put (up .e b) (.cells [.int .u8 (.ofNat n)] sp), .lf⟩):=by
 have e:=cellsAt_t (nx:=nx) (t:=T.put (up .e b) (.cells [.int .u8 (.ofNat n)] sp)) (id:=up .e b) (by rw [gp, if_pos rfl])
 have h1:Nat.beq 1 1=true:=rfl
 have h2:takeD [AV.int .u8 (.ofNat n)] 0 1=some [.int .u8 (.ofNat n)]:=rfl
 have l0:leI 0 (.ofNat n)=true:=rfl
 have l1:ltI (.ofNat n) 256=true:=(ltI_dec n 256).trans (decide_eq_true hn)
 simp only [convA, e, h1, h2, cond_true, convA.go, l0, l1, Bool.and_self, Option.map_some]
 rfl
theorem set5 (a b c d e f w:AV):setAt [a, b, c, d, e, f] 5 [w]=some [a, b, c, d, e, w]:=rfl
theorem tk6 (a b c d e f:AV):takeD [a, b, c, d, e, f] 0 6=some [a, b, c, d, e, f]:=rfl
theorem nz1 (m c:Nat) (h:0<c):(m=m+c)=False:=eq_false (by omega)
theorem dp_round {f:Nat} {m0:Nat} (r:Nat) (s:St) (h:DpI m0 r s) :
  Stp (DpI m0) (fun o=>∃ s, o=.exit 0 s∧DpI m0 0 s) r (execA X (callN X f) c5_l0 s):=by
 obtain ⟨fr, m, t, i, Mu, nb, ov, rfl, hi, hm, hm1, g9, g5, g10, ad, hG, hM, hb, hnb⟩:=h
 have hle:leI (.ofNat (i+1)) (.ofNat 6)=decide (i+1≤6):=by
  match i with
  | 0 | 1 | 2 | 3 | 4 | 5 | 6=>rfl
  | i+7=>omega
 cases r with
 | zero =>
  have hkn:(i+1≤6)=False:=eq_false (by omega)
  simp +decide only [c5_l0,SF,g10,hle,hkn,stp_e]
  refine ⟨_, rfl, _, m, t, i, Mu, nb, ov, rfl, hi, hm, hm1, ?_, ?_, ?_, ad, hG, hM, hb, hnb⟩
  ·simp +decide only [gp,g9,if_false]
  ·simp +decide only [gp,g5,if_false]
  ·simp +decide only [gp,g10,if_false]
 | succ r =>
  have hkn:(i+1≤6)=True:=eq_true (by omega)
  have hw1:=wr_add 48 (i+1) (by omega)
  have hw2:=wr_add 49 (i+1) (by omega)
  have hw3:=wr_add (i+1) 1 (by omega)
  have hu1:=fun h=>st_u8 h (48+(i+1)) (by omega)
  have hu2:=fun h=>st_u8 h (49+(i+1)) (by omega)
  have hc1:=cv_by (48+(i+1)) (by omega)
  have hc2:=cv_by (49+(i+1)) (by omega)
  have z1:=nz1 m 1 (by decide)
  have z2:=nz1 m 2 (by decide)
  have z3:=nz1 m 3 (by decide)
  have z4:=nz1 m 4 (by decide)
  have hbg:Nat.blt 2 bigBytes=true:=rfl
  have n0:=nz hm
  have n00:=nz0 hm
  by_cases hi5:i<5
  ·have hlt:ltI (.ofNat (i+1)) (.ofNat 6)=true:=by rw [ltI_dec]; exact decide_eq_true (by omega)
   have hdr:dRows (i+1)=dRows i++[dSh (i+1)]:=by simp only [dRows, List.range_succ, List.map_append, List.map_cons, List.map_nil]
   have hdl:(dRows i).length=i:=by simp [dRows]
   simp +decide only [c5_l0,SF,Nat.reduceAdd,Nat.reduceEqDiff,g10,g9,ad,hle,hkn,hlt,hw1,hw2,hu1,hu2,n0,n00,hc1,hc2,hbg,z1,z2]
   generalize hT:Tr.put _ (up .e (m+4)) _=T
   have Tk:∀ x, x<m→T.get (up .e x)=t.get (up .e x):=fun x hx=>by
    have y0:=nz0 hx
    have y1:=nz hx
    rw [← hT]
    simp only [gp, up_inj, y0, y1, if_false]
   have Tr4:T.get (up .e (m+4))=some (.cells [.str [115, 48+(i+1)], .nils, .nils, .nils, .nils, .slc (up .e (m+3)) 0 1 3 (some 1)] false):=by
    rw [← hT, gp, if_pos rfl]
   have Ts3:T.get (up .e (m+3))=some (.cells [.str [100], .str [115, 49+(i+1)], .nils] false):=by
    rw [← hT]
    simp +decide only [gp,up_inj,Nat.add_left_cancel_iff,if_true,if_false]
   have hG1:GrowF 2 T (m+5) Mu 6 nb ov (dRows i):=hG.step (by omega) (fun x hx _=>Tk x hx) (fun _ hlt=>Tk nb hlt) (fun i hi=>.inl hi) id
   have e49:49+(i+1)=48+(i+1+1):=by omega
   have hrow:FzL 2 T (m+5) Mu [.str [115, 48+(i+1)], .nils, .nils, .nils, .nils, .slc (up .e (m+3)) 0 1 3 (some 1)] (dSh (i+1)):=by
    rw [dSh, if_pos (by omega)]
    refine ⟨Fz.of rfl rfl, Fz.of rfl rfl, Fz.of rfl rfl, Fz.of rfl rfl, Fz.of rfl rfl, (Fz.slc (k:=0) Ts3 (by omega) (fun h=>by have:=hb _ h; omega) rfl ?_).le (by decide), trivial⟩
    rw [e49]
    exact FzL.of rfl rfl
   generalize hA:appendA _ 6 136 _ _=A
   obtain ⟨t2, hA2, d1, d2⟩:=hG1.append (row:=[.str [115, 48+(i+1)], .nils, .nils, .nils, .nils, .slc (up .e (m+3)) 0 1 3 (some 1)]) (ra:=dSh (i+1)) (x:=m+4) (sp:=false) hA Tr4 hrow rfl (by decide) (by omega) (by omega)
   subst hA2
   have qd:t2.get (up .e m0)=some (.cells [.str (sN 1), ov, .nils, .nils] false):=by
    rw [d1 m0 (by omega) (fun h e=>hnb (by omega) e.symm), Tk m0 hm]
    exact ad
   have hw3':=hw3
   simp +decide only [SF,Nat.reduceAdd,g10,g9,qd,hw3,stp_n]
   refine ⟨r, by omega, _, m+6, _, i+1, (m+5)::Mu, m+5, _, rfl, by omega, by omega, hm1, ?_, ?_, ?_, by rw [gp, if_pos rfl], ?_, List.mem_cons_of_mem _ hM, ?_, fun _=>by omega⟩
   ·simp +decide only [gp,g9,if_false]
   ·simp +decide only [gp,g5,if_false]
   ·simp +decide only [gp, if_true, reduceIte]
   ·rw [hdr]
    exact d2.step (Nat.le_refl _) ((Agr.refl t2 _ _).put (.inl (List.mem_cons_of_mem _ hM)) _) (fun _ _=>by rw [gp, if_neg (fun e=>by rw [up_inj] at e; omega)]) (fun i hi=>.inl hi) id
   ·intro x hx
    rcases List.mem_cons.1 hx with rfl | hx
    ·omega
    ·have:=hb x hx
     omega
  ·have hlt:ltI (.ofNat (i+1)) (.ofNat 6)=false:=by rw [ltI_dec]; exact decide_eq_false (by omega)
   have hdr:dRows (i+1)=dRows i++[dSh (i+1)]:=by simp only [dRows, List.range_succ, List.map_append, List.map_cons, List.map_nil]
   have hdl:(dRows i).length=i:=by simp [dRows]
   simp +decide only [c5_l0,SF,Nat.reduceAdd,g10,g9,ad,hle,hkn,hlt,hw1,hu1,n0,n00,hc1,hbg]
   generalize hT:Tr.put _ (up .e (m+2)) _=T
   have Tk:∀ x, x<m→T.get (up .e x)=t.get (up .e x):=fun x hx=>by
    have y0:=nz0 hx
    have y1:=nz hx
    rw [← hT]
    simp only [gp, up_inj, y0, y1, if_false]
   have Tr4:T.get (up .e (m+2))=some (.cells [.str [115, 48+(i+1)], .nils, .nils, .nils, .nils, .nils] false):=by
    rw [← hT, gp, if_pos rfl]
   have hG1:GrowF 2 T (m+3) Mu 6 nb ov (dRows i):=hG.step (by omega) (fun x hx _=>Tk x hx) (fun _ hlt=>Tk nb hlt) (fun i hi=>.inl hi) id
   have hrow:FzL 2 T (m+3) Mu [.str [115, 48+(i+1)], .nils, .nils, .nils, .nils, .nils] (dSh (i+1)):=by
    rw [dSh, if_neg (by omega)]
    exact FzL.of rfl rfl
   generalize hA:appendA _ 6 136 _ _=A
   obtain ⟨t2, hA2, d1, d2⟩:=hG1.append (row:=[.str [115, 48+(i+1)], .nils, .nils, .nils, .nils, .nils]) (ra:=dSh (i+1)) (x:=m+2) (sp:=false) hA Tr4 hrow rfl (by decide) (by omega) (by omega)
   subst hA2
   have qd:t2.get (up .e m0)=some (.cells [.str (sN 1), ov, .nils, .nils] false):=by
    rw [d1 m0 (by omega) (fun h e=>hnb (by omega) e.symm), Tk m0 hm]
    exact ad
   have hw3':=hw3
   simp +decide only [SF,Nat.reduceAdd,g10,g9,qd,hw3,stp_n]
   refine ⟨r, by omega, _, m+4, _, i+1, (m+3)::Mu, m+3, _, rfl, by omega, by omega, hm1, ?_, ?_, ?_, by rw [gp, if_pos rfl], ?_, List.mem_cons_of_mem _ hM, ?_, fun _=>by omega⟩
   ·simp +decide only [gp,g9,if_false]
   ·simp +decide only [gp,g5,if_false]
   ·simp +decide only [gp, if_true, reduceIte]
   ·rw [hdr]
    exact d2.step (Nat.le_refl _) ((Agr.refl t2 _ _).put (.inl (List.mem_cons_of_mem _ hM)) _) (fun _ _=>by rw [gp, if_neg (fun e=>by rw [up_inj] at e; omega)]) (fun i hi=>.inl hi) id
   ·intro x hx
    rcases List.mem_cons.1 hx with rfl | hx
    ·omega
    ·have:=hb x hx
     omega
end
end Go.Abs.Sym
end
section
namespace Go.Abs.Sym
open Go.Abs.T
open Go.Proofs
theorem dRows_slV:slV (fun k=>dSh (k+1)) ⟨0, List.range 6⟩=.rslc 6 (dRows 6).flatten:=rfl
theorem dp_fz {t:Tr AB} {m nb:Nat} {Mu:List Nat} {ov:AV} (h:GrowF 2 t m Mu 6 nb ov (dRows 6)):Fz 3 t m [] ov (.rslc 6 (dRows 6).flatten):=by
 rw [← dRows_slV]
 exact GrowF.fz (f:=fun k=>dSh (k+1)) (l:=List.range 6) h (fun _ h=>by cases h) (fun _ h=>by cases h)
section
variable {T0 T1:TypD} {E:CkE}
theorem q789_run {fr:Tr AV} {m:Nat} {t:Tr AB} (hm1:1≤m) (g5:fr.get t5=some (.bool true)) :
  ∃ fr' m' t' ov, (∀ rest, execA (KL T0 T1 E) (callN (KL T0 T1 E) 49) (.seq c5_q7 (.seq c5_q8 (.seq c5_q9 (.seq c5_q10 rest)))) ⟨fr, [], ⟨up .e m, t, .lf⟩, .no, none, t5⟩=execA (KL T0 T1 E) (callN (KL T0 T1 E) 49) rest ⟨fr', [], ⟨up .e m', t', .lf⟩, .no, none, t5⟩)∧fr'.get t5=some (.bool true) ∧
   fr'.get t9=some (.ptr (up .e m) 0)∧fr'.get t12=some (.ptr (up .e (m' - 1)) 0)∧t'.get (up .e m)=some (.cells [.str (sN 1), ov, .nils, .nils] false)∧t'.get (up .e (m' - 1))=some (.cells [.str (sN 2), ov, .nils, .nils] false)∧Fz 3 t' m' [] ov (.rslc 6 (dRows 6).flatten):=by
 have hfu:(KL T0 T1 E).fuel=100000:=rfl
 have e7:∃ fr1 t1, execA (KL T0 T1 E) (callN (KL T0 T1 E) 49) c5_q7 ⟨fr, [], ⟨up .e m, t, .lf⟩, .no, none, t5⟩=.nrm ⟨fr1, [], ⟨up .e (m+1), t1, .lf⟩, .no, none, t5⟩∧fr1.get t9=some (.ptr (up .e m) 0)∧fr1.get t5=some (.bool true)∧t1.get (up .e m)=some (.cells [.str (sN 1), .nils, .nils, .nils] false):=by
  simp +decide only [c5_q7,SF,Nat.reduceAdd]
  refine ⟨_, _, rfl, ?_, ?_, ?_⟩
  ·simp +decide only [gp,if_true,if_false]
  ·simp +decide only [gp,g5,if_false]
  ·rw [gp, if_pos rfl]
   rfl
 obtain ⟨fr1, t1, e7, p9, p5, a1⟩:=e7
 obtain ⟨st, e8, fr2, m2, t2, i, Mu, nb, ov, rfl, hi, hm2, _, q9, q5, _, a2, hG, hM, hb, _⟩:=iter_rule (DpI m) (fun o=>∃ st, o=.exit 0 st∧DpI m 0 st) (fun r st h=>dp_round (X:=KL T0 T1 E) (f:=49) r st h) 100000 6 ⟨fr1.put t10 i1, [], ⟨up .e (m+1), t1, .lf⟩, .no, none, t5⟩
  ⟨_, m+1, t1, 0, [m], 0, .nils, rfl, rfl, by omega, hm1, by simp +decide only [gp,p9,if_false], by simp +decide only [gp,p5,if_false], by rw [gp, if_pos rfl], a1, GrowF.nil, List.mem_singleton.2 rfl, fun x hx=>by rw [List.mem_singleton.1 hx]; omega, fun h=>absurd h (by decide)⟩ (by decide)
 have hi6:i=6:=by omega
 subst hi6
 have e8':execA (KL T0 T1 E) (callN (KL T0 T1 E) 49) c5_q8 ⟨fr1, [], ⟨up .e (m+1), t1, .lf⟩, .no, none, t5⟩=.nrm ⟨fr2, [], ⟨up .e m2, t2, .lf⟩, .no, none, t5⟩:=by
  simp +decide only [c5_q8,SF,hfu,e8]
 have hz:=dp_fz hG
 have ho:=hz.1
 have e9:∃ fr3 t3, execA (KL T0 T1 E) (callN (KL T0 T1 E) 49) c5_q9 ⟨fr2, [], ⟨up .e m2, t2, .lf⟩, .no, none, t5⟩=.nrm ⟨fr3, [], ⟨up .e (m2+1), t3, .lf⟩, .no, none, t5⟩∧fr3.get T.t9=some (.ptr (up .e m) 0)∧fr3.get T.t5=some (.bool true)∧fr3.get T.t12=some (.ptr (up .e m2) 0)∧t3.get (up .e m2)=some (.cells [.str (sN 1), ov, .nils, .nils] false)∧∀ x, x<m2→t3.get (up .e x)=t2.get (up .e x):=by
  simp +decide only [c5_q9,SF,Nat.reduceAdd,q9,a2,ho]
  refine ⟨_, _, rfl, ?_, ?_, ?_, ?_, fun x hx => ?_⟩
  ·simp +decide only [gp,q9,if_false]
  ·simp +decide only [gp,q5,if_false]
  ·simp +decide only [gp,if_true,if_false]
  ·rw [gp, if_pos rfl]
  ·have y:=nz0 hx
   simp only [gp, up_inj, y, if_false]
 obtain ⟨fr3, t3, e9, r9, r5, r12, a3, k3⟩:=e9
 have e10:∃ fr4 t4, execA (KL T0 T1 E) (callN (KL T0 T1 E) 49) c5_q10 ⟨fr3, [], ⟨up .e (m2+1), t3, .lf⟩, .no, none, t5⟩=.nrm ⟨fr4, [], ⟨up .e (m2+1), t4, .lf⟩, .no, none, t5⟩∧fr4.get T.t9=some (.ptr (up .e m) 0)∧fr4.get T.t5=some (.bool true)∧fr4.get T.t12=some (.ptr (up .e m2) 0)∧t4.get (up .e m2)=some (.cells [.str (sN 2), ov, .nils, .nils] false)∧∀ x, x<m2→t4.get (up .e x)=t3.get (up .e x):=by
  simp +decide only [c5_q10,SF,r12,a3]
  refine ⟨_, _, rfl, ?_, ?_, ?_, ?_, fun x hx => ?_⟩
  ·simp +decide only [gp,r9,if_false]
  ·simp +decide only [gp,r5,if_false]
  ·simp +decide only [gp,r12,if_false]
  ·rw [gp, if_pos rfl]
   rfl
  ·have y:=nz0 hx
   simp only [gp, up_inj, y, if_false]
 obtain ⟨fr4, t4, e10, s9, s5, s12, a4, k4⟩:=e10
 refine ⟨fr4, m2+1, t4, ov, fun rest=>(ex_seq e7).trans ((ex_seq e8').trans ((ex_seq e9).trans (ex_seq e10))), s5, s9, s12, ((k4 m (by omega)).trans (k3 m (by omega))).trans a2, a4, ?_⟩
 exact hz.step (by omega) (fun x hx _=>(k4 x hx).trans (k3 x hx)) (fun _ h=>by cases h)
theorem q11_run {fr:Tr AV} {m b c:Nat} {t:Tr AB} {ov:AV} (g5:fr.get t5=some (.bool true)) (g9:fr.get t9=some (.ptr (up .e b) 0)) (g12:fr.get t12=some (.ptr (up .e c) 0)) (ab:t.get (up .e b)=some (.cells [.str (sN 1), ov, .nils, .nils] false)) (ac:t.get (up .e c)=some (.cells [.str (sN 2), ov, .nils, .nils] false)) (hz:Fz 3 t m [] ov (.rslc 6 (dRows 6).flatten)) :
  ∃ fr', execA (KL T0 T1 E) (callN (KL T0 T1 E) 49) c5_q11 ⟨fr, [], ⟨up .e m, t, .lf⟩, .no, none, t5⟩=.nrm ⟨fr', [], ⟨up .e m, t, .lf⟩, .no, none, t5⟩∧fr'.get t4=some (.bool true):=by
 have f1:FzL 5 t m [] [.str (sN 1), ov, .nils, .nils] [.str (sN 1), .rslc 6 (dRows 6).flatten, .nils, .nils]:=⟨Fz.of rfl rfl, hz.le (by decide), Fz.of rfl rfl, Fz.of rfl rfl, trivial⟩
 have f2:FzL 5 t m [] [.str (sN 2), ov, .nils, .nils] [.str (sN 2), .rslc 6 (dRows 6).flatten, .nils, .nils]:=⟨Fz.of rfl rfl, hz.le (by decide), Fz.of rfl rfl, Fz.of rfl rfl, trivial⟩
 have h8:∀ nx, callN (KL T0 T1 E) 49 (.fn t8 [] []) [.agg [.str (sN 1), ov, .nils, .nils]] ⟨nx, t, .lf⟩=.ret (.int .i64 (.ofNat 25)) ⟨nx, t, .lf⟩:=fun nx=>call_sum (n:=48) (kl_d8 (live_deep f1))
 have h8':∀ nx, callN (KL T0 T1 E) 49 (.fn t8 [] []) [.agg [.str (sN 2), ov, .nils, .nils]] ⟨nx, t, .lf⟩=.ret i0 ⟨nx, t, .lf⟩:=fun nx=>call_sum (n:=48) (kl_t8 (live_deep f2))
 have h13:∀ nx, callN (KL T0 T1 E) 49 (.fn t13 [] []) [.agg [.str (sN 2), ov, .nils, .nils]] ⟨nx, t, .lf⟩=.ret (.int .i64 (.ofNat 5)) ⟨nx, t, .lf⟩:=fun nx=>call_sum (n:=48) (kl_t13 (live_deep f2))
 have n1:eqI (.ofNat 25) (.ofNat 25)=true:=rfl
 have n0:eqI (.ofNat 0) (.ofNat 0)=true:=rfl
 have n5:eqI (.ofNat 5) (.ofNat 5)=true:=rfl
 have tk4:∀ a b c d:AV, takeD [a, b, c, d] 0 4=some [a, b, c, d]:=fun _ _ _ _=>rfl
 simp +decide only [c5_q11,SF,g5,g9,g12,ab,ac,h8,h8',h13,n1,n0,n5,tk4]
 refine ⟨_, rfl, ?_⟩
 simp +decide only [gp, if_true, reduceIte]
theorem law5 {d:DesD} {va:Bool} {cnt:Nat} {Ls Ls':Sl (Sl Int)} {p q:Nat} (hp:p<256) (hq:q<256) (hsl:sliceA (.slc 1) false true false [slV liC Ls, .int .i64 (.ofNat (min Ls.l.length 8))]=some (slV liC Ls')) (hmade:∀ h, K4.sums t7 [slV liC Ls'] h=some (.agg (desC d))) (ht:d.types.l.length≤1000) (hv:d.variants.l.length≤1000) (hm:∀ s∈d.sheets.l, Mod s)
  (h1:1≤cnt) (h3:cnt≤3) (hl:d.sheets.l.length=cnt) (hva:slV bsC (cpL d.variants)=slV bsC (vaL va)) (hnm:∀ k, k<cnt→∃ s, d.sheets.l[k]?=some s∧s.nm=sheetN.getD k []) (hE:E=lpE d va (p % cnt) (q % (p % cnt+1))) (htop:E.top=mainB) :
  Ret (callN (KL T0 T1 E) 50 (.fn t5 [] []) [slV liC Ls, .agg [u8V p, u8V q]] h0) (fun v _=>v=.bool true):=by
 have hs:∀ xs, (KL T0 T1 E).sums t5 xs h0=none:=fun _=>rfl
 have hF:(KL T0 T1 E).funcs.get t5=some c5:=rfl
 refine begin2 (hs _) hF fun fr t ga gb => ?_
 obtain ⟨fr1, m1, t1, e1, g5, hm1⟩:=l_head (T0:=T0) (T1:=T1) hp hq hsl hmade ht hv hm h1 h3 hl hva hnm hE htop ga gb (t:=t)
 obtain ⟨fr2, m2, t2, ov, e2, p5, p9, p12, ab, ac, hz⟩:=q789_run (T0:=T0) (T1:=T1) (E:=E) (t:=t1) hm1 g5
 obtain ⟨fr3, e3, g4⟩:=q11_run (T0:=T0) (T1:=T1) (E:=E) p5 p9 p12 ab ac hz
 have ex:execA (KL T0 T1 E) (callN (KL T0 T1 E) 49) c5.body ⟨fr, [], ⟨up .e 0, t, .lf⟩, .no, none, t5⟩=execA (KL T0 T1 E) (callN (KL T0 T1 E) 49) .ret ⟨fr3, [], ⟨up .e m2, t2, .lf⟩, .no, none, t5⟩:=by
  rw [c5]
  exact (e1 _).trans ((e2 _).trans (ex_seq e3))
 rw [ex]
 simp +decide only [SM,c5,g4]
end
end Go.Abs.Sym
end
end
