/- The reference's pads: all rows. -/
import Derived.Test.YtipcmdllhllolaaGreatDoorM48
import Derived.Test.YtipcmdllhllolaaGreatDoorM45
import Derived.Test.YtipcmdllhllolaaGreatDoorM46
import Derived.Test.YtipcmdllhllolaaGreatDoorM39
import Derived.Test.YtipcmdllhllolaaGreatDoorM47
import Derived.KernelRfl
import Derived.Test.YtipcmdllhllolaaGreatDoorM33
noncomputable section
section
namespace Go.Abs.T
theorem rp_at {m k b:Nat} (h:([0,1,2,3,4].all fun s=>[0,1,2,3].all fun d=>rpB m k b s d)=true) {s d:Nat} (hs:s<5) (hd:d<4):rpB m k b s d=true :=
 List.all_eq_true.1 (List.all_eq_true.1 h s (by simp only [List.mem_cons,List.not_mem_nil,or_false]; omega)) d (by simp only [List.mem_cons,List.not_mem_nil,or_false]; omega)
theorem rpAll (m k b s d:Nat) (h2:2≤m) (h6:m≤6) (hk:k<m) (hb:b<2) (hs:s<5) (hd:d<4):rpB m k b s d=true:=by
 refine rp_at ?_ hs hd
 match m, h2, h6, k, hk, b, hb with
 | 2, _, _, 0, _, 0, _=>exact rp200
 | 3, _, _, 0, _, 0, _=>exact rp300
 | 4, _, _, 0, _, 0, _=>exact rp400
 | 5, _, _, 0, _, 0, _=>exact rp500
 | 6, _, _, 0, _, 0, _=>exact rp600
 | 2, _, _, 0, _, 1, _=>exact rp201
 | 3, _, _, 0, _, 1, _=>exact rp301
 | 4, _, _, 0, _, 1, _=>exact rp401
 | 5, _, _, 0, _, 1, _=>exact rp501
 | 6, _, _, 0, _, 1, _=>exact rp601
 | 2, _, _, 1, _, 0, _=>exact rp210
 | 3, _, _, 1, _, 0, _=>exact rp310
 | 4, _, _, 1, _, 0, _=>exact rp410
 | 5, _, _, 1, _, 0, _=>exact rp510
 | 6, _, _, 1, _, 0, _=>exact rp610
 | 2, _, _, 1, _, 1, _=>exact rp211
 | 3, _, _, 1, _, 1, _=>exact rp311
 | 4, _, _, 1, _, 1, _=>exact rp411
 | 5, _, _, 1, _, 1, _=>exact rp511
 | 6, _, _, 1, _, 1, _=>exact rp611
 | 3, _, _, 2, _, 0, _=>exact rp320
 | 4, _, _, 2, _, 0, _=>exact rp420
 | 5, _, _, 2, _, 0, _=>exact rp520
 | 6, _, _, 2, _, 0, _=>exact rp620
 | 3, _, _, 2, _, 1, _=>exact rp321
 | 4, _, _, 2, _, 1, _=>exact rp421
 | 5, _, _, 2, _, 1, _=>exact rp521
 | 6, _, _, 2, _, 1, _=>exact rp621
 | 4, _, _, 3, _, 0, _=>exact rp430
 | 5, _, _, 3, _, 0, _=>exact rp530
 | 6, _, _, 3, _, 0, _=>exact rp630
 | 4, _, _, 3, _, 1, _=>exact rp431
 | 5, _, _, 3, _, 1, _=>exact rp531
 | 6, _, _, 3, _, 1, _=>exact rp631
 | 5, _, _, 4, _, 0, _=>exact rp540
 | 6, _, _, 4, _, 0, _=>exact rp640
 | 5, _, _, 4, _, 1, _=>exact rp541
 | 6, _, _, 4, _, 1, _=>exact rp641
 | 6, _, _, 5, _, 0, _=>exact rp650
 | 6, _, _, 5, _, 1, _=>exact rp651
end Go.Abs.T
end
section
namespace Go.Abs.T
open Go.Abs.Sym
open Go.Proofs
theorem gE_all (k b:Nat) (hk:k<6) (hb:b<2):(tabGe (30*k) (10*b)).all (rowB XG 100)=true:=by
 match k, hk, b, hb with
 | 0, _, 0, _=>exact gE00
 | 0, _, 1, _=>exact gE01
 | 1, _, 0, _=>exact gE10
 | 1, _, 1, _=>exact gE11
 | 2, _, 0, _=>exact gE20
 | 2, _, 1, _=>exact gE21
 | 3, _, 0, _=>exact gE30
 | 3, _, 1, _=>exact gE31
 | 4, _, 0, _=>exact gE40
 | 4, _, 1, _=>exact gE41
 | 5, _, 0, _=>exact gE50
 | 5, _, 1, _=>exact gE51
theorem gM_all (k b:Nat) (hk:k<6) (hb:b<2):(tabGm (30*k) (10*b)).all (rowB (XGe (tabGe (30*k) (10*b))) 100)=true:=by
 match k, hk, b, hb with
 | 0, _, 0, _=>exact gM00
 | 0, _, 1, _=>exact gM01
 | 1, _, 0, _=>exact gM10
 | 1, _, 1, _=>exact gM11
 | 2, _, 0, _=>exact gM20
 | 2, _, 1, _=>exact gM21
 | 3, _, 0, _=>exact gM30
 | 3, _, 1, _=>exact gM31
 | 4, _, 0, _=>exact gM40
 | 4, _, 1, _=>exact gM41
 | 5, _, 0, _=>exact gM50
 | 5, _, 1, _=>exact gM51
theorem gP_all (k b:Nat) (hk:k<6) (hb:b<2):(tabGp k b).all (rowB (XGm (tabGe (30*k) (10*b)) (tabGm (30*k) (10*b))) 100)=true:=by
 match k, hk, b, hb with
 | 0, _, 0, _=>exact gP00
 | 0, _, 1, _=>exact gP01
 | 1, _, 0, _=>exact gP10
 | 1, _, 1, _=>exact gP11
 | 2, _, 0, _=>exact gP20
 | 2, _, 1, _=>exact gP21
 | 3, _, 0, _=>exact gP30
 | 3, _, 1, _=>exact gP31
 | 4, _, 0, _=>exact gP40
 | 4, _, 1, _=>exact gP41
 | 5, _, 0, _=>exact gP50
 | 5, _, 1, _=>exact gP51
theorem okPd [envI:Env] (k b:Nat) (hk:k<6) (hb:b<2):XOK Tryz.prog (XPd k b) :=
 ⟨mixed, funcs_ok, exts_ok, tabSums_ok (okGe (.all (gE_all k b hk hb))) rfl (Rows.all (gM_all k b hk hb)).ok (tabSums_ok (okGm (.all (gE_all k b hk hb)) (.all (gM_all k b hk hb))) rfl (Rows.all (gP_all k b hk hb)).ok (tabSums_ok ok0 rfl rowsG.ok noSums_ok))⟩
end Go.Abs.T
end
section
namespace Go.Abs.Sym
open Go.Abs.T
open Go.Proofs
def padW (nm:Bs) (gs:List GateD) (cs:List (Nat×Nat×Nat)) (i:Nat):AV :=
 if i=200 then .str nm else if i=201 then slV gateC ⟨0, gs⟩ else padV cs i
theorem frz_padW (nm:Bs) (gs:List GateD) (cs:List (Nat×Nat×Nat)) (i:Nat):frz (padW nm gs cs i)=true:=by
 unfold padW
 split
 ·rfl
 ·split
  ·exact frz_slV frz_gate _
  ·exact frz_padV cs i
theorem one_padW (nm:Bs) (gs:List GateD) (cs:List (Nat×Nat×Nat)) (i:Nat):(padW nm gs cs i).one=true:=by
 unfold padW
 split
 ·rfl
 ·split
  ·exact on_slV _ _
  ·exact one_padV cs i
def kinW (nm:Bs) (gs:List GateD) (cs:List (Nat×Nat×Nat)):Toks:=mkTok (padW nm gs cs) (frz_padW nm gs cs) (one_padW nm gs cs)
theorem padW_at {nm:Bs} {gs:List GateD} {cs:List (Nat×Nat×Nat)} {i:Nat} (h:i<200):tokU (padW nm gs cs) i=tokU (padV cs) i:=by
 rw [tokU_at _ (by omega), tokU_at _ (by omega), padW, if_neg (by omega), if_neg (by omega)]
end Go.Abs.Sym
end
section
namespace Go.Abs.Sym
open Go.Abs.T
open Go.Proofs
theorem padsOf_append:∀ (a b:List (Nat×Nat×Nat)) (j:Nat), padsOf j (a++b)=padsOf j a++padsOf (j+a.length) b
 | [], b, j=>rfl
 | c::a, b, j=>by
  simp only [List.cons_append, padsOf, padsOf_append a b (j+1), List.length_cons]
  rw [show j+1+a.length=j+(a.length+1) by omega]
theorem padToks_W {nm:Bs} {gs:List GateD} {cs:List (Nat×Nat×Nat)}:∀ (n k:Nat), k+n≤10→substs (kinW nm gs cs) (padToks k n)=substs (kinT cs) (padToks k n)
 | 0, k, _=>rfl
 | n + 1, k, h=>by
  have w0:=padW_at (nm:=nm) (gs:=gs) (cs:=cs) (i:=10*k) (by omega)
  have w1:=padW_at (nm:=nm) (gs:=gs) (cs:=cs) (i:=10*k+1) (by omega)
  have w2:=padW_at (nm:=nm) (gs:=gs) (cs:=cs) (i:=10*k+2) (by omega)
  have w3:=padW_at (nm:=nm) (gs:=gs) (cs:=cs) (i:=10*k+3) (by omega)
  have w4:=padW_at (nm:=nm) (gs:=gs) (cs:=cs) (i:=10*k+4) (by omega)
  have w5:=padW_at (nm:=nm) (gs:=gs) (cs:=cs) (i:=10*k+5) (by omega)
  have ih:=padToks_W (nm:=nm) (gs:=gs) (cs:=cs) n (k+1) (by omega)
  have hp:substs (kinW nm gs cs) (padTokC k)=substs (kinT cs) (padTokC k):=by
   simp only [padTokC, substs, AV.subst, kinW, kinT, mkTok, w0, w1, w2, w3, w4, w5]
  simp only [padToks, substs_append, ih, hp]
theorem noTok_edges {l:List Ed}:noToks (l.flatMap edC)=true:=by
 induction l with
 | nil=>rfl
 | cons a l ih =>
  simp only [List.flatMap_cons, edC, List.cons_append, List.nil_append, noToks, noTok, ih, Bool.and_self]
theorem noTok_pad (p:PadD):noToks (padC p)=true:=by
 have h:noTok (slV edC p.es)=true:=by
  unfold slV
  cases hl:p.es.l with
  | nil=>dsimp only; split<;>rfl
  | cons a l =>
   show noToks ((a::l).flatMap edC)=true
   exact noTok_edges
 simp only [padC, noToks, noTok, h, Bool.and_self]
theorem tyPad_subst {nm:Bs} {cs:List (Nat×Nat×Nat)} {gs:List GateD} {k:Nat} {c:Nat×Nat×Nat} (hc:cs[k]?=some c) (h6:cs.length≤6):(tyPad cs.length k c.1 c.2.1 c.2.2).subst (kinW nm gs cs)=.agg (tyC (tyOf nm cs gs)):=by
 have hk:k<cs.length:=(List.getElem?_eq_some_iff.1 hc).1
 have e:cs=cs.take k++(c::cs.drop (k+1)):=by
  have h1:=(List.getElem?_eq_some_iff.1 hc).2
  rw [← h1, ← List.drop_eq_getElem_cons hk, List.take_append_drop]
 have hl:(cs.take k).length=k:=by rw [List.length_take]; omega
 have hd:(cs.drop (k+1)).length=cs.length - k - 1:=by rw [List.length_drop]; omega
 have p1:substs (kinT cs) (padToks 0 k)=(padsOf 0 (cs.take k)).flatMap padC:=by
  have:=padToks_subst (all:=cs) (by omega) (cs.take k) 0 (fun i c' hi=>by
   rw [Nat.zero_add]
   rw [List.getElem?_take] at hi
   split at hi
   ·exact hi
   ·cases hi)
  rwa [hl] at this
 have p2:substs (kinT cs) (padToks (k+1) (cs.length - k - 1))=(padsOf (k+1) (cs.drop (k+1))).flatMap padC:=by
  have:=padToks_subst (all:=cs) (by omega) (cs.drop (k+1)) (k+1) (fun i c' hi=>by
   rwa [List.getElem?_drop] at hi)
  rwa [hd] at this
 have hp:(padsOf 0 cs).flatMap padC=(padsOf 0 (cs.take k)).flatMap padC++(padC (padOf k c.1 c.2.1 c.2.2)++(padsOf (k+1) (cs.drop (k+1))).flatMap padC):=by
  conv=>lhs; rw [e, padsOf_append, hl, Nat.zero_add]
  simp only [List.flatMap_append, padsOf, List.flatMap_cons]
 have hs:slV padC ⟨1, padsOf 0 cs⟩=.rslc cs.length ((padsOf 0 cs).flatMap padC):=by
  rw [← len_padsOf 0 cs]
  cases hq:padsOf 0 cs with
  | nil =>
   have:=len_padsOf 0 cs
   rw [hq] at this
   simp at this
   omega
  | cons a l=>rfl
 have t0:tokU (padW nm gs cs) 200=.str nm:=by rw [tokU_at _ (by decide)]; rfl
 have t1:tokU (padW nm gs cs) 201=slV gateC ⟨0, gs⟩:=by rw [tokU_at _ (by decide)]; rfl
 simp only [tyPad, AV.subst, substs, substs_append, padToks_W k 0 (by omega), padToks_W (cs.length - k - 1) (k+1) (by omega), p1, p2, substs_frz0 _ _ (noTok_pad _), tyC, tyOf, hs, hp]
 simp only [kinW, mkTok, t0, t1]
end Go.Abs.Sym
end
section
namespace Go.Abs.Sym
open Go.Abs.T
open Go.Proofs
theorem frz_padCs (p:PadD):frzs (padC p)=true:=by simp only [padC, frzs, frz, frz_slV frz_ed, Bool.and_self]
theorem frzs_app:∀ {a b:List AV}, frzs a=true→frzs b=true→frzs (a++b)=true
 | [], _, _, h=>h
 | x::a, b, h, h'=>by
  simp only [frzs, Bool.and_eq_true] at h
  simp only [List.cons_append, frzs, h.1, frzs_app h.2 h', Bool.and_self]
theorem frz_tyPad (m k b s d:Nat):frz (tyPad m k b s d)=true:=by
 simp only [tyPad, frz, frzs, frzs_app (frz_padToks k 0) (frzs_app (frz_padCs _) (frz_padToks _ _)), Bool.and_self]
theorem padA_call {nm:Bs} {gs:List GateD} {cs:List (Nat×Nat×Nat)} (hcs:∀ c∈cs, CodeOK c) (h2:2≤cs.length) (h6:cs.length≤6) {k:Nat} (hk:k<cs.length) {X:Ctx} {ρ:Nm} {h:H} {w:World} (hr:@HR triv Tryz.prog X ρ h w) {avs:Array Value} (hv:@VRs triv w ρ (Lv ρ h) [.agg (tyC (tyOf nm cs gs)), .int .i64 (.ofNat k)] avs.toList):@CallR triv Tryz.prog X ρ h w (callFunc t120.num avs) (.ret i0 h):=by
 obtain ⟨c, hc⟩:∃ c, cs[k]?=some c:=⟨_, List.getElem?_eq_getElem hk⟩
 obtain ⟨c1, c2, c3⟩:=hcs c (List.mem_of_getElem? hc)
 have hb:=rpAll cs.length k c.1 c.2.1 c.2.2 h2 h6 hk c1 c2 c3
 rw [rpB, F.callC_eq] at hb
 obtain ⟨h', hcl⟩:=isV_ret hb
 have hs:=tyPad_subst (nm:=nm) (gs:=gs) hc h6
 exact tok_sum (kinW nm gs cs) (okPd (envI:=(kinW nm gs cs).env) k c.1 (by omega) c1) rfl (d:=0) hcl (by simp only [frzs, frz_tyPad, frz, Bool.and_self]) rfl hr (avs:=avs) (by simp only [substs, hs, AV.subst]; exact hv)
end Go.Abs.Sym
end
section
namespace Go.Abs.T
open Go.Abs.Sym
open Go.Proofs
def padSA (tt:AV):Nat→(Pth→List AV→H→Option AV)→Pth→List AV→H→Option AV
 | 0, more=>more
 | m+1, more=>argSums t120 [tt, .int .i64 (.ofNat m)] i0 (padSA tt m more)
def XCA (tt:AV) (m:Nat):Ctx:={ X0 with sums:=padSA tt m (fun _ _ _=>none) }
noncomputable def chkAB (nm:List Nat) (m g:Nat):Bool:=F.callC (XCA (tyTok nm m (gsOf g)) m) 100 (.fn t80 [] []) [tyTok nm m (gsOf g)] h0 (isV i0)
theorem chkA0:vars.all (fun v=>chkAB [82] v.1 v.2)=true:=by kernel_rfl
theorem chkA1:vars.all (fun v=>chkAB [81] v.1 v.2)=true:=by kernel_rfl
end Go.Abs.T
end
section
namespace Go.Abs.Sym
open Go.Abs.T
open Go.Proofs
section
variable {nm:Bs} {gs:List GateD} {cs:List (Nat×Nat×Nat)} (hcs:∀ c∈cs, CodeOK c) (h2:2≤cs.length) (h6:cs.length≤6) (hg:noTok (slV gateC ⟨0, gs⟩)=true)
include hcs h2 h6 hg in
theorem padSA_ok (X:Ctx):∀ (m:Nat), m≤cs.length→∀ more, @SumsOK (kinT cs).env Tryz.prog X more→@SumsOK (kinT cs).env Tryz.prog X (padSA (tyTok nm cs.length gs) m more)
 | 0, _, more, h=>h
 | m + 1, hm, more, h=>argSums_ok (kinT cs) (by simp only [frzs, frz, frz_tyTok, Bool.and_self]) rfl (fun w ho avs hv=>by
   have hs:=tyTok_subst (nm:=nm) (cs:=cs) (gs:=gs) (fun e=>by rw [e] at h2; exact absurd h2 (by decide)) (by omega) hg
   simp only [substs, hs, AV.subst] at hv
   exact ⟨X0, h0, padA_call hcs h2 h6 (by omega) (HR.empty (envI:=triv) rfl ho) hv⟩) (padSA_ok X m (by omega) more h)
include hcs h2 h6 hg in
theorem okCA:@XOK (kinT cs).env Tryz.prog (XCA (tyTok nm cs.length gs) cs.length) :=
 @XOK.mk (kinT cs).env _ _ mixed funcs_ok (exts_ok (envI:=(kinT cs).env)) (padSA_ok hcs h2 h6 hg _ cs.length (Nat.le_refl _) _ (noSums_ok (envI:=(kinT cs).env)))
end
theorem tyA_call {T:TypD} (hT:CodeT T) {X:Ctx} {ρ:Nm} {h:H} {w:World} (hr:@HR triv Tryz.prog X ρ h w) {avs:Array Value} (hv:@VRs triv w ρ (Lv ρ h) [.agg (tyC T)] avs.toList):@CallR triv Tryz.prog X ρ h w (callFunc t80.num avs) (.ret i0 h):=by
 obtain ⟨nm, cs, gs, rfl, hn, h2, h6, hc, hg⟩:=hT.ex
 obtain ⟨g, hv1, rfl⟩:=vars_of h2 h6 hg
 have hb:chkAB nm cs.length g=true:=by
  simp only [List.mem_cons, List.not_mem_nil, or_false] at hn
  rcases hn with rfl | rfl
  ·exact List.all_eq_true.1 chkA0 _ hv1
  ·exact List.all_eq_true.1 chkA1 _ hv1
 rw [chkAB, F.callC_eq] at hb
 obtain ⟨h', hcl⟩:=isV_ret hb
 have hs:=tyTok_subst (nm:=nm) (cs:=cs) (gs:=gsOf g) (fun e=>by rw [e] at h2; exact absurd h2 (by decide)) (by omega) (gs_no _ hv1)
 exact tok_sum (kinT cs) (okCA hc h2 h6 (gs_no _ hv1)) rfl (d:=0) hcl (by simp only [frzs, frz_tyTok, Bool.and_self]) rfl hr (avs:=avs) (by simp only [substs, hs]; exact hv)
theorem busA_call {X:Ctx} {ρ:Nm} {h:H} {w:World} (hr:@HR triv Tryz.prog X ρ h w) {avs:Array Value} (hv:@VRs triv w ρ (Lv ρ h) [.agg (tyC busT)] avs.toList):@CallR triv Tryz.prog X ρ h w (callFunc t80.num avs) (.ret i0 h):=by
 have hb:=busRowA
 rw [F.callC_eq] at hb
 obtain ⟨h', hc⟩:=isV_ret hb
 exact sum_frozen (envI:=triv) (ok0 (envI:=triv)) rfl (d:=0) hc (by simp only [frzs, frz, frz_ty, Bool.and_self]) rfl hr hv
theorem chkR_ok {T0 T1:TypD} (h0T:CodeT T0) (h1T:CodeT T1) (X:Ctx) {more:Pth→List AV→H→Option AV} (hm:@SumsOK triv Tryz.prog X more):@SumsOK triv Tryz.prog X (chkR T0 T1 more):=by
 intro i args h v hs ρ w avs hr hv
 unfold chkR at hs
 cases hi:Pth.beq i t80 with
 | true =>
  rw [hi] at hs
  rw [Pth.beq_iff.1 hi]
  match args, hs with
  | [a], hs =>
   simp only [cond_true] at hs
   cases hb:AV.beq a (.agg (tyC T0))||AV.beq a (.agg (tyC T1))||AV.beq a (.agg (tyC busT)) with
   | false=>rw [hb] at hs; cases hs
   | true =>
    rw [hb] at hs
    cases hs
    simp only [Bool.or_eq_true] at hb
    rcases hb with (hb | hb) | hb
    ·rw [AV.beq_eq _ _ hb] at hv
     exact tyA_call h0T hr hv
    ·rw [AV.beq_eq _ _ hb] at hv
     exact tyA_call h1T hr hv
    ·rw [AV.beq_eq _ _ hb] at hv
     exact busA_call hr hv
  | [], hs=>cases hs
  | _::_::_, hs=>cases hs
 | false =>
  rw [hi] at hs
  cases hj:Pth.beq i t38 with
  | true=>rw [hj] at hs; cases hs
  | false =>
   rw [hj] at hs
   exact hm i args h v hs ρ w avs hr hv
theorem levRD [Env]:Lev RD:=.over (.over (.over (.over lev0 _ _) _ _) _ _) _ _
theorem levRE {T0 T1:TypD} (h0T:CodeT T0) (h1T:CodeT T1):@Lev triv (RE T0 T1) :=
 @Lev.mk triv _ (@XOK.mk triv _ _ mixed funcs_ok (exts_ok (envI:=triv)) (chkR_ok h0T h1T _ (@Lev.sums triv _ (@levRD triv) _))) rfl (fun X=>chkR_ok h0T h1T X (@Lev.sums triv _ (@levRD triv) X)) (fun _X i args h v h' he ρ w avs=>exts_ok (envI:=triv) i args h v h' he ρ w avs)
theorem levRF {T0 T1:TypD} (h0T:CodeT T0) (h1T:CodeT T1):@Lev triv (RF T0 T1):=@Lev.over triv _ (levRE h0T h1T) _ _
end Go.Abs.Sym
end
section
namespace Go.Abs.Sym
open Go.Abs.T
open Go.Proofs
theorem frz_dTk:shapes.all (fun s=>frz (dTok s))=true:=rfl
section
variable {T0 T1:TypD} {E:CkE} {cnt:Nat} (K:DesK T0 T1 E cnt)
include K
theorem flat_call {X:Ctx} {ρ:Nm} {h:H} {w:World} (hr:@HR triv Tryz.prog X ρ h w) {avs:Array Value} (hv:@VRs triv w ρ (Lv ρ h) [.agg E.d4] avs.toList):@CallR triv Tryz.prog X ρ h w (callFunc t39.num avs) (.ret (.bool (Nat.beq cnt 1)) h):=by
 have hm:=shape_mem K
 have hb:=List.all_eq_true.1 flAll _ hm
 rw [flB, F.callC_eq] at hb
 obtain ⟨h', hc⟩:=isV_ret hb
 exact tok_sum (desT E) (ok0 (envI:=(desT E).env)) rfl (d:=0) hc (by simp only [frzs, List.all_eq_true.1 frz_dTk _ hm, Bool.and_self]) rfl hr (avs:=avs) (by
  simp only [substs, dTok_subst K]
  exact hv)
theorem lvl_call {X:Ctx} {ρ:Nm} {h:H} {w:World} (hr:@HR triv Tryz.prog X ρ h w) {avs:Array Value} (hv:@VRs triv w ρ (Lv ρ h) [.agg E.d4] avs.toList):@CallR triv Tryz.prog X ρ h w (callFunc t42.num avs) (.ret (.int .i64 (.ofNat cnt)) h):=by
 have hm:=shape_mem K
 have hb:=List.all_eq_true.1 lvAll _ hm
 rw [lvB, F.callC_eq] at hb
 obtain ⟨h', hc⟩:=isV_ret hb
 exact tok_sum (desT E) (ok0 (envI:=(desT E).env)) rfl (d:=0) hc (by simp only [frzs, List.all_eq_true.1 frz_dTk _ hm, Bool.and_self]) rfl hr (avs:=avs) (by
  simp only [substs, dTok_subst K]
  exact hv)
theorem flS_ok (X:Ctx) {more:Pth→List AV→H→Option AV} (hm:@SumsOK triv Tryz.prog X more):@SumsOK triv Tryz.prog X (flS (.agg E.d4) (Nat.beq cnt 1) cnt more):=by
 intro i args h v hs ρ w avs hr hv
 unfold flS at hs
 cases hi:Pth.beq i t39 with
 | true =>
  rw [hi] at hs
  rw [Pth.beq_iff.1 hi]
  match args, hs with
  | [a], hs =>
   simp only [cond_true] at hs
   cases hb:AV.beq a (.agg E.d4) with
   | false=>rw [hb] at hs; cases hs
   | true =>
    rw [hb] at hs
    cases hs
    rw [AV.beq_eq _ _ hb] at hv
    exact flat_call K hr hv
  | [], hs=>cases hs
  | _::_::_, hs=>cases hs
 | false =>
  rw [hi] at hs
  cases hj:Pth.beq i t42 with
  | true =>
   rw [hj] at hs
   rw [Pth.beq_iff.1 hj]
   match args, hs with
   | [a], hs =>
    simp only [cond_true] at hs
    cases hb:AV.beq a (.agg E.d4) with
    | false=>rw [hb] at hs; cases hs
    | true =>
     rw [hb] at hs
     cases hs
     rw [AV.beq_eq _ _ hb] at hv
     exact lvl_call K hr hv
   | [], hs=>cases hs
   | _::_::_, hs=>cases hs
  | false =>
   rw [hj] at hs
   cases hk:Pth.beq i t9 with
   | true=>rw [hk] at hs; cases hs
   | false =>
    rw [hk] at hs
    exact hm i args h v hs ρ w avs hr hv
theorem levRG (h0T:CodeT T0) (h1T:CodeT T1):@Lev triv (RG T0 T1 (.agg E.d4) (Nat.beq cnt 1) cnt) :=
 @Lev.mk triv _ (@XOK.mk triv _ _ mixed funcs_ok (exts_ok (envI:=triv)) (flS_ok K _ (@Lev.sums triv _ (levRF h0T h1T) _))) rfl (fun X=>flS_ok K X (@Lev.sums triv _ (levRF h0T h1T) X)) (fun _X i args h v h' he ρ w avs=>exts_ok (envI:=triv) i args h v h' he ρ w avs)
theorem levRK (h0T:CodeT T0) (h1T:CodeT T1):@Lev triv (over (RG T0 T1 (.agg E.d4) (Nat.beq cnt 1) cnt) [t9] []):=@Lev.over triv _ (levRG K h0T h1T) _ _
end
end Go.Abs.Sym
end
section
namespace Go.Abs.Sym
open Go.Abs.T
open Go.Proofs
theorem pw_at {α:Type} {f:α→Bs} {l:List α} (h:l.Pairwise fun a b=>f a≠f b) {k:Nat} {x:α} (hx:l[k]?=some x):∀ j<k, ∀ y, l[j]?=some y→eqS (f y) (f x)=false:=by
 intro j hj y hy
 rw [eqS_dec]
 obtain ⟨hk, rfl⟩:=List.getElem?_eq_some_iff.1 hx
 obtain ⟨hj', rfl⟩:=List.getElem?_eq_some_iff.1 hy
 exact decide_eq_false (List.pairwise_iff_getElem.1 h j k hj' hk hj)
theorem any_at {α:Type} {f:α→Bs} {l:List α} {k:Nat} {s:Bs} (h:(l.take k).any (fun c=>eqS (f c) s)=false):∀ j<k, ∀ y, l[j]?=some y→eqS (f y) s=false:=by
 intro j hj y hy
 have:=List.any_eq_false.1 h y (List.mem_iff_getElem?.2 ⟨j, by rw [List.getElem?_take_of_lt hj]; exact hy⟩)
 simpa using this
theorem find_eqS {α:Type} {f:α→Bs} {s:Bs} {l:List α} {x:α} (h:l.find? (fun a=>decide (s=f a))=some x):l.find? (fun a=>eqS (f a) s)=some x:=by
 rw [← h]
 congr 1
 funext a
 rw [eqS_dec]
 exact decide_eq_decide.2 ⟨fun e=>e.symm, fun e=>e.symm⟩
theorem find_pwf {α:Type} {f:α→Bs} {l:List α} (hp:l.Pairwise fun a b=>f a≠f b) {x:α} (hm:x∈l):l.find? (fun a=>eqS (f a) (f x))=some x:=by
 induction l with
 | nil=>cases hm
 | cons a l ih =>
  obtain ⟨h1, h2⟩:=List.pairwise_cons.1 hp
  rcases List.mem_cons.1 hm with rfl | hm
  ·simp [eqS_dec]
  ·rw [List.find?_cons, eqS_dec, decide_eq_false (h1 x hm)]
   exact ih h2 hm
theorem cntS_nil (s:Bs):cntS [] s=0:=rfl
theorem cntS_lite:cntS [liteB] liteB=1:=by decide
theorem not_facts {va:Bool} {nots:Sl Bs} (h:NotOf va nots):nots.l.length≤1∧∀ k a, nots.l[k]?=some a→0<cntS (vaL va).l a∧cntS (nots.l.take k) a=0:=by
 rcases h with rfl | ⟨rfl, rfl⟩
 ·exact ⟨by decide, fun k a h=>by simp at h⟩
 ·refine ⟨by decide, fun k a h => ?_⟩
  match k, h with
  | 0, h =>
   cases h
   exact ⟨by show 0<cntS [liteB] liteB; rw [cntS_lite]; decide, rfl⟩
  | k+1, h=>cases h
theorem va_facts (va:Bool):(vaL va).l.length≤1∧(∀ v∈(vaL va).l, v∈rightNs)∧∀ k a, (vaL va).l[k]?=some a→cntS ((vaL va).l.take k) a=0:=by
 cases va with
 | false=>exact ⟨by decide, (fun v h=>by cases h), (fun k a h=>by simp [vaL] at h)⟩
 | true =>
  refine ⟨by decide, fun v h => ?_, fun k a h => ?_⟩
  ·have:v=liteB:=List.mem_singleton.1 h
   subst this
   decide
  ·match k, h with
   | 0, h=>cases h; rfl
   | k+1, h=>cases h
theorem pins_len:∀ (l:List JoinD), (∀ j∈l, (memF j.pad).length<1000)→(l.flatMap pinsJ).length≤1000*l.length
 | [], _=>by simp
 | a::l, h=>by
  have h1:=h a List.mem_cons_self
  have h2:=pins_len l fun j hj=>h j (List.mem_cons_of_mem _ hj)
  rw [List.flatMap_cons, List.length_append, List.length_cons, pinsJ, List.length_map]
  omega
section
variable {T0 T1:TypD} {E:CkE} {cnt:Nat} (K:DesK T0 T1 E cnt)
include K
omit K in
theorem frz_dE:frzs (dR (.str E.top) (slV sheetC E.Ss) E.Ts (slV bsC (vaL E.va)))=true:=by
 simp only [dR, frzs, frz, frz_slV frz_sheet, frz_slV frz_ty, frz_slV frz_bs, Bool.and_self]
theorem tr_made:TrOK T0 T1 E.Ts (vaL E.va) where
 lT:=by rw [K.ts]; exact (by decide:3<90000)
 mem:=fun T hT=>by rw [K.ts] at hT; exact hT
 nd := fun k x hx=>by
  rw [K.ts] at hx ⊢
  exact pw_at (f:=fun T:TypD=>T.nm) (List.pairwise_map.1 K.tf.nd) hx
 lv:=by have:=(va_facts E.va).1; omega
 vr:=(va_facts E.va).2.1
 vn:=(va_facts E.va).2.2
theorem ys_made {va:Bool} (hva:va=E.va) {most:Nat} {zs:List Zt} (hz:ZsOk va most [T0, T1, busT] zs) (z3:zs.length≤3) {s:SheetD} (ey:s.syms=⟨0, zs.map (·.1)⟩):YsOK E.Ts (vaL E.va) s where
 lt:=by rw [ey]; simp; omega
 lT:=by rw [K.ts]; exact (by decide:3<90000)
 lv:=by have:=(va_facts E.va).1; omega
 ok := fun k x hx=>by
  subst hva
  have hpw:=zs_refs hz z3
  have hx0:=hx
  rw [ey] at hx ⊢
  simp only [List.getElem?_map, Option.map_eq_some_iff] at hx
  obtain ⟨z, hzi, rfl⟩:=hx
  obtain ⟨o1, o2, o3, o4, _⟩:=hz k z hzi
  have hi:k<3:=by
   rcases Nat.lt_or_ge k zs.length with h | h
   ·omega
   ·rw [List.getElem?_eq_none h] at hzi; cases hzi
  obtain ⟨n1, n2⟩:=not_facts o4
  refine ⟨⟨?_, ?_, by omega, n2⟩, ?_⟩
  ·rw [o1]
   exact (by decide:∀ i<3, refN.getD i []∈rightNs) k hi
  ·rw [K.ts, o3]
   exact ⟨_, find_pwf (f:=fun T:TypD=>T.nm) (List.pairwise_map.1 K.tf.nd) o2⟩
  ·rw [ey] at hx0
   exact pw_at (f:=fun x:SymD=>x.ref) (List.pairwise_map.2 hpw) hx0
theorem je_made {va:Bool} {most:Nat} (hmost:most≤9) {zs:List Zt} (hz:ZsOk va most [T0, T1, busT] zs) (z3:zs.length≤3) {s:SheetD} (ey:s.syms=⟨0, zs.map (·.1)⟩) (ej:s.joins=⟨0, zs.flatMap (·.2.2)⟩):JeOK E.Ts s:=by
 obtain ⟨j1, j2, j3⟩:=zs_joins hmost K.tf hz z3
 have hpw:=zs_refs hz z3
 refine {
  ls:=by rw [ey]; simp; omega
  lT:=by rw [K.ts]; exact (by decide:3<90000)
  lt:=by rw [ej]; simp only; omega
  all:=?_
  nd:=by rw [ej]; exact j3
  ok:=fun j hj => ?_ }
 ·rw [ej]
  have:=pins_len (zs.flatMap (·.2.2)) fun j hj=>(j2 j hj).lt
  simp only
  omega
 ·rw [ej] at hj
  obtain ⟨b1, b2, b3, b4, b5, T, hT, nT, hp⟩:=j2 j hj
  obtain ⟨z, hzm, hjz⟩:=List.mem_flatMap.1 hj
  obtain ⟨i, hzi⟩:=List.mem_iff_getElem?.1 hzm
  have hzo:=hz i z hzi
  have hr:=z_ref hzo j hjz
  obtain ⟨o1, o2, o3, o4, _⟩:=hzo
  have hr:j.ref=z.1.ref:=hr.trans o1.symm
  have htm:=tm_find hpw hzm
  rw [← hr] at htm
  rw [htm] at hT
  cases hT
  refine ⟨b1, b2, b3, b4, b5, z.1, z.2.1, ?_, ?_, nT.pads, hp⟩
  ·rw [ey, hr]
   exact find_pwf (f:=fun x:SymD=>x.ref) (List.pairwise_map.2 hpw) (List.mem_map.2 ⟨z, hzm, rfl⟩)
  ·rw [K.ts, o3]
   exact find_pwf (f:=fun T:TypD=>T.nm) (List.pairwise_map.1 K.tf.nd) o2
theorem sk_made {k:Nat} {s:SheetD} (hk:E.Ss.l[k]?=some s):SkOK E.Ss s:=by
 obtain ⟨sub2, sok⟩:=sub_ok K.ok K.h3 K.ln hk
 have hl:=K.ln
 have h3:=K.h3
 obtain ⟨_, _, _, _, hsub, h0, _⟩:=K.ok k s hk
 refine ⟨by omega, by omega, fun j u hu => ?_⟩
 obtain ⟨⟨q1, q2, B, hB, hbs⟩, q4⟩:=sok j u hu
 obtain ⟨e1, e2, e3, e4⟩:=hsub j u hu
 have hj:j<s.subs.l.length:=(List.getElem?_eq_some_iff.1 hu).1
 have hk1:k+1<cnt:=by
  rcases Nat.lt_or_ge (k+1) cnt with h | h
  ·exact h
  ·rw [h0 h] at hj; exact absurd hj (by simp)
 have hB1:=List.getElem?_eq_getElem (l:=E.Ss.l) (i:=k+1) (by omega)
 obtain ⟨b1, _, ⟨most, zs, hpo, _⟩, _⟩:=K.ok (k+1) _ hB1
 have hBe:B=E.Ss.l[k+1]:=by
  have:=find_pw (shs_pw K.ok K.h3 K.ln) (List.getElem_mem (l:=E.Ss.l) (n:=k+1) (by omega))
  rw [b1, ← e2, hB] at this
  exact Option.some.inj this
 have hports:B.ports=⟨0, [inB, edgeB]⟩:=by
  rw [hBe]
  rcases hpo with ⟨h, _⟩ | ⟨_, _, h⟩
  ·omega
  ·exact h
 refine ⟨⟨q1, B, find_eqS hB, ⟨by omega, by rw [hports]; decide, fun i b hb => ?_⟩⟩, any_at (f:=fun u:SubD=>u.nm) q4⟩
 obtain ⟨⟨_, r2, r3, r4, r5⟩, r6⟩:=hbs i b hb
 refine ⟨⟨?_, r2, r3, r4, r5⟩, any_at (f:=fun c:BindD=>c.port) r6⟩
 rw [hports]
 have hpn:b.port=inB∨b.port=edgeB:=by
  obtain ⟨x, y, hxy, hx, hy⟩:=e4
  have hm:=List.mem_of_getElem? hb
  rw [hxy] at hm
  rcases List.mem_append.1 hm with hm | hm
  ·rcases hx with rfl | ⟨k, _, rfl⟩
   ·cases hm
   ·rw [List.mem_singleton.1 hm]; exact .inl rfl
  ·rcases hy with rfl | ⟨k, _, rfl⟩
   ·cases hm
   ·rw [List.mem_singleton.1 hm]; exact .inr rfl
 rcases hpn with e | e<;>rw [e]<;>decide
theorem shr_made {k:Nat} {s:SheetD} (hk:E.Ss.l[k]?=some s):ShR (dR (.str E.top) (slV sheetC E.Ss) E.Ts (slV bsC (vaL E.va))) s:=by
 have fa:=sh_facts K hk
 obtain ⟨e1, e2, ⟨most, zs, hpo, hz, z1, z3, ey, ej⟩, ek, _⟩:=K.ok k s hk
 have hmost:most≤9:=by rcases hpo with ⟨_, h, _⟩ | ⟨_, h, _⟩<;>omega
 have hprt:∃ a b, s.ports=prtL a∧s.power=pwrL b:=by
  rcases hpo with ⟨_, _, h⟩ | ⟨_, _, h⟩<;>rcases e2 with g | g
  ·exact ⟨false, false, h, g⟩
  ·exact ⟨false, true, h, g⟩
  ·exact ⟨true, false, h, g⟩
  ·exact ⟨true, true, h, g⟩
 obtain ⟨pa, pb, hp, hw⟩:=hprt
 exact {
  right:=fa.right
  n1:=fa.n1
  n2:=fa.n2
  n3:=fa.n3
  n4:=fa.n4
  n5:=fa.n5
  prt:=fun h=>by
   have:=portsA_sum (nm:=s.nm) (S:=slV symC s.syms) (J:=slV joinC s.joins) (U:=slV subC s.subs) pa pb (frz_slV frz_sym _) (frz_slV frz_join _) (frz_slV frz_sub _) h
   rw [← hp, ← hw] at this
   exact this
  sym:=fun pm h=>symsA_sum (ys_made K rfl hz z3 ey) pm frz_dE h
  jn:=fun pm h=>joinsA_sum (je_made K hmost hz z3 ey ej) pm frz_dE h
  sub:=fun h=>subsA_sum (sk_made K hk) frz_dE h }
theorem cr_made:CrOK T0 T1 E.top E.Ss E.Ts (vaL E.va) where
 ty:=tr_made K
 nT:=by rw [K.ts]; exact (by decide:3≤20)
 nV:=by have:=(va_facts E.va).1; omega
 nS:=by have:=K.ln; have:=K.h3; omega
 tp:=by obtain ⟨B, _, hB⟩:=desk_first K; exact ⟨B, find_eqS hB⟩
 sh:=fun k s hk=>⟨shr_made K hk, pw_at (f:=fun s:SheetD=>s.nm) (shs_pw K.ok K.h3 K.ln) hk⟩
end
end Go.Abs.Sym
end
section
namespace Go.Abs.Sym
open Go.Abs.T
open Go.Proofs
def mdS (E:CkE) (more:Pth→List AV→H→Option AV) (i:Pth) (args:List AV) (h:H):Option AV :=
 bif Pth.beq i t9 then (match args with
  | [a]=>bif AV.beq a (.agg E.d4) then some i0 else none
  | _=>none) else more i args h
def KM (T0 T1:TypD) (E:CkE):Ctx:={ KE T0 T1 with sums:=mdS E (KE T0 T1).sums }
theorem mdS_ok {T0 T1:TypD} {E:CkE} {cnt:Nat} (K:DesK T0 T1 E cnt) (h0T:CodeT T0) (h1T:CodeT T1) (X:Ctx) {more:Pth→List AV→H→Option AV} (hm:@SumsOK triv Tryz.prog X more):@SumsOK triv Tryz.prog X (mdS E more):=by
 intro i args h v hs ρ w avs hr hv
 unfold mdS at hs
 cases hi:Pth.beq i t9 with
 | true =>
  rw [hi] at hs
  rw [Pth.beq_iff.1 hi]
  match args, hs with
  | [a], hs =>
   simp only [cond_true] at hs
   cases hb:AV.beq a (.agg E.d4) with
   | false=>rw [hb] at hs; cases hs
   | true =>
    rw [hb] at hs
    cases hs
    rw [AV.beq_eq _ _ hb] at hv
    exact @Lev.sums triv _ (levRK K h0T h1T) X t9 [.agg E.d4] h i0 (checkA_sum (cr_made K) frz_dE (b:=Nat.beq cnt 1) (n:=cnt) (by have:=K.h3; omega) h) ρ w avs hr hv
  | [], hs=>cases hs
  | _::_::_, hs=>cases hs
 | false =>
  rw [hi] at hs
  exact hm i args h v hs ρ w avs hr hv
theorem levM {T0 T1:TypD} {E:CkE} {cnt:Nat} (K:DesK T0 T1 E cnt) (h0T:CodeT T0) (h1T:CodeT T1):@Lev triv (KM T0 T1 E) :=
 @Lev.mk triv _ (@XOK.mk triv _ _ mixed funcs_ok (exts_ok (envI:=triv)) (mdS_ok K h0T h1T _ (@Lev.sums triv _ (levE h0T h1T) _))) rfl (fun X=>mdS_ok K h0T h1T X (@Lev.sums triv _ (levE h0T h1T) X)) (fun _X i args h v h' he ρ w avs=>exts_ok (envI:=triv) i args h v h' he ρ w avs)
theorem km_g {T0 T1:TypD} {E:CkE} (i:Pth) (h:Pth.beq i t9=false) (xs:List AV) (hh:H):(KM T0 T1 E).sums i xs hh=(KE T0 T1).sums i xs hh:=by
 simp only [KM, mdS, h, cond_false]
theorem km_9 {T0 T1:TypD} {E:CkE} (hh:H):(KM T0 T1 E).sums t9 [.agg E.d4] hh=some i0:=by
 show mdS E (KE T0 T1).sums t9 [.agg E.d4] hh=some i0
 have hb:AV.beq (.agg E.d4) (.agg E.d4)=true:=beq_rfl _
 simp only [mdS, hb, cond_true]
 rfl
theorem min_i' (a b:Nat):foldA min2A (.int .i64 (.ofNat a)) [.int .i64 (.ofNat b)]=some (.int .i64 (bif ltI (.ofNat b) (.ofNat a) then .ofNat b else .ofNat a)):=rfl
theorem min_nat' (a b:Nat):(bif ltI (.ofNat b) (.ofNat a) then Int.ofNat b else .ofNat a)=.ofNat (min a b):=by
 rw [ltI_dec]
 by_cases h:b<a
 ·simp only [h, decide_true, cond_true]
  rw [Nat.min_eq_right (by omega)]
 ·simp only [h, decide_false, cond_false]
  rw [Nat.min_eq_left (by omega)]
theorem law3 {T0 T1:TypD} {E:CkE} {cnt:Nat} (K:DesK T0 T1 E cnt) {Ls Ls':Sl (Sl Int)} (hsl:sliceA (.slc 1) false true false [slV liC Ls, .int .i64 (.ofNat (min Ls.l.length 8))]=some (slV liC Ls')) (hmade:∀ h, K4.sums t7 [slV liC Ls'] h=some (.agg E.d4)) :
  Ret (callN (KM T0 T1 E) 50 (.fn t3 [] []) [slV liC Ls] h0) (fun v _=>v=.bool true):=by
 have hs:∀ xs, (KM T0 T1 E).sums t3 xs h0=none:=fun _=>rfl
 have hF:(KM T0 T1 E).funcs.get t3=some c3:=rfl
 have hfu:(KM T0 T1 E).fuel=100000:=rfl
 have hsan:∀ h, callN (KM T0 T1 E) 49 (.fn t6 [] []) [] h=.ret (.bool true) h:=fun h=>call_sum (n:=48) rfl
 have hma:∀ h, callN (KM T0 T1 E) 49 (.fn t7 [] []) [slV liC Ls'] h=.ret (.agg E.d4) h:=fun h=>call_sum (n:=48) (by
  rw [List.nil_append, List.append_nil, km_g t7 rfl, ke_4 t7 rfl rfl rfl rfl]
  exact hmade h)
 have hch:∀ h, callN (KM T0 T1 E) 49 (.fn t8 [] []) [.agg E.d4] h=.ret i0 h:=fun h=>call_sum (n:=48) (by
  rw [List.nil_append, List.append_nil, km_g t8 rfl]
  exact check_sum E (ck_made K) h)
 have hcr:∀ h, callN (KM T0 T1 E) 49 (.fn t9 [] []) [.agg E.d4] h=.ret i0 h:=fun h=>call_sum (n:=48) (by
  rw [List.nil_append, List.append_nil]
  exact km_9 h)
 have e0:eqI (.ofNat 0) (.ofNat 0)=true:=rfl
 have htd:takeD E.d4 0 4=some E.d4:=takeD_all rfl
 refine begin1 (hs _) hF fun fr t ga => ?_
 simp only [CkE.d4] at hma hch hcr htd
 simp +decide only [c3,SK,Nat.reduceAdd,ga,hsan,hma,hch,hcr,htd,e0,len_slV,min_i',min_nat',hsl]
 simp +decide only [SM]
end Go.Abs.Sym
end
end
