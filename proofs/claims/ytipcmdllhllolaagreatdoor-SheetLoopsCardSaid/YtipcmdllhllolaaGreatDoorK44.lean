/- lib.Check of made types; the contexts of SheetLoops are sound. -/
import Derived.Test.YtipcmdllhllolaaGreatDoorK42
import Derived.Test.YtipcmdllhllolaaGreatDoorK43
import Derived.Test.YtipcmdllhllolaaGreatDoorK38
import Derived.Test.YtipcmdllhllolaaGreatDoorK35
noncomputable section
section
namespace Go.Abs.Sym
open Go.Abs.T
open Go.Proofs
theorem row_call [envI:Env] {P:Program} {X0:Ctx} (xo:XOK P X0) (hg:X0.globs=.lf) {n:Nat} {f:Pth} {args:List AV} {v:AV} {h1:H} (hc:callN X0 n (.fn f [] []) args h0=.ret v h1) {w:World} (ho:OpnW w) {avs:Array Value}
  (hv:VRs w (ρ0 w) (Lv (ρ0 w) h0) args avs.toList):CallR P X0 (ρ0 w) h0 w (callFunc f.num avs) (.ret v h1):=by
 have hR:=callN_ok xo n (.fn f [] []) args h0 (ρ0 w) w (.func (.func f.num) #[] #[]) avs (HR.empty hg ho) (by simp only [VR, VRs]; exact ⟨#[], #[], rfl, rfl, rfl⟩) hv
 rw [hc] at hR
 have hinv:invk (.func (.func f.num) #[] #[]) avs=callFunc f.num avs:=by
  simp only [invk, Deferred.ofValue, pure_bind, invoke, Array.empty_append, Array.append_empty]
 rwa [hinv] at hR
theorem deep_int {d:Nat} {h:H} {v:AV} {k:IntKind} {n:Int} (e:deep (d+1) h v=.int k n):v=.int k n:=by
 cases v<;>simp only [deep, reduceCtorEq] at e
 case int=>exact e
 case slc id off len sz c =>
  cases hc:h.cellsAt id with
  | none=>rw [hc] at e; cases e
  | some cs =>
   rw [hc] at e
   simp only at e
   cases ht:takeD cs off (len*sz) with
   | none=>rw [ht] at e; cases e
   | some l=>rw [ht] at e; cases e
 case mapv id =>
  split at e<;>cases e
section
variable {cs:List (Nat×Nat×Nat)} (hcs:∀ c∈cs, CodeOK c) (h6:cs.length≤6)
include hcs h6 in
theorem pad_fact {k:Nat} (hk:k<cs.length) (w:World) (ho:OpnW w) (avs:Array Value) (hv:@VRs triv w (ρ0 w) (Lv (ρ0 w) h0) [(padTok k).subst (kinT cs)] avs.toList):∃ X0 h1, @CallR triv Tryz.prog X0 (ρ0 w) h0 w (callFunc f_padErr.num avs) (.ret i0 h1):=by
 obtain ⟨c, hc⟩:∃ c, cs[k]?=some c:=⟨_, List.getElem?_eq_getElem hk⟩
 obtain ⟨c1, c2, c3⟩:=hcs c (List.mem_of_getElem? hc)
 have hp:(padTok k).subst (kinT cs)=.agg (padC (padOf k c.1 c.2.1 c.2.2)):=by
  simp only [padTok, AV.subst, padTok_subst hc (show k<10 by omega)]
 rw [hp] at hv
 obtain ⟨X, xo, hgl, _, _, n, v1, h1, e1, e2⟩:=rowsP k c.1 c.2.1 c.2.2 (by omega) c1 c2 c3
 have e3:=deep_int e2
 subst e3
 exact ⟨X, h1, row_call (envI:=triv) xo hgl e1 ho hv⟩
include hcs h6 in
theorem padS_ok (X:Ctx):∀ (m:Nat), m≤cs.length→∀ more, @SumsOK (kinT cs).env Tryz.prog X more→@SumsOK (kinT cs).env Tryz.prog X (padS m more)
 | 0, _, more, h=>h
 | m+1, hm, more, h=>oneSums_ok (kinT cs) (a:=padTok m) (by simp only [padTok, padTokC, frz, frzs, Bool.and_self]) rfl (pad_fact hcs h6 (by omega)) (padS_ok X m (by omega) more h)
include hcs h6 in
theorem okC:@XOK (kinT cs).env Tryz.prog (XC cs.length) :=
 @XOK.mk (kinT cs).env _ _ mixed funcs_ok (exts_ok (envI:=(kinT cs).env)) (padS_ok hcs h6 _ cs.length (Nat.le_refl _) _ (tabSums_ok (envI:=(kinT cs).env) (ok0 (envI:=(kinT cs).env)) rfl rowsN.ok (noSums_ok (envI:=(kinT cs).env))))
include hcs h6 in
theorem chk_call {nm:Bs} (hnm:nm∈[[82], [81]]) {gs:List GateD} (h2:2≤cs.length) (hg:GOK cs.length gs) {X:Ctx} {ρ:Nm} {h:H} {w:World} (hr:@HR triv Tryz.prog X ρ h w) {avs:Array Value} (hv:@VRs triv w ρ (Lv ρ h) [.agg (tyC (tyOf nm cs gs))] avs.toList):@CallR triv Tryz.prog X ρ h w (callFunc f_check.num avs) (.ret i0 h):=by
 obtain ⟨g, hv1, rfl⟩:=vars_of h2 h6 hg
 have hb:chkB nm cs.length g=true:=List.all_eq_true.1 (List.all_eq_true.1 chkAll nm hnm) _ hv1
 rw [chkB, F.callC_eq] at hb
 obtain ⟨h', hc⟩:=isV_ret hb
 have hs:=tyTok_subst (nm:=nm) (cs:=cs) (gs:=gsOf g) (fun e=>by rw [e] at h2; exact absurd h2 (by decide)) (by omega) (gs_no _ hv1)
 have:=tok_sum (kinT cs) (okC hcs h6) rfl (d:=0) hc (by simp only [frzs, frz_tyTok, Bool.and_self]) rfl hr (avs:=avs) (by simp only [substs, hs]; exact hv)
 exact this
end
theorem bus_call {X:Ctx} {ρ:Nm} {h:H} {w:World} (hr:@HR triv Tryz.prog X ρ h w) {avs:Array Value} (hv:@VRs triv w ρ (Lv ρ h) [.agg (tyC busT)] avs.toList):@CallR triv Tryz.prog X ρ h w (callFunc f_check.num avs) (.ret i0 h):=by
 have hb:=busRow
 rw [F.callC_eq] at hb
 obtain ⟨h', hc⟩:=isV_ret hb
 exact sum_frozen (envI:=triv) (ok0 (envI:=triv)) rfl (d:=0) hc (by simp only [frzs, frz, frz_ty, Bool.and_self]) rfl hr hv
structure CodeT (T:TypD):Prop where
 ex:∃ nm cs gs, T=tyOf nm cs gs∧nm∈[[82], [81]]∧2≤cs.length∧cs.length≤6∧(∀ c∈cs, CodeOK c)∧GOK cs.length gs
theorem ty_call {T:TypD} (hT:CodeT T) {X:Ctx} {ρ:Nm} {h:H} {w:World} (hr:@HR triv Tryz.prog X ρ h w) {avs:Array Value} (hv:@VRs triv w ρ (Lv ρ h) [.agg (tyC T)] avs.toList):@CallR triv Tryz.prog X ρ h w (callFunc f_check.num avs) (.ret i0 h):=by
 obtain ⟨nm, cs, gs, rfl, hn, h2, h6, hc, hg⟩:=hT.ex
 exact chk_call hc h6 hn h2 hg hr hv
theorem chkS_ok {T0 T1:TypD} (h0T:CodeT T0) (h1T:CodeT T1) (X:Ctx) {more:Pth→List AV→H→Option AV} (hm:@SumsOK triv Tryz.prog X more):@SumsOK triv Tryz.prog X (chkS T0 T1 more):=by
 intro i args h v hs ρ w avs hr hv
 unfold chkS at hs
 cases hi:Pth.beq i t65 with
 | true =>
  rw [hi] at hs
  rw [Pth.beq_iff.1 hi]
  match args, hs with
  | [a], hs =>
   simp only [cond_true] at hs
   cases hb:AV.beq a (.agg (tyC T0))||AV.beq a (.agg (tyC T1))||AV.beq a (.agg (tyC busT)) with
   | false=>rw [hb] at hs; cases hs
   | true =>
    rw [hb] at hs
    cases hs
    simp only [Bool.or_eq_true] at hb
    rcases hb with (hb | hb) | hb
    ·rw [AV.beq_eq _ _ hb] at hv
     exact ty_call h0T hr hv
    ·rw [AV.beq_eq _ _ hb] at hv
     exact ty_call h1T hr hv
    ·rw [AV.beq_eq _ _ hb] at hv
     exact bus_call hr hv
  | [], hs=>cases hs
  | _::_::_, hs=>cases hs
 | false =>
  rw [hi] at hs
  cases hj:Pth.beq i t29 with
  | true=>rw [hj] at hs; cases hs
  | false =>
   rw [hj] at hs
   exact hm i args h v hs ρ w avs hr hv
theorem lev4:@Lev triv K4:=@Lev.over triv _ (@Lev.over triv _ (@Lev.over triv _ (@Lev.over triv _ (@lev0 triv) _ _) _ _) _ _) _ _
theorem levC {T0 T1:TypD} (h0T:CodeT T0) (h1T:CodeT T1):@Lev triv (KC T0 T1) :=
 @Lev.mk triv _ (@XOK.mk triv _ _ mixed funcs_ok (exts_ok (envI:=triv)) (chkS_ok h0T h1T _ (@Lev.sums triv _ lev4 _))) rfl (fun X=>chkS_ok h0T h1T X (@Lev.sums triv _ lev4 X)) (fun _X i args h v h' he ρ w avs=>exts_ok (envI:=triv) i args h v h' he ρ w avs)
theorem ring_top {T0 T1:TypD} {E:CkE} {a b cnt:Nat} (K:DesL T0 T1 E a b cnt):∃ k, k≤a∧E.top=sheetN.getD k []:=⟨0, Nat.zero_le _, K.top⟩
theorem dpS_ok {T0 T1:TypD} {E:CkE} {a b cnt:Nat} (K:DesL T0 T1 E a b cnt) (X:Ctx) {more:Pth→List AV→H→Option AV} (hm:@SumsOK triv Tryz.prog X more):@SumsOK triv Tryz.prog X (dpS (.agg E.d) more):=by
 intro i args h v hs ρ w avs hr hv
 unfold dpS at hs
 cases hi:Pth.beq i t37 with
 | true =>
  rw [hi] at hs
  rw [Pth.beq_iff.1 hi]
  match args, hs with
  | [x], hs =>
   simp only [cond_true] at hs
   cases hb:AV.beq x (.agg E.d) with
   | false=>rw [hb] at hs; cases hs
   | true =>
    rw [hb] at hs
    cases hs
    rw [AV.beq_eq _ _ hb] at hv
    exact depthL_call (ring_made K) (ring_top K) (frz_d E) hr hv
  | [], hs=>cases hs
  | _::_::_, hs=>cases hs
 | false =>
  rw [hi] at hs
  exact hm i args h v hs ρ w avs hr hv
theorem levDK {T0 T1:TypD} {E:CkE} {a b cnt:Nat} (K:DesL T0 T1 E a b cnt) (h0T:CodeT T0) (h1T:CodeT T1):@Lev triv (KD T0 T1 (.agg E.d)) :=
 @Lev.mk triv _ (@XOK.mk triv _ _ mixed funcs_ok (exts_ok (envI:=triv)) (dpS_ok K _ (@Lev.sums triv _ (@Lev.over triv _ (levC h0T h1T) [t29] []) _))) rfl (fun X=>dpS_ok K X (@Lev.sums triv _ (@Lev.over triv _ (levC h0T h1T) [t29] []) X)) (fun _X i args h v h' he ρ w avs=>exts_ok (envI:=triv) i args h v h' he ρ w avs)
def KEL (T0 T1:TypD) (E:CkE):Ctx:=over (KD T0 T1 (.agg E.d)) [t8] []
def KFL (T0 T1:TypD) (E:CkE):Ctx:=over (KEL T0 T1 E) [t10, t13] []
theorem levFK {T0 T1:TypD} {E:CkE} {a b cnt:Nat} (K:DesL T0 T1 E a b cnt) (h0T:CodeT T0) (h1T:CodeT T1):@Lev triv (KFL T0 T1 E):=@Lev.over triv _ (@Lev.over triv _ (levDK K h0T h1T) _ _) _ _
def dpK (f:Pth) (a u:AV) (more:Pth→List AV→H→Option AV) (i:Pth) (args:List AV) (h:H):Option AV :=
 bif Pth.beq i f then (match args with
  | [x]=>bif AV.beq (deep 8 h x) a then some u else more i args h
  | _=>more i args h) else more i args h
theorem dpK_ok {f:Pth} {a u:AV} (hf:frz a=true) (hp:plainA u=true) (hc:∀ {X:Ctx} {ρ:Nm} {h:H} {w:World}, @HR triv Tryz.prog X ρ h w→∀ {avs:Array Value}, @VRs triv w ρ (Lv ρ h) [a] avs.toList→@CallR triv Tryz.prog X ρ h w (callFunc f.num avs) (.ret u h)) (X:Ctx) {more:Pth→List AV→H→Option AV} (hm:@SumsOK triv Tryz.prog X more):@SumsOK triv Tryz.prog X (dpK f a u more):=by
 intro i args h v hs ρ w avs hr hv
 unfold dpK at hs
 cases hi:Pth.beq i f with
 | true =>
  rw [hi] at hs
  simp only [cond_true] at hs
  match args, hs with
  | [x], hs =>
   simp only at hs
   cases hb:AV.beq (deep 8 h x) a with
   | false=>rw [hb] at hs; exact hm i [x] h v hs ρ w avs hr hv
   | true =>
    rw [hb] at hs
    cases hs
    rw [Pth.beq_iff.1 hi]
    have e:=AV.beq_eq _ _ hb
    have hv0:@VRs triv w (ρ0 w) (Lv (ρ0 w) h0) [a] avs.toList:=by
     rw [← e]
     exact deep_s (envI:=triv) (deep_ok (envI:=triv) hr 8) hv (by rw [List.map_cons, List.map_nil, e]; simp only [frzs, hf, Bool.and_self])
    exact CallR.lift (envI:=triv) triv hr hp (hc (X:=X0) (h:=h0) (HR.empty (envI:=triv) rfl (HR.opn (envI:=triv) hr).1) hv0)
  | [], hs=>exact hm i [] h v hs ρ w avs hr hv
  | x::y::l, hs=>exact hm i (x::y::l) h v hs ρ w avs hr hv
 | false =>
  rw [hi] at hs
  exact hm i args h v hs ρ w avs hr hv
theorem dpK_at {f:Pth} {a u:AV} {more:Pth→List AV→H→Option AV} {h:H} {x:AV} (e:deep 8 h x=a):dpK f a u more f [x] h=some u:=by
 have hi:Pth.beq f f=true:=Pth.beq_iff.2 rfl
 have hb:AV.beq (deep 8 h x) a=true:=by rw [e]; exact beq_rfl _
 simp only [dpK, hi, hb, cond_true]
theorem dpK_ne {f i:Pth} (hi:Pth.beq i f=false) {a u:AV} {more:Pth→List AV→H→Option AV} {h:H} {xs:List AV}:dpK f a u more i xs h=more i xs h:=by
 simp only [dpK, hi, cond_false]
theorem dpK_no {f:Pth} {a u:AV} {more:Pth→List AV→H→Option AV} {h:H} {x:AV} (e:AV.beq (deep 8 h x) a=false):dpK f a u more f [x] h=more f [x] h:=by
 have hi:Pth.beq f f=true:=Pth.beq_iff.2 rfl
 simp only [dpK, hi, e, cond_true, cond_false]
end Go.Abs.Sym
end
section
namespace Go.Abs.Sym
open Go.Abs.T
open Go.Proofs
def sN (k:Nat):Bs:=[115, 48+k]
def dUs (k:Nat):List AV:=[.str [100], .str (sN (k+1)), .nils]
def dSh (k:Nat):List AV:=[.str (sN k), .nils, .nils, .nils, .nils, if k<6 then .rslc 1 (dUs k) else .nils]
def dRows (n:Nat):List (List AV):=(List.range n).map fun k=>dSh (k+1)
def deepD:AV:=.agg [.str (sN 1), .rslc 6 (dRows 6).flatten, .nils, .nils]
def topD:AV:=.agg [.str (sN 2), .rslc 6 (dRows 6).flatten, .nils, .nils]
noncomputable def dpB:Bool:=F.callC K4 50 (.fn t8 [] []) [deepD] h0 (isV (.int .i64 (.ofNat 25)))
noncomputable def tpB:Bool:=F.callC K4 50 (.fn t8 [] []) [topD] h0 (isV i0)
noncomputable def tqB:Bool:=F.callC K5 50 (.fn t13 [] []) [topD] h0 (isV (.int .i64 (.ofNat 5)))
theorem tpRow:tpB=true:=by kernel_rfl
theorem dpRow:dpB=true:=by kernel_rfl
theorem tqRow:tqB=true:=by kernel_rfl
end Go.Abs.Sym
end
section
namespace Go.Abs.Sym
open Go.Abs.T
open Go.Proofs
def i25':AV:=.int .i64 (.ofNat 25)
def i5':AV:=.int .i64 (.ofNat 5)
section
variable {T0 T1:TypD} {E:CkE}
theorem kel_8 (ok:CkL T0 T1 E) (h:H):(KEL T0 T1 E).sums t8 [.agg E.d4] h=some i25':=check_sum E ok h
theorem kfl_8 (ok:CkL T0 T1 E) (h:H):(KFL T0 T1 E).sums t8 [.agg E.d4] h=some i25':=(over_rest (X:=KEL T0 T1 E) (show memP t8 [t10, t13]=false from rfl) rfl _ h).trans (kel_8 ok h)
theorem paths_nil (ok:CkL T0 T1 E) (h:H):(KFL T0 T1 E).sums t10 [.agg E.d4] h=some .nils:=by
 have hs:∀ xs, (KEL T0 T1 E).sums t10 xs h0=none:=fun _=>rfl
 have hF:(KEL T0 T1 E).funcs.get t10=some c10:=rfl
 have hch:∀ h, callN (KEL T0 T1 E) 49 (.fn t8 [] []) [.agg E.d4] h=.ret i25' h:=fun h=>call_sum (n:=48) (by rw [List.nil_append, List.append_nil]; exact kel_8 ok h)
 have e0:eqI (.ofNat 25) (.ofNat 0)=false:=rfl
 have htd:takeD E.d4 0 4=some E.d4:=takeD_all rfl
 have hr:Ret (callN (KEL T0 T1 E) 50 (.fn t10 [] []) [.agg E.d4] h0) (fun v _=>v=.nils):=by
  refine begin1 (hs _) hF fun fr t ga => ?_
  simp only [CkE.d4, i25'] at hch htd
  simp only [CkE.d4] at ga
  simp +decide only [c10,SK,Nat.reduceAdd,ga,hch,htd,e0]
  simp +decide only [SM]
 obtain ⟨v, h1, hc, rfl⟩:=hr
 exact over_fz' (X:=KEL T0 T1 E) rfl hc (by simp only [frzs, frz, frz_d4, Bool.and_self]) rfl h
theorem depth_nil (ok:CkL T0 T1 E) (h:H):(KFL T0 T1 E).sums t13 [.agg E.d4] h=some i0:=by
 have hs:∀ xs, (KEL T0 T1 E).sums t13 xs h0=none:=fun _=>rfl
 have hF:(KEL T0 T1 E).funcs.get t13=some c13:=rfl
 have hch:∀ h, callN (KEL T0 T1 E) 49 (.fn t8 [] []) [.agg E.d4] h=.ret i25' h:=fun h=>call_sum (n:=48) (by rw [List.nil_append, List.append_nil]; exact kel_8 ok h)
 have e0:eqI (.ofNat 25) (.ofNat 0)=false:=rfl
 have htd:takeD E.d4 0 4=some E.d4:=takeD_all rfl
 have hr:Ret (callN (KEL T0 T1 E) 50 (.fn t13 [] []) [.agg E.d4] h0) (fun v _=>v=i0):=by
  refine begin1 (hs _) hF fun fr t ga => ?_
  simp only [CkE.d4, i25'] at hch htd
  simp only [CkE.d4] at ga
  simp +decide only [c13,SK,ga,hch,htd,e0]
  simp +decide only [SM]
 obtain ⟨v, h1, hc, rfl⟩:=hr
 exact over_fz' (X:=KEL T0 T1 E) rfl hc (by simp only [frzs, frz, frz_d4, Bool.and_self]) rfl h
end
def lpS (E:CkE) (more:Pth→List AV→H→Option AV):Pth→List AV→H→Option AV :=
 dpK t8 deepD i25' (dpK t8 topD i0 (dpK t13 topD i5' (dpK t8 (.agg E.d4) i25' (dpK t10 (.agg E.d4) .nils (dpK t13 (.agg E.d4) i0 more)))))
def KL (T0 T1:TypD) (E:CkE):Ctx:={ KFL T0 T1 E with sums:=lpS E (KFL T0 T1 E).sums }
theorem deep_call (h:H):K5.sums t8 [deepD] h=some i25':=by
 have e:=dpRow
 rw [dpB, F.callC_eq] at e
 obtain ⟨h', hc⟩:=isV_ret e
 exact over_fz' (X:=K4) rfl hc (by kernel_rfl) rfl h
theorem top_call (h:H):K5.sums t8 [topD] h=some i0:=by
 have e:=tpRow
 rw [tpB, F.callC_eq] at e
 obtain ⟨h', hc⟩:=isV_ret e
 exact over_fz' (X:=K4) rfl hc (by kernel_rfl) rfl h
theorem top5_call (h:H):K6.sums t13 [topD] h=some i5':=by
 have e:=tqRow
 rw [tqB, F.callC_eq] at e
 obtain ⟨h', hc⟩:=isV_ret e
 exact over_fz' (X:=K5) rfl hc (by kernel_rfl) rfl h
theorem lev5:@Lev triv K5:=@Lev.over triv _ lev4 _ _
theorem lev6:@Lev triv K6:=@Lev.over triv _ lev5 _ _
theorem frz_deepD:frz deepD=true:=by kernel_rfl
theorem frz_topD:frz topD=true:=by kernel_rfl
section
variable {T0 T1:TypD} {E:CkE} {a b cnt:Nat} (K:DesL T0 T1 E a b cnt) (h0T:CodeT T0) (h1T:CodeT T1)
include K h0T h1T
theorem lpS_ok (X:Ctx) {more:Pth→List AV→H→Option AV} (hm:@SumsOK triv Tryz.prog X more):@SumsOK triv Tryz.prog X (lpS E more):=by
 have fd:frz (.agg E.d4)=true:=by simp only [frz, frz_d4]
 refine dpK_ok frz_deepD rfl (fun hr _ hv=>@Lev.sums triv _ lev5 _ t8 _ _ _ (deep_call _) _ _ _ hr hv) X ?_
 refine dpK_ok frz_topD rfl (fun hr _ hv=>@Lev.sums triv _ lev5 _ t8 _ _ _ (top_call _) _ _ _ hr hv) X ?_
 refine dpK_ok frz_topD rfl (fun hr _ hv=>@Lev.sums triv _ lev6 _ t13 _ _ _ (top5_call _) _ _ _ hr hv) X ?_
 refine dpK_ok fd rfl (fun hr _ hv=>@Lev.sums triv _ (levFK K h0T h1T) _ t8 _ _ _ (kfl_8 (ckl_made K) _) _ _ _ hr hv) X ?_
 refine dpK_ok fd rfl (fun hr _ hv=>@Lev.sums triv _ (levFK K h0T h1T) _ t10 _ _ _ (paths_nil (ckl_made K) _) _ _ _ hr hv) X ?_
 exact dpK_ok fd rfl (fun hr _ hv=>@Lev.sums triv _ (levFK K h0T h1T) _ t13 _ _ _ (depth_nil (ckl_made K) _) _ _ _ hr hv) X hm
theorem levL:@Lev triv (KL T0 T1 E) :=
 @Lev.mk triv _ (@XOK.mk triv _ _ mixed funcs_ok (exts_ok (envI:=triv)) (lpS_ok K h0T h1T _ (@Lev.sums triv _ (levFK K h0T h1T) _))) rfl (fun X=>lpS_ok K h0T h1T X (@Lev.sums triv _ (levFK K h0T h1T) X)) (fun _X i args h v h' he ρ w avs=>exts_ok (envI:=triv) i args h v h' he ρ w avs)
end
end Go.Abs.Sym
end
end
