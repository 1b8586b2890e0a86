/- Lemmas that other claims had no use for. -/
import Derived.Test.YtipcmdllhllolaaGreatDoorM24
import Derived.Test.YtipcmdllhllolaaGreatDoorM05
import Derived.Test.YtipcmdllhllolaaGreatDoorM31
import Derived.Test.YtipcmdllhllolaaGreatDoorM30
noncomputable section
section
namespace Go.Abs.Sym
open Go.Abs.T
theorem tk_sym (x:SymD) (r:List AV):takeD (symC x++r) 0 3=some (symC x):=tk_app rfl
theorem tk_join (x:JoinD) (r:List AV):takeD (joinC x++r) 0 3=some (joinC x):=tk_app rfl
theorem tk_bind (x:BindD) (r:List AV):takeD (bindC x++r) 0 2=some (bindC x):=tk_app rfl
theorem tk_sub (x:SubD) (r:List AV):takeD (subC x++r) 0 3=some (subC x):=tk_app rfl
theorem tk_sheet (x:SheetD) (r:List AV):takeD (sheetC x++r) 0 6=some (sheetC x):=tk_app rfl
end Go.Abs.Sym
end
section
namespace Go.Abs.Sym
open Go.Abs.T
open Go.Proofs
def RA:Ctx:=over K0 [t81,t82,t83,t124,t126,t152,t155,t158] []
theorem rowA {f:Pth} {args:List AV} {v:AV} (hm:memP f [t81,t82,t83,t124,t126,t152,t155,t158]=true) (ha:frzs args=true) (hv:frz v=true) (h1:F.callC K0 50 (.fn f [] []) args h0 (isV v)=true) (h:H):RA.sums f args h=some v:=by
 rw [F.callC_eq] at h1
 obtain ⟨h2, h3⟩:=isV_ret h1
 exact over_fz' (X:=K0) hm h3 ha hv h
theorem rightA_all:(rightNs.all fun s=>F.callC K0 50 (.fn t81 [] []) [.str s] h0 (isV (.bool true)))=true:=by kernel_rfl
theorem rightA_sum {s:Bs} (hs:s∈rightNs) (h:H):RA.sums t81 [.str s] h=some (.bool true) :=
 rowA rfl rfl rfl (List.all_eq_true.1 rightA_all s hs) h
theorem memA_all:(memT.all fun e=>[false, true].all fun p=>F.callC K0 50 (.fn t124 [] []) [.str e.1, .bool p] h0 (isD (slV bsC ⟨1, e.2⟩)))=true:=by kernel_rfl
theorem memA_sum {s:Bs} {l:List Bs} (hs:(s, l)∈memT) (p:Bool) (h:H):RA.sums t124 [.str s, .bool p] h=some (slV bsC ⟨1, l⟩):=by
 have h1:=List.all_eq_true.1 (List.all_eq_true.1 memA_all _ hs) p (by cases p<;>simp)
 rw [F.callC_eq] at h1
 obtain ⟨v, h2, h3, h4⟩:=isD_ret h1
 rw [← h4]
 exact over_fz rfl h3 rfl (by rw [h4]; exact frz_slV frz_bs _) h
theorem portsA_run (nm:Bs) (S J U:AV):∀ a b:Bool, F.callC K0 50 (.fn t83 [] []) [.agg [.str nm, slV bsC (prtL a), slV bsC (pwrL b), S, J, U]] h0 (isV i0)=true
 | false, false=>by kernel_rfl
 | false, true=>by kernel_rfl
 | true, false=>by kernel_rfl
 | true, true=>by kernel_rfl
theorem portsA_sum {nm:Bs} {S J U:AV} (a b:Bool) (hS:frz S=true) (hJ:frz J=true) (hU:frz U=true) (h:H):RA.sums t83 [.agg [.str nm, slV bsC (prtL a), slV bsC (pwrL b), S, J, U]] h=some i0 :=
 rowA rfl (by simp only [frzs, frz, frz_slV frz_bs, hS, hJ, hU, Bool.and_self]) rfl (portsA_run nm S J U a b) h
def cntS (l:List Bs) (s:Bs):Nat:=(l.filter fun a=>eqS a s).length
def CnI (hh:H) (kd:Nat) (l:List Bs) (s:Bs) (r:Nat) (st:St):Prop:=∃ fr k, st=⟨fr, [], hh, .no, none, t82⟩∧k+r=l.length ∧
 fr.get t0=some (slV bsC ⟨kd, l⟩)∧fr.get t1=some (.str s)∧fr.get t5=some (.int .i64 (.ofNat (cntS (l.take k) s)))∧fr.get t6=some (.int .i64 (.ofNat k))
theorem cntS_le (l:List Bs) (s:Bs) (k:Nat):cntS (l.take k) s≤k:=Nat.le_trans (List.length_filter_le _ _) (by rw [List.length_take]; omega)
theorem cn_round {hh:H} {kd:Nat} {l:List Bs} (hl:l.length<90000) {s:Bs} (r:Nat) (st:St) (h:CnI hh kd l s r st) :
  Stp (CnI hh kd l s) (fun o=>∃ st, o=.exit 0 st∧CnI hh kd l s 0 st) r (execA K0 (callN K0 49) c82_l0 st):=by
 obtain ⟨fr, k, rfl, hk, g0, g1, g5, g6⟩:=h
 cases r with
 | zero =>
  have hkn:(k<l.length)=False:=eq_false (by omega)
  simp +decide only [c82_l0,SF,g0,g6,len_slV,ltI_dec,hkn,stp_e]
  refine ⟨_, rfl, _, k, rfl, hk, ?_, ?_, ?_, ?_⟩
  all_goals simp +decide only [gp,g0,g1,g5,g6,if_false]
 | succ r =>
  have hkn:(k<l.length)=True:=eq_true (by omega)
  obtain ⟨a, hka⟩:∃ a, l[k]?=some a:=⟨_, List.getElem?_eq_getElem (by omega)⟩
  have ia:=at_slV (f:=bsC) (sz:=1) (s:=⟨kd, l⟩) len_bs (by decide) hka
  have hw:=wr_add k 1 (by omega)
  have hw5:=wr_add (cntS (l.take k) s) 1 (by have:=cntS_le l s k; omega)
  simp only [bsC] at ia
  have htk1:cntS (l.take (k+1)) s=cntS (l.take k) s+bif eqS a s then 1 else 0:=by
   rw [List.take_add_one, hka, cntS, List.filter_append, List.length_append]
   simp only [Option.toList, List.filter]
   cases eqS a s<;>rfl
  cases hq:eqS a s with
  | true =>
   rw [hq] at htk1
   simp only [cond_true] at htk1
   simp +decide only [c82_l0,SF,g0,g1,g5,g6,len_slV,ltI_dec,hkn,ia,hq,hw,hw5,stp_n]
   refine ⟨r, by omega, _, k+1, rfl, by omega, ?_, ?_, ?_, ?_⟩
   all_goals simp +decide only [gp,g0,g1,htk1,if_true,if_false]
  | false =>
   rw [hq] at htk1
   simp only [cond_false, Nat.add_zero] at htk1
   simp +decide only [c82_l0,SF,g0,g1,g6,len_slV,ltI_dec,hkn,ia,hq,hw,stp_n]
   refine ⟨r, by omega, _, k+1, rfl, by omega, ?_, ?_, ?_, ?_⟩
   all_goals simp +decide only [gp,g0,g1,g5,htk1,if_true,if_false]
theorem cnt_sum (kd:Nat) {l:List Bs} (hl:l.length<90000) (s:Bs) (h:H):RA.sums t82 [slV bsC ⟨kd, l⟩, .str s] h=some (.int .i64 (.ofNat (cntS l s))):=by
 have hs:∀ xs, K0.sums t82 xs h0=none:=fun _=>rfl
 have hF:K0.funcs.get t82=some c82:=rfl
 have hr:Ret (callN K0 50 (.fn t82 [] []) [slV bsC ⟨kd, l⟩, .str s] h0) (fun v h=>v=.int .i64 (.ofNat (cntS l s))):=by
  refine begin2 (hs _) hF fun fr t ga gb => ?_
  rw [c82]
  simp +decide only [SK,kf0]
  generalize hit:iterA (execA K0 (callN K0 49) c82_l0) _ _=o
  have ho:∃ st, o=.exit 0 st∧CnI ⟨up .e 0, t, .lf⟩ kd l s 0 st:=by
   rw [← hit]
   refine iter_rule (CnI ⟨up .e 0, t, .lf⟩ kd l s) (fun o=>∃ st, o=.exit 0 st∧CnI ⟨up .e 0, t, .lf⟩ kd l s 0 st) (fun r st h=>cn_round hl r st h) 100000 l.length _ ⟨_, 0, rfl, Nat.zero_add _, ?_, ?_, ?_, ?_⟩ (by omega)
   all_goals simp +decide only [gp,ga,gb,if_true,if_false]
   all_goals rfl
  clear hit
  obtain ⟨st, rfl, fr', k, rfl, hk, k0, k1, k5, k6⟩:=ho
  rw [List.take_of_length_le (by omega)] at k5
  simp +decide only [SM,k5]
 obtain ⟨v, h1, hc, rfl⟩:=hr
 exact over_fz' (X:=K0) rfl hc (by simp only [frzs, frz, frz_slV frz_bs, Bool.and_self]) rfl h
end Go.Abs.Sym
end
section
namespace Go.Abs.Sym
open Go.Abs.T
open Go.Proofs
theorem find_ix {α:Type} {p:α→Bool} {x:α}:∀ {l:List α}, l.find? p=some x→∃ i, i<l.length∧l[i]?=some x∧p x=true∧∀ j<i, ∀ y, l[j]?=some y→p y=false
 | [], h=>by cases h
 | a :: l, h=>by
  rw [List.find?_cons] at h
  cases hp:p a with
  | true =>
   rw [hp] at h
   cases h
   exact ⟨0, Nat.zero_lt_succ _, rfl, hp, fun j hj=>absurd hj (Nat.not_lt_zero _)⟩
  | false =>
   rw [hp] at h
   obtain ⟨i, h0, h1, h2, h3⟩:=find_ix h
   refine ⟨i+1, Nat.succ_lt_succ h0, h1, h2, fun j hj y hy => ?_⟩
   cases j with
   | zero=>cases hy; exact hp
   | succ j=>exact h3 j (Nat.lt_of_succ_lt_succ hj) y hy
def GtI (Ts:Sl TypD) (nm:Bs) (i:Nat) (hh:H) (r:Nat) (st:St):Prop:=∃ fr k, st=⟨fr, [], hh, .no, none, t126⟩∧k+r=i ∧
 fr.get t0=some (slV tyC Ts)∧fr.get t1=some (.str nm)∧fr.get t4=some (.ptr (up .e 0) 0)∧fr.get t6=some (.int .i64 (.ofNat k))
theorem gt_round {Ts:Sl TypD} {nm:Bs} {i:Nat} {T:TypD} (hl:Ts.l.length<90000) (hi:Ts.l[i]?=some T) (hq:eqS T.nm nm=true) (hn:∀ j<i, ∀ y, Ts.l[j]?=some y→eqS y.nm nm=false) {t:Tr AB} (a0:t.get (up .e 0)=some (.cells [e0, .nils, .nils] false)) (r:Nat) (st:St) (h:GtI Ts nm i ⟨up .e 1, t, .lf⟩ r st) :
  Stp (GtI Ts nm i ⟨up .e 1, t, .lf⟩) (fun o=>∃ fr t', o=.ret ⟨fr, [], ⟨up .e 1, t', .lf⟩, .no, none, t126⟩∧fr.get t4=some (.ptr (up .e 0) 0)∧fr.get t5=some (.bool true)∧t'.get (up .e 0)=some (.cells (tyC T) false)) r (execA K0 (callN K0 49) c126_l0 st):=by
 obtain ⟨fr, k, rfl, hk, g0, g1, g4, g6⟩:=h
 have hil:i<Ts.l.length:=(List.getElem?_eq_some_iff.1 hi).1
 have hkn:(k<Ts.l.length)=True:=eq_true (by omega)
 cases r with
 | zero =>
  have:k=i:=by omega
  subst this
  have ia:=at_slV (f:=tyC) (sz:=3) (fun _=>rfl) (by decide) hi
  have htk:takeD (tyC T++(Ts.l.drop (k+1)).flatMap tyC) 0 3=some (tyC T):=tk_app rfl
  simp only [tyC] at ia htk
  simp +decide only [c126_l0,SF,Nat.reduceAdd,Nat.reduceLeDiff,g0,g1,g4,g6,a0,len_slV,ltI_dec,hkn,ia,hq,stp_r]
  refine ⟨_, _, rfl, ?_, ?_, ?_⟩
  all_goals simp +decide only [gp,g4,tyC,if_true,if_false]
 | succ r =>
  obtain ⟨a, hka⟩:∃ a, Ts.l[k]?=some a:=⟨_, List.getElem?_eq_getElem (by omega)⟩
  have ia:=at_slV (f:=tyC) (sz:=3) (fun _=>rfl) (by decide) hka
  have hqa:=hn k (by omega) a hka
  have hw:=wr_add k 1 (by omega)
  simp only [tyC] at ia
  simp +decide only [c126_l0,SF,Nat.reduceAdd,Nat.reduceLeDiff,g0,g1,g6,len_slV,ltI_dec,hkn,ia,hqa,hw,stp_n]
  refine ⟨r, by omega, _, k+1, rfl, by omega, ?_, ?_, ?_, ?_⟩
  all_goals simp +decide only [gp,g0,g1,g4,if_true,if_false]
theorem getA_sum {Ts:Sl TypD} (hl:Ts.l.length<90000) {nm:Bs} {T:TypD} (hT:Ts.l.find? (fun T=>eqS T.nm nm)=some T) (h:H):RA.sums t126 [slV tyC Ts, .str nm] h=some (.tup [.agg (tyC T), .bool true]):=by
 obtain ⟨i, hil, hi, hq, hn⟩:=find_ix hT
 have hs:∀ xs, K0.sums t126 xs h0=none:=fun _=>rfl
 have hF:K0.funcs.get t126=some c126:=rfl
 have hr:Ret (callN K0 50 (.fn t126 [] []) [slV tyC Ts, .str nm] h0) (fun v h=>v=.tup [.agg (tyC T), .bool true]):=by
  refine begin2 (hs _) hF fun fr t ga gb => ?_
  rw [c126]
  simp +decide only [SK,kf0]
  generalize hit:iterA (execA K0 (callN K0 49) c126_l0) _ _=o
  have ho:∃ fr t', o=.ret ⟨fr, [], ⟨up .e 1, t', .lf⟩, .no, none, t126⟩∧fr.get t4=some (.ptr (up .e 0) 0)∧fr.get t5=some (.bool true)∧t'.get (up .e 0)=some (.cells (tyC T) false):=by
   rw [← hit]
   refine iter_rule (GtI Ts nm i ⟨up .e 1, _, .lf⟩) _ (fun r st h=>gt_round hl hi hq hn (by simp +decide only [gp,if_true]) r st h) 100000 i _ ⟨_, 0, rfl, Nat.zero_add _, ?_, ?_, ?_, ?_⟩ (by omega)
   all_goals simp +decide only [gp,ga,gb,if_true,if_false]
   all_goals rfl
  clear hit
  obtain ⟨fr', t', rfl, k4, k5, a0⟩:=ho
  have htk:takeD (tyC T) 0 3=some (tyC T):=takeD_all rfl
  simp only [tyC] at a0 htk
  simp +decide only [SM,k4,k5,a0,htk]
  rfl
 obtain ⟨v, h1, hc, rfl⟩:=hr
 exact over_fz' (X:=K0) rfl hc (by simp only [frzs, frz, frz_slV frz_ty, Bool.and_self]) (by simp only [frz, frzs, frz_ty, Bool.and_self]) h
end Go.Abs.Sym
end
section
namespace Go.Abs.Sym
open Go.Abs.T
open Go.Proofs
def IxI (nm:Bs) (i:Nat) (hh:H) (r:Nat) (st:St):Prop:=∃ fr k, st=⟨fr, [], hh, .no, none, t158⟩∧k+r=i ∧
 fr.get t1=some (.str nm)∧fr.get t2=some (.ptr (up .e 0) 0)∧fr.get t5=some (.int .i64 (.ofNat k))
theorem ix_round {T:TypD} {nm:Bs} {i:Nat} {p:PadD} (hl:T.pads.l.length<90000) (hi:T.pads.l[i]?=some p) (hq:eqS p.nm nm=true) (hn:∀ j<i, ∀ y, T.pads.l[j]?=some y→eqS y.nm nm=false) {t:Tr AB} (a0:t.get (up .e 0)=some (.cells (tyC T) false)) (r:Nat) (st:St) (h:IxI nm i ⟨up .e 1, t, .lf⟩ r st) :
  Stp (IxI nm i ⟨up .e 1, t, .lf⟩) (fun o=>∃ fr t', o=.ret ⟨fr, [], ⟨up .e 1, t', .lf⟩, .no, none, t158⟩∧fr.get t4=some (.int .i64 (.ofNat i))) r (execA K0 (callN K0 49) c158_l0 st):=by
 obtain ⟨fr, k, rfl, hk, g1, g2, g5⟩:=h
 have hil:i<T.pads.l.length:=(List.getElem?_eq_some_iff.1 hi).1
 have hkn:(k<T.pads.l.length)=True:=eq_true (by omega)
 simp only [tyC] at a0
 cases r with
 | zero =>
  have:k=i:=by omega
  subst this
  have ia:=at_slV (f:=padC) (sz:=7) (fun _=>rfl) (by decide) hi
  simp only [padC] at ia
  simp +decide only [c158_l0,SF,Nat.reduceAdd,Nat.reduceLeDiff,g1,g2,g5,a0,len_slV,ltI_dec,hkn,ia,hq,stp_r]
  refine ⟨_, _, rfl, ?_⟩
  all_goals simp +decide only [gp,if_true,if_false]
 | succ r =>
  obtain ⟨a, hka⟩:∃ a, T.pads.l[k]?=some a:=⟨_, List.getElem?_eq_getElem (by omega)⟩
  have ia:=at_slV (f:=padC) (sz:=7) (fun _=>rfl) (by decide) hka
  have hqa:=hn k (by omega) a hka
  have hw:=wr_add k 1 (by omega)
  simp only [padC] at ia
  simp +decide only [c158_l0,SF,Nat.reduceAdd,Nat.reduceLeDiff,g1,g2,g5,a0,len_slV,ltI_dec,hkn,ia,hqa,hw,stp_n]
  refine ⟨r, by omega, _, k+1, rfl, by omega, ?_, ?_, ?_⟩
  all_goals simp +decide only [gp,g1,g2,if_true,if_false]
theorem indexA_sum {T:TypD} (hl:T.pads.l.length<90000) {nm:Bs} {i:Nat} {p:PadD} (hi:T.pads.l[i]?=some p) (hq:eqS p.nm nm=true) (hn:∀ j<i, ∀ y, T.pads.l[j]?=some y→eqS y.nm nm=false) (h:H):RA.sums t158 [.agg (tyC T), .str nm] h=some (.int .i64 (.ofNat i)):=by
 have hil:i<T.pads.l.length:=(List.getElem?_eq_some_iff.1 hi).1
 have hs:∀ xs, K0.sums t158 xs h0=none:=fun _=>rfl
 have hF:K0.funcs.get t158=some c158:=rfl
 have hr:Ret (callN K0 50 (.fn t158 [] []) [.agg (tyC T), .str nm] h0) (fun v h=>v=.int .i64 (.ofNat i)):=by
  refine begin2 (hs _) hF fun fr t ga gb => ?_
  rw [c158]
  have ga':=ga
  simp only [tyC] at ga'
  simp +decide only [SK,ga',kf0]
  generalize hit:iterA (execA K0 (callN K0 49) c158_l0) _ _=o
  have ho:∃ fr t, o=.ret ⟨fr, [], ⟨up .e 1, t, .lf⟩, .no, none, t158⟩∧fr.get t4=some (.int .i64 (.ofNat i)):=by
   rw [← hit]
   refine iter_rule (IxI nm i ⟨up .e 1, _, .lf⟩) _ (fun r st h=>ix_round (T:=T) hl hi hq hn (by simp +decide only [gp,tyC,if_true]) r st h) 100000 i _ ⟨_, 0, rfl, Nat.zero_add _, ?_, ?_, ?_⟩ (by omega)
   all_goals simp +decide only [gp,gb,if_true,if_false]
  clear hit
  obtain ⟨fr', t', rfl, k4⟩:=ho
  simp +decide only [SM,k4]
 obtain ⟨v, h1, hc, rfl⟩:=hr
 exact over_fz' (X:=K0) rfl hc (by simp only [frzs, frz, frz_ty, Bool.and_self]) rfl h
def RB:Ctx:=over RA [t128,t127,t41] []
theorem kfA:RA.fuel=100000:=rfl
theorem findA_sum {T:TypD} (hl:T.pads.l.length<90000) {nm:Bs} {p:PadD} (hp:findP T nm=some p) (h:H):RB.sums t128 [.agg (tyC T), .str nm] h=some (.tup [.agg (padC p), .bool true]):=by
 obtain ⟨i, hil, hi, hq, hn⟩:=find_ix hp
 have hs:∀ xs, RA.sums t128 xs h0=none:=fun _=>rfl
 have hF:RA.funcs.get t128=some c128:=rfl
 have hr:Ret (callN RA 50 (.fn t128 [] []) [.agg (tyC T), .str nm] h0) (fun v h=>v=.tup [.agg (padC p), .bool true]):=by
  refine begin2 (hs _) hF fun fr t ga gb => ?_
  rw [c128]
  have ga':=ga
  simp only [tyC] at ga'
  have hix:∀ h, callN RA 49 (.fn t158 [] []) [.agg (tyC T), .str nm] h=.ret (.int .i64 (.ofNat i)) h:=fun h=>call_sum (by rw [List.nil_append, List.append_nil]; exact indexA_sum hl hi hq hn h)
  simp only [tyC] at hix
  have htk:takeD [AV.str T.nm, slV padC T.pads, slV gateC T.gates] 0 3=some [AV.str T.nm, slV padC T.pads, slV gateC T.gates]:=takeD_all rfl
  have ia:=at_slV (f:=padC) (sz:=7) (fun _=>rfl) (by decide) hi
  have htp:takeD (padC p++(T.pads.l.drop (i+1)).flatMap padC) 0 7=some (padC p):=tk_app rfl
  have hlt:ltI (.ofNat i) (.ofNat 0)=false:=by rw [ltI_dec]; exact decide_eq_false (by omega)
  simp only [padC] at ia htp
  simp +decide only [SF,Nat.reduceAdd,ga',gb,htk,hix,hlt,ia]
  rfl
 obtain ⟨v, h1, hc, rfl⟩:=hr
 exact over_fz' (X:=RA) rfl hc (by simp only [frzs, frz, frz_ty, Bool.and_self]) (by simp only [frz, frzs, padC, frz_slV frz_ed, Bool.and_self]) h
end Go.Abs.Sym
end
section
namespace Go.Abs.Sym
open Go.Abs.T
open Go.Proofs
def dR (top S:AV) (Ts:Sl TypD) (V:AV):List AV:=[top, S, slV tyC Ts, V]
def YbI (_sy:Sl SymD) (ref:Bs) (i:Nat) (hh:H) (r:Nat) (st:St):Prop:=∃ fr k, st=⟨fr, [], hh, .no, none, t127⟩∧k+r=i ∧
 fr.get t2=some (.str ref)∧fr.get t3=some (.ptr (up .e 0) 0)∧fr.get t4=some (.ptr (up .e 1) 0)∧fr.get t6=some (.ptr (up .e 2) 0)∧fr.get t8=some (.int .i64 (.ofNat k))
theorem yb_round {top S V:AV} {Ts:Sl TypD} {s:SheetD} {ref:Bs} {i:Nat} {x:SymD} {T:TypD} (hl:s.syms.l.length<90000) (lT:Ts.l.length<90000) (hi:s.syms.l[i]?=some x) (hq:eqS x.ref ref=true) (hn:∀ j<i, ∀ y, s.syms.l[j]?=some y→eqS y.ref ref=false)
  (hT:Ts.l.find? (fun T=>eqS T.nm x.ty)=some T) {t:Tr AB} (a0:t.get (up .e 0)=some (.cells (dR top S Ts V) false)) (a1:t.get (up .e 1)=some (.cells (sheetC s) false)) (a2:t.get (up .e 2)=some (.cells [e0, .nils, .nils] false)) (r:Nat) (st:St) (h:YbI s.syms ref i ⟨up .e 3, t, .lf⟩ r st) :
  Stp (YbI s.syms ref i ⟨up .e 3, t, .lf⟩) (fun o=>∃ fr t' m, o=.ret ⟨fr, [], ⟨up .e m, t', .lf⟩, .no, none, t127⟩∧fr.get t6=some (.ptr (up .e 2) 0)∧fr.get t7=some (.bool true)∧t'.get (up .e 2)=some (.cells (tyC T) false)) r (execA RA (callN RA 49) c127_l0 st):=by
 obtain ⟨fr, k, rfl, hk, g2, g3, g4, g6, g8⟩:=h
 have hil:i<s.syms.l.length:=(List.getElem?_eq_some_iff.1 hi).1
 have hkn:(k<s.syms.l.length)=True:=eq_true (by omega)
 simp only [dR] at a0
 simp only [sheetC] at a1
 cases r with
 | zero =>
  have:k=i:=by omega
  subst this
  have ia:=at_slV (f:=symC) (sz:=3) len_sym (by decide) hi
  have hge:∀ h, callN RA 49 (.fn t126 [] []) [slV tyC Ts, .str x.ty] h=.ret (.tup [.agg (tyC T), .bool true]) h:=fun h=>call_sum (by rw [List.nil_append, List.append_nil]; exact getA_sum lT hT h)
  simp only [symC] at ia
  simp only [tyC] at hge
  simp +decide only [c127_l0,SF,Nat.reduceAdd,Nat.reduceLeDiff,g2,g3,g4,g6,g8,a0,a1,a2,len_slV,ltI_dec,hkn,ia,hq,hge,stp_r,List.getElem?_cons_zero,List.getElem?_cons_succ,dopsA]
  refine ⟨_, _, _, rfl, ?_, ?_, ?_⟩
  all_goals simp +decide only [gp,g6,tyC,if_true,if_false]
 | succ r =>
  obtain ⟨a, hka⟩:∃ a, s.syms.l[k]?=some a:=⟨_, List.getElem?_eq_getElem (by omega)⟩
  have ia:=at_slV (f:=symC) (sz:=3) len_sym (by decide) hka
  have hqa:=hn k (by omega) a hka
  have hw:=wr_add k 1 (by omega)
  simp only [symC] at ia
  simp +decide only [c127_l0,SF,Nat.reduceAdd,Nat.reduceLeDiff,g2,g4,g8,a1,len_slV,ltI_dec,hkn,ia,hqa,hw,stp_n]
  refine ⟨r, by omega, _, k+1, rfl, by omega, ?_, ?_, ?_, ?_, ?_⟩
  all_goals simp +decide only [gp,g2,g3,g4,g6,if_true,if_false]
theorem symbolA_sum {top S V:AV} {Ts:Sl TypD} {s:SheetD} {ref:Bs} {x:SymD} {T:TypD} (hl:s.syms.l.length<90000) (lT:Ts.l.length<90000) (hx:s.syms.l.find? (fun x=>eqS x.ref ref)=some x)
  (hT:Ts.l.find? (fun T=>eqS T.nm x.ty)=some T) (hf:frzs (dR top S Ts V)=true) (h:H):RB.sums t127 [.agg (dR top S Ts V), .agg (sheetC s), .str ref] h=some (.tup [.agg (tyC T), .bool true]):=by
 obtain ⟨i, hil, hi, hq, hn⟩:=find_ix hx
 have hs:∀ xs, RA.sums t127 xs h0=none:=fun _=>rfl
 have hF:RA.funcs.get t127=some c127:=rfl
 have hr:Ret (callN RA 50 (.fn t127 [] []) [.agg (dR top S Ts V), .agg (sheetC s), .str ref] h0) (fun v h=>v=.tup [.agg (tyC T), .bool true]):=by
  refine begin3 (hs _) hF fun fr t ga gb gc => ?_
  rw [c127]
  simp only [dR] at ga
  simp only [sheetC] at gb
  simp +decide only [SK,Nat.reduceAdd,ga,gb,kfA]
  generalize hit:iterA (execA RA (callN RA 49) c127_l0) _ _=o
  have ho:∃ fr t' m, o=.ret ⟨fr, [], ⟨up .e m, t', .lf⟩, .no, none, t127⟩∧fr.get t6=some (.ptr (up .e 2) 0)∧fr.get t7=some (.bool true)∧t'.get (up .e 2)=some (.cells (tyC T) false):=by
   rw [← hit]
   refine iter_rule (YbI s.syms ref i ⟨up .e 3, _, .lf⟩) _ (fun r st h=>yb_round (top:=top) (S:=S) (V:=V) hl lT hi hq hn hT (by simp +decide only [gp,dR,if_true,if_false]) (by simp +decide only [gp,sheetC,if_true,if_false]) (by simp +decide only [gp,if_true,if_false]) r st h) 100000 i _ ⟨_, 0, rfl, Nat.zero_add _, ?_, ?_, ?_, ?_, ?_⟩ (by omega)
   all_goals simp +decide only [gp,gc,if_true,if_false]
  clear hit
  obtain ⟨fr', t', m, rfl, k6, k7, a2⟩:=ho
  have htk:takeD (tyC T) 0 3=some (tyC T):=takeD_all rfl
  simp only [tyC] at a2 htk
  simp +decide only [SM,k6,k7,a2,htk]
  rfl
 obtain ⟨v, h1, hc, rfl⟩:=hr
 exact over_fz' (X:=RA) rfl hc (by simp only [frzs, frz, frz_sheet, hf, Bool.and_self]) (by simp only [frz, frzs, frz_ty, Bool.and_self]) h
end Go.Abs.Sym
end
section
namespace Go.Abs.Sym
open Go.Abs.T
open Go.Proofs
theorem kfB:RB.fuel=100000:=rfl
theorem sBA {f:Nat} {i:Pth} {xs:List AV} {v:AV} {h:H} (h1:memP i [t128,t127,t41]=false) (h4:RA.sums i xs h=some v):callN RB (f+1) (g i) xs h=.ret v h :=
 call_sum (by rw [List.nil_append, List.append_nil]; exact (over_rest (X:=RA) h1 rfl xs h).trans h4)
def ysR:List Pth:=[t2, t3, t4, t7, t8]
def NmI (n m0:Nat) (t:Tr AB) (fr0:Tr AV) (r:Nat) (st:St):Prop:=∃ fr k m, st=⟨fr, [], ⟨up .e m, t, .lf⟩, .no, none, t84⟩∧k+r=n∧m0≤m∧KeepF ysR fr0 fr∧fr.get t10=some (.int .i64 (.ofNat k))
theorem nm_round {s:SheetD} {x:SymD} {n xb m:Nat} {t:Tr AB} {fr0:Tr AV} (hn:n<s.syms.l.length) (hl:s.syms.l.length<90000) (hd:∀ j<n, ∀ y, s.syms.l[j]?=some y→eqS y.ref x.ref=false)
  (g4:fr0.get t4=some (.ptr (up .e 1) 0)) (g7:fr0.get t7=some (.int .i64 (.ofNat n))) (g8:fr0.get t8=some (.ptr (up .e xb) 0)) (a1:t.get (up .e 1)=some (.cells (sheetC s) false)) (ax:t.get (up .e xb)=some (.cells (symC x) false)) (r:Nat) (st:St) (h:NmI n m t fr0 r st) :
  Stp (NmI n m t fr0) (fun o=>∃ st, o=.exit 2 st∧NmI n m t fr0 0 st) r (execA RB (callN RB 49) c84_l0 st):=by
 obtain ⟨fr, k, m1, rfl, hk, hm, kf, g10⟩:=h
 have h4:=(kf t4 (by simp [ysR])).trans g4
 have h7:=(kf t7 (by simp [ysR])).trans g7
 have h8:=(kf t8 (by simp [ysR])).trans g8
 simp only [sheetC] at a1
 simp only [symC] at ax
 cases r with
 | zero =>
  have hkn:(k<n)=False:=eq_false (by omega)
  simp +decide only [c84_l0,SF,h7,g10,ltI_dec,hkn,stp_e]
  refine ⟨_, rfl, _, k, m1, rfl, hk, hm, ?_, ?_⟩
  ·simp +decide only [KeepF_put]
   exact kf
  all_goals simp +decide only [gp,g10,if_false]
 | succ r =>
  have hkn:(k<n)=True:=eq_true (by omega)
  obtain ⟨a, hka⟩:∃ a, s.syms.l[k]?=some a:=⟨_, List.getElem?_eq_getElem (by omega)⟩
  have ia:=at_slV (f:=symC) (sz:=3) len_sym (by decide) hka
  have hqa:=hd k (by omega) a hka
  have hw:=wr_add k 1 (by omega)
  simp only [symC] at ia
  simp +decide only [c84_l0,SF,Nat.reduceAdd,Nat.reduceLeDiff,h4,h7,h8,g10,a1,ax,ltI_dec,hkn,ia,hqa,hw,stp_n]
  refine ⟨r, by omega, _, k+1, _, rfl, by omega, by omega, ?_, ?_⟩
  ·simp +decide only [KeepF_put]
   exact kf
  all_goals simp +decide only [gp,if_true,if_false]
theorem nm_loop {s:SheetD} {x:SymD} {n xb m:Nat} {t:Tr AB} {fr0:Tr AV} {o:Out} (hit:iterA (execA RB (callN RB 49) c84_l0) 100000 ⟨fr0, [], ⟨up .e m, t, .lf⟩, .no, none, t84⟩=o) (hn:n<s.syms.l.length) (hl:s.syms.l.length<90000) (hd:∀ j<n, ∀ y, s.syms.l[j]?=some y→eqS y.ref x.ref=false)
  (g4:fr0.get t4=some (.ptr (up .e 1) 0)) (g7:fr0.get t7=some (.int .i64 (.ofNat n))) (g8:fr0.get t8=some (.ptr (up .e xb) 0)) (g10:fr0.get t10=some (.int .i64 (.ofNat 0))) (a1:t.get (up .e 1)=some (.cells (sheetC s) false)) (ax:t.get (up .e xb)=some (.cells (symC x) false)) :
  ∃ fr m', o=.exit 2 ⟨fr, [], ⟨up .e m', t, .lf⟩, .no, none, t84⟩∧m≤m'∧KeepF ysR fr0 fr:=by
 have:=iter_rule (NmI n m t fr0) (fun o=>∃ st, o=.exit 2 st∧NmI n m t fr0 0 st) (fun r st h=>nm_round hn hl hd g4 g7 g8 a1 ax r st h) 100000 n _ ⟨_, 0, m, rfl, Nat.zero_add _, Nat.le_refl _, fun _ _=>rfl, g10⟩ (by omega)
 rw [hit] at this
 obtain ⟨st, e, fr, k, m1, rfl, _, hm, kf, _⟩:=this
 exact ⟨fr, m1, e, hm, kf⟩
def NvI (n m0:Nat) (t:Tr AB) (fr0:Tr AV) (r:Nat) (st:St):Prop:=∃ fr k m, st=⟨fr, [], ⟨up .e m, t, .lf⟩, .no, none, t84⟩∧k+r=n∧m0≤m∧KeepF ysR fr0 fr∧fr.get t13=some (.int .i64 (.ofNat k))
theorem nv_round {top S:AV} {Ts:Sl TypD} {va nots:Sl Bs} {ref ty:AV} {xb m:Nat} {t:Tr AB} {fr0:Tr AV} (lv:va.l.length<90000) (ln:nots.l.length<90000) (hd:∀ k a, nots.l[k]?=some a→0<cntS va.l a∧cntS (nots.l.take k) a=0)
  (g3:fr0.get t3=some (.ptr (up .e 0) 0)) (g8:fr0.get t8=some (.ptr (up .e xb) 0)) (a0:t.get (up .e 0)=some (.cells (dR top S Ts (slV bsC va)) false)) (ax:t.get (up .e xb)=some (.cells [ref, ty, slV bsC nots] false)) (r:Nat) (st:St) (h:NvI nots.l.length m t fr0 r st) :
  Stp (NvI nots.l.length m t fr0) (fun o=>∃ st, o=.exit 4 st∧NvI nots.l.length m t fr0 0 st) r (execA RB (callN RB 49) c84_l1 st):=by
 obtain ⟨fr, k, m1, rfl, hk, hm, kf, g13⟩:=h
 have h3:=(kf t3 (by simp [ysR])).trans g3
 have h8:=(kf t8 (by simp [ysR])).trans g8
 simp only [dR] at a0
 cases r with
 | zero =>
  have hkn:(k<nots.l.length)=False:=eq_false (by omega)
  simp +decide only [c84_l1,SF,h8,ax,g13,len_slV,ltI_dec,hkn,stp_e]
  refine ⟨_, rfl, _, k, m1, rfl, hk, hm, ?_, ?_⟩
  ·simp +decide only [KeepF_put]
   exact kf
  all_goals simp +decide only [gp,g13,if_false]
 | succ r =>
  have hkn:(k<nots.l.length)=True:=eq_true (by omega)
  obtain ⟨a, hka⟩:∃ a, nots.l[k]?=some a:=⟨_, List.getElem?_eq_getElem (by omega)⟩
  have ia:=at_slV (f:=bsC) (sz:=1) len_bs (by decide) hka
  have hw:=wr_add k 1 (by omega)
  obtain ⟨c1, c2⟩:=hd k a hka
  have hc1:∀ h, callN RB 49 (.fn t82 [] []) [slV bsC va, .str a] h=.ret (.int .i64 (.ofNat (cntS va.l a))) h:=fun h=>sBA (f:=48) rfl (cnt_sum va.kind lv a h)
  have hsl:=slice_slV (f:=bsC) (sz:=1) len_bs (kd:=nots.kind) (l:=nots.l) (k:=k) (fun e=>by rw [e] at hka; exact absurd hka (by simp)) (by omega)
  have hc2:∀ h, callN RB 49 (.fn t82 [] []) [slV bsC ⟨1, nots.l.take k⟩, .str a] h=.ret (.int .i64 (.ofNat 0)) h:=fun h=>by
   have:=cnt_sum 1 (l:=nots.l.take k) (by simp only [List.length_take]; omega) a h
   rw [c2] at this
   exact sBA (f:=48) rfl this
  have e1:eqI (.ofNat (cntS va.l a)) (.ofNat 0)=false:=by
   cases hc:cntS va.l a with
   | zero=>omega
   | succ n=>rfl
  have e2:ltI (.ofNat 0) (.ofNat 0)=false:=rfl
  simp only [bsC] at ia
  simp +decide only [c84_l1,SF,Nat.reduceAdd,h3,h8,g13,a0,ax,len_slV,ltI_dec,hkn,ia,hc1,hc2,hsl,e1,e2,hw,stp_n,dopsA]
  refine ⟨r, by omega, _, k+1, _, rfl, by omega, by omega, ?_, ?_⟩
  ·simp +decide only [KeepF_put]
   exact kf
  all_goals simp +decide only [gp,if_true,if_false]
theorem nv_loop {top S:AV} {Ts:Sl TypD} {va nots:Sl Bs} {ref ty:AV} {xb m:Nat} {t:Tr AB} {fr0:Tr AV} {o:Out} (hit:iterA (execA RB (callN RB 49) c84_l1) 100000 ⟨fr0, [], ⟨up .e m, t, .lf⟩, .no, none, t84⟩=o) (lv:va.l.length<90000) (ln:nots.l.length<90000) (hd:∀ k a, nots.l[k]?=some a→0<cntS va.l a∧cntS (nots.l.take k) a=0)
  (g3:fr0.get t3=some (.ptr (up .e 0) 0)) (g8:fr0.get t8=some (.ptr (up .e xb) 0)) (g13:fr0.get t13=some (.int .i64 (.ofNat 0))) (a0:t.get (up .e 0)=some (.cells (dR top S Ts (slV bsC va)) false)) (ax:t.get (up .e xb)=some (.cells [ref, ty, slV bsC nots] false)) :
  ∃ fr m', o=.exit 4 ⟨fr, [], ⟨up .e m', t, .lf⟩, .no, none, t84⟩∧m≤m'∧KeepF ysR fr0 fr:=by
 have:=iter_rule (NvI nots.l.length m t fr0) (fun o=>∃ st, o=.exit 4 st∧NvI nots.l.length m t fr0 0 st) (fun r st h=>nv_round lv ln hd g3 g8 a0 ax r st h) 100000 nots.l.length _ ⟨_, 0, m, rfl, Nat.zero_add _, Nat.le_refl _, fun _ _=>rfl, g13⟩ (by omega)
 rw [hit] at this
 obtain ⟨st, e, fr, k, m1, rfl, _, hm, kf, _⟩:=this
 exact ⟨fr, m1, e, hm, kf⟩
end Go.Abs.Sym
end
section
namespace Go.Abs.Sym
open Go.Abs.T
open Go.Proofs
structure SymOk (Ts:Sl TypD) (va:Sl Bs) (x:SymD):Prop where
 right:x.ref∈rightNs
 ty:∃ T, Ts.l.find? (fun T=>eqS T.nm x.ty)=some T
 ln:x.nots.l.length<90000
 nots:∀ k a, x.nots.l[k]?=some a→0<cntS va.l a∧cntS (x.nots.l.take k) a=0
structure YsOK (Ts:Sl TypD) (va:Sl Bs) (s:SheetD):Prop where
 lt:s.syms.l.length<90000
 lT:Ts.l.length<90000
 lv:va.l.length<90000
 ok:∀ (k:Nat) x, s.syms.l[k]?=some x→SymOk Ts va x∧∀ j<k, ∀ y, s.syms.l[j]?=some y→eqS y.ref x.ref=false
def YsI (top S:AV) (Ts:Sl TypD) (va:Sl Bs) (s:SheetD) (r:Nat) (st:St):Prop:=∃ fr m t k, st=⟨fr, [], ⟨up .e m, t, .lf⟩, .no, none, t84⟩∧k+r=s.syms.l.length∧2≤m ∧
 fr.get t3=some (.ptr (up .e 0) 0)∧fr.get t4=some (.ptr (up .e 1) 0)∧fr.get t7=some (.int .i64 (.ofNat k))∧t.get (up .e 0)=some (.cells (dR top S Ts (slV bsC va)) false)∧t.get (up .e 1)=some (.cells (sheetC s) false)
theorem ys_round {top S:AV} {Ts:Sl TypD} {va:Sl Bs} {s:SheetD} (ok:YsOK Ts va s) (r:Nat) (st:St) (h:YsI top S Ts va s r st) :
  Stp (YsI top S Ts va s) (fun o=>∃ st, o=.exit 0 st∧YsI top S Ts va s 0 st) r (execA RB (callN RB 49) c84_l2 st):=by
 obtain ⟨fr, m, t, k, rfl, hk, hm, g3, g4, g7, a0, a1⟩:=h
 have hlt:=ok.lt
 have b0:=a0
 have b1:=a1
 simp only [dR] at b0
 simp only [sheetC] at b1
 cases r with
 | zero =>
  have hkn:(k<s.syms.l.length)=False:=eq_false (by omega)
  simp +decide only [c84_l2,SF,g4,g7,b1,len_slV,ltI_dec,hkn,stp_e]
  refine ⟨_, rfl, _, m, t, k, rfl, hk, hm, ?_, ?_, ?_, a0, a1⟩
  all_goals simp +decide only [gp,g3,g4,g7,if_false]
 | succ r =>
  have hkn:(k<s.syms.l.length)=True:=eq_true (by omega)
  obtain ⟨x, hka⟩:∃ x, s.syms.l[k]?=some x:=⟨_, List.getElem?_eq_getElem (by omega)⟩
  have ia:=at_slV (f:=symC) (sz:=3) len_sym (by decide) hka
  have hw:=wr_add k 1 (by omega)
  obtain ⟨fx, hd⟩:=ok.ok k x hka
  obtain ⟨T, hT⟩:=fx.ty
  have hri:∀ h, callN RB 49 (.fn t81 [] []) [.str x.ref] h=.ret (.bool true) h:=fun h=>sBA (f:=48) rfl (rightA_sum fx.right h)
  have hge:∀ h, callN RB 49 (.fn t126 [] []) [slV tyC Ts, .str x.ty] h=.ret (.tup [.agg (tyC T), .bool true]) h:=fun h=>sBA (f:=48) rfl (getA_sum ok.lT hT h)
  have htk:takeD (symC x++(s.syms.l.drop (k+1)).flatMap symC) 0 3=some (symC x):=tk_sym x _
  have n0:(0=m)=False:=eq_false (by omega)
  have n0':∀ c, (0=m+c)=False:=fun c=>eq_false (by omega)
  have n1:(1=m)=False:=eq_false (by omega)
  have n1':∀ c, (1=m+c)=False:=fun c=>eq_false (by omega)
  simp only [symC] at ia htk
  simp only [tyC] at hge
  simp +decide only [c84_l2,SF,Nat.reduceAdd,g4,g7,b1,hri,ltI_dec,hkn,ia,len_slV,kfB]
  generalize hit:iterA (execA RB (callN RB 49) c84_l0) _ _=o
  obtain ⟨fr2, m2, rfl, hm2, kf⟩:=nm_loop (s:=s) (x:=x) (n:=k) (xb:=m) hit (by omega) (by omega) hd
   (by simp +decide only [gp,g4,if_false]) (by simp +decide only [gp,g7,if_false]) (by simp +decide only [gp,if_true,if_false]) (by simp +decide only [gp,if_true,if_false])
   (by simp +decide only [gp,up_inj,n1,sheetC,b1,if_false]) (by simp +decide only [gp,symC,if_true])
  clear hit
  have k3:fr2.get t3=some (.ptr (up .e 0) 0):=(kf t3 (by simp [ysR])).trans (by simp +decide only [gp,g3,if_false])
  have k4:fr2.get t4=some (.ptr (up .e 1) 0):=(kf t4 (by simp [ysR])).trans (by simp +decide only [gp,g4,if_false])
  have k7:fr2.get t7=some (.int .i64 (.ofNat k)):=(kf t7 (by simp [ysR])).trans (by simp +decide only [gp,g7,if_false])
  have k8:fr2.get t8=some (.ptr (up .e m) 0):=(kf t8 (by simp [ysR])).trans (by simp +decide only [gp,if_true,if_false])
  clear kf
  have nm0:(m=m2)=False:=eq_false (by omega)
  have nm':∀ c, (m=m2+c)=False:=fun c=>eq_false (by omega)
  have p0:(0=m2)=False:=eq_false (by omega)
  have p1:(1=m2)=False:=eq_false (by omega)
  simp +decide only [SF,Nat.reduceAdd,k3,k8,b0,n0,hge,List.getElem?_cons_zero,List.getElem?_cons_succ]
  generalize hit:iterA (execA RB (callN RB 49) c84_l1) _ _=o
  obtain ⟨fr3, m3, rfl, hm3, kf⟩:=nv_loop (top:=top) (S:=S) (Ts:=Ts) (va:=va) (nots:=x.nots) (ref:=.str x.ref) (ty:=.str x.ty) (xb:=m) hit ok.lv fx.ln fx.nots
   (by simp +decide only [gp,k3,if_false]) (by simp +decide only [gp,k8,if_false]) (by simp +decide only [gp,if_true,if_false])
   (by simp +decide only [gp,up_inj,n0,p0,dR,b0,if_false]) (by simp +decide only [gp,up_inj,nm0,if_true,if_false])
  clear hit
  have q3:fr3.get t3=some (.ptr (up .e 0) 0):=(kf t3 (by simp [ysR])).trans (by simp +decide only [gp,k3,if_false])
  have q4:fr3.get t4=some (.ptr (up .e 1) 0):=(kf t4 (by simp [ysR])).trans (by simp +decide only [gp,k4,if_false])
  have q7:fr3.get t7=some (.int .i64 (.ofNat k)):=(kf t7 (by simp [ysR])).trans (by simp +decide only [gp,k7,if_false])
  clear kf
  simp +decide only [SF,q7,hw,stp_n]
  refine ⟨r, by omega, _, m3, _, k+1, rfl, by omega, by omega, ?_, ?_, ?_, ?_, ?_⟩
  all_goals simp +decide only [gp,up_inj,n0,n1,p0,p1,q3,q4,a0,a1,if_true,if_false]
def RC:Ctx:=over RB [t84,t85,t86] []
theorem symsA_sum {top S:AV} {Ts:Sl TypD} {va:Sl Bs} {s:SheetD} (ok:YsOK Ts va s) (pm:Bool) (hf:frzs (dR top S Ts (slV bsC va))=true) (h:H):RC.sums t84 [.agg (dR top S Ts (slV bsC va)), .agg (sheetC s), .bool pm] h=some i0:=by
 have hs:∀ xs, RB.sums t84 xs h0=none:=fun _=>rfl
 have hF:RB.funcs.get t84=some c84:=rfl
 have hr:Ret (callN RB 50 (.fn t84 [] []) [.agg (dR top S Ts (slV bsC va)), .agg (sheetC s), .bool pm] h0) (fun v h=>v=i0):=by
  refine begin3 (hs _) hF fun fr t ga gb gc => ?_
  rw [c84]
  have ga':=ga
  have gb':=gb
  simp only [dR] at ga'
  simp only [sheetC] at gb'
  simp +decide only [SK,Nat.reduceAdd,ga',gb',kfB]
  generalize hit:iterA (execA RB (callN RB 49) c84_l2) _ _=o
  have ho:∃ st, o=.exit 0 st∧YsI top S Ts va s 0 st:=by
   rw [← hit]
   refine iter_rule (YsI top S Ts va s) _ (fun r st h=>ys_round ok r st h) 100000 s.syms.l.length _ ⟨_, 2, _, 0, rfl, Nat.zero_add _, Nat.le_refl _, ?_, ?_, ?_, ?_, ?_⟩ (by have:=ok.lt; omega)
   all_goals simp +decide only [gp,dR,sheetC,if_true,if_false]
  clear hit
  obtain ⟨st, rfl, fr', m, t', k, rfl, _⟩:=ho
  simp +decide only [SM]
 obtain ⟨v, h1, hc, rfl⟩:=hr
 exact over_fz' (X:=RB) rfl hc (by simp only [frzs, frz, frz_sheet, hf, Bool.and_self]) rfl h
end Go.Abs.Sym
end
end
