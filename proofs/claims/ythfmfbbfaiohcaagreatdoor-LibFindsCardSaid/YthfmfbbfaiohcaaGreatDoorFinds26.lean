/- A part of the proof that LibFinds answers true at every input: AbsSan, AbsSym5, AbsSym6. -/
import Derived.Test.YthfmfbbfaiohcaaGreatDoorFinds21
import Derived.Test.YthfmfbbfaiohcaaGreatDoorFinds22
import Derived.Test.YthfmfbbfaiohcaaGreatDoorFinds23
import Derived.Test.YthfmfbbfaiohcaaGreatDoorFinds24
import Derived.Test.YthfmfbbfaiohcaaGreatDoorFinds25
import Derived.Test.YthfmfbbfaiohcaaGreatDoorFinds15
section
namespace Go.Abs.T
open Go.Proofs
theorem pads_ok : ∀ e ∈ tblPad,Row X0 f_padErr e := by
  intro e he
  simp only [tblPad,List.mem_cons,List.not_mem_nil,or_false] at he
  rcases he with rfl | rfl | rfl | rfl | rfl | rfl | rfl | rfl
  · exact rp0
  · exact rp1
  · exact rp2
  · exact rp3
  · exact rp4
  · exact rp5
  · exact rp6
  · exact rp7
theorem okA : XOK Tryz.prog XA := ⟨mixed,funcs_ok,exts_ok,tblSums_ok ok0 rfl pads_ok noSums_ok⟩
theorem checks_ok : ∀ e ∈ tblChk,Row XA f_check e := by
  intro e he
  simp only [tblChk,List.mem_cons,List.not_mem_nil,or_false] at he
  rcases he with rfl | rfl | rfl | rfl | rfl
  · exact rc0
  · exact rc1
  · exact rc2
  · exact rc3
  · exact rc4
theorem okB : XOK Tryz.prog XB := ⟨mixed,funcs_ok,exts_ok,tblSums_ok okA rfl checks_ok noSums_ok⟩
theorem sanity_ret : ∃ h1,callN XB 100 (.fn f_sanity [] []) [] h0 = .ret (.bool true) h1 := by
  have h := rsan
  rw [F.callC_eq] at h
  exact isV_ret h
def sanS (i : Pth) (args : List AV) (_ : H) : Option AV := bif Pth.beq i f_sanity then (match args with | [] => some (.bool true) | _ => none) else none
theorem sanS_ok {X : Ctx} : SumsOK Tryz.prog X sanS := by
  intro i args h v hs ρ w avs hr hv
  unfold sanS at hs
  cases hi : Pth.beq i f_sanity with
  | false => rw [hi] at hs; cases hs
  | true =>
    rw [hi] at hs
    simp only [cond_true] at hs
    match args,hs with
    | [],hs =>
      cases hs
      obtain ⟨h1,h2⟩ := sanity_ret
      rw [Pth.beq_iff.1 hi]
      exact sum_of_frozen okB rfl (args0 := []) (d := 0) h2 rfl rfl rfl hr hv
end Go.Abs.T
end
section
namespace Go.Abs.Sym
open Go.Abs.T
open Go.Proofs
def memP (i : Pth) : List Pth → Bool
  | [] => false
  | p :: ps => Pth.beq i p || memP i ps
def over (X : Ctx) (fz dp : List Pth) : Ctx := { X with sums := sumsOf X 50 (fun i => memP i fz) (fun i => memP i dp) X.sums }
structure Lev (X : Ctx) : Prop where
  ok : XOK Tryz.prog X
  globs : X.globs = .lf
  sums : ∀ X',SumsOK Tryz.prog X' X.sums
  exts : ∀ X' i args v,X.exts i args = some v → ∀ ρ h w (avs : Array Value),HR Tryz.prog X' ρ h w → VRs w ρ (Lv ρ h) args avs.toList → CallR Tryz.prog X' ρ h w (callFunc i.num avs) (.ret v h)
theorem Lev.over {X : Ctx} (l : Lev X) (fz dp : List Pth) : Lev (over X fz dp) where
  ok := ⟨l.ok.mix,l.ok.funcs,l.exts _,sumsOf_ok l.ok l.globs (l.sums _)⟩
  globs := l.globs
  sums := fun _ => sumsOf_ok l.ok l.globs (l.sums _)
  exts := l.exts
def K0 : Ctx := { globs := .lf,funcs := funcs,sums := sanS,exts := T.exts,fuel := 100000 }
def K1 : Ctx := over K0 [t24,t58,t25,t59,t28,t32,t60,t38,t12,t29] []
def K2 : Ctx := over K1 [t35,t9] [t13]
def K3 : Ctx := over K2 [t34,t37,t22,t23,t7,t6,t8] []
def K4 : Ctx := over K3 [t5] [t14]
theorem lev0 : Lev K0 := ⟨⟨mixed,funcs_ok,exts_ok,sanS_ok⟩,rfl,fun _ => sanS_ok,fun _ i args v => exts_ok i args v⟩
theorem lev4 : Lev K4 := (((lev0.over _ _).over _ _).over _ _).over _ _
mutual
theorem deep_frz : ∀ (d : Nat) (h : H) (v : AV),frz v = true → deep d h v = v
  | 0,_,_,_ => rfl
  | d + 1,h,.bool _,_ => rfl
  | d + 1,h,.int _ _,_ => rfl
  | d + 1,h,.str _,_ => rfl
  | d + 1,h,.nilp,_ => rfl
  | d + 1,h,.ptr _ _,_ => rfl
  | d + 1,h,.rptr _,_ => rfl
  | d + 1,h,.nils,_ => rfl
  | d + 1,h,.slc _ _ _ _ _,e => by simp [frz] at e
  | d + 1,h,.rslc n cs,e => by
    simp only [frz] at e
    simp only [deep,deeps_frz d h cs e]
  | d + 1,h,.eslc,_ => rfl
  | d + 1,h,.nilm,_ => rfl
  | d + 1,h,.mapv _,_ => rfl
  | d + 1,h,.nilf,_ => rfl
  | d + 1,h,.fn _ _ _,_ => rfl
  | d + 1,h,.yield _,_ => rfl
  | d + 1,h,.nili,_ => rfl
  | d + 1,h,.iface t v,e => by
    simp only [frz] at e
    simp only [deep,deep_frz d h v e]
  | d + 1,h,.agg cs,e => by
    simp only [frz] at e
    simp only [deep,deeps_frz d h cs e]
  | d + 1,h,.tup cs,e => by
    simp only [frz] at e
    simp only [deep,deeps_frz d h cs e]
theorem deeps_frz : ∀ (d : Nat) (h : H) (vs : List AV),frzs vs = true → vs.map (deep d h) = vs
  | _,_,[],_ => rfl
  | d,h,v :: vs,e => by
    simp only [frzs,Bool.and_eq_true] at e
    simp only [List.map_cons,deep_frz d h v e.1,deeps_frz d h vs e.2]
end
theorem over_fz {X : Ctx} {fz dp : List Pth} {f : Pth} {args : List AV} {v : AV} {h1 : H} (hm : memP f fz = true) (hc : callN X 50 (.fn f [] []) args h0 = .ret v h1) (ha : frzs args = true) (hv : frz (deep 8 h1 v) = true) (h : H) : (over X fz dp).sums f args h = some (deep 8 h1 v) := by
  simp only [over,sumsOf,hm,cond_true,hc,ha,hv,Bool.and_self]
theorem over_fz' {X : Ctx} {fz dp : List Pth} {f : Pth} {args : List AV} {v : AV} {h1 : H} (hm : memP f fz = true) (hc : callN X 50 (.fn f [] []) args h0 = .ret v h1) (ha : frzs args = true) (hv : frz v = true) (h : H) : (over X fz dp).sums f args h = some v := by
  have := over_fz (dp := dp) hm hc ha (by rw [deep_frz _ _ _ hv]; exact hv) h
  rwa [deep_frz _ _ _ hv] at this
theorem over_dp {X : Ctx} {fz dp : List Pth} {f : Pth} {args : List AV} {v : AV} {h1 h : H} (hn : memP f fz = false) (hm : memP f dp = true) (hc : callN X 50 (.fn f [] []) (args.map (deep 8 h)) h0 = .ret v h1) (ha : frzs (args.map (deep 8 h)) = true) (hv : plainA v = true) : (over X fz dp).sums f args h = some v := by
  simp only [over,sumsOf,hn,hm,cond_true,cond_false,hc,ha,hv,Bool.and_self]
structure Sl (α : Type) where
  kind : Nat
  l : List α
def slV {α : Type} (f : α → List AV) (s : Sl α) : AV :=
  match s.l with
  | [] => match s.kind with
    | 0 => .nils
    | _ => .rslc 0 []
  | a :: l => .rslc (l.length + 1) (f a ++ l.flatMap f)
structure Ed where
  a : Int
  b : Int
  c : Int
  d : Int
  e : Int
  f : Int
  g : Int
  deriving DecidableEq
structure Lg where
  pad : List Nat
  gr : Int
  deriving DecidableEq
structure PadD where
  nm : List Nat
  kd : Int
  es : Sl Ed
  r : Int
  x : Int
  y : Int
  dr : Int
structure GateD where
  kd : Int
  legs : Sl Lg
structure TypD where
  nm : List Nat
  pads : Sl PadD
  gates : Sl GateD
def edC (e : Ed) : List AV := [.int .i64 e.a,.int .i64 e.b,.int .i64 e.c,.int .i64 e.d,.int .i64 e.e,.int .i64 e.f,.int .i64 e.g]
def lgC (l : Lg) : List AV := [.str l.pad,.int .i64 l.gr]
def padC (p : PadD) : List AV := [.str p.nm,.int .i64 p.kd,slV edC p.es,.int .i64 p.r,.int .i64 p.x,.int .i64 p.y,.int .i64 p.dr]
def gateC (g : GateD) : List AV := [.int .i64 g.kd,slV lgC g.legs]
def tyC (t : TypD) : List AV := [.str t.nm,slV padC t.pads,slV gateC t.gates]
theorem on_slV {α : Type} (f : α → List AV) (s : Sl α) : (slV f s).one = true := by
  unfold slV
  split
  · split <;> rfl
  · rfl
theorem cl_slV {α : Type} (f : α → List AV) (s : Sl α) : (slV f s).cells = [slV f s] := by
  unfold slV
  split
  · split <;> rfl
  · rfl
theorem frzs_append : ∀ (a b : List AV),frzs (a ++ b) = (frzs a && frzs b)
  | [],b => by simp only [List.nil_append,frzs,Bool.true_and]
  | v :: a,b => by simp only [List.cons_append,frzs,frzs_append a b,Bool.and_assoc]
theorem frzs_flat {α : Type} {f : α → List AV} (hf : ∀ a,frzs (f a) = true) : ∀ l : List α,frzs (l.flatMap f) = true
  | [] => rfl
  | a :: l => by rw [List.flatMap_cons,frzs_append,hf,frzs_flat hf l]; rfl
theorem frz_slV {α : Type} {f : α → List AV} (hf : ∀ a,frzs (f a) = true) (s : Sl α) : frz (slV f s) = true := by
  unfold slV
  cases s.l with
  | nil => dsimp only; split <;> rfl
  | cons a l => simp only [frz,frzs_append,hf,frzs_flat hf,Bool.and_self]
theorem frz_ed (e : Ed) : frzs (edC e) = true := rfl
theorem frz_lg (l : Lg) : frzs (lgC l) = true := rfl
theorem frz_pad (p : PadD) : frzs (padC p) = true := by
  simp only [padC,frzs,frz,frz_slV frz_ed,Bool.and_self]
theorem frz_gate (g : GateD) : frzs (gateC g) = true := by
  simp only [gateC,frzs,frz,frz_slV frz_lg,Bool.and_self]
theorem frz_ty (t : TypD) : frzs (tyC t) = true := by
  simp only [tyC,frzs,frz,frz_slV frz_pad,frz_slV frz_gate,Bool.and_self]
section
variable {α : Type} {f : α → List AV} {sz : Nat} (hf : ∀ a,(f a).length = sz)
theorem len_slV (f : α → List AV) (h : H) (s : Sl α) : lenVal h .slc (slV f s) = some (.int .i64 (.ofNat s.l.length)) := by
  unfold slV
  cases s.l with
  | nil => dsimp only; split <;> rfl
  | cons a l => rfl
include hf in
theorem drop_flat : ∀ (l : List α) (k : Nat),(l.flatMap f).drop (k * sz) = (l.drop k).flatMap f
  | l,0 => by rw [Nat.zero_mul]; rfl
  | [],k + 1 => by simp only [List.flatMap_nil,List.drop_nil]
  | a :: l,k + 1 => by
    rw [List.flatMap_cons,Nat.succ_mul,Nat.add_comm,← List.drop_drop,List.drop_left' (hf a),List.drop_succ_cons]
    exact drop_flat l k
include hf in
theorem at_slV (hsz : 0 < sz) {s : Sl α} {k : Nat} {a : α} (h : s.l[k]? = some a) : indexAddrA (.slc sz) (slV f s) (.int .i64 (.ofNat k)) = some (.rptr (f a ++ (s.l.drop (k + 1)).flatMap f)) := by
  have hk := (List.getElem?_eq_some_iff.1 h).1
  unfold slV
  cases hs : s.l with
  | nil => rw [hs] at hk; exact absurd hk (by simp)
  | cons b l =>
    rw [hs] at h hk
    have h1 : leI 0 (.ofNat k) = true := rfl
    have h2 : ltI (.ofNat k) (.ofNat (l.length + 1)) = true := Nat.ble_eq_true_of_le hk
    have hd := drop_flat hf (b :: l) k
    rw [List.drop_eq_getElem_cons hk,(List.getElem?_eq_some_iff.1 h).2,List.flatMap_cons,List.flatMap_cons] at hd
    cases hc : f b ++ l.flatMap f with
    | nil =>
      have := congrArg List.length hc
      rw [List.length_append,hf] at this
      simp only [List.length_nil] at this
      omega
    | cons c cs =>
      simp only [indexAddrA,h1,h2,Bool.and_true,cond_true,Int.toNat,hc]
      rw [← hc,hd]
end
theorem len_ed (e : Ed) : (edC e).length = 7 := rfl
theorem len_lg (e : Lg) : (lgC e).length = 2 := rfl
theorem len_pad (e : PadD) : (padC e).length = 7 := rfl
theorem len_gate (e : GateD) : (gateC e).length = 2 := rfl
theorem len_ty (e : TypD) : (tyC e).length = 3 := rfl
end Go.Abs.Sym
end
section
namespace Go.Abs.Sym
open Go.Abs.T
open Go.Proofs
theorem wr_id {z : Int} (h1 : -9223372036854775808 ≤ z) (h2 : z < 9223372036854775808) : wrapA .i64 z = z := by
  cases z with
  | ofNat m => exact wrap_small (by simp only [Int.ofNat_eq_natCast] at h2; omega)
  | negSucc m =>
    have hb : Nat.blt m 9223372036854775808 = true := Nat.ble_eq_true_of_le (by rw [Int.negSucc_eq] at h1; omega)
    simp only [wrapA,hb,cond_true]
theorem eqI_pos {m : Nat} (h : 0 < m) : eqI (Int.ofNat m) 0 = false := by
  cases m with
  | zero => cases h
  | succ m => rfl
theorem mod_run (a : Int) {m : Nat} (h0m : 0 < m) (hm : m < 4000000000000000000) : ∃ (x : Nat) (h1 : H),x < m ∧ callN K0 50 (.fn t24 [] []) [.int .i64 a,.int .i64 (.ofNat m)] h0 = .ret (.int .i64 (.ofNat x)) h1 := by
  have hz := eqI_pos h0m
  have hs : K0.sums t24 ([] ++ [.int .i64 a,.int .i64 (.ofNat m)] ++ []) h0 = none := rfl
  have hF : K0.funcs.get t24 = some c24 := rfl
  have hb1 : -Int.ofNat m < a.tmod (.ofNat m) := by simp only [Int.ofNat_eq_natCast]; have := Int.lt_tmod_of_pos a (b := (m : Int)) (by omega); omega
  have hb2 : a.tmod (.ofNat m) < Int.ofNat m := by simp only [Int.ofNat_eq_natCast]; exact Int.tmod_lt_of_pos a (by omega)
  simp only [Int.ofNat_eq_natCast] at hb1 hb2
  have hw : wrapA .i64 (a.tmod (.ofNat m) + .ofNat m) = a.tmod (.ofNat m) + .ofNat m := wr_id (by simp only [Int.ofNat_eq_natCast]; omega) (by simp only [Int.ofNat_eq_natCast]; omega)
  have hx : ∃ x : Nat,x < m ∧ (a.tmod (.ofNat m) + .ofNat m).tmod (.ofNat m) = .ofNat x := by
    simp only [Int.ofNat_eq_natCast]
    have h1 : 0 ≤ a.tmod (m : Int) + m := by omega
    have h2 := Int.tmod_nonneg (m : Int) h1
    have h3 := Int.tmod_lt_of_pos (a.tmod (m : Int) + m) (b := (m : Int)) (by omega)
    exact ⟨((a.tmod (m : Int) + m).tmod m).toNat,by omega,by omega⟩
  obtain ⟨x,hxm,hx⟩ := hx
  refine ⟨x,h0,hxm,?_⟩
  rw [call_fn hs hF]
  simp +decide only [c24,execA,opsA,wantedA,evalAll,evalA,oneA,st_mov,st_bin,binAV,St.put,Tr.get_put,frameOf,Pth.succ,List.nil_append,List.append_nil,if_true,if_false,cond_true,cond_false,nbeq,decide_true,eqK,kindNo,leaveA,dfrsA,resultA,resultsA,hz,hw,hx]
theorem mod_sum (a : Int) {m : Nat} (h0m : 0 < m) (hm : m < 4000000000000000000) : ∃ x : Nat,x < m ∧ ∀ h,K1.sums t24 [.int .i64 a,.int .i64 (.ofNat m)] h = some (.int .i64 (.ofNat x)) := by
  obtain ⟨x,h1,hx,hr⟩ := mod_run a h0m hm
  exact ⟨x,hx,fun h => over_fz' rfl hr rfl rfl h⟩
def nmOf : Nat → List Nat
  | 0 => [80,49] | 1 => [80,50] | 2 => [80,51] | 3 => [80,52] | 4 => [80,53] | _ => [80,54]
theorem nm_0 (h : H) : K1.sums t58 [.int .i64 (.ofNat 0)] h = some (.str (nmOf 0)) := by kernel_rfl
theorem nm_1 (h : H) : K1.sums t58 [.int .i64 (.ofNat 1)] h = some (.str (nmOf 1)) := by kernel_rfl
theorem nm_2 (h : H) : K1.sums t58 [.int .i64 (.ofNat 2)] h = some (.str (nmOf 2)) := by kernel_rfl
theorem nm_3 (h : H) : K1.sums t58 [.int .i64 (.ofNat 3)] h = some (.str (nmOf 3)) := by kernel_rfl
theorem nm_4 (h : H) : K1.sums t58 [.int .i64 (.ofNat 4)] h = some (.str (nmOf 4)) := by kernel_rfl
theorem nm_5 (h : H) : K1.sums t58 [.int .i64 (.ofNat 5)] h = some (.str (nmOf 5)) := by kernel_rfl
theorem names_sum {k : Nat} (hk : k < 6) (h : H) : K1.sums t58 [.int .i64 (.ofNat k)] h = some (.str (nmOf k)) := by
  match k,hk with
  | 0,_ => exact nm_0 h
  | 1,_ => exact nm_1 h
  | 2,_ => exact nm_2 h
  | 3,_ => exact nm_3 h
  | 4,_ => exact nm_4 h
  | 5,_ => exact nm_5 h
def discE (x y : Int) : Sl Ed := ⟨0,[⟨1,x,y,x,y,0,0⟩]⟩
theorem disc_sum (x y r : Int) (h : H) : K1.sums t25 [.agg [.int .i64 x,.int .i64 y],.int .i64 r] h = some (.agg [.int .i64 1,slV edC (discE x y),.int .i64 r]) := by kernel_rfl
def rectE (a b c d : Int) : Sl Ed := ⟨0,[⟨1,a,b,c,b,0,0⟩,⟨1,c,b,c,d,0,0⟩,⟨1,c,d,a,d,0,0⟩,⟨1,a,d,a,b,0,0⟩]⟩
theorem rect_sum (a b c d : Int) (h : H) : K1.sums t59 [.agg [.int .i64 a,.int .i64 b,.int .i64 c,.int .i64 d]] h = some (.agg [.int .i64 2,slV edC (rectE a b c d),.int .i64 0]) := by kernel_rfl
theorem big_lt {n : Nat} (h : n < 35184372088832) : (bigBytes ≤ n) = False := eq_false (Nat.not_le.2 h)
theorem takeD_all {cs : List AV} {n : Nat} (h : cs.length = n) : takeD cs 0 n = some cs := by
  simp only [takeD,List.drop_zero,nbeq]
  rw [List.take_of_length_le (by omega),h,decide_eq_true rfl]
  rfl
theorem len_flat {α : Type} {f : α → List AV} {sz : Nat} (hf : ∀ a,(f a).length = sz) : ∀ l : List α,(l.flatMap f).length = l.length * sz
  | [] => by simp only [List.flatMap_nil,List.length_nil,Nat.zero_mul]
  | a :: l => by rw [List.flatMap_cons,List.length_append,hf,len_flat hf l,List.length_cons,Nat.succ_mul,Nat.add_comm]
theorem clone_sum {α : Type} {f : α → List AV} (hf : ∀ a,(f a).length = 7) (hz : ∀ a,frzs (f a) = true) (s : Sl α) (hl : s.l.length < 90000) : ∃ s' : Sl α,s'.l = s.l ∧ ∀ h,K1.sums t28 [slV f s] h = some (slV f s') := by
  have hs : ∀ xs,K0.sums t28 xs h0 = none := fun _ => rfl
  have hF : K0.funcs.get t28 = some c28 := rfl
  obtain ⟨kd,l⟩ := s
  cases l with
  | nil =>
    match kd with
    | 0 => exact ⟨⟨0,[]⟩,rfl,fun h => by rw [show slV f ⟨0,[]⟩ = .nils from rfl]; kernel_rfl⟩
    | k + 1 => exact ⟨⟨1,[]⟩,rfl,fun h => by rw [show slV f ⟨k + 1,[]⟩ = .rslc 0 [] from rfl,show slV f ⟨1,[]⟩ = .rslc 0 [] from rfl]; kernel_rfl⟩
  | cons a l =>
    refine ⟨⟨kd,a :: l⟩,rfl,?_⟩
    have hv : slV f ⟨kd,a :: l⟩ = .rslc (l.length + 1) (f a ++ l.flatMap f) := rfl
    have hlen : (f a ++ l.flatMap f).length = (l.length + 1) * 7 := len_flat hf (a :: l)
    have htk := takeD_all hlen
    simp only [List.length_cons] at hl
    have hb1 := big_lt (n := (l.length + 1) * 56) (by omega)
    have hb2 := big_lt (n := l.length + 1) (by omega)
    have hb3 : (l.length + 1 ≤ 0) = False := eq_false (by omega)
    have hb4 : (l.length + 1 = 0) = False := eq_false (by omega)
    have hr : Ret (callN K0 50 (.fn t28 [] []) [slV f ⟨kd,a :: l⟩] h0) (fun v h1 => deep 8 h1 v = .rslc (l.length + 1) ((f a ++ l.flatMap f).map (deep 7 h1))) := by
      rw [call_fn (hs _) hF,hv,show h0 = ⟨up Pth.e 0,.lf,.lf⟩ from rfl]
      simp +decide only [c28,execA,opsA,wantedA,evalAll,evalA,oneA,st_mov,st_bin,st_buildSl,st_append,H.cellsAt,H.newB,tk_0,fillS,binAV,eqAV,St.put,Tr.get_put,frameOf,List.nil_append,List.append_nil,if_true,if_false,cond_true,cond_false,Nat.zero_add,Nat.add_zero,Nat.zero_mul,up_succ,nbeq,nble,decide_true,decide_false,Nat.reduceAdd,Bool.or_false,ret_iff,leaveA,dfrsA,resultA,resultsA,Option.map_some,appendA,lenA,firstA,htk,hb1,hb2,hb3,hb4,Nat.le_refl,Nat.zero_add,List.nil_append,deep]
    obtain ⟨v,h1,hc,hd⟩ := hr
    rw [deeps_frz _ _ _ (by rw [frzs_append,hz,frzs_flat hz]; rfl),← hv] at hd
    intro h
    have := over_fz (fz := [t24,t58,t25,t59,t28,t32,t60,t38,t12,t29]) (dp := []) rfl hc (by rw [frzs,frz_slV hz]; rfl) (by rw [hd]; exact frz_slV hz _) h
    rw [hd] at this
    exact this
end Go.Abs.Sym
end
