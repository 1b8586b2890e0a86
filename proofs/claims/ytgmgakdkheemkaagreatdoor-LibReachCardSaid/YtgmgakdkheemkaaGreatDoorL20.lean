/- A part of the proof that LibSwaps answers true at every input: AbsOk, AbsX, AbsTok, AbsTok2, AbsTab2. -/
import Derived.Test.YtgmgakdkheemkaaGreatDoorL18
import Derived.Test.YtgmgakdkheemkaaGreatDoorL19
import Derived.Lib.Bytealg
import Derived.Laws.StandIn
import Derived.Test.YtgmgakdkheemkaaGreatDoorL17
import Derived.Test.YtgmgakdkheemkaaGreatDoorL16
section
namespace Go.Abs.T
open Go.Proofs
set_option maxRecDepth 10000
theorem allGood : All (Good Tryz.prog) funcs id := (.n (.n (.s k3 (.s k7 (.s k15 (.s k31 (.s k63 (.s k127 .f .f) (.s k191 .f .f)) (.s k95 .f .f)) (.s k47 (.s k79 (.n (.s k271 .f .f) .f) .f) (.n (.s k175 .f .f) (.s k239 .f .f)))) (.s k23 (.s k39 (.s k71 (.s k135 (.s k263 .f .f) .f) .f) (.s k103 .f (.s k231 .f .f))) (.s k55 (.n (.s k151 .f .f) (.s k215 .f .f)) .f))) (.s k11 (.s k19 (.s k35 .f (.s k99 .f .f)) (.s k51 (.s k83 (.s k147 .f .f) (.s k211 .f .f)) (.n (.s k179 .f .f) (.s k243 .f .f)))) (.s k27 (.s k43 (.s k75 (.s k139 .f .f) (.s k203 .f .f)) (.s k107 .f .f)) (.s k59 (.s k91 (.s k155 .f .f) (.s k219 .f .f)) (.n (.s k187 .f .f) (.s k251 .f .f)))))) (.s k5 (.s k9 (.s k17 (.s k33 (.s k65 (.n (.s k257 .f .f) .f) .f) (.s k97 .f .f)) (.s k49 (.s k81 (.s k145 .f .f) .f) (.n (.s k177 .f .f) (.s k241 .f .f)))) (.s k25 (.s k41 (.s k73 (.s k137 .f .f) .f) (.s k105 (.n (.s k297 .f .f) .f) (.s k233 .f .f))) (.s k57 .f (.n (.s k185 .f .f) .f)))) (.s k13 (.s k21 (.s k37 .f (.s k101 .f .f)) (.s k53 (.s k85 (.s k149 .f .f) (.s k213 .f .f)) (.s k117 (.s k181 .f .f) (.s k245 .f .f)))) (.s k29 (.s k45 (.s k77 (.s k141 (.s k269 .f .f) .f) .f) (.n .f (.s k237 .f .f))) (.s k61 (.s k93 .f (.s k221 .f .f)) (.s k125 (.s k189 .f .f) (.s k253 .f .f))))))) (.n (.s k4 (.s k8 (.s k16 (.s k32 (.s k64 .f .f) (.s k96 .f .f)) (.s k48 (.s k80 (.s k144 (.s k272 .f .f) .f) .f) (.n (.s k176 .f .f) (.s k240 .f .f)))) (.s k24 (.s k40 (.s k72 (.s k136 (.s k264 .f .f) .f) .f) (.s k104 .f (.s k232 .f .f))) (.s k56 (.n (.s k152 .f .f) (.s k216 .f .f)) (.n (.s k184 .f .f) .f)))) (.s k12 (.s k20 (.s k36 .f (.s k100 (.s k164 .f .f) .f)) (.s k52 (.s k84 (.s k148 (.s k276 .f .f) .f) (.s k212 .f .f)) (.s k116 (.s k180 .f .f) .f))) (.s k28 (.s k44 (.s k76 (.s k140 .f .f) .f) (.n .f (.s k236 .f .f))) (.s k60 (.s k92 .f (.s k220 .f .f)) (.n (.s k188 .f .f) (.s k252 .f .f)))))) (.s k6 (.s k10 (.s k18 (.s k34 .f (.s k98 .f .f)) (.s k50 (.s k82 (.s k146 .f .f) (.s k210 .f .f)) (.n (.s k178 .f .f) (.s k242 .f .f)))) (.s k26 (.s k42 (.s k74 (.s k138 .f .f) .f) (.s k106 (.n (.s k298 .f .f) .f) .f)) (.s k58 (.n (.s k154 .f .f) (.s k218 .f .f)) (.n (.s k186 .f .f) .f)))) (.s k14 (.s k22 (.s k38 (.s k70 .f .f) (.s k102 .f (.s k230 .f .f))) (.s k54 (.s k86 (.s k150 .f .f) (.s k214 .f .f)) (.n (.s k182 .f .f) (.s k246 .f .f)))) (.s k30 (.s k46 (.s k78 (.n (.s k270 .f .f) .f) .f) (.n .f (.s k238 .f .f))) (.s k62 (.s k94 .f (.s k222 .f .f)) (.s k126 (.s k190 .f .f) (.s k254 .f .f))))))))
end Go.Abs.T
end
section
namespace Go.Abs.T
open Go.Proofs
theorem ixN_eq : ∀ (l : List UInt8) (c : UInt8) (k : Nat),ixN k (l.map (·.toNat)) c.toNat = if Lib.indexByte l c = -1 then -1 else Lib.indexByte l c + k
  | [],c,k => rfl
  | b :: l,c,k => by
    have ih := ixN_eq l c (k + 1)
    have hge := Lib.indexByte_ge l c
    have hstep : Lib.indexByte (b :: l) c = if b == c then 0 else if Lib.indexByte l c == -1 then -1 else Lib.indexByte l c + 1 := rfl
    generalize Lib.indexByte (b :: l) c = z at hstep ⊢
    subst hstep
    simp only [List.map_cons,ixN]
    by_cases hb : b = c
    · subst hb
      have : Nat.beq b.toNat b.toNat = true := by simp
      rw [this]
      simp
    · have h1 : Nat.beq b.toNat c.toNat = false := by
        cases h : Nat.beq b.toNat c.toNat with
        | false => rfl
        | true => exact absurd (UInt8.toNat_inj.1 (Nat.eq_of_beq_eq_true h)) hb
      have h2 : (b == c) = false := by simpa using hb
      simp only [h1,h2,cond_false,Bool.false_eq_true,if_false,ih]
      by_cases hx : Lib.indexByte l c = -1
      · simp [hx]
      · have h3 : (Lib.indexByte l c == -1) = false := by simpa using hx
        simp only [h3,Bool.false_eq_true,if_false]
        rw [if_neg hx,if_neg (by omega)]
        omega
theorem exts_ok [envI : Env] {X : Ctx} (i : Pth) (args : List AV) (v : AV) (he : exts i args = some v) (ρ : Nm) (h : H) (w : World) (avs : Array Value) (hr : HR Tryz.prog X ρ h w) (hv : VRs w ρ (Lv ρ h) args avs.toList) :
    CallR Tryz.prog X ρ h w (callFunc i.num avs) (.ret v h) := by
  unfold exts at he
  cases hi : Pth.beq i f_ixb with
  | false => rw [hi] at he; cases he
  | true =>
    rw [hi] at he
    simp only [cond_true] at he
    split at he
    · rename_i s c
      cases hc : (leI 0 c && ltI c 256) with
      | false => rw [hc] at he; cases he
      | true =>
        rw [hc] at he
        cases he
        simp only [VRs,VR] at hv
        obtain ⟨u,us,e1,⟨x,rfl,hx⟩,u',us',rfl,rfl,rfl⟩ := hv
        have havs : avs = #[.string x,.int .u8 c] := by apply Array.ext'; simpa using e1
        have hi' : i.num = 194 := by rw [Pth.beq_iff.1 hi]; kernel_rfl
        have hrun := run_callFunc_indexByte (P := Tryz.prog) (f := 194) Tryz.func194 (by kernel_rfl) (by kernel_rfl) (by kernel_rfl) (by kernel_rfl) avs w
        rw [havs,Lib.run_indexByteString] at hrun
        rw [hi',havs]
        refine ⟨_,w,hrun,.inl ⟨_,rfl,ρ,hr,Sim.refl ..,?_⟩⟩
        have h0 : 0 ≤ c ∧ c < 256 := by
          simp only [Bool.and_eq_true] at hc
          refine ⟨?_,?_⟩
          · cases c <;> simp [leI] at hc ⊢
          · have := hc.2
            cases c with
            | ofNat m => simp [ltI] at this; exact Int.ofNat_lt.2 this
            | negSucc m => omega
        have hcb : (c.toNat.toUInt8).toNat = c.toNat := by
          simp only [Nat.toUInt8,UInt8.toNat_ofNat']
          omega
        have := ixN_eq x.data.toList c.toNat.toUInt8 0
        rw [hcb] at this
        simp only [VR]
        rw [← hx]
        simp only [bytesL] at this ⊢
        rw [this]
        by_cases hm : Lib.indexByte x.data.toList c.toNat.toUInt8 = -1
        · rw [if_pos hm,hm]
        · rw [if_neg hm]; simp
    · cases he
theorem funcs_ok (i : Pth) (F : AFunc) (h : funcs.get i = some F) : ∃ fn body,Tryz.prog.funcs[i.num]? = some fn ∧ fn.body = some body ∧ (fn.name == "runtime.NumGoroutine") = false ∧ compFunc Tryz.prog fn = some F := allGood.get h
theorem mixed : Tryz.prog.follows .mixedOrders = true := by kernel_rfl
theorem ok0 [envI : Env] : XOK Tryz.prog X0 := ⟨mixed,funcs_ok,exts_ok,noSums_ok⟩
end Go.Abs.T
end
section
namespace Go.Abs
abbrev triv : Env where
  R := fun i _ _ _ v => i = topI ∧ v.oneCell' = true
  mono := fun _ _ h => h
  relive := fun _ _ _ h => h
  frzG := fun _ h => h
  one := fun h => h.2
  top := fun h => ⟨rfl,h⟩
theorem triv_one {w : World} {ρ : Nm} {L : Nat → Prop} : ∀ {a : AV} {v : Value},a.one = true → @VR triv w ρ L a v → v.oneCell' = true := by
  intro a v ho h
  cases a <;> simp only [AV.one,Bool.false_eq_true] at ho
  all_goals
    simp only [VR] at h
    first
      | (subst h; rfl)
      | (obtain ⟨_,_,rfl,_,_⟩ := h; rfl)
      | (obtain ⟨_,rfl,_⟩ := h; rfl)
      | (obtain ⟨_,_,rfl⟩ := h; rfl)
      | (obtain ⟨_,rfl⟩ := h; rfl)
      | (obtain ⟨_,_,_,_,_,rfl,_⟩ := h; rfl)
      | (obtain ⟨_,_,_,rfl,_⟩ := h; rfl)
      | (obtain ⟨_,_,rfl,_⟩ := h; rfl)
      | exact h.2
structure Toks where
  val : Nat → AV
  frz : ∀ i,frz (val i) = true
  one : ∀ i,(val i).one = true
  top : val topI = .sym topI
abbrev Toks.env (t : Toks) : Env where
  R := fun i w ρ L v => @VR triv w ρ L (t.val i) v
  mono := fun hs hb h => VR.mono0 (envI := triv) hs hb h
  relive := fun a b c h => VR.relive (envI := triv) a b c h
  frzG := fun hN h => VR.frzG (envI := triv) hN h (t.frz _)
  one := fun h => triv_one (t.one _) h
  top := fun h => by rw [t.top]; exact ⟨rfl,h⟩
mutual
def AV.subst (t : Toks) : AV → AV
  | .sym i => t.val i
  | .rptr cs => .rptr (substs t cs)
  | .rslc n cs => .rslc n (substs t cs)
  | .fn f a b => .fn f (substs t a) (substs t b)
  | .iface ty v => .iface ty (v.subst t)
  | .agg cs => .agg (substs t cs)
  | .tup cs => .tup (substs t cs)
  | v => v
def substs (t : Toks) : List AV → List AV
  | [] => []
  | v :: vs => v.subst t :: substs t vs
end
section
variable {w : World} {ρ : Nm} {L : Nat → Prop} {t : Toks}
mutual
theorem VR_subst : ∀ (a : AV) (v : Value),@VR t.env w ρ L a v ↔ @VR triv w ρ L (a.subst t) v
  | .sym i,v => by simp only [VR,AV.subst]; exact Iff.rfl
  | .rptr cs,v => by
    have h := fun vs => VRp_subst cs vs
    simp only [VR,AV.subst,h]
  | .rslc n cs,v => by
    have h := fun vs => VRp_subst cs vs
    have h0 : cs = [] ↔ substs t cs = [] := by cases cs <;> simp [substs]
    simp only [VR,AV.subst,h,h0]
  | .fn f a b,v => by
    have h1 := fun vs => VRs_subst a vs
    have h2 := fun vs => VRs_subst b vs
    simp only [VR,AV.subst,h1,h2]
  | .iface ty x,v => by
    have h := fun u => VR_subst x u
    simp only [VR,AV.subst,h]
  | .agg cs,v => by
    have h := fun vs => VRs_subst cs vs
    simp only [VR,AV.subst,h]
  | .tup cs,v => by
    have h := fun vs => VRs_subst cs vs
    simp only [VR,AV.subst,h]
  | .bool b,v => by simp only [VR,AV.subst]
  | .int k n,v => by simp only [VR,AV.subst]
  | .str s,v => by simp only [VR,AV.subst]
  | .nilp,v => by simp only [VR,AV.subst]
  | .ptr id off,v => by simp only [VR,AV.subst]
  | .nils,v => by simp only [VR,AV.subst]
  | .slc id off len sz cap,v => by simp only [VR,AV.subst]
  | .eslc,v => by simp only [VR,AV.subst]
  | .nilm,v => by simp only [VR,AV.subst]
  | .mapv id,v => by simp only [VR,AV.subst]
  | .nilf,v => by simp only [VR,AV.subst]
  | .yield id,v => by simp only [VR,AV.subst]
  | .nili,v => by simp only [VR,AV.subst]
theorem VRp_subst : ∀ (al : List AV) (vs : List Value),@VRp t.env w ρ L al vs ↔ @VRp triv w ρ L (substs t al) vs
  | [],vs => by simp only [VRp,substs]
  | a :: al,vs => by
    have h1 := fun u => VR_subst a u
    have h2 := fun us => VRp_subst al us
    simp only [VRp,substs,h1,h2]
theorem VRs_subst : ∀ (al : List AV) (vs : List Value),@VRs t.env w ρ L al vs ↔ @VRs triv w ρ L (substs t al) vs
  | [],vs => by simp only [VRs,substs]
  | a :: al,vs => by
    have h1 := fun u => VR_subst a u
    have h2 := fun us => VRs_subst al us
    simp only [VRs,substs,h1,h2]
end
end
mutual
theorem frz_subst (t : Toks) : ∀ a : AV,frz a = true → frz (a.subst t) = true
  | .sym i,_ => by simp only [AV.subst]; exact t.frz i
  | .rptr cs,h => by simp only [AV.subst,frz] at h ⊢; exact frzs_subst t cs h
  | .rslc n cs,h => by simp only [AV.subst,frz] at h ⊢; exact frzs_subst t cs h
  | .fn f a b,h => by simp only [frz,Bool.false_eq_true] at h
  | .iface ty x,h => by simp only [AV.subst,frz] at h ⊢; exact frz_subst t x h
  | .agg cs,h => by simp only [AV.subst,frz] at h ⊢; exact frzs_subst t cs h
  | .tup cs,h => by simp only [AV.subst,frz] at h ⊢; exact frzs_subst t cs h
  | .bool b,h => h
  | .int k n,h => h
  | .str s,h => h
  | .nilp,h => h
  | .ptr id off,h => h
  | .nils,h => h
  | .slc id off len sz cap,h => h
  | .eslc,h => h
  | .nilm,h => h
  | .mapv id,h => h
  | .nilf,h => h
  | .yield id,h => h
  | .nili,h => h
theorem frzs_subst (t : Toks) : ∀ al : List AV,frzs al = true → frzs (substs t al) = true
  | [],_ => rfl
  | a :: al,h => by
    simp only [frzs,substs,Bool.and_eq_true] at h ⊢
    exact ⟨frz_subst t a h.1,frzs_subst t al h.2⟩
end
section
variable {P : Program} {X : Ctx} {ρ : Nm} {h : H} {w : World}
theorem CallR.lift (E0 : Env) [envI : Env] {X0 : Ctx} {s : Sem Next} {v : AV} {h1 : H} (hr : @HR envI P X ρ h w) (hp : plainA v = true) (hR : @CallR E0 P X0 (ρ0 w) h0 w s (.ret v h1)) : @CallR envI P X ρ h w s (.ret v h) := by
  have back : ∀ {vv w'},@Back E0 P X0 (ρ0 w) h0 w v h1 vv w' → @Back envI P X ρ h w v h vv w' := by
    intro vv w' hb
    obtain ⟨k1,k2,k3,k4,k5⟩ := Back.kept (envI := E0) hb
    obtain ⟨ρ',_,_,g3⟩ := hb
    have hsim := kept_sim (ρ := ρ) (L := Lv ρ h) k1 k2 k3 k4 k5
    exact ⟨ρ,HR.later (envI := envI) hr k1 k2 hsim,hsim,VR.plain2 g3 hp⟩
  obtain ⟨nx,w1,hrun,hR⟩ := hR
  refine ⟨nx,w1,hrun,?_⟩
  rcases hR with ⟨vv,e,hb⟩ | ⟨F,hF,hR⟩
  · exact .inl ⟨vv,e,back hb⟩
  · refine .inr ⟨F,hF,fun c cs => ?_⟩
    obtain ⟨vv,w',hb,hst⟩ := hR c cs
    exact ⟨vv,w',back hb,hst⟩
theorem tok_sum (t : Toks) {X0 : Ctx} (xo : @XOK t.env P X0) (hg : X0.globs = .lf) {n d : Nat} {i : Pth} {args : List AV} {v1 : AV} {h1 : H} (hc : callN X0 n (.fn i [] []) args h0 = .ret v1 h1) (hf : frzs args = true) (hfv : frz (deep d h1 v1) = true)
    (hr : @HR triv P X ρ h w) {avs : Array Value} (hv : @VRs triv w ρ (Lv ρ h) (substs t args) avs.toList) : @CallR triv P X ρ h w (callFunc i.num avs) (.ret ((deep d h1 v1).subst t) h) := by
  refine sum_frozen2 (envI := triv) t.env xo hg hc hfv hr ((VRs_subst args _).2 ?_) (fun w' ρ2 vv _ _ hv => (VR_subst _ _).1 hv)
  have nolive : ∀ b,¬ Lv (ρf ρ) h0 b := fun b ⟨id,x,e,_⟩ => by cases id <;> cases e
  exact VRs.frzG (envI := triv) (ρ := ρ) (L := Lv ρ h) (ρ2 := ρf ρ) (L2 := Lv (ρf ρ) h0) (fun b _ hb => ⟨nolive b,hb.2⟩) hv (frzs_subst t args hf)
end
end Go.Abs
end
section
namespace Go.Abs
def cmpS (a b : List Nat) : Int := bif bytesLt a b then -1 else bif bytesLt b a then 1 else 0
def cmpL : List (List Nat) → List (List Nat) → Int
  | [],[] => 0
  | [],_ :: _ => -1
  | _ :: _,[] => 1
  | a :: x,b :: y => if cmpS a b = 0 then cmpL x y else cmpS a b
theorem cmpS_cases (a b : List Nat) : cmpS a b = -1 ∨ cmpS a b = 0 ∨ cmpS a b = 1 := by
  unfold cmpS
  cases bytesLt a b <;> cases bytesLt b a <;> simp
theorem cmpL_cases : ∀ (x y : List (List Nat)),cmpL x y = -1 ∨ cmpL x y = 0 ∨ cmpL x y = 1
  | [],[] => .inr (.inl rfl)
  | [],_ :: _ => .inl rfl
  | _ :: _,[] => .inr (.inr rfl)
  | a :: x,b :: y => by
    unfold cmpL
    split
    · exact cmpL_cases x y
    · exact cmpS_cases a b
abbrev Known := List (List Nat × List Nat × Int)
inductive DT where
  | leaf (r : List Nat)
  | node (a b : List Nat) (lt eq gt : DT)
  deriving Inhabited
def DT.eval (σ : Nat → List Nat) : DT → List Nat
  | .leaf r => r
  | .node a b l e g => if cmpL (a.map σ) (b.map σ) = -1 then l.eval σ else if cmpL (a.map σ) (b.map σ) = 0 then e.eval σ else g.eval σ
def DT.all (p : Known → List Nat → Bool) : Known → DT → Bool
  | k,.leaf r => p k r
  | k,.node a b l e g => l.all p ((a,b,-1) :: k) && (e.all p ((a,b,0) :: k) && g.all p ((a,b,1) :: k))
def Known.ok (σ : Nat → List Nat) (k : Known) : Prop := ∀ e ∈ k,cmpL (e.1.map σ) (e.2.1.map σ) = e.2.2
theorem DT.path {σ : Nat → List Nat} {p : Known → List Nat → Bool} : ∀ (d : DT) (k : Known),d.all p k = true → Known.ok σ k → ∃ k',Known.ok σ k' ∧ p k' (d.eval σ) = true
  | .leaf r,k,h,hk => ⟨k,hk,h⟩
  | .node a b l e g,k,h,hk => by
    simp only [DT.all,Bool.and_eq_true] at h
    obtain ⟨h1,h2,h3⟩ := h
    have go : ∀ c,cmpL (a.map σ) (b.map σ) = c → Known.ok σ ((a,b,c) :: k) := fun c hc x hx => by
      rcases List.mem_cons.1 hx with rfl | hx
      · exact hc
      · exact hk x hx
    simp only [DT.eval]
    rcases cmpL_cases (a.map σ) (b.map σ) with hc | hc | hc
    · rw [if_pos hc]
      exact DT.path l _ h1 (go _ hc)
    · rw [if_neg (by omega),if_pos hc]
      exact DT.path e _ h2 (go _ hc)
    · rw [if_neg (by omega),if_neg (by omega)]
      exact DT.path g _ h3 (go _ hc)
def toks : List AV → Option (List Nat)
  | [] => some []
  | .sym i :: vs => match toks vs with | some l => some (i :: l) | none => none
  | _ :: _ => none
def toksOf : AV → Option (List Nat)
  | .rslc n cs => bif Nat.beq n cs.length then toks cs else none
  | _ => none
def lookO : Known → List Nat → List Nat → Option Int
  | [],_,_ => none
  | e :: k,x,y => bif eqS e.1 x && eqS e.2.1 y then some e.2.2 else lookO k x y
theorem lookO_mem : ∀ {k : Known} {x y : List Nat} {c : Int},lookO k x y = some c → (x,y,c) ∈ k
  | [],_,_,_,h => by cases h
  | e :: k,x,y,c,h => by
    simp only [lookO] at h
    cases hb : (eqS e.1 x && eqS e.2.1 y) with
    | true =>
      rw [hb] at h
      cases h
      rw [Bool.and_eq_true,eqS_iff,eqS_iff] at hb
      obtain ⟨rfl,rfl⟩ := hb
      exact List.mem_cons_self
    | false =>
      rw [hb] at h
      exact List.mem_cons_of_mem _ (lookO_mem h)
def strsV (l : List (List Nat)) : AV := .rslc l.length (l.map .str)
theorem toks_frz : ∀ {cs : List AV} {x : List Nat},toks cs = some x → frzs cs = true
  | [],_,_ => rfl
  | .sym i :: vs,x,h => by
    simp only [toks] at h
    cases hv : toks vs with
    | none => rw [hv] at h; cases h
    | some l => simp only [frzs,frz,toks_frz hv,Bool.and_self]
  | .bool _ :: _,_,h => by cases h
  | .int _ _ :: _,_,h => by cases h
  | .str _ :: _,_,h => by cases h
  | .nilp :: _,_,h => by cases h
  | .ptr _ _ :: _,_,h => by cases h
  | .rptr _ :: _,_,h => by cases h
  | .nils :: _,_,h => by cases h
  | .slc _ _ _ _ _ :: _,_,h => by cases h
  | .rslc _ _ :: _,_,h => by cases h
  | .eslc :: _,_,h => by cases h
  | .nilm :: _,_,h => by cases h
  | .mapv _ :: _,_,h => by cases h
  | .nilf :: _,_,h => by cases h
  | .fn _ _ _ :: _,_,h => by cases h
  | .yield _ :: _,_,h => by cases h
  | .nili :: _,_,h => by cases h
  | .iface _ _ :: _,_,h => by cases h
  | .agg _ :: _,_,h => by cases h
  | .tup _ :: _,_,h => by cases h
theorem toks_sym : ∀ {cs : List AV} {x : List Nat},toks cs = some x → cs = x.map .sym
  | [],_,h => by cases h; rfl
  | v :: vs,x,h => by
    cases v <;> simp only [toks,reduceCtorEq] at h
    cases hv : toks vs with
    | none => rw [hv] at h; cases h
    | some l =>
      rw [hv] at h
      cases h
      rw [toks_sym hv]
      rfl
theorem substs_sym (t : Toks) {σ : Nat → List Nat} : ∀ (x : List Nat),(∀ i ∈ x,t.val i = .str (σ i)) → substs t (x.map .sym) = (x.map σ).map .str
  | [],_ => rfl
  | i :: x,h => by
    simp only [List.map_cons,substs,AV.subst,h i List.mem_cons_self,substs_sym t x (fun j hj => h j (List.mem_cons_of_mem _ hj))]
theorem toksOf_spec {v : AV} {x : List Nat} (h : toksOf v = some x) : v = .rslc x.length (x.map .sym) := by
  cases v <;> simp only [toksOf,reduceCtorEq] at h
  rename_i n cs
  cases hn : Nat.beq n cs.length with
  | false => rw [hn] at h; cases h
  | true =>
    rw [hn] at h
    have := toks_sym h
    rw [Nat.eq_of_beq_eq_true hn,this,List.length_map]
theorem toksOf_subst (t : Toks) {σ : Nat → List Nat} {v : AV} {x : List Nat} (h : toksOf v = some x) (hx : ∀ i ∈ x,t.val i = .str (σ i)) : frz v = true ∧ v.subst t = strsV (x.map σ) := by
  have e := toksOf_spec h
  subst e
  constructor
  · simp only [frz]
    cases hx' : toks (x.map .sym) with
    | some l => exact toks_frz hx'
    | none =>
      exfalso
      have : ∀ l : List Nat,toks (l.map .sym) = some l := by
        intro l
        induction l with
        | nil => rfl
        | cons a l ih => simp only [List.map_cons,toks,ih]
      rw [this] at hx'
      cases hx'
  · simp only [AV.subst,substs_sym t x hx,strsV,List.length_map]
def cmpSums (f : Pth) (k : Known) (more : Pth → List AV → H → Option AV) (i : Pth) (args : List AV) (h : H) : Option AV :=
  bif Pth.beq i f then (match args with
    | [a,b] => match toksOf (deep 3 h a),toksOf (deep 3 h b) with
      | some x,some y => (match lookO k x y with | some c => some (.int .i64 c) | none => none)
      | _,_ => none
    | _ => none) else more i args h
theorem cmpSums_ok {P : Program} {X X0 : Ctx} (xo : @XOK triv P X0) (hg : X0.globs = .lf) (t : Toks) {σ : Nat → List Nat} {f : Pth} {k : Known} {more : Pth → List AV → H → Option AV} (hk : Known.ok σ k)
    (ht : ∀ e ∈ k,(∀ i ∈ e.1,t.val i = .str (σ i)) ∧ ∀ i ∈ e.2.1,t.val i = .str (σ i))
    (hc : ∀ x y : List (List Nat),x.length < 90000 → y.length < 90000 → ∃ n h1,callN X0 n (.fn f [] []) [strsV x,strsV y] h0 = .ret (.int .i64 (cmpL x y)) h1) (hl : ∀ e ∈ k,e.1.length < 90000 ∧ e.2.1.length < 90000)
    (hm : @SumsOK t.env P X more) : @SumsOK t.env P X (cmpSums f k more) := by
  intro i args h v hs ρ w avs hr hv
  unfold cmpSums at hs
  cases hi : Pth.beq i f with
  | false => rw [hi] at hs; exact hm i args h v hs ρ w avs hr hv
  | true =>
    rw [hi] at hs
    simp only [cond_true] at hs
    match args,hs with
    | [a, b],hs =>
      cases ha : toksOf (deep 3 h a) with
      | none => simp only [ha,reduceCtorEq] at hs
      | some x =>
        cases hb : toksOf (deep 3 h b) with
        | none => simp only [ha,hb,reduceCtorEq] at hs
        | some y =>
          simp only [ha,hb] at hs
          cases hc' : lookO k x y with
          | none => rw [hc'] at hs; cases hs
          | some c =>
            rw [hc'] at hs
            cases hs
            have hmem := lookO_mem hc'
            obtain ⟨t1,t2⟩ := ht _ hmem
            obtain ⟨l1,l2⟩ := hl _ hmem
            have hcv := hk _ hmem
            simp only at t1 t2 l1 l2 hcv
            obtain ⟨z1,s1⟩ := toksOf_subst t ha t1
            obtain ⟨z2,s2⟩ := toksOf_subst t hb t2
            obtain ⟨n,h1,hrun⟩ := hc (x.map σ) (y.map σ) (by rw [List.length_map]; exact l1) (by rw [List.length_map]; exact l2)
            rw [hcv] at hrun
            rw [Pth.beq_iff.1 hi]
            simp only [VRs] at hv
            obtain ⟨u1,us1,e1,v1,u2,us2,rfl,v2,rfl⟩ := hv
            refine sum_of_frozen2 (envI := t.env) triv xo hg hrun rfl hr ?_
            have d1 := (VR_subst _ _).1 (deep_ok (envI := t.env) hr 3 a u1 v1 z1)
            have d2 := (VR_subst _ _).1 (deep_ok (envI := t.env) hr 3 b u2 v2 z2)
            rw [s1] at d1
            rw [s2] at d2
            rw [e1]
            simp only [VRs]
            exact ⟨u1,_,rfl,d1,u2,_,rfl,d2,rfl⟩
def oneSums (f : Pth) (a r : AV) (more : Pth → List AV → H → Option AV) (i : Pth) (args : List AV) (h : H) : Option AV :=
  bif Pth.beq i f && AV.beqs args [a] then some r else more i args h
theorem oneSums_ok {P : Program} {X : Ctx} (t : Toks) {f : Pth} {a r : AV} {more : Pth → List AV → H → Option AV} (hz : frz a = true) (hp : plainA r = true)
    (hc : ∀ w (avs : Array Value),@VRs triv w (ρ0 w) (Lv (ρ0 w) h0) [a.subst t] avs.toList → ∃ X0 h1,@CallR triv P X0 (ρ0 w) h0 w (callFunc f.num avs) (.ret r h1))
    (hm : @SumsOK t.env P X more) : @SumsOK t.env P X (oneSums f a r more) := by
  intro i args h v hs ρ w avs hr hv
  unfold oneSums at hs
  cases hi : (Pth.beq i f && AV.beqs args [a]) with
  | false => rw [hi] at hs; exact hm i args h v hs ρ w avs hr hv
  | true =>
    rw [hi] at hs
    simp only [cond_true,Option.some.injEq] at hs
    subst hs
    rw [Bool.and_eq_true] at hi
    obtain ⟨h1,h2⟩ := hi
    have := AV.beqs_eq _ _ h2
    subst this
    rw [Pth.beq_iff.1 h1]
    have h1 : @VRs t.env w (ρ0 w) (Lv (ρ0 w) h0) [a] avs.toList := by
      refine VRs.frzG (envI := t.env) (ρ := ρ) (L := Lv ρ h) (fun b hb' hx => ⟨no_live b,hb'⟩) hv ?_
      simp only [frzs,hz,Bool.and_self]
    have h2 := (VRs_subst _ _).1 h1
    simp only [substs] at h2
    obtain ⟨X0,h1',hR⟩ := hc w avs h2
    exact CallR.lift (envI := t.env) triv hr hp hR
end Go.Abs
end
section
namespace Go.Abs
def lookT : List (Pth × List AV × AV) → Pth → List AV → Option AV
  | [],_,_ => none
  | e :: t,i,al => bif Pth.beq e.1 i && AV.beqs e.2.1 al then some e.2.2 else lookT t i al
def tabSums (tab : List (Pth × List AV × AV)) (more : Pth → List AV → H → Option AV) (i : Pth) (args : List AV) (h : H) : Option AV :=
  match lookT tab i args with
  | some v => some v
  | none => more i args h
theorem lookT_mem : ∀ {t : List (Pth × List AV × AV)} {i : Pth} {al : List AV} {v : AV},lookT t i al = some v → (i,al,v) ∈ t
  | [],_,_,_,h => by cases h
  | e :: t,i,al,v,h => by
    simp only [lookT] at h
    cases hb : (Pth.beq e.1 i && AV.beqs e.2.1 al) with
    | true =>
      rw [hb] at h
      cases h
      rw [Bool.and_eq_true] at hb
      obtain ⟨h1,h2⟩ := hb
      rw [← Pth.beq_iff.1 h1,← AV.beqs_eq _ _ h2]
      exact List.mem_cons_self
    | false =>
      rw [hb] at h
      exact List.mem_cons_of_mem _ (lookT_mem h)
def RowF (X0 : Ctx) (e : Pth × List AV × AV) : Prop := frzs e.2.1 = true ∧ frz e.2.2 = true ∧ ∃ n v1 h1,callN X0 n (.fn e.1 [] []) e.2.1 h0 = .ret v1 h1 ∧ deep 8 h1 v1 = e.2.2
theorem tabSums_ok [envI : Env] {P : Program} {X X0 : Ctx} (xo : XOK P X0) (hg : X0.globs = .lf) {tab : List (Pth × List AV × AV)} {more : Pth → List AV → H → Option AV} (ht : ∀ e ∈ tab,RowF X0 e) (hm : SumsOK P X more) : SumsOK P X (tabSums tab more) := by
  intro i args h v hs ρ w avs hr hv
  unfold tabSums at hs
  cases hl : lookT tab i args with
  | none => rw [hl] at hs; exact hm i args h v hs ρ w avs hr hv
  | some u =>
    rw [hl] at hs
    cases hs
    obtain ⟨h1,h2,n,v1,h1',h3,h4⟩ := ht _ (lookT_mem hl)
    simp only at h1 h2 h3 h4
    subst h4
    exact sum_frozen xo hg h3 h1 h2 hr hv
def isD (v : AV) : CRes → Bool
  | .ret a h => AV.beq (deep 8 h a) v
  | _ => false
theorem isD_ret {v : AV} {r : CRes} (h : isD v r = true) : ∃ v1 h1,r = .ret v1 h1 ∧ deep 8 h1 v1 = v := by
  cases r with
  | ret a h' => exact ⟨a,h',rfl,AV.beq_eq _ _ h⟩
  | panic _ _ => cases h
  | bad _ => cases h
noncomputable def rowB (X : Ctx) (n : Nat) (e : Pth × List AV × AV) : Bool := F.callC X n (.fn e.1 [] []) e.2.1 h0 (isD e.2.2) && (frzs e.2.1 && frz e.2.2)
inductive Rows (X : Ctx) : List (Pth × List AV × AV) → Prop
  | z : Rows X []
  | s {e : Pth × List AV × AV} {t : List (Pth × List AV × AV)} (h : rowB X 100 e = true) (ht : Rows X t) : Rows X (e :: t)
theorem rowB_ok {X : Ctx} {n : Nat} {r : Pth × List AV × AV} (h : rowB X n r = true) : RowF X r := by
  simp only [rowB,Bool.and_eq_true] at h
  obtain ⟨h1,h2,h3⟩ := h
  rw [F.callC_eq] at h1
  obtain ⟨v1,h1',e1,e2⟩ := isD_ret h1
  exact ⟨h2,h3,n,v1,h1',e1,e2⟩
theorem Rows.ok {X : Ctx} {tab : List (Pth × List AV × AV)} (h : Rows X tab) : ∀ e ∈ tab,RowF X e := by
  induction h with
  | z => exact fun _ he => absurd he List.not_mem_nil
  | s h _ ih =>
    intro e he
    rcases List.mem_cons.1 he with rfl | he
    · exact rowB_ok h
    · exact ih e he
end Go.Abs
end
