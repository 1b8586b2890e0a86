/- A part of the proof that LibFinds answers true at every input: AbsOk, AbsX, AbsRow0. -/
import Derived.Test.YthfmfbbfaiohcaaGreatDoorFinds19
import Derived.Test.YthfmfbbfaiohcaaGreatDoorFinds20
import Derived.Lib.Bytealg
import Derived.Laws.StandIn
import Derived.Test.YthfmfbbfaiohcaaGreatDoorFinds18
import Derived.KernelRfl
section
namespace Go.Abs.T
open Go.Proofs
set_option maxRecDepth 10000
theorem allGood : All (Good Tryz.prog) funcs id := (.n (.n (.s k3 (.s k7 (.s k15 (.s k31 (.s k63 (.n (.s k255 .f .f) .f) .f) (.s k95 (.s k159 .f .f) .f)) (.s k47 (.n (.n (.s k271 .f .f) .f) (.s k207 .f .f)) (.s k111 .f (.s k239 .f .f)))) (.s k23 (.s k39 (.s k71 (.s k135 .f .f) (.s k199 .f .f)) (.s k103 (.s k167 (.s k295 .f .f) .f) (.s k231 .f .f))) (.s k55 (.s k87 .f .f) (.n (.s k183 .f .f) .f)))) (.s k11 (.s k19 (.s k35 (.s k67 (.n (.s k259 .f .f) .f) (.s k195 .f .f)) (.s k99 (.s k163 (.s k291 .f .f) .f) .f)) (.s k51 (.s k83 .f .f) (.s k115 .f .f))) (.s k27 (.s k43 (.s k75 .f (.s k203 .f .f)) (.n (.s k171 .f .f) (.s k235 .f .f))) (.s k59 (.s k91 (.s k155 (.s k283 .f .f) .f) .f) (.s k123 .f (.s k251 .f .f)))))) (.s k5 (.s k9 (.s k17 (.s k33 (.s k65 (.n (.s k257 .f .f) .f) .f) (.s k97 (.n (.s k289 .f .f) .f) .f)) (.s k49 (.n (.s k145 (.s k273 .f .f) .f) (.s k209 .f .f)) (.s k113 .f (.s k241 .f .f)))) (.s k25 (.s k41 (.s k73 (.n (.s k265 .f .f) .f) (.s k201 .f .f)) (.n (.s k169 .f .f) (.s k233 .f .f))) (.s k57 (.s k89 .f .f) (.s k121 .f (.s k249 .f .f))))) (.s k13 (.s k21 (.s k37 (.s k69 (.n (.s k261 .f .f) .f) (.s k197 .f .f)) (.s k101 (.s k165 .f .f) (.s k229 .f .f))) (.s k53 (.s k85 .f .f) (.s k117 .f .f))) (.s k29 (.s k45 (.s k77 .f (.s k205 .f .f)) (.s k109 (.s k173 .f .f) (.s k237 .f .f))) (.s k61 (.s k93 (.s k157 .f .f) .f) (.s k125 (.n (.s k317 .f .f) .f) .f)))))) (.n (.s k4 (.s k8 (.s k16 (.s k32 (.n (.n (.s k256 .f .f) .f) .f) (.n (.s k160 (.s k288 .f .f) .f) .f)) (.s k48 (.n (.s k144 (.s k272 .f .f) .f) (.s k208 .f .f)) (.s k112 .f (.s k240 .f .f)))) (.s k24 (.s k40 (.s k72 (.s k136 (.s k264 .f .f) .f) (.s k200 .f .f)) (.n (.s k168 .f .f) (.s k232 .f .f))) (.s k56 (.s k88 .f .f) (.s k120 .f .f)))) (.s k12 (.s k20 (.s k36 (.s k68 (.n (.s k260 .f .f) .f) (.s k196 .f .f)) (.s k100 (.s k164 .f .f) .f)) (.s k52 (.s k84 (.n (.s k276 .f .f) .f) .f) (.s k116 .f .f))) (.s k28 (.s k44 (.s k76 .f (.s k204 .f .f)) (.s k108 .f .f)) (.s k60 (.s k92 (.s k156 .f .f) .f) (.s k124 .f (.s k252 .f .f)))))) (.s k6 (.s k10 (.s k18 (.s k34 (.s k66 (.n (.s k258 .f .f) .f) (.s k194 .f .f)) (.s k98 (.n (.s k290 .f .f) .f) .f)) (.s k50 (.s k82 (.s k146 .f .f) (.s k210 .f .f)) (.s k114 .f .f))) (.s k26 (.s k42 (.s k74 .f .f) (.n (.s k170 .f .f) (.s k234 .f .f))) (.s k58 (.s k90 (.s k154 (.s k282 .f .f) .f) .f) (.s k122 .f (.s k250 .f .f))))) (.s k14 (.s k22 (.s k38 (.s k70 (.n (.s k262 .f .f) .f) (.s k198 .f .f)) (.s k102 (.s k166 .f .f) (.s k230 .f .f))) (.s k54 (.s k86 .f .f) (.s k118 .f .f))) (.s k30 (.s k46 (.n (.n (.s k270 .f .f) .f) (.s k206 .f .f)) (.s k110 (.s k174 .f .f) (.s k238 .f .f))) (.s k62 (.s k94 (.s k158 .f .f) (.s k222 .f .f)) (.s k126 (.n (.s k318 .f .f) .f) .f)))))))
end Go.Abs.T
end
section
namespace Go.Abs.T
open Go.Proofs
theorem ixN_eq : ∀ (l : List UInt8) (c : UInt8) (k : Nat),ixN k (l.map (·.toNat)) c.toNat = if Lib.indexByte l c = -1 then -1 else Lib.indexByte l c + k
  | [],c,k => rfl
  | b :: l,c,k => by
    have ih := ixN_eq l c (k + 1)
    have hge := Lib.indexByte_ge l c
    have hstep : Lib.indexByte (b :: l) c = if b == c then 0 else if Lib.indexByte l c == -1 then -1 else Lib.indexByte l c + 1 := rfl
    generalize Lib.indexByte (b :: l) c = z at hstep ⊢
    subst hstep
    simp only [List.map_cons,ixN]
    by_cases hb : b = c
    · subst hb
      have : Nat.beq b.toNat b.toNat = true := by simp
      rw [this]
      simp
    · have h1 : Nat.beq b.toNat c.toNat = false := by
        cases h : Nat.beq b.toNat c.toNat with
        | false => rfl
        | true => exact absurd (UInt8.toNat_inj.1 (Nat.eq_of_beq_eq_true h)) hb
      have h2 : (b == c) = false := by simpa using hb
      simp only [h1,h2,cond_false,Bool.false_eq_true,if_false,ih]
      by_cases hx : Lib.indexByte l c = -1
      · simp [hx]
      · have h3 : (Lib.indexByte l c == -1) = false := by simpa using hx
        simp only [h3,Bool.false_eq_true,if_false]
        rw [if_neg hx,if_neg (by omega)]
        omega
theorem exts_ok {X : Ctx} (i : Pth) (args : List AV) (v : AV) (he : exts i args = some v) (ρ : Nm) (h : H) (w : World) (avs : Array Value) (hr : HR Tryz.prog X ρ h w) (hv : VRs w ρ (Lv ρ h) args avs.toList) :
    CallR Tryz.prog X ρ h w (callFunc i.num avs) (.ret v h) := by
  unfold exts at he
  cases hi : Pth.beq i t213 with
  | false => rw [hi] at he; cases he
  | true =>
    rw [hi] at he
    simp only [cond_true] at he
    split at he
    · rename_i s c
      cases hc : (leI 0 c && ltI c 256) with
      | false => rw [hc] at he; cases he
      | true =>
        rw [hc] at he
        cases he
        simp only [VRs,VR] at hv
        obtain ⟨u,us,e1,⟨x,rfl,hx⟩,u',us',rfl,rfl,rfl⟩ := hv
        have havs : avs = #[.string x,.int .u8 c] := by apply Array.ext'; simpa using e1
        have hi' : i.num = 213 := by rw [Pth.beq_iff.1 hi]; kernel_rfl
        have hrun := run_callFunc_indexByte (P := Tryz.prog) (f := 213) Tryz.func213 (by kernel_rfl) (by kernel_rfl) (by kernel_rfl) (by kernel_rfl) avs w
        rw [havs,Lib.run_indexByteString] at hrun
        rw [hi',havs]
        refine ⟨_,w,hrun,.inl ⟨_,rfl,ρ,hr,Sim.refl ..,?_⟩⟩
        have h0 : 0 ≤ c ∧ c < 256 := by
          simp only [Bool.and_eq_true] at hc
          refine ⟨?_,?_⟩
          · cases c <;> simp [leI] at hc ⊢
          · have := hc.2
            cases c with
            | ofNat m => simp [ltI] at this; exact Int.ofNat_lt.2 this
            | negSucc m => omega
        have hcb : (c.toNat.toUInt8).toNat = c.toNat := by
          simp only [Nat.toUInt8,UInt8.toNat_ofNat']
          omega
        have := ixN_eq x.data.toList c.toNat.toUInt8 0
        rw [hcb] at this
        simp only [VR]
        rw [← hx]
        simp only [bytesL] at this ⊢
        rw [this]
        by_cases hm : Lib.indexByte x.data.toList c.toNat.toUInt8 = -1
        · rw [if_pos hm,hm]
        · rw [if_neg hm]; simp
    · cases he
theorem funcs_ok (i : Pth) (F : AFunc) (h : funcs.get i = some F) : ∃ fn body,Tryz.prog.funcs[i.num]? = some fn ∧ fn.body = some body ∧ (fn.name == "runtime.NumGoroutine") = false ∧ compFunc Tryz.prog fn = some F := allGood.get h
theorem mixed : Tryz.prog.follows .mixedOrders = true := by kernel_rfl
theorem ok0 : XOK Tryz.prog X0 := ⟨mixed,funcs_ok,exts_ok,noSums_ok⟩
end Go.Abs.T
end
section
namespace Go.Abs.T
theorem rp0 : Row X0 f_padErr (pad0,i0) := row_of (n := 100) (by kernel_rfl) (by kernel_rfl) (by kernel_rfl)
theorem rp1 : Row X0 f_padErr (pad1,i0) := row_of (n := 100) (by kernel_rfl) (by kernel_rfl) (by kernel_rfl)
theorem rp2 : Row X0 f_padErr (pad2,i0) := row_of (n := 100) (by kernel_rfl) (by kernel_rfl) (by kernel_rfl)
theorem rp3 : Row X0 f_padErr (pad3,i0) := row_of (n := 100) (by kernel_rfl) (by kernel_rfl) (by kernel_rfl)
theorem rp4 : Row X0 f_padErr (pad4,i0) := row_of (n := 100) (by kernel_rfl) (by kernel_rfl) (by kernel_rfl)
theorem rp5 : Row X0 f_padErr (pad5,i0) := row_of (n := 100) (by kernel_rfl) (by kernel_rfl) (by kernel_rfl)
end Go.Abs.T
end
