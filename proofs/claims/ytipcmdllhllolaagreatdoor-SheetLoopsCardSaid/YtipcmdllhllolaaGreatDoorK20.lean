/- The examples of the chapter: a closed run. -/
import Derived.Test.YtipcmdllhllolaaGreatDoorK19
import Derived.KernelRfl
noncomputable section
section
namespace Go.Abs.T
theorem rsan:F.callC X0 200 (.fn f_sanity [] []) [] h0 (isV (.bool true))=true:=by kernel_rfl
end Go.Abs.T
end
section
namespace Go.Abs.T
open Go.Proofs
theorem sanity_ret:∃ h1,callN X0 200 (.fn f_sanity [] []) [] h0=.ret (.bool true) h1:=by
 have h:=rsan
 rw [F.callC_eq] at h
 exact isV_ret h
def sanS (i:Pth) (args:List AV) (_:H):Option AV:=bif Pth.beq i f_sanity then (match args with | []=>some (.bool true) | _=>none) else none
theorem sanS_ok [envI:Env] {X:Ctx}:SumsOK Tryz.prog X sanS:=by
 intro i args h v hs ρ w avs hr hv
 unfold sanS at hs
 cases hi:Pth.beq i f_sanity with
 | false=>rw [hi] at hs; cases hs
 | true =>
  rw [hi] at hs
  simp only [cond_true] at hs
  match args,hs with
  | [],hs =>
   cases hs
   obtain ⟨h1,h2⟩:=sanity_ret
   rw [Pth.beq_iff.1 hi]
   exact sum_of_frozen ok0 rfl (args0:=[]) (d:=0) h2 rfl rfl rfl hr hv
end Go.Abs.T
end
end
