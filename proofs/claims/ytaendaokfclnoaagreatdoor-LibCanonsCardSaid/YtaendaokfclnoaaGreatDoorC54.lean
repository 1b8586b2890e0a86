/- LibCanons answers true for every input, as its card states, on the pruned copy that the row names: no condition beyond the card's own. -/
import Derived.SevenTiedAt
import Derived.Test.YtaendaokfclnoaaGreatDoorC53
import Derived.Test.YtaendaokfclnoaaGreatDoorC52
import Derived.Test.YtaendaokfclnoaaGreatDoorTie
import Derived.Test.YtaendaokfclnoaaGreatDoorCards
noncomputable section
section
set_option maxRecDepth 10000
namespace Go.Proofs.YtaendaokfclnoaaGreatDoor
open Go
theorem libCanons_card:Rows.LibCanonsCardSaid :=
 Claim7.holds_tied_plain_at .later [] [.data,.data,.data,.sentinel,.sentinel] true (true, "f45eed60ef9bf3f7461cc7befac10ca28a9b91c0ea61f0048f47ea64270cec3c") true
  (xKe Abs.Sym.all_rows) (fun _ h=>by cases h) cg1 (fun _ h=>by cases h) libCanons_row_tie rfl ⟨rfl,rfl⟩ cg2 rfl
  (fun f fn hf hfn=>by
   obtain rfl:f=3:=Option.some.inj (zJ6.symm.trans hf) |>.symm
   obtain rfl:fn=Tryz.f3:=(Option.some.inj (Tryz.func3.symm.trans hfn)).symm
   exact ⟨cg3,fun j t ht=>by
    rw [Tryz.params3] at ht
    have hm:t∈[26,27,29]:=by simpa using Array.mem_of_getElem? ht
    exact (show Tryz.prog.wantsStandIn t=false by simpa using List.all_eq_true.1 cg4 t hm)⟩)
  cg5
#print axioms libCanons_card
end Go.Proofs.YtaendaokfclnoaaGreatDoor
end
end
