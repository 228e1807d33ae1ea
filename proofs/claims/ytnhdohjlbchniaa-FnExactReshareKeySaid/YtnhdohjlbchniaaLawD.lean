/- Words for laws about dealings: what is kept beside blocks of other types. -/
import Derived.Test.YtnhdohjlbchniaaProg
import Derived.Test.YtnhdohjlbchniaaSum
import Derived.Test.YtnhdohjlbchniaaDlS
namespace Go.Proofs.Ytnhdohjlbchniaa
open Go.RowKit

theorem OwnD.off {w : World} {base n c g : Nat} {A : Option Addr} {P : List Nat} {ds : List (List Int × List Int)} {t : TypeId} {cs : Array Value} (h : OwnD w base A n c P ds) (hB : Blk w g t cs) (h1 : t ≠ 68) (h2 : t ≠ 3) : g ∉ P := by
  obtain ⟨rs, hV, hl, hI, _, rfl⟩ := h
  intro hb
  rcases List.mem_append.1 hb with hb | hb
  · exact hB.off_own hV h1 hb
  · obtain ⟨r, hr, hb⟩ := rowsFp_mem.1 hb
    obtain ⟨i, hi, rfl⟩ := List.getElem_of_mem hr
    exact hB.off_own (hI i hi (by omega)).w h2 hb
theorem Apart.symm' {a b : List Nat} (h : Apart a b) : Apart b a := fun x hx hx' => h x hx' hx
end Go.Proofs.Ytnhdohjlbchniaa
