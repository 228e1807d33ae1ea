/- Contracts for the exported functions of a group. (Printed by tools/gen_grpo.py.) -/
import Derived.Test.YtnhdohjlbchniaaGreatProg
import Derived.Test.YtnhdohjlbchniaaGreatGrpC
namespace Go.Proofs.YtnhdohjlbchniaaGreat
open Go.RowKit

theorem el_rng {p q x : Int} (h : elB p q x = true) : 1 ≤ x ∧ x ≤ p - 1 := (elB_iff.1 h).1





end Go.Proofs.YtnhdohjlbchniaaGreat
