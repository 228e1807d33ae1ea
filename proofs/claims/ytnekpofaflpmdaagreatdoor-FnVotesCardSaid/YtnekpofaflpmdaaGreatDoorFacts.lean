/- The program's own closed facts, each reckoned by itself: a row's proof takes them from here. -/
import Derived.Test.YtnekpofaflpmdaaGreatDoorProg
import Derived.Test.YtnekpofaflpmdaaGreatDoorOpen
import Derived.KernelRfl
namespace Go.Proofs.YtnekpofaflpmdaaGreatDoor
open Go

def firstWord : List Char → List Char × Option (List Char)
  | [] => ([], none)
  | c :: r => if c = Char.ofNat 32 then ([], some r) else (c :: (firstWord r).1, (firstWord r).2)
theorem words_first (L : List Char) : wordsSigns L = (firstWord L).1 :: (match (firstWord L).2 with | some r => wordsSigns r | none => []) := by
  induction L with
  | nil => rfl
  | cons c r ih =>
    by_cases h : c = Char.ofNat 32
    · subst h; rfl
    · simp only [firstWord, if_neg h]
      rw [wordsSigns]
      · rw [ih]
      · exact h
def behindCut (L : List Char) : Bool :=
  (firstWord L).1 == "harness".toList && (match (firstWord L).2 with
    | some r => isSumSigns (firstWord r).1 && (match (firstWord r).2 with
      | some q => (firstWord q).1 == "cut".toList
      | none => false)
    | none => false)
theorem behindCut_words {L : List Char} (h : behindCut L = true) : ∃ ws, behindMainWord (wordsSigns L) = "cut".toList :: ws := by
  unfold behindCut at h
  rw [Bool.and_eq_true] at h
  obtain ⟨h1, h2⟩ := h
  split at h2
  · rename_i r hr
    rw [Bool.and_eq_true] at h2
    obtain ⟨h3, h4⟩ := h2
    split at h4
    · rename_i q hq
      rw [words_first L, hr]
      simp only
      rw [words_first r, hq]
      simp only
      rw [words_first q]
      unfold behindMainWord
      simp only [h1, h3, Bool.true_or, Bool.true_and, if_true]
      exact ⟨_, by rw [eq_of_beq h4]⟩
    · cases h4
  · cases h2
theorem strip_cut (ws : List (List Char)) : stripLifts liftWords ("cut".toList :: ws) = ([], "cut".toList :: ws) := by
  simp [stripLifts, liftWords]
theorem make_of {P : Program} (h : behindCut P.initOrder.toList = true) : P.make = some .cut := by
  obtain ⟨ws, hw⟩ := behindCut_words h
  unfold Program.make
  rw [hw]
  simp
theorem lifts_of {P : Program} (h : behindCut P.initOrder.toList = true) : P.liftsFinal = false := by
  obtain ⟨ws, hw⟩ := behindCut_words h
  unfold Program.liftsFinal Program.headLifts
  rw [hw, strip_cut]
  simp
theorem mayEnter_of {P : Program} (h : behindCut P.initOrder.toList = true) (h1 : P.laysLater = false) (h2 : P.bearsReflect = false) (h3 : P.doorFits [] = true) : P.mayEnter = true := by
  obtain ⟨ws, hw⟩ := behindCut_words h
  unfold Program.mayEnter
  rw [hw]
  simp only [strip_cut, h1, h2, h3]
  simp

namespace Facts
set_option maxRecDepth 100000 in
theorem cut : behindCut Tryz.prog.initOrder.toList = true := by
  rw [show Tryz.prog.initOrder.toList = _ from String.toList_ofList]
  kernel_rfl
theorem later : Tryz.prog.laysLater = false := by kernel_rfl
theorem reflect : Tryz.prog.bearsReflect = false := by kernel_rfl
theorem door : Tryz.prog.doorFits [] = true := by kernel_rfl
theorem enter : Tryz.prog.mayEnter = true := mayEnter_of cut later reflect door
theorem lifts : Tryz.prog.liftsFinal = false := lifts_of cut
theorem make : Tryz.prog.make = some .cut := make_of cut
theorem laidOut : laidOutB Tryz.prog = true := by kernel_rfl
theorem mapsRowed : mapsRowed Tryz.prog = true := by kernel_rfl
theorem plainKeys : Tryz.prog.plainKeys = true := by kernel_rfl
theorem heard : Tryz.prog.stopsHeard = true := by kernel_rfl
theorem own : ownKnob Tryz.prog.godebug = none := by kernel_rfl
end Facts
end Go.Proofs.YtnekpofaflpmdaaGreatDoor
