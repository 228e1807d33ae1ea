/- Contracts: strconv.Atoi and strings.Split as ParseVote meets them; what the library's own variables hold. -/
import Derived.Test.YtnekpofaflpmdaaGreatDoorProg
import Derived.Test.YtnekpofaflpmdaaGreatDoorPtp
import Derived.Test.YtnekpofaflpmdaaGreatDoorShp
import Derived.Test.YtnekpofaflpmdaaGreatDoorRw
namespace Go.Proofs.YtnekpofaflpmdaaGreatDoor
open Go.RowKit
/-- What the library's functions read: bytealg.MaxLen holds an int, ErrSyntax and ErrRange hold errors. -/
structure LibW (w : World) : Prop where
  m : ∃ m, w.cell? ⟨2, 0, none⟩ = some (.int .i64 m)
  s : ∃ ev, w.cell? ⟨0, 0, none⟩ = some ev ∧ (ev = .nilIface ∨ ∃ te pe, ev = .iface te pe)
  r : ∃ ev, w.cell? ⟨1, 0, none⟩ = some ev ∧ (ev = .nilIface ∨ ∃ te pe, ev = .iface te pe)
theorem LibW.ext {w w' : World} (h : LibW w) (hE : Ext w w') : LibW w' := by
  obtain ⟨⟨m, hm⟩, ⟨u, hu, hu2⟩, ⟨v, hv, hv2⟩⟩ := h
  exact ⟨⟨m, hE.cell hm⟩, ⟨u, hE.cell hu, hu2⟩, ⟨v, hE.cell hv, hv2⟩⟩
theorem Atoi_any (s : ByteArray) (w : World) (hs : s.size ≤ 1048576) (hL : LibW w) :
    Calls Tryz.prog 26 #[.string s] w fun e w' => ∃ er, e = .returned (.tuple #[.int .i64 (atoV s), er]) ∧ Ext w w' := by
  obtain ⟨_, ⟨u, hu, hu2⟩, ⟨v, hv, hv2⟩⟩ := hL
  cases h : Lib.atoiAll s.data.toList with
  | ok n =>
    have ha : atoV s = n := by rw [atoV, atoVL, h]
    rw [ha]
    refine (Tryz.strconv_Atoi_ok s (by omega) n h w).mono ?_
    rintro e w' ⟨rfl, rfl | ⟨t, rfl⟩⟩
    · exact ⟨_, rfl, Ext.refl _⟩
    · exact ⟨_, rfl, Lib.bytesWorld_below _ _ _⟩
  | range =>
    have ha : atoV s = Lib.atoiSat s.data.toList := by rw [atoV, atoVL, h]
    rw [ha]
    refine (Tryz.strconv_Atoi_range s (by omega) h v w hv hv2).mono ?_
    rintro e w' ⟨N, rfl, _, _, hb⟩
    exact ⟨_, rfl, hb⟩
  | _ =>
    have ha : atoV s = 0 := by rw [atoV, atoVL, h]
    rw [ha]
    refine (Tryz.strconv_Atoi_syntax s (by omega) (by rw [h]; trivial) u w hu hu2).mono ?_
    rintro e w' ⟨N, rfl, _, _, hb⟩
    exact ⟨_, rfl, hb⟩
theorem splitB_size (sep : ByteArray) (n : Nat) : ∀ (k : Nat) (s : ByteArray), s.size ≤ n → ∀ x ∈ Lib.splitB sep 0 k s, x.size ≤ n
  | 0, s, h, x, hx => by
    simp only [Lib.splitB, List.mem_singleton] at hx
    subst hx; exact h
  | k + 1, s, h, x, hx => by
    rw [Lib.splitB] at hx
    split at hx
    · simp only [List.mem_singleton] at hx
      subst hx; exact h
    · rcases List.mem_cons.1 hx with rfl | hx
      · simp only [ByteArray.size_extract]; omega
      · exact splitB_size sep n k _ (by simp only [ByteArray.size_extract]; omega) x hx
/-- The pieces of a text, in a block of the call's own. -/
theorem Split_any (s : ByteArray) (w : World) (hs : s.size ≤ 1048576) (hL : LibW w) :
    Calls Tryz.prog 25 #[.string s, .string ⟨#[44]⟩] w fun e w' => ∃ g m, e = .returned (.slice (some ⟨g, 0, none⟩) m m) ∧ Blk w' g 9 ((Lib.splitB ⟨#[44]⟩ 0 (Lib.countB s ⟨#[44]⟩) s).map Value.string).toArray ∧ (Lib.splitB ⟨#[44]⟩ 0 (Lib.countB s ⟨#[44]⟩) s).length = m ∧ m ≤ 1048577 ∧ Ext w w' := by
  obtain ⟨⟨m, hm⟩, _, _⟩ := hL
  have h1 : (1 : Nat) ≤ (⟨#[44]⟩ : ByteArray).size := by decide
  have hc : Lib.countB s ⟨#[44]⟩ ≤ s.size := Lib.countB_le ⟨#[44]⟩ h1 s.size s (Nat.le_refl _)
  have hl : (Lib.splitB ⟨#[44]⟩ 0 (Lib.countB s ⟨#[44]⟩) s).length = Lib.countB s ⟨#[44]⟩ + 1 := Lib.splitB_all ⟨#[44]⟩ h1 0 _ s rfl
  refine (Tryz.strings_Split s ⟨#[44]⟩ m w (by omega) hm h1).mono ?_
  rintro e w' ⟨rfl, rfl⟩
  exact ⟨_, _, rfl, Blk.new w _ _, hl, by omega, (Ext.refl w).alloc _⟩
end Go.Proofs.YtnekpofaflpmdaaGreatDoor
