/- Contracts for votes of a contest: the program's test. -/
import Derived.Test.YtnekpofaflpmdaaGreatDoorProg
import Derived.Test.YtnekpofaflpmdaaGreatDoorVote
import Derived.RegionTactic
import Derived.ChangeAlike
namespace Go.Proofs.YtnekpofaflpmdaaGreatDoor
open Go.RowKit

def VoteStart (w : World) (cs : Array Value) (n x : Int) (s5 s6 s7 : Value) (wx : World) : Prop := ∃ gl gh, s5 = .int .i64 n ∧ s6 = .pointer (some ⟨gl, 0, none⟩) ∧ s7 = .pointer (some ⟨gh, 0, none⟩) ∧
  gl ≠ gh ∧ w.heap.size < gl ∧ w.heap.size < gh ∧ Blk wx w.heap.size 25 cs ∧ Blk wx gl 3 #[.int .i64 0] ∧ Blk wx gh 3 #[.int .i64 x] ∧ Ext w wx
theorem blk_two0 (w : World) (t u : TypeId) (a b : Array Value) : Blk (((w.alloc (.cells a t)).alloc (.cells b u)).drew) w.heap.size t a := ((Blk.new w t a).alloc _).drew
theorem blk_three1 (w : World) (o : Obj) (t u : TypeId) (a b : Array Value) : Blk ((((w.alloc o).alloc (.cells a t)).alloc (.cells b u)).drew) (w.heap.size + 1) t a := by
  have h := ((Blk.new (w.alloc o) t a).alloc (.cells b u)).drew
  rw [World.size_alloc] at h; exact h
theorem blk_three2 (w : World) (o o2 : Obj) (u : TypeId) (b : Array Value) : Blk ((((w.alloc o).alloc o2).alloc (.cells b u)).drew) (w.heap.size + 1 + 1) u b := by
  have h := (Blk.new ((w.alloc o).alloc o2) u b).drew
  rw [World.size_alloc, World.size_alloc] at h; exact h
theorem voteStart1 (w : World) (cs : Array Value) (n x : Int) :
    VoteStart w cs n x (.int .i64 n) (.pointer (some ⟨w.heap.size + 1, 0, none⟩)) (.pointer (some ⟨w.heap.size + 1 + 1, 0, none⟩)) ((((w.alloc (.cells cs 25)).alloc (.cells #[.int .i64 0] 3)).alloc (.cells #[.int .i64 x] 3)).drew) :=
  ⟨_, _, rfl, rfl, rfl, by omega, by omega, by omega, (((Blk.new w _ cs).alloc _).alloc _).drew, blk_three1 _ _ _ _ _ _, blk_three2 _ _ _ _ _, (((Ext.refl w).alloc _).alloc _).alloc _ |>.drew⟩
theorem voteStart2 (w : World) (cs : Array Value) (n x : Int) :
    VoteStart w cs n x (.int .i64 n) (.pointer (some ⟨w.heap.size + 1 + 1, 0, none⟩)) (.pointer (some ⟨w.heap.size + 1, 0, none⟩)) ((((w.alloc (.cells cs 25)).alloc (.cells #[.int .i64 x] 3)).alloc (.cells #[.int .i64 0] 3)).drew) :=
  ⟨_, _, rfl, rfl, rfl, by omega, by omega, by omega, (((Blk.new w _ cs).alloc _).alloc _).drew, blk_three2 _ _ _ _ _, blk_three1 _ _ _ _ _ _, (((Ext.refl w).alloc _).alloc _).alloc _ |>.drew⟩
theorem isVote2_ans (w : World) (l : List Int) (gl gh : Nat) (lo hi : Int) (h1 : Blk w gl 3 #[.int .i64 lo]) (h2 : Blk w gh 3 #[.int .i64 hi]) :
    Answers 51 #[.pointer (some ⟨gl, 0, none⟩), .pointer (some ⟨gh, 0, none⟩)] w l (fun x => inR x lo hi) := by
  refine ⟨fun args w => by kernel_rfl, fun x hx w2 hw => ?_⟩
  have C1 := (h1.ext hw).cells
  have C2 := (h2.ext hw).cells
  go_enter Tryz.func51, Tryz.ntmps51
  go_wp2_with fail
  refine (within_any _ _ _ _).mono ?_
  rintro e w3 ⟨rfl, rfl⟩
  go_wp2
  go_ret
  exact ⟨rfl, Ext.refl _⟩
theorem voteAll_any (A : Option Addr) (n k : Nat) (v : List Int) (lo hi : Int) (w : World) (gl gh : Nat) (ha : RdI w A v) (hl : v.length = n) (hn : n ≤ maxLen) (h1 : Blk w gl 3 #[.int .i64 lo]) (h2 : Blk w gh 3 #[.int .i64 hi]) :
    Calls Tryz.prog 49 #[.slice A n k, .func (.func 51) #[] #[.pointer (some ⟨gl, 0, none⟩), .pointer (some ⟨gh, 0, none⟩)]] w fun e w' => e = .returned (.bool (allR v lo hi)) ∧ Ext w w' :=
  areAll_any _ _ _ v _ _ _ _ ha hl hn (isVote2_ans w v gl gh lo hi h1 h2)
theorem isVote1_ans (w : World) (l : List Int) (g : Nat) (a b c d f : Int) (h1 : Blk w g 25 #[.int .i64 a, .int .i64 b, .int .i64 c, .int .i64 d, .int .i64 f]) :
    Answers 50 #[.pointer (some ⟨g, 0, none⟩)] w l (fun x => inR x 0 f) := by
  refine ⟨fun args w => by kernel_rfl, fun x hx w2 hw => ?_⟩
  have C1 := (h1.ext hw).cells
  go_enter Tryz.func50, Tryz.ntmps50
  go_wp2_with fail
  refine (within_any _ _ _ _).mono ?_
  rintro e w3 ⟨rfl, rfl⟩
  go_wp2
  go_ret
  exact ⟨rfl, Ext.refl _⟩
theorem voteAll1_any (A : Option Addr) (n k : Nat) (v : List Int) (w : World) (g : Nat) (a b c d f : Int) (ha : RdI w A v) (hl : v.length = n) (hn : n ≤ maxLen) (h1 : Blk w g 25 #[.int .i64 a, .int .i64 b, .int .i64 c, .int .i64 d, .int .i64 f]) :
    Calls Tryz.prog 49 #[.slice A n k, .func (.func 50) #[] #[.pointer (some ⟨g, 0, none⟩)]] w fun e w' => e = .returned (.bool (allR v 0 f)) ∧ Ext w w' :=
  areAll_any _ _ _ v _ _ _ _ ha hl hn (isVote1_ans w v g a b c d f h1)

set_option maxRecDepth 100000 in
set_option maxHeartbeats 2000000 in
theorem isVote_1 (b c d f : Int) (A : Option Addr) (n k : Nat) (v : List Int) (w : World) (hb : 0 ≤ b ∧ b ≤ 8) (ha : RdI w A v) (hl : v.length = n) (hn : n ≤ 1048577) (hk : n ≤ k ∧ k ≤ maxLen) :
    Calls Tryz.prog 27 #[.agg #[.int .i64 1, .int .i64 b, .int .i64 c, .int .i64 d, .int .i64 f], .slice A n k] w fun e w' => e = .returned (.bool (inR n c d && (allR v 0 (b - 1) && (sortB v && diffB v)))) ∧ Ext w w' := by
  have B := Blk.new w 25 #[.int .i64 1, .int .i64 b, .int .i64 c, .int .i64 d, .int .i64 f]
  have C := B.cells
  have hfn : ∀ args w, (callFunc 51 args).run Tryz.prog w = .ok (.enter 51 args) w := fun args w => by kernel_rfl
  go_enter Tryz.func27, Tryz.ntmps27
  go_upto_region 1 with (fail)
  go_cut [5, 6, 7] from 10 to 14 (fun s5 s6 s7 wx => VoteStart w #[.int .i64 1, .int .i64 b, .int .i64 c, .int .i64 d, .int .i64 f] n (b - 1) s5 s6 s7 wx)
  case first =>
    go_region
    all_goals
      go_wp2
      go_meet
      first
      | exact voteStart1 _ _ _ _
      | exact voteStart2 _ _ _ _
  case rest =>
  clear C B
  obtain ⟨gl, gh, rfl, rfl, rfl, hne, hg1, hg2, Bc, Bl, Bh, hE⟩ := hcut
  have Cc := Bc.cells
  have Cl := Bl.cells
  have Ch := Bh.cells
  cases h1 : inR n c d
  · go_wp2_with fail
    refine (within_any _ _ _ _).mono ?_
    rintro e w1 ⟨he, rfl⟩
    rw [h1] at he; subst he
    go_wp2
    go_ret
    exact ⟨ret_bool (by simp [h1]), hE⟩
  cases h2 : allR v 0 (b - 1)
  · go_wp2_with fail
    refine (within_any _ _ _ _).mono ?_
    rintro e w1 ⟨he, rfl⟩
    rw [h1] at he; subst he
    go_wp2_with fail
    refine (voteAll_any A n k v 0 (b - 1) _ gl gh (ha.ext hE) hl (by unfold maxLen; omega) Bl Bh).mono ?_
    rintro e w1 ⟨he, hb1⟩
    rw [h2] at he; subst he
    go_wp2
    go_ret
    exact ⟨ret_bool (by simp [h1, h2]), hE.trans hb1⟩
  cases h3 : sortB v
  · go_wp2_with fail
    refine (within_any _ _ _ _).mono ?_
    rintro e w1 ⟨he, rfl⟩
    rw [h1] at he; subst he
    go_wp2_with fail
    refine (voteAll_any A n k v 0 (b - 1) _ gl gh (ha.ext hE) hl (by unfold maxLen; omega) Bl Bh).mono ?_
    rintro e w1 ⟨he, hb1⟩
    rw [h2] at he; subst he
    have Cc1 := (Bc.ext hb1).cells
    go_wp2_with fail
    refine (IsSorted_any _ _ _ v _ (ha.ext (hE.trans hb1)) hl (by unfold maxLen; omega)).mono ?_
    rintro e w2 ⟨he, hb2⟩
    rw [h3] at he; subst he
    go_wp2
    go_ret
    exact ⟨ret_bool (by simp [h1, h2, h3]), (hE.trans hb1).trans hb2⟩
  go_wp2_with fail
  refine (within_any _ _ _ _).mono ?_
  rintro e w1 ⟨he, rfl⟩
  rw [h1] at he; subst he
  go_wp2_with fail
  refine (voteAll_any A n k v 0 (b - 1) _ gl gh (ha.ext hE) hl (by unfold maxLen; omega) Bl Bh).mono ?_
  rintro e w1 ⟨he, hb1⟩
  rw [h2] at he; subst he
  have Cc1 := (Bc.ext hb1).cells
  go_wp2_with fail
  refine (IsSorted_any _ _ _ v _ (ha.ext (hE.trans hb1)) hl (by unfold maxLen; omega)).mono ?_
  rintro e w2 ⟨he, hb2⟩
  rw [h3] at he; subst he
  go_wp2_with fail
  refine (areDifferent_any _ _ _ v _ (ha.ext ((hE.trans hb1).trans hb2)) hl hk.1 hk.2).mono ?_
  rintro e w3 ⟨rfl, rfl⟩
  go_wp2
  go_ret
  exact ⟨ret_bool (by simp [h1, h2, h3]), (hE.trans hb1).trans hb2⟩
set_option maxRecDepth 100000 in
set_option maxHeartbeats 2000000 in
theorem isVote_3 (b c d f : Int) (A : Option Addr) (n k : Nat) (v : List Int) (w : World) (hb : 0 ≤ b ∧ b ≤ 8) (ha : RdI w A v) (hl : v.length = n) (hn : n ≤ 1048577) (hk : n ≤ k ∧ k ≤ maxLen) :
    Calls Tryz.prog 27 #[.agg #[.int .i64 3, .int .i64 b, .int .i64 c, .int .i64 d, .int .i64 f], .slice A n k] w fun e w' => e = .returned (.bool (inR n c d && (allR v 0 (b - 1) && diffB v))) ∧ Ext w w' := by
  have B := Blk.new w 25 #[.int .i64 3, .int .i64 b, .int .i64 c, .int .i64 d, .int .i64 f]
  have C := B.cells
  have hfn : ∀ args w, (callFunc 51 args).run Tryz.prog w = .ok (.enter 51 args) w := fun args w => by kernel_rfl
  go_enter Tryz.func27, Tryz.ntmps27
  go_upto_region 1 with (fail)
  go_cut [5, 6, 7] from 10 to 14 (fun s5 s6 s7 wx => VoteStart w #[.int .i64 3, .int .i64 b, .int .i64 c, .int .i64 d, .int .i64 f] n (b - 1) s5 s6 s7 wx)
  case first =>
    go_region
    all_goals
      go_wp2
      go_meet
      first
      | exact voteStart1 _ _ _ _
      | exact voteStart2 _ _ _ _
  case rest =>
  clear C B
  obtain ⟨gl, gh, rfl, rfl, rfl, hne, hg1, hg2, Bc, Bl, Bh, hE⟩ := hcut
  have Cc := Bc.cells
  have Cl := Bl.cells
  have Ch := Bh.cells
  cases h1 : inR n c d
  · go_wp2_with fail
    refine (within_any _ _ _ _).mono ?_
    rintro e w1 ⟨he, rfl⟩
    rw [h1] at he; subst he
    go_wp2
    go_ret
    exact ⟨ret_bool (by simp [h1]), hE⟩
  cases h2 : allR v 0 (b - 1)
  · go_wp2_with fail
    refine (within_any _ _ _ _).mono ?_
    rintro e w1 ⟨he, rfl⟩
    rw [h1] at he; subst he
    go_wp2_with fail
    refine (voteAll_any A n k v 0 (b - 1) _ gl gh (ha.ext hE) hl (by unfold maxLen; omega) Bl Bh).mono ?_
    rintro e w1 ⟨he, hb1⟩
    rw [h2] at he; subst he
    go_wp2
    go_ret
    exact ⟨ret_bool (by simp [h1, h2]), hE.trans hb1⟩
  go_wp2_with fail
  refine (within_any _ _ _ _).mono ?_
  rintro e w1 ⟨he, rfl⟩
  rw [h1] at he; subst he
  go_wp2_with fail
  refine (voteAll_any A n k v 0 (b - 1) _ gl gh (ha.ext hE) hl (by unfold maxLen; omega) Bl Bh).mono ?_
  rintro e w1 ⟨he, hb1⟩
  rw [h2] at he; subst he
  have Cc1 := (Bc.ext hb1).cells
  go_wp2_with fail
  refine (areDifferent_any _ _ _ v _ (ha.ext (hE.trans hb1)) hl hk.1 hk.2).mono ?_
  rintro e w3 ⟨rfl, rfl⟩
  go_wp2
  go_ret
  exact ⟨ret_bool (by simp [h1, h2]), hE.trans hb1⟩
set_option maxRecDepth 100000 in
set_option maxHeartbeats 2000000 in
theorem isVote_4 (b c d f : Int) (A : Option Addr) (n k : Nat) (v : List Int) (w : World) (_hb : 0 ≤ b ∧ b ≤ 8) (ha : RdI w A v) (hl : v.length = n) (hn : n ≤ 1048577) (_hk : n ≤ k ∧ k ≤ maxLen) :
    Calls Tryz.prog 27 #[.agg #[.int .i64 4, .int .i64 b, .int .i64 c, .int .i64 d, .int .i64 f], .slice A n k] w fun e w' => e = .returned (.bool (inR n c d && allR v 1 26)) ∧ Ext w w' := by
  have B := Blk.new w 25 #[.int .i64 4, .int .i64 b, .int .i64 c, .int .i64 d, .int .i64 f]
  have C := B.cells
  have hfn : ∀ args w, (callFunc 51 args).run Tryz.prog w = .ok (.enter 51 args) w := fun args w => by kernel_rfl
  go_enter Tryz.func27, Tryz.ntmps27
  go_upto_region 1 with (fail)
  go_cut [5, 6, 7] from 10 to 14 (fun s5 s6 s7 wx => VoteStart w #[.int .i64 4, .int .i64 b, .int .i64 c, .int .i64 d, .int .i64 f] n (b - 1) s5 s6 s7 wx)
  case first =>
    go_region
    all_goals
      go_wp2
      go_meet
      first
      | exact voteStart1 _ _ _ _
      | exact voteStart2 _ _ _ _
  case rest =>
  clear C B
  obtain ⟨gl, gh, rfl, rfl, rfl, hne, hg1, hg2, Bc, Bl, Bh, hE⟩ := hcut
  have Cc := Bc.cells
  have Cl := Bl.cells
  have Ch := Bh.cells
  have hf1 := Bl.frozen 0
  have hf2 := Bh.frozen 0
  have Bl2 : Blk ((wc.setCell ⟨gl, 0, none⟩ (.int .i64 1)).setCell ⟨gh, 0, none⟩ (.int .i64 26)) gl 3 #[.int .i64 1] := (Bl.set_ 0 (.int .i64 1)).far (p := ⟨gh, 0, none⟩) hne _
  have Bh2 : Blk ((wc.setCell ⟨gl, 0, none⟩ (.int .i64 1)).setCell ⟨gh, 0, none⟩ (.int .i64 26)) gh 3 #[.int .i64 26] := (Bh.far (p := ⟨gl, 0, none⟩) (Ne.symm hne) (.int .i64 1)).set_ 0 (.int .i64 26)
  have Bc2 : Blk ((wc.setCell ⟨gl, 0, none⟩ (.int .i64 1)).setCell ⟨gh, 0, none⟩ (.int .i64 26)) w.heap.size 25 #[.int .i64 4, .int .i64 b, .int .i64 c, .int .i64 d, .int .i64 f] := (Bc.far (p := ⟨gl, 0, none⟩) (by simp; omega) (.int .i64 1)).far (p := ⟨gh, 0, none⟩) (by simp; omega) _
  have hE2 : Ext w ((wc.setCell ⟨gl, 0, none⟩ (.int .i64 1)).setCell ⟨gh, 0, none⟩ (.int .i64 26)) := (hE.setCell (p := ⟨gl, 0, none⟩) (by simp; omega) _).setCell (p := ⟨gh, 0, none⟩) (by simp; omega) _
  cases h1 : inR n c d
  · go_wp2_with fail
    refine (within_any _ _ _ _).mono ?_
    rintro e w1 ⟨he, rfl⟩
    rw [h1] at he; subst he
    go_wp2
    go_ret
    exact ⟨ret_bool (by simp [h1]), hE2⟩
  cases h2 : allR v 1 26
  · go_wp2_with fail
    refine (within_any _ _ _ _).mono ?_
    rintro e w1 ⟨he, rfl⟩
    rw [h1] at he; subst he
    go_wp2_with fail
    refine (voteAll_any A n k v 1 26 _ gl gh (ha.ext hE2) hl (by unfold maxLen; omega) Bl2 Bh2).mono ?_
    rintro e w1 ⟨he, hb1⟩
    rw [h2] at he; subst he
    go_wp2
    go_ret
    exact ⟨ret_bool (by simp [h1, h2]), hE2.trans hb1⟩
  go_wp2_with fail
  refine (within_any _ _ _ _).mono ?_
  rintro e w1 ⟨he, rfl⟩
  rw [h1] at he; subst he
  go_wp2_with fail
  refine (voteAll_any A n k v 1 26 _ gl gh (ha.ext hE2) hl (by unfold maxLen; omega) Bl2 Bh2).mono ?_
  rintro e w1 ⟨he, hb1⟩
  rw [h2] at he; subst he
  have Cc1 := (Bc2.ext hb1).cells
  go_wp2
  go_ret
  exact ⟨ret_bool (by simp [h1, h2]), hE2.trans hb1⟩

def VoteMid (w : World) (cs : Array Value) (gl gh : Nat) (f : Int) (s5 : Value) (wx : World) : Prop :=
  s5 = .int .i64 0 ∧ Blk wx w.heap.size 25 cs ∧ Blk wx gl 3 #[.int .i64 0] ∧ Blk wx gh 3 #[.int .i64 f] ∧ Ext w wx
theorem voteMid1 {w w1 : World} {cs : Array Value} {gl gh : Nat} {f x : Int} (hne : gl ≠ gh) (hg1 : w.heap.size < gl) (hg2 : w.heap.size < gh) (Bc : Blk w1 w.heap.size 25 cs) (Bl : Blk w1 gl 3 #[.int .i64 0]) (Bh : Blk w1 gh 3 #[.int .i64 x]) (hE : Ext w w1) :
    VoteMid w cs gl gh f (.int .i64 0) ((w1.setCell ⟨gl, 0, none⟩ (.int .i64 0)).setCell ⟨gh, 0, none⟩ (.int .i64 f)).drew :=
  ⟨rfl, ((Bc.far (p := ⟨gl, 0, none⟩) (by simp; omega) _).far (p := ⟨gh, 0, none⟩) (by simp; omega) _).drew, ((Bl.set_ 0 (.int .i64 0)).far (p := ⟨gh, 0, none⟩) hne _).drew, ((Bh.far (p := ⟨gl, 0, none⟩) (Ne.symm hne) _).set_ 0 (.int .i64 f)).drew,
    ((hE.setCell (p := ⟨gl, 0, none⟩) (by simp; omega) _).setCell (p := ⟨gh, 0, none⟩) (by simp; omega) _).drew⟩
theorem voteMid2 {w w1 : World} {cs : Array Value} {gl gh : Nat} {f x : Int} (hne : gl ≠ gh) (hg1 : w.heap.size < gl) (hg2 : w.heap.size < gh) (Bc : Blk w1 w.heap.size 25 cs) (Bl : Blk w1 gl 3 #[.int .i64 0]) (Bh : Blk w1 gh 3 #[.int .i64 x]) (hE : Ext w w1) :
    VoteMid w cs gl gh f (.int .i64 0) ((w1.setCell ⟨gh, 0, none⟩ (.int .i64 f)).setCell ⟨gl, 0, none⟩ (.int .i64 0)).drew :=
  ⟨rfl, ((Bc.far (p := ⟨gh, 0, none⟩) (by simp; omega) _).far (p := ⟨gl, 0, none⟩) (by simp; omega) _).drew, ((Bl.far (p := ⟨gh, 0, none⟩) hne _).set_ 0 (.int .i64 0)).drew, ((Bh.set_ 0 (.int .i64 f)).far (p := ⟨gl, 0, none⟩) (Ne.symm hne) _).drew,
    ((hE.setCell (p := ⟨gh, 0, none⟩) (by simp; omega) _).setCell (p := ⟨gl, 0, none⟩) (by simp; omega) _).drew⟩
set_option maxRecDepth 100000 in
set_option maxHeartbeats 2000000 in
theorem isVote_2 (b c d f : Int) (A : Option Addr) (n k : Nat) (v : List Int) (w : World) (hb : 0 ≤ b ∧ b ≤ 8) (hf : 0 ≤ f ∧ f ≤ 5) (ha : RdI w A v) (hl : v.length = n) (hn : n ≤ 1048577) :
    Calls Tryz.prog 27 #[.agg #[.int .i64 2, .int .i64 b, .int .i64 c, .int .i64 d, .int .i64 f], .slice A n k] w fun e w' => e = .returned (.bool (decide ((n : Int) = b) && (allR v 0 f && (inR v.sum c d && allR v 0 f)))) ∧ Ext w w' := by
  have B := Blk.new w 25 #[.int .i64 2, .int .i64 b, .int .i64 c, .int .i64 d, .int .i64 f]
  have C := B.cells
  have hfn : ∀ args w, (callFunc 51 args).run Tryz.prog w = .ok (.enter 51 args) w := fun args w => by kernel_rfl
  have hfn1 : ∀ args w, (callFunc 50 args).run Tryz.prog w = .ok (.enter 50 args) w := fun args w => by kernel_rfl
  go_enter Tryz.func27, Tryz.ntmps27
  go_upto_region 1 with (fail)
  go_cut [5, 6, 7] from 10 to 14 (fun s5 s6 s7 wx => VoteStart w #[.int .i64 2, .int .i64 b, .int .i64 c, .int .i64 d, .int .i64 f] n (b - 1) s5 s6 s7 wx)
  case first =>
    go_region
    all_goals
      go_wp2
      go_meet
      first
      | exact voteStart1 _ _ _ _
      | exact voteStart2 _ _ _ _
  case rest =>
  clear C B
  obtain ⟨gl, gh, rfl, rfl, rfl, hne, hg1, hg2, Bc, Bl, Bh, hE⟩ := hcut
  have Cc := Bc.cells
  have Cl := Bl.cells
  have Ch := Bh.cells
  by_cases hnb : (n : Int) = b
  · have hz : ((n : Int) != b) = false := by simp [hnb]
    have HNB := Lib.hid hnb
    clear hnb
    cases h2 : allR v 0 f
    · go_wp2_with fail
      refine (voteAll1_any A n k v _ w.heap.size _ _ _ _ _ (ha.ext hE) hl (by unfold maxLen; omega) Bc).mono ?_
      rintro e w1 ⟨he, hb1⟩
      rw [h2] at he; subst he
      go_wp2
      go_ret
      exact ⟨ret_bool (by simp [h2]), hE.trans hb1⟩
    · have h24 : n ≤ 8 := by have := HNB.out; omega
      have hm : allR v 0 1000000 = true := allR_mono h2 (by omega) (by omega)
      have HM := Lib.hid hm
      clear hm
      have hc2 := fun w (hr : RdI w A v) => voteAll_any A n k v 0 f w gl gh hr hl (by unfold maxLen; omega)
      rw [h2] at hc2
      have HC2 := Lib.hid hc2
      have H2 := Lib.hid h2
      have HL := Lib.hid hl
      clear hc2
      go_wp2_with fail
      refine (voteAll1_any A n k v _ w.heap.size _ _ _ _ _ (ha.ext hE) hl (by unfold maxLen; omega) Bc).mono ?_
      rintro e w1 ⟨he, hb1⟩
      rw [h2] at he; subst he
      clear Cc Cl Ch h2 hl
      replace Bc := Bc.ext hb1
      replace Bl := Bl.ext hb1
      replace Bh := Bh.ext hb1
      replace hE := hE.trans hb1
      have Cc := Bc.cells
      have Cl := Bl.cells
      have Ch := Bh.cells
      have hf1 := Bl.frozen 0
      have hf2 := Bh.frozen 0
      go_upto_region 6 with (fail)
      go_cut [5] from 30 to 31 (fun s5 wx => VoteMid w #[.int .i64 2, .int .i64 b, .int .i64 c, .int .i64 d, .int .i64 f] gl gh f s5 wx)
      case first =>
        go_region
        all_goals
          go_wp2
          go_meet
          first
          | exact voteMid1 hne hg1 hg2 Bc Bl Bh hE
          | exact voteMid2 hne hg1 hg2 Bc Bl Bh hE
      case rest =>
      clear Cc Cl Ch hf1 hf2 Bc Bl Bh hE
      obtain ⟨rfl, Bc, Bl, Bh, hE⟩ := hcut
      have Cc := Bc.cells
      have Cl := Bl.cells
      have Ch := Bh.cells
      go_wp2
      rename World => wz
      go_loop [5, 34] (fun o i => ∃ j : Nat, j ≤ n ∧ i = .int .i64 j ∧ o = .int .i64 (v.take j).sum) (fun _ i => n - (intOf i).toNat)
      case atStart => exact ⟨0, Nat.zero_le _, rfl, rfl⟩
      case round =>
        obtain ⟨j, hj, rfl, rfl⟩ := hrel
        by_cases hlt : j < n
        · have hjv : j < v.length := by rw [HL.out]; exact hlt
          obtain ⟨ad, rfl, hc⟩ := (ha.ext hE).at_ hjv
          have q1 := sum_bd HM.out j (by rw [HL.out]; exact hj)
          have q2 := allR_at HM.out hjv
          have hs := sum_take hjv
          generalize v[j] = x at *
          have HS := Lib.hid hs
          clear hs
          generalize (v.take j).sum = s at *
          go_wp2
          go_round
          case rel => exact ⟨j + 1, by omega, by go_num, by rw [HS.out]⟩
          case measure => simp [intOf]; omega
        · obtain rfl : j = n := by omega
          have htk : v.take j = v := List.take_of_length_le (by rw [HL.out]; exact Nat.le_refl _)
          rw [htk]
          clear htk
          have HNB2 : Hid (decide ((j : Int) = b) = true) := by rw [decide_eq_true HNB.out]; rfl
          cases h1 : inR v.sum c d
          · go_wp2_with fail
            refine (within_any _ _ _ _).mono ?_
            rintro e w1 ⟨he, rfl⟩
            rw [h1] at he; subst he
            go_wp2
            go_ret
            exact ⟨ret_bool (by rw [h1]; simp), hE⟩
          · go_wp2_with fail
            refine (within_any _ _ _ _).mono ?_
            rintro e w1 ⟨he, rfl⟩
            rw [h1] at he; subst he
            go_wp2_with fail
            refine (HC2.out _ (ha.ext hE) Bl Bh).mono ?_
            rintro e w1 ⟨rfl, hb2⟩
            have Cc1 := (Bc.ext hb2).cells
            go_wp2
            go_ret
            exact ⟨ret_bool (by rw [HNB2.out, H2.out, h1]; rfl), hE.trans hb2⟩
  · have hz : ((n : Int) != b) = true := by simp [hnb]
    go_wp2
    go_ret
    exact ⟨ret_bool (by rw [decide_eq_false hnb]; rfl), hE⟩
theorem isVote_any (a b c d f : Int) (A : Option Addr) (n k : Nat) (v : List Int) (w : World) (h : validCt a b c d f = true) (ha : RdI w A v) (hl : v.length = n) (hn : n ≤ 1048577) (hk : n ≤ k ∧ k ≤ maxLen) :
    Calls Tryz.prog 27 #[.agg #[.int .i64 a, .int .i64 b, .int .i64 c, .int .i64 d, .int .i64 f], .slice A n k] w fun e w' => e = .returned (.bool (voteB a b c d f v)) ∧ Ext w w' := by
  obtain ⟨h1, h2, h3, h4, h5, _⟩ := valid_kind h
  clear h
  rcases h1 with rfl | rfl | rfl | rfl
  · refine (isVote_1 b c d f A n k v w ⟨h2, h3⟩ ha hl hn hk).mono fun e w' ⟨he, hE⟩ => ⟨?_, hE⟩
    rw [he]
    refine ret_bool ?_
    show _ = (risB v 0 (b - 1) && inR v.length c d)
    rw [ris_sort, hl, Bool.and_comm]
  · refine (isVote_2 b c d f A n k v w ⟨h2, h3⟩ ⟨h4, h5⟩ ha hl hn).mono fun e w' ⟨he, hE⟩ => ⟨?_, hE⟩
    rw [he]
    refine ret_bool ?_
    show _ = (decide ((v.length : Int) = b) && (allR v 0 f && inR v.sum c d))
    rw [hl]
    cases allR v 0 f <;> simp
  · refine (isVote_3 b c d f A n k v w ⟨h2, h3⟩ ha hl hn hk).mono fun e w' ⟨he, hE⟩ => ⟨?_, hE⟩
    rw [he]
    refine ret_bool ?_
    show _ = (allR v 0 (b - 1) && (diffB v && inR v.length c d))
    rw [hl, Bool.and_comm, Bool.and_assoc]
  · refine (isVote_4 b c d f A n k v w ⟨h2, h3⟩ ha hl hn hk).mono fun e w' ⟨he, hE⟩ => ⟨?_, hE⟩
    rw [he]
    refine ret_bool ?_
    show _ = (allR v 1 26 && inR v.length c d)
    rw [hl, Bool.and_comm]
end Go.Proofs.YtnekpofaflpmdaaGreatDoor
