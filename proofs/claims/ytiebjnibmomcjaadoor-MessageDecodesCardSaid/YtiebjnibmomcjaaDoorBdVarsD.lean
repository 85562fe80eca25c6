/- The table of variables as plain data. No program. Written by a program of mine from the reference's rows. -/
import Derived.Test.YtiebjnibmomcjaaDoorMem
import Derived.Test.YtiebjnibmomcjaaDoorBitsM
import Derived.Great.Walk
import Derived.Test.YtiebjnibmomcjaaDoorBdMsgB
import Derived.Lib.Walk
import Derived.Lib.Bytealg
import Derived.Lib.IndexBytes
import Derived.Lib.CutLaws
import Derived.Deep.Draws
namespace Go.Proofs.YtiebjnibmomcjaaDoor

structure VRow where
  name : List UInt8
  width : Int
  most : Int
  special : Int

def vrows : List VRow := [
  ⟨[78, 73, 68, 95, 77, 69, 83, 83, 65, 71, 69], 8, -1, -1⟩,
  ⟨[76, 95, 77, 69, 83, 83, 65, 71, 69], 10, -1, -1⟩,
  ⟨[84, 95, 84, 82, 65, 73, 78], 32, -1, -1⟩,
  ⟨[77, 95, 65, 67, 75], 1, -1, -1⟩,
  ⟨[78, 73, 68, 95, 76, 82, 66, 71], 24, -1, -1⟩,
  ⟨[78, 73, 68, 95, 80, 65, 67, 75, 69, 84], 8, -1, -1⟩,
  ⟨[81, 95, 68, 73, 82], 2, 2, -1⟩,
  ⟨[76, 95, 80, 65, 67, 75, 69, 84], 13, -1, -1⟩,
  ⟨[81, 95, 83, 67, 65, 76, 69], 2, 2, -1⟩,
  ⟨[78, 73, 68, 95, 69, 78, 71, 73, 78, 69], 24, -1, -1⟩,
  ⟨[78, 73, 68, 95, 67], 10, -1, -1⟩,
  ⟨[78, 73, 68, 95, 66, 71], 14, -1, -1⟩,
  ⟨[81, 95, 78, 69, 87, 67, 79, 85, 78, 84, 82, 89], 1, -1, -1⟩,
  ⟨[68, 95, 76, 82, 66, 71], 15, -1, -1⟩,
  ⟨[81, 95, 68, 73, 82, 76, 82, 66, 71], 2, 2, -1⟩,
  ⟨[81, 95, 68, 76, 82, 66, 71], 2, 2, -1⟩,
  ⟨[76, 95, 68, 79, 85, 66, 84, 79, 86, 69, 82], 15, -1, -1⟩,
  ⟨[76, 95, 68, 79, 85, 66, 84, 85, 78, 68, 69, 82], 15, -1, -1⟩,
  ⟨[81, 95, 76, 69, 78, 71, 84, 72], 2, -1, -1⟩,
  ⟨[76, 95, 84, 82, 65, 73, 78, 73, 78, 84], 15, -1, -1⟩,
  ⟨[86, 95, 84, 82, 65, 73, 78], 7, 120, 127⟩,
  ⟨[81, 95, 68, 73, 82, 84, 82, 65, 73, 78], 2, 2, -1⟩,
  ⟨[77, 95, 77, 79, 68, 69], 4, 14, -1⟩,
  ⟨[77, 95, 76, 69, 86, 69, 76], 3, 4, -1⟩,
  ⟨[78, 73, 68, 95, 78, 84, 67], 8, -1, -1⟩,
  ⟨[86, 95, 69, 77, 65], 7, 120, -1⟩,
  ⟨[84, 95, 69, 77, 65], 10, -1, -1⟩,
  ⟨[78, 95, 73, 84, 69, 82], 5, -1, -1⟩,
  ⟨[76, 95, 83, 69, 67, 84, 73, 79, 78], 15, -1, -1⟩,
  ⟨[81, 95, 83, 69, 67, 84, 73, 79, 78, 84, 73, 77, 69, 82], 1, -1, -1⟩,
  ⟨[84, 95, 83, 69, 67, 84, 73, 79, 78, 84, 73, 77, 69, 82], 10, -1, -1⟩,
  ⟨[68, 95, 83, 69, 67, 84, 73, 79, 78, 84, 73, 77, 69, 82, 83, 84, 79, 80, 76, 79, 67], 15, -1, -1⟩,
  ⟨[76, 95, 69, 78, 68, 83, 69, 67, 84, 73, 79, 78], 15, -1, -1⟩,
  ⟨[81, 95, 69, 78, 68, 84, 73, 77, 69, 82], 1, -1, -1⟩,
  ⟨[84, 95, 69, 78, 68, 84, 73, 77, 69, 82], 10, -1, -1⟩,
  ⟨[68, 95, 69, 78, 68, 84, 73, 77, 69, 82, 83, 84, 65, 82, 84, 76, 79, 67], 15, -1, -1⟩,
  ⟨[81, 95, 68, 65, 78, 71, 69, 82, 80, 79, 73, 78, 84], 1, -1, -1⟩,
  ⟨[68, 95, 68, 80], 15, -1, -1⟩,
  ⟨[86, 95, 82, 69, 76, 69, 65, 83, 69, 68, 80], 7, 120, 126⟩,
  ⟨[81, 95, 79, 86, 69, 82, 76, 65, 80], 1, -1, -1⟩,
  ⟨[68, 95, 83, 84, 65, 82, 84, 79, 76], 15, -1, -1⟩,
  ⟨[84, 95, 79, 76], 10, -1, -1⟩,
  ⟨[68, 95, 79, 76], 15, -1, -1⟩,
  ⟨[86, 95, 82, 69, 76, 69, 65, 83, 69, 79, 76], 7, 120, 126⟩,
  ⟨[68, 95, 76, 73, 78, 75], 15, -1, -1⟩,
  ⟨[81, 95, 76, 73, 78, 75, 79, 82, 73, 69, 78, 84, 65, 84, 73, 79, 78], 1, -1, -1⟩,
  ⟨[81, 95, 76, 73, 78, 75, 82, 69, 65, 67, 84, 73, 79, 78], 2, 2, -1⟩,
  ⟨[81, 95, 76, 79, 67, 65, 67, 67], 6, -1, -1⟩,
  ⟨[68, 95, 71, 82, 65, 68, 73, 69, 78, 84], 15, -1, -1⟩,
  ⟨[81, 95, 71, 68, 73, 82], 1, -1, -1⟩,
  ⟨[71, 95, 65], 8, -1, -1⟩,
  ⟨[68, 95, 83, 84, 65, 84, 73, 67], 15, -1, -1⟩,
  ⟨[86, 95, 83, 84, 65, 84, 73, 67], 7, 120, 127⟩,
  ⟨[81, 95, 70, 82, 79, 78, 84], 1, -1, -1⟩,
  ⟨[78, 67, 95, 68, 73, 70, 70], 4, -1, -1⟩,
  ⟨[86, 95, 68, 73, 70, 70], 7, 120, -1⟩,
  ⟨[68, 95, 77, 65, 77, 79, 68, 69], 15, -1, -1⟩,
  ⟨[77, 95, 77, 65, 77, 79, 68, 69], 2, 2, -1⟩,
  ⟨[86, 95, 77, 65, 77, 79, 68, 69], 7, 120, 127⟩,
  ⟨[76, 95, 77, 65, 77, 79, 68, 69], 15, -1, -1⟩,
  ⟨[76, 95, 65, 67, 75, 77, 65, 77, 79, 68, 69], 15, -1, -1⟩,
  ⟨[81, 95, 77, 65, 77, 79, 68, 69], 1, -1, -1⟩,
  ⟨[81, 95, 82, 66, 67], 1, -1, -1⟩,
  ⟨[78, 73, 68, 95, 82, 66, 67], 14, -1, -1⟩,
  ⟨[78, 73, 68, 95, 82, 65, 68, 73, 79], 32, -1, -1⟩,
  ⟨[81, 95, 83, 76, 69, 69, 80, 83, 69, 83, 83, 73, 79, 78], 1, -1, -1⟩,
  ⟨[84, 95, 77, 65, 82], 8, -1, -1⟩,
  ⟨[84, 95, 84, 73, 77, 69, 79, 85, 84, 82, 81, 83, 84], 10, -1, -1⟩,
  ⟨[84, 95, 67, 89, 67, 82, 81, 83, 84], 8, -1, -1⟩,
  ⟨[84, 95, 67, 89, 67, 76, 79, 67], 8, -1, -1⟩,
  ⟨[68, 95, 67, 89, 67, 76, 79, 67], 15, -1, -1⟩,
  ⟨[77, 95, 76, 79, 67], 3, 2, -1⟩,
  ⟨[68, 95, 76, 79, 67], 15, -1, -1⟩,
  ⟨[81, 95, 76, 71, 84, 76, 79, 67], 1, -1, -1⟩,
  ⟨[78, 73, 68, 95, 80, 82, 86, 76, 82, 66, 71], 24, -1, -1⟩,
  ⟨[78, 73, 68, 95, 79, 80, 69, 82, 65, 84, 73, 79, 78, 65, 76], 32, -1, -1⟩,
  ⟨[78, 67, 95, 84, 82, 65, 73, 78], 15, -1, -1⟩,
  ⟨[76, 95, 84, 82, 65, 73, 78], 12, -1, -1⟩,
  ⟨[86, 95, 77, 65, 88, 84, 82, 65, 73, 78], 7, 120, -1⟩,
  ⟨[77, 95, 76, 79, 65, 68, 73, 78, 71, 71, 65, 85, 71, 69], 8, -1, -1⟩,
  ⟨[77, 95, 65, 88, 76, 69, 76, 79, 65, 68], 7, -1, -1⟩,
  ⟨[77, 95, 65, 73, 82, 84, 73, 71, 72, 84], 2, 1, -1⟩,
  ⟨[77, 95, 84, 82, 65, 67, 84, 73, 79, 78], 8, -1, -1⟩,
  ⟨[78, 73, 68, 95, 83, 84, 77], 8, -1, -1⟩,
  ⟨[68, 95, 86, 65, 76, 73, 68, 78, 86], 15, -1, -1⟩,
  ⟨[86, 95, 78, 86, 83, 72, 85, 78, 84], 7, 120, -1⟩,
  ⟨[84, 95, 78, 86, 67, 79, 78, 84, 65, 67, 84], 8, -1, -1⟩,
  ⟨[77, 95, 78, 86, 67, 79, 78, 84, 65, 67, 84], 2, 2, -1⟩,
  ⟨[78, 73, 68, 95, 69, 77], 4, -1, -1⟩,
  ⟨[68, 95, 82, 69, 70], 16, -1, -1⟩,
  ⟨[68, 95, 69, 77, 69, 82, 71, 69, 78, 67, 89, 83, 84, 79, 80], 15, -1, -1⟩,
  ⟨[81, 95, 69, 77, 69, 82, 71, 69, 78, 67, 89, 83, 84, 79, 80], 2, -1, -1⟩,
  ⟨[77, 95, 86, 69, 82, 83, 73, 79, 78], 7, -1, -1⟩,
  ⟨[81, 95, 83, 84, 65, 84, 85, 83], 2, -1, -1⟩,
  ⟨[81, 95, 77, 65, 82, 81, 83, 84, 82, 69, 65, 83, 79, 78], 5, -1, -1⟩,
  ⟨[68, 95, 83, 82], 15, -1, -1⟩]

def wtab : List Int := [8, 10, 32, 1, 24, 8, 2, 13, 2, 24, 10, 14, 1, 15, 2, 2, 15, 15, 2, 15, 7, 2, 4, 3, 8, 7, 10, 5, 15, 1, 10, 15, 15, 1, 10, 15, 1, 15, 7, 1, 15, 10, 15, 7, 15, 1, 2, 6, 15, 1, 8, 15, 7, 1, 4, 7, 15, 2, 7, 15, 15, 1, 1, 14, 32, 1, 8, 10, 8, 8, 15, 3, 15, 1, 24, 32, 15, 12, 7, 8, 7, 2, 8, 8, 15, 7, 8, 2, 4, 16, 15, 2, 7, 2, 5, 15]

end Go.Proofs.YtiebjnibmomcjaaDoor

namespace Go.Proofs.YtiebjnibmomcjaaDoor
open Go.RowKit

/-- the program's table stands -/
def Widths (w : World) : Prop := ∀ i, i < 96 → w.cell? ⟨0, i, none⟩ = some (.int .i64 (wtab.getD i 0))
theorem Widths.keep {w w' : World} {S : Nat → Prop} (h : Widths w) (hk : Keep S w w') (hS : ¬ S 0) : Widths w' :=
  fun i hi => (hk.cell (cell_lt (h i hi)) hS).trans (h i hi)
theorem Widths.drewN {w : World} (h : Widths w) (n : Nat) : Widths (w.drewN n) := h
theorem Widths.lt {w : World} (h : Widths w) : 0 < w.heap.size := cell_lt (h 0 (by omega))

def vWidth (v : Int) : Int := if 0 ≤ v ∧ v < 96 then wtab.getD v.toNat 0 else 0
theorem wtab_range : ∀ i, i < 96 → 1 ≤ wtab.getD i 0 ∧ wtab.getD i 0 ≤ 32 := by decide
theorem vWidth_range (v : Int) : 0 ≤ vWidth v ∧ vWidth v ≤ 32 := by
  unfold vWidth
  split
  · have := wtab_range v.toNat (by omega); omega
  · omega

set_option maxHeartbeats 400000 in
theorem vwidth_any (v : Int) (w : World) (hw : Widths w) :
    Calls Tryd.prog 23 #[.int .i64 v] w fun e w' => e = .returned (.int .i64 (vWidth v)) ∧ w = w' := by
  by_cases h : 0 ≤ v ∧ v < 96
  · obtain ⟨k, rfl⟩ : ∃ k : Nat, v = k := ⟨v.toNat, by omega⟩
    have hc := hw k (by omega)
    have he : vWidth k = wtab.getD k 0 := by rw [vWidth, if_pos h, Int.toNat_natCast]
    rw [he]
    obtain ⟨h1, h2⟩ := h
    generalize wtab.getD k 0 = x at *
    clear hw he
    go_enter Tryd.func23, Tryd.ntmps23
    go_wp2
    go_ret
    exact ⟨rfl, rfl⟩
  · have he : vWidth v = 0 := by rw [vWidth, if_neg h]
    rw [he]
    clear hw he
    have h : v < 0 ∨ 96 ≤ v := by omega
    rcases h with h | h
    all_goals
      go_enter Tryd.func23, Tryd.ntmps23
      go_wp2
      go_ret
      exact ⟨rfl, rfl⟩

def vSpecial (v : Int) : Int := if v = 20 ∨ v = 52 ∨ v = 58 then 127 else if v = 38 ∨ v = 43 then 126 else 0
set_option maxHeartbeats 400000 in
theorem vspecial_any (v : Int) (w : World) :
    Calls Tryd.prog 54 #[.int .i64 v] w fun e w' => e = .returned (.int .i64 (vSpecial v)) ∧ w = w' := by
  go_enter Tryd.func54, Tryd.ntmps54
  go_wp2
  all_goals
    go_ret
    refine ⟨ret_int ?_, rfl⟩
    simp only [beq_iff_eq, beq_eq_false_iff_ne, ne_eq] at *
    unfold vSpecial
    (repeat' split) <;> omega

/-- the greatest plain value by the program's switch -/
def vMost (v : Int) : Int :=
  if v = 81 then 1 else if v = 6 ∨ v = 8 ∨ v = 14 ∨ v = 15 ∨ v = 21 ∨ v = 46 ∨ v = 57 ∨ v = 71 ∨ v = 87 then 2 else if v = 23 then 4 else if v = 22 then 14
  else if v = 20 ∨ v = 25 ∨ v = 38 ∨ v = 43 ∨ v = 52 ∨ v = 55 ∨ v = 58 ∨ v = 78 ∨ v = 85 then 120 else ((2 ^ (vWidth v).toNat : Nat) : Int) - 1
set_option maxHeartbeats 1000000 in
theorem vmost_any (v : Int) (w : World) (hw : Widths w) :
    Calls Tryd.prog 55 #[.int .i64 v] w fun e w' => e = .returned (.int .i64 (vMost v)) ∧ w = w' := by
  have hr := vWidth_range v
  obtain ⟨k, hk⟩ : ∃ k : Nat, vWidth v = k := ⟨(vWidth v).toNat, by omega⟩
  rw [hk] at hr
  have Hw := Lib.hid hw
  have HK := Lib.hid hk
  clear hw hk
  have hp := pow_pos' k
  have hp2 := pow_le32 (k := k) (by omega)
  go_enter Tryd.func55, Tryd.ntmps55
  go_wp2_with (go_at_call 23; refine (vwidth_any v _ Hw.out).mono ?_; rw [HK.out]; rintro e w' ⟨rfl, rfl⟩)
  all_goals
    go_ret
    refine ⟨ret_int ?_, rfl⟩
    simp only [beq_iff_eq, beq_eq_false_iff_ne, ne_eq] at *
    unfold vMost
    first
      | ((repeat' split) <;> omega)
      | skip
  repeat rw [if_neg (by omega)]
  have e : (2 : Int) ^ k = ((2 ^ k : Nat) : Int) := (Int.natCast_pow 2 k).symm
  rw [HK.out, Int.toNat_natCast, e, IntWalk.wrap64_in ((2 ^ k : Nat) : Int) ⟨by omega, by omega⟩, IntWalk.wrap64_in _ ⟨by omega, by omega⟩]

theorem vMost_range (v : Int) : 0 ≤ vMost v ∧ vMost v ≤ 4294967295 := by
  have h1 := vWidth_range v
  have h2 := pow_pos' (vWidth v).toNat
  have h3 := pow_le32 (k := (vWidth v).toNat) (by omega)
  unfold vMost
  (repeat' split) <;> omega
theorem vSpecial_range (v : Int) : 0 ≤ vSpecial v ∧ vSpecial v ≤ 127 := by
  unfold vSpecial
  (repeat' split) <;> omega

/-- may a variable be a number? -/
def vMay (v n : Int) : Bool := decide (vWidth v ≠ 0 ∧ 0 ≤ n ∧ n < ((2 ^ (vWidth v).toNat : Nat) : Int) ∧ (n ≤ vMost v ∨ (0 < vSpecial v ∧ vSpecial v ≤ n)))
set_option maxHeartbeats 1000000 in
theorem vmay_any (v n : Int) (hn : n ≤ 9223372036854775807) (w : World) (hw : Widths w) :
    Calls Tryd.prog 27 #[.int .i64 v, .int .i64 n] w fun e w' => e = .returned (.bool (vMay v n)) ∧ w = w' := by
  have hr := vWidth_range v
  obtain ⟨k, hk⟩ : ∃ k : Nat, vWidth v = k := ⟨(vWidth v).toNat, by omega⟩
  obtain ⟨m, hm⟩ : ∃ m, vMost v = m := ⟨_, rfl⟩
  obtain ⟨s, hs⟩ : ∃ s, vSpecial v = s := ⟨_, rfl⟩
  have hm1 := vMost_range v
  have hs1 := vSpecial_range v
  have hmay : vMay v n = decide ((k : Int) ≠ 0 ∧ 0 ≤ n ∧ n < ((2 ^ k : Nat) : Int) ∧ (n ≤ m ∨ (0 < s ∧ s ≤ n))) := by rw [vMay, hk, hm, hs, Int.toNat_natCast]
  rw [hk] at hr
  rw [hm] at hm1
  rw [hs] at hs1
  have HW : ∀ W, W = w → Calls Tryd.prog 23 #[.int .i64 v] W fun e w' => e = .returned (.int .i64 k) ∧ W = w' := by rintro W rfl; have := vwidth_any v W hw; rwa [hk] at this
  have HM : ∀ W, W = w → Calls Tryd.prog 55 #[.int .i64 v] W fun e w' => e = .returned (.int .i64 m) ∧ W = w' := by rintro W rfl; have := vmost_any v W hw; rwa [hm] at this
  have HS : ∀ W, W = w → Calls Tryd.prog 54 #[.int .i64 v] W fun e w' => e = .returned (.int .i64 s) ∧ W = w' := by rintro W rfl; have := vspecial_any v W; rwa [hs] at this
  have hHW := Lib.hid HW
  have hHM := Lib.hid HM
  have hHS := Lib.hid HS
  clear HW HM HS hw hk hm hs
  by_cases h0 : (k : Int) = 0
  · have hf : Hid (vMay v n = false) := by show _ = false; rw [hmay, decide_eq_false_iff_not]; omega
    have hk0 : ((k : Int) == 0) = true := by simpa using h0
    clear hmay h0
    go_enter Tryd.func27, Tryd.ntmps27
    go_wp2_with (first | (go_at_call 23; refine (hHW.out _ rfl).mono ?_; rintro e w' ⟨rfl, rfl⟩) | (go_at_call 54; refine (hHS.out _ rfl).mono ?_; rintro e w' ⟨rfl, rfl⟩) | (go_at_call 55; refine (hHM.out _ rfl).mono ?_; rintro e w' ⟨rfl, rfl⟩))
    go_ret
    exact ⟨by rw [hf.out]; rfl, rfl⟩
  have hk0 : ((k : Int) == 0) = false := by simpa using h0
  by_cases h1 : n < 0
  · have hf : Hid (vMay v n = false) := by show _ = false; rw [hmay, decide_eq_false_iff_not]; omega
    clear hmay h0
    go_enter Tryd.func27, Tryd.ntmps27
    go_wp2_with (first | (go_at_call 23; refine (hHW.out _ rfl).mono ?_; rintro e w' ⟨rfl, rfl⟩) | (go_at_call 54; refine (hHS.out _ rfl).mono ?_; rintro e w' ⟨rfl, rfl⟩) | (go_at_call 55; refine (hHM.out _ rfl).mono ?_; rintro e w' ⟨rfl, rfl⟩))
    go_ret
    exact ⟨by rw [hf.out]; rfl, rfl⟩
  obtain ⟨x, rfl⟩ : ∃ x : Nat, n = x := ⟨n.toNat, by omega⟩
  by_cases h2 : x < 2 ^ k
  · have hsh := shift_small h2
    by_cases h3 : (x : Int) ≤ m
    · have hf : Hid (vMay v x = true) := by show _ = true; rw [hmay, decide_eq_true_eq]; omega
      clear hmay h2
      go_enter Tryd.func27, Tryd.ntmps27
      go_wp2_with (first | (go_at_call 23; refine (hHW.out _ rfl).mono ?_; rintro e w' ⟨rfl, rfl⟩) | (go_at_call 54; refine (hHS.out _ rfl).mono ?_; rintro e w' ⟨rfl, rfl⟩) | (go_at_call 55; refine (hHM.out _ rfl).mono ?_; rintro e w' ⟨rfl, rfl⟩))
      go_ret
      exact ⟨by rw [hf.out]; rfl, rfl⟩
    · have hlo : decide ((x : Int) ≤ m) = false := by simpa using h3
      by_cases h4 : 0 < s
      · by_cases h5 : s ≤ (x : Int)
        · have hf : Hid (vMay v x = true) := by show _ = true; rw [hmay, decide_eq_true_eq]; omega
          clear hmay h2
          go_enter Tryd.func27, Tryd.ntmps27
          go_wp2_with (first | (go_at_call 23; refine (hHW.out _ rfl).mono ?_; rintro e w' ⟨rfl, rfl⟩) | (go_at_call 54; refine (hHS.out _ rfl).mono ?_; rintro e w' ⟨rfl, rfl⟩) | (go_at_call 55; refine (hHM.out _ rfl).mono ?_; rintro e w' ⟨rfl, rfl⟩))
          go_ret
          exact ⟨by rw [hf.out]; rfl, rfl⟩
        · have hf : Hid (vMay v x = false) := by show _ = false; rw [hmay, decide_eq_false_iff_not]; omega
          have hlo5 : decide (s ≤ (x : Int)) = false := by simpa using h5
          clear hmay h2
          go_enter Tryd.func27, Tryd.ntmps27
          go_wp2_with (first | (go_at_call 23; refine (hHW.out _ rfl).mono ?_; rintro e w' ⟨rfl, rfl⟩) | (go_at_call 54; refine (hHS.out _ rfl).mono ?_; rintro e w' ⟨rfl, rfl⟩) | (go_at_call 55; refine (hHM.out _ rfl).mono ?_; rintro e w' ⟨rfl, rfl⟩))
          go_ret
          exact ⟨by rw [hf.out]; rfl, rfl⟩
      · have hlo4 : decide (0 < s) = false := by simpa using h4
        have hf : Hid (vMay v x = false) := by show _ = false; rw [hmay, decide_eq_false_iff_not]; omega
        clear hmay h2
        go_enter Tryd.func27, Tryd.ntmps27
        go_wp2_with (first | (go_at_call 23; refine (hHW.out _ rfl).mono ?_; rintro e w' ⟨rfl, rfl⟩) | (go_at_call 54; refine (hHS.out _ rfl).mono ?_; rintro e w' ⟨rfl, rfl⟩) | (go_at_call 55; refine (hHM.out _ rfl).mono ?_; rintro e w' ⟨rfl, rfl⟩))
        go_ret
        exact ⟨by rw [hf.out]; rfl, rfl⟩
  · have hsh := shift_big (x := x) (k := k) (by omega)
    have hf : Hid (vMay v x = false) := by show _ = false; rw [hmay, decide_eq_false_iff_not]; omega
    clear hmay h0 h2
    go_enter Tryd.func27, Tryd.ntmps27
    go_wp2_with (first | (go_at_call 23; refine (hHW.out _ rfl).mono ?_; rintro e w' ⟨rfl, rfl⟩) | (go_at_call 54; refine (hHS.out _ rfl).mono ?_; rintro e w' ⟨rfl, rfl⟩) | (go_at_call 55; refine (hHM.out _ rfl).mono ?_; rintro e w' ⟨rfl, rfl⟩))
    go_ret
    exact ⟨by rw [hf.out]; rfl, rfl⟩

end Go.Proofs.YtiebjnibmomcjaaDoor

namespace Go.Proofs.YtiebjnibmomcjaaDoor
open Go.RowKit

/-- A straight piece of code that builds plain values and, at most once, one slice literal (at block N): its frame and what it lays. -/
def runAll (P : Program) (N : Nat) : List Oper → Act → Option (Act × Option (Array Value × TypeId))
  | [], a => some (a, none)
  | o :: r, a =>
    if o.guard = none then
      match o.op with
      | .build t parts =>
        match P.built t (parts.map fun (i, x) => (i, a.eval x)).toList with
        | some cs => runAll P N r (a.put o.dst (.agg cs))
        | none => none
      | .assign x => runAll P N r (a.put o.dst (a.eval x))
      | .buildSlice t len parts =>
        match P.underlying t with
        | some (.slice e) =>
          match P.builtSlice e len (parts.map fun (i, x) => (i, a.eval x)).toList with
          | some cells =>
            match runAll P N r (a.put o.dst (.slice (some ⟨N, 0, none⟩) len len)) with
            | some (a', none) => some (a', some (cells, e))
            | _ => none
          | none => none
        | _ => none
      | _ => none
    else none

def laidBy (w : World) : Option (Array Value × TypeId) → World
  | none => w
  | some (cells, e) => w.alloc (.cells cells e)

theorem wpList_runAll {P : Program} {ops : Array Oper} {Q : Exit → Act → World → Prop} (N : Nat) : ∀ (l : List Oper) (a a' : Act) (c : Option (Array Value × TypeId)) (w : World), (c ≠ none → w.heap.size = N) →
    runAll P N l a = some (a', c) → Q .normal a' (laidBy w c) → wpList P ops Q l a w := by
  intro l
  induction l with
  | nil =>
    intro a a' c w _ h hq
    simp only [runAll, Option.some.injEq, Prod.mk.injEq] at h
    obtain ⟨rfl, rfl⟩ := h
    exact hq
  | cons o r ih =>
    intro a a' c w hN h hq
    unfold runAll at h
    split at h
    case isFalse => cases h
    rename_i hg
    split at h
    · rename_i t parts ho
      split at h
      · rename_i cs hcs
        refine wpList_build hg t parts ho (by rw [hcs]; rfl) ?_
        rw [hcs]
        exact ih _ _ _ _ hN h hq
      · cases h
    · rename_i x ho
      refine Great.wpList_readTo hg _ rfl (a.eval x) ?_ (ih _ _ _ _ hN h hq)
      simp [execOp, ho]
    · rename_i t len parts ho
      split at h
      · rename_i e hu
        split at h
        · rename_i cells hc
          split at h
          · rename_i a2 hr
            simp only [Option.some.injEq, Prod.mk.injEq] at h
            obtain ⟨rfl, rfl⟩ := h
            refine Great.wpList_buildSliceTo hg t e len parts ho N (hN (by simp)) _ rfl hu cells hc ?_
            exact ih _ _ none _ (fun h => absurd rfl h) hr hq
          · cases h
        · cases h
      · cases h
    · cases h

def vcells : List Value := vrows.flatMap fun r => [.string ⟨r.name.toArray⟩, .int .i64 r.width, .int .i64 r.most, .int .i64 r.special]

theorem wp_region_table {P : Program} {id : Nat} {ops : Array Oper} {Q : Exit → Act → World → Prop} {a : Act} {w : World} (v : Value) (t : Tmp) (cells : Array Value) (e : TypeId) (n : Nat)
    (hk : (runAll P w.heap.size ops.toList a).map (fun r => (r.1.tmps.getD t undef, r.1.tmps.size, r.1.defers.isEmpty, r.2)) = some (v, n, true, some (cells, e)))
    (h : ∀ a' : Act, a'.tmps.getD t undef = v → a'.tmps.size = n → a'.defers = [] → Q .normal a' (w.alloc (.cells cells e))) : (Code.region id ops false).wp P Q a w := by
  obtain ⟨r, hr, he⟩ := Option.map_eq_some_iff.1 hk
  obtain ⟨a', c⟩ := r
  simp only [Prod.mk.injEq] at he
  obtain ⟨h1, h2, h3, rfl⟩ := he
  refine wp_region_list (wpList_runAll w.heap.size ops.toList a a' _ w (fun _ => rfl) hr ?_)
  exact h a' h1 h2 (by simpa using h3)

set_option maxHeartbeats 4000000 in
set_option maxRecDepth 100000 in
theorem table_any (w : World) :
    Calls Tryd.prog 61 #[] w fun e w' => e = .returned (.slice (some ⟨w.heap.size, 0, none⟩) 96 96) ∧ w' = w.alloc (.cells vcells.toArray 97) := by
  go_enter Tryd.func61, Tryd.ntmps61
  refine wp_seq (wp_region_lit (wpList_runAll 0 _ _ _ none _ (fun h => absurd rfl h) rfl ?_))
  simp only [Exit.then]
  refine wp_seq (wp_region_table (.slice (some ⟨w.heap.size, 0, none⟩) 96 96) 0 vcells.toArray 97 98 (by kernel_rfl) ?_)
  intro a' h0 hn hd
  simp only [Exit.then]
  refine wp_ret ?_
  exact bodyPost_ret (results_tmp rfl _ _ _) hd ⟨by rw [h0], rfl⟩
end Go.Proofs.YtiebjnibmomcjaaDoor

namespace Go.Proofs.YtiebjnibmomcjaaDoor
open Go.RowKit

def vrow (v : Int) : VRow := if 0 ≤ v ∧ v < 96 then vrows.getD v.toNat ⟨[], 0, 0, 0⟩ else ⟨[], 0, 0, 0⟩
def rowVals (r : VRow) : Array Value := #[.string ⟨r.name.toArray⟩, .int .i64 r.width, .int .i64 r.most, .int .i64 r.special]
theorem rows_at : ∀ (l : List VRow) (k j : Nat) (r : VRow) (x : Value), l[k]? = some r → [Value.string ⟨r.name.toArray⟩, .int .i64 r.width, .int .i64 r.most, .int .i64 r.special][j]? = some x →
    (l.flatMap fun r => [.string ⟨r.name.toArray⟩, .int .i64 r.width, .int .i64 r.most, .int .i64 r.special])[k * 4 + j]? = some x := by
  intro l
  induction l with
  | nil => intro k j r x h; cases h
  | cons r0 l ih =>
    intro k j r x h hx
    rw [List.flatMap_cons]
    cases k with
    | zero =>
      obtain rfl : r0 = r := by simpa using h
      have hj : j < 4 := by
        rcases Nat.lt_or_ge j 4 with h | h
        · exact h
        · rw [List.getElem?_eq_none (by simpa using h)] at hx; cases hx
      rw [Nat.zero_mul, Nat.zero_add, List.getElem?_append_left (by simpa using hj)]
      exact hx
    | succ k =>
      rw [List.getElem?_append_right (by simp; omega)]
      have e : (k + 1) * 4 + j - [Value.string ⟨r0.name.toArray⟩, .int .i64 r0.width, .int .i64 r0.most, .int .i64 r0.special].length = k * 4 + j := by simp; omega
      rw [e]
      exact ih k j r x (by simpa using h) hx
theorem vrows_len : vrows.length = 96 := by decide +kernel
theorem vrow_at (k : Nat) (hk : k < 96) : vrows[k]? = some (vrow k) := by
  rw [vrow, if_pos (by omega), Int.toNat_natCast, List.getD_eq_getElem?_getD, List.getElem?_eq_getElem (by rw [vrows_len]; exact hk)]
  rfl
/-- a row of the frame's own, behind a call that keeps all -/
theorem row_kept {w w' : World} {cs : Array Value} {t : TypeId} (hk : Keep Never (w.alloc (.cells cs t)) w') (j : Nat) (u : Value) (hj : cs[j]? = some u) :
    w'.cell? ⟨w.heap.size, j, none⟩ = some u ∧ w'.frozen? ⟨w.heap.size, j, none⟩ = false :=
  ⟨(hk.cell (by simp) (fun h => h)).trans ((World.cell?_alloc_at _ _ _ _ rfl).trans hj), (hk.frozen (by simp) (fun h => h)).trans (World.frozen?_alloc_at _ _ _ _ rfl)⟩

/-- the table, as the walks want it -/
theorem table_row (k : Nat) (hk : k < 96) (w0 : World) (n : Nat) (hn : w0.heap.size = n) :
    Calls Tryd.prog 61 #[] w0 fun e w' => e = .returned (.slice (some ⟨n, 0, none⟩) 96 96) ∧ n < w'.heap.size ∧ Keep Never w0 w' ∧ w'.cell? ⟨n, k * 4, none⟩ = some (.string ⟨(vrow k).name.toArray⟩) ∧ w'.cell? ⟨n, k * 4 + 1, none⟩ = some (.int .i64 (vrow k).width) ∧ w'.cell? ⟨n, k * 4 + 2, none⟩ = some (.int .i64 (vrow k).most) ∧ w'.cell? ⟨n, k * 4 + 3, none⟩ = some (.int .i64 (vrow k).special) := by
  refine (table_any w0).mono ?_
  rintro e w' ⟨rfl, rfl⟩
  subst hn
  have hc : ∀ j x, [Value.string ⟨(vrow k).name.toArray⟩, .int .i64 (vrow k).width, .int .i64 (vrow k).most, .int .i64 (vrow k).special][j]? = some x → (w0.alloc (.cells vcells.toArray 97)).cell? ⟨w0.heap.size, k * 4 + j, none⟩ = some x := by
    intro j x hx
    rw [World.cell?_alloc_at _ _ _ _ rfl, List.getElem?_toArray]
    exact rows_at vrows k j _ x (vrow_at k hk) hx
  exact ⟨rfl, by simp, (Keep.refl _ _).alloc _, hc 0 _ rfl, hc 1 _ rfl, hc 2 _ rfl, hc 3 _ rfl⟩

set_option maxHeartbeats 1000000 in
theorem rget2_any (v : Int) (w : World) :
    Calls Tryd.prog 62 #[.int .i64 v] w fun e w' => e = .returned (.tuple #[.agg (rowVals (vrow v)), .bool (decide (0 ≤ v ∧ v < 96))]) ∧ Keep Never w w' := by
  by_cases h : 0 ≤ v ∧ v < 96
  · obtain ⟨k, rfl⟩ : ∃ k : Nat, v = k := ⟨v.toNat, by omega⟩
    have htab := Lib.hid (table_row k (by omega))
    have hd : decide (0 ≤ (k : Int) ∧ (k : Int) < 96) = true := by simpa using h
    rw [hd]
    have hv : Hid (rowVals (vrow k) = #[.string ⟨(vrow k).name.toArray⟩, .int .i64 (vrow k).width, .int .i64 (vrow k).most, .int .i64 (vrow k).special]) := rfl
    obtain ⟨h1, h2⟩ := h
    generalize vrow k = r at *
    generalize rowVals r = rv at *
    clear hd
    go_enter Tryd.func62, Tryd.ntmps62
    go_wp2_with (go_at_call 61; refine (htab.out _ (w.heap.size + 1) (by simp)).mono ?_; rintro e w' ⟨rfl, hlt, hk, c0, c1, c2, c3⟩; obtain ⟨r0, f0⟩ := row_kept hk 0 _ rfl; obtain ⟨r1, f1⟩ := row_kept hk 1 _ rfl; obtain ⟨r2, f2⟩ := row_kept hk 2 _ rfl; obtain ⟨r3, f3⟩ := row_kept hk 3 _ rfl; have HK := Lib.hid hk; clear hk)
    refine bodyPost_ret (v := .tuple #[.agg rv, .bool true]) ?_ rfl ⟨rfl, ?_⟩
    · rw [results_cell_tmp rfl, hv.out]; go_simp
    · exact ((((((Keep.refl _ _).alloc _).trans HK.out).set_ (.inr (Nat.le_refl _)) _).set_ (.inr (Nat.le_refl _)) _).set_ (.inr (Nat.le_refl _)) _).set_ (.inr (Nat.le_refl _)) _
  · have hf : Hid (vrow v = ⟨[], 0, 0, 0⟩) := by show _ = _; rw [vrow, if_neg h]
    have hd : decide (0 ≤ v ∧ v < 96) = false := by simpa using h
    rw [hd, hf.out]
    have htab := Lib.hid (table_row 0 (by omega))
    clear hd
    have h : v < 0 ∨ 96 ≤ v := by omega
    rcases h with h | h
    all_goals
      go_enter Tryd.func62, Tryd.ntmps62
      go_wp2_with (go_at_call 61; refine (htab.out _ (w.heap.size + 1) (by simp)).mono ?_; rintro e w' ⟨rfl, hlt, hk, -, -, -, -⟩; obtain ⟨r0, f0⟩ := row_kept hk 0 _ rfl; obtain ⟨r1, f1⟩ := row_kept hk 1 _ rfl; obtain ⟨r2, f2⟩ := row_kept hk 2 _ rfl; obtain ⟨r3, f3⟩ := row_kept hk 3 _ rfl; have HK := Lib.hid hk; clear hk)
      refine bodyPost_ret (v := .tuple #[.agg (rowVals ⟨[], 0, 0, 0⟩), .bool false]) ?_ rfl ⟨rfl, ?_⟩
      · rw [results_cell_tmp rfl]; go_simp; rfl
      · exact ((((((Keep.refl _ _).alloc _).trans HK.out).set_ (.inr (Nat.le_refl _)) _).set_ (.inr (Nat.le_refl _)) _).set_ (.inr (Nat.le_refl _)) _).set_ (.inr (Nat.le_refl _)) _
end Go.Proofs.YtiebjnibmomcjaaDoor

namespace Go.Proofs.YtiebjnibmomcjaaDoor
open Go.RowKit

def vIs (v : Int) : Bool := decide (0 ≤ v ∧ v < 96)
theorem vrows_range : ∀ r ∈ vrows, 1 ≤ r.width ∧ r.width ≤ 32 ∧ -1 ≤ r.most ∧ r.most ≤ 4294967295 ∧ -1 ≤ r.special ∧ r.special ≤ 127 := by decide +kernel
theorem vrow_range (v : Int) : 0 ≤ (vrow v).width ∧ (vrow v).width ≤ 32 ∧ -1 ≤ (vrow v).most ∧ (vrow v).most ≤ 4294967295 ∧ -1 ≤ (vrow v).special ∧ (vrow v).special ≤ 127 := by
  by_cases h : 0 ≤ v ∧ v < 96
  · obtain ⟨k, rfl⟩ : ∃ k : Nat, v = k := ⟨v.toNat, by omega⟩
    have := vrows_range (vrow k) (List.mem_of_getElem? (vrow_at k (by omega)))
    omega
  · rw [vrow, if_neg h]
    exact ⟨by decide, by decide, by decide, by decide, by decide, by decide⟩
theorem rget2 (v : Int) (s : ByteArray) (wd m sp : Int) (b : Bool) (h0 : ⟨(vrow v).name.toArray⟩ = s) (h1 : (vrow v).width = wd) (h2 : (vrow v).most = m) (h3 : (vrow v).special = sp) (hb : vIs v = b) (w : World) :
    Calls Tryd.prog 62 #[.int .i64 v] w fun e w' => e = .returned (.tuple #[.agg #[.string s, .int .i64 wd, .int .i64 m, .int .i64 sp], .bool b]) ∧ Keep Never w w' := by
  subst h0 h1 h2 h3 hb
  exact rget2_any v w

set_option maxHeartbeats 400000 in
theorem rwidth_any (v : Int) (w : World) :
    Calls Tryd.prog 36 #[.int .i64 v] w fun e w' => e = .returned (.int .i64 (vrow v).width) ∧ Keep Never w w' := by
  have hr := vrow_range v
  obtain ⟨s, hs⟩ : ∃ s : ByteArray, ⟨(vrow v).name.toArray⟩ = s := ⟨_, rfl⟩
  obtain ⟨k, hk⟩ : ∃ k : Nat, (vrow v).width = k := ⟨(vrow v).width.toNat, by omega⟩
  obtain ⟨m, hm⟩ : ∃ m, (vrow v).most = m := ⟨_, rfl⟩
  obtain ⟨sp, hsp⟩ : ∃ sp, (vrow v).special = sp := ⟨_, rfl⟩
  obtain ⟨b, hb⟩ : ∃ b, vIs v = b := ⟨_, rfl⟩
  have hget := Lib.hid (rget2 v s k m sp b hs hk hm hsp hb)
  rw [hk, hm, hsp] at hr
  obtain ⟨p, hp⟩ : ∃ p : Int, ((2 ^ k : Nat) : Int) = p := ⟨_, rfl⟩
  have hpow := Lib.hid (power_any' k (by omega) p hp)
  have hp1 := pow_pos' k
  have hp2 := pow_le32 (k := k) (by omega)
  rw [hp] at hp1 hp2
  rw [hk]
  clear hs hk hm hsp hb hp
  go_enter Tryd.func36, Tryd.ntmps36
  go_wp2_with (first | (go_at_call 62; refine (hget.out _).mono ?_; rintro e w' ⟨rfl, hk⟩; have HK := Lib.hid hk; clear hk) | (go_at_call 63; refine (hpow.out _).mono ?_; rintro e w' ⟨rfl, rfl⟩))
  go_ret
  exact ⟨rfl, (by repeat (first | exact Keep.refl _ _ | exact HK.out | refine Keep.alloc ?_ _))⟩

def rSpecial (v : Int) : Int := if (vrow v).special < 0 then 0 else (vrow v).special
def rMost (v : Int) : Int := if vIs v = true ∧ (vrow v).most < 0 then ((2 ^ (vrow v).width.toNat : Nat) : Int) - 1 else (vrow v).most
def rMay (v n : Int) : Bool := decide (vIs v = true ∧ 0 ≤ n ∧ n < ((2 ^ (vrow v).width.toNat : Nat) : Int) ∧ ((vrow v).most < 0 ∨ n ≤ (vrow v).most ∨ (0 ≤ (vrow v).special ∧ (vrow v).special ≤ n)))
set_option maxHeartbeats 1000000 in
theorem rmay_any (v n : Int) (w : World) :
    Calls Tryd.prog 35 #[.int .i64 v, .int .i64 n] w fun e w' => e = .returned (.bool (rMay v n)) ∧ Keep Never w w' := by
  have hr := vrow_range v
  obtain ⟨s, hs⟩ : ∃ s : ByteArray, ⟨(vrow v).name.toArray⟩ = s := ⟨_, rfl⟩
  obtain ⟨k, hk⟩ : ∃ k : Nat, (vrow v).width = k := ⟨(vrow v).width.toNat, by omega⟩
  obtain ⟨m, hm⟩ : ∃ m, (vrow v).most = m := ⟨_, rfl⟩
  obtain ⟨sp, hsp⟩ : ∃ sp, (vrow v).special = sp := ⟨_, rfl⟩
  obtain ⟨b, hb⟩ : ∃ b, vIs v = b := ⟨_, rfl⟩
  have hget := Lib.hid (rget2 v s k m sp b hs hk hm hsp hb)
  rw [hk, hm, hsp] at hr
  obtain ⟨p, hp⟩ : ∃ p : Int, ((2 ^ k : Nat) : Int) = p := ⟨_, rfl⟩
  have hpow := Lib.hid (power_any' k (by omega) p hp)
  have hp1 := pow_pos' k
  have hp2 := pow_le32 (k := k) (by omega)
  rw [hp] at hp1 hp2
  have hmay : rMay v n = decide (b = true ∧ 0 ≤ n ∧ n < p ∧ (m < 0 ∨ n ≤ m ∨ (0 ≤ sp ∧ sp ≤ n))) := by rw [rMay, hm, hk, hb, hsp, Int.toNat_natCast, hp]
  clear hs hk hm hsp hb hp
  cases b
  · have hf : Hid (rMay v n = false) := by show _ = false; rw [hmay, decide_eq_false_iff_not]; simp
    clear hmay
    go_enter Tryd.func35, Tryd.ntmps35
    go_wp2_with (first | (go_at_call 62; refine (hget.out _).mono ?_; rintro e w' ⟨rfl, hk⟩; have HK := Lib.hid hk; clear hk) | (go_at_call 63; refine (hpow.out _).mono ?_; rintro e w' ⟨rfl, rfl⟩))
    go_ret
    exact ⟨by rw [hf.out]; rfl, (by repeat (first | exact Keep.refl _ _ | exact HK.out | refine Keep.alloc ?_ _))⟩
  by_cases c1 : n < 0
  · have d1 : decide (n < 0) = true := by simpa using c1
    have hf : Hid (rMay v n = false) := by show _ = false; rw [hmay, decide_eq_false_iff_not]; simp; omega
    clear hmay
    go_enter Tryd.func35, Tryd.ntmps35
    go_wp2_with (first | (go_at_call 62; refine (hget.out _).mono ?_; rintro e w' ⟨rfl, hk⟩; have HK := Lib.hid hk; clear hk) | (go_at_call 63; refine (hpow.out _).mono ?_; rintro e w' ⟨rfl, rfl⟩))
    go_ret
    exact ⟨by rw [hf.out]; rfl, (by repeat (first | exact Keep.refl _ _ | exact HK.out | refine Keep.alloc ?_ _))⟩
  have d1 : decide (n < 0) = false := by simpa using c1
  by_cases c2 : p ≤ n
  · have d2 : decide (p ≤ n) = true := by simpa using c2
    have hf : Hid (rMay v n = false) := by show _ = false; rw [hmay, decide_eq_false_iff_not]; simp; omega
    clear hmay
    go_enter Tryd.func35, Tryd.ntmps35
    go_wp2_with (first | (go_at_call 62; refine (hget.out _).mono ?_; rintro e w' ⟨rfl, hk⟩; have HK := Lib.hid hk; clear hk) | (go_at_call 63; refine (hpow.out _).mono ?_; rintro e w' ⟨rfl, rfl⟩))
    go_ret
    exact ⟨by rw [hf.out]; rfl, (by repeat (first | exact Keep.refl _ _ | exact HK.out | refine Keep.alloc ?_ _))⟩
  have d2 : decide (p ≤ n) = false := by simpa using c2
  by_cases c3 : m < 0
  · have d3 : decide (m < 0) = true := by simpa using c3
    have hf : Hid (rMay v n = true) := by show _ = true; rw [hmay, decide_eq_true_eq]; simp; omega
    clear hmay
    go_enter Tryd.func35, Tryd.ntmps35
    go_wp2_with (first | (go_at_call 62; refine (hget.out _).mono ?_; rintro e w' ⟨rfl, hk⟩; have HK := Lib.hid hk; clear hk) | (go_at_call 63; refine (hpow.out _).mono ?_; rintro e w' ⟨rfl, rfl⟩))
    go_ret
    exact ⟨by rw [hf.out]; rfl, (by repeat (first | exact Keep.refl _ _ | exact HK.out | refine Keep.alloc ?_ _))⟩
  have d3 : decide (m < 0) = false := by simpa using c3
  by_cases c4 : n ≤ m
  · have d4 : decide (n ≤ m) = true := by simpa using c4
    have hf : Hid (rMay v n = true) := by show _ = true; rw [hmay, decide_eq_true_eq]; simp; omega
    clear hmay
    go_enter Tryd.func35, Tryd.ntmps35
    go_wp2_with (first | (go_at_call 62; refine (hget.out _).mono ?_; rintro e w' ⟨rfl, hk⟩; have HK := Lib.hid hk; clear hk) | (go_at_call 63; refine (hpow.out _).mono ?_; rintro e w' ⟨rfl, rfl⟩))
    go_ret
    exact ⟨by rw [hf.out]; rfl, (by repeat (first | exact Keep.refl _ _ | exact HK.out | refine Keep.alloc ?_ _))⟩
  have d4 : decide (n ≤ m) = false := by simpa using c4
  by_cases c5 : 0 ≤ sp
  · have d5 : decide (0 ≤ sp) = true := by simpa using c5
    by_cases c6 : sp ≤ n
    · have d6 : decide (sp ≤ n) = true := by simpa using c6
      have hf : Hid (rMay v n = true) := by show _ = true; rw [hmay, decide_eq_true_eq]; simp; omega
      clear hmay
      go_enter Tryd.func35, Tryd.ntmps35
      go_wp2_with (first | (go_at_call 62; refine (hget.out _).mono ?_; rintro e w' ⟨rfl, hk⟩; have HK := Lib.hid hk; clear hk) | (go_at_call 63; refine (hpow.out _).mono ?_; rintro e w' ⟨rfl, rfl⟩))
      go_ret
      exact ⟨by rw [hf.out]; rfl, (by repeat (first | exact Keep.refl _ _ | exact HK.out | refine Keep.alloc ?_ _))⟩
    · have d6 : decide (sp ≤ n) = false := by simpa using c6
      have hf : Hid (rMay v n = false) := by show _ = false; rw [hmay, decide_eq_false_iff_not]; simp; omega
      clear hmay
      go_enter Tryd.func35, Tryd.ntmps35
      go_wp2_with (first | (go_at_call 62; refine (hget.out _).mono ?_; rintro e w' ⟨rfl, hk⟩; have HK := Lib.hid hk; clear hk) | (go_at_call 63; refine (hpow.out _).mono ?_; rintro e w' ⟨rfl, rfl⟩))
      go_ret
      exact ⟨by rw [hf.out]; rfl, (by repeat (first | exact Keep.refl _ _ | exact HK.out | refine Keep.alloc ?_ _))⟩
  · have d5 : decide (0 ≤ sp) = false := by simpa using c5
    have hf : Hid (rMay v n = false) := by show _ = false; rw [hmay, decide_eq_false_iff_not]; simp; omega
    clear hmay
    go_enter Tryd.func35, Tryd.ntmps35
    go_wp2_with (first | (go_at_call 62; refine (hget.out _).mono ?_; rintro e w' ⟨rfl, hk⟩; have HK := Lib.hid hk; clear hk) | (go_at_call 63; refine (hpow.out _).mono ?_; rintro e w' ⟨rfl, rfl⟩))
    go_ret
    exact ⟨by rw [hf.out]; rfl, (by repeat (first | exact Keep.refl _ _ | exact HK.out | refine Keep.alloc ?_ _))⟩
end Go.Proofs.YtiebjnibmomcjaaDoor

namespace Go.Proofs.YtiebjnibmomcjaaDoor
open Go.RowKit

def vName (k : Nat) : ByteArray := ⟨(vrow k).name.toArray⟩
/-- the answer of Find -/
def FindIs (s : ByteArray) (x : Int) : Prop := (∃ k : Nat, k < 96 ∧ x = k ∧ vName k = s ∧ ∀ j, j < k → vName j ≠ s) ∨ (x = -1 ∧ ∀ j, j < 96 → vName j ≠ s)
theorem FindIs.one {s : ByteArray} {x y : Int} (h : FindIs s x) (h' : FindIs s y) : x = y := by
  rcases h with ⟨k, hk, rfl, he, hl⟩ | ⟨rfl, hl⟩
  · rcases h' with ⟨k', hk', rfl, he', hl'⟩ | ⟨rfl, hl'⟩
    · rcases Nat.lt_trichotomy k k' with h | h | h
      · exact absurd he (hl' k h)
      · rw [h]
      · exact absurd he' (hl k' h)
    · exact absurd he (hl' k hk)
  · rcases h' with ⟨k', hk', rfl, he', hl'⟩ | ⟨rfl, hl'⟩
    · exact absurd he' (hl k' hk')
    · rfl

theorem bytes_beq (a b : ByteArray) : (a.toList == b.toList) = decide (a = b) := by
  rw [Bool.eq_iff_iff, beq_iff_eq, decide_eq_true_iff, Lib.toList_data, Lib.toList_data]
  constructor
  · intro h; rw [← Lib.mk_data a, h, Lib.mk_data]
  · intro h; rw [h]

theorem table_names (w0 : World) (n : Nat) (hn : w0.heap.size = n) :
    Calls Tryd.prog 61 #[] w0 fun e w' => e = .returned (.slice (some ⟨n, 0, none⟩) 96 96) ∧ Keep Never w0 w' ∧ ∀ k, k < 96 → w'.cell? ⟨n, k * 4, none⟩ = some (.string (vName k)) := by
  refine (table_any w0).mono ?_
  rintro e w' ⟨rfl, rfl⟩
  subst hn
  refine ⟨rfl, (Keep.refl _ _).alloc _, fun k hk => ?_⟩
  rw [World.cell?_alloc_at _ _ _ _ rfl, List.getElem?_toArray]
  exact rows_at vrows k 0 _ _ (vrow_at k hk) rfl

set_option maxHeartbeats 1000000 in
theorem rfind_any (s : ByteArray) (w : World) :
    Calls Tryd.prog 34 #[.string s] w fun e w' => ∃ x, e = .returned (.int .i64 x) ∧ FindIs s x ∧ Keep Never w w' := by
  go_enter Tryd.func34, Tryd.ntmps34
  go_wp2_with (go_at_call 61; refine (table_names _ w.heap.size (by simp)).mono ?_; rintro e w' ⟨rfl, hk, hc⟩; have HK := Lib.hid hk; have HC := Lib.hid hc; clear hk hc)
  go_loop [4] (fun v => ∃ k : Nat, k ≤ 96 ∧ v = .int .i64 k ∧ ∀ j, j < k → vName j ≠ s) (fun v => 96 - (intOf v).toNat)
  case atStart => exact ⟨0, by omega, rfl, fun j h => by omega⟩
  case round =>
    obtain ⟨k, hk, rfl, hlo⟩ := hrel
    have HL := Lib.hid hlo
    clear hlo
    by_cases h96 : k < 96
    · have c0 := HC.out k h96
      by_cases he : vName k = s
      · have hb : ((vName k).toList == s.toList) = true := by rw [bytes_beq]; simpa using he
        have HE := Lib.hid he
        clear he
        go_wp2
        go_ret
        exact ⟨k, rfl, .inl ⟨k, h96, rfl, HE.out, HL.out⟩, HK.out⟩
      · have hb : ((vName k).toList == s.toList) = false := by rw [bytes_beq]; simpa using he
        have HE := Lib.hid he
        clear he
        go_wp2
        go_round
        case rel => exact ⟨k + 1, by omega, by go_num, fun j h => by rcases Nat.lt_succ_iff_lt_or_eq.1 h with h | rfl; exact HL.out j h; exact HE.out⟩
        case measure => simp [intOf]; omega
    · obtain rfl : k = 96 := by omega
      go_wp2
      go_ret
      exact ⟨-1, rfl, .inr ⟨rfl, HL.out⟩, HK.out⟩
end Go.Proofs.YtiebjnibmomcjaaDoor

namespace Go.Proofs.YtiebjnibmomcjaaDoor
open Go.RowKit

/-- cut at a byte, over lists -/
def cutL (c : UInt8) (l : List UInt8) : List UInt8 × List UInt8 := (l.takeWhile (· ≠ c), (l.dropWhile (· ≠ c)).drop 1)

end Go.Proofs.YtiebjnibmomcjaaDoor

namespace Go.Proofs.YtiebjnibmomcjaaDoor
open Go.RowKit

def rests (k : Nat) : List UInt8 := ((vrows.map (·.name)).drop k).flatMap (· ++ [32])
theorem rests_len : ∀ k, k < 97 → (rests k).length ≤ 3000 := by decide +kernel
theorem cut_rest : ∀ k, k < 96 → (Lib.cut (rests k) [32]).1 = (vrows.getD k ⟨[], 0, 0, 0⟩).name ∧ (Lib.cut (rests k) [32]).2.1 = rests (k + 1) := by decide +kernel

def restB (k : Nat) : ByteArray := ⟨(rests k).toArray⟩
end Go.Proofs.YtiebjnibmomcjaaDoor

namespace Go.Proofs.YtiebjnibmomcjaaDoor
open Go.RowKit

theorem vrows_plain : ∀ k, k < 96 → wtab.getD k 0 = (vrows.getD k ⟨[], 0, 0, 0⟩).width ∧ vMost k = rMost k ∧ vSpecial k = rSpecial k := by decide +kernel
theorem vIs_iff {v : Int} : vIs v = true ↔ 0 ≤ v ∧ v < 96 := by simp [vIs]
theorem vWidth_eq (v : Int) : vWidth v = (vrow v).width := by
  unfold vWidth vrow
  split
  · exact (vrows_plain v.toNat (by omega)).1
  · rfl
theorem vSpecial_eq (v : Int) : vSpecial v = rSpecial v := by
  by_cases h : 0 ≤ v ∧ v < 96
  · obtain ⟨k, rfl⟩ : ∃ k : Nat, v = k := ⟨v.toNat, by omega⟩
    exact (vrows_plain k (by omega)).2.2
  · have e : rSpecial v = 0 := by rw [rSpecial, vrow, if_neg h]; rfl
    rw [e]
    unfold vSpecial
    (repeat' split) <;> omega
theorem vMost_eq (v : Int) : vMost v = rMost v := by
  by_cases h : 0 ≤ v ∧ v < 96
  · obtain ⟨k, rfl⟩ : ∃ k : Nat, v = k := ⟨v.toNat, by omega⟩
    exact (vrows_plain k (by omega)).2.1
  · have hf : vIs v = false := by simpa [vIs] using h
    have e : rMost v = 0 := by rw [rMost, hf, if_neg (by simp), vrow, if_neg h]
    have e2 : vWidth v = 0 := by rw [vWidth, if_neg h]
    rw [e]
    unfold vMost
    rw [e2]
    (repeat' split) <;> first | omega | rfl
theorem vrows_special : ∀ r ∈ vrows, r.special ≠ 0 ∧ (0 < r.special → r.special < ((2 ^ r.width.toNat : Nat) : Int) ∧ 0 ≤ r.most ∧ r.most < r.special) ∧ r.most < ((2 ^ r.width.toNat : Nat) : Int) := by decide +kernel
theorem vMay_eq (v n : Int) : vMay v n = rMay v n := by
  rw [Bool.eq_iff_iff]
  unfold vMay rMay
  rw [vMost_eq, vSpecial_eq, vWidth_eq, decide_eq_true_iff, decide_eq_true_iff, vIs_iff]
  by_cases h : 0 ≤ v ∧ v < 96
  · obtain ⟨k, rfl⟩ : ∃ k : Nat, v = k := ⟨v.toNat, by omega⟩
    have hm := List.mem_of_getElem? (vrow_at k (by omega))
    have h1 := vrows_range (vrow k) hm
    have h2 := vrows_special (vrow k) hm
    have hi : vIs (k : Int) = true := vIs_iff.2 h
    unfold rMost rSpecial
    rw [hi]
    generalize (vrow k).width = wd at *
    generalize (vrow k).most = m at *
    generalize (vrow k).special = sp at *
    generalize ((2 ^ wd.toNat : Nat) : Int) = p at *
    by_cases hm : m < 0
    · rw [if_pos ⟨rfl, hm⟩]
      by_cases hs : sp < 0
      · rw [if_pos hs]; omega
      · rw [if_neg hs]; omega
    · rw [if_neg (by simpa using hm)]
      by_cases hs : sp < 0
      · rw [if_pos hs]; omega
      · rw [if_neg hs]; omega
  · have e : vrow v = ⟨[], 0, 0, 0⟩ := by rw [vrow, if_neg h]
    rw [e]
    simp only [ne_eq, not_true_eq_false, false_and, false_iff]
    omega

theorem names_nodup : (vrows.map (·.name)).Nodup := by decide +kernel
theorem names_some : ∀ r ∈ vrows, r.name ≠ [] := by decide +kernel
theorem vName_inj {a b : Nat} (ha : a < 96) (hb : b < 96) (h : vName a = vName b) : a = b := by
  have h1 : (vrow a).name = (vrow b).name := by
    have := congrArg (fun x : ByteArray => x.data.toList) h
    exact this
  have e1 : (vrows.map (·.name))[a]? = some (vrow a).name := by rw [List.getElem?_map, vrow_at a ha]; rfl
  have e2 : (vrows.map (·.name))[b]? = some (vrow b).name := by rw [List.getElem?_map, vrow_at b hb]; rfl
  exact (List.getElem?_inj (by rw [List.length_map, vrows_len]; exact ha) names_nodup).1 (by rw [e1, e2, h1])
theorem vName_ne {a : Nat} (ha : a < 96) : vName a ≠ ⟨#[]⟩ := by
  intro h
  have h1 : (vrow a).name = [] := congrArg (fun x : ByteArray => x.data.toList) h
  exact names_some _ (List.mem_of_getElem? (vrow_at a ha)) h1
theorem find_name {a : Nat} (ha : a < 96) : FindIs (vName a) a := .inl ⟨a, ha, rfl, rfl, fun j hj h => by have := vName_inj (by omega) ha h; omega⟩

end Go.Proofs.YtiebjnibmomcjaaDoor
