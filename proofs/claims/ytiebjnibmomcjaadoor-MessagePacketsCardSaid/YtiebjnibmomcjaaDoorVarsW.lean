/- Walks of package vars: Width, Most, Special, May. -/
import Derived.Test.YtiebjnibmomcjaaDoorVarsD
import Derived.Test.YtiebjnibmomcjaaDoorBitsM
namespace Go.Proofs.YtiebjnibmomcjaaDoor
open Go.RowKit

/-- the program's table stands -/
def Widths (w : World) : Prop := ∀ i, i < 96 → w.cell? ⟨0, i, none⟩ = some (.int .i64 (wtab.getD i 0))
theorem Widths.keep {w w' : World} {S : Nat → Prop} (h : Widths w) (hk : Keep S w w') (hS : ¬ S 0) : Widths w' :=
  fun i hi => (hk.cell (cell_lt (h i hi)) hS).trans (h i hi)
theorem Widths.drewN {w : World} (h : Widths w) (n : Nat) : Widths (w.drewN n) := h
theorem Widths.lt {w : World} (h : Widths w) : 0 < w.heap.size := cell_lt (h 0 (by omega))

def vWidth (v : Int) : Int := if 0 ≤ v ∧ v < 96 then wtab.getD v.toNat 0 else 0
theorem wtab_range : ∀ i, i < 96 → 1 ≤ wtab.getD i 0 ∧ wtab.getD i 0 ≤ 32 := by decide
theorem vWidth_range (v : Int) : 0 ≤ vWidth v ∧ vWidth v ≤ 32 := by
  unfold vWidth
  split
  · have := wtab_range v.toNat (by omega); omega
  · omega

set_option maxHeartbeats 400000 in
theorem vwidth_any (v : Int) (w : World) (hw : Widths w) :
    Calls Tryd.prog 23 #[.int .i64 v] w fun e w' => e = .returned (.int .i64 (vWidth v)) ∧ w = w' := by
  by_cases h : 0 ≤ v ∧ v < 96
  · obtain ⟨k, rfl⟩ : ∃ k : Nat, v = k := ⟨v.toNat, by omega⟩
    have hc := hw k (by omega)
    have he : vWidth k = wtab.getD k 0 := by rw [vWidth, if_pos h, Int.toNat_natCast]
    rw [he]
    obtain ⟨h1, h2⟩ := h
    generalize wtab.getD k 0 = x at *
    clear hw he
    go_enter Tryd.func23, Tryd.ntmps23
    go_wp2
    go_ret
    exact ⟨rfl, rfl⟩
  · have he : vWidth v = 0 := by rw [vWidth, if_neg h]
    rw [he]
    clear hw he
    have h : v < 0 ∨ 96 ≤ v := by omega
    rcases h with h | h
    all_goals
      go_enter Tryd.func23, Tryd.ntmps23
      go_wp2
      go_ret
      exact ⟨rfl, rfl⟩

def vSpecial (v : Int) : Int := if v = 20 ∨ v = 52 ∨ v = 58 then 127 else if v = 38 ∨ v = 43 then 126 else 0
set_option maxHeartbeats 400000 in
theorem vspecial_any (v : Int) (w : World) :
    Calls Tryd.prog 54 #[.int .i64 v] w fun e w' => e = .returned (.int .i64 (vSpecial v)) ∧ w = w' := by
  go_enter Tryd.func54, Tryd.ntmps54
  go_wp2
  all_goals
    go_ret
    refine ⟨ret_int ?_, rfl⟩
    simp only [beq_iff_eq, beq_eq_false_iff_ne, ne_eq] at *
    unfold vSpecial
    (repeat' split) <;> omega

/-- the greatest plain value by the program's switch -/
def vMost (v : Int) : Int :=
  if v = 81 then 1 else if v = 6 ∨ v = 8 ∨ v = 14 ∨ v = 15 ∨ v = 21 ∨ v = 46 ∨ v = 57 ∨ v = 71 ∨ v = 87 then 2 else if v = 23 then 4 else if v = 22 then 14
  else if v = 20 ∨ v = 25 ∨ v = 38 ∨ v = 43 ∨ v = 52 ∨ v = 55 ∨ v = 58 ∨ v = 78 ∨ v = 85 then 120 else ((2 ^ (vWidth v).toNat : Nat) : Int) - 1
set_option maxHeartbeats 1000000 in
theorem vmost_any (v : Int) (w : World) (hw : Widths w) :
    Calls Tryd.prog 55 #[.int .i64 v] w fun e w' => e = .returned (.int .i64 (vMost v)) ∧ w = w' := by
  have hr := vWidth_range v
  obtain ⟨k, hk⟩ : ∃ k : Nat, vWidth v = k := ⟨(vWidth v).toNat, by omega⟩
  rw [hk] at hr
  have Hw := Lib.hid hw
  have HK := Lib.hid hk
  clear hw hk
  have hp := pow_pos' k
  have hp2 := pow_le32 (k := k) (by omega)
  go_enter Tryd.func55, Tryd.ntmps55
  go_wp2_with (go_at_call 23; refine (vwidth_any v _ Hw.out).mono ?_; rw [HK.out]; rintro e w' ⟨rfl, rfl⟩)
  all_goals
    go_ret
    refine ⟨ret_int ?_, rfl⟩
    simp only [beq_iff_eq, beq_eq_false_iff_ne, ne_eq] at *
    unfold vMost
    first
      | ((repeat' split) <;> omega)
      | skip
  repeat rw [if_neg (by omega)]
  have e : (2 : Int) ^ k = ((2 ^ k : Nat) : Int) := (Int.natCast_pow 2 k).symm
  rw [HK.out, Int.toNat_natCast, e, IntWalk.wrap64_in ((2 ^ k : Nat) : Int) ⟨by omega, by omega⟩, IntWalk.wrap64_in _ ⟨by omega, by omega⟩]

theorem vMost_range (v : Int) : 0 ≤ vMost v ∧ vMost v ≤ 4294967295 := by
  have h1 := vWidth_range v
  have h2 := pow_pos' (vWidth v).toNat
  have h3 := pow_le32 (k := (vWidth v).toNat) (by omega)
  unfold vMost
  (repeat' split) <;> omega
theorem vSpecial_range (v : Int) : 0 ≤ vSpecial v ∧ vSpecial v ≤ 127 := by
  unfold vSpecial
  (repeat' split) <;> omega

/-- may a variable be a number? -/
def vMay (v n : Int) : Bool := decide (vWidth v ≠ 0 ∧ 0 ≤ n ∧ n < ((2 ^ (vWidth v).toNat : Nat) : Int) ∧ (n ≤ vMost v ∨ (0 < vSpecial v ∧ vSpecial v ≤ n)))
set_option maxHeartbeats 1000000 in
theorem vmay_any (v n : Int) (hn : n ≤ 9223372036854775807) (w : World) (hw : Widths w) :
    Calls Tryd.prog 27 #[.int .i64 v, .int .i64 n] w fun e w' => e = .returned (.bool (vMay v n)) ∧ w = w' := by
  have hr := vWidth_range v
  obtain ⟨k, hk⟩ : ∃ k : Nat, vWidth v = k := ⟨(vWidth v).toNat, by omega⟩
  obtain ⟨m, hm⟩ : ∃ m, vMost v = m := ⟨_, rfl⟩
  obtain ⟨s, hs⟩ : ∃ s, vSpecial v = s := ⟨_, rfl⟩
  have hm1 := vMost_range v
  have hs1 := vSpecial_range v
  have hmay : vMay v n = decide ((k : Int) ≠ 0 ∧ 0 ≤ n ∧ n < ((2 ^ k : Nat) : Int) ∧ (n ≤ m ∨ (0 < s ∧ s ≤ n))) := by rw [vMay, hk, hm, hs, Int.toNat_natCast]
  rw [hk] at hr
  rw [hm] at hm1
  rw [hs] at hs1
  have HW : ∀ W, W = w → Calls Tryd.prog 23 #[.int .i64 v] W fun e w' => e = .returned (.int .i64 k) ∧ W = w' := by rintro W rfl; have := vwidth_any v W hw; rwa [hk] at this
  have HM : ∀ W, W = w → Calls Tryd.prog 55 #[.int .i64 v] W fun e w' => e = .returned (.int .i64 m) ∧ W = w' := by rintro W rfl; have := vmost_any v W hw; rwa [hm] at this
  have HS : ∀ W, W = w → Calls Tryd.prog 54 #[.int .i64 v] W fun e w' => e = .returned (.int .i64 s) ∧ W = w' := by rintro W rfl; have := vspecial_any v W; rwa [hs] at this
  have hHW := Lib.hid HW
  have hHM := Lib.hid HM
  have hHS := Lib.hid HS
  clear HW HM HS hw hk hm hs
  by_cases h0 : (k : Int) = 0
  · have hf : Hid (vMay v n = false) := by show _ = false; rw [hmay, decide_eq_false_iff_not]; omega
    have hk0 : ((k : Int) == 0) = true := by simpa using h0
    clear hmay h0
    go_enter Tryd.func27, Tryd.ntmps27
    go_wp2_with (first | (go_at_call 23; refine (hHW.out _ rfl).mono ?_; rintro e w' ⟨rfl, rfl⟩) | (go_at_call 54; refine (hHS.out _ rfl).mono ?_; rintro e w' ⟨rfl, rfl⟩) | (go_at_call 55; refine (hHM.out _ rfl).mono ?_; rintro e w' ⟨rfl, rfl⟩))
    go_ret
    exact ⟨by rw [hf.out]; rfl, rfl⟩
  have hk0 : ((k : Int) == 0) = false := by simpa using h0
  by_cases h1 : n < 0
  · have hf : Hid (vMay v n = false) := by show _ = false; rw [hmay, decide_eq_false_iff_not]; omega
    clear hmay h0
    go_enter Tryd.func27, Tryd.ntmps27
    go_wp2_with (first | (go_at_call 23; refine (hHW.out _ rfl).mono ?_; rintro e w' ⟨rfl, rfl⟩) | (go_at_call 54; refine (hHS.out _ rfl).mono ?_; rintro e w' ⟨rfl, rfl⟩) | (go_at_call 55; refine (hHM.out _ rfl).mono ?_; rintro e w' ⟨rfl, rfl⟩))
    go_ret
    exact ⟨by rw [hf.out]; rfl, rfl⟩
  obtain ⟨x, rfl⟩ : ∃ x : Nat, n = x := ⟨n.toNat, by omega⟩
  by_cases h2 : x < 2 ^ k
  · have hsh := shift_small h2
    by_cases h3 : (x : Int) ≤ m
    · have hf : Hid (vMay v x = true) := by show _ = true; rw [hmay, decide_eq_true_eq]; omega
      clear hmay h2
      go_enter Tryd.func27, Tryd.ntmps27
      go_wp2_with (first | (go_at_call 23; refine (hHW.out _ rfl).mono ?_; rintro e w' ⟨rfl, rfl⟩) | (go_at_call 54; refine (hHS.out _ rfl).mono ?_; rintro e w' ⟨rfl, rfl⟩) | (go_at_call 55; refine (hHM.out _ rfl).mono ?_; rintro e w' ⟨rfl, rfl⟩))
      go_ret
      exact ⟨by rw [hf.out]; rfl, rfl⟩
    · have hlo : decide ((x : Int) ≤ m) = false := by simpa using h3
      by_cases h4 : 0 < s
      · by_cases h5 : s ≤ (x : Int)
        · have hf : Hid (vMay v x = true) := by show _ = true; rw [hmay, decide_eq_true_eq]; omega
          clear hmay h2
          go_enter Tryd.func27, Tryd.ntmps27
          go_wp2_with (first | (go_at_call 23; refine (hHW.out _ rfl).mono ?_; rintro e w' ⟨rfl, rfl⟩) | (go_at_call 54; refine (hHS.out _ rfl).mono ?_; rintro e w' ⟨rfl, rfl⟩) | (go_at_call 55; refine (hHM.out _ rfl).mono ?_; rintro e w' ⟨rfl, rfl⟩))
          go_ret
          exact ⟨by rw [hf.out]; rfl, rfl⟩
        · have hf : Hid (vMay v x = false) := by show _ = false; rw [hmay, decide_eq_false_iff_not]; omega
          have hlo5 : decide (s ≤ (x : Int)) = false := by simpa using h5
          clear hmay h2
          go_enter Tryd.func27, Tryd.ntmps27
          go_wp2_with (first | (go_at_call 23; refine (hHW.out _ rfl).mono ?_; rintro e w' ⟨rfl, rfl⟩) | (go_at_call 54; refine (hHS.out _ rfl).mono ?_; rintro e w' ⟨rfl, rfl⟩) | (go_at_call 55; refine (hHM.out _ rfl).mono ?_; rintro e w' ⟨rfl, rfl⟩))
          go_ret
          exact ⟨by rw [hf.out]; rfl, rfl⟩
      · have hlo4 : decide (0 < s) = false := by simpa using h4
        have hf : Hid (vMay v x = false) := by show _ = false; rw [hmay, decide_eq_false_iff_not]; omega
        clear hmay h2
        go_enter Tryd.func27, Tryd.ntmps27
        go_wp2_with (first | (go_at_call 23; refine (hHW.out _ rfl).mono ?_; rintro e w' ⟨rfl, rfl⟩) | (go_at_call 54; refine (hHS.out _ rfl).mono ?_; rintro e w' ⟨rfl, rfl⟩) | (go_at_call 55; refine (hHM.out _ rfl).mono ?_; rintro e w' ⟨rfl, rfl⟩))
        go_ret
        exact ⟨by rw [hf.out]; rfl, rfl⟩
  · have hsh := shift_big (x := x) (k := k) (by omega)
    have hf : Hid (vMay v x = false) := by show _ = false; rw [hmay, decide_eq_false_iff_not]; omega
    clear hmay h0 h2
    go_enter Tryd.func27, Tryd.ntmps27
    go_wp2_with (first | (go_at_call 23; refine (hHW.out _ rfl).mono ?_; rintro e w' ⟨rfl, rfl⟩) | (go_at_call 54; refine (hHS.out _ rfl).mono ?_; rintro e w' ⟨rfl, rfl⟩) | (go_at_call 55; refine (hHM.out _ rfl).mono ?_; rintro e w' ⟨rfl, rfl⟩))
    go_ret
    exact ⟨by rw [hf.out]; rfl, rfl⟩

end Go.Proofs.YtiebjnibmomcjaaDoor
