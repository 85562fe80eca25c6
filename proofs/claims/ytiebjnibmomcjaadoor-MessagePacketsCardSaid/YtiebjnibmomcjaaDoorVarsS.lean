/- Walks of the reference of layer 2: Width, Most, Special, Name, May. -/
import Derived.Test.YtiebjnibmomcjaaDoorVarsG
import Derived.Test.YtiebjnibmomcjaaDoorPow
namespace Go.Proofs.YtiebjnibmomcjaaDoor
open Go.RowKit

def vIs (v : Int) : Bool := decide (0 ≤ v ∧ v < 96)
theorem vrows_range : ∀ r ∈ vrows, 1 ≤ r.width ∧ r.width ≤ 32 ∧ -1 ≤ r.most ∧ r.most ≤ 4294967295 ∧ -1 ≤ r.special ∧ r.special ≤ 127 := by decide +kernel
theorem vrow_range (v : Int) : 0 ≤ (vrow v).width ∧ (vrow v).width ≤ 32 ∧ -1 ≤ (vrow v).most ∧ (vrow v).most ≤ 4294967295 ∧ -1 ≤ (vrow v).special ∧ (vrow v).special ≤ 127 := by
  by_cases h : 0 ≤ v ∧ v < 96
  · obtain ⟨k, rfl⟩ : ∃ k : Nat, v = k := ⟨v.toNat, by omega⟩
    have := vrows_range (vrow k) (List.mem_of_getElem? (vrow_at k (by omega)))
    omega
  · rw [vrow, if_neg h]
    exact ⟨by decide, by decide, by decide, by decide, by decide, by decide⟩
theorem rget2 (v : Int) (s : ByteArray) (wd m sp : Int) (b : Bool) (h0 : ⟨(vrow v).name.toArray⟩ = s) (h1 : (vrow v).width = wd) (h2 : (vrow v).most = m) (h3 : (vrow v).special = sp) (hb : vIs v = b) (w : World) :
    Calls Tryd.prog 62 #[.int .i64 v] w fun e w' => e = .returned (.tuple #[.agg #[.string s, .int .i64 wd, .int .i64 m, .int .i64 sp], .bool b]) ∧ Keep Never w w' := by
  subst h0 h1 h2 h3 hb
  exact rget2_any v w

set_option maxHeartbeats 400000 in
theorem rwidth_any (v : Int) (w : World) :
    Calls Tryd.prog 36 #[.int .i64 v] w fun e w' => e = .returned (.int .i64 (vrow v).width) ∧ Keep Never w w' := by
  have hr := vrow_range v
  obtain ⟨s, hs⟩ : ∃ s : ByteArray, ⟨(vrow v).name.toArray⟩ = s := ⟨_, rfl⟩
  obtain ⟨k, hk⟩ : ∃ k : Nat, (vrow v).width = k := ⟨(vrow v).width.toNat, by omega⟩
  obtain ⟨m, hm⟩ : ∃ m, (vrow v).most = m := ⟨_, rfl⟩
  obtain ⟨sp, hsp⟩ : ∃ sp, (vrow v).special = sp := ⟨_, rfl⟩
  obtain ⟨b, hb⟩ : ∃ b, vIs v = b := ⟨_, rfl⟩
  have hget := Lib.hid (rget2 v s k m sp b hs hk hm hsp hb)
  rw [hk, hm, hsp] at hr
  obtain ⟨p, hp⟩ : ∃ p : Int, ((2 ^ k : Nat) : Int) = p := ⟨_, rfl⟩
  have hpow := Lib.hid (power_any' k (by omega) p hp)
  have hp1 := pow_pos' k
  have hp2 := pow_le32 (k := k) (by omega)
  rw [hp] at hp1 hp2
  rw [hk]
  clear hs hk hm hsp hb hp
  go_enter Tryd.func36, Tryd.ntmps36
  go_wp2_with (first | (go_at_call 62; refine (hget.out _).mono ?_; rintro e w' ⟨rfl, hk⟩; have HK := Lib.hid hk; clear hk) | (go_at_call 63; refine (hpow.out _).mono ?_; rintro e w' ⟨rfl, rfl⟩))
  go_ret
  exact ⟨rfl, (by repeat (first | exact Keep.refl _ _ | exact HK.out | refine Keep.alloc ?_ _))⟩

def rSpecial (v : Int) : Int := if (vrow v).special < 0 then 0 else (vrow v).special
def rMost (v : Int) : Int := if vIs v = true ∧ (vrow v).most < 0 then ((2 ^ (vrow v).width.toNat : Nat) : Int) - 1 else (vrow v).most
def rMay (v n : Int) : Bool := decide (vIs v = true ∧ 0 ≤ n ∧ n < ((2 ^ (vrow v).width.toNat : Nat) : Int) ∧ ((vrow v).most < 0 ∨ n ≤ (vrow v).most ∨ (0 ≤ (vrow v).special ∧ (vrow v).special ≤ n)))
set_option maxHeartbeats 1000000 in
theorem rmay_any (v n : Int) (w : World) :
    Calls Tryd.prog 35 #[.int .i64 v, .int .i64 n] w fun e w' => e = .returned (.bool (rMay v n)) ∧ Keep Never w w' := by
  have hr := vrow_range v
  obtain ⟨s, hs⟩ : ∃ s : ByteArray, ⟨(vrow v).name.toArray⟩ = s := ⟨_, rfl⟩
  obtain ⟨k, hk⟩ : ∃ k : Nat, (vrow v).width = k := ⟨(vrow v).width.toNat, by omega⟩
  obtain ⟨m, hm⟩ : ∃ m, (vrow v).most = m := ⟨_, rfl⟩
  obtain ⟨sp, hsp⟩ : ∃ sp, (vrow v).special = sp := ⟨_, rfl⟩
  obtain ⟨b, hb⟩ : ∃ b, vIs v = b := ⟨_, rfl⟩
  have hget := Lib.hid (rget2 v s k m sp b hs hk hm hsp hb)
  rw [hk, hm, hsp] at hr
  obtain ⟨p, hp⟩ : ∃ p : Int, ((2 ^ k : Nat) : Int) = p := ⟨_, rfl⟩
  have hpow := Lib.hid (power_any' k (by omega) p hp)
  have hp1 := pow_pos' k
  have hp2 := pow_le32 (k := k) (by omega)
  rw [hp] at hp1 hp2
  have hmay : rMay v n = decide (b = true ∧ 0 ≤ n ∧ n < p ∧ (m < 0 ∨ n ≤ m ∨ (0 ≤ sp ∧ sp ≤ n))) := by rw [rMay, hm, hk, hb, hsp, Int.toNat_natCast, hp]
  clear hs hk hm hsp hb hp
  cases b
  · have hf : Hid (rMay v n = false) := by show _ = false; rw [hmay, decide_eq_false_iff_not]; simp
    clear hmay
    go_enter Tryd.func35, Tryd.ntmps35
    go_wp2_with (first | (go_at_call 62; refine (hget.out _).mono ?_; rintro e w' ⟨rfl, hk⟩; have HK := Lib.hid hk; clear hk) | (go_at_call 63; refine (hpow.out _).mono ?_; rintro e w' ⟨rfl, rfl⟩))
    go_ret
    exact ⟨by rw [hf.out]; rfl, (by repeat (first | exact Keep.refl _ _ | exact HK.out | refine Keep.alloc ?_ _))⟩
  by_cases c1 : n < 0
  · have d1 : decide (n < 0) = true := by simpa using c1
    have hf : Hid (rMay v n = false) := by show _ = false; rw [hmay, decide_eq_false_iff_not]; simp; omega
    clear hmay
    go_enter Tryd.func35, Tryd.ntmps35
    go_wp2_with (first | (go_at_call 62; refine (hget.out _).mono ?_; rintro e w' ⟨rfl, hk⟩; have HK := Lib.hid hk; clear hk) | (go_at_call 63; refine (hpow.out _).mono ?_; rintro e w' ⟨rfl, rfl⟩))
    go_ret
    exact ⟨by rw [hf.out]; rfl, (by repeat (first | exact Keep.refl _ _ | exact HK.out | refine Keep.alloc ?_ _))⟩
  have d1 : decide (n < 0) = false := by simpa using c1
  by_cases c2 : p ≤ n
  · have d2 : decide (p ≤ n) = true := by simpa using c2
    have hf : Hid (rMay v n = false) := by show _ = false; rw [hmay, decide_eq_false_iff_not]; simp; omega
    clear hmay
    go_enter Tryd.func35, Tryd.ntmps35
    go_wp2_with (first | (go_at_call 62; refine (hget.out _).mono ?_; rintro e w' ⟨rfl, hk⟩; have HK := Lib.hid hk; clear hk) | (go_at_call 63; refine (hpow.out _).mono ?_; rintro e w' ⟨rfl, rfl⟩))
    go_ret
    exact ⟨by rw [hf.out]; rfl, (by repeat (first | exact Keep.refl _ _ | exact HK.out | refine Keep.alloc ?_ _))⟩
  have d2 : decide (p ≤ n) = false := by simpa using c2
  by_cases c3 : m < 0
  · have d3 : decide (m < 0) = true := by simpa using c3
    have hf : Hid (rMay v n = true) := by show _ = true; rw [hmay, decide_eq_true_eq]; simp; omega
    clear hmay
    go_enter Tryd.func35, Tryd.ntmps35
    go_wp2_with (first | (go_at_call 62; refine (hget.out _).mono ?_; rintro e w' ⟨rfl, hk⟩; have HK := Lib.hid hk; clear hk) | (go_at_call 63; refine (hpow.out _).mono ?_; rintro e w' ⟨rfl, rfl⟩))
    go_ret
    exact ⟨by rw [hf.out]; rfl, (by repeat (first | exact Keep.refl _ _ | exact HK.out | refine Keep.alloc ?_ _))⟩
  have d3 : decide (m < 0) = false := by simpa using c3
  by_cases c4 : n ≤ m
  · have d4 : decide (n ≤ m) = true := by simpa using c4
    have hf : Hid (rMay v n = true) := by show _ = true; rw [hmay, decide_eq_true_eq]; simp; omega
    clear hmay
    go_enter Tryd.func35, Tryd.ntmps35
    go_wp2_with (first | (go_at_call 62; refine (hget.out _).mono ?_; rintro e w' ⟨rfl, hk⟩; have HK := Lib.hid hk; clear hk) | (go_at_call 63; refine (hpow.out _).mono ?_; rintro e w' ⟨rfl, rfl⟩))
    go_ret
    exact ⟨by rw [hf.out]; rfl, (by repeat (first | exact Keep.refl _ _ | exact HK.out | refine Keep.alloc ?_ _))⟩
  have d4 : decide (n ≤ m) = false := by simpa using c4
  by_cases c5 : 0 ≤ sp
  · have d5 : decide (0 ≤ sp) = true := by simpa using c5
    by_cases c6 : sp ≤ n
    · have d6 : decide (sp ≤ n) = true := by simpa using c6
      have hf : Hid (rMay v n = true) := by show _ = true; rw [hmay, decide_eq_true_eq]; simp; omega
      clear hmay
      go_enter Tryd.func35, Tryd.ntmps35
      go_wp2_with (first | (go_at_call 62; refine (hget.out _).mono ?_; rintro e w' ⟨rfl, hk⟩; have HK := Lib.hid hk; clear hk) | (go_at_call 63; refine (hpow.out _).mono ?_; rintro e w' ⟨rfl, rfl⟩))
      go_ret
      exact ⟨by rw [hf.out]; rfl, (by repeat (first | exact Keep.refl _ _ | exact HK.out | refine Keep.alloc ?_ _))⟩
    · have d6 : decide (sp ≤ n) = false := by simpa using c6
      have hf : Hid (rMay v n = false) := by show _ = false; rw [hmay, decide_eq_false_iff_not]; simp; omega
      clear hmay
      go_enter Tryd.func35, Tryd.ntmps35
      go_wp2_with (first | (go_at_call 62; refine (hget.out _).mono ?_; rintro e w' ⟨rfl, hk⟩; have HK := Lib.hid hk; clear hk) | (go_at_call 63; refine (hpow.out _).mono ?_; rintro e w' ⟨rfl, rfl⟩))
      go_ret
      exact ⟨by rw [hf.out]; rfl, (by repeat (first | exact Keep.refl _ _ | exact HK.out | refine Keep.alloc ?_ _))⟩
  · have d5 : decide (0 ≤ sp) = false := by simpa using c5
    have hf : Hid (rMay v n = false) := by show _ = false; rw [hmay, decide_eq_false_iff_not]; simp; omega
    clear hmay
    go_enter Tryd.func35, Tryd.ntmps35
    go_wp2_with (first | (go_at_call 62; refine (hget.out _).mono ?_; rintro e w' ⟨rfl, hk⟩; have HK := Lib.hid hk; clear hk) | (go_at_call 63; refine (hpow.out _).mono ?_; rintro e w' ⟨rfl, rfl⟩))
    go_ret
    exact ⟨by rw [hf.out]; rfl, (by repeat (first | exact Keep.refl _ _ | exact HK.out | refine Keep.alloc ?_ _))⟩
end Go.Proofs.YtiebjnibmomcjaaDoor
