/- vars.Name and vars.Find. -/
import Derived.Test.YtddmfjcimanilaaDoorVarsF
import Derived.Test.YtddmfjcimanilaaDoorVarsC
namespace Go.Proofs.YtddmfjcimanilaaDoor
open Go.RowKit

def rests (k : Nat) : List UInt8 := ((vrows.map (·.name)).drop k).flatMap (· ++ [32])
theorem rests_len : ∀ k, k < 97 → (rests k).length ≤ 3000 := by decide +kernel
theorem cut_rest : ∀ k, k < 96 → (Lib.cut (rests k) [32]).1 = (vrows.getD k ⟨[], 0, 0, 0⟩).name ∧ (Lib.cut (rests k) [32]).2.1 = rests (k + 1) := by decide +kernel

def restB (k : Nat) : ByteArray := ⟨(rests k).toArray⟩
theorem cut_at (k : Nat) (hk : k < 96) (w : World) :
    Calls Tryd.prog 23 #[.string (restB k), .string ⟨#[32]⟩] w fun e w' => ∃ b, e = .returned (.tuple #[.string (vName k), .string (restB (k + 1)), .bool b]) ∧ ∃ n, w' = w.drewN n := by
  have h := cut_any (restB k) (by show (rests k).toArray.size ≤ _; have := rests_len k (by omega); simp; omega) 32 w
  obtain ⟨h1, h2⟩ := cut_rest k hk
  have e1 : (Lib.cut (restB k).data.toList [32]) = Lib.cut (rests k) [32] := rfl
  rw [e1, h1, h2] at h
  have e2 : (vrows.getD k ⟨[], 0, 0, 0⟩) = vrow k := by rw [vrow, if_pos (by omega), Int.toNat_natCast]
  rw [e2] at h
  exact h

set_option maxHeartbeats 2000000 in
set_option maxRecDepth 100000 in
theorem vname_any (v : Int) (w : World) :
    Calls Tryd.prog 15 #[.int .i64 v] w fun e w' => e = .returned (.string ⟨(vrow v).name.toArray⟩) ∧ Keep Never w w' := by
  by_cases h : 0 ≤ v ∧ v < 96
  · obtain ⟨n, rfl⟩ : ∃ n : Nat, v = n := ⟨v.toNat, by omega⟩
    obtain ⟨h1, h2⟩ := h
    obtain ⟨s, hs⟩ : ∃ s : ByteArray, ⟨(vrow n).name.toArray⟩ = s := ⟨_, rfl⟩
    have HS : Hid (vName n = s) := hs
    rw [hs]
    clear hs
    go_enter Tryd.func15, Tryd.ntmps15
    go_wp2
    go_loopw [3, 14] (fun r i wr => ∃ k : Nat, k ≤ n ∧ i = .int .i64 k ∧ r = .string (restB k) ∧ Keep Never w wr) (fun _ i _ => n - (intOf i).toNat)
    case atStart => exact ⟨0, by omega, rfl, by kernel_rfl, Keep.refl _ _⟩
    case round =>
      obtain ⟨k, hk, rfl, rfl, hkp⟩ := hrel
      have HK := Lib.hid hkp
      clear hkp
      have hc := Lib.hid (fun w => cut_at k (by omega) w)
      by_cases hn : k < n
      · go_wp2_with (go_at_call 23; refine (hc.out _).mono ?_; rintro e w' ⟨b, rfl, m, rfl⟩)
        go_round
        case rel => exact ⟨k + 1, by omega, by go_num, rfl, HK.out.drewN _⟩
        case measure => simp [intOf]; omega
      · obtain rfl : k = n := by omega
        go_wp2_with (go_at_call 23; refine (hc.out _).mono ?_; rintro e w' ⟨b, rfl, m, rfl⟩)
        go_ret
        exact ⟨by rw [← HS.out]; rfl, HK.out.drewN _⟩
  · have hf : Hid ((⟨(vrow v).name.toArray⟩ : ByteArray) = ⟨#[]⟩) := by show _ = _; rw [vrow, if_neg h]
    rw [hf.out]
    have h : v < 0 ∨ 96 ≤ v := by omega
    rcases h with h | h
    all_goals
      go_enter Tryd.func15, Tryd.ntmps15
      go_wp2
      go_ret
      exact ⟨rfl, Keep.refl _ _⟩

theorem vname_at (k : Nat) (s : ByteArray) (h : vName k = s) (w : World) :
    Calls Tryd.prog 15 #[.int .i64 k] w fun e w' => e = .returned (.string s) ∧ Keep Never w w' := by
  subst h; exact vname_any k w

set_option maxHeartbeats 1000000 in
theorem vfind_any (s : ByteArray) (w : World) :
    Calls Tryd.prog 19 #[.string s] w fun e w' => ∃ x, e = .returned (.int .i64 x) ∧ FindIs s x ∧ Keep Never w w' := by
  go_enter Tryd.func19, Tryd.ntmps19
  go_wp2
  go_loopw [4] (fun v wr => ∃ k : Nat, k ≤ 96 ∧ v = .int .i64 k ∧ (∀ j, j < k → vName j ≠ s) ∧ Keep Never w wr) (fun v _ => 96 - (intOf v).toNat)
  case atStart => exact ⟨0, by omega, rfl, fun j h => by omega, Keep.refl _ _⟩
  case round =>
    obtain ⟨k, hk, rfl, hlo, hkp⟩ := hrel
    have HL := Lib.hid hlo
    have HK := Lib.hid hkp
    clear hlo hkp
    by_cases h96 : k < 96
    · have hc := Lib.hid (vname_at k _ rfl)
      by_cases he : vName k = s
      · have hb : ((vName k).toList == s.toList) = true := by rw [bytes_beq]; simpa using he
        have HE := Lib.hid he
        clear he
        go_wp2_with (go_at_call 15; refine (hc.out _).mono ?_; rintro e w' ⟨rfl, hk2⟩; have HK2 := Lib.hid hk2; clear hk2)
        go_ret
        exact ⟨k, rfl, .inl ⟨k, h96, rfl, HE.out, HL.out⟩, HK.out.trans HK2.out⟩
      · have hb : ((vName k).toList == s.toList) = false := by rw [bytes_beq]; simpa using he
        have HE := Lib.hid he
        clear he
        go_wp2_with (go_at_call 15; refine (hc.out _).mono ?_; rintro e w' ⟨rfl, hk2⟩; have HK2 := Lib.hid hk2; clear hk2)
        go_round
        case rel => exact ⟨k + 1, by omega, by go_num, fun j h => by rcases Nat.lt_succ_iff_lt_or_eq.1 h with h | rfl; exact HL.out j h; exact HE.out, HK.out.trans HK2.out⟩
        case measure => simp [intOf]; omega
    · obtain rfl : k = 96 := by omega
      go_wp2
      go_ret
      exact ⟨-1, rfl, .inr ⟨rfl, HL.out⟩, HK.out⟩
end Go.Proofs.YtddmfjcimanilaaDoor
