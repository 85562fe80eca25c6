/- linesideref02.Find. -/
import Derived.Test.YtiebjnibmomcjaaDoorVarsS
namespace Go.Proofs.YtiebjnibmomcjaaDoor
open Go.RowKit

def vName (k : Nat) : ByteArray := ⟨(vrow k).name.toArray⟩
/-- the answer of Find -/
def FindIs (s : ByteArray) (x : Int) : Prop := (∃ k : Nat, k < 96 ∧ x = k ∧ vName k = s ∧ ∀ j, j < k → vName j ≠ s) ∨ (x = -1 ∧ ∀ j, j < 96 → vName j ≠ s)
theorem FindIs.one {s : ByteArray} {x y : Int} (h : FindIs s x) (h' : FindIs s y) : x = y := by
  rcases h with ⟨k, hk, rfl, he, hl⟩ | ⟨rfl, hl⟩
  · rcases h' with ⟨k', hk', rfl, he', hl'⟩ | ⟨rfl, hl'⟩
    · rcases Nat.lt_trichotomy k k' with h | h | h
      · exact absurd he (hl' k h)
      · rw [h]
      · exact absurd he' (hl k' h)
    · exact absurd he (hl' k hk)
  · rcases h' with ⟨k', hk', rfl, he', hl'⟩ | ⟨rfl, hl'⟩
    · exact absurd he' (hl k' hk')
    · rfl

theorem bytes_beq (a b : ByteArray) : (a.toList == b.toList) = decide (a = b) := by
  rw [Bool.eq_iff_iff, beq_iff_eq, decide_eq_true_iff, Lib.toList_data, Lib.toList_data]
  constructor
  · intro h; rw [← Lib.mk_data a, h, Lib.mk_data]
  · intro h; rw [h]

theorem table_names (w0 : World) (n : Nat) (hn : w0.heap.size = n) :
    Calls Tryd.prog 61 #[] w0 fun e w' => e = .returned (.slice (some ⟨n, 0, none⟩) 96 96) ∧ Keep Never w0 w' ∧ ∀ k, k < 96 → w'.cell? ⟨n, k * 4, none⟩ = some (.string (vName k)) := by
  refine (table_any w0).mono ?_
  rintro e w' ⟨rfl, rfl⟩
  subst hn
  refine ⟨rfl, (Keep.refl _ _).alloc _, fun k hk => ?_⟩
  rw [World.cell?_alloc_at _ _ _ _ rfl, List.getElem?_toArray]
  exact rows_at vrows k 0 _ _ (vrow_at k hk) rfl

set_option maxHeartbeats 1000000 in
theorem rfind_any (s : ByteArray) (w : World) :
    Calls Tryd.prog 34 #[.string s] w fun e w' => ∃ x, e = .returned (.int .i64 x) ∧ FindIs s x ∧ Keep Never w w' := by
  go_enter Tryd.func34, Tryd.ntmps34
  go_wp2_with (go_at_call 61; refine (table_names _ w.heap.size (by simp)).mono ?_; rintro e w' ⟨rfl, hk, hc⟩; have HK := Lib.hid hk; have HC := Lib.hid hc; clear hk hc)
  go_loop [4] (fun v => ∃ k : Nat, k ≤ 96 ∧ v = .int .i64 k ∧ ∀ j, j < k → vName j ≠ s) (fun v => 96 - (intOf v).toNat)
  case atStart => exact ⟨0, by omega, rfl, fun j h => by omega⟩
  case round =>
    obtain ⟨k, hk, rfl, hlo⟩ := hrel
    have HL := Lib.hid hlo
    clear hlo
    by_cases h96 : k < 96
    · have c0 := HC.out k h96
      by_cases he : vName k = s
      · have hb : ((vName k).toList == s.toList) = true := by rw [bytes_beq]; simpa using he
        have HE := Lib.hid he
        clear he
        go_wp2
        go_ret
        exact ⟨k, rfl, .inl ⟨k, h96, rfl, HE.out, HL.out⟩, HK.out⟩
      · have hb : ((vName k).toList == s.toList) = false := by rw [bytes_beq]; simpa using he
        have HE := Lib.hid he
        clear he
        go_wp2
        go_round
        case rel => exact ⟨k + 1, by omega, by go_num, fun j h => by rcases Nat.lt_succ_iff_lt_or_eq.1 h with h | rfl; exact HL.out j h; exact HE.out⟩
        case measure => simp [intOf]; omega
    · obtain rfl : k = 96 := by omega
      go_wp2
      go_ret
      exact ⟨-1, rfl, .inr ⟨rfl, HL.out⟩, HK.out⟩
end Go.Proofs.YtiebjnibmomcjaaDoor
