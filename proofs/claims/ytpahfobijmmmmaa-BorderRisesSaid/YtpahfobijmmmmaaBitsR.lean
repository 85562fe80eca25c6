/- Walks of the reference of layer 1. -/
import Derived.Test.YtpahfobijmmmmaaPow
namespace Go.Proofs.Ytpahfobijmmmmaa
open Go.RowKit

set_option maxRecDepth 100000 in
theorem elemB : Elem Try.prog 62 4 1 1 := ⟨Try.underlying62, _, _, rfl, rfl, rfl, rfl, rfl, by omega⟩
set_option maxRecDepth 100000 in
theorem elemU : Elem Try.prog 27 5 1 1 := ⟨Try.underlying27, _, _, rfl, rfl, rfl, rfl, rfl, by omega⟩

/-- what the document's Put leaves -/
def RPut (w : World) (A : Option Addr) (l : List Bool) (x width : Int) (e : Ending) (w' : World) : Prop :=
  ∃ A' n' c', e = .returned (.tuple #[.slice A' n' c', .int .i64 (putE l.length x width)]) ∧ n' = (putL l x width).length ∧ n' ≤ 8184 ∧ Rd w' w'.heap.size 1 A' n' ((putL l x width).map .bool) ∧ Keep Never w w' ∧ (∀ q, InRow A' q → InRow A q ∨ (w.heap.size ≤ q ∧ q < w'.heap.size))

theorem bit_int (xn j : Nat) : ((xn : Int) / ((2 ^ j : Nat) : Int) % 2 == 1) = bitOf xn j := by
  unfold bitOf
  rw [Bool.eq_iff_iff]
  simp only [beq_iff_eq]
  omega

/-- what the document's Bytes leaves -/
def RBytes (w : World) (l : List Bool) (e : Ending) (w' : World) : Prop :=
  ∃ A' n' c', e = .returned (.slice A' n' c') ∧ n' = (bytesOf l).length ∧ Rd w' w'.heap.size 1 A' n' ((bytesOf l).map u8v) ∧ Keep Never w w' ∧ n' ≤ c' ∧ c' ≤ maxLen

set_option maxHeartbeats 400000 in
theorem rbytes_any (A : Option Addr) (n c B : Nat) (l : List Bool) (hl : l.length = n) (w : World) (hr : Rd w B 1 A n (l.map .bool)) (_hB : B ≤ w.heap.size) (hn : n ≤ 1000000) :
    Calls Try.prog 22 #[.slice A n c] w (RBytes w l) := by
  have hRd := Lib.hid hr
  have HL := Lib.hid hl
  clear hl hr
  go_enter Try.func22, Try.ntmps22
  go_wp2
  go_loopw [3, 4, 5, 6] (fun v i _ _ wr => ∃ (q m c3 : Nat) (A3 : Option Addr), 8 * q ≤ n + 7 ∧ i = .int .i64 ((8 * q : Nat) : Int) ∧ v = .slice A3 m c3 ∧ m = q ∧ Own wr w.heap.size 5 1 A3 m c3 ((bytesTo l q).map u8v) ∧ Keep Never w wr)
    (fun _ i _ _ _ => n + 7 - (intOf i).toNat)
  case atStart => exact ⟨0, 0, 0, none, by omega, rfl, rfl, rfl, by simpa [bytesTo] using Own.nil _ _ _ _, Keep.refl _ _⟩
  case round =>
    obtain ⟨q, m, c3, A3, hq, rfl, rfl, hm, hown, hk⟩ := hrel
    obtain rfl : m = q := hm
    have Ho := Lib.hid hown
    clear hown
    by_cases h0 : 8 * m < n
    · have hh0 : (8 * m : Nat) < (n : Int) := by omega
      go_wp2
      obtain ⟨wo, rfl⟩ : ∃ wo : World, wo = wr := ⟨_, rfl⟩
      go_loop [5, 6] (fun x k => ∃ j : Nat, j ≤ 8 ∧ k = .int .i64 ((8 * m + j : Nat) : Int) ∧ x = .int .i64 (chunk l (8 * m) j : Nat)) (fun _ k => 8 * m + 8 - (intOf k).toNat)
      case atStart => exact ⟨0, by omega, rfl, rfl⟩
      case round =>
        obtain ⟨j, hj, rfl, rfl⟩ := hrel
        have hc := chunk_le l (8 * m) hj
        have hsu : chunk l (8 * m) (j + 1) = 2 * chunk l (8 * m) j + (bitAt l (8 * m + j)).toNat := rfl
        have Hsu := Lib.hid hsu
        clear hsu
        by_cases hj8 : j < 8
        · by_cases hin : 8 * m + j < n
          · obtain ⟨ad, x, rfl, _, hx, hcell⟩ := (hRd.out.keep hk (by intro k h; cases h)).at1 hin
            obtain rfl : bitAt l (8 * m + j) = x := by simp [bitAt, hx]
            have HX := Lib.hid hx
            clear hx
            cases hb : bitAt l (8 * m + j)
            all_goals
              rw [hb] at hcell
              have Hb := Lib.hid hb
              clear hb
              go_wp2
              go_round
              case rel => exact ⟨j + 1, by omega, by go_num, by rw [Hsu.out, Hb.out]; simp; try omega⟩
              case measure => simp [intOf]; try omega
          · have hb : bitAt l (8 * m + j) = false := by have := HL.out; simp [bitAt, List.getElem?_eq_none (show l.length ≤ 8 * m + j by omega)]
            have Hb := Lib.hid hb
            clear hb
            go_wp2
            go_round
            case rel => exact ⟨j + 1, by omega, by go_num, by rw [Hsu.out, Hb.out]; simp; try omega⟩
            case measure => simp [intOf]; try omega
        · obtain rfl : j = 8 := by omega
          have Hq : Hid (m ≤ 1000000) := by show m ≤ 1000000; omega
          have Hs := Lib.hid hk.size
          clear Hsu
          go_wp2_with (first
            | (at_builtin; refine wpList_app _ rfl (.tmp 34) (.tmp 37) _ rfl elemU w.heap.size rfl (Ho.out.alloc _) _ rfl (Rd.of_blk (n := 1) (cs := [.int .u8 _]) (Blk.new _ _ _) rfl) (by simp [Value.oneCell']) (by have := Hq.out; omega) (by have := Hq.out; unfold maxLen; omega) (by have := Hs.out; simp; omega) ?_; intro A4 c4 w4 hown4 hk4 hrow4))
          go_roundw
          case rel =>
            refine ⟨m + 1, m + 1, c4, A4, by omega, by go_num, rfl, rfl, ?_, ?_⟩
            · rw [bytesTo_succ, List.map_append]; exact hown4
            · exact (hk.alloc _).then_ hk4 (fun q hq hr => by have := (Ho.out.row hr).1; omega)
          case measure => simp [intOf]; try omega
    · have hh0 : ¬ (8 * m : Nat) < (n : Int) := by omega
      go_wp2
      go_ret
      have e1 : (l.length + 7) / 8 = m := by have := HL.out; omega
      refine ⟨A3, m, c3, rfl, ?_, ?_, hk, Ho.out.cap_le, ?_⟩
      · rw [bytesOf, e1, length_bytesTo]
      · rw [bytesOf, e1]; exact Ho.out.rd
      · rcases Ho.out.form with ⟨_, _, rfl, _⟩ | ⟨_, _, _, _, _, _, hc, _⟩
        · unfold maxLen; omega
        · exact hc

end Go.Proofs.Ytpahfobijmmmmaa
