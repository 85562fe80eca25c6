/- Walks of the reference of layer 1: Get, Bits. -/
import Derived.Test.YtiebjnibmomcjaaDoorBdMsgB
import Derived.Deep.RegionHeld3
namespace Go.Proofs.YtiebjnibmomcjaaDoor
open Go.RowKit

/-- what the document's Get leaves -/
def RGet (w : World) (B : Nat) (A : Option Addr) (l : List Bool) (width : Int) (e : Ending) (w' : World) : Prop :=
  ∃ A' n' c', e = .returned (.tuple #[.int .i64 (getN l width), .slice A' n' c', .int .i64 (getE l.length width)]) ∧ n' = (getL l width).length ∧ n' ≤ c' ∧ Rd w' B 1 A' n' ((getL l width).map .bool) ∧ Keep Never w w' ∧ (∀ q, InRow A' q → InRow A q)

set_option maxHeartbeats 400000 in
theorem rget_any (A : Option Addr) (n c B : Nat) (l : List Bool) (hl : l.length = n) (w : World) (hr : Rd w B 1 A n (l.map .bool)) (_hn : n ≤ 1000000) (hc : n ≤ c) (width : Int) :
    Calls Tryd.prog 49 #[.slice A n c, .int .i64 width] w (RGet w B A l width) := by
  by_cases hw : width < 1 ∨ 32 < width
  · have hfin : ∀ w', w = w' → RGet w B A l width (.returned (.tuple #[.int .i64 0, .slice A n c, .int .i64 1])) w' := by
      rintro _ rfl
      have e1 : getL l width = l := by simp [getL]; omega
      have e2 : getN l width = 0 := by simp [getN]; omega
      have e3 : getE l.length width = 1 := by simp [getE]; omega
      exact ⟨A, n, c, by rw [e2, e3], by rw [e1, hl], hc, by rw [e1]; exact hr, Keep.refl _ _, fun _ h => h⟩
    have H := Lib.hid hfin
    clear hfin hr hl
    rcases hw with hw | hw
    all_goals
      go_enter Tryd.func49, Tryd.ntmps49
      go_wp2
      go_ret3
      exact H.out _ rfl
  · obtain ⟨k, rfl⟩ : ∃ k : Nat, width = k := ⟨width.toNat, by omega⟩
    have h1 : 1 ≤ (k : Int) := by omega
    have h2 : (k : Int) ≤ 32 := by omega
    clear hw
    by_cases hs : (n : Int) < k
    · have hfin : ∀ w', w = w' → RGet w B A l k (.returned (.tuple #[.int .i64 0, .slice A n c, .int .i64 10])) w' := by
        rintro _ rfl
        have e1 : getL l k = l := by rw [getL, if_pos (by omega)]
        have e2 : getN l k = 0 := by rw [getN, if_pos (by omega)]
        have e3 : getE l.length k = 10 := by rw [getE, if_neg (by omega), if_pos (by omega)]
        exact ⟨A, n, c, by rw [e2, e3], by rw [e1, hl], hc, by rw [e1]; exact hr, Keep.refl _ _, fun _ h => h⟩
      have H := Lib.hid hfin
      clear hfin hr hl
      go_enter Tryd.func49, Tryd.ntmps49
      go_wp2
      go_ret3
      exact H.out _ rfl
    · have e1 : getL l k = l.drop k := by rw [getL, if_neg (by omega)]; simp
      have e2 : getN l k = numOf (l.take k) := by rw [getN, if_neg (by omega)]; simp
      have e3 : getE l.length k = 0 := by rw [getE, if_neg (by omega), if_neg (by omega)]
      have E1 := Lib.hid e1
      have E2 := Lib.hid e2
      have E3 := Lib.hid e3
      have HL := Lib.hid hl
      have hRd := Lib.hid hr
      clear e1 e2 e3 hl hr
      go_enter Tryd.func49, Tryd.ntmps49
      go_wp2
      go_loop [7, 8] (fun x i => ∃ j : Nat, j ≤ k ∧ i = .int .i64 j ∧ x = .int .i64 (numOf (l.take j) : Nat)) (fun _ i => k - (intOf i).toNat)
      case atStart => exact ⟨0, by omega, rfl, by simp [numOf]⟩
      case round =>
        obtain ⟨j, hj, rfl, rfl⟩ := hrel
        have hle := numOf_le32 (l.take j) (k := j) (by omega) (by simp; omega)
        by_cases hjk : j < k
        · obtain ⟨ad, x, rfl, _, hx, hcell⟩ := hRd.out.at1 (k := j) (by omega)
          obtain rfl : bitAt l j = x := by simp [bitAt, hx]
          have htk := take_bit l j (by have := HL.out; omega)
          have hns := numOf_snoc (l.take j) (bitAt l j)
          rw [← htk] at hns
          have Hns := Lib.hid hns
          clear hx htk hns
          cases hb : bitAt l j
          all_goals
            rw [hb] at hcell
            have Hb := Lib.hid hb
            clear hb
            go_wp2
            go_round
            case rel => exact ⟨j + 1, by omega, by go_num, by rw [Hns.out, Hb.out]; simp; try omega⟩
            case measure => simp [intOf]; try omega
        · obtain rfl : j = k := by omega
          have HC := Lib.hid ((hRd.out).cut (k := j) (cap := c) (by omega) hc)
          go_wp2
          by_cases hcj : c = j
          · go_quiet (fail)
            go_wp2
            go_ret3
            refine ⟨A, n - j, 0, by rw [E2.out, E3.out]; rfl, by rw [E1.out, List.length_drop, HL.out], by omega, ?_, (Keep.refl _ _).drewN _, fun _ h => h⟩
            have := HC.out
            rw [if_pos hcj, Nat.mul_one] at this
            rw [E1.out, List.map_drop]
            exact this.drewN _
          · go_quiet (fail)
            go_wp2
            go_ret3
            refine ⟨_, n - j, c - j, by rw [E2.out, E3.out]; rfl, by rw [E1.out, List.length_drop, HL.out], by omega, ?_, (Keep.refl _ _).drewN _, fun q h => by
              obtain ⟨ad, h1, h2⟩ := h
              rcases A with _ | a0
              · cases h1
              · injection h1 with h1
                exact ⟨a0, rfl, by rw [← h2, ← h1, block_add]⟩⟩
            have := HC.out
            rw [if_neg hcj, Nat.mul_one] at this
            rw [E1.out, List.map_drop]
            exact this.drewN _

/-- what the document's Bits leaves -/
def RBits (w : World) (b : List Nat) (e : Ending) (w' : World) : Prop :=
  ∃ A' n' c', e = .returned (.slice A' n' c') ∧ n' = 8 * b.length ∧ n' ≤ c' ∧ Rd w' w'.heap.size 1 A' n' ((bitsB b).map .bool) ∧ Keep Never w w' ∧ (∀ q, InRow A' q → w.heap.size ≤ q)

theorem bit_int' (xn j : Nat) : ((xn : Int) / ((2 ^ j : Nat) : Int) % 2 == 1) = bitOf xn j := bit_int xn j

set_option maxHeartbeats 400000 in
theorem rbits_any (A : Option Addr) (n c B : Nat) (b : List Nat) (hl : b.length = n) (w : World) (hr : Rd w B 1 A n (b.map u8v)) (hB : B ≤ w.heap.size) (h8 : ∀ x ∈ b, x < 256) (hn : n ≤ 1000000) :
    Calls Tryd.prog 48 #[.slice A n c] w (RBits w b) := by
  have hRd := Lib.hid hr
  have HL := Lib.hid hl
  have H8 := Lib.hid h8
  clear hl hr h8
  go_enter Tryd.func48, Tryd.ntmps48
  go_wp2
  go_loopw [3, 4, 5] (fun v i _ wr => ∃ (q m c3 : Nat) (A3 : Option Addr), q ≤ n ∧ i = .int .i64 q ∧ v = .slice A3 m c3 ∧ m = 8 * q ∧ Own wr w.heap.size 4 1 A3 m c3 ((bitsB (b.take q)).map .bool) ∧ Keep Never w wr)
    (fun _ i _ _ => n - (intOf i).toNat)
  case atStart => exact ⟨0, 0, 0, none, by omega, rfl, rfl, rfl, by simpa [bitsB] using Own.nil _ _ _ _, Keep.refl _ _⟩
  case round =>
    obtain ⟨q, m, c3, A3, hq, rfl, rfl, hm, hown, hk⟩ := hrel
    have Hm := Lib.hid hm
    have Ho := Lib.hid hown
    clear hown hm
    by_cases h0 : q < n
    · go_wp2
      go_loopw [3, 5] (fun v i wr' => ∃ (j m3 c3 : Nat) (A3 : Option Addr), j ≤ 8 ∧ i = .int .i64 ((j : Int) - 1) ∧ v = .slice A3 m3 c3 ∧ m3 = 8 * q + (8 - j) ∧ Own wr' w.heap.size 4 1 A3 m3 c3 ((bitsB (b.take q) ++ (bitsOf (b[q]?.getD 0) 8).take (8 - j)).map .bool) ∧ Keep Never w wr')
        (fun _ i _ => (intOf i + 1).toNat)
      case atStart => exact ⟨8, m, c3, A3, by omega, by simp, rfl, by have := Hm.out; omega, by simpa using Ho.out, hk⟩
      case round =>
        obtain ⟨j, m3, c4, A4, hj, rfl, rfl, hm3, hown, hk'⟩ := hrel
        have Hm3 := Lib.hid hm3
        have Ho3 := Lib.hid hown
        clear hm3 hown
        by_cases hj0 : 1 ≤ j
        · obtain ⟨i, rfl⟩ : ∃ i, j = i + 1 := ⟨j - 1, by omega⟩
          obtain ⟨ad, x, rfl, _, hx, hcell⟩ := (hRd.out.keep hk' (by intro k h; cases h)).at1 h0
          have hx8 : x < 256 := H8.out x (List.mem_of_getElem? hx)
          have hx0 : b[q]?.getD 0 = x := by rw [hx]; rfl
          have hp1 := pow_pos' i
          have hb := bit_int x i
          have htk := bitsOf_take x 8 i (by omega)
          have Hb := Lib.hid hb
          have Htk := Lib.hid htk
          have HX := Lib.hid hx
          have HX0 := Lib.hid hx0
          generalize hp : ((2 ^ i : Nat) : Int) = p at *
          have HP := Lib.hid hp
          have hq1 : 0 ≤ (x : Int) / p := Int.ediv_nonneg (by omega) (by omega)
          have hq2 : (x : Int) / p ≤ 255 := Int.le_trans (Int.ediv_le_self _ (by omega)) (by omega)
          clear hb htk hp hx hx0
          simp only [u8v] at hcell
          go_wp2
          have Hl9 : Hid (m3 ≤ 8 * n) := by have := Hm3.out; show m3 ≤ 8 * n; omega
          have hs0 := hk'.size
          have hnr : ¬ InRow A4 ad.block := fun e => by have := (Ho3.out.row e).1; omega
          have Hnr := Lib.hid hnr
          clear hnr
          have hq0 : ¬ p = 0 := by omega
          have hq5 : IntKind.i64.wrap (x : Int) = x := IntWalk.i64_in _ ⟨by omega, by omega⟩
          have hq3 := wrap_tdiv (x := (x : Int)) (p := p) (by omega) hp1 (by omega)
          have hq4 : ((x : Int) / p).tmod 2 = (x : Int) / p % 2 := Int.tmod_eq_emod_of_nonneg hq1
          have hq6 : IntKind.i64.wrap ((x : Int) / p) = (x : Int) / p := IntWalk.i64_in _ ⟨by omega, by omega⟩
          go_region_held3 (fun w' => w'.cell? (ad.add q) = some (.int .u8 x)) (first | go_keep | (rw [hk5.cell (by simp [block_add]; omega) (by rw [block_add]; exact Hnr.out)]; go_keep))
            (first
              | (go_at_call 63; refine (power_any' i (by omega) p HP.out _).mono ?_; rintro e w' ⟨rfl, rfl⟩)
              | (refine step_app _ rfl (.tmp 16) (.tmp 27) _ rfl elemB w.heap.size rfl (Ho3.out.alloc _) _ rfl (Rd.of_blk (n := 1) (cs := [.bool _]) (Blk.new _ _ _) rfl) (by simp [Value.oneCell']) (by have := Hl9.out; omega) (by have := Hl9.out; unfold maxLen; omega) (by simp; omega) ?_; intro A5 c5 w5 hown5 hk5 hrow5))
          go_wp2
          go_roundw
          case rel =>
            refine ⟨i, m3 + 1, c5, A5, by omega, rfl, rfl, by have := Hm3.out; omega, ?_, ?_⟩
            · rw [HX0.out, Htk.out]
              simpa [Hb.out, HX0.out] using hown5
            · exact (hk'.drew.alloc _).then_ hk5 (fun z hz hr => by have := (Ho3.out.row hr).1; omega)
          case measure => simp [intOf]; try omega
        · obtain rfl : j = 0 := by omega
          have hsn : b.take (q + 1) = b.take q ++ [b[q]?.getD 0] := by
            have := HL.out
            rw [List.take_succ_eq_append_getElem (by omega)]
            simp [show q < b.length by omega]
          have Hsn := Lib.hid hsn
          clear hsn
          go_wp2
          go_roundw
          case rel =>
            refine ⟨q + 1, m3, c4, A4, by omega, by go_num, rfl, by have := Hm3.out; omega, ?_, hk'⟩
            have h1 := Ho3.out
            have e1 : (bitsOf (b[q]?.getD 0) 8).take (8 - 0) = bitsOf (b[q]?.getD 0) 8 := List.take_of_length_le (by rw [length_bitsOf]; omega)
            rw [e1] at h1
            rw [Hsn.out, show bitsB (b.take q ++ [b[q]?.getD 0]) = bitsB (b.take q) ++ bitsOf (b[q]?.getD 0) 8 by simp [bitsB]]
            exact h1
          case measure => simp [intOf]; try omega
    · obtain rfl : q = n := by omega
      go_wp2
      go_ret
      have e1 : b.take q = b := List.take_of_length_le (by rw [HL.out]; omega)
      refine ⟨A3, m, c3, rfl, by rw [HL.out]; exact Hm.out, Ho.out.cap_le, ?_, hk, fun q hq => (Ho.out.row hq).1⟩
      have := Ho.out.rd
      rwa [e1] at this

end Go.Proofs.YtiebjnibmomcjaaDoor
