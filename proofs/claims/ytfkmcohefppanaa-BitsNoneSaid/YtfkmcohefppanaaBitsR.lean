/- Walks of the reference of layer 1. -/
import Derived.Test.YtfkmcohefppanaaBitsM
namespace Go.Proofs.Ytfkmcohefppanaa
open Go.RowKit

set_option maxHeartbeats 400000 in
theorem power_any (n : Nat) (hn : n ≤ 32) (w : World) :
    Calls Try.prog 23 #[.int .i64 n] w fun e w' => e = .returned (.int .i64 ((2 ^ n : Nat) : Int)) ∧ w = w' := by
  go_enter Try.func23, Try.ntmps23
  go_wp2
  go_loop [3, 4] (fun p i => ∃ k : Nat, k ≤ n ∧ i = .int .i64 k ∧ p = .int .i64 ((2 ^ k : Nat) : Int)) (fun _ i => n - (intOf i).toNat)
  case atStart => exact ⟨0, Nat.zero_le _, rfl, rfl⟩
  case round =>
    obtain ⟨k, hk, rfl, rfl⟩ := hrel
    have h1 := pow_pos' k
    have h2 := pow_le32 (k := k) (by omega)
    have h3 : ((2 ^ (k + 1) : Nat) : Int) = ((2 ^ k : Nat) : Int) * 2 := by rw [Nat.pow_succ]; omega
    have H3 := Lib.hid h3; clear h3
    generalize hp : ((2 ^ k : Nat) : Int) = p at *
    have HP := Lib.hid hp; clear hp
    go_wp2
    · go_round
      case rel => exact ⟨k + 1, by omega, by go_num, by rw [H3.out]⟩
      case measure => simp [intOf]; omega
    · have : k = n := by omega
      subst this
      go_ret
      exact ⟨ret_int HP.out.symm, rfl⟩

theorem power_any' (n : Nat) (hn : n ≤ 32) (p : Int) (hp : ((2 ^ n : Nat) : Int) = p) (w : World) :
    Calls Try.prog 23 #[.int .i64 n] w fun e w' => e = .returned (.int .i64 p) ∧ w = w' := by
  subst hp; exact power_any n hn w

set_option maxHeartbeats 400000 in
theorem may_any (n width : Int) (w : World) :
    Calls Try.prog 22 #[.int .i64 n, .int .i64 width] w fun e w' => e = .returned (.bool (mayB n width)) ∧ w = w' := by
  by_cases hw : width < 1 ∨ 32 < width
  · have hm : mayB n width = false := by simp [mayB]; omega
    rw [hm]
    go_enter Try.func22, Try.ntmps22
    rcases hw with hw | hw
    all_goals
      go_wp2
      go_ret
      exact ⟨rfl, rfl⟩
  · obtain ⟨k, rfl⟩ : ∃ k : Nat, width = k := ⟨width.toNat, by omega⟩
    have h1 : 1 ≤ (k : Int) := by omega
    have h2 : (k : Int) ≤ 32 := by omega
    clear hw
    by_cases h0 : 0 ≤ n
    · have hm : mayB n k = decide (n < ((2 ^ k : Nat) : Int)) := by
        rw [Bool.eq_iff_iff, mayB_iff]; simp; omega
      rw [hm]
      go_enter Try.func22, Try.ntmps22
      go_wp2_with (go_at_call 23; refine (power_any k (by omega) _).mono ?_; rintro e w' ⟨rfl, rfl⟩)
      go_ret
      exact ⟨rfl, rfl⟩
    · have hm : mayB n k = false := by simp [mayB]; omega
      rw [hm]
      go_enter Try.func22, Try.ntmps22
      go_wp2
      go_ret
      exact ⟨rfl, rfl⟩

theorem elemB : Elem Try.prog 28 4 1 1 := ⟨Try.underlying28, _, _, rfl, rfl, rfl, rfl, rfl, by omega⟩
theorem elemU : Elem Try.prog 25 5 1 1 := ⟨Try.underlying25, _, _, rfl, rfl, rfl, rfl, rfl, by omega⟩

/-- what the document's Put leaves -/
def RPut (w : World) (A : Option Addr) (l : List Bool) (x width : Int) (e : Ending) (w' : World) : Prop :=
  ∃ A' n' c', e = .returned (.tuple #[.slice A' n' c', .int .i64 (putE l.length x width)]) ∧ n' = (putL l x width).length ∧ n' ≤ 8184 ∧ Rd w' w'.heap.size 1 A' n' ((putL l x width).map .bool) ∧ Keep Never w w' ∧ (∀ q, InRow A' q → InRow A q ∨ (w.heap.size ≤ q ∧ q < w'.heap.size))

theorem bit_int (xn j : Nat) : ((xn : Int) / ((2 ^ j : Nat) : Int) % 2 == 1) = bitOf xn j := by
  unfold bitOf
  rw [Bool.eq_iff_iff]
  simp only [beq_iff_eq]
  omega

set_option maxHeartbeats 400000 in
theorem rput_any (A : Option Addr) (n c B : Nat) (l : List Bool) (hl : l.length = n) (w : World) (hr : Rd w B 1 A n (l.map .bool)) (hn : n ≤ 8184) (x width : Int) (hx : x ≤ 9223372036854775807) :
    Calls Try.prog 11 #[.slice A n c, .int .i64 x, .int .i64 width] w (RPut w A l x width) := by
  by_cases hm : mayB x width = false
  · have he : putE n x width = 1 := by simp [putE, hm]
    have hp : putL l x width = l := by simp [putL, hl, he]
    have hfin : ∀ w', w = w' → RPut w A l x width (.returned (.tuple #[.slice A n c, .int .i64 1])) w' := by
      rintro _ rfl
      exact ⟨A, n, c, by rw [hl, he], by rw [hp, hl], hn, by rw [hp]; exact hr.at_heap (by omega), Keep.refl _ _, fun _ h => .inl h⟩
    have H := Lib.hid hfin
    clear hfin he hp hr
    go_enter Try.func11, Try.ntmps11
    go_wp2_with (go_at_call 22; refine (may_any x width _).mono ?_; rintro e w' ⟨rfl, rfl⟩)
    go_ret2
    exact H.out _ rfl
  · have hm : mayB x width = true := by simpa using hm
    obtain ⟨h1, h2, h3, h4⟩ := mayB_iff.1 hm
    obtain ⟨k, rfl⟩ : ∃ k : Nat, width = k := ⟨width.toNat, by omega⟩
    obtain ⟨xn, rfl⟩ : ∃ k : Nat, x = k := ⟨x.toNat, by omega⟩
    have hput : ∀ e : Int, putE l.length xn k = e → e = if 8184 < (n : Int) + k then 2 else 0 := by
      intro e h; rw [← h]; simp [putE, hm, hl]
    by_cases hf : 8184 < (n : Int) + k
    · have he : putE l.length xn k = 2 := by rw [hput _ rfl, if_pos hf]
      have hp : putL l xn k = l := by simp [putL, he]
      have hfin : ∀ w', w = w' → RPut w A l xn k (.returned (.tuple #[.slice A n c, .int .i64 2])) w' := by
        rintro _ rfl
        exact ⟨A, n, c, by rw [he], by rw [hp, hl], hn, by rw [hp]; exact hr.at_heap (by omega), Keep.refl _ _, fun _ h => .inl h⟩
      have H := Lib.hid hfin
      clear hfin he hp hr hput
      go_enter Try.func11, Try.ntmps11
      go_wp2_with (go_at_call 22; refine (may_any xn k _).mono ?_; rintro e w' ⟨rfl, rfl⟩)
      go_ret2
      exact H.out _ rfl
    · have he : putE l.length xn k = 0 := by rw [hput _ rfl, if_neg hf]
      have hp : putL l xn k = l ++ bitsOf xn k := by simp [putL, he]
      have hlb := length_bitsOf xn k
      have hnk : n + k ≤ 8184 := by omega
      have HL := Lib.hid hl
      have hRd := Lib.hid hr
      have Hp := Lib.hid hp
      have He := Lib.hid he
      have Hlb := Lib.hid hlb
      have h1s : Hid (∀ u ∈ l.map Value.bool, u.oneCell' = true) := by intro u hu; obtain ⟨b, _, rfl⟩ := List.mem_map.1 hu; rfl
      clear hl hr hp he hput hlb
      go_enter Try.func11, Try.ntmps11
      go_wp2_with (first
        | (go_at_call 22; refine (may_any xn k _).mono ?_; rintro e w' ⟨rfl, rfl⟩)
        | (at_builtin; refine wpList_app _ rfl (.const (.slice none 0 0)) (.tmp 23) _ rfl elemB w.heap.size rfl (Own.nil _ _ _ _) B rfl hRd.out h1s.out (by omega) (by unfold maxLen; omega) (Nat.le_refl _) ?_; intro A2 c2 w2 hown2 hk2 hrow2))
      have hk0 : Keep Never w w2 := hk2.mono (fun i _ h => by obtain ⟨ad, h, _⟩ := h; cases h)
      clear hk2 hrow2
      go_loopw [9, 10] (fun v i wr => ∃ (j m c3 : Nat) (A3 : Option Addr), j ≤ k ∧ i = .int .i64 ((j : Int) - 1) ∧ v = .slice A3 m c3 ∧ m = n + (k - j) ∧ Own wr w.heap.size 4 1 A3 m c3 ((l ++ (bitsOf xn k).take (k - j)).map .bool) ∧ Keep Never w wr)
        (fun _ i _ => (intOf i + 1).toNat)
      case atStart =>
        refine ⟨k, n, c2, A2, Nat.le_refl _, rfl, rfl, by omega, ?_, hk0⟩
        have e1 : k - k = 0 := by omega
        rw [e1]; simpa using hown2
      case round =>
        obtain ⟨j, m, c3, A3, hj, rfl, rfl, hm3, hown, hk⟩ := hrel
        have Hm := Lib.hid hm3
        have Ho := Lib.hid hown
        clear hm3 hown
        have Hl9 : Hid (m ≤ 8184) := by have := Hm.out; show m ≤ 8184; omega
        by_cases h0 : 1 ≤ j
        · obtain ⟨i, rfl⟩ : ∃ i, j = i + 1 := ⟨j - 1, by omega⟩
          have hp1 := pow_pos' i
          have hs0 := hk.size
          have hb := bit_int xn i
          have htk := bitsOf_take xn k i (by omega)
          have Hb := Lib.hid hb
          have Htk := Lib.hid htk
          generalize hp : ((2 ^ i : Nat) : Int) = p at *
          have HP := Lib.hid hp
          have hq1 : 0 ≤ (xn : Int) / p := Int.ediv_nonneg (by omega) (by omega)
          have hq2 : (xn : Int) / p ≤ 9223372036854775807 := Int.le_trans (Int.ediv_le_self _ (by omega)) hx
          clear hb htk hp
          go_wp2_with (first
            | (go_at_call 23; refine (power_any' i (by omega) p HP.out _).mono ?_; rintro e w' ⟨rfl, rfl⟩)
            | (at_builtin; refine wpList_app _ rfl (.tmp 31) (.tmp 38) _ rfl elemB w.heap.size rfl (Ho.out.alloc _) _ rfl (Rd.of_blk (n := 1) (cs := [.bool _]) (Blk.new _ _ _) rfl) (by simp [Value.oneCell']) (by have := Hl9.out; omega) (by have := Hl9.out; unfold maxLen; omega) (by simp; omega) ?_; intro A4 c4 w4 hown4 hk4 hrow4))
          go_roundw
          case rel =>
            refine ⟨i, m + 1, c4, A4, by omega, rfl, rfl, by have := Hm.out; omega, ?_, ?_⟩
            · rw [Htk.out]
              simpa [Hb.out] using hown4
            · exact (hk.alloc _).then_ hk4 (fun q hq hr => by have := (Ho.out.row hr).1; omega)
          case measure => simp [intOf]; try omega
        · have : j = 0 := by omega
          subst this
          go_wp2
          go_ret2
          refine ⟨A3, m, c3, by rw [He.out]; rfl, ?_, Hl9.out, ?_, hk, fun q hq => .inr (Ho.out.row hq)⟩
          · rw [Hp.out]; have := Hm.out; simp [Hlb.out, HL.out]; try omega
          · rw [Hp.out]
            have e1 : (bitsOf xn k).take (k - 0) = bitsOf xn k := List.take_of_length_le (by rw [Hlb.out]; omega)
            have := Ho.out.rd
            rwa [e1] at this

/-- what the document's Bytes leaves -/
def RBytes (w : World) (l : List Bool) (e : Ending) (w' : World) : Prop :=
  ∃ A' n' c', e = .returned (.slice A' n' c') ∧ n' = (bytesOf l).length ∧ Rd w' w'.heap.size 1 A' n' ((bytesOf l).map u8v) ∧ Keep Never w w'

set_option maxHeartbeats 400000 in
theorem rbytes_any (A : Option Addr) (n c B : Nat) (l : List Bool) (hl : l.length = n) (w : World) (hr : Rd w B 1 A n (l.map .bool)) (hB : B ≤ w.heap.size) (hn : n ≤ 1000000) :
    Calls Try.prog 15 #[.slice A n c] w (RBytes w l) := by
  have hRd := Lib.hid hr
  have HL := Lib.hid hl
  clear hl hr
  go_enter Try.func15, Try.ntmps15
  go_wp2
  go_loopw [3, 4, 5, 6] (fun v i _ _ wr => ∃ (q m c3 : Nat) (A3 : Option Addr), 8 * q ≤ n + 7 ∧ i = .int .i64 ((8 * q : Nat) : Int) ∧ v = .slice A3 m c3 ∧ m = q ∧ Own wr w.heap.size 5 1 A3 m c3 ((bytesTo l q).map u8v) ∧ Keep Never w wr)
    (fun _ i _ _ _ => n + 7 - (intOf i).toNat)
  case atStart => exact ⟨0, 0, 0, none, by omega, rfl, rfl, rfl, by simpa [bytesTo] using Own.nil _ _ _ _, Keep.refl _ _⟩
  case round =>
    obtain ⟨q, m, c3, A3, hq, rfl, rfl, hm, hown, hk⟩ := hrel
    obtain rfl : m = q := hm
    have Ho := Lib.hid hown
    clear hown
    by_cases h0 : 8 * m < n
    · have hh0 : (8 * m : Nat) < (n : Int) := by omega
      go_wp2
      obtain ⟨wo, rfl⟩ : ∃ wo : World, wo = wr := ⟨_, rfl⟩
      go_loop [5, 6] (fun x k => ∃ j : Nat, j ≤ 8 ∧ k = .int .i64 ((8 * m + j : Nat) : Int) ∧ x = .int .i64 (chunk l (8 * m) j : Nat)) (fun _ k => 8 * m + 8 - (intOf k).toNat)
      case atStart => exact ⟨0, by omega, rfl, rfl⟩
      case round =>
        obtain ⟨j, hj, rfl, rfl⟩ := hrel
        have hc := chunk_le l (8 * m) hj
        have hsu : chunk l (8 * m) (j + 1) = 2 * chunk l (8 * m) j + (bitAt l (8 * m + j)).toNat := rfl
        have Hsu := Lib.hid hsu
        clear hsu
        by_cases hj8 : j < 8
        · by_cases hin : 8 * m + j < n
          · obtain ⟨ad, x, rfl, _, hx, hcell⟩ := (hRd.out.keep hk (by intro k h; cases h)).at1 hin
            obtain rfl : bitAt l (8 * m + j) = x := by simp [bitAt, hx]
            have HX := Lib.hid hx
            clear hx
            cases hb : bitAt l (8 * m + j)
            all_goals
              rw [hb] at hcell
              have Hb := Lib.hid hb
              clear hb
              go_wp2
              go_round
              case rel => exact ⟨j + 1, by omega, by go_num, by rw [Hsu.out, Hb.out]; simp; try omega⟩
              case measure => simp [intOf]; try omega
          · have hb : bitAt l (8 * m + j) = false := by have := HL.out; simp [bitAt, List.getElem?_eq_none (show l.length ≤ 8 * m + j by omega)]
            have Hb := Lib.hid hb
            clear hb
            go_wp2
            go_round
            case rel => exact ⟨j + 1, by omega, by go_num, by rw [Hsu.out, Hb.out]; simp; try omega⟩
            case measure => simp [intOf]; try omega
        · obtain rfl : j = 8 := by omega
          have Hq : Hid (m ≤ 1000000) := by show m ≤ 1000000; omega
          have Hs := Lib.hid hk.size
          clear Hsu
          go_wp2_with (first
            | (at_builtin; refine wpList_app _ rfl (.tmp 34) (.tmp 37) _ rfl elemU w.heap.size rfl (Ho.out.alloc _) _ rfl (Rd.of_blk (n := 1) (cs := [.int .u8 _]) (Blk.new _ _ _) rfl) (by simp [Value.oneCell']) (by have := Hq.out; omega) (by have := Hq.out; unfold maxLen; omega) (by have := Hs.out; simp; omega) ?_; intro A4 c4 w4 hown4 hk4 hrow4))
          go_roundw
          case rel =>
            refine ⟨m + 1, m + 1, c4, A4, by omega, by go_num, rfl, rfl, ?_, ?_⟩
            · rw [bytesTo_succ, List.map_append]; exact hown4
            · exact (hk.alloc _).then_ hk4 (fun q hq hr => by have := (Ho.out.row hr).1; omega)
          case measure => simp [intOf]; try omega
    · have hh0 : ¬ (8 * m : Nat) < (n : Int) := by omega
      go_wp2
      go_ret
      have e1 : (l.length + 7) / 8 = m := by have := HL.out; omega
      refine ⟨A3, m, c3, rfl, ?_, ?_, hk⟩
      · rw [bytesOf, e1, length_bytesTo]
      · rw [bytesOf, e1]; exact Ho.out.rd

end Go.Proofs.Ytfkmcohefppanaa
