/- Walks of package bits: Reader. -/
import Derived.Test.YtiebjnibmomcjaaDoorBitsW
namespace Go.Proofs.YtiebjnibmomcjaaDoor
open Go.RowKit

/-- block p is a Reader over b that has taken 'at_' bits -/
def RdAt (w : World) (B H p : Nat) (b : List Nat) (at_ : Nat) : Prop :=
  ∃ A c, Blk w p 107 #[.slice A b.length c, .int .i64 at_] ∧ Own w B 5 1 A b.length c (b.map u8v) ∧ (∀ x ∈ b, x < 256) ∧ at_ ≤ 8 * b.length ∧ b.length ≤ 1000000 ∧ B ≤ p ∧ p < H ∧ (∀ q, InRow A q → q < H)

/-- what Read leaves -/
def WRead (w : World) (b : List Nat) (e : Ending) (w' : World) : Prop :=
  ∃ p, e = .returned (.pointer (some ⟨p, 0, none⟩)) ∧ RdAt w' w.heap.size w'.heap.size p b 0 ∧ Keep Never w w'

set_option maxHeartbeats 400000 in
theorem read_any (A : Option Addr) (n c B : Nat) (b : List Nat) (hl : b.length = n) (w : World) (hr : Rd w B 1 A n (b.map u8v)) (h8 : ∀ x ∈ b, x < 256) (hn : n ≤ 1000000) :
    Calls Tryd.prog 42 #[.slice A n c] w (WRead w b) := by
  have hmk := mk_u8 n (by omega)
  have Hr := Lib.hid hr
  have Hl := Lib.hid hl
  have H8 := Lib.hid h8
  have h1s := Lib.hid (ones_u8 b)
  have hsz := Lib.hid (size_zerosU8 n)
  clear hr hl h8
  go_enter Tryd.func42, Tryd.ntmps42
  go_wp2_with (with_reducible refine wpList_cpy rfl (.tmp 12) (.tmp 13) _ rfl elemU rfl ((Blk.new _ _ _).alloc _) hsz.out rfl B ((Hr.out.alloc _).alloc _) h1s.out ?_; intro w2 hb2 hk2)
  have hbr := (Blk.new (w.alloc (.cells (zerosU8 n) 5)) 107 #[.slice (some ⟨w.heap.size, 0, none⟩) n n, .int .i64 0]).keep hk2 (by simp)
  have Hbr := Lib.hid hbr
  clear hbr
  go_ret
  have hk : Keep Never w w2 := (((Keep.refl _ w).alloc _).alloc _).then_ hk2 (fun i hi e => by omega)
  refine ⟨w.heap.size + 1, rfl, ⟨some ⟨w.heap.size, 0, none⟩, n, ?_, ?_, H8.out, by omega, by rw [Hl.out]; exact hn, by omega, by have := Hbr.out.lt; simpa using this, ?_⟩, hk⟩
  · have := Hbr.out
    rw [Hl.out]
    simpa using this
  · rw [Hl.out]
    exact Own.of_blk hb2.out (by simp [Hl.out]) (by unfold maxLen; omega) (Nat.le_refl _)
  · rintro q ⟨ad, h1, rfl⟩
    injection h1 with h1
    subst h1
    exact hb2.out.lt

set_option maxHeartbeats 400000 in
theorem left_any (B H p : Nat) (b : List Nat) (k : Nat) (w : World) (hw : RdAt w B H p b k) :
    Calls Tryd.prog 82 #[.pointer (some ⟨p, 0, none⟩)] w fun e w' => e = .returned (.int .i64 ((8 * b.length - k : Nat) : Int)) ∧ ∃ q, w' = w.drewN q := by
  obtain ⟨A, c, hb, ho, h8, hl, hn, hB, _, _⟩ := hw
  have hc0 : w.cell? ⟨p, 0, none⟩ = some (.slice A b.length c) := hb.cell 0
  have hc1 : w.cell? ⟨p, 1, none⟩ = some (.int .i64 k) := hb.cell 1
  have g1 : IntKind.i64.wrap (8 * (b.length : Int)) = 8 * (b.length : Int) := IntWalk.i64_in _ ⟨by omega, by omega⟩
  have g2 : IntKind.i64.wrap (8 * (b.length : Int) - k) = ((8 * b.length - k : Nat) : Int) := by rw [IntWalk.i64_in _ ⟨by omega, by omega⟩]; omega
  clear hb ho h8
  go_enter Tryd.func82, Tryd.ntmps82
  go_wp2
  go_quiet (fail)
  go_wp2
  go_ret
  exact ⟨rfl, _, rfl⟩
set_option maxHeartbeats 400000 in
theorem left_nil (w : World) :
    Calls Tryd.prog 82 #[.pointer none] w fun e w' => e = .returned (.int .i64 0) ∧ w = w' := by
  go_enter Tryd.func82, Tryd.ntmps82
  go_wp2
  go_ret
  exact ⟨rfl, rfl⟩
set_option maxHeartbeats 400000 in
theorem at_any (B H p : Nat) (b : List Nat) (k : Nat) (w : World) (hw : RdAt w B H p b k) :
    Calls Tryd.prog 45 #[.pointer (some ⟨p, 0, none⟩)] w fun e w' => e = .returned (.int .i64 k) ∧ w = w' := by
  obtain ⟨A, c, hb, ho, h8, hl, hn, hB, _, _⟩ := hw
  have hc1 : w.cell? ⟨p, 1, none⟩ = some (.int .i64 k) := hb.cell 1
  clear hb ho h8
  go_enter Tryd.func45, Tryd.ntmps45
  go_wp2
  go_ret
  exact ⟨rfl, rfl⟩
set_option maxHeartbeats 400000 in
theorem at_nil (w : World) :
    Calls Tryd.prog 45 #[.pointer none] w fun e w' => e = .returned (.int .i64 0) ∧ w = w' := by
  go_enter Tryd.func45, Tryd.ntmps45
  go_wp2
  go_ret
  exact ⟨rfl, rfl⟩

theorem RdAt.keep {w w' : World} {B H p : Nat} {b : List Nat} {k : Nat} {S : Nat → Prop} (h : RdAt w B H p b k) (hk : Keep S w w') (hS : ∀ q, S q → q < B ∨ H ≤ q) : RdAt w' B H p b k := by
  obtain ⟨A, c, hb, ho, h8, hl, hn, hB, hp, hr⟩ := h
  exact ⟨A, c, hb.keep hk (fun e => by have := hS _ e; omega), ho.keep hk (fun q hq e => by have := (ho.row hq).1; have := hr _ hq; have := hS _ e; omega), h8, hl, hn, hB, hp, hr⟩
theorem RdAt.drewN {w : World} {B H p : Nat} {b : List Nat} {k : Nat} (h : RdAt w B H p b k) (n : Nat) : RdAt (w.drewN n) B H p b k := h
/-- the bits that are left -/
def leftB (b : List Nat) (k : Nat) : List Bool := (bitsB b).drop k
theorem length_leftB (b : List Nat) (k : Nat) : (leftB b k).length = 8 * b.length - k := by rw [leftB, List.length_drop, length_bitsB]
theorem bitAt_leftB (b : List Nat) (k i : Nat) : bitAt (leftB b k) i = bitAt (bitsB b) (k + i) := by simp [bitAt, leftB]

/-- what Get leaves -/
def WGet (w : World) (B H p : Nat) (b : List Nat) (k : Nat) (width : Int) (e : Ending) (w' : World) : Prop :=
  e = .returned (.tuple #[.int .i64 (getN (leftB b k) width), .int .i64 (getE (leftB b k).length width)]) ∧ RdAt w' B H p b (k + if getE (leftB b k).length width = 0 then width.toNat else 0) ∧ Keep (fun q => q = p) w w'

set_option maxHeartbeats 400000 in
theorem get_bad (a : Option Addr) (width : Int) (h : width < 1 ∨ 32 < width) (w : World) :
    Calls Tryd.prog 68 #[.pointer a, .int .i64 width] w fun e w' => e = .returned (.tuple #[.int .i64 0, .int .i64 1]) ∧ w = w' := by
  rcases h with h | h
  · go_enter Tryd.func68, Tryd.ntmps68
    go_wp2_with fail
    go_ret2
    exact ⟨rfl, rfl⟩
  · have h' : ¬ width < 1 := by omega
    go_enter Tryd.func68, Tryd.ntmps68
    go_wp2_with fail
    go_ret2
    exact ⟨rfl, rfl⟩
set_option maxHeartbeats 400000 in
theorem get_nil (width : Int) (h1 : 1 ≤ width) (h2 : width ≤ 32) (w : World) :
    Calls Tryd.prog 68 #[.pointer none, .int .i64 width] w fun e w' => e = .returned (.tuple #[.int .i64 0, .int .i64 10]) ∧ w = w' := by
  go_enter Tryd.func68, Tryd.ntmps68
  go_wp2_with (go_at_call 82; refine (left_nil _).mono ?_; rintro e w' ⟨rfl, rfl⟩)
  go_ret2
  exact ⟨rfl, rfl⟩
set_option maxHeartbeats 400000 in
theorem get_short (B H p : Nat) (b : List Nat) (k : Nat) (width : Int) (h1 : 1 ≤ width) (h2 : width ≤ 32) (hs : ((8 * b.length - k : Nat) : Int) < width) (w : World) (hw : RdAt w B H p b k) :
    Calls Tryd.prog 68 #[.pointer (some ⟨p, 0, none⟩), .int .i64 width] w fun e w' => e = .returned (.tuple #[.int .i64 0, .int .i64 10]) ∧ ∃ q, w' = w.drewN q := by
  have Hw := Lib.hid hw
  clear hw
  generalize hm : 8 * b.length - k = m at *
  have Hm := Lib.hid hm
  clear hm
  go_enter Tryd.func68, Tryd.ntmps68
  go_wp2_with (go_at_call 82; refine (left_any B H p b k _ Hw.out).mono ?_; rw [Hm.out]; rintro e w' ⟨rfl, q, rfl⟩)
  go_ret2
  exact ⟨rfl, _, rfl⟩

set_option maxHeartbeats 1000000 in
theorem get_ok (B H p : Nat) (b : List Nat) (k m : Nat) (h1 : 1 ≤ m) (h2 : m ≤ 32) (hs : k + m ≤ 8 * b.length) (w : World) (hw : RdAt w B H p b k) (_hB : B ≤ w.heap.size) :
    Calls Tryd.prog 68 #[.pointer (some ⟨p, 0, none⟩), .int .i64 m] w fun e w' => e = .returned (.tuple #[.int .i64 (numOf ((leftB b k).take m) : Nat), .int .i64 0]) ∧ RdAt w' B H p b (k + m) ∧ Keep (fun q => q = p) w w' := by
  have Hw := Lib.hid hw
  have hlk : (m : Int) ≤ ((8 * b.length - k : Nat) : Int) := by omega
  have hbl : b.length ≤ 1000000 := hw.choose_spec.choose_spec.2.2.2.2.1
  clear hw
  generalize hm : 8 * b.length - k = l at *
  have Hm := Lib.hid hm
  clear hm
  go_enter Tryd.func68, Tryd.ntmps68
  go_wp2_with (go_at_call 82; refine (left_any B H p b k _ Hw.out).mono ?_; rw [Hm.out]; rintro e w' ⟨rfl, q, rfl⟩)
  go_loopw [6, 18] (fun n i wr => ∃ j : Nat, j ≤ m ∧ i = .int .i64 j ∧ n = .int .i64 (numOf ((leftB b k).take j) : Nat) ∧ Hid (RdAt wr B H p b (k + j)) ∧ Keep (fun q => q = p) w wr)
    (fun _ i _ => m - (intOf i).toNat)
  case atStart => exact ⟨0, by omega, rfl, by simp [numOf], Hw.out.drewN q, (Keep.refl _ _).drewN q⟩
  case round =>
    obtain ⟨j, hj, rfl, rfl, hrd, hk⟩ := hrel
    have hle := numOf_le32 ((leftB b k).take j) (k := 32) (by omega) (by rw [List.length_take]; omega)
    by_cases hjm : j < m
    · obtain ⟨A, c, hb, ho, h8, hl2, hn2, hB2, hH2, hR2⟩ := hrd.out
      have HR2 := Lib.hid hR2
      clear hR2
      have hc0 : wr.cell? ⟨p, 0, none⟩ = some (.slice A b.length c) := hb.cell 0
      have hc1 : wr.cell? ⟨p, 1, none⟩ = some (.int .i64 ((k + j : Nat) : Int)) := hb.cell 1
      have hf1 : wr.frozen? ⟨p, 1, none⟩ = false := hb.frozen 1
      obtain ⟨q, hqe⟩ : ∃ q, q = (k + j) / 8 := ⟨_, rfl⟩
      obtain ⟨r, hre⟩ : ∃ r, r = (k + j) % 8 := ⟨_, rfl⟩
      obtain ⟨s, hse⟩ : ∃ s, s = 7 - r := ⟨_, rfl⟩
      obtain ⟨ad, x, rfl, _, hx, hcell⟩ := ho.rd.at1 (k := q) (by omega)
      have hx8 : x < 256 := h8 x (List.mem_of_getElem? hx)
      have hbit : bitAt (leftB b k) j = bitOf x s := by
        rw [bitAt_leftB, show k + j = 8 * q + r by omega, bitAt_bitsB b q r x (by omega) hx, hse]
      have htk := take_bit (leftB b k) j (by rw [length_leftB]; omega)
      have hns := numOf_snoc ((leftB b k).take j) (bitAt (leftB b k) j)
      rw [← htk, hbit] at hns
      have Hns := Lib.hid hns
      have Hhb := Lib.hid hb
      have Hho := Lib.hid ho
      have H8 := Lib.hid h8
      obtain ⟨t, hte⟩ : ∃ t : Int, t = ((k + j : Nat) : Int) := ⟨_, rfl⟩
      rw [← hte] at hc1
      have g0 : 0 ≤ t := by omega
      have g1 : IntKind.i64.wrap (t / 8) = (q : Int) := by rw [IntWalk.i64_in _ ⟨by omega, by omega⟩]; omega
      have g1' : IntKind.i64.wrap (t.tdiv 8) = (q : Int) := by rw [Int.tdiv_eq_ediv_of_nonneg g0, IntWalk.i64_in _ ⟨by omega, by omega⟩]; omega
      have g2 : t.tmod 8 = (r : Int) := by rw [Int.tmod_eq_emod_of_nonneg g0]; omega
      have g3 : t % 8 = (r : Int) := by omega
      have g4 : IntKind.i64.wrap (7 - (r : Int)) = (s : Int) := by rw [IntWalk.i64_in _ ⟨by omega, by omega⟩]; omega
      have g5 : (q : Int) < (b.length : Int) := by omega
      have g6 : IntKind.i64.wrap ((numOf ((leftB b k).take j) : Int) * 2) = (numOf ((leftB b k).take j) : Int) * 2 := IntWalk.i64_in _ ⟨by omega, by omega⟩
      have g7 := byte_bit x s hx8
      have g8 : IntKind.i64.wrap ((bitOf x s).toNat : Int) = ((bitOf x s).toNat : Int) := IntWalk.i64_in _ (by cases bitOf x s <;> simp)
      have g9 := or_bit (numOf ((leftB b k).take j)) (bitOf x s) hle
      have g10 : t ≤ 8000000 := by omega
      have hs8 : s ≤ 7 := by omega
      rw [← Hns.out] at g9
      have Ht := Lib.hid hte
      simp only [u8v] at hcell
      clear hns hb ho h8 hte hqe hre hse hbit htk hx
      go_wp2
      go_quiet (fail)
      go_wp2
      go_roundw
      case rel =>
        refine ⟨j + 1, by omega, by go_num, rfl, ?_, (hk.drewN nq).set_ (.inl rfl) _⟩
        refine ⟨some ad, c, ?_, ?_, H8.out, by omega, hn2, hB2, hH2, HR2.out⟩
        · have := (Hhb.out.drewN nq).set_ 1 (.int .i64 (t + 1))
          have e : (t + 1) = ((k + (j + 1) : Nat) : Int) := by rw [Ht.out]; omega
          rw [← e]
          simpa using this
        · exact (Hho.out.drewN nq).far (p := ⟨p, 1, none⟩) (fun z hz => Hho.out.ne_blk Hhb.out (by decide) z hz) _
      case measure => simp [intOf]; try omega
    · obtain rfl : j = m := by omega
      go_wp2
      go_ret2
      exact ⟨rfl, hrd.out, hk⟩

theorem get_any (B H p : Nat) (b : List Nat) (k : Nat) (width : Int) (w : World) (hw : RdAt w B H p b k) (hB : B ≤ w.heap.size) :
    Calls Tryd.prog 68 #[.pointer (some ⟨p, 0, none⟩), .int .i64 width] w (WGet w B H p b k width) := by
  by_cases h : width < 1 ∨ 32 < width
  · refine (get_bad _ width h w).mono ?_
    rintro e w' ⟨rfl, rfl⟩
    have e1 : getN (leftB b k) width = 0 := by rw [getN, if_pos (by omega)]
    have e2 : getE (leftB b k).length width = 1 := by rw [getE, if_pos h]
    exact ⟨by rw [e1, e2], by rw [e2]; exact hw, Keep.refl _ _⟩
  · by_cases hs : ((8 * b.length - k : Nat) : Int) < width
    · refine (get_short B H p b k width (by omega) (by omega) hs w hw).mono ?_
      rintro e w' ⟨rfl, q, rfl⟩
      have e1 : getN (leftB b k) width = 0 := by rw [getN, if_pos (by rw [length_leftB]; omega)]
      have e2 : getE (leftB b k).length width = 10 := by rw [getE, if_neg h, if_pos (by rw [length_leftB]; exact hs)]
      exact ⟨by rw [e1, e2], by rw [e2]; exact hw.drewN q, (Keep.refl _ _).drewN q⟩
    · obtain ⟨m, rfl⟩ : ∃ m : Nat, width = m := ⟨width.toNat, by omega⟩
      have hle : k ≤ 8 * b.length := hw.choose_spec.choose_spec.2.2.2.1
      refine (get_ok B H p b k m (by omega) (by omega) (by omega) w hw hB).mono ?_
      rintro e w' ⟨rfl, h1, h2⟩
      have e1 : getN (leftB b k) m = numOf ((leftB b k).take m) := by rw [getN, if_neg (by rw [length_leftB]; omega), Int.toNat_natCast]
      have e2 : getE (leftB b k).length m = 0 := by rw [getE, if_neg h, if_neg (by rw [length_leftB]; exact hs)]
      exact ⟨by rw [e1, e2], by rw [e2, if_pos rfl, Int.toNat_natCast]; exact h1, h2⟩

end Go.Proofs.YtiebjnibmomcjaaDoor
