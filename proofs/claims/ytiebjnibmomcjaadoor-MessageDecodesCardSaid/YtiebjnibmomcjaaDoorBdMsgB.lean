/- Chapter 6: Known, Up, head, values. -/
import Derived.Test.YtiebjnibmomcjaaDoorMsgA
import Derived.Test.YtiebjnibmomcjaaDoorBitsM
namespace Go.Proofs.YtiebjnibmomcjaaDoor
open Go.RowKit

set_option maxHeartbeats 1000000 in
set_option maxRecDepth 100000 in
theorem mknown_any (id : Int) (w : World) : Calls Tryd.prog 14 #[.int .i64 id] w fun e w' => e = .returned (.bool (formM id).isSome) ∧ Keep Never w w' := by
  have HO : Hid (∀ W, Calls Tryd.prog 22 #[.int .i64 id] W fun e w' => ∃ A1 n1 c1 A2 n2 c2 m, e = .returned (.tuple #[.agg #[.slice A1 n1 c1, .int .i64 m, .slice A2 n2 c2], .bool (formM id).isSome]) ∧ Keep Never W w') :=
    fun W => (of_any id W).mono (by rintro e w1 ⟨A1, n1, c1, A2, n2, c2, rfl, hk, _⟩; exact ⟨A1, n1, c1, A2, n2, c2, _, rfl, hk⟩)
  generalize (formM id).isSome = b at HO ⊢
  go_enter Tryd.func14, Tryd.ntmps14
  go_wp2_with fail
  refine (HO.out _).mono ?_
  rintro e w1 ⟨A1, n1, c1, A2, n2, c2, m, rfl, hk⟩
  have HK := Lib.hid (hk.alloc (.cells #[.slice A1 n1 c1, .int .i64 m, .slice A2 n2 c2] 42))
  clear hk
  go_wp2_with fail
  go_ret
  exact ⟨rfl, HK.out⟩

/-- does a message go up? -/
def upM (id : Int) : Bool := (formM id).isSome && decide (129 ≤ id)
set_option maxHeartbeats 1000000 in
set_option maxRecDepth 100000 in
theorem mup_any (id : Int) (w : World) : Calls Tryd.prog 16 #[.int .i64 id] w fun e w' => e = .returned (.bool (upM id)) ∧ Keep Never w w' := by
  have HK : Hid (∀ W, Calls Tryd.prog 14 #[.int .i64 id] W fun e w' => e = .returned (.bool (formM id).isSome) ∧ Keep Never W w') := fun W => mknown_any id W
  have hu : upM id = ((formM id).isSome && decide (129 ≤ id)) := rfl
  rw [hu]
  clear hu
  generalize (formM id).isSome = b at *
  cases b
  · go_enter Tryd.func16, Tryd.ntmps16
    go_wp2_with fail
    refine (HK.out _).mono ?_
    rintro e w1 ⟨rfl, hk⟩
    have HK1 := Lib.hid hk
    clear hk
    go_wp2_with fail
    go_ret
    exact ⟨rfl, HK1.out⟩
  · go_enter Tryd.func16, Tryd.ntmps16
    go_wp2_with fail
    refine (HK.out _).mono ?_
    rintro e w1 ⟨rfl, hk⟩
    have HK1 := Lib.hid hk
    clear hk
    by_cases h : 129 ≤ id
    · go_wp2_with fail
      go_ret
      exact ⟨by simp [h], HK1.out⟩
    · go_wp2_with fail
      go_ret
      exact ⟨by simp, HK1.out⟩

def headM (id : Int) : List Int := if upM id then [2, 9] else [2, 3, 4]
/-- a list of numbers that a function has made -/
def NumsRet (w : World) (l : List Int) (e : Ending) (w' : World) : Prop :=
  ∃ A n c, e = .returned (.slice A n c) ∧ n = l.length ∧ n ≤ c ∧ Rd w' w'.heap.size 1 A n (l.map (.int .i64)) ∧ Keep Never w w'
theorem nums_new {w w0 : World} (hk : Keep Never w0 w) (l : List Int) {m : Nat} (hm : m = l.length) {cs : Array Value} (hcs : cs = (l.map (.int .i64)).toArray) : NumsRet w0 l (.returned (.slice (some ⟨w.heap.size, 0, none⟩) m m)) (w.alloc (.cells cs 3)) := by
  subst hm hcs
  exact ⟨_, _, _, rfl, rfl, Nat.le_refl _, rd_new w l, hk.alloc _⟩

set_option maxHeartbeats 1000000 in
set_option maxRecDepth 100000 in
theorem mhead_any (id : Int) (w : World) : Calls Tryd.prog 26 #[.int .i64 id] w (NumsRet w (headM id)) := by
  have HU : Hid (∀ W, Calls Tryd.prog 16 #[.int .i64 id] W fun e w' => e = .returned (.bool (upM id)) ∧ Keep Never W w') := fun W => mup_any id W
  unfold headM
  generalize upM id = b at *
  cases b
  all_goals
    go_enter Tryd.func26, Tryd.ntmps26
    go_wp2_with fail
    refine (HU.out _).mono ?_
    rintro e w1 ⟨rfl, hk⟩
    have HK1 := Lib.hid hk
    clear hk
    go_wp2_with fail
    go_ret
    exact nums_new HK1.out _ rfl rfl

/-- a message's cells -/
def msgCells (id t ack of_ : Int) (A : Option Addr) (n c : Nat) (B : Option Addr) (k d : Nat) : Array Value := #[.int .i64 id, .int .i64 t, .int .i64 ack, .int .i64 of_, .slice A n c, .slice B k d]
def valuesM (id t ack of_ : Int) : List Int := if upM id then [t, of_] else [t, ack, of_]
set_option maxHeartbeats 1000000 in
set_option maxRecDepth 100000 in
theorem mvalues_any (id t ack of_ : Int) (A : Option Addr) (n c : Nat) (B : Option Addr) (k d : Nat) (w : World) :
    Calls Tryd.prog 25 #[.agg (msgCells id t ack of_ A n c B k d)] w (NumsRet w (valuesM id t ack of_)) := by
  have HU : Hid (∀ W, Calls Tryd.prog 16 #[.int .i64 id] W fun e w' => e = .returned (.bool (upM id)) ∧ Keep Never W w') := fun W => mup_any id W
  have hb0 : Hid (Blk (w.alloc (.cells #[.int .i64 id, .int .i64 t, .int .i64 ack, .int .i64 of_, .slice A n c, .slice B k d] 25)) w.heap.size 25 #[.int .i64 id, .int .i64 t, .int .i64 ack, .int .i64 of_, .slice A n c, .slice B k d]) := Blk.new w 25 _
  have hk0 : Hid (Keep Never w (w.alloc (.cells #[.int .i64 id, .int .i64 t, .int .i64 ack, .int .i64 of_, .slice A n c, .slice B k d] 25))) := (Keep.refl Never w).alloc _
  unfold valuesM msgCells
  generalize upM id = b at *
  cases b
  all_goals
    go_enter Tryd.func25, Tryd.ntmps25
    go_wp2_with fail
    refine (HU.out _).mono ?_
    rintro e w1 ⟨rfl, hk⟩
    have HK1 := Lib.hid (hk0.out.trans hk)
    have hb1 := hb0.out.keep hk (fun h => h)
    have q1 := hb1.cell 1
    have q2 := hb1.cell 2
    have q3 := hb1.cell 3
    clear hk hb1
    go_wp2_with fail
    go_ret
    exact nums_new HK1.out _ rfl rfl

end Go.Proofs.YtiebjnibmomcjaaDoor

namespace Go.Proofs.YtiebjnibmomcjaaDoor
open Go.RowKit

set_option maxHeartbeats 400000 in
theorem power_any (n : Nat) (hn : n ≤ 32) (w : World) :
    Calls Tryd.prog 63 #[.int .i64 n] w fun e w' => e = .returned (.int .i64 ((2 ^ n : Nat) : Int)) ∧ w = w' := by
  go_enter Tryd.func63, Tryd.ntmps63
  go_wp2
  go_loop [3, 4] (fun p i => ∃ k : Nat, k ≤ n ∧ i = .int .i64 k ∧ p = .int .i64 ((2 ^ k : Nat) : Int)) (fun _ i => n - (intOf i).toNat)
  case atStart => exact ⟨0, Nat.zero_le _, rfl, rfl⟩
  case round =>
    obtain ⟨k, hk, rfl, rfl⟩ := hrel
    have h1 := pow_pos' k
    have h2 := pow_le32 (k := k) (by omega)
    have h3 : ((2 ^ (k + 1) : Nat) : Int) = ((2 ^ k : Nat) : Int) * 2 := by rw [Nat.pow_succ]; omega
    have H3 := Lib.hid h3; clear h3
    generalize hp : ((2 ^ k : Nat) : Int) = p at *
    have HP := Lib.hid hp; clear hp
    go_wp2
    · go_round
      case rel => exact ⟨k + 1, by omega, by go_num, by rw [H3.out]⟩
      case measure => simp [intOf]; omega
    · have : k = n := by omega
      subst this
      go_ret
      exact ⟨ret_int HP.out.symm, rfl⟩

theorem power_any' (n : Nat) (hn : n ≤ 32) (p : Int) (hp : ((2 ^ n : Nat) : Int) = p) (w : World) :
    Calls Tryd.prog 63 #[.int .i64 n] w fun e w' => e = .returned (.int .i64 p) ∧ w = w' := by
  subst hp; exact power_any n hn w

end Go.Proofs.YtiebjnibmomcjaaDoor

namespace Go.Proofs.YtiebjnibmomcjaaDoor
open Go.RowKit

set_option maxRecDepth 100000 in
theorem elemB : Elem Tryd.prog 67 4 1 1 := ⟨Tryd.underlying67, _, _, rfl, rfl, rfl, rfl, rfl, by omega⟩
set_option maxRecDepth 100000 in
theorem elemU : Elem Tryd.prog 28 5 1 1 := ⟨Tryd.underlying28, _, _, rfl, rfl, rfl, rfl, rfl, by omega⟩

/-- what the document's Put leaves -/
def RPut (w : World) (A : Option Addr) (l : List Bool) (x width : Int) (e : Ending) (w' : World) : Prop :=
  ∃ A' n' c', e = .returned (.tuple #[.slice A' n' c', .int .i64 (putE l.length x width)]) ∧ n' = (putL l x width).length ∧ n' ≤ 8184 ∧ Rd w' w'.heap.size 1 A' n' ((putL l x width).map .bool) ∧ Keep Never w w' ∧ (∀ q, InRow A' q → InRow A q ∨ (w.heap.size ≤ q ∧ q < w'.heap.size))

theorem bit_int (xn j : Nat) : ((xn : Int) / ((2 ^ j : Nat) : Int) % 2 == 1) = bitOf xn j := by
  unfold bitOf
  rw [Bool.eq_iff_iff]
  simp only [beq_iff_eq]
  omega

/-- what the document's Bytes leaves -/
def RBytes (w : World) (l : List Bool) (e : Ending) (w' : World) : Prop :=
  ∃ A' n' c', e = .returned (.slice A' n' c') ∧ n' = (bytesOf l).length ∧ Rd w' w'.heap.size 1 A' n' ((bytesOf l).map u8v) ∧ Keep Never w w' ∧ n' ≤ c' ∧ c' ≤ maxLen

set_option maxHeartbeats 400000 in
theorem rbytes_any (A : Option Addr) (n c B : Nat) (l : List Bool) (hl : l.length = n) (w : World) (hr : Rd w B 1 A n (l.map .bool)) (_hB : B ≤ w.heap.size) (hn : n ≤ 1000000) :
    Calls Tryd.prog 40 #[.slice A n c] w (RBytes w l) := by
  have hRd := Lib.hid hr
  have HL := Lib.hid hl
  clear hl hr
  go_enter Tryd.func40, Tryd.ntmps40
  go_wp2
  go_loopw [3, 4, 5, 6] (fun v i _ _ wr => ∃ (q m c3 : Nat) (A3 : Option Addr), 8 * q ≤ n + 7 ∧ i = .int .i64 ((8 * q : Nat) : Int) ∧ v = .slice A3 m c3 ∧ m = q ∧ Own wr w.heap.size 5 1 A3 m c3 ((bytesTo l q).map u8v) ∧ Keep Never w wr)
    (fun _ i _ _ _ => n + 7 - (intOf i).toNat)
  case atStart => exact ⟨0, 0, 0, none, by omega, rfl, rfl, rfl, by simpa [bytesTo] using Own.nil _ _ _ _, Keep.refl _ _⟩
  case round =>
    obtain ⟨q, m, c3, A3, hq, rfl, rfl, hm, hown, hk⟩ := hrel
    obtain rfl : m = q := hm
    have Ho := Lib.hid hown
    clear hown
    by_cases h0 : 8 * m < n
    · have hh0 : (8 * m : Nat) < (n : Int) := by omega
      go_wp2
      obtain ⟨wo, rfl⟩ : ∃ wo : World, wo = wr := ⟨_, rfl⟩
      go_loop [5, 6] (fun x k => ∃ j : Nat, j ≤ 8 ∧ k = .int .i64 ((8 * m + j : Nat) : Int) ∧ x = .int .i64 (chunk l (8 * m) j : Nat)) (fun _ k => 8 * m + 8 - (intOf k).toNat)
      case atStart => exact ⟨0, by omega, rfl, rfl⟩
      case round =>
        obtain ⟨j, hj, rfl, rfl⟩ := hrel
        have hc := chunk_le l (8 * m) hj
        have hsu : chunk l (8 * m) (j + 1) = 2 * chunk l (8 * m) j + (bitAt l (8 * m + j)).toNat := rfl
        have Hsu := Lib.hid hsu
        clear hsu
        by_cases hj8 : j < 8
        · by_cases hin : 8 * m + j < n
          · obtain ⟨ad, x, rfl, _, hx, hcell⟩ := (hRd.out.keep hk (by intro k h; cases h)).at1 hin
            obtain rfl : bitAt l (8 * m + j) = x := by simp [bitAt, hx]
            have HX := Lib.hid hx
            clear hx
            cases hb : bitAt l (8 * m + j)
            all_goals
              rw [hb] at hcell
              have Hb := Lib.hid hb
              clear hb
              go_wp2
              go_round
              case rel => exact ⟨j + 1, by omega, by go_num, by rw [Hsu.out, Hb.out]; simp; try omega⟩
              case measure => simp [intOf]; try omega
          · have hb : bitAt l (8 * m + j) = false := by have := HL.out; simp [bitAt, List.getElem?_eq_none (show l.length ≤ 8 * m + j by omega)]
            have Hb := Lib.hid hb
            clear hb
            go_wp2
            go_round
            case rel => exact ⟨j + 1, by omega, by go_num, by rw [Hsu.out, Hb.out]; simp; try omega⟩
            case measure => simp [intOf]; try omega
        · obtain rfl : j = 8 := by omega
          have Hq : Hid (m ≤ 1000000) := by show m ≤ 1000000; omega
          have Hs := Lib.hid hk.size
          clear Hsu
          go_wp2_with (first
            | (at_builtin; refine wpList_app _ rfl (.tmp 34) (.tmp 37) _ rfl elemU w.heap.size rfl (Ho.out.alloc _) _ rfl (Rd.of_blk (n := 1) (cs := [.int .u8 _]) (Blk.new _ _ _) rfl) (by simp [Value.oneCell']) (by have := Hq.out; omega) (by have := Hq.out; unfold maxLen; omega) (by have := Hs.out; simp; omega) ?_; intro A4 c4 w4 hown4 hk4 hrow4))
          go_roundw
          case rel =>
            refine ⟨m + 1, m + 1, c4, A4, by omega, by go_num, rfl, rfl, ?_, ?_⟩
            · rw [bytesTo_succ, List.map_append]; exact hown4
            · exact (hk.alloc _).then_ hk4 (fun q hq hr => by have := (Ho.out.row hr).1; omega)
          case measure => simp [intOf]; try omega
    · have hh0 : ¬ (8 * m : Nat) < (n : Int) := by omega
      go_wp2
      go_ret
      have e1 : (l.length + 7) / 8 = m := by have := HL.out; omega
      refine ⟨A3, m, c3, rfl, ?_, ?_, hk, Ho.out.cap_le, ?_⟩
      · rw [bytesOf, e1, length_bytesTo]
      · rw [bytesOf, e1]; exact Ho.out.rd
      · rcases Ho.out.form with ⟨_, _, rfl, _⟩ | ⟨_, _, _, _, _, _, hc, _⟩
        · unfold maxLen; omega
        · exact hc

end Go.Proofs.YtiebjnibmomcjaaDoor
