/- The walks of BitsFull. -/
import Derived.Test.YtfkmcohefppanaaBitsA
namespace Go.Proofs.Ytfkmcohefppanaa
open Go.RowKit

structure Item where
  N : Int
  Width : Int
def repItem : Rep Item := (Rep.int.pair Rep.int).of fun x => (x.N, x.Width)
theorem opens_items : Rep.Opens Try.prog 22 repItem.list :=
  Rep.opens_list Try.underlying22 (by kernel_rfl) (by decide)
    (Rep.opens_of (Rep.opens_struct Try.underlying33 (by kernel_rfl)
      (Rep.fopens_cons rfl (by kernel_rfl) (Rep.opens_int Try.underlying3) (Rep.fopens_last rfl (by kernel_rfl) (Rep.opens_int Try.underlying3)))) _ (fun x => ⟨x.1, x.2⟩) (fun _ => rfl))
theorem item_at {w : World} {B n c : Nat} {A : Option Addr} {l : List Item} (h : repItem.Sl w B A n c l) {i : Nat} (hi : i < n) :
    ∃ ad x, A = some ad ∧ ad.block < B ∧ l[i]? = some x ∧ w.cell? (ad.add (i * 2)) = some (.int .i64 x.N) ∧ w.cell? ⟨(ad.add (i * 2)).block, (ad.add (i * 2)).off + 1, none⟩ = some (.int .i64 x.Width) ∧ x.N ≤ 9223372036854775807 := by
  obtain ⟨ad, x, cs, hA, hb, hx, ⟨c1, c2, rfl, ⟨rfl, _, h1⟩, ⟨rfl, _, _⟩⟩, hc⟩ := h.at_ hi
  exact ⟨ad, x, hA, hb, hx, hc 0 (by decide), by rw [← fld ad (i * 2) (by omega)]; exact hc 1 (by decide), h1⟩

/-- what a writer holds behind puts -/
def putsFrom (b : List Bool) (l : List Item) : List Bool := l.foldl (fun b x => putL b x.N x.Width) b
def puts (l : List Item) : List Bool := putsFrom [] l
theorem puts_snoc (l : List Item) {i : Nat} {x : Item} (h : l[i]? = some x) : puts (l.take (i + 1)) = putL (puts (l.take i)) x.N x.Width := by
  obtain ⟨h1, h2⟩ := List.getElem?_eq_some_iff.1 h
  rw [List.take_succ_eq_append_getElem h1, h2]
  simp [puts, putsFrom]

set_option maxHeartbeats 1000000 in
theorem full_walk (w : World) (A : Option Addr) (n c : Nat) (l : List Item) (hl : repItem.Sl w w.heap.size A n c l) (width : Int) (_ : -9223372036854775808 ≤ width) (hwd : width ≤ 9223372036854775807) :
    Calls Try.prog 6 #[.slice A n c, .int .i64 width] w fun e w' => e = .returned (.bool true) ∧ Keep Never w w' := by
  by_cases hn : 400 < n ∨ width < 1 ∨ 32 < width
  · have hni : (400 : Int) < n ∨ width < 1 ∨ 32 < width := by omega
    clear hn hl
    rcases hni with h | h | h
    · go_enter Try.func6, Try.ntmps6
      go_wp2_with (go_at_call 10; refine (awake_any _).mono ?_; rintro e w1 ⟨rfl, hk1⟩)
      go_ret
      exact ⟨rfl, hk1⟩
    · by_cases h' : (400 : Int) < n
      all_goals
        go_enter Try.func6, Try.ntmps6
        go_wp2_with (go_at_call 10; refine (awake_any _).mono ?_; rintro e w1 ⟨rfl, hk1⟩)
        go_ret
        exact ⟨rfl, hk1⟩
    · by_cases h' : (400 : Int) < n <;> by_cases h2 : width < 1
      all_goals
        go_enter Try.func6, Try.ntmps6
        go_wp2_with (go_at_call 10; refine (awake_any _).mono ?_; rintro e w1 ⟨rfl, hk1⟩)
        go_ret
        exact ⟨rfl, hk1⟩
  · have h1 : n ≤ 400 := by omega
    have h2 : 1 ≤ width := by omega
    have h3 : width ≤ 32 := by omega
    have Hl := Lib.hid hl
    clear hn hl
    go_enter Try.func6, Try.ntmps6
    go_wp2_with (go_at_call 10; refine (awake_any _).mono ?_; rintro e w1 ⟨rfl, hk1⟩)
    have hs1 := hk1.size
    go_loopw [7] (fun i wr => ∃ (k : Nat) (A1 : Option Addr), k ≤ n ∧ i = .int .i64 k ∧ Hid (WrAt wr w.heap.size w1.heap.size A1 (puts (l.take k))) ∧ Keep Never w wr)
      (fun i _ => n - (intOf i).toNat)
    case atStart => exact ⟨0, none, by omega, rfl, by
      have := wr_new w1
      obtain ⟨c, h1, h2, h3, h4⟩ := this
      exact ⟨c, h1, h2.less hs1, h3, hs1⟩, hk1.alloc _⟩
    case round =>
      obtain ⟨k, A1, hk, rfl, hwr, hkr⟩ := hrel
      by_cases hkn : k < n
      · obtain ⟨ad, x, rfl, _, hx, hc0, hc1, hx63⟩ := item_at (Hl.out.keep hkr (by intro k h; cases h)) hkn
        have hps := puts_snoc l hx
        have Hps := Lib.hid hps
        have hsr := hkr.size
        have hki : (k : Int) < (n : Int) := by omega
        clear hps hx
        go_wp2
        go_still_tail 11, (by kernel_rfl)
        change wpList _ _ _ _ _ wr.drew
        go_wp2_with fail
        refine (wput_any w.heap.size w1.heap.size A1 _ x.N x.Width hx63 _ (hwr.out.keep ((Keep.refl _ wr).drew) (fun _ _ h => h)) (by simp; omega)).mono ?_
        rintro e w3 ⟨A3, rfl, hw3, hk3, hr3⟩
        have Hw3 := Lib.hid hw3
        clear hw3 hr3
        go_wp2
        go_roundw
        case rel => exact ⟨k + 1, A3, by omega, by go_num, by rw [Hps.out]; exact Hw3.out, hkr.drew.then_ hk3 (fun i hi e => by have := wr_base hwr.out (w0 := w) (Nat.le_refl _) i e; omega)⟩
        case measure => simp [intOf]; try omega
      · obtain rfl : k = n := by omega
        have htk : l.take k = l := List.take_of_length_le (by rw [← Hl.out.len]; omega)
        rw [htk] at hwr
        have hbl : (puts l).length ≤ 8184 := by obtain ⟨c, _, _, h, _⟩ := hwr.out; exact h
        have hsr := hkr.size
        have hp1 := pow_pos' width.toNat
        generalize puts l = bs at *
        have hpe : putE bs.length 0 width = if (8184 : Int) < bs.length + width then 2 else 0 := by
          rw [putE, if_neg (by rw [mayB_iff.2 ⟨h2, h3, by omega, by omega⟩]; simp)]
        have hlb : ∀ e0, putE bs.length 0 width = e0 → (bytesOf (putL bs 0 width)).length ≤ 1023 := by
          intro e0 he
          rw [length_bytesOf]
          by_cases hf : (8184 : Int) < bs.length + width
          · rw [if_pos hf] at hpe
            rw [putL, hpe, if_neg (by omega)]; omega
          · rw [if_neg hf] at hpe
            rw [putL, hpe, if_pos rfl, List.length_append, length_bitsOf]; omega
        clear htk
        have Hlb := Lib.hid hlb
        have hbl' : (bs.length : Int) ≤ 8184 := by omega
        clear hlb
        by_cases hf : (8184 : Int) < bs.length + width
        all_goals
          first | rw [if_pos hf] at hpe | rw [if_neg hf] at hpe
          have Hpe := Lib.hid hpe
          clear hpe
          go_wp2_with (first
            | (go_at_call 13; refine (wlen_any w.heap.size w1.heap.size A1 bs _ hwr.out).mono ?_; rintro e w3 ⟨rfl, rfl⟩)
            | (go_at_call 12; refine (wput_eq (by decide) hwr.out hsr Hpe.out rfl).mono ?_; rintro e w4 ⟨A4, rfl, hw4, hk4, hr4⟩; have hlb4 : ((bytesOf (putL bs 0 width)).length : Int) ≤ 1023 := by have := Hlb.out _ rfl; omega)
            | (go_at_call 14; refine (wbytes_any w.heap.size w1.heap.size A4 _ w4 hw4.out).mono ?_; rintro e w5 ⟨A5, c5, rfl, hb5, hk5⟩))
          go_ret
          exact ⟨rfl, (hkr.then_ hk4 (fun i hi e => by have := wr_base hwr.out (w0 := w) (Nat.le_refl _) i e; omega)).trans hk5⟩

end Go.Proofs.Ytfkmcohefppanaa
