/- The walk of BitsRefuses. -/
import Derived.Test.YtfkmcohefppanaaBitsF
namespace Go.Proofs.Ytfkmcohefppanaa
open Go.RowKit

theorem opens_item : Rep.Opens Try.prog 33 repItem :=
  Rep.opens_of (Rep.opens_struct Try.underlying33 (by kernel_rfl)
    (Rep.fopens_cons rfl (by kernel_rfl) (Rep.opens_int Try.underlying3) (Rep.fopens_last rfl (by kernel_rfl) (Rep.opens_int Try.underlying3)))) _ (fun x => ⟨x.1, x.2⟩) (fun _ => rfl)

theorem put_new (w1 w : World) (hs1 : w.heap.size ≤ w1.heap.size) : WrAt (w1.alloc (.cells #[.slice none 0 0, .int .i64 0] 27)) w.heap.size w1.heap.size none (puts ([] : List Item)) := by
  obtain ⟨c, h1, h2, h3, h4⟩ := wr_new w1
  exact ⟨c, h1, h2.less hs1, h3, hs1⟩

set_option maxHeartbeats 1000000 in
theorem refuses_in (w : World) (A : Option Addr) (n c : Nat) (l : List Item) (hl : repItem.Sl w w.heap.size A n c l) (x width : Int) (hx : x ≤ 9223372036854775807) (hx' : -9223372036854775808 ≤ x) (hn : n ≤ 400) :
    Calls Try.prog 5 #[.slice A n c, .agg #[.int .i64 x, .int .i64 width]] w fun e w' => e = .returned (.bool true) ∧ Keep Never w w' := by
  have hni : (n : Int) ≤ 400 := by omega
  have Hl := Lib.hid hl
  clear hl
  have hx0 : (w.alloc (.cells #[.int .i64 x, .int .i64 width] 33)).cell? ⟨w.heap.size, 0, none⟩ = some (.int .i64 x) := (Blk.new w _ _).cell 0
  go_enter Try.func5, Try.ntmps5
  go_wp2_with (go_at_call 10; refine (awake_any _).mono ?_; rintro e w1 ⟨rfl, hk1⟩)
  have hb0 := Lib.hid (Blk.new w 33 #[.int .i64 x, .int .i64 width])
  have hk0 : Keep Never w w1 := ((Keep.refl _ w).alloc _).trans hk1
  have hb1 := Lib.hid (hb0.out.keep hk1 (fun h => h))
  have hs1 := hk0.size
  have hlt1 := hb1.out.lt
  go_loopw [7] (fun i wr => ∃ (k : Nat) (A1 : Option Addr), k ≤ n ∧ i = .int .i64 k ∧ Hid (WrAt wr w.heap.size w1.heap.size A1 (puts (l.take k))) ∧ Keep Never w wr ∧ Hid (Blk wr w.heap.size 33 #[.int .i64 x, .int .i64 width]))
    (fun i _ => n - (intOf i).toNat)
  case atStart => exact ⟨0, none, by omega, rfl, put_new w1 w hs1, hk0.alloc _, hb1.out.alloc _⟩
  case round =>
    obtain ⟨k, A1, hk, rfl, hwr, hkr, hbr⟩ := hrel
    by_cases hkn : k < n
    · obtain ⟨ad, y, rfl, _, hy, hc0, hc1, hx63⟩ := item_at (Hl.out.keep hkr (by intro k h; cases h)) hkn
      have hps := puts_snoc l hy
      have Hps := Lib.hid hps
      have hsr := hkr.size
      have hki : (k : Int) < (n : Int) := by omega
      clear hps hy
      go_wp2
      go_still_tail 11, (by kernel_rfl)
      change wpList _ _ _ _ _ wr.drew
      go_wp2_with fail
      refine (wput_any w.heap.size w1.heap.size A1 _ y.N y.Width hx63 _ (hwr.out.keep ((Keep.refl _ wr).drew) (fun _ _ h => h)) (by simp; omega)).mono ?_
      rintro e w3 ⟨A3, rfl, hw3, hk3, hr3⟩
      have Hw3 := Lib.hid hw3
      clear hw3 hr3
      have hbr3 := Lib.hid (hbr.out.drew.keep hk3 (fun h => by
        obtain ⟨c, hb, ho, _⟩ := hwr.out
        rcases h with h | h
        · omega
        · exact ho.ne_blk hbr.out (by decide) _ h rfl))
      go_wp2
      go_roundw
      case rel => exact ⟨k + 1, A3, by omega, by go_num, by rw [Hps.out]; exact Hw3.out, hkr.drew.then_ hk3 (fun i hi e => by have := wr_base hwr.out (w0 := w) (Nat.le_refl _) i e; omega), hbr3⟩
      case measure => simp [intOf]; try omega
    · obtain rfl : k = n := by omega
      have htk : l.take k = l := List.take_of_length_le (by rw [← Hl.out.len]; omega)
      rw [htk] at hwr
      have hbl : (puts l).length ≤ 8184 := by obtain ⟨c, _, _, h, _⟩ := hwr.out; exact h
      have hsr := hkr.size
      have hc0 : wr.cell? ⟨w.heap.size, 0, none⟩ = some (.int .i64 x) := hbr.out.cell 0
      have hc1 : wr.cell? ⟨w.heap.size, 1, none⟩ = some (.int .i64 width) := hbr.out.cell 1
      generalize puts l = bs at *
      clear htk
      go_wp2_with fail
      refine (wbytes_any w.heap.size w1.heap.size A1 _ wr hwr.out).mono ?_
      rintro e w3 ⟨A3, c3, rfl, hb3, hk3⟩
      have hcv := run_str (P := Try.prog) (src := 25) (dst := 9) Try.underlying25 Try.underlying5 Try.underlying9 hb3.rd (bytesOf_lt _) c3
      have hwr3 := Lib.hid (hwr.out.keep hk3 (fun _ _ h => h))
      have hbr3 := Lib.hid (hbr.out.keep hk3 (fun h => h))
      have hc03 : w3.cell? ⟨w.heap.size, 0, none⟩ = some (.int .i64 x) := hbr3.out.cell 0
      have hc13 : w3.cell? ⟨w.heap.size, 1, none⟩ = some (.int .i64 width) := hbr3.out.cell 1
      clear hb3
      go_wp2_with fail
      refine (wlen_any w.heap.size w1.heap.size A1 bs _ hwr3.out).mono ?_
      rintro e w4 ⟨rfl, rfl⟩
      clear hcv
      go_wp2_with fail
      have hk03 : Keep Never w w3 := hkr.trans hk3
      have hs3 := hk3.size
      -- what the put leaves: either all as it was, or OK
      have hput : ∃ e0 l', putE bs.length x width = e0 ∧ putL bs x width = l' ∧ (e0 = 0 ∨ (e0 ≠ 0 ∧ l' = bs)) := by
        refine ⟨_, _, rfl, rfl, ?_⟩
        by_cases h : putE bs.length x width = 0
        · exact .inl h
        · exact .inr ⟨h, by rw [putL, if_neg h]⟩
      obtain ⟨e0, l', he0, hl', hcase⟩ := hput
      refine (wput_eq hx hwr3.out (by omega) he0 hl').mono ?_
      rintro e w4 ⟨A4, rfl, hw4, hk4, hr4⟩
      have hk04 : Keep Never w w4 := hk03.then_ hk4 (fun i hi e => by have := wr_base hwr3.out (w0 := w) (Nat.le_refl _) i e; omega)
      have hbr4 := Lib.hid (hbr3.out.keep hk4 (fun h => by
        obtain ⟨c, hb, ho, _⟩ := hwr3.out
        rcases h with h | h
        · omega
        · exact ho.ne_blk hbr3.out (by decide) _ h rfl))
      clear hc0 hc1 hc03 hc13
      have HE := Lib.hid he0
      have HL := Lib.hid hl'
      clear he0 hl'
      have hlen : ((bytesOf bs).length : Nat) ≤ 1000000 := by rw [length_bytesOf]; omega
      -- what follows, once it is seen that nothing was changed
      rcases hcase with rfl | ⟨hne, hlb⟩
      case' inl =>
        obtain ⟨wz, rfl⟩ : ∃ wz, wz = w4 := ⟨_, rfl⟩
        have hkz := hk04
        have hbz := hbr4
      case' inr =>
        rw [hlb] at hw4
        clear hlb HL
        have hne' : (e0 != 0) = true := by simpa using hne
        have hwr4 := Lib.hid (hw4.out)
        go_wp2_with fail
        refine (wbytes_any w.heap.size w1.heap.size A4 _ w4 hwr4.out).mono ?_
        rintro e wz ⟨A5, c5, rfl, hb5, hk5⟩
        have hcv := run_str (P := Try.prog) (src := 25) (dst := 9) Try.underlying25 Try.underlying5 Try.underlying9 hb5.rd (bytesOf_lt _) c5
        have hwr5 := Lib.hid (hwr4.out.keep hk5 (fun _ _ h => h))
        have hkz := hk04.trans hk5
        have hbz := Lib.hid (hbr4.out.keep hk5 (fun h => h))
        clear hb5
        go_wp2_with fail
        refine (wlen_any w.heap.size w1.heap.size A4 _ wz hwr5.out).mono ?_
        rintro e w6 ⟨rfl, rfl⟩
        clear hcv
      all_goals
        obtain ⟨c6, C6, hun, hrd6⟩ := run_unstr (P := Try.prog) (src := 9) (dst := 25) Try.underlying9 Try.underlying25 Try.underlying5 (bytesOf bs) wz
        have hrd6' := Lib.hid (hrd6 (bytesOf_lt _))
        clear hrd6
        go_wp2_with fail
        refine (read_any (some ⟨wz.heap.size, 0, none⟩) (bytesOf bs).length c6 _ (bytesOf bs) rfl _ hrd6'.out (bytesOf_lt _) hlen).mono ?_
        rintro e w7 ⟨p, rfl, hrd7, hk7⟩
        have hkz7 : Keep Never w w7 := (hkz.drew.alloc _).trans hk7
        have Hrd7 := Lib.hid hrd7
        have hs7 := hk7.size
        have hb7 := Lib.hid ((hbz.out.drew.alloc _).keep hk7 (fun h => h))
        have lo7 := hrd7.lo
        have hbz' := hbz.out.lt
        clear hun hrd7
        go_wp2_with fail
        refine (get_eq Hrd7.out (by simp at *; omega) rfl rfl rfl).mono ?_
        rintro e w8 ⟨rfl, hrd8, hk8⟩
        have hs8 := hk8.size
        generalize (0 + if getE (leftB (bytesOf bs) 0).length 5 = 0 then (5 : Int).toNat else 0) = k5 at *
        have hkz8 : Keep Never w w8 := hkz7.then_ hk8 (fun i hi e => by simp at *; omega)
        have hb8 := Lib.hid (hb7.out.keep hk8 (fun h => by simp at *; omega))
        go_wp2_with fail
        refine (left_any _ _ p _ _ w8 hrd8.out).mono ?_
        rintro e w9 ⟨rfl, z1, rfl⟩
        have hc9 : (w8.drewN z1).cell? ⟨w.heap.size, 0, none⟩ = some (.int .i64 x) := hb8.out.cell 0
        go_wp2_with fail
        obtain ⟨N, hN⟩ : ∃ N, getN (leftB (bytesOf bs) k5) x = N := ⟨_, rfl⟩
        obtain ⟨E, hE⟩ : ∃ E, getE (leftB (bytesOf bs) k5).length x = E := ⟨_, rfl⟩
        have hz := fun h => getE_zero (len := (leftB (bytesOf bs) k5).length) (x := x) h
        have hb := fun h => getN_bad (l := leftB (bytesOf bs) k5) (x := x) h
        rw [hE] at hz hb
        rw [hN] at hb
        rw [length_leftB] at hz
        refine (get_eq (k' := k5 + if E = 0 then x.toNat else 0) (hrd8.out.drewN z1) (by simp at *; omega) hN hE (by rw [hE])).mono ?_
        rintro e w10 ⟨rfl, hrd10, hk10⟩
        have hk10' : Keep Never w w10 := (hkz8.drewN z1).then_ hk10 (fun i hi e => by simp at *; omega)
        have hb10 := hb8.out.drewN z1
        have hb11 := hb10.keep hk10 (fun h => by simp at *; omega)
        have hc10 : w10.cell? ⟨w.heap.size, 0, none⟩ = some (.int .i64 x) := hb11.cell 0
        by_cases hE0 : E = 0
        · subst hE0
          obtain ⟨z1', z2', z3'⟩ := hz rfl
          rw [if_pos rfl] at hrd10
          have hv : ((8 * (bytesOf bs).length - (k5 + x.toNat) : Nat) : Int) = ((8 * (bytesOf bs).length - k5 : Nat) : Int) - x := by omega
          have hwv : IntKind.i64.wrap (((8 * (bytesOf bs).length - k5 : Nat) : Int) - x) = ((8 * (bytesOf bs).length - k5 : Nat) : Int) - x := IntWalk.i64_in _ ⟨by omega, by omega⟩
          clear hz hb hN hE
          generalize ((8 * (bytesOf bs).length - k5 : Nat) : Int) = v at *
          have Hv := Lib.hid hv
          clear hv
          go_wp2_with fail
          go_quiet ((go_at_call 18; exact Calls.quiet_of (left_eq (hrd10.out.drewN _) Hv.out)))
          go_wp2_with fail
          go_ret
          exact ⟨rfl, hk10'.drewN _⟩
        · rw [if_neg hE0, Nat.add_zero] at hrd10
          have hN0 : N = 0 := hb hE0
          subst hN0
          have hE1 : (E == 0) = false := by simpa using hE0
          have hE2 : (E != 0) = true := by simpa using hE0
          clear hz hb hN hE
          go_wp2_with fail
          go_quiet ((go_at_call 18; exact Calls.quiet_of (left_eq (hrd10.out.drewN _) rfl)))
          go_wp2_with fail
          go_ret
          exact ⟨rfl, hk10'.drewN _⟩

set_option maxHeartbeats 400000 in
theorem refuses_out (w : World) (A : Option Addr) (n c : Nat) (x width : Int) (hn : (400 : Int) < n) :
    Calls Try.prog 5 #[.slice A n c, .agg #[.int .i64 x, .int .i64 width]] w fun e w' => e = .returned (.bool true) ∧ Keep Never w w' := by
  go_enter Try.func5, Try.ntmps5
  go_wp2_with (go_at_call 10; refine (awake_any _).mono ?_; rintro e w1 ⟨rfl, hk1⟩)
  go_ret
  exact ⟨rfl, ((Keep.refl _ w).alloc _).trans hk1⟩

theorem refuses_walk (w : World) (A : Option Addr) (n c : Nat) (l : List Item) (hl : repItem.Sl w w.heap.size A n c l) (cs : Array Value) (x : Item) (hx : repItem.cells w w.heap.size x cs.toList) :
    Calls Try.prog 5 #[.slice A n c, .agg cs] w fun e w' => e = .returned (.bool true) ∧ Keep Never w w' := by
  obtain ⟨c1, c2, hcs, ⟨rfl, h1, h2⟩, ⟨rfl, _, _⟩⟩ := hx
  obtain rfl : cs = #[.int .i64 x.N, .int .i64 x.Width] := by
    apply Array.ext'
    rw [hcs]; rfl
  by_cases hn : n ≤ 400
  · exact refuses_in w A n c l hl x.N x.Width h2 h1 hn
  · exact refuses_out w A n c x.N x.Width (by omega)

end Go.Proofs.Ytfkmcohefppanaa
