/- Chapter 15: SpanOvers. -/
import Derived.Test.YtlcbehhlmobhmaaTopJ
namespace Go.Proofs.Ytlcbehhlmobhmaa
open Go.RowKit

theorem over_one {t : Tp} {p : List Stp} {lo hi : Int} {m m' : List Sp} (h : if overE t p lo hi = 0 then NormOf (overK t.1 lo hi p p.length) m else m = []) (h' : if overE t p lo hi = 0 then NormOf (overK t.1 lo hi p p.length) m' else m' = []) : m' = m := by
  split at h
  · rename_i h0
    rw [if_pos h0] at h'
    exact h'.one h
  · rename_i h0
    rw [if_neg h0] at h'
    rw [h, h']
set_option maxHeartbeats 4000000 in
set_option maxRecDepth 100000 in
theorem spanOvers_walk (W : World) (cs0 : Array Value) (t : Tp) (s0 : repTp.cells W W.heap.size t cs0.toList) (A1 : Option Addr) (n1 c1 : Nat) (p : List Stp) (s1 : repStp.Sl W W.heap.size A1 n1 c1 p) (x2 : Int) (b2 : -9223372036854775808 ≤ x2) (c2 : x2 ≤ 9223372036854775807) (x3 : Int) (b3 : -9223372036854775808 ≤ x3) (c3 : x3 ≤ 9223372036854775807) :
    Calls Try.prog 7 #[.agg cs0, .slice A1 n1 c1, .int .i64 x2, .int .i64 x3] W fun e W' => e = .returned (.bool true) ∧ Keep Never W W' := by
  obtain ⟨x, hx, ht⟩ := TpAt.of s0
  obtain rfl : cs0 = x.cs := by apply Array.ext'; exact hx
  clear s0 hx
  have HLt : Hid (∀ w', Keep Never W w' → Calls Try.prog 27 #[.agg x.cs] w' fun e w'' => ∃ b, e = .returned (.bool b) ∧ Hid (b = true → x.ne ≤ 100 ∧ x.nj ≤ 100) ∧ Keep Never w' w'') := Lib.hid (fun w' h => light13_any x t W.heap.size w' (ht.keep h))
  have HOv : Hid (∀ w', Keep Never W w' → x.nj ≤ 100000000 → x.ne ≤ 100000000 → n1 ≤ 100000000 → Calls Try.prog 28 #[.agg x.cs, .slice A1 n1 c1, .int .i64 x2, .int .i64 x3] w' (OverRet t p x2 x3 w')) := Lib.hid (fun w' h h1 h2 h3 => over_any x t W.heap.size A1 n1 c1 p x2 x3 w' (ht.keep h) (s1.keep h (fun _ h => h.elim)) h1 h2 h3 h.size b2 c2 b3 c3)
  have HRv : Hid (∀ w', Keep Never W w' → x.nj ≤ 100000000 → x.ne ≤ 100000000 → n1 ≤ 100000000 → Calls Try.prog 29 #[.agg x.cs, .slice A1 n1 c1, .int .i64 x2, .int .i64 x3] w' (OverRet t p x2 x3 w')) := Lib.hid (fun w' h h1 h2 h3 => rover_any x t W.heap.size A1 n1 c1 p x2 x3 w' (ht.keep h) (s1.keep h (fun _ h => h.elim)) h1 h2 h3 h.size b2 c2 b3 c3)
  clear ht s1 b2 c2 b3 c3
  obtain ⟨Ae, ne, ce, Aj, nj, cj, Ab, nb, cb, Ar, nr, cr⟩ := x
  simp only [TA.cs] at HLt HOv HRv ⊢
  obtain ⟨wb, hwb⟩ : ∃ wb : World, W.alloc (.cells #[.slice Ae ne ce, .slice Aj nj cj, .slice Ab nb cb, .slice Ar nr cr] 38) = wb := ⟨_, rfl⟩
  have k1 : Keep Never W wb := by rw [← hwb]; exact (Keep.refl _ _).alloc _
  have b1' := Blk.new W 38 #[.slice Ae ne ce, .slice Aj nj cj, .slice Ab nb cb, .slice Ar nr cr]
  rw [hwb] at b1'
  have HB := Lib.hid b1'
  have HK := Lib.hid k1
  have HA := Lib.hid (awake15_any wb)
  clear k1 b1'
  go_enter Try.func7, Try.ntmps7
  go_wp2_with fail
  refine HA.out.mono ?_
  rintro e w1 ⟨rfl, hk1⟩
  have HK1 := Lib.hid (HK.out.trans hk1)
  have HB1 := Lib.hid (HB.out.keep hk1 (fun h => h))
  have y0 : w1.cell? ⟨W.heap.size, 0, none⟩ = some (.slice Ae ne ce) := HB1.out.cell 0
  have y1 : w1.cell? ⟨W.heap.size, 1, none⟩ = some (.slice Aj nj cj) := HB1.out.cell 1
  have y2 : w1.cell? ⟨W.heap.size, 2, none⟩ = some (.slice Ab nb cb) := HB1.out.cell 2
  have y3 : w1.cell? ⟨W.heap.size, 3, none⟩ = some (.slice Ar nr cr) := HB1.out.cell 3
  have HC := Lib.hid (HLt.out w1 HK1.out)
  clear hk1 HA HB HLt
  go_wp2_with fail
  refine HC.out.mono ?_
  rintro e w2 ⟨lt, rfl, hlt, hk2⟩
  have HK2 := Lib.hid (HK1.out.trans hk2)
  have HB2 := Lib.hid (HB1.out.keep hk2 (fun h => h))
  clear hk2 HC HB1 y0 y1 y2 y3
  cases lt with
  | false =>
    go_wp2_with fail
    go_ret
    exact ⟨rfl, HK2.out⟩
  | true =>
    by_cases h0 : n1 ≤ 100
    case neg =>
      have t0 : decide ((n1 : Int) > 100) = true := by simp; omega
      clear h0
      go_wp2_with fail
      go_ret
      exact ⟨rfl, HK2.out⟩
    have t0 : decide ((n1 : Int) > 100) = false := by simp; omega
    have hb := hlt.out rfl
    have hb1 := hb.1
    have hb2 := hb.2
    clear hb hlt
    have y0 : w2.cell? ⟨W.heap.size, 0, none⟩ = some (.slice Ae ne ce) := HB2.out.cell 0
    have y1 : w2.cell? ⟨W.heap.size, 1, none⟩ = some (.slice Aj nj cj) := HB2.out.cell 1
    have y2 : w2.cell? ⟨W.heap.size, 2, none⟩ = some (.slice Ab nb cb) := HB2.out.cell 2
    have y3 : w2.cell? ⟨W.heap.size, 3, none⟩ = some (.slice Ar nr cr) := HB2.out.cell 3
    have HC := Lib.hid (HOv.out w2 HK2.out (by omega) (by omega) (by omega))
    go_wp2_with fail
    refine HC.out.mono ?_
    rintro e w3 ⟨m3, A3, n3, c3, rfl, hn3, hl3, hs3, hk3, hp3⟩
    have HK3 := Lib.hid (HK2.out.trans hk3)
    have HB3 := Lib.hid (HB2.out.keep hk3 (fun h => h))
    have HS3 := Lib.hid hs3
    clear hk3 hs3 HC HB2 y0 y1 y2 y3
    have y0 : w3.cell? ⟨W.heap.size, 0, none⟩ = some (.slice Ae ne ce) := HB3.out.cell 0
    have y1 : w3.cell? ⟨W.heap.size, 1, none⟩ = some (.slice Aj nj cj) := HB3.out.cell 1
    have y2 : w3.cell? ⟨W.heap.size, 2, none⟩ = some (.slice Ab nb cb) := HB3.out.cell 2
    have y3 : w3.cell? ⟨W.heap.size, 3, none⟩ = some (.slice Ar nr cr) := HB3.out.cell 3
    have HC := Lib.hid (HRv.out w3 HK3.out (by omega) (by omega) (by omega))
    go_wp2_with fail
    refine HC.out.mono ?_
    rintro e w4 ⟨m4, A4, n4, c4, rfl, hn4, hl4, hs4, hk4, hp4⟩
    have em := over_one hp3.out hp4.out
    subst em
    have HK4 := Lib.hid (HK3.out.trans hk4)
    have HS34 := Lib.hid (HS3.out.here hk4)
    have HC2 := Lib.hid (same15_self _ A3 A4 n3 n4 c3 c4 _ _ w4 HS34.out.rd hs4.rd (by have := hl3.out; omega) (by have := hl4.out; omega))
    have hee : (overE t p x2 x3 == overE t p x2 x3) = true := beq_self_eq_true _
    clear hk4 hs4 HC y0 y1 y2 y3
    go_wp2_with fail
    refine HC2.out.mono ?_
    rintro e w5 ⟨rfl, hk5⟩
    have HK5 := Lib.hid (HK4.out.trans hk5)
    clear hk5 HC2
    go_wp2_with fail
    go_ret
    exact ⟨rfl, HK5.out⟩

end Go.Proofs.Ytlcbehhlmobhmaa
