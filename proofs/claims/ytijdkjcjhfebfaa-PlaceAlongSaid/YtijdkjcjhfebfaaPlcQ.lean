/- Chapter 14: PlaceAlong. -/
import Derived.Test.YtijdkjcjhfebfaaPlcL
namespace Go.Proofs.Ytijdkjcjhfebfaa
open Go.RowKit

set_option maxHeartbeats 40000000 in
set_option maxRecDepth 100000 in
theorem placeAlong_walk (W : World) (cs0 : Array Value) (t : Tp) (s0 : repTp.cells W W.heap.size t cs0.toList) (A1 : Option Addr) (n1 c1 : Nat) (path : List Stp) (s1 : repStp.Sl W W.heap.size A1 n1 c1 path) (n : Int) (_b2 : -9223372036854775808 ≤ n) (_c2 : n ≤ 9223372036854775807) (m : Int) (_b3 : -9223372036854775808 ≤ m) (_c3 : m ≤ 9223372036854775807) :
    Calls Try.prog 6 #[.agg cs0, .slice A1 n1 c1, .int .i64 n, .int .i64 m] W fun e W' => e = .returned (.bool true) ∧ Keep Never W W' := by
  obtain ⟨x, hx, ht⟩ := TpAt.of s0
  obtain rfl : cs0 = x.cs := by apply Array.ext'; exact hx
  clear s0 hx
  have qe : ∀ (w : World) (a b : Int) (c : Bool), (binOp .eql 29 (.agg #[.int .i64 a, .int .i64 b, .bool c]) (.agg #[.int .i64 a, .int .i64 b, .bool c])).run Try.prog w = .ok (.bool true) w := run_eql_pos
  have HLt : Hid (∀ V, Keep Never W V → Calls Try.prog 11 #[.agg x.cs] V fun e w'' => ∃ b, e = .returned (.bool b) ∧ Hid (b = true → TpLight x t) ∧ Keep Never V w'') := Lib.hid (fun V h => light13r_any x t W.heap.size V (ht.keep h))
  have HWk : Hid (∀ (V : World) (e a : Int) (r : Bool) (n : Int), Keep Never W V → TpLight x t → Calls Try.prog 12 #[.agg x.cs, .agg #[.int .i64 e, .int .i64 a, .bool r], .int .i64 n] V (PsRet2 (walkP t (e, a, r) n) V)) := Lib.hid (fun V e a r n h hl => pwalk_any x t W.heap.size e a r n V (ht.keep h) hl.small h.size)
  have HOf : Hid (∀ (V : World) (n : Int), Keep Never W V → TpLight x t → n1 ≤ 100 → Calls Try.prog 22 #[.agg x.cs, .slice A1 n1 c1, .int .i64 n] V (PsRet2 (offP t path n) V)) := Lib.hid (fun V n h hl hn => poff_any x t W.heap.size A1 n1 c1 path n V (ht.keep h) hl.small h.size (s1.keep h (fun _ h => h.elim)) (by omega))
  have HLn : Hid (∀ (V : World), Keep Never W V → TpLight x t → n1 ≤ 100 → Calls Try.prog 24 #[.agg x.cs, .slice A1 n1 c1] V fun en w' => en = .returned (.tuple #[.int .i64 (lenM t path).1, .int .i64 (lenM t path).2]) ∧ Keep Never V w') := Lib.hid (fun V h hl hn => length_any x t W.heap.size A1 n1 c1 path V (ht.keep h) (s1.keep h (fun _ h => h.elim)) hl.small.j (by omega))
  have HS1 := Lib.hid s1
  have HL : Hid (n1 = path.length) := Lib.hid s1.len
  obtain ⟨Ae, ne, ce, Aj, nj, cj, Ab, nb, cb, Ar, nr, cr⟩ := x
  simp only [TA.cs] at HLt HWk HOf HLn ⊢
  clear ht
  obtain ⟨v1, hv1⟩ : ∃ V : World, W.alloc (.cells #[.slice Ae ne ce, .slice Aj nj cj, .slice Ab nb cb, .slice Ar nr cr] 27) = V := ⟨_, rfl⟩
  have kv1 : Keep Never W v1 := by rw [← hv1]; exact (Keep.refl _ _).alloc _
  have bv1 := Blk.new W 27 #[.slice Ae ne ce, .slice Aj nj cj, .slice Ab nb cb, .slice Ar nr cr]
  rw [hv1] at bv1
  have HB1 := Lib.hid bv1
  have HK := Lib.hid kv1
  clear kv1 bv1
  have HA := Lib.hid (awake14_any v1)
  go_enter Try.func6, Try.ntmps6
  go_wp2_with fail
  refine HA.out.mono ?_
  rintro en w101 ⟨rfl, hk1⟩
  have HK1 := Lib.hid (HK.out.trans hk1)
  have Hy1 := Lib.hid (HB1.out.keep hk1 (fun h => h))
  clear hk1 HA
  have y0 : w101.cell? ⟨W.heap.size, 0, none⟩ = some (.slice Ae ne ce) := Hy1.out.cell 0
  have y1 : w101.cell? ⟨W.heap.size, 1, none⟩ = some (.slice Aj nj cj) := Hy1.out.cell 1
  have y2 : w101.cell? ⟨W.heap.size, 2, none⟩ = some (.slice Ab nb cb) := Hy1.out.cell 2
  have y3 : w101.cell? ⟨W.heap.size, 3, none⟩ = some (.slice Ar nr cr) := Hy1.out.cell 3
  have HC := Lib.hid (HLt.out w101 HK1.out)
  clear HLt
  go_wp2_with fail
  refine HC.out.mono ?_
  rintro en w102 ⟨lt, rfl, hlt, hk2⟩
  have HK2 := Lib.hid (HK1.out.trans hk2)
  have Hy2 := Lib.hid (Hy1.out.keep hk2 (fun h => h))
  clear y0 y1 y2 y3 hk2 HC
  clear hv1
  cases lt with
  | false =>
    clear hlt
    go_wp2_with fail
    go_ret
    exact ⟨rfl, HK2.out⟩
  | true =>
    have HLi := Lib.hid (hlt.out rfl)
    clear hlt
    by_cases g0 : 100 < n1
    · have u0 : decide ((n1 : Int) > 100) = true := by simp; omega
      clear g0
      go_wp2_with fail
      go_ret
      exact ⟨rfl, HK2.out⟩
    have u0 : decide ((n1 : Int) > 100) = false := by simp; omega
    by_cases g1 : m < 0
    · have u1 : decide (m < 0) = true := by simpa using g1
      clear g0 g1
      go_wp2_with fail
      go_ret
      exact ⟨rfl, HK2.out⟩
    have u1 : decide (m < 0) = false := by simpa using g1
    by_cases g2 : m > 1099511627776
    · have u2 : decide (m > 1099511627776) = true := by simpa using g2
      clear g0 g1 g2
      go_wp2_with fail
      go_ret
      exact ⟨rfl, HK2.out⟩
    have u2 : decide (m > 1099511627776) = false := by simpa using g2
    have hn1 : n1 ≤ 100 := by omega
    have Hn1 := Lib.hid hn1
    have Hm : Hid (0 ≤ m ∧ m ≤ 1099511627776) := Lib.hid (by omega)
    clear g0 g1 g2
    go_wp2_with fail
    clear u0 u1 u2
    go_loopw [11] (fun i wr => ∃ k : Nat, k ≤ n1 ∧ i = .int .i64 k ∧ Hid (Keep Never w102 wr ∧ ∀ (i j : Nat) (s u : Stp), i < j → j < k → path[i]? = some s → path[j]? = some u → s.1 ≠ u.1)) (fun i _ => n1 - (intOf i).toNat)
    case atStart => exact ⟨0, by omega, rfl, Lib.hid ⟨Keep.refl _ _, fun i j s u _ h => by omega⟩⟩
    case round =>
      obtain ⟨k, hk, rfl, HH⟩ := hrel
      by_cases h0 : k < n1
      · have hkz : (k : Int) < (n1 : Int) := by omega
        obtain ⟨ad5, sk, hA5, _, hu, _, _⟩ := ((stps_rd (HS1.out.keep (HK2.out.trans HH.out.1) (fun _ h => h.elim))).1).stp h0
        obtain ⟨v1, v2⟩ := sk
        have Hu := Lib.hid hu
        subst hA5
        obtain ⟨wk, hwk⟩ : ∃ z, wr = z := ⟨_, rfl⟩
        rw [hwk] at HH
        rw [hwk]
        clear hwk hu
        go_wp2_with fail
        go_loopw [12] (fun i wr => ∃ j : Nat, j ≤ k ∧ i = .int .i64 j ∧ Hid (Keep Never wk wr ∧ ∀ (i : Nat) (s : Stp), i < j → path[i]? = some s → s.1 ≠ v1)) (fun i _ => k - (intOf i).toNat)
        case atStart => exact ⟨0, by omega, rfl, Lib.hid ⟨Keep.refl _ _, fun i s h => by omega⟩⟩
        case round =>
          obtain ⟨j, hj, rfl, HJ⟩ := hrel
          by_cases h1 : j < k
          · have hjz : (j : Int) < (k : Int) := by omega
            have hj1 : j < n1 := by omega
            have hjn : (j : Int) < (n1 : Int) := by omega
            have hrd := (stps_rd (HS1.out.keep (HK2.out.trans (HH.out.1.trans HJ.out.1)) (fun _ h => h.elim))).1
            obtain ⟨ad6, sj, hA6, _, hv, c0, c1'⟩ := hrd.stp hj1
            obtain ⟨ad7, sk, hA7, _, hu, d0, d1⟩ := hrd.stp h0
            injection hA6 with hA6
            injection hA7 with hA7
            subst hA6 hA7
            rw [Hu.out] at hu
            injection hu with hu
            subst hu
            obtain ⟨o1, o2⟩ := sj
            simp only at c0 c1' d0 d1
            have Hv := Lib.hid hv
            clear hv hrd c1' d1
            by_cases gq : o1 = v1
            · have t1 : (o1 == v1) = true := by simpa using gq
              clear gq
              go_wp2_with fail
              go_quiet (fail)
              go_wp2_with fail
              go_ret
              exact ⟨rfl, HK2.out.trans (HH.out.1.trans (HJ.out.1.drewN _))⟩
            · have t1 : (o1 == v1) = false := by simpa using gq
              have HN : Hid (∀ (i : Nat) (s : Stp), i < j + 1 → path[i]? = some s → s.1 ≠ v1) := Lib.hid (fun i s hi hs => by
                by_cases e : i = j
                · rw [e, Hv.out] at hs; injection hs with hs; rw [← hs]; exact fun h => gq h
                · exact HJ.out.2 i s (by omega) hs)
              clear gq
              go_wp2_with fail
              go_quiet (fail)
              go_wp2_with fail
              refine ⟨⟨j + 1, by omega, by go_num, Lib.hid ⟨HJ.out.1.drewN _, HN.out⟩⟩, ?_⟩
              simp [intOf]; try omega
          · obtain rfl : k = j := by omega
            have hjz : ¬ (k : Int) < (k : Int) := by omega
            have HN : Hid (∀ (i j : Nat) (s u : Stp), i < j → j < k + 1 → path[i]? = some s → path[j]? = some u → s.1 ≠ u.1) := Lib.hid (fun i j s u hij hj hs hu => by
              by_cases e : j = k
              · rw [e, Hu.out] at hu; injection hu with hu; rw [← hu]; exact HJ.out.2 i s (by omega) hs
              · exact HH.out.2 i j s u hij (by omega) hs hu)
            go_wp2_with fail
            refine ⟨⟨k + 1, by omega, by go_num, Lib.hid ⟨HH.out.1.trans HJ.out.1, HN.out⟩⟩, ?_⟩
            simp [intOf]; try omega
      · obtain rfl : n1 = k := by omega
        have hkz : ¬ (n1 : Int) < (n1 : Int) := by omega
        have HOn : Hid (onceM path) := Lib.hid (fun i k s u hs hu he => by
          have hi := (List.getElem?_eq_some_iff.1 hs).1
          have hk' := (List.getElem?_eq_some_iff.1 hu).1
          rcases Nat.lt_trichotomy i k with h | h | h
          · exact absurd he (HH.out.2 i k s u h (by rw [HL.out]; exact hk') hs hu)
          · exact h
          · exact absurd he.symm (HH.out.2 k i u s h (by rw [HL.out]; exact hi) hu hs))
        have hkl := HH.out.1
        clear HH hk
        have HKL := Lib.hid hkl
        have HK3 := Lib.hid (HK2.out.trans hkl)
        have Hy3 := Lib.hid (Hy2.out.keep hkl (fun h => h))
        clear hkl
        obtain ⟨⟨⟨x1, x2, x3⟩, xe⟩, hzx⟩ : ∃ z, offP t path n = z := ⟨_, rfl⟩
        have hw := HOf.out wr n HK3.out HLi.out Hn1.out
        rw [hzx] at hw
        unfold PsRet2 psV at hw
        dsimp only at hw
        have HC := Lib.hid hw
        have HZx := Lib.hid hzx
        clear hw hzx 
        have y0 : wr.cell? ⟨W.heap.size, 0, none⟩ = some (.slice Ae ne ce) := Hy3.out.cell 0
        have y1 : wr.cell? ⟨W.heap.size, 1, none⟩ = some (.slice Aj nj cj) := Hy3.out.cell 1
        have y2 : wr.cell? ⟨W.heap.size, 2, none⟩ = some (.slice Ab nb cb) := Hy3.out.cell 2
        have y3 : wr.cell? ⟨W.heap.size, 3, none⟩ = some (.slice Ar nr cr) := Hy3.out.cell 3
        go_wp2_with fail
        refine HC.out.mono ?_
        rintro en w104 ⟨rfl, hk4⟩
        have HK4 := Lib.hid (HK3.out.trans hk4)
        have Hy4 := Lib.hid (Hy3.out.keep hk4 (fun h => h))
        clear y0 y1 y2 y3 hk4 HC
        obtain ⟨w105, hw105⟩ : ∃ V : World, w104.alloc (.cells #[.int .i64 x1, .int .i64 x2, .bool x3] 29) = V := ⟨_, rfl⟩
        have kx : Keep Never w104 w105 := by rw [← hw105]; exact (Keep.refl _ _).alloc _
        have bx := Blk.new w104 29 #[.int .i64 x1, .int .i64 x2, .bool x3]
        rw [hw105] at bx
        obtain ⟨bX, hbX⟩ : ∃ q, w104.heap.size = q := ⟨_, rfl⟩
        rw [hbX] at bx
        have HBx5 := Lib.hid bx
        have HK5 := Lib.hid (HK4.out.trans kx)
        have Hy5 := Lib.hid (Hy4.out.keep kx (fun h => h))
        clear kx bx
        have hw := HLn.out w105 HK5.out HLi.out Hn1.out
        obtain ⟨l1, hl1⟩ : ∃ z, (lenM t path).1 = z := ⟨_, rfl⟩
        obtain ⟨l2, hl2⟩ : ∃ z, (lenM t path).2 = z := ⟨_, rfl⟩
        rw [hl1, hl2] at hw
        have HC := Lib.hid hw
        have HL1 := Lib.hid hl1
        have HL2 := Lib.hid hl2
        clear hw hl1 hl2
        have y0 : w105.cell? ⟨W.heap.size, 0, none⟩ = some (.slice Ae ne ce) := Hy5.out.cell 0
        have y1 : w105.cell? ⟨W.heap.size, 1, none⟩ = some (.slice Aj nj cj) := Hy5.out.cell 1
        have y2 : w105.cell? ⟨W.heap.size, 2, none⟩ = some (.slice Ab nb cb) := Hy5.out.cell 2
        have y3 : w105.cell? ⟨W.heap.size, 3, none⟩ = some (.slice Ar nr cr) := Hy5.out.cell 3
        go_wp2_with fail
        refine HC.out.mono ?_
        rintro en w106 ⟨rfl, hk6⟩
        have HK6 := Lib.hid (HK5.out.trans hk6)
        have Hy6 := Lib.hid (Hy5.out.keep hk6 (fun h => h))
        have HX6 := Lib.hid (HBx5.out.keep hk6 (fun h => h))
        clear y0 y1 y2 y3 hk6 HC
        clear hw105 hbX
        by_cases g : xe = 0
        case neg =>
          have t0 : (xe != 0) = true := by simpa using g
          clear g
          go_wp2_with fail
          go_ret
          exact ⟨rfl, HK6.out⟩
        subst g
        have t0 : ((0 : Int) != 0) = false := by decide
        have hok := off_ok (t := t) (p := path) (n := n) (by rw [HZx.out])
        have HOk := Lib.hid hok
        have hl2z : l2 = 0 := HL2.out.symm.trans hok.2.1
        subst hl2z
        have hl1b : 0 ≤ n ∧ n ≤ l1 ∧ l1 ≤ 40000000 := by
          have h1 := hok.2.2.1
          have h2 := hok.2.2.2.1
          have h3 := sum_in hok.1 hok.2.1 (i := path.length) (Nat.le_refl _)
          rw [List.take_length, ← (good_of hok.1 hok.2.1).2.2] at h3
          rw [HL1.out] at h2 h3
          omega
        have hm := Hm.out
        have hwn : IntKind.i64.wrap (n + m) = n + m := IntWalk.i64_in _ (by omega)
        have hwn2 : wrap64 (n + m) = n + m := by have := hwn; rwa [IntWalk.i64_left] at this
        by_cases g2 : n + m > l1
        · have t1 : decide (n + m > l1) = true := by simpa using g2
          clear g2 hm hl1b hok
          go_wp2_with fail
          go_ret
          exact ⟨rfl, HK6.out⟩
        have t1 : decide (n + m > l1) = false := by simpa using g2
        have HAl := Lib.hid (off_along (t := t) (p := path) (n := n) (m := m) hok.1 hok.2.1 hok.2.2.1 hm.1 hm.2 (by rw [HL1.out]; omega))
        have HOff := Lib.hid (off_is (t := t) (p := path) (n := n + m) hok.1 hok.2.1 (by omega) (by rw [HL1.out]; omega))
        have hpk : offK t path n = (x1, x2, x3) := by have h1 := hok.2.2.2.2; rw [HZx.out] at h1; injection h1 with h1; exact h1.symm
        have HPk := Lib.hid hpk
        clear g2 hm hl1b hok hpk
        obtain ⟨⟨⟨v1, v2, v3⟩, ve⟩, hzv⟩ : ∃ z, walkP t (x1, x2, x3) m = z := ⟨_, rfl⟩
        have hw := HWk.out w106 x1 x2 x3 m HK6.out HLi.out
        rw [hzv] at hw
        unfold PsRet2 psV at hw
        dsimp only at hw
        have HC := Lib.hid hw
        have HZv := Lib.hid hzv
        clear hw hzv 
        have y0 : w106.cell? ⟨W.heap.size, 0, none⟩ = some (.slice Ae ne ce) := Hy6.out.cell 0
        have y1 : w106.cell? ⟨W.heap.size, 1, none⟩ = some (.slice Aj nj cj) := Hy6.out.cell 1
        have y2 : w106.cell? ⟨W.heap.size, 2, none⟩ = some (.slice Ab nb cb) := Hy6.out.cell 2
        have y3 : w106.cell? ⟨W.heap.size, 3, none⟩ = some (.slice Ar nr cr) := Hy6.out.cell 3
        have X0 : w106.cell? ⟨bX, 0, none⟩ = some (.int .i64 x1) := HX6.out.cell 0
        have X1 : w106.cell? ⟨bX, 1, none⟩ = some (.int .i64 x2) := HX6.out.cell 1
        have X2 : w106.cell? ⟨bX, 2, none⟩ = some (.bool x3) := HX6.out.cell 2
        go_wp2_with fail
        refine HC.out.mono ?_
        rintro en w107 ⟨rfl, hk7⟩
        have HK7 := Lib.hid (HK6.out.trans hk7)
        have Hy7 := Lib.hid (Hy6.out.keep hk7 (fun h => h))
        have HX7 := Lib.hid (HX6.out.keep hk7 (fun h => h))
        clear y0 y1 y2 y3 X0 X1 X2 hk7 HC
        clear t0 t1
        obtain ⟨w108, hw108⟩ : ∃ V : World, w107.alloc (.cells #[.int .i64 v1, .int .i64 v2, .bool v3] 29) = V := ⟨_, rfl⟩
        have kx : Keep Never w107 w108 := by rw [← hw108]; exact (Keep.refl _ _).alloc _
        have bx := Blk.new w107 29 #[.int .i64 v1, .int .i64 v2, .bool v3]
        rw [hw108] at bx
        obtain ⟨bV, hbV⟩ : ∃ q, w107.heap.size = q := ⟨_, rfl⟩
        rw [hbV] at bx
        have HBx8 := Lib.hid bx
        have HK8 := Lib.hid (HK7.out.trans kx)
        have Hy8 := Lib.hid (Hy7.out.keep kx (fun h => h))
        have HX8 := Lib.hid (HX7.out.keep kx (fun h => h))
        clear kx bx
        by_cases g : ve = 0
        case neg =>
          have t0 : (ve != 0) = true := by simpa using g
          have t1 : (ve == 140) = true := by
            have h1 := HAl.out
            rw [HPk.out, HZv.out] at h1
            rcases h1 with h1 | h1
            · simpa using h1
            · injection h1 with _ h1; exact absurd h1 g
          clear g
          go_wp2_with fail
          go_ret
          exact ⟨rfl, HK8.out⟩
        subst g
        have t0 : ((0 : Int) != 0) = false := by decide
        have hvk : offK t path (n + m) = (v1, v2, v3) := by
          have h1 := HAl.out
          rw [HPk.out, HZv.out] at h1
          rcases h1 with h1 | h1
          · exact absurd h1 (by simp)
          · injection h1 with h1; exact h1.symm
        have hw := HOf.out w108 (n + m) HK8.out HLi.out Hn1.out
        rw [HOff.out, hvk] at hw
        unfold PsRet2 psV at hw
        dsimp only at hw
        have HC := Lib.hid hw
        clear hw hvk
        have y0 : w108.cell? ⟨W.heap.size, 0, none⟩ = some (.slice Ae ne ce) := Hy8.out.cell 0
        have y1 : w108.cell? ⟨W.heap.size, 1, none⟩ = some (.slice Aj nj cj) := Hy8.out.cell 1
        have y2 : w108.cell? ⟨W.heap.size, 2, none⟩ = some (.slice Ab nb cb) := Hy8.out.cell 2
        have y3 : w108.cell? ⟨W.heap.size, 3, none⟩ = some (.slice Ar nr cr) := Hy8.out.cell 3
        go_wp2_with fail
        (try rw [hwn2])
        refine HC.out.mono ?_
        rintro en w109 ⟨rfl, hk9⟩
        have HK9 := Lib.hid (HK8.out.trans hk9)
        have Hy9 := Lib.hid (Hy8.out.keep hk9 (fun h => h))
        have HX9 := Lib.hid (HX8.out.keep hk9 (fun h => h))
        have HV9 := Lib.hid (HBx8.out.keep hk9 (fun h => h))
        clear y0 y1 y2 y3 hk9 HC
        clear hw108 hbV
        obtain ⟨w110, hw110⟩ : ∃ V : World, w109.alloc (.cells #[.int .i64 v1, .int .i64 v2, .bool v3] 29) = V := ⟨_, rfl⟩
        have kx : Keep Never w109 w110 := by rw [← hw110]; exact (Keep.refl _ _).alloc _
        have bx := Blk.new w109 29 #[.int .i64 v1, .int .i64 v2, .bool v3]
        rw [hw110] at bx
        obtain ⟨bZ, hbZ⟩ : ∃ q, w109.heap.size = q := ⟨_, rfl⟩
        rw [hbZ] at bx
        have HBx10 := Lib.hid bx
        have HK10 := Lib.hid (HK9.out.trans kx)
        have Hy10 := Lib.hid (Hy9.out.keep kx (fun h => h))
        have HX10 := Lib.hid (HX9.out.keep kx (fun h => h))
        have HV10 := Lib.hid (HV9.out.keep kx (fun h => h))
        clear kx bx
        have V0 : w110.cell? ⟨bV, 0, none⟩ = some (.int .i64 v1) := HV10.out.cell 0
        have V1 : w110.cell? ⟨bV, 1, none⟩ = some (.int .i64 v2) := HV10.out.cell 1
        have V2 : w110.cell? ⟨bV, 2, none⟩ = some (.bool v3) := HV10.out.cell 2
        have Z0 : w110.cell? ⟨bZ, 0, none⟩ = some (.int .i64 v1) := HBx10.out.cell 0
        have Z1 : w110.cell? ⟨bZ, 1, none⟩ = some (.int .i64 v2) := HBx10.out.cell 1
        have Z2 : w110.cell? ⟨bZ, 2, none⟩ = some (.bool v3) := HBx10.out.cell 2
        go_wp2_with fail
        go_ret
        exact ⟨rfl, HK10.out⟩

end Go.Proofs.Ytijdkjcjhfebfaa
