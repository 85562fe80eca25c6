/- Chapter 14: PlaceBack. -/
import Derived.Test.YtijdkjcjhfebfaaPlcL
import Derived.Test.YtijdkjcjhfebfaaBckA
namespace Go.Proofs.Ytijdkjcjhfebfaa
open Go.RowKit

set_option maxHeartbeats 40000000 in
set_option maxRecDepth 100000 in
theorem placeBack_walk (W : World) (cs0 : Array Value) (t : Tp) (s0 : repTp.cells W W.heap.size t cs0.toList) (A1 : Option Addr) (n1 c1 : Nat) (path : List Stp) (s1 : repStp.Sl W W.heap.size A1 n1 c1 path) (n : Int) (_b2 : -9223372036854775808 ≤ n) (_c2 : n ≤ 9223372036854775807) :
    Calls Try.prog 7 #[.agg cs0, .slice A1 n1 c1, .int .i64 n] W fun e W' => e = .returned (.bool true) ∧ Keep Never W W' := by
  obtain ⟨x, hx, ht⟩ := TpAt.of s0
  obtain rfl : cs0 = x.cs := by apply Array.ext'; exact hx
  clear s0 hx
  have qe : ∀ (w : World) (a b : Int) (c : Bool), (binOp .eql 29 (.agg #[.int .i64 a, .int .i64 b, .bool c]) (.agg #[.int .i64 a, .int .i64 b, .bool c])).run Try.prog w = .ok (.bool true) w := run_eql_pos
  have HLt : Hid (∀ V, Keep Never W V → Calls Try.prog 11 #[.agg x.cs] V fun e w'' => ∃ b, e = .returned (.bool b) ∧ Hid (b = true → TpLight x t) ∧ Keep Never V w'') := Lib.hid (fun V h => light13r_any x t W.heap.size V (ht.keep h))
  have HOf : Hid (∀ (V : World) (n : Int), Keep Never W V → TpLight x t → n1 ≤ 100 → Calls Try.prog 22 #[.agg x.cs, .slice A1 n1 c1, .int .i64 n] V (PsRet2 (offP t path n) V)) := Lib.hid (fun V n h hl hn => poff_any x t W.heap.size A1 n1 c1 path n V (ht.keep h) hl.small h.size (s1.keep h (fun _ h => h.elim)) (by omega))
  have HOn : Hid (∀ (V : World) (e a : Int) (r : Bool), Keep Never W V → TpLight x t → n1 ≤ 100 → Calls Try.prog 20 #[.agg x.cs, .slice A1 n1 c1, .agg #[.int .i64 e, .int .i64 a, .bool r]] V fun en w' => en = .returned (.tuple #[.int .i64 (onP t path (e, a, r)).1, .int .i64 (onP t path (e, a, r)).2]) ∧ Keep Never V w') := Lib.hid (fun V e a r h hl hn => pon_any x t W.heap.size A1 n1 c1 path e a r V (ht.keep h) hl.small h.size (s1.keep h (fun _ h => h.elim)) (by omega))
  have HBk : Hid (∀ (V : World), Keep Never W V → n1 ≤ 100 → Calls Try.prog 25 #[.slice A1 n1 c1] V fun e w'' => ∃ A' c', e = .returned (.slice A' n1 c') ∧ repStp.Sl w'' w''.heap.size A' n1 c' (backM path) ∧ Keep Never V w'') := Lib.hid (fun V h h1 => by
    obtain ⟨r1, r2, r3, r4, r5, r6⟩ := stps_rd (s1.keep h (fun _ h => h.elim))
    refine (back_any A1 n1 c1 W.heap.size path V r1 r5 r3 (by omega) h.size).mono ?_
    rintro e w'' ⟨A', c', rfl, ho, hk⟩
    refine ⟨A', c', rfl, stps_own ho (fun s hs => ?_), hk⟩
    unfold backM at hs
    obtain ⟨u, hu, rfl⟩ := List.mem_map.1 hs
    exact r6 u (List.mem_reverse.1 hu))
  have HOb : Hid (∀ (V : World) (A' : Option Addr) (c' : Nat) (e a : Int) (r : Bool), Keep Never W V → TpLight x t → n1 ≤ 100 → repStp.Sl V V.heap.size A' n1 c' (backM path) → Calls Try.prog 20 #[.agg x.cs, .slice A' n1 c', .agg #[.int .i64 e, .int .i64 a, .bool r]] V fun en w' => en = .returned (.tuple #[.int .i64 (onP t (backM path) (e, a, r)).1, .int .i64 (onP t (backM path) (e, a, r)).2]) ∧ Keep Never V w') := Lib.hid (fun V A' c' e a r h hl hn hs => pon_any x t V.heap.size A' n1 c' (backM path) e a r V ((ht.keep h).more h.size) hl.small (Nat.le_refl _) hs (by omega))
  have HLn : Hid (∀ (V : World), Keep Never W V → TpLight x t → n1 ≤ 100 → Calls Try.prog 24 #[.agg x.cs, .slice A1 n1 c1] V fun en w' => en = .returned (.tuple #[.int .i64 (lenM t path).1, .int .i64 (lenM t path).2]) ∧ Keep Never V w') := Lib.hid (fun V h hl hn => length_any x t W.heap.size A1 n1 c1 path V (ht.keep h) (s1.keep h (fun _ h => h.elim)) hl.small.j (by omega))
  have HS1 := Lib.hid s1
  have HL : Hid (n1 = path.length) := Lib.hid s1.len
  obtain ⟨Ae, ne, ce, Aj, nj, cj, Ab, nb, cb, Ar, nr, cr⟩ := x
  simp only [TA.cs] at HLt HOf HOn HOb HLn ⊢
  clear ht
  obtain ⟨v1, hv1⟩ : ∃ V : World, W.alloc (.cells #[.slice Ae ne ce, .slice Aj nj cj, .slice Ab nb cb, .slice Ar nr cr] 27) = V := ⟨_, rfl⟩
  have kv1 : Keep Never W v1 := by rw [← hv1]; exact (Keep.refl _ _).alloc _
  have bv1 := Blk.new W 27 #[.slice Ae ne ce, .slice Aj nj cj, .slice Ab nb cb, .slice Ar nr cr]
  rw [hv1] at bv1
  have HB1 := Lib.hid bv1
  have HK := Lib.hid kv1
  clear kv1 bv1
  have HA := Lib.hid (awake14_any v1)
  go_enter Try.func7, Try.ntmps7
  go_wp2_with fail
  refine HA.out.mono ?_
  rintro en w101 ⟨rfl, hk1⟩
  have HK1 := Lib.hid (HK.out.trans hk1)
  have Hy1 := Lib.hid (HB1.out.keep hk1 (fun h => h))
  clear hk1 HA
  have y0 : w101.cell? ⟨W.heap.size, 0, none⟩ = some (.slice Ae ne ce) := Hy1.out.cell 0
  have y1 : w101.cell? ⟨W.heap.size, 1, none⟩ = some (.slice Aj nj cj) := Hy1.out.cell 1
  have y2 : w101.cell? ⟨W.heap.size, 2, none⟩ = some (.slice Ab nb cb) := Hy1.out.cell 2
  have y3 : w101.cell? ⟨W.heap.size, 3, none⟩ = some (.slice Ar nr cr) := Hy1.out.cell 3
  have HC := Lib.hid (HLt.out w101 HK1.out)
  clear HLt
  go_wp2_with fail
  refine HC.out.mono ?_
  rintro en w102 ⟨lt, rfl, hlt, hk2⟩
  have HK2 := Lib.hid (HK1.out.trans hk2)
  have Hy2 := Lib.hid (Hy1.out.keep hk2 (fun h => h))
  clear y0 y1 y2 y3 hk2 HC
  clear hv1
  cases lt with
  | false =>
    clear hlt
    go_wp2_with fail
    go_ret
    exact ⟨rfl, HK2.out⟩
  | true =>
    have HLi := Lib.hid (hlt.out rfl)
    clear hlt
    by_cases g0 : 100 < n1
    · have u0 : decide ((n1 : Int) > 100) = true := by simp; omega
      clear g0
      go_wp2_with fail
      go_ret
      exact ⟨rfl, HK2.out⟩
    have u0 : decide ((n1 : Int) > 100) = false := by simp; omega
    have hn1 : n1 ≤ 100 := by omega
    have Hn1 := Lib.hid hn1
    clear g0
    go_wp2_with fail
    clear u0
    go_loopw [9] (fun i wr => ∃ k : Nat, k ≤ n1 ∧ i = .int .i64 k ∧ Hid (Keep Never w102 wr ∧ ∀ (i j : Nat) (s u : Stp), i < j → j < k → path[i]? = some s → path[j]? = some u → s.1 ≠ u.1)) (fun i _ => n1 - (intOf i).toNat)
    case atStart => exact ⟨0, by omega, rfl, Lib.hid ⟨Keep.refl _ _, fun i j s u _ h => by omega⟩⟩
    case round =>
      obtain ⟨k, hk, rfl, HH⟩ := hrel
      by_cases h0 : k < n1
      · have hkz : (k : Int) < (n1 : Int) := by omega
        obtain ⟨ad5, sk, hA5, _, hu, _, _⟩ := ((stps_rd (HS1.out.keep (HK2.out.trans HH.out.1) (fun _ h => h.elim))).1).stp h0
        obtain ⟨v1, v2⟩ := sk
        have Hu := Lib.hid hu
        subst hA5
        obtain ⟨wk, hwk⟩ : ∃ z, wr = z := ⟨_, rfl⟩
        rw [hwk] at HH
        rw [hwk]
        clear hwk hu
        go_wp2_with fail
        go_loopw [10] (fun i wr => ∃ j : Nat, j ≤ k ∧ i = .int .i64 j ∧ Hid (Keep Never wk wr ∧ ∀ (i : Nat) (s : Stp), i < j → path[i]? = some s → s.1 ≠ v1)) (fun i _ => k - (intOf i).toNat)
        case atStart => exact ⟨0, by omega, rfl, Lib.hid ⟨Keep.refl _ _, fun i s h => by omega⟩⟩
        case round =>
          obtain ⟨j, hj, rfl, HJ⟩ := hrel
          by_cases h1 : j < k
          · have hjz : (j : Int) < (k : Int) := by omega
            have hj1 : j < n1 := by omega
            have hjn : (j : Int) < (n1 : Int) := by omega
            have hrd := (stps_rd (HS1.out.keep (HK2.out.trans (HH.out.1.trans HJ.out.1)) (fun _ h => h.elim))).1
            obtain ⟨ad6, sj, hA6, _, hv, c0, c1'⟩ := hrd.stp hj1
            obtain ⟨ad7, sk, hA7, _, hu, d0, d1⟩ := hrd.stp h0
            injection hA6 with hA6
            injection hA7 with hA7
            subst hA6 hA7
            rw [Hu.out] at hu
            injection hu with hu
            subst hu
            obtain ⟨o1, o2⟩ := sj
            simp only at c0 c1' d0 d1
            have Hv := Lib.hid hv
            clear hv hrd c1' d1
            by_cases gq : o1 = v1
            · have t1 : (o1 == v1) = true := by simpa using gq
              clear gq
              go_wp2_with fail
              go_quiet (fail)
              go_wp2_with fail
              go_ret
              exact ⟨rfl, HK2.out.trans (HH.out.1.trans (HJ.out.1.drewN _))⟩
            · have t1 : (o1 == v1) = false := by simpa using gq
              have HN : Hid (∀ (i : Nat) (s : Stp), i < j + 1 → path[i]? = some s → s.1 ≠ v1) := Lib.hid (fun i s hi hs => by
                by_cases e : i = j
                · rw [e, Hv.out] at hs; injection hs with hs; rw [← hs]; exact fun h => gq h
                · exact HJ.out.2 i s (by omega) hs)
              clear gq
              go_wp2_with fail
              go_quiet (fail)
              go_wp2_with fail
              refine ⟨⟨j + 1, by omega, by go_num, Lib.hid ⟨HJ.out.1.drewN _, HN.out⟩⟩, ?_⟩
              simp [intOf]; try omega
          · obtain rfl : k = j := by omega
            have hjz : ¬ (k : Int) < (k : Int) := by omega
            have HN : Hid (∀ (i j : Nat) (s u : Stp), i < j → j < k + 1 → path[i]? = some s → path[j]? = some u → s.1 ≠ u.1) := Lib.hid (fun i j s u hij hj hs hu => by
              by_cases e : j = k
              · rw [e, Hu.out] at hu; injection hu with hu; rw [← hu]; exact HJ.out.2 i s (by omega) hs
              · exact HH.out.2 i j s u hij (by omega) hs hu)
            go_wp2_with fail
            refine ⟨⟨k + 1, by omega, by go_num, Lib.hid ⟨HH.out.1.trans HJ.out.1, HN.out⟩⟩, ?_⟩
            simp [intOf]; try omega
      · obtain rfl : n1 = k := by omega
        have hkz : ¬ (n1 : Int) < (n1 : Int) := by omega
        have HOnc : Hid (onceM path) := Lib.hid (fun i k s u hs hu he => by
          have hi := (List.getElem?_eq_some_iff.1 hs).1
          have hk' := (List.getElem?_eq_some_iff.1 hu).1
          rcases Nat.lt_trichotomy i k with h | h | h
          · exact absurd he (HH.out.2 i k s u h (by rw [HL.out]; exact hk') hs hu)
          · exact h
          · exact absurd he.symm (HH.out.2 k i u s h (by rw [HL.out]; exact hi) hu hs))
        have hkl := HH.out.1
        clear HH hk
        have HKL := Lib.hid hkl
        have HK3 := Lib.hid (HK2.out.trans hkl)
        have Hy3 := Lib.hid (Hy2.out.keep hkl (fun h => h))
        clear hkl
        obtain ⟨⟨⟨x1, x2, x3⟩, xe⟩, hzx⟩ : ∃ z, offP t path n = z := ⟨_, rfl⟩
        have hw := HOf.out wr n HK3.out HLi.out Hn1.out
        rw [hzx] at hw
        unfold PsRet2 psV at hw
        dsimp only at hw
        have HC := Lib.hid hw
        have HZx := Lib.hid hzx
        clear hw hzx 
        have y0 : wr.cell? ⟨W.heap.size, 0, none⟩ = some (.slice Ae ne ce) := Hy3.out.cell 0
        have y1 : wr.cell? ⟨W.heap.size, 1, none⟩ = some (.slice Aj nj cj) := Hy3.out.cell 1
        have y2 : wr.cell? ⟨W.heap.size, 2, none⟩ = some (.slice Ab nb cb) := Hy3.out.cell 2
        have y3 : wr.cell? ⟨W.heap.size, 3, none⟩ = some (.slice Ar nr cr) := Hy3.out.cell 3
        go_wp2_with fail
        refine HC.out.mono ?_
        rintro en w104 ⟨rfl, hk4⟩
        have HK4 := Lib.hid (HK3.out.trans hk4)
        have Hy4 := Lib.hid (Hy3.out.keep hk4 (fun h => h))
        clear y0 y1 y2 y3 hk4 HC
        obtain ⟨w105, hw105⟩ : ∃ V : World, w104.alloc (.cells #[.int .i64 x1, .int .i64 x2, .bool x3] 29) = V := ⟨_, rfl⟩
        have kx : Keep Never w104 w105 := by rw [← hw105]; exact (Keep.refl _ _).alloc _
        have bx := Blk.new w104 29 #[.int .i64 x1, .int .i64 x2, .bool x3]
        rw [hw105] at bx
        obtain ⟨bX, hbX⟩ : ∃ q, w104.heap.size = q := ⟨_, rfl⟩
        rw [hbX] at bx
        have HBx5 := Lib.hid bx
        have HK5 := Lib.hid (HK4.out.trans kx)
        have Hy5 := Lib.hid (Hy4.out.keep kx (fun h => h))
        clear kx bx
        by_cases g : xe = 0
        case neg =>
          have t0 : (xe != 0) = true := by simpa using g
          have qz : ∀ w : World, (binOp .eql 29 (.agg #[.int .i64 x1, .int .i64 x2, .bool x3]) (.agg #[.int .i64 0, .int .i64 0, .bool false])).run Try.prog w = .ok (.bool true) w := by
            have h1 := off_none (t := t) (p := path) (n := n) (by rw [HZx.out]; exact g)
            rw [HZx.out] at h1
            injection h1 with h1 h2
            injection h2 with h2 h3
            (try simp only at h1 h2 h3)
            subst h1 h2 h3
            exact fun w => run_eql_pos w 0 0 false
          clear g
          have X0 : w105.cell? ⟨bX, 0, none⟩ = some (.int .i64 x1) := HBx5.out.cell 0
          have X1 : w105.cell? ⟨bX, 1, none⟩ = some (.int .i64 x2) := HBx5.out.cell 1
          have X2 : w105.cell? ⟨bX, 2, none⟩ = some (.bool x3) := HBx5.out.cell 2
          go_wp2_with fail
          go_ret
          exact ⟨rfl, HK5.out⟩
        subst g
        have t0 : ((0 : Int) != 0) = false := by decide
        have hok := off_ok (t := t) (p := path) (n := n) (by rw [HZx.out])
        have hbk := off_back (t := t) (p := path) (n := n) hok.1 hok.2.1 HOnc.out hok.2.2.1 hok.2.2.2.1
        have hpk : offK t path n = (x1, x2, x3) := by have h1 := hok.2.2.2.2; rw [HZx.out] at h1; injection h1 with h1; exact h1.symm
        rw [hpk] at hbk
        have hl1b : n ≤ (lenM t path).1 ∧ 0 ≤ (lenM t path).1 ∧ (lenM t path).1 ≤ 40000000 := by
          have h1 := hok.2.2.1
          have h2 := hok.2.2.2.1
          have h3 := sum_in hok.1 hok.2.1 (i := path.length) (Nat.le_refl _)
          rw [List.take_length, ← (good_of hok.1 hok.2.1).2.2] at h3
          omega
        obtain ⟨l1, hl1⟩ : ∃ z, (lenM t path).1 = z := ⟨_, rfl⟩
        rw [hl1] at hl1b hbk
        unfold turnP at hbk
        simp only at hbk
        have Hbk := Lib.hid hbk
        have hn0 := hok.2.2.1
        have hwl : wrap64 (l1 - n) = l1 - n := by have := IntWalk.i64_in (l1 - n) (by omega); rwa [IntWalk.i64_left] at this
        have hwl2 : IntKind.i64.wrap (l1 - n) = l1 - n := IntWalk.i64_in (l1 - n) (by omega)
        have hw2 := HLn.out
        rw [hl1, hok.2.1] at hw2
        have HLm := Lib.hid hw2
        have hw := HOn.out w105 x1 x2 x3 HK5.out HLi.out Hn1.out
        rw [hbk.1] at hw
        have HC := Lib.hid hw
        clear hw hw2 hbk hpk hl1b hl1 hn0 hok HLn
        have y0 : w105.cell? ⟨W.heap.size, 0, none⟩ = some (.slice Ae ne ce) := Hy5.out.cell 0
        have y1 : w105.cell? ⟨W.heap.size, 1, none⟩ = some (.slice Aj nj cj) := Hy5.out.cell 1
        have y2 : w105.cell? ⟨W.heap.size, 2, none⟩ = some (.slice Ab nb cb) := Hy5.out.cell 2
        have y3 : w105.cell? ⟨W.heap.size, 3, none⟩ = some (.slice Ar nr cr) := Hy5.out.cell 3
        have X0 : w105.cell? ⟨bX, 0, none⟩ = some (.int .i64 x1) := HBx5.out.cell 0
        have X1 : w105.cell? ⟨bX, 1, none⟩ = some (.int .i64 x2) := HBx5.out.cell 1
        have X2 : w105.cell? ⟨bX, 2, none⟩ = some (.bool x3) := HBx5.out.cell 2
        go_wp2_with fail
        refine HC.out.mono ?_
        rintro en w106 ⟨rfl, hk6⟩
        have HK6 := Lib.hid (HK5.out.trans hk6)
        have Hy6 := Lib.hid (Hy5.out.keep hk6 (fun h => h))
        have HX6 := Lib.hid (HBx5.out.keep hk6 (fun h => h))
        clear y0 y1 y2 y3 X0 X1 X2 hk6 HC
        clear t0 hw105 hbX
        have HC := Lib.hid (HLm.out w106 HK6.out HLi.out Hn1.out)
        have y0 : w106.cell? ⟨W.heap.size, 0, none⟩ = some (.slice Ae ne ce) := Hy6.out.cell 0
        have y1 : w106.cell? ⟨W.heap.size, 1, none⟩ = some (.slice Aj nj cj) := Hy6.out.cell 1
        have y2 : w106.cell? ⟨W.heap.size, 2, none⟩ = some (.slice Ab nb cb) := Hy6.out.cell 2
        have y3 : w106.cell? ⟨W.heap.size, 3, none⟩ = some (.slice Ar nr cr) := Hy6.out.cell 3
        go_wp2_with fail
        refine HC.out.mono ?_
        rintro en w107 ⟨rfl, hk7⟩
        have HK7 := Lib.hid (HK6.out.trans hk7)
        have Hy7 := Lib.hid (Hy6.out.keep hk7 (fun h => h))
        have HX7 := Lib.hid (HX6.out.keep hk7 (fun h => h))
        clear y0 y1 y2 y3 hk7 HC
        have HBk2 := Lib.hid (fun (V : World) (h : Keep Never w107 V) => HBk.out V (HK7.out.trans h) Hn1.out)
        have HOb2 := Lib.hid (fun (V : World) (A' : Option Addr) (c' : Nat) (h : Keep Never w107 V) (hs : repStp.Sl V V.heap.size A' n1 c' (backM path)) => HOb.out V A' c' x1 x2 (!x3) (HK7.out.trans h) HLi.out Hn1.out hs)
        rw [Hbk.out.2] at HOb2
        have HTu := Lib.hid (fun V => pturn_any x1 x2 x3 V)
        unfold PsRet psV turnP at HTu
        dsimp only at HTu HOb2
        have y0 : w107.cell? ⟨W.heap.size, 0, none⟩ = some (.slice Ae ne ce) := Hy7.out.cell 0
        have y1 : w107.cell? ⟨W.heap.size, 1, none⟩ = some (.slice Aj nj cj) := Hy7.out.cell 1
        have y2 : w107.cell? ⟨W.heap.size, 2, none⟩ = some (.slice Ab nb cb) := Hy7.out.cell 2
        have y3 : w107.cell? ⟨W.heap.size, 3, none⟩ = some (.slice Ar nr cr) := Hy7.out.cell 3
        have X0 : w107.cell? ⟨bX, 0, none⟩ = some (.int .i64 x1) := HX7.out.cell 0
        have X1 : w107.cell? ⟨bX, 1, none⟩ = some (.int .i64 x2) := HX7.out.cell 1
        have X2 : w107.cell? ⟨bX, 2, none⟩ = some (.bool x3) := HX7.out.cell 2
        have HS2 : Hid (∀ W', Keep Never w107 W' → Keep Never w107 W' ∧ W'.cell? ⟨W.heap.size, 0, none⟩ = some (.slice Ae ne ce) ∧ W'.cell? ⟨W.heap.size, 1, none⟩ = some (.slice Aj nj cj) ∧ W'.cell? ⟨W.heap.size, 2, none⟩ = some (.slice Ab nb cb) ∧ W'.cell? ⟨W.heap.size, 3, none⟩ = some (.slice Ar nr cr) ∧ W'.cell? ⟨bX, 0, none⟩ = some (.int .i64 x1) ∧ W'.cell? ⟨bX, 1, none⟩ = some (.int .i64 x2) ∧ W'.cell? ⟨bX, 2, none⟩ = some (.bool x3)) := Lib.hid (fun W' h => ⟨h, keepT h y0, keepT h y1, keepT h y2, keepT h y3, keepT h X0, keepT h X1, keepT h X2⟩)
        go_wp2_with fail
        clear y0 y1 y2 y3 X0 X1 X2
        go_region_held3 (fun W' => Keep Never w107 W' ∧ W'.cell? ⟨W.heap.size, 0, none⟩ = some (.slice Ae ne ce) ∧ W'.cell? ⟨W.heap.size, 1, none⟩ = some (.slice Aj nj cj) ∧ W'.cell? ⟨W.heap.size, 2, none⟩ = some (.slice Ab nb cb) ∧ W'.cell? ⟨W.heap.size, 3, none⟩ = some (.slice Ar nr cr) ∧ W'.cell? ⟨bX, 0, none⟩ = some (.int .i64 x1) ∧ W'.cell? ⟨bX, 1, none⟩ = some (.int .i64 x2) ∧ W'.cell? ⟨bX, 2, none⟩ = some (.bool x3))
          (first | assumption | exact HS2.out _ ((Keep.refl Never w107).drew) | exact HS2.out _ (Keep.trans (And.left (by assumption)) hk3) | exact HS2.out _ (Keep.trans ((Keep.refl Never w107).drew) hk3) | exact HS2.out _ (Keep.trans (And.left (by assumption)) hk4))
          (first
            | (go_at_call 25; refine (HBk2.out _ (by first | exact And.left (by assumption) | exact (Keep.refl Never w107).drew | exact Keep.refl Never w107)).mono ?_; rintro e w3 ⟨A6, c6, rfl, hs6, hk3⟩; have HS6 : Hid (∀ V, Keep Never w3 V → repStp.Sl V V.heap.size A6 n1 c6 (backM path)) := Lib.hid (fun V h => (hs6.keep h (fun _ h => h.elim)).more h.size); have HK36 := Lib.hid (Keep.refl Never w3))
            | (go_at_call 18; refine (HTu.out _).mono ?_; rintro e w4 ⟨rfl, hk3⟩; (try have HK36 := Lib.hid (HK36.out.trans hk3)))
            | (go_at_call 20; refine (HOb2.out _ A6 c6 (by first | exact And.left (by assumption) | exact (Keep.refl Never w107).drew | exact Keep.refl Never w107) (HS6.out _ HK36.out)).mono ?_; rintro e w7 ⟨rfl, hk3⟩))
        all_goals
          rename_i hS
          have HKe := Lib.hid (HK7.out.trans hS.1)
          clear hS
          have tq1 : (n == n) = true := by simp
          have tq2 : (l1 - n == l1 - n) = true := by simp
          go_wp2_with fail
          (try rw [hwl])
          (try go_wp2_with fail)
          go_ret
          exact ⟨rfl, HKe.out⟩

end Go.Proofs.Ytijdkjcjhfebfaa
