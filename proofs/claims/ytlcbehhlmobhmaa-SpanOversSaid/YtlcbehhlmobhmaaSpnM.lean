/- Chapter 15: Same, normal, awake. -/
import Derived.Test.YtlcbehhlmobhmaaSpnL
namespace Go.Proofs.Ytlcbehhlmobhmaa
open Go.RowKit

set_option maxHeartbeats 2000000 in
set_option maxRecDepth 100000 in
theorem same15_any (l m : List Sp) (A A' : Option Addr) (n n' c c' B B' : Nat) (w : World) (hr : Rd w B 3 A n (spCells l)) (hr' : Rd w B' 3 A' n' (spCells m)) (hn : n ≤ 100000000000) (hn' : n' ≤ 100000000000) :
    Calls Try.prog 10 #[.slice A n c, .slice A' n' c'] w fun e w' => e = .returned (.bool (decide (l = m))) ∧ Keep Never w w' := by
  have Hl := Lib.hid hr.sp_len
  have Hm := Lib.hid hr'.sp_len
  have Hr := Lib.hid hr
  have Hr' := Lib.hid hr'
  clear hr hr'
  by_cases hne : n = n'
  · subst hne
    go_enter Try.func10, Try.ntmps10
    go_wp2_with fail
    go_loopw [5] (fun i wr => ∃ k : Nat, k ≤ n ∧ i = .int .i64 k ∧ Hid (Keep Never w wr ∧ l.take k = m.take k)) (fun i _ => n - (intOf i).toNat)
    case atStart => exact ⟨0, by omega, rfl, Keep.refl _ _, by simp⟩
    case round =>
      obtain ⟨k, hk, rfl, HH⟩ := hrel
      by_cases h0 : k < n
      · obtain ⟨ad, x, hA, _, hx, c0, c1, c2⟩ := (Hr.out.keep HH.out.1 (fun _ h => h.elim)).sp h0
        obtain ⟨ad', y, hA', _, hy, d0, d1, d2⟩ := (Hr'.out.keep HH.out.1 (fun _ h => h.elim)).sp h0
        subst hA
        subst hA'
        obtain ⟨x1, x2, x3⟩ := x
        obtain ⟨y1, y2, y3⟩ := y
        simp only at c0 c1 c2 d0 d1 d2
        have HX := Lib.hid hx
        have HY := Lib.hid hy
        have hki : (k : Int) < (n : Int) := by omega
        have hk00 : (0 : Int) ≤ (k : Int) := by omega
        clear hx hy
        have htx : Hid (l.take (k + 1) = l.take k ++ [(x1, x2, x3)]) := by
          obtain ⟨h2, h3⟩ := List.getElem?_eq_some_iff.1 HX.out
          show _ = _
          rw [List.take_succ_eq_append_getElem h2, h3]
        have hty : Hid (m.take (k + 1) = m.take k ++ [(y1, y2, y3)]) := by
          obtain ⟨h2, h3⟩ := List.getElem?_eq_some_iff.1 HY.out
          show _ = _
          rw [List.take_succ_eq_append_getElem h2, h3]
        by_cases hxy : x1 = y1 ∧ x2 = y2 ∧ x3 = y3
        · obtain ⟨rfl, rfl, rfl⟩ := hxy
          go_wp2_with fail
          go_quiet (fail)
          go_wp2_with fail
          go_roundw
          case rel => exact ⟨k + 1, by omega, by go_num, HH.out.1.drewN _, by rw [htx.out, hty.out, HH.out.2]⟩
          case measure => simp [intOf]; try omega
        · have hb : (x1 == y1) = false ∨ ((x1 == y1) = true ∧ (x2 == y2) = false) ∨ ((x1 == y1) = true ∧ (x2 == y2) = true ∧ (x3 == y3) = false) := by
            by_cases h : x1 = y1
            · right
              by_cases h2 : x2 = y2
              · right; exact ⟨by simpa using h, by simpa using h2, by simp; exact fun h' => hxy ⟨h, h2, h'⟩⟩
              · left; exact ⟨by simpa using h, by simpa using h2⟩
            · exact .inl (by simpa using h)
          have hne : Hid (decide (l = m) = false) := by
            show _ = _
            rw [decide_eq_false_iff_not]
            intro e
            have h1 := HX.out
            rw [e, HY.out] at h1
            injection h1 with h1
            injection h1 with h1 h2
            injection h2 with h2 h3
            exact hxy ⟨h1.symm, h2.symm, h3.symm⟩
          clear hxy
          rcases hb with hb | ⟨hb, hb2⟩ | ⟨hb, hb2, hb3⟩
          all_goals
            go_wp2_with fail
            go_quiet (fail)
            go_wp2_with fail
            go_ret
            exact ⟨by rw [hne.out]; rfl, HH.out.1.drewN _⟩
      · obtain rfl : k = n := by omega
        have he : Hid (decide (l = m) = true) := by
          show _ = _
          rw [decide_eq_true_iff]
          have := HH.out.2
          rwa [List.take_of_length_le (by rw [Hl.out]; exact Nat.le_refl _), List.take_of_length_le (by rw [Hm.out]; exact Nat.le_refl _)] at this
        go_wp2_with fail
        go_ret
        exact ⟨by rw [he.out]; rfl, HH.out.1⟩
  · have he : Hid (decide (l = m) = false) := by
      show _ = _
      rw [decide_eq_false_iff_not]
      intro e
      have h1 := Hl.out
      rw [e, Hm.out] at h1
      exact hne h1.symm
    have hb : ((n : Int) == (n' : Int)) = false := by simp; omega
    clear hne
    go_enter Try.func10, Try.ntmps10
    go_wp2_with fail
    go_ret
    exact ⟨by rw [he.out]; rfl, Keep.refl _ _⟩

set_option maxHeartbeats 4000000 in
set_option maxRecDepth 100000 in
theorem normal_any (l : List Sp) (A : Option Addr) (n c B : Nat) (w : World) (hr : Rd w B 3 A n (spCells l)) (hN : NormalS l) (hn : n ≤ 100000000000) :
    Calls Try.prog 26 #[.slice A n c] w fun e w' => e = .returned (.bool true) ∧ Keep Never w w' := by
  have Hr := Lib.hid hr
  have HN := Lib.hid hN
  clear hr hN
  go_enter Try.func26, Try.ntmps26
  go_wp2_with fail
  go_loopw [3] (fun i wr => ∃ k : Nat, k ≤ n ∧ i = .int .i64 k ∧ Hid (Keep Never w wr)) (fun i _ => n - (intOf i).toNat)
  case atStart => exact ⟨0, by omega, rfl, Keep.refl _ _⟩
  case round =>
    obtain ⟨k, hk, rfl, HH⟩ := hrel
    by_cases h0 : k < n
    · obtain ⟨ad, s, hA, _, hs, c0, c1, c2⟩ := (Hr.out.keep HH.out (fun _ h => h.elim)).sp h0
      subst hA
      have hsm := someS_iff.1 (HN.out.1 s (List.mem_of_getElem? hs))
      have hki : (k : Int) < (n : Int) := by omega
      by_cases hk0 : k = 0
      · have k1 : decide (0 < k) = false := by simp; omega
        obtain ⟨s1, s2, s3⟩ := s
        simp only at c0 c1 c2 hsm
        obtain ⟨p1, p2, p3, p4⟩ := hsm
        have t1 : decide (s1 < 0) = false := by simpa using p1
        have t2 : decide (s2 < 0) = false := by simpa using p2
        have t3 : decide (s2 ≥ s3) = false := by simpa using p3
        have t4 : decide (s3 > 1000000) = false := by simpa using p4
        have HK := Lib.hid (HH.out.alloc (.cells #[.int .i64 s1, .int .i64 s2, .int .i64 s3] 29))
        clear hs p1 p2 p3 p4 hk0
        go_wp2_with fail
        go_quiet (fail)
        go_wp2_with fail
        go_roundw
        case rel => exact ⟨k + 1, by omega, by go_num, HK.out.drewN _⟩
        case measure => simp [intOf]; try omega
      · obtain ⟨k0, hk0'⟩ : ∃ k0, k - 1 = k0 := ⟨_, rfl⟩
        obtain ⟨ad', p, hA', _, hp, d0, d1, d2⟩ := (Hr.out.keep HH.out (fun _ h => h.elim)).sp (k := k0) (by omega)
        obtain rfl : ad = ad' := by injection hA'
        have hsep : sepS p s := by
          obtain ⟨i1, e1⟩ := List.getElem?_eq_some_iff.1 hp
          obtain ⟨i2, e2⟩ := List.getElem?_eq_some_iff.1 hs
          rw [← e1, ← e2]
          exact List.pairwise_iff_getElem.1 HN.out.2 k0 k i1 i2 (by omega)
        obtain ⟨s1, s2, s3⟩ := s
        obtain ⟨q1, q2, q3⟩ := p
        simp only at c0 c1 c2 d0 d1 d2 hsm
        unfold sepS at hsep
        simp only at hsep
        obtain ⟨p1, p2, p3, p4⟩ := hsm
        obtain ⟨wb, hwb⟩ : ∃ wb : World, wr.alloc (.cells #[.int .i64 s1, .int .i64 s2, .int .i64 s3] 29) = wb := ⟨_, rfl⟩
        have hkb : Keep Never wr wb := by rw [← hwb]; exact (Keep.refl _ _).alloc _
        have hbb := Blk.new wr 29 #[.int .i64 s1, .int .i64 s2, .int .i64 s3]
        rw [hwb] at hbb
        have y0 : wb.cell? ⟨wr.heap.size, 0, none⟩ = some (.int .i64 s1) := hbb.cell 0
        have y1 : wb.cell? ⟨wr.heap.size, 1, none⟩ = some (.int .i64 s2) := hbb.cell 1
        have y2 : wb.cell? ⟨wr.heap.size, 2, none⟩ = some (.int .i64 s3) := hbb.cell 2
        have z0 : wb.cell? (ad.add (k0 * 3)) = some (.int .i64 q1) := (hkb.cell (cell_lt d0) (fun h => h)).trans d0
        have z2 : wb.cell? ⟨(ad.add (k0 * 3)).block, (ad.add (k0 * 3)).off + 2, none⟩ = some (.int .i64 q3) := (hkb.cell (cell_lt d2) (fun h => h)).trans d2
        have HK := Lib.hid (HH.out.trans hkb)
        have t1 : decide (s1 < 0) = false := by simpa using p1
        have t2 : decide (s2 < 0) = false := by simpa using p2
        have t3 : decide (s2 ≥ s3) = false := by simpa using p3
        have t4 : decide (s3 > 1000000) = false := by simpa using p4
        have k1 : decide (0 < k) = true := by simp; omega
        have k1' : 0 < k := by omega
        have k2 : (k : Int) - 1 = (k0 : Int) := by omega
        have k3 : (k0 : Int) < (n : Int) := by omega
        have k4 : (0 : Int) ≤ (k0 : Int) := by omega
        have k5 : k0 < n := by omega
        have g1 : decide (q1 > s1) = false := by simp; omega
        clear hs hp p1 p2 p3 p4 hbb hkb d0 d1 d2 hk0' hk0
        by_cases hq : q1 = s1
        · have g2 : (q1 == s1) = true := by simpa using hq
          have g3 : decide (q3 ≥ s2) = false := by simp; omega
          clear hq hsep
          go_wp2_with fail
          go_quiet (fail)
          go_wp2_with fail
          go_roundw
          case rel => exact ⟨k + 1, by omega, by go_num, HK.out.drewN _⟩
          case measure => simp [intOf]; try omega
        · have g2 : (q1 == s1) = false := by simpa using hq
          clear hq hsep
          go_wp2_with fail
          go_quiet (fail)
          go_wp2_with fail
          go_roundw
          case rel => exact ⟨k + 1, by omega, by go_num, HK.out.drewN _⟩
          case measure => simp [intOf]; try omega
    · obtain rfl : k = n := by omega
      have hki : ¬ (k : Int) < (k : Int) := by omega
      go_wp2_with fail
      go_ret
      exact ⟨rfl, HH.out⟩

end Go.Proofs.Ytlcbehhlmobhmaa
