/- Chapter 13: are two ways, two routes the same (the document's Steps, SameRoute). -/
import Derived.Test.YtlcbajdckgcopaaTopR
namespace Go.Proofs.Ytlcbajdckgcopaa
open Go.RowKit

theorem run_neq_stp (w : World) (x1 : Int) (x2 : Bool) (y1 : Int) (y2 : Bool) : (binOp .neq 44 (.agg #[.int .i64 x1, .bool x2]) (.agg #[.int .i64 y1, .bool y2])).run Try.prog w = .ok (.bool (!sameS x1 x2 y1 y2)) w := by
  by_cases h1 : x1 = y1
  · have t1 : (x1 == y1) = true := by simpa using h1
    by_cases h2 : x2 = y2
    · have t2 : (x2 == y2) = true := by simpa using h2
      have hd : sameS x1 x2 y1 y2 = true := decide_eq_true (by rw [h1, h2])
      rw [hd]
      clear h1 h2 hd
      go_simp
    · have t2 : (x2 == y2) = false := by simpa using h2
      have hd : sameS x1 x2 y1 y2 = false := decide_eq_false (by simp [h2])
      rw [hd]
      clear h1 h2 hd
      go_simp
  · have t1 : (x1 == y1) = false := by simpa using h1
    have hd : sameS x1 x2 y1 y2 = false := decide_eq_false (by simp [h1])
    rw [hd]
    clear h1 hd
    go_simp
set_option maxHeartbeats 1000000 in
set_option maxRecDepth 100000 in
theorem steps_any (A A' : Option Addr) (n n' c c' B B' : Nat) (l m : List Stp) (w : World) (hr : Rd w B 2 A n (stpCells l)) (hr' : Rd w B' 2 A' n' (stpCells m)) (hn : n ≤ 100000000) (hn' : n' ≤ 100000000) :
    Calls Try.prog 62 #[.slice A n c, .slice A' n' c'] w fun e w' => e = .returned (.bool (decide (l = m))) ∧ Keep Never w w' := by
  have qe : ∀ (w : World) (x1 : Int) (x2 : Bool) (y1 : Int) (y2 : Bool), (binOp .neq 44 (.agg #[.int .i64 x1, .bool x2]) (.agg #[.int .i64 y1, .bool y2])).run Try.prog w = .ok (.bool (!sameS x1 x2 y1 y2)) w := run_neq_stp
  have HL : Hid (l.length = n ∧ m.length = n') := Lib.hid ⟨hr.stp_len, hr'.stp_len⟩
  have HR := Lib.hid hr
  have HR' := Lib.hid hr'
  clear hr hr'
  by_cases h0 : n = n'
  case neg =>
    have t0 : ((n : Int) != (n' : Int)) = true := by simp; omega
    have HF : Hid (decide (l = m) = false) := Lib.hid (decide_eq_false (fun e => h0 (by rw [← HL.out.1, ← HL.out.2, e])))
    clear h0
    go_enter Try.func62, Try.ntmps62
    go_wp2_with fail
    go_ret
    exact ⟨by rw [HF.out]; rfl, Keep.refl _ _⟩
  subst h0
  have t0 : ((n : Int) != (n : Int)) = false := by simp
  go_enter Try.func62, Try.ntmps62
  go_wp2_with fail
  clear t0
  go_loopw [5] (fun i wr => ∃ k : Nat, k ≤ n ∧ i = .int .i64 k ∧ Hid (Keep Never w wr ∧ l.take k = m.take k)) (fun i _ => n - (intOf i).toNat)
  case atStart => exact ⟨0, by omega, rfl, Lib.hid ⟨Keep.refl _ _, by simp⟩⟩
  case round =>
    obtain ⟨k, hk, rfl, HH⟩ := hrel
    by_cases h0 : k < n
    · have hkz : (k : Int) < (n : Int) := by omega
      obtain ⟨ad, u, hA, _, hu, c0, c1⟩ := (HR.out.keep HH.out.1 (fun _ h => h.elim)).stp h0
      obtain ⟨ae, v, hA', _, hv, d0, d1⟩ := (HR'.out.keep HH.out.1 (fun _ h => h.elim)).stp h0
      subst hA hA'
      obtain ⟨u1, u2⟩ := u
      obtain ⟨v1, v2⟩ := v
      simp only at c0 c1 d0 d1
      have Hu := Lib.hid hu
      have Hv := Lib.hid hv
      have HT : Hid (l.take (k + 1) = l.take k ++ [(u1, u2)] ∧ m.take (k + 1) = m.take k ++ [(v1, v2)]) := Lib.hid (by
        obtain ⟨h2, h3⟩ := List.getElem?_eq_some_iff.1 hu
        obtain ⟨h4, h5⟩ := List.getElem?_eq_some_iff.1 hv
        exact ⟨by rw [List.take_succ_eq_append_getElem h2, h3], by rw [List.take_succ_eq_append_getElem h4, h5]⟩)
      clear hu hv
      go_wp2_with fail
      rcases Bool.eq_false_or_eq_true (sameS u1 u2 v1 v2) with t1 | t1
      · have HN : Hid (l.take (k + 1) = m.take (k + 1)) := Lib.hid (by rw [HT.out.1, HT.out.2, HH.out.2, of_decide_eq_true t1])
        have t2 : (!sameS u1 u2 v1 v2) = false := by rw [t1]; rfl
        go_quiet (fail)
        go_wp2_with fail
        refine ⟨⟨k + 1, by omega, by go_num, Lib.hid ⟨HH.out.1.drewN _, HN.out⟩⟩, ?_⟩
        simp [intOf]; try omega
      · have HF : Hid (decide (l = m) = false) := Lib.hid (decide_eq_false (fun e => by
          have h1 := Hu.out
          rw [e, Hv.out] at h1
          injection h1 with h1
          exact (of_decide_eq_false t1) h1.symm))
        have t2 : (!sameS u1 u2 v1 v2) = true := by rw [t1]; rfl
        go_quiet (fail)
        go_wp2_with fail
        go_ret
        exact ⟨by rw [HF.out]; rfl, HH.out.1.drewN _⟩
    · obtain rfl : k = n := by omega
      have hkz : ¬ (k : Int) < (k : Int) := by omega
      have HF : Hid (decide (l = m) = true) := Lib.hid (decide_eq_true (by
        have := HH.out.2
        rwa [List.take_of_length_le (by rw [HL.out.1]; exact Nat.le_refl _), List.take_of_length_le (by rw [HL.out.2]; exact Nat.le_refl _)] at this))
      go_wp2_with fail
      go_ret
      exact ⟨by rw [HF.out]; rfl, HH.out.1⟩

/-- the values of a route -/
abbrev rtV (i g m : Int) (A : Option Addr) (n c : Nat) : Value := .agg #[.int .i64 i, .slice A n c, .int .i64 g, .int .i64 m]
set_option maxHeartbeats 4000000 in
set_option maxRecDepth 100000 in
theorem sameRt_any (r s : Rt) (A A' : Option Addr) (n n' c c' B B' : Nat) (w : World) (hr : Rd w B 2 A n (stpCells r.2.1)) (hr' : Rd w B' 2 A' n' (stpCells s.2.1)) (hn : n ≤ 100000000) (hn' : n' ≤ 100000000) :
    Calls Try.prog 20 #[rtV r.1 r.2.2.1 r.2.2.2 A n c, rtV s.1 s.2.2.1 s.2.2.2 A' n' c'] w fun e w' => e = .returned (.bool (decide (r = s))) ∧ Keep Never w w' := by
  obtain ⟨r1, p, r3, r4⟩ := r
  obtain ⟨s1, q, s3, s4⟩ := s
  simp only [rtV] at hr hr' ⊢
  obtain ⟨w1, hw1⟩ : ∃ wb : World, w.alloc (.cells #[.int .i64 r1, .slice A n c, .int .i64 r3, .int .i64 r4] 36) = wb := ⟨_, rfl⟩
  obtain ⟨w2, hw2⟩ : ∃ wb : World, w1.alloc (.cells #[.int .i64 s1, .slice A' n' c', .int .i64 s3, .int .i64 s4] 36) = wb := ⟨_, rfl⟩
  have z1 : w1.heap.size = w.heap.size + 1 := by rw [← hw1]; simp
  have k1 : Keep Never w w1 := by rw [← hw1]; exact (Keep.refl _ _).alloc _
  have k2 : Keep Never w1 w2 := by rw [← hw2]; exact (Keep.refl _ _).alloc _
  have b1 := Blk.new w 36 #[.int .i64 r1, .slice A n c, .int .i64 r3, .int .i64 r4]
  rw [hw1] at b1
  have b2 := Blk.new w1 36 #[.int .i64 s1, .slice A' n' c', .int .i64 s3, .int .i64 s4]
  rw [hw2, z1] at b2
  have HB1 := Lib.hid (b1.keep k2 (fun h => h))
  have HB2 := Lib.hid b2
  have HK := Lib.hid (k1.trans k2)
  have HC := Lib.hid (steps_any A A' n n' c c' B B' p q w2 (hr.keep HK.out (fun _ h => h.elim)) (hr'.keep HK.out (fun _ h => h.elim)) hn hn')
  have y1 : w2.cell? ⟨w.heap.size, 1, none⟩ = some (.slice A n c) := HB1.out.cell 1
  have v1 : w2.cell? ⟨w.heap.size + 1, 1, none⟩ = some (.slice A' n' c') := HB2.out.cell 1
  clear k1 k2 b1 b2 hr hr'
  go_enter Try.func20, Try.ntmps20
  go_wp2_with fail
  refine HC.out.mono ?_
  rintro e w3 ⟨rfl, hk3⟩
  have HK3 := Lib.hid (HK.out.trans hk3)
  have hb1 := HB1.out.keep hk3 (fun h => h)
  have hb2 := HB2.out.keep hk3 (fun h => h)
  have y0 : w3.cell? ⟨w.heap.size, 0, none⟩ = some (.int .i64 r1) := hb1.cell 0
  have y2 : w3.cell? ⟨w.heap.size, 2, none⟩ = some (.int .i64 r3) := hb1.cell 2
  have y3 : w3.cell? ⟨w.heap.size, 3, none⟩ = some (.int .i64 r4) := hb1.cell 3
  have v0 : w3.cell? ⟨w.heap.size + 1, 0, none⟩ = some (.int .i64 s1) := hb2.cell 0
  have v2 : w3.cell? ⟨w.heap.size + 1, 2, none⟩ = some (.int .i64 s3) := hb2.cell 2
  have v3 : w3.cell? ⟨w.heap.size + 1, 3, none⟩ = some (.int .i64 s4) := hb2.cell 3
  clear hk3 hb1 hb2 y1 v1 HC
  cases hp : decide (p = q) with
  | false =>
    have HF : Hid (decide (((r1, p, r3, r4) : Rt) = (s1, q, s3, s4)) = false) := Lib.hid (decide_eq_false (fun e => by injection e with _ e; injection e with e _; exact of_decide_eq_false hp e))
    clear hp
    go_wp2_with fail
    go_ret
    exact ⟨by rw [HF.out]; rfl, HK3.out⟩
  | true =>
    have HP := Lib.hid (of_decide_eq_true hp)
    clear hp
    by_cases g1 : r1 = s1
    case neg =>
      have t1 : (r1 == s1) = false := by simpa using g1
      have HF : Hid (decide (((r1, p, r3, r4) : Rt) = (s1, q, s3, s4)) = false) := Lib.hid (decide_eq_false (fun e => by injection e with e _; exact g1 e))
      clear g1
      go_wp2_with fail
      go_ret
      exact ⟨by rw [HF.out]; rfl, HK3.out⟩
    have t1 : (r1 == s1) = true := by simpa using g1
    by_cases g2 : r3 = s3
    case neg =>
      have t2 : (r3 == s3) = false := by simpa using g2
      have HF : Hid (decide (((r1, p, r3, r4) : Rt) = (s1, q, s3, s4)) = false) := Lib.hid (decide_eq_false (fun e => by injection e with _ e; injection e with _ e; injection e with e _; exact g2 e))
      clear g1 g2
      go_wp2_with fail
      go_ret
      exact ⟨by rw [HF.out]; rfl, HK3.out⟩
    have t2 : (r3 == s3) = true := by simpa using g2
    by_cases g3 : r4 = s4
    case neg =>
      have t3 : (r4 == s4) = false := by simpa using g3
      have HF : Hid (decide (((r1, p, r3, r4) : Rt) = (s1, q, s3, s4)) = false) := Lib.hid (decide_eq_false (fun e => by injection e with _ e; injection e with _ e; injection e with _ e; exact g3 e))
      clear g1 g2 g3
      go_wp2_with fail
      go_ret
      exact ⟨by rw [HF.out]; rfl, HK3.out⟩
    have t3 : (r4 == s4) = true := by simpa using g3
    have HF : Hid (decide (((r1, p, r3, r4) : Rt) = (s1, q, s3, s4)) = true) := Lib.hid (decide_eq_true (by rw [g1, g2, g3, HP.out]))
    clear g1 g2 g3
    go_wp2_with fail
    go_ret
    exact ⟨by rw [HF.out]; rfl, HK3.out⟩

end Go.Proofs.Ytlcbajdckgcopaa
