/- Chapter 15: the document's Has, with, wanted. -/
import Derived.Test.YtpahfobijmmmmaaSpnQ
namespace Go.Proofs.Ytpahfobijmmmmaa
open Go.RowKit

set_option maxRecDepth 100000 in
theorem elemInt : Elem Try.prog 84 3 1 8 := ⟨Try.underlying84, _, _, rfl, rfl, rfl, rfl, rfl, by omega⟩
def iv (x : Int) : Value := .int .i64 x

theorem has_six2 (s : Sp) (e a : Int) : (someS s && hasS s e a) = (decide (s.1 ≥ 0) && decide (s.2.1 ≥ 0) && decide (s.2.2 ≤ 1000000) && (s.1 == e) && decide (s.2.1 ≤ a) && decide (a < s.2.2)) := by
  apply bool_ext
  simp only [Bool.and_eq_true, someS_iff, hasS_iff, beq_iff_eq, decide_eq_true_eq]
  omega

theorem six (p1 p2 p3 p4 p5 p6 : Bool) : p1 = false ∨ (p1 = true ∧ p2 = false) ∨ (p1 = true ∧ p2 = true ∧ p3 = false) ∨ (p1 = true ∧ p2 = true ∧ p3 = true ∧ p4 = false) ∨ (p1 = true ∧ p2 = true ∧ p3 = true ∧ p4 = true ∧ p5 = false) ∨
    (p1 = true ∧ p2 = true ∧ p3 = true ∧ p4 = true ∧ p5 = true ∧ p6 = false) ∨ (p1 = true ∧ p2 = true ∧ p3 = true ∧ p4 = true ∧ p5 = true ∧ p6 = true) := by
  cases p1 <;> cases p2 <;> cases p3 <;> cases p4 <;> cases p5 <;> cases p6 <;> simp
theorem hasL_take {l : List Sp} {k : Nat} {s : Sp} (h : l[k]? = some s) (e a : Int) : hasL (l.take (k + 1)) e a = (hasL (l.take k) e a || (someS s && hasS s e a)) := by
  rw [List.take_add_one, h]
  simp [hasL]
theorem hasL_take_le {l : List Sp} {k : Nat} {e a : Int} (h : hasL (l.take k) e a = true) : hasL l e a = true := by
  rw [hasL_iff] at h ⊢
  obtain ⟨s, hs, h2⟩ := h
  exact ⟨s, List.mem_of_mem_take hs, h2⟩

set_option maxHeartbeats 4000000 in
set_option maxRecDepth 100000 in
theorem rhas_any (A : Option Addr) (n c B : Nat) (l : List Sp) (e a : Int) (w : World) (hr : Rd w B 3 A n (spCells l)) (hn : n ≤ 100000000000) :
    Calls Try.prog 69 #[.slice A n c, .int .i64 e, .int .i64 a] w fun en w' => en = .returned (.bool (hasL l e a)) ∧ Keep Never w w' := by
  have Hr := Lib.hid hr
  have HL := Lib.hid hr.sp_len
  clear hr
  go_enter Try.func69, Try.ntmps69
  go_wp2_with fail
  go_loopw [7] (fun i wr => ∃ k : Nat, k ≤ n ∧ i = .int .i64 k ∧ Hid (Keep Never w wr ∧ hasL (l.take k) e a = false)) (fun i _ => n - (intOf i).toNat)
  case atStart => exact ⟨0, by omega, rfl, Lib.hid ⟨Keep.refl _ _, rfl⟩⟩
  case round =>
    obtain ⟨k, hk, rfl, HH⟩ := hrel
    by_cases h0 : k < n
    · obtain ⟨ad, s, hA, _, hs, c0, c1, c2⟩ := (Hr.out.keep HH.out.1 (fun _ h => h.elim)).sp h0
      subst hA
      obtain ⟨s1, s2, s3⟩ := s
      simp only at c0 c1 c2
      have hki : (k : Int) < (n : Int) := by omega
      have HT := Lib.hid (hasL_take hs e a)
      have H6 := Lib.hid (has_six2 (s1, s2, s3) e a)
      obtain ⟨wb, hwb⟩ : ∃ wb : World, wr.alloc (.cells #[.int .i64 s1, .int .i64 s2, .int .i64 s3] 56) = wb := ⟨_, rfl⟩
      have hkb : Keep Never wr wb := by rw [← hwb]; exact (Keep.refl _ _).alloc _
      have hbb := Blk.new wr 56 #[.int .i64 s1, .int .i64 s2, .int .i64 s3]
      rw [hwb] at hbb
      have y0 : wb.cell? ⟨wr.heap.size, 0, none⟩ = some (.int .i64 s1) := hbb.cell 0
      have y1 : wb.cell? ⟨wr.heap.size, 1, none⟩ = some (.int .i64 s2) := hbb.cell 1
      have y2 : wb.cell? ⟨wr.heap.size, 2, none⟩ = some (.int .i64 s3) := hbb.cell 2
      have HK := Lib.hid (HH.out.1.trans hkb)
      clear hs hkb hbb
      rcases six (decide (s1 ≥ 0)) (decide (s2 ≥ 0)) (decide (s3 ≤ 1000000)) (s1 == e) (decide (s2 ≤ a)) (decide (a < s3)) with g1 | ⟨g1, g2⟩ | ⟨g1, g2, g3⟩ | ⟨g1, g2, g3, g4⟩ | ⟨g1, g2, g3, g4, g5⟩ | ⟨g1, g2, g3, g4, g5, g6⟩ | ⟨g1, g2, g3, g4, g5, g6⟩
      · have HF : Hid (hasL (l.take (k + 1)) e a = false) := Lib.hid (by rw [HT.out, HH.out.2, H6.out]; simp only [g1]; rfl)
        go_wp2_with fail
        refine ⟨⟨k + 1, by omega, by go_num, Lib.hid ⟨HK.out, HF.out⟩⟩, ?_⟩
        simp [intOf]; try omega
      · have HF : Hid (hasL (l.take (k + 1)) e a = false) := Lib.hid (by rw [HT.out, HH.out.2, H6.out]; simp only [g1, g2]; rfl)
        go_wp2_with fail
        refine ⟨⟨k + 1, by omega, by go_num, Lib.hid ⟨HK.out, HF.out⟩⟩, ?_⟩
        simp [intOf]; try omega
      · have HF : Hid (hasL (l.take (k + 1)) e a = false) := Lib.hid (by rw [HT.out, HH.out.2, H6.out]; simp only [g1, g2, g3]; rfl)
        go_wp2_with fail
        refine ⟨⟨k + 1, by omega, by go_num, Lib.hid ⟨HK.out, HF.out⟩⟩, ?_⟩
        simp [intOf]; try omega
      · have HF : Hid (hasL (l.take (k + 1)) e a = false) := Lib.hid (by rw [HT.out, HH.out.2, H6.out]; simp only [g1, g2, g3, g4]; rfl)
        go_wp2_with fail
        refine ⟨⟨k + 1, by omega, by go_num, Lib.hid ⟨HK.out, HF.out⟩⟩, ?_⟩
        simp [intOf]; try omega
      · have HF : Hid (hasL (l.take (k + 1)) e a = false) := Lib.hid (by rw [HT.out, HH.out.2, H6.out]; simp only [g1, g2, g3, g4, g5]; rfl)
        go_wp2_with fail
        refine ⟨⟨k + 1, by omega, by go_num, Lib.hid ⟨HK.out, HF.out⟩⟩, ?_⟩
        simp [intOf]; try omega
      · have HF : Hid (hasL (l.take (k + 1)) e a = false) := Lib.hid (by rw [HT.out, HH.out.2, H6.out]; simp only [g1, g2, g3, g4, g5, g6]; rfl)
        go_wp2_with fail
        refine ⟨⟨k + 1, by omega, by go_num, Lib.hid ⟨HK.out, HF.out⟩⟩, ?_⟩
        simp [intOf]; try omega
      · have HF : Hid (hasL l e a = true) := Lib.hid (hasL_take_le (k := k + 1) (by rw [HT.out, HH.out.2, H6.out]; simp only [g1, g2, g3, g4, g5, g6]; rfl))
        go_wp2_with fail
        go_ret
        exact ⟨by rw [HF.out]; rfl, HK.out⟩
    · obtain rfl : k = n := by omega
      have hki : ¬ (k : Int) < (k : Int) := by omega
      have HF : Hid (hasL l e a = false) := Lib.hid (by
        have := HH.out.2
        rwa [List.take_of_length_le (by rw [HL.out]; exact Nat.le_refl _)] at this)
      go_wp2_with fail
      go_ret
      exact ⟨by rw [HF.out]; rfl, HH.out.1⟩

set_option maxHeartbeats 4000000 in
set_option maxRecDepth 100000 in
theorem wanted_any (k : Bool × Bool × Bool) (a b : Bool) (w : World) :
    Calls Try.prog 70 #[.agg #[.bool k.1, .bool k.2.1, .bool k.2.2], .bool a, .bool b] w fun e w' => e = .returned (.bool (wantB k a b)) ∧ Keep Never w w' := by
  obtain ⟨k1, k2, k3⟩ := k
  simp only
  obtain ⟨wb, hwb⟩ : ∃ wb : World, w.alloc (.cells #[.bool k1, .bool k2, .bool k3] 96) = wb := ⟨_, rfl⟩
  have hkb : Keep Never w wb := by rw [← hwb]; exact (Keep.refl _ _).alloc _
  have hbb := Blk.new w 96 #[.bool k1, .bool k2, .bool k3]
  rw [hwb] at hbb
  have y0 : wb.cell? ⟨w.heap.size, 0, none⟩ = some (.bool k1) := hbb.cell 0
  have y1 : wb.cell? ⟨w.heap.size, 1, none⟩ = some (.bool k2) := hbb.cell 1
  have y2 : wb.cell? ⟨w.heap.size, 2, none⟩ = some (.bool k3) := hbb.cell 2
  have HK := Lib.hid hkb
  clear hkb hbb
  cases k1 <;> cases k2 <;> cases k3 <;> cases a <;> cases b
  all_goals
    go_enter Try.func70, Try.ntmps70
    go_wp2_with fail
    go_ret
    exact ⟨rfl, HK.out⟩

def rise (E : List Int) : Prop := E.Pairwise (· < ·)
set_option maxHeartbeats 4000000 in
set_option maxRecDepth 100000 in
theorem with_any (A : Option Addr) (n c B : Nat) (E : List Int) (x : Int) (w : World) (hr : Rd w B 1 A n (E.map iv)) (hn : n ≤ 1000000) (hB : B ≤ w.heap.size) :
    Calls Try.prog 68 #[.slice A n c, .int .i64 x] w fun en w' => ∃ m A' c', en = .returned (.slice A' m c') ∧ Hid (m = (withM E x).length) ∧ Own w' w.heap.size 3 1 A' m c' ((withM E x).map iv) ∧ Keep Never w w' := by
  have Hr := Lib.hid hr
  have HL : Hid (E.length = n) := Lib.hid (by have := hr.1; rw [List.length_map] at this; omega)
  have HB := Lib.hid hB
  clear hr hB
  go_enter Try.func68, Try.ntmps68
  go_wp2_with fail
  go_loopw [5, 6, 7] (fun s b i wr => ∃ (k no co : Nat) (Ao : Option Addr) (f : Bool), k ≤ n ∧ no ≤ k + 1 ∧ i = .int .i64 k ∧ b = .bool f ∧ s = .slice Ao no co ∧
    Hid (∃ o : List Int, Own wr w.heap.size 3 1 Ao no co (o.map iv) ∧ no = o.length ∧ withM E x = o ++ (if f = true then E.drop k else withM (E.drop k) x) ∧ (f = false → no ≤ k) ∧ Keep Never w wr)) (fun _ _ i _ => n - (intOf i).toNat)
  case atStart => exact ⟨0, 0, 0, none, false, by omega, by omega, rfl, rfl, rfl, Lib.hid ⟨[], Own.nil _ _ _ _, rfl, by simp, fun _ => Nat.le_refl _, Keep.refl _ _⟩⟩
  case round =>
    obtain ⟨k, no, co, Ao, f, hk, hno, rfl, rfl, rfl, HH⟩ := hrel
    obtain ⟨o, ho, hol, hw, hf, hkeep⟩ := HH.out
    have HO := Lib.hid ho
    have HOL := Lib.hid hol
    have HWm := Lib.hid hw
    have HF := Lib.hid hf
    have HKp := Lib.hid hkeep
    have HW0 : Hid (w.heap.size ≤ wr.heap.size) := Lib.hid hkeep.size
    clear ho hol hw hf HH
    by_cases h0 : k < n
    · obtain ⟨ad, y, hA, had, hy, c0⟩ := (Hr.out.keep HKp.out (fun _ h => h.elim)).at1 h0
      subst hA
      have hki : (k : Int) < (n : Int) := by omega
      have HAd : Hid (ad.block < w.heap.size) := Lib.hid (by have := HB.out; omega)
      have HY : Hid (E.drop k = y :: E.drop (k + 1)) := Lib.hid (by
        obtain ⟨h1, h2⟩ := List.getElem?_eq_some_iff.1 hy
        rw [← h2]
        exact List.drop_eq_getElem_cons h1)
      unfold iv at c0
      clear hkeep hy had
      have HC4 : Hid (∀ (v : Int) (w4 : World), Keep (InRow Ao) (wr.alloc (.cells #[.int .i64 v] 3)) w4 → w4.cell? (ad.add k) = some (.int .i64 y) ∧ Keep Never w w4) := Lib.hid (fun v w4 h => by
        have ha : Keep Never wr (wr.alloc (.cells #[.int .i64 v] 3)) := (Keep.refl Never wr).alloc _
        refine ⟨?_, (HKp.out.trans ha).then_ h (fun i hi hh => by have := (HO.out.row hh).1; omega)⟩
        rw [h.cell (by have := cell_lt c0; have h2 := ha.size; omega) (fun hh => by have := (HO.out.row hh).1; have := HAd.out; rw [block_add] at *; omega), ha.cell (cell_lt c0) (fun hh => hh)]
        exact c0)
      cases f with
      | true =>
        by_cases hyx : y = x
        · have t1 : (y == x) = true := by simpa using hyx
          clear hyx
          go_wp2_with (refine wpList_app _ rfl (.tmp 34) (.tmp 39) _ rfl elemInt w.heap.size (A := Ao) (n := no) (c := co) (by go_simp) (HO.out.alloc _) _ (A' := some ⟨_, 0, none⟩) (m := 1) (c' := 1) (news := [.int .i64 y]) (by go_simp) (Rd.of_blk (n := 1) (cs := [.int .i64 y]) (Blk.new _ _ _) rfl) (by simp [Value.oneCell']) (by omega) (by unfold maxLen; omega) (by have := HW0.out; simp; omega) ?_; intro A4 c4 w4 hown4 hk4 hrow4; have HO4 := Lib.hid hown4; have HK4 := Lib.hid hk4; clear hown4 hk4 hrow4)
          refine ⟨⟨k + 1, no + 1, _, _, true, by omega, by omega, by go_num, rfl, rfl, Lib.hid ⟨o ++ [y], by simpa [iv] using HO4.out, by simp [HOL.out], by rw [HWm.out, HY.out]; simp, fun h => (by cases h), (HC4.out y w4 HK4.out).2⟩⟩, ?_⟩
          simp [intOf]; try omega
        · have t1 : (y == x) = false := by simpa using hyx
          clear hyx
          go_wp2_with (refine wpList_app _ rfl (.tmp 34) (.tmp 39) _ rfl elemInt w.heap.size (A := Ao) (n := no) (c := co) (by go_simp) (HO.out.alloc _) _ (A' := some ⟨_, 0, none⟩) (m := 1) (c' := 1) (news := [.int .i64 y]) (by go_simp) (Rd.of_blk (n := 1) (cs := [.int .i64 y]) (Blk.new _ _ _) rfl) (by simp [Value.oneCell']) (by omega) (by unfold maxLen; omega) (by have := HW0.out; simp; omega) ?_; intro A4 c4 w4 hown4 hk4 hrow4; have HO4 := Lib.hid hown4; have HK4 := Lib.hid hk4; clear hown4 hk4 hrow4)
          refine ⟨⟨k + 1, no + 1, _, _, true, by omega, by omega, by go_num, rfl, rfl, Lib.hid ⟨o ++ [y], by simpa [iv] using HO4.out, by simp [HOL.out], by rw [HWm.out, HY.out]; simp, fun h => (by cases h), (HC4.out y w4 HK4.out).2⟩⟩, ?_⟩
          simp [intOf]; try omega
      | false =>
        have hnk := HF.out rfl
        by_cases hyx : y = x
        · have t1 : (y == x) = true := by simpa using hyx
          have HM : Hid (withM (y :: E.drop (k + 1)) x = y :: E.drop (k + 1)) := Lib.hid (by unfold withM; rw [if_pos hyx])
          clear hyx
          go_wp2_with (refine wpList_app _ rfl (.tmp 34) (.tmp 39) _ rfl elemInt w.heap.size (A := Ao) (n := no) (c := co) (by go_simp) (HO.out.alloc _) _ (A' := some ⟨_, 0, none⟩) (m := 1) (c' := 1) (news := [.int .i64 y]) (by go_simp) (Rd.of_blk (n := 1) (cs := [.int .i64 y]) (Blk.new _ _ _) rfl) (by simp [Value.oneCell']) (by omega) (by unfold maxLen; omega) (by have := HW0.out; simp; omega) ?_; intro A4 c4 w4 hown4 hk4 hrow4; have HO4 := Lib.hid hown4; have HK4 := Lib.hid hk4; clear hown4 hk4 hrow4)
          refine ⟨⟨k + 1, no + 1, _, _, true, by omega, by omega, by go_num, rfl, rfl, Lib.hid ⟨o ++ [y], by simpa [iv] using HO4.out, by simp [HOL.out], by rw [HWm.out, HY.out]; simp [HM.out], fun h => (by cases h), (HC4.out y w4 HK4.out).2⟩⟩, ?_⟩
          simp [intOf]; try omega
        · have t1 : (y == x) = false := by simpa using hyx
          by_cases hlt : x < y
          · have t2 : decide (y > x) = true := by simpa using hlt
            have HM : Hid (withM (y :: E.drop (k + 1)) x = x :: y :: E.drop (k + 1)) := Lib.hid (by unfold withM; rw [if_neg hyx, if_pos hlt])
            clear hyx hlt
            go_wp2_with (first | (refine wpList_app _ rfl (.tmp 30) (.tmp 32) _ rfl elemInt w.heap.size (A := Ao) (n := no) (c := co) (by go_simp) (HO.out.alloc _) _ (A' := some ⟨_, 0, none⟩) (m := 1) (c' := 1) (news := [.int .i64 x]) (by go_simp) (Rd.of_blk (n := 1) (cs := [.int .i64 x]) (Blk.new _ _ _) rfl) (by simp [Value.oneCell']) (by omega) (by unfold maxLen; omega) (by have := HW0.out; simp; omega) ?_; intro A4 c4 w4 hown4 hk4 hrow4; have HO4 := Lib.hid hown4; have HK4 := Lib.hid hk4; clear hown4 hk4 hrow4; have HW4 : Hid (w.heap.size ≤ w4.heap.size) := Lib.hid (HC4.out x w4 HK4.out).2.size; have c4' := (HC4.out x w4 HK4.out).1) | (refine wpList_app _ rfl (.tmp 34) (.tmp 39) _ rfl elemInt w.heap.size (A := A4) (n := (no + 1)) (c := c4) (by go_simp) (HO4.out.alloc _) _ (A' := some ⟨_, 0, none⟩) (m := 1) (c' := 1) (news := [.int .i64 y]) (by go_simp) (Rd.of_blk (n := 1) (cs := [.int .i64 y]) (Blk.new _ _ _) rfl) (by simp [Value.oneCell']) (by omega) (by unfold maxLen; omega) (by have := HW4.out; simp; omega) ?_; intro A5 c5 w5 hown5 hk5 hrow5; have HO5 := Lib.hid hown5; have HK5 := Lib.hid hk5; clear hown5 hk5 hrow5))
            refine ⟨⟨k + 1, no + 1 + 1, _, _, true, by omega, by omega, by go_num, rfl, rfl, Lib.hid ⟨o ++ [x] ++ [y], by simpa [iv] using HO5.out, by simp [HOL.out], by rw [HWm.out, HY.out]; simp [HM.out], fun h => (by cases h), ((HC4.out x w4 HK4.out).2.trans ((Keep.refl Never w4).alloc _)).then_ HK5.out (fun i hi hh => by have := (HO4.out.row hh).1; omega)⟩⟩, ?_⟩
            simp [intOf]; try omega
          · have t2 : decide (y > x) = false := by simpa using hlt
            have HM : Hid (withM (y :: E.drop (k + 1)) x = y :: withM (E.drop (k + 1)) x) := Lib.hid (by rw [withM, if_neg hyx, if_neg hlt])
            clear hyx hlt
            go_wp2_with (refine wpList_app _ rfl (.tmp 34) (.tmp 39) _ rfl elemInt w.heap.size (A := Ao) (n := no) (c := co) (by go_simp) (HO.out.alloc _) _ (A' := some ⟨_, 0, none⟩) (m := 1) (c' := 1) (news := [.int .i64 y]) (by go_simp) (Rd.of_blk (n := 1) (cs := [.int .i64 y]) (Blk.new _ _ _) rfl) (by simp [Value.oneCell']) (by omega) (by unfold maxLen; omega) (by have := HW0.out; simp; omega) ?_; intro A4 c4 w4 hown4 hk4 hrow4; have HO4 := Lib.hid hown4; have HK4 := Lib.hid hk4; clear hown4 hk4 hrow4)
            refine ⟨⟨k + 1, no + 1, _, _, false, by omega, by omega, by go_num, rfl, rfl, Lib.hid ⟨o ++ [y], by simpa [iv] using HO4.out, by simp [HOL.out], by rw [HWm.out, HY.out]; simp [HM.out], fun _ => by omega, (HC4.out y w4 HK4.out).2⟩⟩, ?_⟩
            simp [intOf]; try omega
    · obtain rfl : k = n := by omega
      have hki : ¬ (k : Int) < (k : Int) := by omega
      have HD : Hid (E.drop k = []) := Lib.hid (List.drop_eq_nil_of_le (by rw [HL.out]; exact Nat.le_refl _))
      clear hkeep
      cases f with
      | true =>
        have HE : Hid (withM E x = o) := Lib.hid (by rw [HWm.out, HD.out]; simp)
        go_wp2_with fail
        go_ret
        exact ⟨no, Ao, co, rfl, Lib.hid (by rw [HE.out, HOL.out]), by rw [HE.out]; exact HO.out, HKp.out⟩
      | false =>
        have HE : Hid (withM E x = o ++ [x]) := Lib.hid (by rw [HWm.out, HD.out]; rfl)
        go_wp2_with (refine wpList_app _ rfl (.tmp 43) (.tmp 45) _ rfl elemInt w.heap.size (A := Ao) (n := no) (c := co) (by go_simp) (HO.out.alloc _) _ (A' := some ⟨_, 0, none⟩) (m := 1) (c' := 1) (news := [.int .i64 x]) (by go_simp) (Rd.of_blk (n := 1) (cs := [.int .i64 x]) (Blk.new _ _ _) rfl) (by simp [Value.oneCell']) (by omega) (by unfold maxLen; omega) (by have := HW0.out; simp; omega) ?_; intro A4 c4 w4 hown4 hk4 hrow4; have HO4 := Lib.hid hown4; have HK4 := Lib.hid hk4; clear hown4 hk4 hrow4)
        go_ret
        exact ⟨no + 1, A4, c4, rfl, Lib.hid (by rw [HE.out]; simp [HOL.out]), by rw [HE.out]; simpa [iv] using HO4.out, (HKp.out.trans ((Keep.refl Never wr).alloc _)).then_ HK4.out (fun i hi hh => by have := (HO.out.row hh).1; omega)⟩

end Go.Proofs.Ytpahfobijmmmmaa
