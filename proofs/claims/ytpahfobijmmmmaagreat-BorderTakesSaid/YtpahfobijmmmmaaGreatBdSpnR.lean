/- Chapter 15: the document's Has, with, wanted. -/
import Derived.Test.YtpahfobijmmmmaaGreatBdSpnN
import Derived.IntWalk
namespace Go.Proofs.YtpahfobijmmmmaaGreat
open Go.RowKit

set_option maxRecDepth 100000 in
theorem elemInt : Elem Tryz.prog 22 3 1 8 := ⟨Tryz.underlying22, _, _, rfl, rfl, rfl, rfl, rfl, by omega⟩
def iv (x : Int) : Value := .int .i64 x

theorem has_six2 (s : Sp) (e a : Int) : (someS s && hasS s e a) = (decide (s.1 ≥ 0) && decide (s.2.1 ≥ 0) && decide (s.2.2 ≤ 1000000) && (s.1 == e) && decide (s.2.1 ≤ a) && decide (a < s.2.2)) := by
  apply bool_ext
  simp only [Bool.and_eq_true, someS_iff, hasS_iff, beq_iff_eq, decide_eq_true_eq]
  omega

theorem six (p1 p2 p3 p4 p5 p6 : Bool) : p1 = false ∨ (p1 = true ∧ p2 = false) ∨ (p1 = true ∧ p2 = true ∧ p3 = false) ∨ (p1 = true ∧ p2 = true ∧ p3 = true ∧ p4 = false) ∨ (p1 = true ∧ p2 = true ∧ p3 = true ∧ p4 = true ∧ p5 = false) ∨
    (p1 = true ∧ p2 = true ∧ p3 = true ∧ p4 = true ∧ p5 = true ∧ p6 = false) ∨ (p1 = true ∧ p2 = true ∧ p3 = true ∧ p4 = true ∧ p5 = true ∧ p6 = true) := by
  cases p1 <;> cases p2 <;> cases p3 <;> cases p4 <;> cases p5 <;> cases p6 <;> simp
theorem hasL_take {l : List Sp} {k : Nat} {s : Sp} (h : l[k]? = some s) (e a : Int) : hasL (l.take (k + 1)) e a = (hasL (l.take k) e a || (someS s && hasS s e a)) := by
  rw [List.take_add_one, h]
  simp [hasL]
theorem hasL_take_le {l : List Sp} {k : Nat} {e a : Int} (h : hasL (l.take k) e a = true) : hasL l e a = true := by
  rw [hasL_iff] at h ⊢
  obtain ⟨s, hs, h2⟩ := h
  exact ⟨s, List.mem_of_mem_take hs, h2⟩

set_option maxHeartbeats 4000000 in
set_option maxRecDepth 100000 in
theorem rhas_any (A : Option Addr) (n c B : Nat) (l : List Sp) (e a : Int) (w : World) (hr : Rd w B 3 A n (spCells l)) (hn : n ≤ 100000000000) :
    Calls Tryz.prog 94 #[.slice A n c, .int .i64 e, .int .i64 a] w fun en w' => en = .returned (.bool (hasL l e a)) ∧ Keep Never w w' := by
  have Hr := Lib.hid hr
  have HL := Lib.hid hr.sp_len
  clear hr
  go_enter Tryz.func94, Tryz.ntmps94
  go_wp2_with fail
  go_loopw [7] (fun i wr => ∃ k : Nat, k ≤ n ∧ i = .int .i64 k ∧ Hid (Keep Never w wr ∧ hasL (l.take k) e a = false)) (fun i _ => n - (intOf i).toNat)
  case atStart => exact ⟨0, by omega, rfl, Lib.hid ⟨Keep.refl _ _, rfl⟩⟩
  case round =>
    obtain ⟨k, hk, rfl, HH⟩ := hrel
    by_cases h0 : k < n
    · obtain ⟨ad, s, hA, _, hs, c0, c1, c2⟩ := (Hr.out.keep HH.out.1 (fun _ h => h.elim)).sp h0
      subst hA
      obtain ⟨s1, s2, s3⟩ := s
      simp only at c0 c1 c2
      have hki : (k : Int) < (n : Int) := by omega
      have HT := Lib.hid (hasL_take hs e a)
      have H6 := Lib.hid (has_six2 (s1, s2, s3) e a)
      obtain ⟨wb, hwb⟩ : ∃ wb : World, wr.alloc (.cells #[.int .i64 s1, .int .i64 s2, .int .i64 s3] 74) = wb := ⟨_, rfl⟩
      have hkb : Keep Never wr wb := by rw [← hwb]; exact (Keep.refl _ _).alloc _
      have hbb := Blk.new wr 74 #[.int .i64 s1, .int .i64 s2, .int .i64 s3]
      rw [hwb] at hbb
      have y0 : wb.cell? ⟨wr.heap.size, 0, none⟩ = some (.int .i64 s1) := hbb.cell 0
      have y1 : wb.cell? ⟨wr.heap.size, 1, none⟩ = some (.int .i64 s2) := hbb.cell 1
      have y2 : wb.cell? ⟨wr.heap.size, 2, none⟩ = some (.int .i64 s3) := hbb.cell 2
      have HK := Lib.hid (HH.out.1.trans hkb)
      clear hs hkb hbb
      rcases six (decide (s1 ≥ 0)) (decide (s2 ≥ 0)) (decide (s3 ≤ 1000000)) (s1 == e) (decide (s2 ≤ a)) (decide (a < s3)) with g1 | ⟨g1, g2⟩ | ⟨g1, g2, g3⟩ | ⟨g1, g2, g3, g4⟩ | ⟨g1, g2, g3, g4, g5⟩ | ⟨g1, g2, g3, g4, g5, g6⟩ | ⟨g1, g2, g3, g4, g5, g6⟩
      · have HF : Hid (hasL (l.take (k + 1)) e a = false) := Lib.hid (by rw [HT.out, HH.out.2, H6.out]; simp only [g1]; rfl)
        go_wp2_with fail
        refine ⟨⟨k + 1, by omega, by go_num, Lib.hid ⟨HK.out, HF.out⟩⟩, ?_⟩
        simp [intOf]; try omega
      · have HF : Hid (hasL (l.take (k + 1)) e a = false) := Lib.hid (by rw [HT.out, HH.out.2, H6.out]; simp only [g1, g2]; rfl)
        go_wp2_with fail
        refine ⟨⟨k + 1, by omega, by go_num, Lib.hid ⟨HK.out, HF.out⟩⟩, ?_⟩
        simp [intOf]; try omega
      · have HF : Hid (hasL (l.take (k + 1)) e a = false) := Lib.hid (by rw [HT.out, HH.out.2, H6.out]; simp only [g1, g2, g3]; rfl)
        go_wp2_with fail
        refine ⟨⟨k + 1, by omega, by go_num, Lib.hid ⟨HK.out, HF.out⟩⟩, ?_⟩
        simp [intOf]; try omega
      · have HF : Hid (hasL (l.take (k + 1)) e a = false) := Lib.hid (by rw [HT.out, HH.out.2, H6.out]; simp only [g1, g2, g3, g4]; rfl)
        go_wp2_with fail
        refine ⟨⟨k + 1, by omega, by go_num, Lib.hid ⟨HK.out, HF.out⟩⟩, ?_⟩
        simp [intOf]; try omega
      · have HF : Hid (hasL (l.take (k + 1)) e a = false) := Lib.hid (by rw [HT.out, HH.out.2, H6.out]; simp only [g1, g2, g3, g4, g5]; rfl)
        go_wp2_with fail
        refine ⟨⟨k + 1, by omega, by go_num, Lib.hid ⟨HK.out, HF.out⟩⟩, ?_⟩
        simp [intOf]; try omega
      · have HF : Hid (hasL (l.take (k + 1)) e a = false) := Lib.hid (by rw [HT.out, HH.out.2, H6.out]; simp only [g1, g2, g3, g4, g5, g6]; rfl)
        go_wp2_with fail
        refine ⟨⟨k + 1, by omega, by go_num, Lib.hid ⟨HK.out, HF.out⟩⟩, ?_⟩
        simp [intOf]; try omega
      · have HF : Hid (hasL l e a = true) := Lib.hid (hasL_take_le (k := k + 1) (by rw [HT.out, HH.out.2, H6.out]; simp only [g1, g2, g3, g4, g5, g6]; rfl))
        go_wp2_with fail
        go_ret
        exact ⟨by rw [HF.out]; rfl, HK.out⟩
    · obtain rfl : k = n := by omega
      have hki : ¬ (k : Int) < (k : Int) := by omega
      have HF : Hid (hasL l e a = false) := Lib.hid (by
        have := HH.out.2
        rwa [List.take_of_length_le (by rw [HL.out]; exact Nat.le_refl _)] at this)
      go_wp2_with fail
      go_ret
      exact ⟨by rw [HF.out]; rfl, HH.out.1⟩

set_option maxHeartbeats 4000000 in
set_option maxRecDepth 100000 in
theorem wanted_any (k : Bool × Bool × Bool) (a b : Bool) (w : World) :
    Calls Tryz.prog 95 #[.agg #[.bool k.1, .bool k.2.1, .bool k.2.2], .bool a, .bool b] w fun e w' => e = .returned (.bool (wantB k a b)) ∧ Keep Never w w' := by
  obtain ⟨k1, k2, k3⟩ := k
  simp only
  obtain ⟨wb, hwb⟩ : ∃ wb : World, w.alloc (.cells #[.bool k1, .bool k2, .bool k3] 122) = wb := ⟨_, rfl⟩
  have hkb : Keep Never w wb := by rw [← hwb]; exact (Keep.refl _ _).alloc _
  have hbb := Blk.new w 122 #[.bool k1, .bool k2, .bool k3]
  rw [hwb] at hbb
  have y0 : wb.cell? ⟨w.heap.size, 0, none⟩ = some (.bool k1) := hbb.cell 0
  have y1 : wb.cell? ⟨w.heap.size, 1, none⟩ = some (.bool k2) := hbb.cell 1
  have y2 : wb.cell? ⟨w.heap.size, 2, none⟩ = some (.bool k3) := hbb.cell 2
  have HK := Lib.hid hkb
  clear hkb hbb
  cases k1 <;> cases k2 <;> cases k3 <;> cases a <;> cases b
  all_goals
    go_enter Tryz.func95, Tryz.ntmps95
    go_wp2_with fail
    go_ret
    exact ⟨rfl, HK.out⟩

def rise (E : List Int) : Prop := E.Pairwise (· < ·)
set_option maxHeartbeats 4000000 in
set_option maxRecDepth 100000 in
theorem with_any (A : Option Addr) (n c B : Nat) (E : List Int) (x : Int) (w : World) (hr : Rd w B 1 A n (E.map iv)) (hn : n ≤ 1000000) (hB : B ≤ w.heap.size) :
    Calls Tryz.prog 93 #[.slice A n c, .int .i64 x] w fun en w' => ∃ m A' c', en = .returned (.slice A' m c') ∧ Hid (m = (withM E x).length) ∧ Own w' w.heap.size 3 1 A' m c' ((withM E x).map iv) ∧ Keep Never w w' := by
  have Hr := Lib.hid hr
  have HL : Hid (E.length = n) := Lib.hid (by have := hr.1; rw [List.length_map] at this; omega)
  have HB := Lib.hid hB
  clear hr hB
  go_enter Tryz.func93, Tryz.ntmps93
  go_wp2_with fail
  go_loopw [5, 6, 7] (fun s b i wr => ∃ (k no co : Nat) (Ao : Option Addr) (f : Bool), k ≤ n ∧ no ≤ k + 1 ∧ i = .int .i64 k ∧ b = .bool f ∧ s = .slice Ao no co ∧
    Hid (∃ o : List Int, Own wr w.heap.size 3 1 Ao no co (o.map iv) ∧ no = o.length ∧ withM E x = o ++ (if f = true then E.drop k else withM (E.drop k) x) ∧ (f = false → no ≤ k) ∧ Keep Never w wr)) (fun _ _ i _ => n - (intOf i).toNat)
  case atStart => exact ⟨0, 0, 0, none, false, by omega, by omega, rfl, rfl, rfl, Lib.hid ⟨[], Own.nil _ _ _ _, rfl, by simp, fun _ => Nat.le_refl _, Keep.refl _ _⟩⟩
  case round =>
    obtain ⟨k, no, co, Ao, f, hk, hno, rfl, rfl, rfl, HH⟩ := hrel
    obtain ⟨o, ho, hol, hw, hf, hkeep⟩ := HH.out
    have HO := Lib.hid ho
    have HOL := Lib.hid hol
    have HWm := Lib.hid hw
    have HF := Lib.hid hf
    have HKp := Lib.hid hkeep
    have HW0 : Hid (w.heap.size ≤ wr.heap.size) := Lib.hid hkeep.size
    clear ho hol hw hf HH
    by_cases h0 : k < n
    · obtain ⟨ad, y, hA, had, hy, c0⟩ := (Hr.out.keep HKp.out (fun _ h => h.elim)).at1 h0
      subst hA
      have hki : (k : Int) < (n : Int) := by omega
      have HAd : Hid (ad.block < w.heap.size) := Lib.hid (by have := HB.out; omega)
      have HY : Hid (E.drop k = y :: E.drop (k + 1)) := Lib.hid (by
        obtain ⟨h1, h2⟩ := List.getElem?_eq_some_iff.1 hy
        rw [← h2]
        exact List.drop_eq_getElem_cons h1)
      unfold iv at c0
      clear hkeep hy had
      have HC4 : Hid (∀ (v : Int) (w4 : World), Keep (InRow Ao) (wr.alloc (.cells #[.int .i64 v] 3)) w4 → w4.cell? (ad.add k) = some (.int .i64 y) ∧ Keep Never w w4) := Lib.hid (fun v w4 h => by
        have ha : Keep Never wr (wr.alloc (.cells #[.int .i64 v] 3)) := (Keep.refl Never wr).alloc _
        refine ⟨?_, (HKp.out.trans ha).then_ h (fun i hi hh => by have := (HO.out.row hh).1; omega)⟩
        rw [h.cell (by have := cell_lt c0; have h2 := ha.size; omega) (fun hh => by have := (HO.out.row hh).1; have := HAd.out; rw [block_add] at *; omega), ha.cell (cell_lt c0) (fun hh => hh)]
        exact c0)
      cases f with
      | true =>
        by_cases hyx : y = x
        · have t1 : (y == x) = true := by simpa using hyx
          clear hyx
          go_wp2_with (refine wpList_app _ rfl (.tmp 34) (.tmp 39) _ rfl elemInt w.heap.size (A := Ao) (n := no) (c := co) (by go_simp) (HO.out.alloc _) _ (A' := some ⟨_, 0, none⟩) (m := 1) (c' := 1) (news := [.int .i64 y]) (by go_simp) (Rd.of_blk (n := 1) (cs := [.int .i64 y]) (Blk.new _ _ _) rfl) (by simp [Value.oneCell']) (by omega) (by unfold maxLen; omega) (by have := HW0.out; simp; omega) ?_; intro A4 c4 w4 hown4 hk4 hrow4; have HO4 := Lib.hid hown4; have HK4 := Lib.hid hk4; clear hown4 hk4 hrow4)
          refine ⟨⟨k + 1, no + 1, _, _, true, by omega, by omega, by go_num, rfl, rfl, Lib.hid ⟨o ++ [y], by simpa [iv] using HO4.out, by simp [HOL.out], by rw [HWm.out, HY.out]; simp, fun h => (by cases h), (HC4.out y w4 HK4.out).2⟩⟩, ?_⟩
          simp [intOf]; try omega
        · have t1 : (y == x) = false := by simpa using hyx
          clear hyx
          go_wp2_with (refine wpList_app _ rfl (.tmp 34) (.tmp 39) _ rfl elemInt w.heap.size (A := Ao) (n := no) (c := co) (by go_simp) (HO.out.alloc _) _ (A' := some ⟨_, 0, none⟩) (m := 1) (c' := 1) (news := [.int .i64 y]) (by go_simp) (Rd.of_blk (n := 1) (cs := [.int .i64 y]) (Blk.new _ _ _) rfl) (by simp [Value.oneCell']) (by omega) (by unfold maxLen; omega) (by have := HW0.out; simp; omega) ?_; intro A4 c4 w4 hown4 hk4 hrow4; have HO4 := Lib.hid hown4; have HK4 := Lib.hid hk4; clear hown4 hk4 hrow4)
          refine ⟨⟨k + 1, no + 1, _, _, true, by omega, by omega, by go_num, rfl, rfl, Lib.hid ⟨o ++ [y], by simpa [iv] using HO4.out, by simp [HOL.out], by rw [HWm.out, HY.out]; simp, fun h => (by cases h), (HC4.out y w4 HK4.out).2⟩⟩, ?_⟩
          simp [intOf]; try omega
      | false =>
        have hnk := HF.out rfl
        by_cases hyx : y = x
        · have t1 : (y == x) = true := by simpa using hyx
          have HM : Hid (withM (y :: E.drop (k + 1)) x = y :: E.drop (k + 1)) := Lib.hid (by unfold withM; rw [if_pos hyx])
          clear hyx
          go_wp2_with (refine wpList_app _ rfl (.tmp 34) (.tmp 39) _ rfl elemInt w.heap.size (A := Ao) (n := no) (c := co) (by go_simp) (HO.out.alloc _) _ (A' := some ⟨_, 0, none⟩) (m := 1) (c' := 1) (news := [.int .i64 y]) (by go_simp) (Rd.of_blk (n := 1) (cs := [.int .i64 y]) (Blk.new _ _ _) rfl) (by simp [Value.oneCell']) (by omega) (by unfold maxLen; omega) (by have := HW0.out; simp; omega) ?_; intro A4 c4 w4 hown4 hk4 hrow4; have HO4 := Lib.hid hown4; have HK4 := Lib.hid hk4; clear hown4 hk4 hrow4)
          refine ⟨⟨k + 1, no + 1, _, _, true, by omega, by omega, by go_num, rfl, rfl, Lib.hid ⟨o ++ [y], by simpa [iv] using HO4.out, by simp [HOL.out], by rw [HWm.out, HY.out]; simp [HM.out], fun h => (by cases h), (HC4.out y w4 HK4.out).2⟩⟩, ?_⟩
          simp [intOf]; try omega
        · have t1 : (y == x) = false := by simpa using hyx
          by_cases hlt : x < y
          · have t2 : decide (y > x) = true := by simpa using hlt
            have HM : Hid (withM (y :: E.drop (k + 1)) x = x :: y :: E.drop (k + 1)) := Lib.hid (by unfold withM; rw [if_neg hyx, if_pos hlt])
            clear hyx hlt
            go_wp2_with (first | (refine wpList_app _ rfl (.tmp 30) (.tmp 32) _ rfl elemInt w.heap.size (A := Ao) (n := no) (c := co) (by go_simp) (HO.out.alloc _) _ (A' := some ⟨_, 0, none⟩) (m := 1) (c' := 1) (news := [.int .i64 x]) (by go_simp) (Rd.of_blk (n := 1) (cs := [.int .i64 x]) (Blk.new _ _ _) rfl) (by simp [Value.oneCell']) (by omega) (by unfold maxLen; omega) (by have := HW0.out; simp; omega) ?_; intro A4 c4 w4 hown4 hk4 hrow4; have HO4 := Lib.hid hown4; have HK4 := Lib.hid hk4; clear hown4 hk4 hrow4; have HW4 : Hid (w.heap.size ≤ w4.heap.size) := Lib.hid (HC4.out x w4 HK4.out).2.size; have c4' := (HC4.out x w4 HK4.out).1) | (refine wpList_app _ rfl (.tmp 34) (.tmp 39) _ rfl elemInt w.heap.size (A := A4) (n := (no + 1)) (c := c4) (by go_simp) (HO4.out.alloc _) _ (A' := some ⟨_, 0, none⟩) (m := 1) (c' := 1) (news := [.int .i64 y]) (by go_simp) (Rd.of_blk (n := 1) (cs := [.int .i64 y]) (Blk.new _ _ _) rfl) (by simp [Value.oneCell']) (by omega) (by unfold maxLen; omega) (by have := HW4.out; simp; omega) ?_; intro A5 c5 w5 hown5 hk5 hrow5; have HO5 := Lib.hid hown5; have HK5 := Lib.hid hk5; clear hown5 hk5 hrow5))
            refine ⟨⟨k + 1, no + 1 + 1, _, _, true, by omega, by omega, by go_num, rfl, rfl, Lib.hid ⟨o ++ [x] ++ [y], by simpa [iv] using HO5.out, by simp [HOL.out], by rw [HWm.out, HY.out]; simp [HM.out], fun h => (by cases h), ((HC4.out x w4 HK4.out).2.trans ((Keep.refl Never w4).alloc _)).then_ HK5.out (fun i hi hh => by have := (HO4.out.row hh).1; omega)⟩⟩, ?_⟩
            simp [intOf]; try omega
          · have t2 : decide (y > x) = false := by simpa using hlt
            have HM : Hid (withM (y :: E.drop (k + 1)) x = y :: withM (E.drop (k + 1)) x) := Lib.hid (by rw [withM, if_neg hyx, if_neg hlt])
            clear hyx hlt
            go_wp2_with (refine wpList_app _ rfl (.tmp 34) (.tmp 39) _ rfl elemInt w.heap.size (A := Ao) (n := no) (c := co) (by go_simp) (HO.out.alloc _) _ (A' := some ⟨_, 0, none⟩) (m := 1) (c' := 1) (news := [.int .i64 y]) (by go_simp) (Rd.of_blk (n := 1) (cs := [.int .i64 y]) (Blk.new _ _ _) rfl) (by simp [Value.oneCell']) (by omega) (by unfold maxLen; omega) (by have := HW0.out; simp; omega) ?_; intro A4 c4 w4 hown4 hk4 hrow4; have HO4 := Lib.hid hown4; have HK4 := Lib.hid hk4; clear hown4 hk4 hrow4)
            refine ⟨⟨k + 1, no + 1, _, _, false, by omega, by omega, by go_num, rfl, rfl, Lib.hid ⟨o ++ [y], by simpa [iv] using HO4.out, by simp [HOL.out], by rw [HWm.out, HY.out]; simp [HM.out], fun _ => by omega, (HC4.out y w4 HK4.out).2⟩⟩, ?_⟩
            simp [intOf]; try omega
    · obtain rfl : k = n := by omega
      have hki : ¬ (k : Int) < (k : Int) := by omega
      have HD : Hid (E.drop k = []) := Lib.hid (List.drop_eq_nil_of_le (by rw [HL.out]; exact Nat.le_refl _))
      clear hkeep
      cases f with
      | true =>
        have HE : Hid (withM E x = o) := Lib.hid (by rw [HWm.out, HD.out]; simp)
        go_wp2_with fail
        go_ret
        exact ⟨no, Ao, co, rfl, Lib.hid (by rw [HE.out, HOL.out]), by rw [HE.out]; exact HO.out, HKp.out⟩
      | false =>
        have HE : Hid (withM E x = o ++ [x]) := Lib.hid (by rw [HWm.out, HD.out]; rfl)
        go_wp2_with (refine wpList_app _ rfl (.tmp 43) (.tmp 45) _ rfl elemInt w.heap.size (A := Ao) (n := no) (c := co) (by go_simp) (HO.out.alloc _) _ (A' := some ⟨_, 0, none⟩) (m := 1) (c' := 1) (news := [.int .i64 x]) (by go_simp) (Rd.of_blk (n := 1) (cs := [.int .i64 x]) (Blk.new _ _ _) rfl) (by simp [Value.oneCell']) (by omega) (by unfold maxLen; omega) (by have := HW0.out; simp; omega) ?_; intro A4 c4 w4 hown4 hk4 hrow4; have HO4 := Lib.hid hown4; have HK4 := Lib.hid hk4; clear hown4 hk4 hrow4)
        go_ret
        exact ⟨no + 1, A4, c4, rfl, Lib.hid (by rw [HE.out]; simp [HOL.out]), by rw [HE.out]; simpa [iv] using HO4.out, (HKp.out.trans ((Keep.refl Never wr).alloc _)).then_ HK4.out (fun i hi hh => by have := (HO.out.row hh).1; omega)⟩

end Go.Proofs.YtpahfobijmmmmaaGreat

namespace Go.Proofs.YtpahfobijmmmmaaGreat
open Go.RowKit

def keepV (k : Bool × Bool × Bool) : Value := .agg #[.bool k.1, .bool k.2.1, .bool k.2.2]
def gF (a b : List Sp) (k : Bool × Bool × Bool) : Int → Int → Bool := fun e p => wantB k (hasL a e p) (hasL b e p)
theorem edges_take {all : List Sp} {k : Nat} {s : Sp} (h : all[k]? = some s) : edgesM (all.take (k + 1)) = withM (edgesM (all.take k)) s.1 := by
  unfold edgesM
  rw [List.take_add_one, h]
  simp
theorem ends_take {all : List Sp} {k : Nat} {s : Sp} (h : all[k]? = some s) : endsM (all.take (k + 1)) = withM (withM (endsM (all.take k)) s.2.1) s.2.2 := by
  unfold endsM
  rw [List.take_add_one, h]
  simp

set_option maxHeartbeats 8000000 in
set_option maxRecDepth 100000 in
theorem form_big (A1 : Option Addr) (n1 c1 : Nat) (A2 : Option Addr) (n2 c2 B : Nat) (a b : List Sp) (k : Bool × Bool × Bool) (w : World) (h1 : SpAt w B A1 n1 c1 a) (h2 : SpAt w B A2 n2 c2 b) (hn1 : n1 ≤ 4000) (hn2 : n2 ≤ 1000) (hB : B ≤ w.heap.size) :
    Calls Tryz.prog 78 #[.slice A1 n1 c1, .slice A2 n2 c2, .agg #[.bool k.1, .bool k.2.1, .bool k.2.2]] w fun e w' => ∃ m A n c, e = .returned (.slice A n c) ∧ Hid (n = m.length) ∧ SpAt w' w'.heap.size A n c m ∧ Keep Never w w' ∧ m = FormM a b k := by
  obtain ⟨wb, hwb⟩ : ∃ wb : World, w.alloc (.cells #[.bool k.1, .bool k.2.1, .bool k.2.2] 122) = wb := ⟨_, rfl⟩
  have hkb : Keep Never w wb := by rw [← hwb]; exact (Keep.refl _ _).alloc _
  have hbb := Blk.new w 122 #[.bool k.1, .bool k.2.1, .bool k.2.2]
  rw [hwb] at hbb
  have HBb := Lib.hid hbb
  have HKb := Lib.hid hkb
  have H1 := Lib.hid (h1.keep hkb)
  have H2 := Lib.hid (h2.keep hkb)
  have hBb : B ≤ wb.heap.size := by have := hkb.size; omega
  have hl1 : a.length = n1 := h1.len
  have hl2 : b.length = n2 := h2.len
  have HL1 := Lib.hid hl1
  have HL2 := Lib.hid hl2
  clear hkb hbb h1 h2 hl1 hl2
  go_enter Tryz.func78, Tryz.ntmps78
  go_wp2_with (first
    | (refine wpList_app _ rfl _ (.tmp 18) _ rfl elemSp wb.heap.size (A := none) (n := 0) (c := 0) (xs := []) (by go_simp) (Own.nil _ _ _ _) B (A' := A1) (m := n1) (c' := c1) (by go_simp) H1.out.rd (spCells_one _) (by omega) (by unfold maxLen; omega) (Nat.le_refl _) ?_; intro A3 c3 w3 hown3 hk3 hrow3; have HK3 : Hid (Keep Never wb w3) := Lib.hid (hk3.mono (fun i _ h => by obtain ⟨_, h, _⟩ := h; cases h)); have HO3 : Hid (Own w3 wb.heap.size 74 3 A3 n1 c3 (spCells a)) := Lib.hid (by simpa using hown3); have hsz3 : wb.heap.size ≤ w3.heap.size := HK3.out.size; have H23 := Lib.hid (H2.out.keep HK3.out); clear hown3 hk3 hrow3)
    | (refine wpList_app _ rfl (.tmp 20) (.tmp 21) _ rfl elemSp wb.heap.size (A := A3) (n := n1) (c := c3) (by go_simp) HO3.out B (A' := A2) (m := n2) (c' := c2) (by go_simp) H23.out.rd (spCells_one _) (by omega) (by unfold maxLen; omega) hsz3 ?_; intro A4 c4 w4 hown4 hk4 hrow4))
  have hk4' : Hid (Keep Never w w4) := Lib.hid ((HKb.out.trans HK3.out).then_ hk4 (fun i hi h => by have := (HO3.out.row h).1; have := HKb.out.size; omega))
  have hk34 : Hid (Keep Never wb w4) := Lib.hid (HK3.out.then_ hk4 (fun i hi h => by have := (HO3.out.row h).1; omega))
  rw [← spCells_app] at hown4
  obtain ⟨N, hN⟩ : ∃ N, n1 + n2 = N := ⟨_, rfl⟩
  rw [hN] at hown4 ⊢
  have hN2 : N ≤ 5000 := by omega
  obtain ⟨all, hall⟩ : ∃ l, a ++ b = l := ⟨_, rfl⟩
  rw [hall] at hown4
  have HAll := Lib.hid hall
  have HO4 := Lib.hid hown4
  have HAN : Hid (all.length = N) := Lib.hid hown4.rd.sp_len
  have H14 := Lib.hid (H1.out.keep hk34.out)
  have H24 := Lib.hid (H2.out.keep hk34.out)
  have HB4 := Lib.hid (HBb.out.keep hk34.out (fun h => h))
  clear hk4 hrow4 hown4 hall hN H23 H1 H2 HO3 hsz3 HK3 HBb
  go_loopw [8, 9, 10] (fun es ns i wr => ∃ (q ne ce nn cn : Nat) (Ae An : Option Addr), q ≤ N ∧ i = .int .i64 q ∧ es = .slice Ae ne ce ∧ ns = .slice An nn cn ∧ ne ≤ q ∧ nn ≤ 2 * q ∧
    Hid (Keep Never w4 wr ∧ Own wr w4.heap.size 3 1 Ae ne ce ((edgesM (all.take q)).map iv) ∧ ne = (edgesM (all.take q)).length ∧ Own wr w4.heap.size 3 1 An nn cn ((endsM (all.take q)).map iv) ∧ nn = (endsM (all.take q)).length)) (fun _ _ i _ => N - (intOf i).toNat)
  case atStart => exact ⟨0, 0, 0, 0, 0, none, none, by omega, rfl, rfl, rfl, by omega, by omega, Lib.hid ⟨Keep.refl _ _, Own.nil _ _ _ _, rfl, Own.nil _ _ _ _, rfl⟩⟩
  case round =>
    obtain ⟨q, ne, ce, nn, cn, Ae, An, hq, rfl, rfl, rfl, hne, hnn, HH⟩ := hrel
    by_cases h0 : q < N
    · obtain ⟨kr, oe, le, on, ln⟩ := HH.out
      obtain ⟨ad, s, hA, _, hs, d0, d1, d2⟩ := (HO4.out.keep kr (fun _ _ h => h)).rd.sp h0
      subst hA
      have hqz : (q : Int) < (N : Int) := by omega
      have hE := edges_take hs
      have hS := ends_take hs
      obtain ⟨s1, s2, s3⟩ := s
      simp only at d0 d1 d2 hE hS
      have HE := Lib.hid hE
      have HS := Lib.hid hS
      have hl1 := withM_len (edgesM (all.take q)) s1
      have hl2 := withM_len (endsM (all.take q)) s2
      have hl3 := withM_len (withM (endsM (all.take q)) s2) s3
      have HLs := Lib.hid (And.intro hl1 (And.intro hl2 hl3))
      have HKr := Lib.hid kr
      have HOe := Lib.hid oe
      have HOn := Lib.hid on
      have HLe := Lib.hid le
      have HLn := Lib.hid ln
      have HC := Lib.hid (with_any Ae ne ce _ (edgesM (all.take q)) s1 wr oe.rd (by omega) (Nat.le_refl _))
      have HD := Lib.hid (And.intro d1 d2)
      clear kr oe le on ln hs hE hS hl1 hl2 hl3 HH d1 d2
      go_wp2_with fail
      refine HC.out.mono ?_
      rintro e w5 ⟨m5, A5, c5, rfl, hm5, ho5, hk5⟩
      have HO5 := Lib.hid (ho5.less HKr.out.size)
      have HK5 := Lib.hid (HKr.out.trans hk5)
      have HOn5 := Lib.hid (HOn.out.keep hk5 (fun _ _ h => h))
      have HM5 := hm5
      have d1 := (hk5.cell (cell_lt HD.out.1) (fun h => h)).trans HD.out.1
      have d2 := (hk5.cell (cell_lt HD.out.2) (fun h => h)).trans HD.out.2
      have HC2 := Lib.hid (with_any An nn cn _ (endsM (all.take q)) s2 w5 HOn5.out.rd (by omega) (Nat.le_refl _))
      have HD5 := Lib.hid d2
      clear ho5 hk5 HC d2 hm5
      go_wp2_with fail
      refine HC2.out.mono ?_
      rintro e w6 ⟨m6, A6, c6, rfl, hm6, ho6, hk6⟩
      have HO6 := Lib.hid (ho6.less HK5.out.size)
      have HK6 := Lib.hid (HK5.out.trans hk6)
      have HO56 := Lib.hid (HO5.out.keep hk6 (fun _ _ h => h))
      have hm6' : m6 ≤ 20000 := by have := hm6.out; have := HLs.out.2.1; have := HLn.out; omega
      have d2 := (hk6.cell (cell_lt HD5.out) (fun h => h)).trans HD5.out
      have HC3 := Lib.hid (with_any A6 m6 c6 _ (withM (endsM (all.take q)) s2) s3 w6 HO6.out.rd (by omega) (Nat.le_refl _))
      clear ho6 hk6 HC2
      go_wp2_with fail
      refine HC3.out.mono ?_
      rintro e w7 ⟨m7, A7, c7, rfl, hm7, ho7, hk7⟩
      have HF : Hid (Keep Never w4 w7 ∧ Own w7 w4.heap.size 3 1 A5 m5 c5 ((edgesM (all.take (q + 1))).map iv) ∧ m5 = (edgesM (all.take (q + 1))).length ∧ Own w7 w4.heap.size 3 1 A7 m7 c7 ((endsM (all.take (q + 1))).map iv) ∧ m7 = (endsM (all.take (q + 1))).length) := by
        refine Lib.hid ⟨HK6.out.trans hk7, ?_, ?_, ?_, ?_⟩
        · rw [HE.out]; exact HO56.out.keep hk7 (fun _ _ h => h)
        · rw [HE.out]; exact HM5.out
        · rw [HS.out]; exact ho7.less HK6.out.size
        · rw [HS.out]; exact hm7.out
      have b5 : m5 ≤ q + 1 := by have := HM5.out; have := HLs.out.1; have := HLe.out; omega
      have b7 : m7 ≤ 2 * (q + 1) := by have := hm7.out; have := HLs.out.2; have := HLn.out; omega
      clear ho7 hk7 HC3
      go_wp2_with fail
      refine ⟨⟨q + 1, m5, c5, m7, c7, A5, A7, by omega, by go_num, rfl, rfl, b5, b7, HF⟩, ?_⟩
      simp [intOf]; try omega
    · obtain rfl : q = N := by omega
      have hqz : ¬ (q : Int) < (q : Int) := by omega
      obtain ⟨kr, oe, le, on, ln⟩ := HH.out
      rw [List.take_of_length_le (by rw [HAN.out]; exact Nat.le_refl _)] at oe le on ln
      obtain ⟨Es, hEs⟩ : ∃ l, edgesM all = l := ⟨_, rfl⟩
      obtain ⟨Ns, hNs⟩ : ∃ l, endsM all = l := ⟨_, rfl⟩
      rw [hEs] at oe le
      rw [hNs] at on ln
      have HEs := Lib.hid hEs
      have HNs := Lib.hid hNs
      have HKr := Lib.hid kr
      have HOe := Lib.hid oe
      have HOn := Lib.hid on
      have HLe := Lib.hid le
      have HLn := Lib.hid ln
      clear hEs hNs kr oe le on ln HH
      go_wp2_with fail
      rename World => wz
      have HBn := Lib.hid (HB4.out.keep HKr.out (fun h => h))
      have H1r := Lib.hid (H14.out.keep HKr.out)
      have H2r := Lib.hid (H24.out.keep HKr.out)
      have HKw := Lib.hid (hk4'.out.trans HKr.out)
      have HBs : Hid (w.heap.size < wz.heap.size) := Lib.hid HBn.out.lt
      have hB4 : Hid (w4.heap.size ≤ wz.heap.size) := Lib.hid HKr.out.size
      have HEr := Lib.hid HOe.out.rd
      have HNr := Lib.hid HOn.out.rd
      have hne2 : ne ≤ 5000 := by omega
      have hnn2 : nn ≤ 10000 := by omega
      clear HB4 hk34 hk4' H14 H24 HKr HO4 HAN hwb HKb hqz HOe HOn hne hnn h0 hq
      go_loopw [11, 12, 13, 14, 15, 16, 17] (fun out i _ _ _ _ _ wv => ∃ (r no co : Nat) (Ao : Option Addr), r ≤ ne ∧ i = .int .i64 r ∧ out = .slice Ao no co ∧ no ≤ r * 10000 ∧
        Hid (∃ o : List Sp, no = o.length ∧ Own wv wz.heap.size 74 3 Ao no co (spCells o) ∧ formF (gF a b k) Ns Es [] = formF (gF a b k) Ns (Es.drop r) o ∧ Keep Never wz wv)) (fun _ i _ _ _ _ _ _ => ne - (intOf i).toNat)
      case atStart => exact ⟨0, 0, 0, none, by omega, rfl, rfl, by omega, Lib.hid ⟨[], rfl, Own.nil _ _ _ _, rfl, Keep.refl _ _⟩⟩
      case round =>
        rename World => wv
        obtain ⟨r, no, co, Ao, hr, rfl, rfl, hno, HH⟩ := hrel
        obtain ⟨o, ho1, ho2, ho3, hkv⟩ := HH.out
        by_cases h0 : r < ne
        · obtain ⟨ade, e0, hA, hade, he0, ce⟩ := (HEr.out.keep hkv (fun _ h => h.elim)).at1 h0
          subst hA
          have hrz : (r : Int) < (ne : Int) := by omega
          unfold iv at ce
          have HStep : Hid (formF (gF a b k) Ns Es [] = formF (gF a b k) Ns (Es.drop (r + 1)) (rowF (gF a b k e0) e0 Ns false o)) := Lib.hid (by
            obtain ⟨i1, i2⟩ := List.getElem?_eq_some_iff.1 he0
            rw [ho3, List.drop_eq_getElem_cons i1, i2]; rfl)
          have HO := Lib.hid ho2
          have HKv := Lib.hid hkv
          have HCe := Lib.hid ce
          have Ho1 := Lib.hid ho1
          clear HH he0 ho1 ho2 ho3 ce hkv
          go_wp2_with fail
          go_loopw [11, 13, 14, 15, 16, 17] (fun out op j _ _ _ wu => ∃ (t mo mc : Nat) (Au : Option Addr) (f : Bool), t ≤ nn ∧ op = .bool f ∧ j = .int .i64 t ∧ out = .slice Au mo mc ∧ mo ≤ r * 10000 + t ∧
            Hid (∃ o' : List Sp, mo = o'.length ∧ Own wu wz.heap.size 74 3 Au mo mc (spCells o') ∧ rowF (gF a b k e0) e0 Ns false o = rowF (gF a b k e0) e0 (Ns.drop t) f o' ∧ (f = true → 0 < mo) ∧ Keep Never wz wu)) (fun _ _ j _ _ _ _ => nn - (intOf j).toNat)
          case atStart => exact ⟨0, no, co, Ao, false, by omega, rfl, rfl, rfl, by omega, Lib.hid ⟨o, Ho1.out, HO.out, rfl, fun h => (by cases h), HKv.out⟩⟩
          case round =>
            rename World => wu
            obtain ⟨t, mo, mc, Au, f, ht, rfl, rfl, rfl, hmo, HI⟩ := hrel
            obtain ⟨o', hu1, hu2, hu3, hu4, hku⟩ := HI.out
            by_cases ht1 : t + 1 < nn
            · obtain ⟨adn, p, hA, hadn, hp, cp⟩ := (HNr.out.keep hku (fun _ h => h.elim)).at1 (k := t) (by omega)
              subst hA
              obtain ⟨adn', p2, hA, hadn', hp2, cp2⟩ := (HNr.out.keep hku (fun _ h => h.elim)).at1 (k := t + 1) (by omega)
              obtain rfl : adn = adn' := by injection hA
              have cu : wu.cell? (ade.add r) = some (.int .i64 e0) := by
                have h := (HEr.out.keep hku (fun _ h => h.elim)).at1 h0
                obtain ⟨ad', x', h1, h2, h3, h4⟩ := h
                injection h1 with h1
                subst h1
                rw [h4]
                have h5 := HCe.out
                obtain ⟨ad'', x'', g1, g2, g3, g4⟩ := (HEr.out.keep HKv.out (fun _ h => h.elim)).at1 h0
                injection g1 with g1
                subst g1
                rw [h3] at g3
                injection g3 with g3
                subst g3
                rw [h5] at g4
                exact g4.symm
              unfold iv at cp cp2
              have eadd : adn.add (t + 1) = ⟨adn.block, adn.off + (t + 1), none⟩ := by unfold Addr.add; split <;> simp_all
              rw [eadd] at cp2
              clear eadd
              have htz : (t : Int) + 1 < (nn : Int) := by omega
              have ht0 : t < nn := by omega
              have HRow : Hid (rowF (gF a b k e0) e0 Ns false o = rowF (gF a b k e0) e0 (Ns.drop (t + 1)) (gF a b k e0 p) (rowStep (gF a b k e0) e0 p p2 f o')) := Lib.hid (by
                obtain ⟨i1, i2⟩ := List.getElem?_eq_some_iff.1 hp
                obtain ⟨j1, j2⟩ := List.getElem?_eq_some_iff.1 hp2
                rw [hu3, List.drop_eq_getElem_cons i1, i2, List.drop_eq_getElem_cons j1, j2]; rfl)
              have HU := Lib.hid hu2
              have Hu1 := Lib.hid hu1
              have Hu4 := Lib.hid hu4
              have HKu := Lib.hid hku
              have HHa : Hid (∀ W', Keep Never wu W' → Calls Tryz.prog 94 #[.slice A1 n1 c1, .int .i64 e0, .int .i64 p] W' fun en w' => en = .returned (.bool (hasL a e0 p)) ∧ Keep Never W' w') := Lib.hid (fun W' hk => rhas_any A1 n1 c1 B a e0 p W' (((H1r.out.keep HKu.out).keep hk).rd) (by omega))
              have HHb : Hid (∀ W', Keep Never wu W' → Calls Tryz.prog 94 #[.slice A2 n2 c2, .int .i64 e0, .int .i64 p] W' fun en w' => en = .returned (.bool (hasL b e0 p)) ∧ Keep Never W' w') := Lib.hid (fun W' hk => rhas_any A2 n2 c2 B b e0 p W' (((H2r.out.keep HKu.out).keep hk).rd) (by omega))
              clear hu1 hu2 hu3 hu4 hku HI hp hp2
              go_wp2_with fail
              go_region_held3 (fun w' => w'.cell? (ade.add r) = some (.int .i64 e0) ∧ w'.cell? (adn.add t) = some (.int .i64 p)) (first | go_keep | (exact ⟨(hk7.cell (cell_lt cu) (fun h => h)).trans cu, (hk7.cell (cell_lt cp) (fun h => h)).trans cp⟩))
                (first | (go_at_call 94; refine (HHa.out _ (Keep.refl Never wu).drew).mono ?_; rintro e w7 ⟨rfl, hk7⟩))
              have HK7 := Lib.hid (hk7.drewL)
              have hA7 : Keep Never wu w7 := hk7.drewL
              have cu7 := (hA7.cell (cell_lt cu) (fun h => h)).trans cu
              have cp7 := (hA7.cell (cell_lt cp) (fun h => h)).trans cp
              have cp27 := (hA7.cell (cell_lt cp2) (fun h => h)).trans cp2
              clear hk7 hA7 cu cp cp2 HHa
              go_wp2_with fail
              go_region_held3 (fun w' => w'.cell? (ade.add r) = some (.int .i64 e0) ∧ w'.cell? (adn.add t) = some (.int .i64 p)) (first | go_keep | (exact ⟨(hk8.cell (cell_lt cu7) (fun h => h)).trans cu7, (hk8.cell (cell_lt cp7) (fun h => h)).trans cp7⟩))
                (first | (go_at_call 94; refine (HHb.out _ HK7.out.drew).mono ?_; rintro e w8 ⟨rfl, hk8⟩))
              have hA8 : Keep Never w7 w8 := hk8.drewL
              have HK8 := Lib.hid (HK7.out.trans hA8)
              have cu8 := (hA8.cell (cell_lt cu7) (fun h => h)).trans cu7
              have cp8 := (hA8.cell (cell_lt cp7) (fun h => h)).trans cp7
              have cp28 := (hA8.cell (cell_lt cp27) (fun h => h)).trans cp27
              have hb8 := HBn.out.keep (HKu.out.trans HK8.out) (fun h => h)
              have b0 : w8.cell? ⟨w.heap.size, 0, none⟩ = some (.bool k.1) := hb8.cell 0
              have b1 : w8.cell? ⟨w.heap.size, 1, none⟩ = some (.bool k.2.1) := hb8.cell 1
              have b2 : w8.cell? ⟨w.heap.size, 2, none⟩ = some (.bool k.2.2) := hb8.cell 2
              obtain ⟨is, his⟩ : ∃ z, gF a b k e0 p = z := ⟨_, rfl⟩
              have HWt : Hid (∀ W', Calls Tryz.prog 95 #[.agg #[.bool k.1, .bool k.2.1, .bool k.2.2], .bool (hasL a e0 p), .bool (hasL b e0 p)] W' fun e w' => e = .returned (.bool is) ∧ Keep Never W' w') := Lib.hid (fun W' => by
                have h := wanted_any k (hasL a e0 p) (hasL b e0 p) W'
                rwa [show wantB k (hasL a e0 p) (hasL b e0 p) = is from his] at h)
              have HRow2 : Hid (rowF (gF a b k e0) e0 Ns false o = rowF (gF a b k e0) e0 (Ns.drop (t + 1)) is (if is = true then (if f = true then (match o'.getLast? with | some t => o'.dropLast ++ [(t.1, t.2.1, p2)] | none => o') else o' ++ [(e0, p, p2)]) else o')) := Lib.hid (by
                have h := HRow.out
                unfold rowStep at h
                rwa [his] at h)
              clear hk8 hA8 cu7 cp7 cp27 hb8 HHb his HRow HK7
              go_wp2_with fail
              refine (HWt.out _).mono ?_
              rintro e w9 ⟨rfl, hk9⟩
              have cu9 := (hk9.cell (cell_lt cu8) (fun h => h)).trans cu8
              have cp9 := (hk9.cell (cell_lt cp8) (fun h => h)).trans cp8
              have cp29 := (hk9.cell (cell_lt cp28) (fun h => h)).trans cp28
              have HK9 := Lib.hid (HKu.out.trans (HK8.out.trans hk9))
              have HU9 := Lib.hid (HU.out.keep (HK8.out.trans hk9) (fun _ _ h => h))
              have hsz9 : wz.heap.size ≤ w9.heap.size := HK9.out.size
              clear hk9 cu8 cp8 cp28 b0 b1 b2 HWt HK8 HU HKu
              cases is with
              | false =>
                go_wp2_with fail
                refine ⟨⟨t + 1, mo, mc, Au, false, by omega, rfl, by go_num, rfl, by omega, Lib.hid ⟨o', Hu1.out, HU9.out, HRow2.out, fun h => (by cases h), HK9.out⟩⟩, ?_⟩
                simp [intOf]; try omega
              | true =>
                cases f with
                | false =>
                  have HFr : Hid (rowF (gF a b k e0) e0 Ns false o = rowF (gF a b k e0) e0 (Ns.drop (t + 1)) true (o' ++ [(e0, p, p2)])) := Lib.hid (by have h := HRow2.out; simpa using h)
                  have x0 : (t : Int) < (nn : Int) := by omega
                  have x1 : IntKind.i64.wrap ((t : Int) + 1) = (t : Int) + 1 := IntWalk.i64_in _ (by omega)
                  have x2 : (0 : Int) ≤ (t : Int) + 1 := by omega
                  have x3 : ((t : Int) + 1).toNat = t + 1 := by omega
                  have lt1 := cell_lt cu9
                  have lt2 := cell_lt cp9
                  have lt3 := cell_lt cp29
                  have HAde := Lib.hid hade
                  have HAdn := Lib.hid hadn
                  have HSk : Hid (∀ (w' : World), Keep (InRow Au) (w9.drew.alloc (.cells #[.int .i64 e0, .int .i64 p, .int .i64 p2] 74)) w' → w'.cell? (ade.add r) = some (.int .i64 e0) ∧ w'.cell? (adn.add t) = some (.int .i64 p) ∧ w'.cell? ⟨adn.block, adn.off + (t + 1), none⟩ = some (.int .i64 p2)) := Lib.hid (fun w' h => by
                    have ha : Keep Never w9 (w9.drew.alloc (.cells #[.int .i64 e0, .int .i64 p, .int .i64 p2] 74)) := ((Keep.refl Never w9).drew).alloc _
                    have hs := ha.size
                    refine ⟨?_, ?_, ?_⟩
                    · rw [h.cell (by omega) (fun hh => by have := (HU9.out.row hh).1; rw [block_add] at this; have := HAde.out; omega), ha.cell lt1 (fun hh => hh)]; exact cu9
                    · rw [h.cell (by omega) (fun hh => by have := (HU9.out.row hh).1; rw [block_add] at this; have := HAdn.out; omega), ha.cell lt2 (fun hh => hh)]; exact cp9
                    · rw [h.cell (by omega) (fun hh => by have h2 : wz.heap.size ≤ adn.block := (HU9.out.row hh).1; have := HAdn.out; omega), ha.cell lt3 (fun hh => hh)]; exact cp29)
                  go_wp2_with fail
                  go_region_held3 (fun w' => w'.cell? (ade.add r) = some (.int .i64 e0) ∧ w'.cell? (adn.add t) = some (.int .i64 p) ∧ w'.cell? ⟨adn.block, adn.off + (t + 1), none⟩ = some (.int .i64 p2)) (first | go_keep | (exact HSk.out _ hk10) | (exact HSk.out _ (Keep.refl _ _)))
                    (first | (refine step_app _ rfl (.tmp 103) (.tmp 118) _ rfl elemSp wz.heap.size (A := Au) (n := mo) (c := mc) (by go_simp) (HU9.out.drew.alloc _) _ (A' := some ⟨_, 0, none⟩) (m := 1) (c' := 1) (news := [.int .i64 e0, .int .i64 p, .int .i64 p2]) (by go_simp) (Rd.of_blk (n := 1) (cs := [.int .i64 e0, .int .i64 p, .int .i64 p2]) (Blk.new _ _ _) rfl) (by simp [Value.oneCell']) (by clear x1 x2 x3; omega) (by clear x1 x2 x3; unfold maxLen; omega) (by clear x1 x2 x3; simp; omega) ?_; intro A10 c10 w10 hown10 hk10 hrow10))
                  clear x1 x2 x3 lt1 lt2 lt3
                  go_wp2_with fail
                  have hkk : Keep Never wz w10 := (HK9.out.drew.alloc _).then_ hk10 (fun i hi h => by have := (HU9.out.row h).1; omega)
                  refine ⟨⟨t + 1, mo + 1, c10, A10, true, by omega, rfl, by go_num, rfl, by omega, Lib.hid ⟨o' ++ [(e0, p, p2)], by simp [Hu1.out], by simpa [spCells, spCell] using hown10, HFr.out, fun _ => by omega, hkk⟩⟩, ?_⟩
                  simp [intOf]; try omega
                | true =>
                  obtain ⟨m0, hm0⟩ : ∃ m0, mo = m0 + 1 := ⟨mo - 1, by have := Hu4.out rfl; omega⟩
                  rcases List.eq_nil_or_concat o' with rfl | ⟨l0, t', rfl⟩
                  · exact absurd Hu1.out (by simp; omega)
                  · rw [List.concat_eq_append] at HU9 Hu1 HRow2
                    have Hm0 : Hid (mo = m0 + 1 ∧ l0.length = m0) := Lib.hid ⟨hm0, by have := Hu1.out; simp at this; omega⟩
                    have hk0s : (mo : Int) - 1 = (m0 : Int) := by omega
                    have hk0z : (m0 : Int) < (mo : Int) := by omega
                    have hk00 : (0 : Int) ≤ (m0 : Int) := by omega
                    have hk0lt : m0 < mo := by omega
                    obtain ⟨g, cur, rfl, hbg, hB2, hnc, hcm, hcs, hct⟩ : ∃ g cur, Au = some ⟨g, 0, none⟩ ∧ wz.heap.size ≤ g ∧ Blk w9 g 74 cur ∧ mo ≤ mc ∧ mc ≤ maxLen ∧ cur.size = mc * 3 ∧ cur.toList.take (mo * 3) = spCells (l0 ++ [t']) := by
                      rcases HU9.out.form with ⟨_, h, _⟩ | h
                      · omega
                      · exact h
                    have ht' : (l0 ++ [t'])[m0]? = some t' := by rw [List.getElem?_append_right (by have := Hm0.out.2; omega), Hm0.out.2]; simp
                    obtain ⟨t1, t2, t3⟩ := t'
                    have y2 := HU9.out.cell0 (spCells_at _ ht').2.2
                    simp only at y2
                    have f2 := HU9.out.frozen0 (m0 * 3 + 2)
                    have hset : (l0 ++ [(t1, t2, t3)]).set m0 (t1, t2, p2) = l0 ++ [(t1, t2, p2)] := by
                      have h1 := Hm0.out.2
                      rw [List.set_append_right _ _ (by omega), h1, Nat.sub_self]; rfl
                    have hcs2 := spCells_set2 _ ht' p2
                    simp only at hcs2
                    rw [hset] at hcs2
                    have HOs : Hid (Own (w9.setCell ⟨g, m0 * 3 + 2, none⟩ (.int .i64 p2)) wz.heap.size 74 3 (some ⟨g, 0, none⟩) mo mc (spCells (l0 ++ [(t1, t2, p2)]))) := by
                      have h1 := HU9.out.stored rfl (m0 * 3 + 2) (.int .i64 p2)
                      rw [add0, ← hcs2] at h1
                      exact Lib.hid h1
                    have HKs : Hid (Keep Never wz (w9.setCell ⟨g, m0 * 3 + 2, none⟩ (.int .i64 p2))) := Lib.hid (HK9.out.set_ (p := ⟨g, m0 * 3 + 2, none⟩) (.inr hbg) _)
                    have HFr : Hid (rowF (gF a b k e0) e0 Ns false o = rowF (gF a b k e0) e0 (Ns.drop (t + 1)) true (l0 ++ [(t1, t2, p2)])) := Lib.hid (by have h := HRow2.out; simpa using h)
                    have Hln : Hid (mo = (l0 ++ [(t1, t2, p2)]).length) := Lib.hid (by have := Hu1.out; simpa using this)
                    have x0 : (t : Int) < (nn : Int) := by omega
                    clear hbg hB2 hnc hcm hcs hct ht' hset hcs2 hm0 HRow2 Hu1 HU9 hsz9
                    go_wp2_with fail
                    refine ⟨⟨t + 1, mo, mc, _, true, by omega, rfl, by go_num, rfl, by omega, Lib.hid ⟨_, Hln.out, HOs.out, HFr.out, fun _ => by omega, HKs.out⟩⟩, ?_⟩
                    simp [intOf]; try omega
            · have htz : ¬ (t : Int) + 1 < (nn : Int) := by omega
              have HD : Hid (rowF (gF a b k e0) e0 Ns false o = o') := Lib.hid (by
                rw [hu3]
                have hl : (Ns.drop t).length ≤ 1 := by rw [List.length_drop]; have := HLn.out; omega
                cases hd : Ns.drop t with
                | nil => rfl
                | cons x l =>
                  rw [hd] at hl
                  cases l with
                  | nil => rfl
                  | cons y l => simp at hl)
              have HU := Lib.hid hu2
              have HKu := Lib.hid hku
              have Hu1 := Lib.hid hu1
              clear hu1 hu2 hu3 hu4 hku HI
              go_wp2_with fail
              refine ⟨⟨r + 1, mo, mc, Au, by omega, by go_num, rfl, by omega, Lib.hid ⟨o', Hu1.out, HU.out, by rw [HStep.out, HD.out], HKu.out⟩⟩, ?_⟩
              simp [intOf]; try omega
        · obtain rfl : r = ne := by omega
          have hrz : ¬ (r : Int) < (r : Int) := by omega
          have HFin : Hid (o = FormM a b k) := Lib.hid (by
            have h := ho3
            rw [List.drop_eq_nil_of_le (by rw [HLe.out]; exact Nat.le_refl _)] at h
            unfold FormM
            rw [HAll.out, HEs.out, HNs.out]
            exact h.symm)
          have HO := Lib.hid ho2
          have HKv := Lib.hid hkv
          have Ho1 := Lib.hid ho1
          clear ho1 ho2 ho3 hkv HH
          go_wp2_with fail
          go_ret
          exact ⟨o, Ao, no, co, rfl, Ho1, SpAt.of_own HO.out, HKw.out.trans HKv.out, HFin.out⟩

theorem form_any (A1 : Option Addr) (n1 c1 : Nat) (A2 : Option Addr) (n2 c2 B : Nat) (a b : List Sp) (k : Bool × Bool × Bool) (w : World) (h1 : SpAt w B A1 n1 c1 a) (h2 : SpAt w B A2 n2 c2 b) (hn1 : n1 ≤ 1000) (hn2 : n2 ≤ 1000) (hB : B ≤ w.heap.size) :
    Calls Tryz.prog 78 #[.slice A1 n1 c1, .slice A2 n2 c2, .agg #[.bool k.1, .bool k.2.1, .bool k.2.2]] w fun e w' => ∃ m A n c, e = .returned (.slice A n c) ∧ Hid (n = m.length) ∧ SpAt w' w'.heap.size A n c m ∧ Keep Never w w' ∧ m = FormM a b k :=
  form_big A1 n1 c1 A2 n2 c2 B a b k w h1 h2 (by omega) (by omega) hB

end Go.Proofs.YtpahfobijmmmmaaGreat

namespace Go.Proofs.YtpahfobijmmmmaaGreat
open Go.RowKit

theorem nilAt (w : World) : SpAt w w.heap.size none 0 0 [] := ⟨Rd.nil _ _ _ _, fun _ => rfl, Nat.le_refl _⟩
theorem form_norm (a : List Sp) : NormOf a (FormM a [] (true, false, false)) := ⟨(FormM_ok a [] _).1, fun e x => by rw [(FormM_ok a [] _).2.1, hasL_nil]; cases hasL a e x <;> rfl⟩
theorem form_union (a b : List Sp) : NormOf (a ++ b) (FormM a b (true, true, true)) := ⟨(FormM_ok a b _).1, fun e x => by rw [(FormM_ok a b _).2.1, hasL_app]; cases hasL a e x <;> cases hasL b e x <;> rfl⟩
theorem form_minus (a b : List Sp) : KeptIs a b false (FormM a b (true, false, false)) := ⟨(FormM_ok a b _).1, fun e x => by rw [(FormM_ok a b _).2.1]; cases hasL a e x <;> cases hasL b e x <;> rfl⟩
theorem form_both (a b : List Sp) : KeptIs a b true (FormM a b (false, false, true)) := ⟨(FormM_ok a b _).1, fun e x => by rw [(FormM_ok a b _).2.1]; cases hasL a e x <;> cases hasL b e x <;> rfl⟩

set_option maxHeartbeats 1000000 in
set_option maxRecDepth 100000 in
theorem rnorm_any (B A1 n1 c1) (a : List Sp) (w : World) (h1 : SpAt w B A1 n1 c1 a) (hn1 : n1 ≤ 1000) (hB : B ≤ w.heap.size) :
    Calls Tryz.prog 50 #[.slice A1 n1 c1] w (SpAns w fun m => NormOf a m ∧ m.length ≤ 4000000) := by
  have HLn : Hid ((FormM a [] (true, false, false)).length ≤ 4000000) := Lib.hid (by
    have h2 := (FormM_ok a [] (true, false, false)).2.2
    have h3 := h1.len
    simp only [List.length_nil, Nat.add_zero] at h2
    have h4 : a.length * (2 * a.length) ≤ 1000 * 2000 := Nat.mul_le_mul (by omega) (by omega)
    omega)
  have HK := Lib.hid (form_any A1 n1 c1 none 0 0 _ a [] (true, false, false) w (h1.more hB) (nilAt w) hn1 (by omega) (Nat.le_refl _))
  clear h1 hn1 hB
  go_enter Tryz.func50, Tryz.ntmps50
  go_wp2_with fail
  refine HK.out.mono ?_
  rintro e w' ⟨m, A, n, c, rfl, hn, hs, hk, rfl⟩
  have H := Lib.hid (And.intro hs hk)
  clear hs hk HK
  go_wp2_with fail
  go_ret
  exact ⟨_, A, n, c, rfl, hn, H.out.1, H.out.2, form_norm a, HLn.out⟩
theorem within_one {a b : List Sp} {r s : Bool} (h : withinB a b r) (h' : withinB a b s) : r = s := bool_ext (h.trans h'.symm)
theorem meets_one {a b : List Sp} {r s : Bool} (h : meetsB a b r) (h' : meetsB a b s) : r = s := bool_ext (h.trans h'.symm)
theorem KeptIs.one' {a b m n : List Sp} {which : Bool} (h : KeptIs a b which m) (h' : KeptIs a b which n) : m = n := h.one h'

end Go.Proofs.YtpahfobijmmmmaaGreat
