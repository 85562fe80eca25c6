/- Chapter 13: may; the document's joined, May. -/
import Derived.Test.YtijdkjcjhfebfaaGreatTopB
namespace Go.Proofs.YtijdkjcjhfebfaaGreat
open Go.RowKit

theorem keepT {w w' : World} {a : Addr} {u : Value} (hk : Keep Never w w') (h : w.cell? a = some u) : w'.cell? a = some u := (hk.cell (cell_lt h) (fun h => h)).trans h
/-- == at two ends -/
def sameE (x1 x2 y1 y2 : Int) : Bool := decide (((x1, x2) : En) = (y1, y2))
theorem run_eq_end (w : World) (x1 x2 y1 y2 : Int) : (binOp .eql 75 (.agg #[.int .i64 x1, .int .i64 x2]) (.agg #[.int .i64 y1, .int .i64 y2])).run Tryz.prog w = .ok (.bool (sameE x1 x2 y1 y2)) w := by
  by_cases h1 : x1 = y1
  · have t1 : (x1 == y1) = true := by simpa using h1
    by_cases h2 : x2 = y2
    · have t2 : (x2 == y2) = true := by simpa using h2
      have hd : sameE x1 x2 y1 y2 = true := decide_eq_true (by rw [h1, h2])
      rw [hd]
      clear h1 h2 hd
      go_simp
    · have t2 : (x2 == y2) = false := by simpa using h2
      have hd : sameE x1 x2 y1 y2 = false := decide_eq_false (by simp [h2])
      rw [hd]
      clear h1 h2 hd
      go_simp
  · have t1 : (x1 == y1) = false := by simpa using h1
    have hd : sameE x1 x2 y1 y2 = false := decide_eq_false (by simp [h1])
    rw [hd]
    clear h1 hd
    go_simp

theorem joinB_le {l : List Jt} {k : Nat} {a b : En} (h : joinB (l.take k) a b = true) : joinB l a b = true := by
  unfold joinB at h ⊢
  rw [List.any_eq_true] at h ⊢
  obtain ⟨j, h1, h2⟩ := h
  exact ⟨j, List.mem_of_mem_take h1, h2⟩
theorem joinB_snoc_t {l : List Jt} {x1 x2 x3 x4 a1 a2 b1 b2 : Int} (h : (sameE x1 x2 a1 a2 = true ∧ sameE x3 x4 b1 b2 = true) ∨ (sameE x1 x2 b1 b2 = true ∧ sameE x3 x4 a1 a2 = true)) : joinB (l ++ [((x1, x2), (x3, x4))]) (a1, a2) (b1, b2) = true := by
  unfold joinB sameE at *
  simp only [decide_eq_true_eq] at h
  rw [List.any_append]
  rcases h with ⟨h1, h2⟩ | ⟨h1, h2⟩ <;> rw [h1, h2] <;> simp
theorem joinB_snoc_f {l : List Jt} {x1 x2 x3 x4 a1 a2 b1 b2 : Int} (h0 : joinB l (a1, a2) (b1, b2) = false) (h : sameE x1 x2 a1 a2 = false ∨ sameE x3 x4 b1 b2 = false) (h' : sameE x1 x2 b1 b2 = false ∨ sameE x3 x4 a1 a2 = false) : joinB (l ++ [((x1, x2), (x3, x4))]) (a1, a2) (b1, b2) = false := by
  unfold joinB sameE at *
  simp only [decide_eq_false_iff_not] at h h'
  rw [List.any_append, h0]
  simp only [List.any_cons, List.any_nil, Bool.or_false, Bool.false_or, Bool.or_eq_false_iff, decide_eq_false_iff_not, Prod.mk.injEq, not_and] at *
  omega

set_option maxHeartbeats 40000000 in
set_option maxRecDepth 100000 in
theorem rjoined_any (A : Option Addr) (n c B : Nat) (l : List Jt) (a b : En) (w : World) (hs : repJt.Sl w B A n c l) (hn : n ≤ 100000000) :
    Calls Tryz.prog 62 #[.slice A n c, .agg #[.int .i64 a.1, .int .i64 a.2], .agg #[.int .i64 b.1, .int .i64 b.2]] w fun e w' => e = .returned (.bool (joinB l a b)) ∧ Keep Never w w' := by
  obtain ⟨a1, a2⟩ := a
  obtain ⟨b1, b2⟩ := b
  simp only
  have qe : ∀ (w : World) (x1 x2 y1 y2 : Int), (binOp .eql 75 (.agg #[.int .i64 x1, .int .i64 x2]) (.agg #[.int .i64 y1, .int .i64 y2])).run Tryz.prog w = .ok (.bool (sameE x1 x2 y1 y2)) w := run_eq_end
  obtain ⟨w1, hw1⟩ : ∃ wb : World, w.alloc (.cells #[.int .i64 a1, .int .i64 a2] 75) = wb := ⟨_, rfl⟩
  obtain ⟨w2, hw2⟩ : ∃ wb : World, w1.alloc (.cells #[.int .i64 b1, .int .i64 b2] 75) = wb := ⟨_, rfl⟩
  have s1 : w1.heap.size = w.heap.size + 1 := by rw [← hw1]; simp
  have k1 : Keep Never w w1 := by rw [← hw1]; exact (Keep.refl _ _).alloc _
  have k2 : Keep Never w1 w2 := by rw [← hw2]; exact (Keep.refl _ _).alloc _
  have b1' := Blk.new w 75 #[.int .i64 a1, .int .i64 a2]
  rw [hw1] at b1'
  have b2' := Blk.new w1 75 #[.int .i64 b1, .int .i64 b2]
  rw [hw2, s1] at b2'
  have HB : Hid (Blk w2 w.heap.size 75 #[.int .i64 a1, .int .i64 a2] ∧ Blk w2 (w.heap.size + 1) 75 #[.int .i64 b1, .int .i64 b2]) := Lib.hid ⟨b1'.keep k2 (fun h => h), b2'⟩
  have HK := Lib.hid (k1.trans k2)
  have HS := Lib.hid (hs.keep HK.out (fun _ h => h.elim))
  have HLn : Hid (n = l.length) := Lib.hid hs.len
  clear k1 k2 b1' b2' hs
  go_enter Tryz.func62, Tryz.ntmps62
  go_wp2_with fail
  go_loopw [7] (fun i wr => ∃ k : Nat, k ≤ n ∧ i = .int .i64 k ∧ Hid (Keep Never w2 wr ∧ joinB (l.take k) (a1, a2) (b1, b2) = false)) (fun i _ => n - (intOf i).toNat)
  case atStart => exact ⟨0, by omega, rfl, Lib.hid ⟨Keep.refl _ _, rfl⟩⟩
  case round =>
    obtain ⟨k, hk, rfl, HH⟩ := hrel
    by_cases h0 : k < n
    · have hkz : (k : Int) < (n : Int) := by omega
      obtain ⟨ad, s, hA, hab, hs, c0, c1, c2, c3⟩ := jt_at (HS.out.keep HH.out.1 (fun _ h => h.elim)) h0
      subst hA
      obtain ⟨⟨x1, x2⟩, x3, x4⟩ := s
      simp only at c0 c1 c2 c3
      have y0 := (HB.out.1.keep HH.out.1 (fun h => h)).cell 0
      have y1 := (HB.out.1.keep HH.out.1 (fun h => h)).cell 1
      have y2 := (HB.out.2.keep HH.out.1 (fun h => h)).cell 0
      have y3 := (HB.out.2.keep HH.out.1 (fun h => h)).cell 1
      have HT : Hid (l.take (k + 1) = l.take k ++ [((x1, x2), (x3, x4))]) := Lib.hid (by
        obtain ⟨h2, h3⟩ := List.getElem?_eq_some_iff.1 hs
        rw [List.take_succ_eq_append_getElem h2, h3])
      have HSk := Lib.hid hs
      clear hs hab
      go_wp2_with fail
      rcases Bool.eq_false_or_eq_true (sameE x1 x2 a1 a2) with t1 | t1
      · rcases Bool.eq_false_or_eq_true (sameE x3 x4 b1 b2) with t2 | t2
        · have HF : Hid (joinB l (a1, a2) (b1, b2) = true) := Lib.hid (joinB_le (k := k + 1) (by rw [HT.out]; exact joinB_snoc_t (.inl ⟨t1, t2⟩)))
          go_quiet (fail)
          go_wp2_with fail
          go_ret
          exact ⟨by rw [HF.out]; rfl, (HK.out.trans HH.out.1).drewN _⟩
        · rcases Bool.eq_false_or_eq_true (sameE x1 x2 b1 b2) with t3 | t3
          · rcases Bool.eq_false_or_eq_true (sameE x3 x4 a1 a2) with t4 | t4
            · have HF : Hid (joinB l (a1, a2) (b1, b2) = true) := Lib.hid (joinB_le (k := k + 1) (by rw [HT.out]; exact joinB_snoc_t (.inr ⟨t3, t4⟩)))
              go_quiet (fail)
              go_wp2_with fail
              go_ret
              exact ⟨by rw [HF.out]; rfl, (HK.out.trans HH.out.1).drewN _⟩
            · have HF : Hid (joinB (l.take (k + 1)) (a1, a2) (b1, b2) = false) := Lib.hid (by rw [HT.out]; exact joinB_snoc_f HH.out.2 (.inr t2) (.inr t4))
              go_quiet (fail)
              go_wp2_with fail
              refine ⟨⟨k + 1, by omega, by go_num, Lib.hid ⟨HH.out.1.drewN _, HF.out⟩⟩, ?_⟩
              simp [intOf]; try omega
          · have HF : Hid (joinB (l.take (k + 1)) (a1, a2) (b1, b2) = false) := Lib.hid (by rw [HT.out]; exact joinB_snoc_f HH.out.2 (.inr t2) (.inl t3))
            go_quiet (fail)
            go_wp2_with fail
            refine ⟨⟨k + 1, by omega, by go_num, Lib.hid ⟨HH.out.1.drewN _, HF.out⟩⟩, ?_⟩
            simp [intOf]; try omega
      · rcases Bool.eq_false_or_eq_true (sameE x1 x2 b1 b2) with t3 | t3
        · rcases Bool.eq_false_or_eq_true (sameE x3 x4 a1 a2) with t4 | t4
          · have HF : Hid (joinB l (a1, a2) (b1, b2) = true) := Lib.hid (joinB_le (k := k + 1) (by rw [HT.out]; exact joinB_snoc_t (.inr ⟨t3, t4⟩)))
            go_quiet (fail)
            go_wp2_with fail
            go_ret
            exact ⟨by rw [HF.out]; rfl, (HK.out.trans HH.out.1).drewN _⟩
          · have HF : Hid (joinB (l.take (k + 1)) (a1, a2) (b1, b2) = false) := Lib.hid (by rw [HT.out]; exact joinB_snoc_f HH.out.2 (.inl t1) (.inr t4))
            go_quiet (fail)
            go_wp2_with fail
            refine ⟨⟨k + 1, by omega, by go_num, Lib.hid ⟨HH.out.1.drewN _, HF.out⟩⟩, ?_⟩
            simp [intOf]; try omega
        · have HF : Hid (joinB (l.take (k + 1)) (a1, a2) (b1, b2) = false) := Lib.hid (by rw [HT.out]; exact joinB_snoc_f HH.out.2 (.inl t1) (.inl t3))
          go_quiet (fail)
          go_wp2_with fail
          refine ⟨⟨k + 1, by omega, by go_num, Lib.hid ⟨HH.out.1.drewN _, HF.out⟩⟩, ?_⟩
          simp [intOf]; try omega
    · obtain rfl : k = n := by omega
      have hkz : ¬ (k : Int) < (k : Int) := by omega
      have HE : Hid (joinB l (a1, a2) (b1, b2) = false) := Lib.hid (by have := HH.out.2; rwa [List.take_of_length_le (by rw [HLn.out]; exact Nat.le_refl _)] at this)
      go_wp2_with fail
      go_ret
      exact ⟨by rw [HE.out]; rfl, HK.out.trans HH.out.1⟩

end Go.Proofs.YtijdkjcjhfebfaaGreat
