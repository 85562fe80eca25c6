/- Chapter 13: which ends are joined (slices.Contains at joints, topo.joins, may; the document's joined, May). -/
import Derived.Test.YtijdkjcjhfebfaaGreatTopA
namespace Go.Proofs.YtijdkjcjhfebfaaGreat
open Go.RowKit

theorem four (p1 p2 p3 p4 : Bool) : p1 = false ∨ (p1 = true ∧ p2 = false) ∨ (p1 = true ∧ p2 = true ∧ p3 = false) ∨ (p1 = true ∧ p2 = true ∧ p3 = true ∧ p4 = false) ∨ (p1 = true ∧ p2 = true ∧ p3 = true ∧ p4 = true) := by
  cases p1 <;> cases p2 <;> cases p3 <;> cases p4 <;> simp
set_option maxHeartbeats 1000000 in
set_option maxRecDepth 100000 in
theorem jindex_any (A : Option Addr) (n c B : Nat) (l : List Jt) (v : Jt) (w : World) (hs : repJt.Sl w B A n c l) (hn : n ≤ 100000000) :
    Calls Tryz.prog 99 #[.slice A n c, .agg #[.int .i64 v.1.1, .int .i64 v.1.2, .int .i64 v.2.1, .int .i64 v.2.2]] w fun e w' => ∃ r : Int, e = .returned (.int .i64 r) ∧ Hid (0 ≤ r ↔ v ∈ l) ∧ Keep Never w w' := by
  obtain ⟨⟨v1, v2⟩, v3, v4⟩ := v
  simp only
  obtain ⟨wb, hwb⟩ : ∃ wb : World, w.alloc (.cells #[.int .i64 v1, .int .i64 v2, .int .i64 v3, .int .i64 v4] 77) = wb := ⟨_, rfl⟩
  have hkb : Keep Never w wb := by rw [← hwb]; exact (Keep.refl _ _).alloc _
  have hbb := Blk.new w 77 #[.int .i64 v1, .int .i64 v2, .int .i64 v3, .int .i64 v4]
  rw [hwb] at hbb
  have HS := Lib.hid (hs.keep hkb (fun _ h => h.elim))
  have HB := Lib.hid hbb
  have HK := Lib.hid hkb
  have HLn : Hid (n = l.length) := Lib.hid hs.len
  clear hkb hbb hs
  go_enter Tryz.func99, Tryz.ntmps99
  go_wp2_with fail
  go_loopw [5, 8] (fun _ i wr => ∃ k : Nat, k ≤ n ∧ i = .int .i64 k ∧ Hid (Keep Never wb wr ∧ (((v1, v2), (v3, v4)) : Jt) ∉ l.take k)) (fun _ i _ => n - (intOf i).toNat)
  case atStart => exact ⟨0, by omega, rfl, Lib.hid ⟨Keep.refl _ _, by simp⟩⟩
  case round =>
    obtain ⟨k, hk, rfl, HH⟩ := hrel
    by_cases h0 : k < n
    · have hkz : (k : Int) < (n : Int) := by omega
      obtain ⟨ad, s, hA, hab, hs, c0, c1, c2, c3⟩ := jt_at (HS.out.keep HH.out.1 (fun _ h => h.elim)) h0
      subst hA
      obtain ⟨⟨s1, s2⟩, s3, s4⟩ := s
      simp only at c0 c1 c2 c3
      have hbb := HB.out.keep HH.out.1 (fun h => h)
      have y0 := hbb.cell 0
      have y1 := hbb.cell 1
      have y2 := hbb.cell 2
      have y3 := hbb.cell 3
      have hT : l.take (k + 1) = l.take k ++ [((s1, s2), (s3, s4))] := by
        obtain ⟨h2, h3⟩ := List.getElem?_eq_some_iff.1 hs
        rw [List.take_succ_eq_append_getElem h2, h3]
      have HT := Lib.hid hT
      have HSk := Lib.hid hs
      clear hbb hs hT hab
      go_wp2_with fail
      rcases four (v1 == s1) (v2 == s2) (v3 == s3) (v4 == s4) with g1 | ⟨g1, g2⟩ | ⟨g1, g2, g3⟩ | ⟨g1, g2, g3, g4⟩ | ⟨g1, g2, g3, g4⟩
      case inr.inr.inr.inr =>
        have HE : Hid ((((v1, v2), (v3, v4)) : Jt) ∈ l) := Lib.hid (by
          have e1 : v1 = s1 := by simpa using g1
          have e2 : v2 = s2 := by simpa using g2
          have e3 : v3 = s3 := by simpa using g3
          have e4 : v4 = s4 := by simpa using g4
          rw [e1, e2, e3, e4]
          exact List.mem_of_getElem? HSk.out)
        go_quiet (fail)
        go_wp2_with fail
        go_ret
        exact ⟨_, rfl, Lib.hid ⟨fun _ => HE.out, fun _ => by omega⟩, (HK.out.trans HH.out.1).drewN _⟩
      all_goals
        have HE : Hid ((((v1, v2), (v3, v4)) : Jt) ∉ l.take (k + 1)) := Lib.hid (by
          rw [HT.out, List.mem_append, List.mem_singleton]
          rintro (h | h)
          · exact HH.out.2 h
          · injection h with h h'
            injection h with h1 h2
            injection h' with h3 h4
            subst h1 h2 h3 h4
            simp_all)
        go_quiet (fail)
        go_wp2_with fail
        refine ⟨⟨k + 1, by omega, by go_num, Lib.hid ⟨HH.out.1.drewN _, HE.out⟩⟩, ?_⟩
        simp [intOf]; try omega
    · obtain rfl : k = n := by omega
      have hkz : ¬ (k : Int) < (k : Int) := by omega
      have HE : Hid ((((v1, v2), (v3, v4)) : Jt) ∉ l) := Lib.hid (by have := HH.out.2; rwa [List.take_of_length_le (by rw [HLn.out]; exact Nat.le_refl _)] at this)
      go_wp2_with fail
      go_ret
      exact ⟨-1, rfl, Lib.hid ⟨fun h => absurd h (by omega), fun h => absurd h HE.out⟩, HK.out.trans HH.out.1⟩

set_option maxHeartbeats 1000000 in
set_option maxRecDepth 100000 in
theorem jcontains_any (A : Option Addr) (n c B : Nat) (l : List Jt) (v : Jt) (w : World) (hs : repJt.Sl w B A n c l) (hn : n ≤ 100000000) :
    Calls Tryz.prog 81 #[.slice A n c, .agg #[.int .i64 v.1.1, .int .i64 v.1.2, .int .i64 v.2.1, .int .i64 v.2.2]] w fun e w' => e = .returned (.bool (decide (v ∈ l))) ∧ Keep Never w w' := by
  obtain ⟨⟨v1, v2⟩, v3, v4⟩ := v
  simp only
  obtain ⟨wb, hwb⟩ : ∃ wb : World, w.alloc (.cells #[.int .i64 v1, .int .i64 v2, .int .i64 v3, .int .i64 v4] 77) = wb := ⟨_, rfl⟩
  have hkb : Keep Never w wb := by rw [← hwb]; exact (Keep.refl _ _).alloc _
  have hbb := Blk.new w 77 #[.int .i64 v1, .int .i64 v2, .int .i64 v3, .int .i64 v4]
  rw [hwb] at hbb
  have y0 := hbb.cell 0
  have y1 := hbb.cell 1
  have y2 := hbb.cell 2
  have y3 := hbb.cell 3
  have HC := Lib.hid (jindex_any A n c B l ((v1, v2), (v3, v4)) wb (hs.keep hkb (fun _ h => h.elim)) hn)
  have HK := Lib.hid hkb
  clear hkb hbb hs
  go_enter Tryz.func81, Tryz.ntmps81
  go_wp2_with fail
  refine HC.out.mono ?_
  rintro e w2 ⟨r, rfl, hr, hk⟩
  have HK2 := Lib.hid (HK.out.trans hk)
  clear hk HC
  by_cases h0 : 0 ≤ r
  · have t0 : decide (r ≥ 0) = true := by simpa using h0
    have HD : Hid (decide ((((v1, v2), (v3, v4)) : Jt) ∈ l) = true) := Lib.hid (decide_eq_true (hr.out.1 h0))
    clear h0 hr
    go_wp2_with fail
    go_ret
    exact ⟨by rw [HD.out]; rfl, HK2.out⟩
  · have t0 : decide (r ≥ 0) = false := by simpa using h0
    have HD : Hid (decide ((((v1, v2), (v3, v4)) : Jt) ∈ l) = false) := Lib.hid (decide_eq_false (fun h => h0 (hr.out.2 h)))
    clear h0 hr
    go_wp2_with fail
    go_ret
    exact ⟨by rw [HD.out]; rfl, HK2.out⟩
theorem joinB_eq (l : List Jt) (a b : En) : joinB l a b = (decide ((a, b) ∈ l) || decide ((b, a) ∈ l)) := by
  rw [Bool.eq_iff_iff]
  simp only [joinB, List.any_eq_true, Bool.or_eq_true, decide_eq_true_eq]
  constructor
  · rintro ⟨j, h, rfl | rfl⟩
    · exact .inl h
    · exact .inr h
  · rintro (h | h)
    · exact ⟨_, h, .inl rfl⟩
    · exact ⟨_, h, .inr rfl⟩
set_option maxHeartbeats 1000000 in
set_option maxRecDepth 100000 in
theorem joins_any (x : TA) (t : Tp) (B : Nat) (a b : En) (w : World) (ht : TpAt w B x t) (hn : x.nj ≤ 100000000) :
    Calls Tryz.prog 57 #[.agg x.cs, .agg #[.int .i64 a.1, .int .i64 a.2], .agg #[.int .i64 b.1, .int .i64 b.2]] w fun e w' => e = .returned (.bool (joinB t.2.1 a b)) ∧ Keep Never w w' := by
  obtain ⟨Ae, ne, ce, Aj, nj, cj, Ab, nb, cb, Ar, nr, cr⟩ := x
  have hj := ht.j
  simp only [TA.cs] at hj hn ⊢
  obtain ⟨a1, a2⟩ := a
  obtain ⟨b1, b2⟩ := b
  simp only
  obtain ⟨w1, hw1⟩ : ∃ wb : World, w.alloc (.cells #[.slice Ae ne ce, .slice Aj nj cj, .slice Ab nb cb, .slice Ar nr cr] 27) = wb := ⟨_, rfl⟩
  obtain ⟨w2, hw2⟩ : ∃ wb : World, w1.alloc (.cells #[.int .i64 a1, .int .i64 a2] 75) = wb := ⟨_, rfl⟩
  obtain ⟨w3, hw3⟩ : ∃ wb : World, w2.alloc (.cells #[.int .i64 b1, .int .i64 b2] 75) = wb := ⟨_, rfl⟩
  have s1 : w1.heap.size = w.heap.size + 1 := by rw [← hw1]; simp
  have s2 : w2.heap.size = w.heap.size + 1 + 1 := by rw [← hw2, ← s1]; simp
  have k1 : Keep Never w w1 := by rw [← hw1]; exact (Keep.refl _ _).alloc _
  have k2 : Keep Never w1 w2 := by rw [← hw2]; exact (Keep.refl _ _).alloc _
  have k3 : Keep Never w2 w3 := by rw [← hw3]; exact (Keep.refl _ _).alloc _
  have b1' := Blk.new w 27 #[.slice Ae ne ce, .slice Aj nj cj, .slice Ab nb cb, .slice Ar nr cr]
  rw [hw1] at b1'
  have b2' := Blk.new w1 75 #[.int .i64 a1, .int .i64 a2]
  rw [hw2, s1] at b2'
  have b3' := Blk.new w2 75 #[.int .i64 b1, .int .i64 b2]
  rw [hw3, s2] at b3'
  have HB : Hid (Blk w3 w.heap.size 27 #[.slice Ae ne ce, .slice Aj nj cj, .slice Ab nb cb, .slice Ar nr cr] ∧ Blk w3 (w.heap.size + 1) 75 #[.int .i64 a1, .int .i64 a2] ∧ Blk w3 (w.heap.size + 1 + 1) 75 #[.int .i64 b1, .int .i64 b2]) :=
    Lib.hid ⟨(b1'.keep k2 (fun h => h)).keep k3 (fun h => h), b2'.keep k3 (fun h => h), b3'⟩
  have HK := Lib.hid ((k1.trans k2).trans k3)
  have HJ : Hid (∀ w', Keep Never w w' → repJt.Sl w' B Aj nj cj t.2.1) := Lib.hid (fun w' h => hj.keep h (fun _ h => h.elim))
  have HC := Lib.hid (jcontains_any Aj nj cj B t.2.1 ((a1, a2), (b1, b2)) w3 (HJ.out _ HK.out) hn)
  have HE := Lib.hid (joinB_eq t.2.1 (a1, a2) (b1, b2))
  have hw1' := hw1
  have y1 : w3.cell? ⟨w.heap.size, 1, none⟩ = some (.slice Aj nj cj) := HB.out.1.cell 1
  have y2 : w3.cell? ⟨w.heap.size + 1, 0, none⟩ = some (.int .i64 a1) := HB.out.2.1.cell 0
  have y3 : w3.cell? ⟨w.heap.size + 1, 1, none⟩ = some (.int .i64 a2) := HB.out.2.1.cell 1
  have y4 : w3.cell? ⟨w.heap.size + 1 + 1, 0, none⟩ = some (.int .i64 b1) := HB.out.2.2.cell 0
  have y5 : w3.cell? ⟨w.heap.size + 1 + 1, 1, none⟩ = some (.int .i64 b2) := HB.out.2.2.cell 1
  clear k1 k2 k3 b1' b2' b3' hj ht hw1'
  go_enter Tryz.func57, Tryz.ntmps57
  go_wp2_with fail
  refine HC.out.mono ?_
  rintro e w4 ⟨rfl, hk4⟩
  have HK4 := Lib.hid (HK.out.trans hk4)
  have z1 := (HB.out.1.keep hk4 (fun h => h)).cell 1
  have z2 := (HB.out.2.1.keep hk4 (fun h => h)).cell 0
  have z3 := (HB.out.2.1.keep hk4 (fun h => h)).cell 1
  have z4 := (HB.out.2.2.keep hk4 (fun h => h)).cell 0
  have z5 := (HB.out.2.2.keep hk4 (fun h => h)).cell 1
  have HC2 := Lib.hid (jcontains_any Aj nj cj B t.2.1 ((b1, b2), (a1, a2)) w4 (HJ.out _ HK4.out) hn)
  clear hk4 HC y1 y2 y3 y4 y5
  cases hd : decide ((((a1, a2), (b1, b2)) : Jt) ∈ t.2.1) with
  | true =>
    have HD := Lib.hid hd
    clear hd
    go_wp2_with fail
    go_ret
    exact ⟨by rw [HE.out, HD.out]; rfl, HK4.out⟩
  | false =>
    have HD := Lib.hid hd
    clear hd
    go_wp2_with fail
    refine HC2.out.mono ?_
    rintro e w5 ⟨rfl, hk5⟩
    have HK5 := Lib.hid (HK4.out.trans hk5)
    clear hk5 HC2
    go_wp2_with fail
    go_ret
    exact ⟨by rw [HE.out, HD.out]; rfl, HK5.out⟩

end Go.Proofs.YtijdkjcjhfebfaaGreat
