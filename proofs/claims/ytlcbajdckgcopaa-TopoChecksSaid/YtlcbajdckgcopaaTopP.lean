/- Chapter 13: the laws' own functions: small, awake, among. -/
import Derived.Test.YtlcbajdckgcopaaTopO
namespace Go.Proofs.Ytlcbajdckgcopaa
open Go.RowKit

/-- == at two steps -/
def sameS (x1 : Int) (x2 : Bool) (y1 : Int) (y2 : Bool) : Bool := decide (((x1, x2) : Stp) = (y1, y2))
theorem run_eq_stp (w : World) (x1 : Int) (x2 : Bool) (y1 : Int) (y2 : Bool) : (binOp .eql 44 (.agg #[.int .i64 x1, .bool x2]) (.agg #[.int .i64 y1, .bool y2])).run Try.prog w = .ok (.bool (sameS x1 x2 y1 y2)) w := by
  by_cases h1 : x1 = y1
  · have t1 : (x1 == y1) = true := by simpa using h1
    by_cases h2 : x2 = y2
    · have t2 : (x2 == y2) = true := by simpa using h2
      have hd : sameS x1 x2 y1 y2 = true := decide_eq_true (by rw [h1, h2])
      rw [hd]
      clear h1 h2 hd
      go_simp
    · have t2 : (x2 == y2) = false := by simpa using h2
      have hd : sameS x1 x2 y1 y2 = false := decide_eq_false (by simp [h2])
      rw [hd]
      clear h1 h2 hd
      go_simp
  · have t1 : (x1 == y1) = false := by simpa using h1
    have hd : sameS x1 x2 y1 y2 = false := decide_eq_false (by simp [h1])
    rw [hd]
    clear h1 hd
    go_simp
def smallT : Tp := ([100, 200, 300], [((0, 1), (1, 0)), ((0, 1), (2, 1))], [], [])
theorem small_after : afterM smallT (0, false) = [(1, false), (2, true)] ∧ afterM smallT (1, true) = [(0, true)] := by decide +kernel
theorem small_check : checkM smallT = 0 := by decide +kernel
theorem small_len : lenM smallT [(0, false), (1, false)] = (300, 0) := by decide +kernel
set_option maxRecDepth 100000 in
theorem small_results {w : World} {b : Nat} {v0 v1 v2 v3 : Value} (hb : Blk w b 27 #[v0, v1, v2, v3]) (tmps : Array Value) (ht : tmps.getD 0 undef = .pointer (some ⟨b, 0, none⟩)) :
    (results Try.f56 tmps).run Try.prog w = .ok (.agg #[v0, v1, v2, v3]) w := by
  have q0 : w.cell? ⟨b, 0, none⟩ = some v0 := hb.cell 0
  have q1 : w.cell? ⟨b, 1, none⟩ = some v1 := hb.cell 1
  have q2 : w.cell? ⟨b, 2, none⟩ = some v2 := hb.cell 2
  have q3 : w.cell? ⟨b, 3, none⟩ = some v3 := hb.cell 3
  have ht' : tmps[0]?.getD undef = .pointer (some ⟨b, 0, none⟩) := by rw [← Array.getD_eq_getD_getElem?]; exact ht
  simp [results, ht', go_sem, q0, q1, q2, q3]
set_option maxHeartbeats 4000000 in
set_option maxRecDepth 100000 in
theorem small_any (w : World) : Calls Try.prog 56 #[] w fun e w' => ∃ x : TA, e = .returned (.agg x.cs) ∧ TpAt w' w'.heap.size x smallT ∧ Keep Never w w' := by
  obtain ⟨w1, hw1⟩ : ∃ W : World, w.alloc (.cells #[.slice none 0 0, .slice none 0 0, .slice none 0 0, .slice none 0 0] 27) = W := ⟨_, rfl⟩
  obtain ⟨w2, hw2⟩ : ∃ W : World, w1.alloc (.cells #[.int .i64 100, .int .i64 200, .int .i64 300] 3) = W := ⟨_, rfl⟩
  obtain ⟨w3, hw3⟩ : ∃ W : World, w2.alloc (.cells #[.int .i64 0, .int .i64 1, .int .i64 1, .int .i64 0, .int .i64 0, .int .i64 1, .int .i64 2, .int .i64 1] 94) = W := ⟨_, rfl⟩
  have k1 : Keep Never w w1 := by rw [← hw1]; exact (Keep.refl _ _).alloc _
  have k2 : Keep Never w1 w2 := by rw [← hw2]; exact (Keep.refl _ _).alloc _
  have k3 : Keep Never w2 w3 := by rw [← hw3]; exact (Keep.refl _ _).alloc _
  have b1 := Blk.new w 27 #[.slice none 0 0, .slice none 0 0, .slice none 0 0, .slice none 0 0]
  rw [hw1] at b1
  have b2 := Blk.new w1 3 #[.int .i64 100, .int .i64 200, .int .i64 300]
  rw [hw2] at b2
  have b3 := Blk.new w2 94 #[.int .i64 0, .int .i64 1, .int .i64 1, .int .i64 0, .int .i64 0, .int .i64 1, .int .i64 2, .int .i64 1]
  rw [hw3] at b3
  have hb := (b1.keep k2 (fun h => h)).keep k3 (fun h => h)
  have g0 : w3.cell? ⟨w.heap.size, 0, none⟩ = some (.slice none 0 0) := hb.cell 0
  have g1 : w3.cell? ⟨w.heap.size, 1, none⟩ = some (.slice none 0 0) := hb.cell 1
  have g2 : w3.cell? ⟨w.heap.size, 2, none⟩ = some (.slice none 0 0) := hb.cell 2
  have g3 : w3.cell? ⟨w.heap.size, 3, none⟩ = some (.slice none 0 0) := hb.cell 3
  have m0 := hb.frozen 0
  have m1 := hb.frozen 1
  have m2 := hb.frozen 2
  have m3 := hb.frozen 3
  have hlt1 := b1.lt
  have hlt2 := b2.lt
  have HLt : Hid (w.heap.size < w1.heap.size ∧ w1.heap.size < w2.heap.size) := Lib.hid ⟨b1.lt, b2.lt⟩
  have HBz := Lib.hid (put4_blk hb (.slice (some ⟨w1.heap.size, 0, none⟩) 3 3) (.slice (some ⟨w2.heap.size, 0, none⟩) 2 2) (.slice none 0 0) (.slice none 0 0))
  have HKz := Lib.hid (put4_keep ((k1.trans k2).trans k3) (.inr (Nat.le_refl _)) (.slice (some ⟨w1.heap.size, 0, none⟩) 3 3) (.slice (some ⟨w2.heap.size, 0, none⟩) 2 2) (.slice none 0 0) (.slice none 0 0))
  have hput := put4_keep (b := w.heap.size) (Keep.refl (fun k => k = w.heap.size) w3) (.inl rfl) (.slice (some ⟨w1.heap.size, 0, none⟩) 3 3) (.slice (some ⟨w2.heap.size, 0, none⟩) 2 2) (.slice none 0 0) (.slice none 0 0)
  have hE := Rd.of_blk (size := 1) (n := 3) (cs := [.int .i64 100, .int .i64 200, .int .i64 300]) ((b2.keep k3 (fun h => h)).keep hput (by omega)) rfl
  have hJ := Rd.of_blk (size := 4) (n := 2) (cs := [.int .i64 0, .int .i64 1, .int .i64 1, .int .i64 0, .int .i64 0, .int .i64 1, .int .i64 2, .int .i64 1]) (b3.keep hput (by omega)) rfl
  have HE := Lib.hid hE
  have HJ := Lib.hid hJ
  clear k1 k2 k3 b1 b2 b3 hb hput hE hJ hlt1 hlt2
  go_enter Try.func56, Try.ntmps56
  go_wp2_with fail
  (try simp only [Exit.inBlock, Exit.then])
  refine bodyPost_ret (small_results HBz.out _ rfl) rfl ⟨⟨some ⟨w1.heap.size, 0, none⟩, 3, 3, some ⟨w2.heap.size, 0, none⟩, 2, 2, none, 0, 0, none, 0, 0⟩, rfl, ⟨?_, ?_, Rep.Sl.nil _ _ _, Rep.Sl.nil _ _ _⟩, HKz.out⟩
  · exact ⟨rfl, Nat.le_refl _, by unfold maxLen; simp only; omega, by simp, [[.int .i64 100], [.int .i64 200], [.int .i64 300]], HE.out, ⟨rfl, by decide⟩, ⟨rfl, by decide⟩, ⟨rfl, by decide⟩, trivial⟩
  · exact ⟨rfl, Nat.le_refl _, by unfold maxLen; simp only; omega, by simp, [[.int .i64 0, .int .i64 1, .int .i64 1, .int .i64 0], [.int .i64 0, .int .i64 1, .int .i64 2, .int .i64 1]], HJ.out,
      ⟨[.int .i64 0, .int .i64 1], [.int .i64 1, .int .i64 0], rfl, ⟨[.int .i64 0], [.int .i64 1], rfl, ⟨rfl, by decide⟩, ⟨rfl, by decide⟩⟩, ⟨[.int .i64 1], [.int .i64 0], rfl, ⟨rfl, by decide⟩, ⟨rfl, by decide⟩⟩⟩,
      ⟨[.int .i64 0, .int .i64 1], [.int .i64 2, .int .i64 1], rfl, ⟨[.int .i64 0], [.int .i64 1], rfl, ⟨rfl, by decide⟩, ⟨rfl, by decide⟩⟩, ⟨[.int .i64 2], [.int .i64 1], rfl, ⟨rfl, by decide⟩, ⟨rfl, by decide⟩⟩⟩, trivial⟩

set_option maxHeartbeats 1000000 in
set_option maxRecDepth 100000 in
theorem among13_any (A : Option Addr) (n c B : Nat) (l : List Stp) (s : Stp) (w : World) (hr : Rd w B 2 A n (stpCells l)) (hn : n ≤ 100000000) :
    Calls Try.prog 23 #[.slice A n c, .agg #[.int .i64 s.1, .bool s.2]] w fun e w' => e = .returned (.bool (decide (s ∈ l))) ∧ Keep Never w w' := by
  have qe : ∀ (w : World) (x1 : Int) (x2 : Bool) (y1 : Int) (y2 : Bool), (binOp .eql 44 (.agg #[.int .i64 x1, .bool x2]) (.agg #[.int .i64 y1, .bool y2])).run Try.prog w = .ok (.bool (sameS x1 x2 y1 y2)) w := run_eq_stp
  obtain ⟨s1, s2⟩ := s
  simp only
  obtain ⟨w1, hw1⟩ : ∃ W : World, w.alloc (.cells #[.int .i64 s1, .bool s2] 44) = W := ⟨_, rfl⟩
  have k1 : Keep Never w w1 := by rw [← hw1]; exact (Keep.refl _ _).alloc _
  have b1 := Blk.new w 44 #[.int .i64 s1, .bool s2]
  rw [hw1] at b1
  have HB := Lib.hid b1
  have HK := Lib.hid k1
  have HR := Lib.hid (hr.keep k1 (fun _ h => h.elim))
  clear k1 b1 hr
  go_enter Try.func23, Try.ntmps23
  go_wp2_with fail
  go_loopw [5] (fun i wr => ∃ k : Nat, k ≤ n ∧ i = .int .i64 k ∧ Hid (Keep Never w1 wr ∧ (s1, s2) ∉ l.take k)) (fun i _ => n - (intOf i).toNat)
  case atStart => exact ⟨0, by omega, rfl, Lib.hid ⟨Keep.refl _ _, by simp⟩⟩
  case round =>
    obtain ⟨k, hk, rfl, HH⟩ := hrel
    by_cases h0 : k < n
    · have hkz : (k : Int) < (n : Int) := by omega
      obtain ⟨ad, u, hA, _, hu, c0, c1⟩ := (HR.out.keep HH.out.1 (fun _ h => h.elim)).stp h0
      subst hA
      obtain ⟨u1, u2⟩ := u
      simp only at c0 c1
      have hb := HB.out.keep HH.out.1 (fun h => h)
      have v0 : wr.cell? ⟨w.heap.size, 0, none⟩ = some (.int .i64 s1) := hb.cell 0
      have v1 : wr.cell? ⟨w.heap.size, 1, none⟩ = some (.bool s2) := hb.cell 1
      have HT : Hid (l.take (k + 1) = l.take k ++ [(u1, u2)]) := Lib.hid (by
        obtain ⟨h2, h3⟩ := List.getElem?_eq_some_iff.1 hu
        rw [List.take_succ_eq_append_getElem h2, h3])
      have Hu := Lib.hid hu
      clear hu hb
      go_wp2_with fail
      rcases Bool.eq_false_or_eq_true (sameS u1 u2 s1 s2) with t1 | t1
      · have HF : Hid (decide (((s1, s2) : Stp) ∈ l) = true) := Lib.hid (decide_eq_true (by rw [← of_decide_eq_true t1]; exact List.mem_of_getElem? Hu.out))
        go_quiet (fail)
        go_wp2_with fail
        go_ret
        exact ⟨by rw [HF.out]; rfl, (HK.out.trans HH.out.1).drewN _⟩
      · have HN : Hid ((s1, s2) ∉ l.take (k + 1)) := Lib.hid (by
          rw [HT.out, List.mem_append, List.mem_singleton]
          rintro (h | h)
          · exact HH.out.2 h
          · exact (of_decide_eq_false t1) h.symm)
        go_quiet (fail)
        go_wp2_with fail
        refine ⟨⟨k + 1, by omega, by go_num, Lib.hid ⟨HH.out.1.drewN _, HN.out⟩⟩, ?_⟩
        simp [intOf]; try omega
    · obtain rfl : k = n := by omega
      have hkz : ¬ (k : Int) < (k : Int) := by omega
      have HF : Hid (decide (((s1, s2) : Stp) ∈ l) = false) := Lib.hid (decide_eq_false (by have := HH.out.2; rwa [List.take_of_length_le (by rw [HR.out.stp_len]; exact Nat.le_refl _)] at this))
      go_wp2_with fail
      go_ret
      exact ⟨by rw [HF.out]; rfl, HK.out.trans HH.out.1⟩

end Go.Proofs.Ytlcbajdckgcopaa
