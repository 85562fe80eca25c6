/- slices.Index, Contains, Grow, Concat at []int. -/
import Derived.Test.YtiebjnibmomcjaaDoorRep
import Derived.Test.YtiebjnibmomcjaaDoorPackK
import Derived.Test.YtiebjnibmomcjaaDoorSld
import Derived.Lib.AppendZerosOnto
namespace Go.Proofs.YtiebjnibmomcjaaDoor
open Go.RowKit

set_option maxHeartbeats 1000000 in
theorem iindex_any (A : Option Addr) (n c B : Nat) (l : List Int) (hl : l.length = n) (x : Int) (w : World) (hr : Rd w B 1 A n (l.map (.int .i64))) (hn : n ≤ 1000000) :
    Calls Tryd.prog 79 #[.slice A n c, .int .i64 x] w fun e w' => (∃ r : Int, e = .returned (.int .i64 r) ∧ (decide (0 ≤ r) = decide (x ∈ l))) ∧ w = w' := by
  have HL := Lib.hid hl
  have HR := Lib.hid hr
  clear hl hr
  go_enter Tryd.func79, Tryd.ntmps79
  go_wp2
  go_loop [8] (fun i => ∃ k : Nat, k ≤ n ∧ i = .int .i64 k ∧ Hid (x ∉ l.take k)) (fun i => n - (intOf i).toNat)
  case atStart => exact ⟨0, by omega, rfl, Lib.hid (by simp)⟩
  case round =>
    obtain ⟨k, hk, rfl, HH⟩ := hrel
    by_cases h0 : k < n
    · obtain ⟨ad, y, rfl, _, hy, hc⟩ := HR.out.at1 h0
      have h2 := (List.getElem?_eq_some_iff.1 hy).1
      have htk : l.take (k + 1) = l.take k ++ [y] := by rw [List.take_succ_eq_append_getElem h2, (List.getElem?_eq_some_iff.1 hy).2]
      have hki : (k : Int) < (n : Int) := by omega
      by_cases hxy : x = y
      · have hb : (x == y) = true := by simpa using hxy
        have hmem : Hid (x ∈ l) := Lib.hid (by rw [hxy]; exact List.mem_of_getElem? hy)
        clear hy htk hxy h2
        go_wp2
        go_ret
        exact ⟨⟨k, rfl, by simp [hmem.out]⟩, rfl⟩
      · have hb : (x == y) = false := by simpa using hxy
        have hnx : Hid (x ∉ l.take (k + 1)) := Lib.hid (by rw [htk]; simp [hxy, HH.out])
        clear hy htk hxy h2
        go_wp2
        go_round
        case rel => exact ⟨k + 1, by omega, by go_num, hnx⟩
        case measure => simp [intOf]; try omega
    · obtain rfl : k = n := by omega
      have hnx : Hid (x ∉ l) := Lib.hid (by have := HH.out; rwa [List.take_of_length_le (by have := HL.out; omega)] at this)
      have hki : ¬ (k : Int) < (k : Int) := by omega
      go_wp2
      go_ret
      exact ⟨⟨-1, rfl, by simp [hnx.out]⟩, rfl⟩

set_option maxHeartbeats 1000000 in
theorem icontains_any (A : Option Addr) (n c B : Nat) (l : List Int) (hl : l.length = n) (x : Int) (w : World) (hr : Rd w B 1 A n (l.map (.int .i64))) (hn : n ≤ 1000000) :
    Calls Tryd.prog 57 #[.slice A n c, .int .i64 x] w fun e w' => e = .returned (.bool (decide (x ∈ l))) ∧ w = w' := by
  have hI := Lib.hid (iindex_any A n c B l hl x w hr hn)
  generalize decide (x ∈ l) = b at hI ⊢
  clear hr hl
  go_enter Tryd.func57, Tryd.ntmps57
  go_wp2_with fail
  refine hI.out.mono ?_
  rintro e w' ⟨⟨r, rfl, hb⟩, rfl⟩
  have HB := Lib.hid hb
  clear hb
  go_wp2_with fail
  go_ret
  exact ⟨by rw [← HB.out]; rfl, rfl⟩

/-- a new row of zeros, for m elements that are to come -/
theorem own_zeros (w : World) {e size : Nat} {z : Array Value} {m G : Nat} (hz : z.size = size) (hm : m ≤ G) (hG : G ≤ maxLen) :
    Own (w.alloc (.cells (#[] ++ Builtin.zeroCells z m ++ Builtin.zeroCells z (G - m)) e)) w.heap.size e size (some ⟨w.heap.size, 0, none⟩) 0 G [] := by
  refine ⟨by simp, .inr ⟨w.heap.size, G, _, rfl, Nat.le_refl _, heap_alloc_new w _, Nat.zero_le _, hG, ?_, by simp⟩⟩
  simp [size_zeroCells, hz]
  rw [← Nat.add_mul]
  congr 1
  omega
/-- append of as many zeros onto nil -/
theorem run_grow {P : Program} {t tn e size bytes : Nat} (hE : Elem P t e size bytes) (htn : P.underlying tn = some (.int .i64)) (m : Nat) (h0 : 0 < m) (hb : m * bytes ≤ 140737488355328) (hm : m ≤ 1000000000) (w : World) :
    ∃ G w', (∀ ty, (Builtin.append_ #[t, tn] ty #[.slice none 0 0, .int .i64 m]).run P w = .ok (.slice (some ⟨w.heap.size, 0, none⟩) m G) w') ∧ Own w' w.heap.size e size (some ⟨w.heap.size, 0, none⟩) 0 G [] ∧ Keep Never w w' ∧ m ≤ G := by
  obtain ⟨i, z, hi, hz, hsize, hby, hzs, hsz⟩ := hE.hi
  have hg := grownCap_ge w m 0 e
  have hl := grownCap_le_maxLen w m 0 e (by unfold maxLen; omega)
  refine ⟨grownCap w m 0 e, w.drew.alloc (.cells (#[] ++ Builtin.zeroCells z.cells m ++ Builtin.zeroCells z.cells (grownCap w m 0 e - m)) e), fun ty => ?_, ?_, ((Keep.refl Never w).drew).alloc _, hg⟩
  · have := Lib.run_append_grow_zeros w t tn ty e i z .i64 .i64 hE.ht htn hi hz none 0 0 [] (run_firstCells_none w.drew i.size 0 0 0) m h0 (by omega) (by omega) (by omega) (by rw [hby]; omega) (by rw [hby]; exact growslice_fits (by omega) (by simpa using hb))
    simpa using this
  · exact own_zeros w.drew hzs hg hl

set_option maxHeartbeats 1000000 in
set_option maxRecDepth 100000 in
theorem igrow_any (m : Nat) (hm : m ≤ 1000000) (w : World) :
    Calls Tryd.prog 53 #[.slice none 0 0, .int .i64 m] w fun e w' => ∃ A c, e = .returned (.slice A 0 c) ∧ Own w' w.heap.size 3 1 A 0 c [] ∧ Keep Never w w' := by
  by_cases h0 : m = 0
  · subst h0
    go_enter Tryd.func53, Tryd.ntmps53
    go_wp2
    go_ret
    exact ⟨none, 0, rfl, Own.nil _ _ _ _, Keep.refl _ _⟩
  · have hm0 : (0 : Int) < (m : Int) := by omega
    obtain ⟨G, w2, hrun, ho, hk, hmG⟩ := run_grow (P := Tryd.prog) elemInt Tryd.underlying3 m (by omega) (by omega) (by omega) w
    have HO := Lib.hid ho
    have HK := Lib.hid hk
    have hG : Hid (G ≤ maxLen) := by
      rcases ho.form with ⟨h, _⟩ | ⟨_, _, _, _, _, _, hc, _⟩
      · cases h
      · exact hc
    have hG' : G ≤ 9223372036854775807 := by have := hG.out; unfold maxLen at this; omega
    clear ho hk
    go_enter Tryd.func53, Tryd.ntmps53
    go_wp2_with (at_builtin; refine Lib.wpList_append_run _ rfl _ _ _ _ rfl _ _ rfl rfl _ _ (hrun _) ?_)
    all_goals go_ret
    all_goals exact ⟨_, _, rfl, HO.out, HK.out⟩

/-- what Concat of two leaves -/
def Cat2 (w : World) (l m : List Int) (e : Ending) (w' : World) : Prop := ∃ A c, e = .returned (.slice A (l.length + m.length) c) ∧ Own w' w.heap.size 3 1 A (l.length + m.length) c ((l ++ m).map (.int .i64)) ∧ Keep Never w w'
set_option maxHeartbeats 2000000 in
set_option maxRecDepth 100000 in
theorem concat2_any (g t : Nat) (A1 A2 : Option Addr) (n1 c1 n2 c2 B : Nat) (l m : List Int) (w : World) (hb : Blk w g t #[.slice A1 n1 c1, .slice A2 n2 c2]) (hl : l.length = n1) (hm : m.length = n2) (h1 : Rd w B 1 A1 n1 (l.map (.int .i64))) (h2 : Rd w B 1 A2 n2 (m.map (.int .i64))) (hn1 : n1 ≤ 100000) (hn2 : n2 ≤ 100000) (_hB : B ≤ w.heap.size) :
    Calls Tryd.prog 24 #[.slice (some ⟨g, 0, none⟩) 2 2] w (Cat2 w l m) := by
  have HB := Lib.hid hb
  have HL := Lib.hid hl
  have HM := Lib.hid hm
  have H1 := Lib.hid h1
  have H2 := Lib.hid h2
  clear hb hl hm h1 h2
  have f0 := HB.out.cell 0
  have f1 := HB.out.cell 1
  go_enter Tryd.func24, Tryd.ntmps24
  go_wp2_with fail
  go_loop [3, 11] (fun s i => (i = .int .i64 0 ∧ s = .int .i64 0) ∨ (i = .int .i64 1 ∧ s = .int .i64 n1) ∨ (i = .int .i64 2 ∧ s = .int .i64 (n1 + n2 : Nat))) (fun _ i => 2 - (intOf i).toNat)
  case atStart => exact .inl ⟨rfl, rfl⟩
  case round =>
    rcases hrel with ⟨rfl, rfl⟩ | ⟨rfl, rfl⟩ | ⟨rfl, rfl⟩
    · go_wp2_with fail
      go_round
      case rel => exact .inr (.inl ⟨rfl, rfl⟩)
      case measure => simp [intOf]
    · go_wp2_with fail
      go_round
      case rel => exact .inr (.inr ⟨rfl, by simp⟩)
      case measure => simp [intOf]
    · go_wp2_with fail
      refine (igrow_any (n1 + n2) (by omega) w).mono ?_
      rintro e w1 ⟨A3, c3, rfl, ho, hk⟩
      have HB1 := Lib.hid (HB.out.keep hk (fun h => h))
      have HO := Lib.hid ho
      have HK := Lib.hid hk
      clear ho hk f0 f1
      go_wp2_with fail
      go_loopw [6, 27] (fun v i wr => (i = .int .i64 0 ∧ v = .slice A3 0 c3 ∧ wr = w1) ∨ (∃ A4 c4, i = .int .i64 1 ∧ v = .slice A4 n1 c4 ∧ Hid (Own wr w.heap.size 3 1 A4 n1 c4 (l.map (.int .i64)) ∧ Keep Never w wr ∧ Blk wr g t #[.slice A1 n1 c1, .slice A2 n2 c2])) ∨ (∃ A4 c4, i = .int .i64 2 ∧ v = .slice A4 (n1 + n2) c4 ∧ Hid (Own wr w.heap.size 3 1 A4 (n1 + n2) c4 ((l ++ m).map (.int .i64)) ∧ Keep Never w wr)))
        (fun _ i _ => 2 - (intOf i).toNat)
      case atStart => exact .inl ⟨rfl, rfl, rfl⟩
      case round =>
        rcases hrel with ⟨rfl, rfl, rfl⟩ | ⟨A4, c4, rfl, rfl, HH⟩ | ⟨A4, c4, rfl, rfl, HH⟩
        · have f0 := HB1.out.cell 0
          have hr1 := Lib.hid (H1.out.keep HK.out (fun _ h => h.elim))
          have hsz : Hid (w.heap.size ≤ wr.heap.size) := Lib.hid HK.out.size
          go_wp2_with (at_builtin; refine wpList_app _ rfl (.tmp 31) (.tmp 32) _ rfl elemInt w.heap.size rfl HO.out B rfl hr1.out (by intro u hu; simp at hu; obtain ⟨x, _, rfl⟩ := hu; rfl) (by omega) (by unfold maxLen; omega) hsz.out ?_; intro A5 c5 w5 hown hk5 hrow)
          have HF : Hid (Own w5 w.heap.size 3 1 A5 n1 c5 (l.map (.int .i64)) ∧ Keep Never w w5 ∧ Blk w5 g t #[.slice A1 n1 c1, .slice A2 n2 c2]) := by
            have hg : ¬ InRow A3 g := fun e => by have := (HO.out.row e).1; have := HB.out.lt; omega
            exact ⟨by simpa using hown, HK.out.then_ hk5 (fun i hi h => by have := (HO.out.row h).1; omega), HB1.out.keep hk5 hg⟩
          clear hown hk5 hrow
          exact ⟨.inr (.inl ⟨A5, c5, rfl, rfl, HF⟩), by simp [intOf]⟩
        · have f1 := HH.out.2.2.cell 1
          have hr2 := Lib.hid (H2.out.keep HH.out.2.1 (fun _ h => h.elim))
          have hsz : Hid (w.heap.size ≤ wr.heap.size) := Lib.hid HH.out.2.1.size
          go_wp2_with (at_builtin; refine wpList_app _ rfl (.tmp 31) (.tmp 32) _ rfl elemInt w.heap.size rfl HH.out.1 B rfl hr2.out (by intro u hu; simp at hu; obtain ⟨x, _, rfl⟩ := hu; rfl) (by omega) (by unfold maxLen; omega) hsz.out ?_; intro A5 c5 w5 hown hk5 hrow)
          have HF : Hid (Own w5 w.heap.size 3 1 A5 (n1 + n2) c5 ((l ++ m).map (.int .i64)) ∧ Keep Never w w5) :=
            ⟨by simpa using hown, HH.out.2.1.then_ hk5 (fun i hi h => by have := (HH.out.1.row h).1; omega)⟩
          clear hown hk5 hrow
          exact ⟨.inr (.inr ⟨A5, c5, rfl, rfl, HF⟩), by simp [intOf]⟩
        · go_wp2_with fail
          go_ret
          have e1 := HL.out
          have e2 := HM.out
          refine ⟨A4, c4, by rw [e1, e2]; rfl, ?_, HH.out.2⟩
          rw [e1, e2]
          exact HH.out.1

end Go.Proofs.YtiebjnibmomcjaaDoor
