/- Layer 5: PacketBack. -/
import Derived.Test.YtehloljfjpcniaaDoorPackO
import Derived.Deep.RegionHeld3
namespace Go.Proofs.YtehloljfjpcniaaDoor
open Go.RowKit

theorem held_next {W0 w w' : World} {a b : Addr} {u v : Value} (h : Keep Never W0 w ∧ w.cell? a = some u ∧ w.cell? b = some v) (hk : Keep Never w w') : Keep Never W0 w' ∧ w'.cell? a = some u ∧ w'.cell? b = some v :=
  ⟨h.1.trans hk, (hk.cell (cell_lt h.2.1) (fun h => h)).trans h.2.1, (hk.cell (cell_lt h.2.2) (fun h => h)).trans h.2.2⟩
theorem keep_none {w w' : World} (h : Keep (InRow none) w w') : Keep Never w w' := h.mono (by rintro i _ ⟨_, h, _⟩; cases h)
theorem keep_own {w0 w w' : World} {e size n c : Nat} {A : Option Addr} {xs : List Value} (h : Keep Never w0 w) (ho : Own w w0.heap.size e size A n c xs) (hk : Keep (InRow A) w w') : Keep Never w0 w' :=
  h.then_ hk (fun i hi e => by have := (ho.row e).1; omega)

theorem one_bools {l : List Bool} : ∀ u ∈ l.map Value.bool, u.oneCell' = true := by
  intro u hu
  obtain ⟨b, _, rfl⟩ := List.mem_map.1 hu
  rfl

set_option maxHeartbeats 4000000 in
set_option maxRecDepth 100000 in
theorem back_walk (W : World) (hW : Widths W) (cs : Array Value) (p : Int × List Int) (hp : repPack.cells W W.heap.size p cs.toList)
    (A1 : Option Addr) (n1 c1 : Nat) (ahead : List Bool) (h1 : Rep.bool.Sl W W.heap.size A1 n1 c1 ahead) (A0 : Option Addr) (n0 c0 : Nat) (behind : List Nat) (h0 : Rep.byte.Sl W W.heap.size A0 n0 c0 behind) :
    Calls Tryd.prog 7 #[.agg cs, .slice A1 n1 c1, .slice A0 n0 c0] W fun e w' => e = .returned (.bool true) ∧ Keep Never W w' := by
  obtain ⟨A, n, c, rfl, hrd, hn, hnc, hcm, h64⟩ := pack_in hp
  obtain ⟨id, V⟩ := p
  simp only at hrd hn h64 ⊢
  have H1 := Lib.hid (bools_rd h1)
  have H0 := Lib.hid (bytes_rd h0)
  have Hrd := Lib.hid hrd
  have Hn := Lib.hid hn
  have Hnc := Lib.hid (And.intro hnc hcm)
  have H64 := Lib.hid h64
  have HW := Lib.hid hW
  have Hg : Hid (0 < W.heap.size) := hW.lt
  have hk0 : Hid (Keep Never W (W.alloc (.cells #[.int .i64 id, .slice A n c] 26))) := (Keep.refl Never W).alloc _
  have hb0 : Hid (Blk (W.alloc (.cells #[.int .i64 id, .slice A n c] 26)) W.heap.size 26 #[.int .i64 id, .slice A n c]) := Blk.new W 26 _
  clear hp hrd hn hnc hcm h64 hW h1 h0
  unfold packCells
  by_cases hbig : (3000 : Int) < (n : Int) ∨ (10 : Int) < (n1 : Int) ∨ (100 : Int) < (n0 : Int)
  · rcases hbig with h3 | h3 | h3
    all_goals
      go_enter Tryd.func7, Tryd.ntmps7
      go_wp2_with fail
      refine (awake5_any _ (HW.out.keep hk0.out (fun h => h))).mono ?_
      rintro e w1 ⟨rfl, hk1⟩
      have HK1 := Lib.hid (hk0.out.trans hk1)
      have f1 : w1.cell? ⟨W.heap.size, 1, none⟩ = some (.slice A n c) := (hb0.out.keep hk1 (fun h => h)).cell 1
      clear hk1
      go_wp2_with fail
      all_goals
        go_ret
        exact ⟨rfl, HK1.out⟩
  have hn3 : (n : Int) ≤ 3000 := by omega
  have hn1 : (n1 : Int) ≤ 10 := by omega
  have hn0 : (n0 : Int) ≤ 100 := by omega
  clear hbig
  go_enter Tryd.func7, Tryd.ntmps7
  go_wp2_with fail
  refine (awake5_any _ (HW.out.keep hk0.out (fun h => h))).mono ?_
  rintro e w1 ⟨rfl, hk1⟩
  have HK1 := Lib.hid (hk0.out.trans hk1)
  have HB1 := Lib.hid (hb0.out.keep hk1 (fun h => h))
  have f0 : w1.cell? ⟨W.heap.size, 0, none⟩ = some (.int .i64 id) := HB1.out.cell 0
  have f1 : w1.cell? ⟨W.heap.size, 1, none⟩ = some (.slice A n c) := HB1.out.cell 1
  clear hk1
  have hSz : Hid (∀ w', Keep Never W w' → Calls Tryd.prog 18 #[.agg #[.int .i64 id, .slice A n c]] w' fun e w'' => e = .returned (.int .i64 (SizeM id V)) ∧ Keep Never w' w'') := fun w' hk =>
    Size_any W.heap.size id V A n c w' (Hrd.out.keep hk (fun _ h => h.elim)) Hn.out Hnc.out.1 Hnc.out.2 H64.out (by have := Hn.out; omega) (HW.out.keep hk (fun h => h)) Hg.out hk.size
  go_wp2_with fail
  refine (Items_any W.heap.size id V A n c w1 (Hrd.out.keep HK1.out (fun _ h => h.elim)) Hn.out Hnc.out.1 Hnc.out.2 H64.out (by have := Hn.out; omega) (HW.out.keep HK1.out (fun h => h)) Hg.out HK1.out.size).mono ?_
  rintro e w2 ⟨A2, n2, c2, x2, rfl, hk2, hpo⟩
  have HK2 := Lib.hid (HK1.out.trans hk2)
  have HB2 := Lib.hid (HB1.out.keep hk2 (fun h => h))
  have g0 : w2.cell? ⟨W.heap.size, 0, none⟩ = some (.int .i64 id) := HB2.out.cell 0
  have g1 : w2.cell? ⟨W.heap.size, 1, none⟩ = some (.slice A n c) := HB2.out.cell 1
  clear hk2 f0 f1
  rcases hpo with ⟨l, hI, rfl, hn2, ho2⟩ | ⟨hI, hx, rfl, rfl, rfl⟩
  rotate_left
  · have hx0 : (x2 == 0) = false := by simpa using hx
    have hx1 : (x2 != 0) = true := by simpa using hx
    have hS : Hid (SizeM id V = 0) := by show _ = _; simp [SizeM, hI]
    clear hI
    go_wp2_with fail
    refine (hSz.out _ HK2.out).mono ?_
    rintro e w3 ⟨rfl, hk3⟩
    rw [hS.out]
    have HK3 := Lib.hid (HK2.out.trans hk3)
    clear hk3
    go_wp2_with fail
    go_ret
    exact ⟨rfl, HK3.out⟩
  obtain ⟨q1, q2, q3, q4, q5⟩ := ItemsM_short hI
  have hlay := length_layP (ItemsM_width hI)
  have hS : SizeM id V = sumW l := by simp [SizeM, hI]
  obtain ⟨s, hsl⟩ : ∃ s : Nat, sumW l = s := ⟨(sumW l).toNat, by omega⟩
  rw [hsl] at hlay q4 q5 hS
  rw [hS] at hSz
  have HI := Lib.hid hI
  have Hq := Lib.hid (And.intro q1 (And.intro q2 q3))
  have Hlay := Lib.hid hlay
  have Hsl := Lib.hid hsl
  have Hn2 := Lib.hid hn2
  have Ho2 := Lib.hid ho2
  clear hI q1 q2 q3 hlay hsl hS hn2 ho2
  have hr1 : Hid (Rd w2 W.heap.size 1 A1 n1 (ahead.map .bool)) := H1.out.1.keep HK2.out (fun _ h => h.elim)
  go_wp2_with (refine wpList_app _ rfl _ (.tmp 50) _ rfl elemB w2.heap.size (A := none) (n := 0) (c := 0) (xs := []) (by go_simp) (Own.nil _ _ _ _) W.heap.size (A' := A1) (m := n1) (c' := c1) (by go_simp) hr1.out one_bools (by omega) (by unfold maxLen; omega) (Nat.le_refl _) ?_; intro A5 c5 w5 hown5 hk5 hrow5)
  have hown5' : Own w5 w2.heap.size 4 1 A5 n1 c5 (ahead.map .bool) := by simpa using hown5
  have K5 := Lib.hid (keep_none hk5)
  have O5 := Lib.hid hown5'
  clear hown5 hown5' hk5 hrow5
  refine (laid_any l (ItemsM_width HI.out) (ItemsM_nums HI.out) A2 n2 c2 w5.heap.size w5 Hn2.out.symm (by have := Hn2.out; have := Hq.out.2.1; omega) (Ho2.out.keep K5.out (fun _ _ h => h)).rd (Nat.le_refl _)).mono ?_
  rintro e w6 ⟨A6, n6, c6, rfl, hn6, ho6, hk6⟩
  have h6 : n6 = s := by have := Hlay.out; omega
  subst h6
  have K6 := Lib.hid (K5.out.trans hk6)
  have O56 := Lib.hid (O5.out.keep hk6 (fun _ _ h => h))
  have R6 := Lib.hid ho6.rd
  clear hk6 ho6 hn6 O5
  have hs4 : (n6 : Int) ≤ 8184 := q5
  go_wp2_with (refine wpList_app _ rfl (.tmp 52) (.tmp 54) _ rfl elemB w2.heap.size (A := A5) (n := n1) (c := c5) (by go_simp) O56.out w6.heap.size (A' := A6) (m := n6) (c' := c6) (by go_simp) R6.out one_bools (by omega) (by unfold maxLen; omega) K6.out.size ?_; intro A7 c7 w7 hown7 hk7 hrow7)
  have hown7' : Own w7 w2.heap.size 4 1 A7 (n1 + n6) c7 ((ahead ++ layP l).map .bool) := by rw [List.map_append]; exact hown7
  have K7 := Lib.hid (keep_own K6.out O56.out hk7)
  have O7 := Lib.hid hown7'
  clear hown7 hown7' hk7 hrow7 O56 R6
  refine (rbits_any A0 n0 c0 W.heap.size behind H0.out.2.1 w7 (H0.out.1.keep (HK2.out.trans K7.out) (fun _ h => h.elim)) (HK2.out.trans K7.out).size H0.out.2.2 (by omega)).mono ?_
  rintro e w8 ⟨A8, n8, c8, rfl, hn8, hc8, hr8, hk8, _⟩
  obtain rfl : n8 = 8 * n0 := by rw [hn8, H0.out.2.1]
  have K8 := Lib.hid (K7.out.trans hk8)
  have O78 := Lib.hid (O7.out.keep hk8 (fun _ _ h => h))
  have R8 := Lib.hid hr8
  clear hk8 hr8 hn8 O7
  go_wp2_with (refine wpList_app _ rfl (.tmp 56) (.tmp 58) _ rfl elemB w2.heap.size (A := A7) (n := n1 + n6) (c := c7) (by go_simp) O78.out w8.heap.size (A' := A8) (m := 8 * n0) (c' := c8) (by go_simp) R8.out one_bools (by omega) (by unfold maxLen; omega) K8.out.size ?_; intro A9 c9 w9 hown9 hk9 hrow9)
  have hown9' : Own w9 w2.heap.size 4 1 A9 (n1 + n6 + 8 * n0) c9 ((ahead ++ layP l ++ bitsB behind).map .bool) := by rw [List.map_append]; exact hown9
  have K9 := Lib.hid (keep_own K8.out O78.out hk9)
  have O9 := Lib.hid hown9'
  clear hown9 hown9' hk9 hrow9 O78 R8
  have HL : Hid ((ahead ++ layP l ++ bitsB behind).length = n1 + n6 + 8 * n0) := by
    show _ = _
    have := Hlay.out
    rw [List.length_append, List.length_append, length_bitsB, H1.out.2, H0.out.2.1]
    omega
  refine (rbytes_any A9 (n1 + n6 + 8 * n0) c9 w9.heap.size _ HL.out w9 O9.out.rd (Nat.le_refl _) (by omega)).mono ?_
  rintro e w10 ⟨A10, n10, c10, rfl, hn10, hr10, hk10, hc10, hcm10⟩
  have hl10 := length_bytesOf (ahead ++ layP l ++ bitsB behind)
  rw [HL.out] at hl10
  have hn10' : n10 ≤ 1500 := by omega
  have K10 := Lib.hid (K9.out.trans hk10)
  have R10 := Lib.hid hr10
  have N10 := Lib.hid hn10
  have C10 := Lib.hid (And.intro hc10 hcm10)
  clear hk10 hr10 hn10 hc10 hcm10 hl10 O9
  go_wp2_with fail
  have hback := back_of HI.out ahead behind
  rw [H1.out.2, Hsl.out] at hback
  refine (Get_any w10.heap.size _ (n1 : Int) A10 n10 c10 w10 R10.out N10.out.symm (bytesTo_lt _ _) C10.out.1 C10.out.2 hn10' (HW.out.keep (HK2.out.trans K10.out) (fun h => h)) (Nat.lt_of_lt_of_le Hg.out (HK2.out.trans K10.out).size) (Nat.le_refl _)).mono ?_
  rintro e w11 ⟨id', A11, n11, c11, d11, x11, rfl, hk11, hpo⟩
  rw [hback] at hpo
  rcases hpo with ⟨V', h, rfl, hn11, hr11, _, _, _⟩ | ⟨h, _⟩
  rotate_left
  · cases h
  injection h with h
  injection h with h h'
  injection h' with h' h''
  subst h h' h''
  have K11 := Lib.hid (K10.out.trans hk11)
  have R11 := Lib.hid hr11
  have N11 := Lib.hid hn11
  have K12 := Lib.hid (K11.out.alloc (.cells #[.int .i64 id, .slice A11 n11 c11] 26))
  have B12 := Lib.hid (HB2.out.keep K12.out (fun h => h))
  have u0 : (w11.alloc (.cells #[.int .i64 id, .slice A11 n11 c11] 26)).cell? ⟨W.heap.size, 0, none⟩ = some (.int .i64 id) := B12.out.cell 0
  have u1 : (w11.alloc (.cells #[.int .i64 id, .slice A11 n11 c11] 26)).cell? ⟨W.heap.size, 1, none⟩ = some (.slice A n c) := B12.out.cell 1
  clear hk11 hr11 hn11 hback g0 g1
  unfold packCells
  go_wp2_with fail
  have hsame : (decide (V = V) && id == id) = true := by simp
  have hsm := same_any id id V V A A11 n n11 c c11 w11.heap.size (w11.alloc (.cells #[.int .i64 id, .slice A11 n11 c11] 26)) Hn.out N11.out.symm (by omega) (by have := N11.out; have := Hn.out; omega)
    ((Hrd.out.keep (HK2.out.trans K12.out) (fun _ h => h.elim)).more (HK2.out.trans K11.out).size) (R11.out.alloc _)
  rw [hsame] at hsm
  unfold packCells at hsm
  refine hsm.mono ?_
  rintro e w13 ⟨rfl, hk13⟩
  have K13 := Lib.hid (K12.out.trans hk13)
  have B13 := Lib.hid (HB2.out.keep K13.out (fun h => h))
  have v0 : w13.cell? ⟨W.heap.size, 0, none⟩ = some (.int .i64 id) := B13.out.cell 0
  have v1 : w13.cell? ⟨W.heap.size, 1, none⟩ = some (.slice A n c) := B13.out.cell 1
  have hTot : Hid (∀ w', Keep Never w2 w' → Calls Tryd.prog 25 #[.slice A2 n2 c2] w' fun e w'' => e = .returned (.int .i64 n6) ∧ w' = w'') := fun w' hk => by
    have := total_any l (ItemsM_width HI.out) A2 n2 c2 w'.heap.size w' Hn2.out.symm (by have := Hn2.out; have := Hq.out.2.1; omega) (Ho2.out.keep hk (fun _ _ h => h)).rd
    rwa [Hsl.out] at this
  have hwr : IntKind.i64.wrap ((n1 : Int) + (n6 : Int)) = (n1 : Int) + (n6 : Int) := by first | go_num | exact IntKind.wrap_of_range (by simp [IntKind.min, IntKind.signed, IntKind.bits]; omega) (by simp [IntKind.max, IntKind.signed, IntKind.bits]; omega) | (simp [IntKind.wrap, IntKind.signed, IntKind.bits, IntKind.min, IntKind.max]; omega)
  have he1 : ((n1 : Int) + (n6 : Int) == (n1 : Int) + (n6 : Int)) = true := beq_self_eq_true _
  have he2 : ((n6 : Int) == (n6 : Int)) = true := beq_self_eq_true _
  have he3 : ((0 : Int) == (0 : Int)) = true := beq_self_eq_true _
  clear hsm hk13 u0 u1 hsame
  go_wp2_with fail
  go_region_held3 (fun w' => Keep Never w2 w' ∧ w'.cell? ⟨W.heap.size, 0, none⟩ = some (.int .i64 id) ∧ w'.cell? ⟨W.heap.size, 1, none⟩ = some (.slice A n c))
    (first | assumption | exact ⟨K13.out.drew, v0, v1⟩ | exact held_next (by assumption) hk')
    (first
      | (go_at_call 18; refine (hSz.out _ (HK2.out.trans (by first | exact K13.out.drew | assumption | exact And.left (by assumption)))).mono ?_; rintro e w' ⟨rfl, hk'⟩)
      | (go_at_call 25; refine (hTot.out _ (by first | exact K13.out.drew | assumption | exact And.left (by assumption))).mono ?_; rintro e w' ⟨rfl, rfl⟩))
  all_goals
    have HF : Hid (Keep Never w2 _) := Lib.hid (And.left (by assumption))
    go_wp2_with fail
    go_ret
    exact ⟨by first | rfl | (refine ret_bool ?_; simp), HK2.out.trans HF.out⟩

end Go.Proofs.YtehloljfjpcniaaDoor
