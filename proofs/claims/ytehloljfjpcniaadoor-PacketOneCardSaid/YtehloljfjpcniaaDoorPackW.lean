/- Layer 5: PacketOne. -/
import Derived.Test.YtehloljfjpcniaaDoorPackO
import Derived.Deep.RegionHeld3
namespace Go.Proofs.YtehloljfjpcniaaDoor
open Go.RowKit

set_option maxHeartbeats 4000000 in
set_option maxRecDepth 100000 in
theorem one_walk (W : World) (hW : Widths W) (cs : Array Value) (p : Int × List Int) (hp : repPack.cells W W.heap.size p cs.toList) (i : Int) (hi1 : -9223372036854775808 ≤ i) (hi2 : i ≤ 9223372036854775807) (m : Int) (hm1 : -9223372036854775808 ≤ m) (hm2 : m ≤ 9223372036854775807) :
    Calls Tryd.prog 5 #[.agg cs, .int .i64 i, .int .i64 m] W fun e w' => e = .returned (.bool true) ∧ Keep Never W w' := by
  obtain ⟨A, n, c, rfl, hrd, hn, hnc, hcm, h64⟩ := pack_in hp
  obtain ⟨id, V⟩ := p
  simp only at hrd hn h64 ⊢
  have Hrd := Lib.hid hrd
  have Hn := Lib.hid hn
  have Hnc := Lib.hid (And.intro hnc hcm)
  have H64 := Lib.hid h64
  have HW := Lib.hid hW
  have Hg : Hid (0 < W.heap.size) := hW.lt
  have hk0 : Hid (Keep Never W (W.alloc (.cells #[.int .i64 id, .slice A n c] 26))) := (Keep.refl Never W).alloc _
  have hb0 : Hid (Blk (W.alloc (.cells #[.int .i64 id, .slice A n c] 26)) W.heap.size 26 #[.int .i64 id, .slice A n c]) := Blk.new W 26 _
  clear hp hrd hn hnc hcm h64 hW
  unfold packCells
  by_cases hbig : (3000 : Int) < (n : Int) ∨ i < 0 ∨ (n : Int) ≤ i
  · rcases hbig with h3 | h3 | h3
    all_goals
      go_enter Tryd.func5, Tryd.ntmps5
      go_wp2_with fail
      refine (awake5_any _ (HW.out.keep hk0.out (fun h => h))).mono ?_
      rintro e w1 ⟨rfl, hk1⟩
      have HK1 := Lib.hid (hk0.out.trans hk1)
      have f1 : w1.cell? ⟨W.heap.size, 1, none⟩ = some (.slice A n c) := (hb0.out.keep hk1 (fun h => h)).cell 1
      clear hk1
      go_wp2_with fail
      all_goals
        go_ret
        exact ⟨rfl, HK1.out⟩
  obtain ⟨k, rfl⟩ : ∃ k : Nat, i = k := ⟨i.toNat, by omega⟩
  have hn3 : (n : Int) ≤ 3000 := by omega
  have hk0' : (0 : Int) ≤ (k : Int) := by omega
  have hkn : (k : Int) < (n : Int) := by omega
  clear hbig
  obtain ⟨ad, x, hA, had, hx, hcx⟩ := Hrd.out.at1 (show k < n by omega)
  subst hA
  have Hx := Lib.hid hx
  have Hcx := Lib.hid hcx
  have hx64 : i64 x := H64.out x (List.mem_of_getElem? hx)
  clear hx hcx had
  go_enter Tryd.func5, Tryd.ntmps5
  go_wp2_with fail
  refine (awake5_any _ (HW.out.keep hk0.out (fun h => h))).mono ?_
  rintro e w1 ⟨rfl, hk1⟩
  have HK1 := Lib.hid (hk0.out.trans hk1)
  have HB1 := Lib.hid (hb0.out.keep hk1 (fun h => h))
  have f0 : w1.cell? ⟨W.heap.size, 0, none⟩ = some (.int .i64 id) := HB1.out.cell 0
  have f1 : w1.cell? ⟨W.heap.size, 1, none⟩ = some (.slice (some ad) n c) := HB1.out.cell 1
  clear hk1
  go_wp2_with fail
  refine (Items_any W.heap.size id V (some ad) n c w1 (Hrd.out.keep HK1.out (fun _ h => h.elim)) Hn.out Hnc.out.1 Hnc.out.2 H64.out (by have := Hn.out; omega) (HW.out.keep HK1.out (fun h => h)) Hg.out HK1.out.size).mono ?_
  rintro e w2 ⟨A2, n2, c2, x2, rfl, hk2, hpo⟩
  have HK2 := Lib.hid (HK1.out.trans hk2)
  have HB2 := Lib.hid (HB1.out.keep hk2 (fun h => h))
  have g0 : w2.cell? ⟨W.heap.size, 0, none⟩ = some (.int .i64 id) := HB2.out.cell 0
  have g1 : w2.cell? ⟨W.heap.size, 1, none⟩ = some (.slice (some ad) n c) := HB2.out.cell 1
  have Hpo := Lib.hid hpo
  clear hk2 f0 f1 hpo
  go_wp2_with fail
  have hbl : W.heap.size < w2.heap.size := HB2.out.lt
  have hrd2 := Lib.hid (Hrd.out.keep HK2.out (fun _ h => h.elim))
  go_region_held3 (fun w' => w'.cell? ⟨W.heap.size, 0, none⟩ = some (.int .i64 id) ∧ w'.cell? ⟨W.heap.size, 1, none⟩ = some (.slice (some ad) n c))
    (refine ⟨?_, ?_⟩ <;> first | go_keep | (rw [hk5.cell (by simp; omega) (by rintro ⟨_, h, _⟩; cases h)]; go_keep) | (rw [World.cell?_alloc_lt w5 _ _ (by have := hk5.size; simp at this ⊢; omega), hk5.cell (by simp; omega) (by rintro ⟨_, h, _⟩; cases h)]; first | exact g0 | exact g1) | (rw [World.cell?_setCell_other _ _ _ _ (by intro e; injection e; omega), World.cell?_setCell_other _ _ _ _ (by intro e; injection e; omega), hk5.cell (by simp; omega) (by rintro ⟨_, h, _⟩; cases h)]; go_keep))
    (first
      | (refine step_app _ rfl _ (.tmp 45) _ rfl elemInt w2.heap.size rfl (Own.nil _ _ _ _) W.heap.size rfl hrd2.out.drew (by simp [Value.oneCell']) (by omega) (by unfold maxLen; omega) (Nat.le_refl _) ?_; intro A5 c5 w5 hown5 hk5 hrow5)
      | (refine step_app _ rfl _ (.tmp 45) _ rfl elemInt w2.heap.size rfl (Own.nil _ _ _ _) W.heap.size rfl (hrd2.out.alloc _).drew (by simp [Value.oneCell']) (by omega) (by unfold maxLen; omega) (by simp) ?_; intro A5 c5 w5 hown5 hk5 hrow5; have hb5 := Blk.keep (w := World.drew (w2.alloc _)) (Blk.new w2 26 _).drew hk5 (by rintro ⟨_, h, _⟩; cases h); have hf5 := hb5.frozen 0; have hc5 := hb5.cell 0; have hf6 := hb5.frozen 1; have hc6 := hb5.cell 1))
  all_goals first
    | (obtain ⟨w6, hw6⟩ : ∃ w6, w6 = w5.alloc (.cells #[.int .i64 id, .slice A5 n c5] 26) := ⟨_, rfl⟩
       rw [← hw6]
       have hq : Blk w6 w5.heap.size 26 #[.int .i64 id, .slice A5 n c5] := by rw [hw6]; exact Blk.new _ _ _
       have hown6 : Own w6 w2.heap.size 3 1 A5 n c5 (V.map (.int .i64)) := by rw [hw6]; simpa using hown5.alloc (.cells #[.int .i64 id, .slice A5 n c5] 26)
       have hk6 : Keep Never w2 w6 := by rw [hw6]; exact (((Keep.refl Never w2).drew).trans (hk5.mono (by rintro i _ ⟨_, h, _⟩; cases h))).alloc _
       clear hw6 hk5 hown5 hrow5
       generalize w5.heap.size = gq at *)
    | (obtain ⟨w6, hw6⟩ : ∃ w6, w6 = (w5.setCell ⟨w2.heap.size, 0, none⟩ (.int .i64 id)).setCell ⟨w2.heap.size, 1, none⟩ (.slice A5 n c5) := ⟨_, rfl⟩
       rw [← hw6]
       have hq : Blk w6 w2.heap.size 26 #[.int .i64 id, .slice A5 n c5] := by rw [hw6]; exact (hb5.set_ 0 (.int .i64 id)).set_ 1 (.slice A5 n c5)
       have hne := hown5.ne_blk hb5 (by decide)
       have hown6 : Own w6 w2.heap.size 3 1 A5 n c5 (V.map (.int .i64)) := by rw [hw6]; simpa using (hown5.far (p := ⟨w2.heap.size, 0, none⟩) hne (.int .i64 id)).far (p := ⟨w2.heap.size, 1, none⟩) hne (.slice A5 n c5)
       have hk6 : Keep Never w2 w6 := by rw [hw6]; exact ((((Keep.refl Never w2).alloc _).drew.trans (hk5.mono (by rintro i _ ⟨_, h, _⟩; cases h))).set_ (.inr (Nat.le_refl _)) _).set_ (.inr (Nat.le_refl _)) _
       clear hw6 hk5 hown5 hrow5 hb5 hf5 hc5 hf6 hc6 hne
       obtain ⟨gq, hgq⟩ : ∃ gq, gq = w2.heap.size := ⟨_, rfl⟩
       rw [← hgq] at hq ⊢
       clear hgq)
  all_goals
    have Hq := Lib.hid hq
    have Ho6 := Lib.hid hown6
    have HK6 := Lib.hid (HK2.out.trans hk6)
    have HK26 := Lib.hid hk6
    obtain ⟨ad5, hA5, _, hcc5⟩ := hown6.rd.2 (by omega)
    have hkV : k < V.length := by have := Hn.out; omega
    have q0 : w6.cell? ⟨gq, 0, none⟩ = some (.int .i64 id) := hq.cell 0
    have q1 : w6.cell? ⟨gq, 1, none⟩ = some (.slice A5 n c5) := hq.cell 1
    have hold : w6.cell? (ad5.add k) = some (.int .i64 x) := hcc5 k _ (by rw [List.getElem?_map, Hx.out]; rfl)
    have hfz : w6.frozen? (ad5.add k) = false := hown6.frozen hA5 k
    have hq7 : Blk (w6.setCell (ad5.add k) (.int .i64 m)) gq 26 #[.int .i64 id, .slice A5 n c5] := hown6.stored_blk hA5 k _ hq (by decide)
    have r0 := hq7.cell 0
    have r1 := hq7.cell 1
    have ho7 : Own (w6.setCell (ad5.add k) (.int .i64 m)) w2.heap.size 3 1 A5 n c5 ((V.set k m).map (.int .i64)) := by
      have := hown6.stored hA5 k (.int .i64 m)
      rwa [← List.map_set] at this
    have hcap : n ≤ c5 ∧ c5 ≤ maxLen := by
      rcases hown6.form with ⟨h, _⟩ | ⟨_, _, _, _, _, h1, h2, _⟩
      · rw [h] at hA5; cases hA5
      · exact ⟨h1, h2⟩
    have hk27 : Keep Never w2 (w6.setCell (ad5.add k) (.int .i64 m)) := hk6.set_ (.inr (by rw [block_add]; exact (hown6.row ⟨ad5, hA5, rfl⟩).1)) _
    have HK27 := Lib.hid hk27
    have HK7 := Lib.hid (HK2.out.trans hk27)
    have Ho7 := Lib.hid ho7
    have Hcap := Lib.hid hcap
    have Hlen7 : Hid ((V.set k m).length = n) := by show _ = _; rw [List.length_set]; exact Hn.out
    have H647 : Hid (∀ y ∈ V.set k m, i64 y) := by
      intro y hy
      rcases List.mem_or_eq_of_mem_set hy with h | h
      · exact H64.out y h
      · subst h; exact ⟨hm1, hm2⟩
    subst hA5
    clear hq hown6 hk6 hcc5 hq7 ho7 hcap hk27 Ho6 HK6 HK26 Hq
    go_wp2_with fail
    obtain ⟨w7, hw7⟩ : ∃ w7, w7 = w6.setCell (ad5.add k) (.int .i64 m) := ⟨_, rfl⟩
    rw [← hw7] at Ho7 HK7 HK27 ⊢
    clear r0 r1 q0 q1 hold hfz hw7
    refine (Items_any w7.heap.size id (V.set k m) (some ad5) n c5 w7 Ho7.out.rd Hlen7.out Hcap.out.1 Hcap.out.2 H647.out (by have := Hlen7.out; omega) (HW.out.keep HK7.out (fun h => h)) (Nat.lt_of_lt_of_le Hg.out HK7.out.size) (Nat.le_refl _)).mono ?_
    rintro e w8 ⟨A8, n8, c8, x8, rfl, hk8, hpo8⟩
    have HK28 := Lib.hid (HK27.out.trans hk8)
    have HK8 := Lib.hid (HK7.out.trans hk8)
    have g1' : w8.cell? ⟨W.heap.size, 1, none⟩ = some (.slice (some ad) n c) := (HB2.out.keep HK28.out (fun h => h)).cell 1
    have hV8 : w8.cell? (ad.add k) = some (.int .i64 x) := (HK8.out.cell (cell_lt Hcx.out) (fun h => h)).trans Hcx.out
    have Hpo8 := Lib.hid hpo8
    clear hk8 hpo8 g0 g1
    rcases Hpo.out with ⟨l, hI, rfl, hn2, ho2⟩ | ⟨_, hx2, rfl, rfl, rfl⟩
    rotate_left
    · have hx0 : (x2 == 0) = false := by simpa using hx2
      have hx1 : (x2 != 0) = true := by simpa using hx2
      clear Hpo8
      go_wp2_with fail
      go_ret
      exact ⟨rfl, HK8.out⟩
    rcases Hpo8.out with ⟨l', hI', rfl, hn8, ho8⟩ | ⟨_, hx8, rfl, rfl, rfl⟩
    rotate_left
    · have hx0 : (x8 == 0) = false := by simpa using hx8
      have hx1 : (x8 != 0) = true := by simpa using hx8
      clear Hpo Hpo8 hI hn2 ho2
      go_wp2_with fail
      go_ret
      exact ⟨rfl, HK8.out⟩
    have HI := Lib.hid hI
    have HI' := Lib.hid hI'
    have Hn2 := Lib.hid hn2
    have Hn8 := Lib.hid hn8
    have Ho2 := Lib.hid ho2
    have Ho8 := Lib.hid ho8
    clear hI hI' hn2 hn8 ho2 ho8 Hpo Hpo8
    by_cases hmx : m = x
    · subst hmx
      go_wp2_with fail
      go_ret
      exact ⟨rfl, HK8.out⟩
    have hmx0 : (m == x) = false := by simpa using hmx
    have Hmx := Lib.hid hmx
    clear hmx
    go_wp2_with fail
    refine (laid_any l (ItemsM_width HI.out) (ItemsM_nums HI.out) A2 n2 c2 w8.heap.size w8 Hn2.out.symm (by have := Hn2.out; have := (ItemsM_short HI.out).2.1; omega) (Ho2.out.keep HK28.out (fun _ _ h => h)).rd (Nat.le_refl _)).mono ?_
    rintro e w9 ⟨A9, n9, c9, rfl, hn9, ho9, hk9⟩
    have HK9 := Lib.hid (HK8.out.trans hk9)
    have Ho9 := Lib.hid ho9
    have Hn9 := Lib.hid hn9
    have Ho89 := Lib.hid (Ho8.out.keep hk9 (fun _ _ h => h))
    clear hk9 ho9 hn9 Ho8
    go_wp2_with fail
    refine (laid_any l' (ItemsM_width HI'.out) (ItemsM_nums HI'.out) A8 n8 c8 w9.heap.size w9 Hn8.out.symm (by have := Hn8.out; have := (ItemsM_short HI'.out).2.1; omega) Ho89.out.rd (Nat.le_refl _)).mono ?_
    rintro e w10 ⟨A10, n10, c10, rfl, hn10, ho10, hk10⟩
    have HK10 := Lib.hid (HK9.out.trans hk10)
    have Hr9 := Lib.hid (Ho9.out.keep hk10 (fun _ _ h => h)).rd
    have Hr10 := Lib.hid ho10.rd
    have Hn10 := Lib.hid hn10
    clear hk10 ho10 hn10 Ho9 Ho89 g1' hV8 hmx0
    have Hne : Hid (layP l ≠ layP l') := by
      intro e
      have h1 := get_one HI.out HI'.out e
      have h2 := congrArg (fun v : List Int => v[k]?) h1
      simp only [List.getElem?_set_self hkV] at h2
      rw [Hx.out] at h2
      injection h2 with h2
      exact Hmx.out h2.symm
    have hn9b : n9 ≤ 8184 := by
      have h1 := length_layP (ItemsM_width HI.out)
      have h2 := (ItemsM_short HI.out).2.2.2.2
      have := Hn9.out
      omega
    by_cases hlen : n9 = n10
    rotate_left
    · have hb : ((n9 : Int) == (n10 : Int)) = false := by simp; omega
      clear hlen
      go_wp2_with fail
      go_ret
      exact ⟨rfl, HK10.out⟩
    subst hlen
    go_wp2_with fail
    go_loopw [15] (fun i wr => ∃ j : Nat, j ≤ n9 ∧ i = .int .i64 j ∧ Hid (Keep Never w10 wr ∧ (layP l).take j = (layP l').take j)) (fun i _ => n9 - (intOf i).toNat)
    case atStart => exact ⟨0, by omega, rfl, Keep.refl _ _, by simp⟩
    case round =>
      obtain ⟨j, hj, rfl, HH⟩ := hrel
      by_cases h0 : j < n9
      · obtain ⟨a1, y, hA, _, hy, hcy⟩ := (Hr9.out.keep HH.out.1 (fun _ h => h.elim)).at1 h0
        obtain ⟨a2, z, hA', _, hz, hcz⟩ := (Hr10.out.keep HH.out.1 (fun _ h => h.elim)).at1 h0
        subst hA
        subst hA'
        have hty : Hid ((layP l).take (j + 1) = (layP l).take j ++ [y]) := by
          obtain ⟨h2, h3⟩ := List.getElem?_eq_some_iff.1 hy
          show _ = _
          rw [List.take_succ_eq_append_getElem h2, h3]
        have htz : Hid ((layP l').take (j + 1) = (layP l').take j ++ [z]) := by
          obtain ⟨h2, h3⟩ := List.getElem?_eq_some_iff.1 hz
          show _ = _
          rw [List.take_succ_eq_append_getElem h2, h3]
        have hji : (j : Int) < (n9 : Int) := by omega
        have hj00 : (0 : Int) ≤ (j : Int) := by omega
        clear hy hz
        by_cases hyz : y = z
        · subst hyz
          go_wp2_with fail
          go_quiet (fail)
          go_wp2_with fail
          go_roundw
          case rel => exact ⟨j + 1, by omega, by go_num, HH.out.1.drewN _, by rw [hty.out, htz.out, HH.out.2]⟩
          case measure => simp [intOf]; omega
        · have hb : (y == z) = false := by simpa using hyz
          have hb' : (y != z) = true := by simpa using hyz
          clear hyz hty htz
          go_wp2_with fail
          go_quiet (fail)
          go_wp2_with fail
          go_ret
          exact ⟨rfl, HK10.out.trans (HH.out.1.drewN _)⟩
      · exfalso
        obtain rfl : j = n9 := by omega
        have := HH.out.2
        rw [List.take_of_length_le (by have := Hn9.out; omega), List.take_of_length_le (by have := Hn10.out; omega)] at this
        exact Hne.out this
end Go.Proofs.YtehloljfjpcniaaDoor
