/- Chapter 15: DeleteFunc, the comparison, SortFunc at spans. -/
import Derived.Test.YtpahfobijmmmmaaGreatSpnD
import Derived.Test.YtpahfobijmmmmaaGreatLaySort
namespace Go.Proofs.YtpahfobijmmmmaaGreat
open Go.RowKit Go.Sort

/-- the closure of Norm: what is not some -/
theorem norm1_any (s : Sp) (w : World) : Calls Tryz.prog 71 #[.agg #[.int .i64 s.1, .int .i64 s.2.1, .int .i64 s.2.2]] w fun e w' => e = .returned (.bool (!someS s)) ∧ Keep Never w w' := by
  obtain ⟨s1, s2, s3⟩ := s
  simp only
  have HS : Hid (∀ W, Calls Tryz.prog 72 #[.agg #[.int .i64 s1, .int .i64 s2, .int .i64 s3]] W fun e w' => e = .returned (.bool (someS (s1, s2, s3))) ∧ Keep Never W w') := Lib.hid (fun W => some_any (s1, s2, s3) W)
  go_enter Tryz.func71, Tryz.ntmps71
  go_wp2_with fail
  refine (HS.out _).mono ?_
  rintro e w' ⟨rfl, hk⟩
  go_wp2_with fail
  go_ret
  exact ⟨rfl, ((Keep.refl Never w).alloc _).trans hk⟩

def cmpI (a b : Int) : Int := if a < b then -1 else if b < a then 1 else 0
/-- how Norm compares -/
def cmpS (x y : Sp) : Int := if cmpI x.1 y.1 ≠ 0 then cmpI x.1 y.1 else cmpI x.2.1 y.2.1
theorem cmpI_neg {a b : Int} : cmpI a b < 0 ↔ a < b := by unfold cmpI; split <;> (try split) <;> omega
theorem cmpI_zero {a b : Int} : cmpI a b = 0 ↔ a = b := by unfold cmpI; split <;> (try split) <;> omega
theorem cmpS_neg {x y : Sp} : cmpS x y < 0 ↔ x.1 < y.1 ∨ (x.1 = y.1 ∧ x.2.1 < y.2.1) := by
  unfold cmpS
  split
  · rename_i h; rw [cmpI_neg]; rw [Ne, cmpI_zero] at h; omega
  · rename_i h; rw [cmpI_neg]; rw [Ne, cmpI_zero] at h; omega
theorem lt_cmpS (x y : Sp) : ltOf cmpS x y = true ↔ x.1 < y.1 ∨ (x.1 = y.1 ∧ x.2.1 < y.2.1) := by unfold ltOf; rw [decide_eq_true_eq, cmpS_neg]
theorem swo_cmpS : SWO (ltOf cmpS) where
  irrefl x := by rw [← not_true_iff, lt_cmpS]; omega
  trans x y z h1 h2 := by rw [lt_cmpS] at *; omega
  ntrans x y z h1 h2 := by rw [← not_true_iff, lt_cmpS] at *; omega

theorem isnan_any (a : Int) (w : World) : Calls Tryz.prog 92 #[.int .i64 a] w fun e w' => e = .returned (.bool false) ∧ w = w' := by
  have h : (a != a) = false := by simp
  go_enter Tryz.func92, Tryz.ntmps92
  go_wp2
  go_ret
  exact ⟨rfl, rfl⟩
theorem compare_any (a b : Int) (w : World) : Calls Tryz.prog 76 #[.int .i64 a, .int .i64 b] w fun e w' => e = .returned (.int .i64 (cmpI a b)) ∧ w = w' := by
  have HN : Hid (∀ a W, Calls Tryz.prog 92 #[.int .i64 a] W fun e w' => e = .returned (.bool false) ∧ W = w') := Lib.hid isnan_any
  have HC : Hid ((a < b → cmpI a b = -1) ∧ (b < a → cmpI a b = 1) ∧ (a = b → cmpI a b = 0)) := Lib.hid (by unfold cmpI; refine ⟨fun h => ?_, fun h => ?_, fun h => ?_⟩ <;> split <;> (try split) <;> omega)
  by_cases h1 : a < b
  · have h2 : ¬ a > b := by omega
    go_enter Tryz.func76, Tryz.ntmps76
    go_wp2_with (go_at_call 92; refine (HN.out _ _).mono ?_; rintro e w' ⟨rfl, rfl⟩)
    go_ret
    exact ⟨by rw [HC.out.1 h1]; rfl, rfl⟩
  · by_cases h2 : a > b
    · go_enter Tryz.func76, Tryz.ntmps76
      go_wp2_with (go_at_call 92; refine (HN.out _ _).mono ?_; rintro e w' ⟨rfl, rfl⟩)
      go_ret
      exact ⟨by rw [HC.out.2.1 h2]; rfl, rfl⟩
    · go_enter Tryz.func76, Tryz.ntmps76
      go_wp2_with (go_at_call 92; refine (HN.out _ _).mono ?_; rintro e w' ⟨rfl, rfl⟩)
      go_ret
      exact ⟨by rw [HC.out.2.2 (by omega)]; rfl, rfl⟩
/-- the first of two that is not 0 -/
def orI (a b : Int) : Int := if a ≠ 0 then a else b
theorem or_any (g t : Nat) (a b : Int) (w : World) (hb : Blk w g t #[.int .i64 a, .int .i64 b]) : Calls Tryz.prog 75 #[.slice (some ⟨g, 0, none⟩) 2 2] w fun e w' => e = .returned (.int .i64 (orI a b)) ∧ w = w' := by
  unfold orI
  have q0 := hb.cell 0
  have q1 := hb.cell 1
  clear hb
  go_enter Tryz.func75, Tryz.ntmps75
  go_wp2
  go_loop [5, 8] (fun _ i => i = .int .i64 0 ∨ (i = .int .i64 1 ∧ a = 0) ∨ (i = .int .i64 2 ∧ a = 0 ∧ b = 0)) (fun _ i => 2 - (intOf i).toNat)
  case atStart => exact .inl rfl
  case round =>
    rcases hrel with rfl | ⟨rfl, ha⟩ | ⟨rfl, ha, hb⟩
    · by_cases h : a = 0
      · have h1 : (a != 0) = false := by simpa using h
        go_wp2
        go_round
        case rel => exact .inr (.inl ⟨rfl, h⟩)
        case measure => simp [intOf]
      · have h1 : (a != 0) = true := by simpa using h
        go_wp2
        go_ret
        exact ⟨rfl, rfl⟩
    · by_cases h : b = 0
      · have h1 : (b != 0) = false := by simpa using h
        go_wp2
        go_round
        case rel => exact .inr (.inr ⟨rfl, ha, h⟩)
        case measure => simp [intOf]
      · have h1 : (b != 0) = true := by simpa using h
        go_wp2
        go_ret
        exact ⟨rfl, rfl⟩
    · go_wp2
      go_ret
      exact ⟨rfl, rfl⟩
set_option maxHeartbeats 1000000 in
set_option maxRecDepth 100000 in
theorem norm2_any (x y : Sp) (w : World) : Calls Tryz.prog 74 #[.agg #[.int .i64 x.1, .int .i64 x.2.1, .int .i64 x.2.2], .agg #[.int .i64 y.1, .int .i64 y.2.1, .int .i64 y.2.2]] w fun e w' => e = .returned (.int .i64 (cmpS x y)) ∧ ∃ q os, w' = grow (w.drewN q) os := by
  obtain ⟨x1, x2, x3⟩ := x
  obtain ⟨y1, y2, y3⟩ := y
  simp only
  have HC : Hid (∀ a b W, Calls Tryz.prog 76 #[.int .i64 a, .int .i64 b] W fun e w' => e = .returned (.int .i64 (cmpI a b)) ∧ W = w') := Lib.hid compare_any
  have HR : Hid (cmpS (x1, x2, x3) (y1, y2, y3) = orI (cmpI x1 y1) (cmpI x2 y2)) := Lib.hid rfl
  obtain ⟨WB, hWB⟩ : ∃ W : World, (w.alloc (.cells #[.int .i64 x1, .int .i64 x2, .int .i64 x3] 74)).alloc (.cells #[.int .i64 y1, .int .i64 y2, .int .i64 y3] 74) = W := ⟨_, rfl⟩
  have hx := ((Blk.new w 74 #[.int .i64 x1, .int .i64 x2, .int .i64 x3]).alloc (.cells #[.int .i64 y1, .int .i64 y2, .int .i64 y3] 74))
  have hy : Blk ((w.alloc (.cells #[.int .i64 x1, .int .i64 x2, .int .i64 x3] 74)).alloc (.cells #[.int .i64 y1, .int .i64 y2, .int .i64 y3] 74)) (w.heap.size + 1) 74 #[.int .i64 y1, .int .i64 y2, .int .i64 y3] := by
    have := Blk.new (w.alloc (.cells #[.int .i64 x1, .int .i64 x2, .int .i64 x3] 74)) 74 #[.int .i64 y1, .int .i64 y2, .int .i64 y3]
    rwa [World.size_alloc] at this
  rw [hWB] at hx hy
  have HW : Hid (WB = grow w #[.cells #[.int .i64 x1, .int .i64 x2, .int .i64 x3] 74, .cells #[.int .i64 y1, .int .i64 y2, .int .i64 y3] 74]) := Lib.hid (by rw [← hWB, alloc_eq_grow, alloc_eq_grow, grow_grow]; rfl)
  have q0 : WB.cell? ⟨w.heap.size, 0, none⟩ = some (.int .i64 x1) := hx.cell 0
  have q1 : WB.cell? ⟨w.heap.size, 1, none⟩ = some (.int .i64 x2) := hx.cell 1
  have r0 : WB.cell? ⟨w.heap.size + 1, 0, none⟩ = some (.int .i64 y1) := hy.cell 0
  have r1 : WB.cell? ⟨w.heap.size + 1, 1, none⟩ = some (.int .i64 y2) := hy.cell 1
  clear hx hy
  go_enter Tryz.func74, Tryz.ntmps74
  go_wp2_with fail
  go_region_held3 (fun w' => w'.cell? ⟨w.heap.size, 0, none⟩ = some (.int .i64 x1) ∧ w'.cell? ⟨w.heap.size, 1, none⟩ = some (.int .i64 x2) ∧ w'.cell? ⟨w.heap.size + 1, 0, none⟩ = some (.int .i64 y1) ∧ w'.cell? ⟨w.heap.size + 1, 1, none⟩ = some (.int .i64 y2)) (refine ⟨?_, ?_, ?_, ?_⟩ <;> go_keep)
    (first
      | (go_at_call 76; refine (HC.out _ _ _).mono ?_; rintro e w5 ⟨rfl, rfl⟩)
      | (go_at_call 75; refine (or_any _ _ (cmpI x1 y1) (cmpI x2 y2) _ (Blk.new _ _ _).drew).mono ?_; rintro e w6 ⟨rfl, rfl⟩))
  clear q0 q1 r0 r1
  go_wp2_with fail
  go_ret
  exact ⟨by rw [HR.out]; rfl, 1, _, by rw [HW.out, alloc_eq_grow, grow_grow]; rfl⟩
theorem cmpLays_sp (blk off size : Nat) (w : World) : Go.Proofs.CmpLays Tryz.prog 74 #[] spCell 3 cmpS blk off size w :=
  fun _ _ _ _ x y => norm2_any x y _

/-- the cells of a row of spans, for the sort -/
theorem flat_sp (d : Array Sp) : ∀ j, j < d.size * 3 → (flatK spCell 3 d)[j]! = (spCells d.toList)[j]! := by
  intro j hj
  rw [get_flatK _ _ _ _ hj]
  have hd : j / 3 < d.size := by omega
  have hs : d.toList[j / 3]? = some d[j / 3]! := by rw [Array.getElem?_toList, getElem!_pos d _ hd, Array.getElem?_eq_getElem hd]
  obtain ⟨a0, a1, a2⟩ := spCells_at _ hs
  have h3 : j % 3 = 0 ∨ j % 3 = 1 ∨ j % 3 = 2 := by omega
  have e : j = j / 3 * 3 + j % 3 := by omega
  rcases h3 with h | h | h
  · have : (spCells d.toList)[j]? = some (.int .i64 (d[j / 3]!).1) := by rw [← a0]; congr 1; omega
    rw [h, List.getElem!_eq_getElem?_getD (l := spCells d.toList), this]; rfl
  · have : (spCells d.toList)[j]? = some (.int .i64 (d[j / 3]!).2.1) := by rw [← a1]; congr 1; omega
    rw [h, List.getElem!_eq_getElem?_getD (l := spCells d.toList), this]; rfl
  · have : (spCells d.toList)[j]? = some (.int .i64 (d[j / 3]!).2.2) := by rw [← a2]; congr 1; omega
    rw [h, List.getElem!_eq_getElem?_getD (l := spCells d.toList), this]; rfl
theorem holds_of_own {w : World} {base n c g : Nat} {l : List Sp} (h : Own w base 74 3 (some ⟨g, 0, none⟩) n c (spCells l)) : HoldsK spCell 3 w g 0 l.toArray := by
  intro j hj
  rw [size_flatK] at hj
  have hj' : j < (spCells l).length := by rw [len_spCells]; simpa using hj
  have hu : (spCells l)[j]? = some (spCells l)[j] := List.getElem?_eq_getElem hj'
  have h1 := World.ownsRow.cells h (g := g) rfl j _ hu
  have e0 : (⟨g, 0, none⟩ : Addr).add j = ⟨g, j, none⟩ := by unfold Addr.add; split <;> simp_all
  rw [e0] at h1
  have h2 := h.frozen rfl j
  rw [e0] at h2
  rw [Nat.zero_add, flat_sp _ j (by simpa using hj)]
  refine ⟨by rw [h1]; simp [List.getElem!_eq_getElem?_getD, hu], h2⟩
/-- an own row stays one when its cells are laid anew -/
theorem own_sort {w : World} {base n c g m : Nat} {l l' : List Sp} (os : Array Obj) (h : Own w base 74 3 (some ⟨g, 0, none⟩) n c (spCells l)) (hl : l'.length = l.length) (_hb : base ≤ w.heap.size) :
    Own (sortWorldK spCell 3 w g 0 m l'.toArray os) base 74 3 (some ⟨g, 0, none⟩) n c (spCells l') ∧ Keep (InRow (some ⟨g, 0, none⟩)) w (sortWorldK spCell 3 w g 0 m l'.toArray os) := by
  have hlen := h.len
  rw [len_spCells] at hlen
  obtain ⟨g', cur, hA, hbg, hB, hnc, hcm, hcs, hct⟩ : ∃ g' cur, (some ⟨g, 0, none⟩ : Option Addr) = some ⟨g', 0, none⟩ ∧ base ≤ g' ∧ Blk w g' 74 cur ∧ n ≤ c ∧ c ≤ maxLen ∧ cur.size = c * 3 ∧ cur.toList.take (n * 3) = spCells l := by
    rcases h.form with ⟨h1, _⟩ | h1
    · cases h1
    · exact h1
  injection hA with hA
  injection hA with hA
  subst hA
  have hglt := hB.lt
  obtain ⟨F, hF⟩ : ∃ F, flatK spCell 3 l'.toArray = F := ⟨_, rfl⟩
  have hFs : F.size = n * 3 := by rw [← hF, size_flatK]; simp; omega
  have hFat : ∀ j, j < n * 3 → F[j]! = (spCells l')[j]! := fun j hj => by
    have := flat_sp l'.toArray j (by simp; omega)
    rwa [hF] at this
  have hheap : (sortWorldK spCell 3 w g 0 m l'.toArray os).heap = w.heap.modify g (onCells (putCells id 0 F)) ++ os := by
    unfold sortWorldK grow putRowK putRow mapBlock
    rw [hF]
    rfl
  have hat : (sortWorldK spCell 3 w g 0 m l'.toArray os).heap[g]? = some (.cells (putCells id 0 F cur) 74 (0, 0)) := by
    unfold Blk at hB
    rw [hheap, Array.getElem?_append_left (by simpa using hglt), Array.getElem?_modify, if_pos rfl, hB]
    rfl
  have hother : ∀ k, k < w.heap.size → k ≠ g → (sortWorldK spCell 3 w g 0 m l'.toArray os).heap[k]? = w.heap[k]? := fun k hk hne => by
    rw [hheap, Array.getElem?_append_left (by simpa using hk), Array.getElem?_modify, if_neg (by omega)]
  refine ⟨⟨by rw [len_spCells]; omega, .inr ⟨g, c, putCells id 0 F cur, rfl, hbg, hat, hnc, hcm, by simp [putCells, hcs], ?_⟩⟩, ⟨rfl, rfl, rfl, by rw [hheap]; simp, fun k hk hn => hother k hk (fun e => hn ⟨_, rfl, e.symm⟩)⟩⟩
  have hcl : n * 3 ≤ cur.size := by rw [hcs]; omega
  refine List.ext_getElem? fun j => ?_
  rw [List.getElem?_take]
  by_cases hj : j < n * 3
  · rw [if_pos hj, Array.getElem?_toList]
    have h1 : (spCells l')[j]? = some (spCells l')[j]! := by
      rw [getElem!_pos _ _ (by rw [len_spCells]; omega), List.getElem?_eq_getElem]
    rw [h1, ← hFat j hj]
    unfold putCells
    rw [Array.getElem?_mapIdx, Array.getElem?_eq_getElem (by omega)]
    simp only [Option.map_some]
    rw [if_pos (by omega)]
    rfl
  · rw [if_neg hj, List.getElem?_eq_none (by rw [len_spCells]; omega)]

end Go.Proofs.YtpahfobijmmmmaaGreat
