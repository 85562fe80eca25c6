/- Chapter 13: slices.SortFunc at steps, with the comparison of After. -/
import Derived.Test.YtpahfobijmmmmaaGreatBdMapA
import Derived.Test.YtpahfobijmmmmaaGreatLayStep
import Derived.Test.YtpahfobijmmmmaaGreatSpnG
namespace Go.Proofs.YtpahfobijmmmmaaGreat
open Go.RowKit Go.Sort Go.Shelf

/-- how After compares -/
def cmpT (x y : Stp) : Int := if cmpI x.1 y.1 ≠ 0 then cmpI x.1 y.1 else cmpI (inE x).2 (inE y).2
theorem cmpT_neg {x y : Stp} : cmpT x y < 0 ↔ ltT x y := by
  obtain ⟨a, r⟩ := x
  obtain ⟨b, q⟩ := y
  unfold cmpT ltT inE
  split
  · rename_i h; rw [cmpI_neg]; rw [Ne, cmpI_zero] at h; simp only at h ⊢; omega
  · rename_i h; rw [cmpI_neg]; rw [Ne, cmpI_zero] at h; simp only at h ⊢
    cases r <;> cases q <;> simp <;> omega
theorem lt_cmpT (x y : Stp) : ltOf cmpT x y = true ↔ ltT x y := by unfold ltOf; rw [decide_eq_true_eq, cmpT_neg]
theorem swo_cmpT : SWO (ltOf cmpT) where
  irrefl x := by rw [← not_true_iff, lt_cmpT]; exact ltT_irrefl x
  trans x y z h1 h2 := by rw [lt_cmpT] at *; exact ltT_trans h1 h2
  ntrans x y z h1 h2 := by
    rw [← not_true_iff, lt_cmpT] at *
    obtain ⟨a, r⟩ := x
    obtain ⟨b, q⟩ := y
    obtain ⟨c, p⟩ := z
    unfold ltT at *
    simp only at *
    cases r <;> cases q <;> cases p <;> simp at * <;> omega
/-- w' is w with more blocks behind it -/
structure GrS (w w' : World) : Prop where
  ex : ∃ q os, w' = grow (w.drewN q) os
theorem GrS.drew (w : World) : GrS w w.drew := ⟨1, #[], by simp [grow]; rfl⟩
theorem GrS.alloc (w : World) (o : Obj) : GrS w (w.alloc o) := ⟨0, #[o], by rw [alloc_eq_grow]; rfl⟩
theorem GrS.trans {a b c : World} (h1 : GrS a b) (h2 : GrS b c) : GrS a c := by
  obtain ⟨q, os, rfl⟩ := h1.ex
  obtain ⟨p, ot, rfl⟩ := h2.ex
  refine ⟨q + p, os ++ ot, ?_⟩
  simp [grow, World.drewN, Nat.add_assoc]
theorem GrS.keep {a b : World} (h : GrS a b) : Keep Never a b := by
  obtain ⟨q, os, rfl⟩ := h.ex
  refine ⟨rfl, rfl, rfl, by simp [grow], fun k hk _ => ?_⟩
  simp only [grow, World.heap_drewN]
  exact Array.getElem?_append_left hk
theorem grs4_next {W0 w w' : World} {a b c d : Addr} {ua ub uc ud : Value} (H : GrS W0 w ∧ w.cell? a = some ua ∧ w.cell? b = some ub ∧ w.cell? c = some uc ∧ w.cell? d = some ud) (hk : GrS w w') :
    GrS W0 w' ∧ w'.cell? a = some ua ∧ w'.cell? b = some ub ∧ w'.cell? c = some uc ∧ w'.cell? d = some ud :=
  ⟨H.1.trans hk, keepT hk.keep H.2.1, keepT hk.keep H.2.2.1, keepT hk.keep H.2.2.2.1, keepT hk.keep H.2.2.2.2⟩
set_option maxHeartbeats 1000000 in
set_option maxRecDepth 100000 in
/-- enters, with the world that it leaves -/
theorem enters_grow (s : Stp) (w : World) : Calls Tryz.prog 119 #[.agg #[.int .i64 s.1, .bool s.2]] w fun e w' => e = .returned (.agg #[.int .i64 (inE s).1, .int .i64 (inE s).2]) ∧ GrS w w' := by
  obtain ⟨a, b⟩ := s
  simp only
  cases b
  all_goals
    go_enter Tryz.func119, Tryz.ntmps119
    go_wp2_with fail
    refine bodyPost_ret (end_results rfl (Blk.new _ _ _) _ (by simp)) rfl ⟨rfl, ?_⟩
    exact (GrS.alloc _ _).trans (GrS.alloc _ _)

/-- the cells of a row of steps, for the sort -/
theorem flat_stp (d : Array Stp) : ∀ j, j < d.size * 2 → (flatK stpCell 2 d)[j]! = (stpCells d.toList)[j]! := by
  intro j hj
  rw [get_flatK _ _ _ _ hj]
  have hd : j / 2 < d.size := by omega
  have hs : d.toList[j / 2]? = some d[j / 2]! := by rw [Array.getElem?_toList, getElem!_pos d _ hd, Array.getElem?_eq_getElem hd]
  obtain ⟨a0, a1⟩ := stpCells_at _ hs
  have h3 : j % 2 = 0 ∨ j % 2 = 1 := by omega
  have e : j = j / 2 * 2 + j % 2 := by omega
  rcases h3 with h | h
  · have : (stpCells d.toList)[j]? = some (.int .i64 (d[j / 2]!).1) := by rw [← a0]; congr 1; omega
    rw [h, List.getElem!_eq_getElem?_getD (l := stpCells d.toList), this]; rfl
  · have : (stpCells d.toList)[j]? = some (.bool (d[j / 2]!).2) := by rw [← a1]; congr 1; omega
    rw [h, List.getElem!_eq_getElem?_getD (l := stpCells d.toList), this]; rfl
theorem holds_of_ownT {w : World} {base n c g : Nat} {l : List Stp} (h : Own w base 106 2 (some ⟨g, 0, none⟩) n c (stpCells l)) : HoldsK stpCell 2 w g 0 l.toArray := by
  intro j hj
  rw [size_flatK] at hj
  have hj' : j < (stpCells l).length := by rw [len_stpCells]; simpa using hj
  have hu : (stpCells l)[j]? = some (stpCells l)[j] := List.getElem?_eq_getElem hj'
  have h1 := World.ownsRow.cells h (g := g) rfl j _ hu
  have e0 : (⟨g, 0, none⟩ : Addr).add j = ⟨g, j, none⟩ := by unfold Addr.add; split <;> simp_all
  rw [e0] at h1
  have h2 := h.frozen rfl j
  rw [e0] at h2
  rw [Nat.zero_add, flat_stp _ j (by simpa using hj)]
  refine ⟨by rw [h1]; simp [List.getElem!_eq_getElem?_getD, hu], h2⟩
theorem own_sortT {w : World} {base n c g m : Nat} {l l' : List Stp} (os : Array Obj) (h : Own w base 106 2 (some ⟨g, 0, none⟩) n c (stpCells l)) (hl : l'.length = l.length) (_hb : base ≤ w.heap.size) :
    Own (sortWorldK stpCell 2 w g 0 m l'.toArray os) base 106 2 (some ⟨g, 0, none⟩) n c (stpCells l') ∧ Keep (InRow (some ⟨g, 0, none⟩)) w (sortWorldK stpCell 2 w g 0 m l'.toArray os) := by
  have hlen := h.len
  rw [len_stpCells] at hlen
  obtain ⟨g', cur, hA, hbg, hB, hnc, hcm, hcs, hct⟩ : ∃ g' cur, (some ⟨g, 0, none⟩ : Option Addr) = some ⟨g', 0, none⟩ ∧ base ≤ g' ∧ Blk w g' 106 cur ∧ n ≤ c ∧ c ≤ maxLen ∧ cur.size = c * 2 ∧ cur.toList.take (n * 2) = stpCells l := by
    rcases h.form with ⟨h1, _⟩ | h1
    · cases h1
    · exact h1
  injection hA with hA
  injection hA with hA
  subst hA
  have hglt := hB.lt
  obtain ⟨F, hF⟩ : ∃ F, flatK stpCell 2 l'.toArray = F := ⟨_, rfl⟩
  have hFs : F.size = n * 2 := by rw [← hF, size_flatK]; simp; omega
  have hFat : ∀ j, j < n * 2 → F[j]! = (stpCells l')[j]! := fun j hj => by
    have := flat_stp l'.toArray j (by simp; omega)
    rwa [hF] at this
  have hheap : (sortWorldK stpCell 2 w g 0 m l'.toArray os).heap = w.heap.modify g (onCells (putCells id 0 F)) ++ os := by
    unfold sortWorldK grow putRowK putRow mapBlock
    rw [hF]
    rfl
  have hat : (sortWorldK stpCell 2 w g 0 m l'.toArray os).heap[g]? = some (.cells (putCells id 0 F cur) 106 (0, 0)) := by
    unfold Blk at hB
    rw [hheap, Array.getElem?_append_left (by simpa using hglt), Array.getElem?_modify, if_pos rfl, hB]
    rfl
  have hother : ∀ k, k < w.heap.size → k ≠ g → (sortWorldK stpCell 2 w g 0 m l'.toArray os).heap[k]? = w.heap[k]? := fun k hk hne => by
    rw [hheap, Array.getElem?_append_left (by simpa using hk), Array.getElem?_modify, if_neg (by omega)]
  refine ⟨⟨by rw [len_stpCells]; omega, .inr ⟨g, c, putCells id 0 F cur, rfl, hbg, hat, hnc, hcm, by simp [putCells, hcs], ?_⟩⟩, ⟨rfl, rfl, rfl, by rw [hheap]; simp, fun k hk hn => hother k hk (fun e => hn ⟨_, rfl, e.symm⟩)⟩⟩
  have hcl : n * 2 ≤ cur.size := by rw [hcs]; omega
  refine List.ext_getElem? fun j => ?_
  rw [List.getElem?_take]
  by_cases hj : j < n * 2
  · rw [if_pos hj, Array.getElem?_toList]
    have h1 : (stpCells l')[j]? = some (stpCells l')[j]! := by
      rw [getElem!_pos _ _ (by rw [len_stpCells]; omega), List.getElem?_eq_getElem]
    rw [h1, ← hFat j hj]
    unfold putCells
    rw [Array.getElem?_mapIdx, Array.getElem?_eq_getElem (by omega)]
    simp only [Option.map_some]
    rw [if_pos (by omega)]
    rfl
  · rw [if_neg hj, List.getElem?_eq_none (by rw [len_stpCells]; omega)]

set_option maxHeartbeats 1000000 in
set_option maxRecDepth 100000 in
theorem run_field_end (w : World) (a b : Int) : (Instr.field 91 (.agg #[.int .i64 a, .int .i64 b]) 1).run Tryz.prog w = .ok (.int .i64 b) w := by
  simp [Instr.field, go_sem, part, asAgg]
end Go.Proofs.YtpahfobijmmmmaaGreat
