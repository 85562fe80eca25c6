/- Chapter 13: slices.SortFunc at steps, with the comparison of After. -/
import Derived.Test.YtijdkjcjhfebfaaBdMapA
import Derived.Test.YtijdkjcjhfebfaaLayStep
import Derived.Test.YtijdkjcjhfebfaaSpnG
namespace Go.Proofs.Ytijdkjcjhfebfaa
open Go.RowKit Go.Sort Go.Shelf

/-- how After compares -/
def cmpT (x y : Stp) : Int := if cmpI x.1 y.1 ≠ 0 then cmpI x.1 y.1 else cmpI (inE x).2 (inE y).2
theorem cmpT_neg {x y : Stp} : cmpT x y < 0 ↔ ltT x y := by
  obtain ⟨a, r⟩ := x
  obtain ⟨b, q⟩ := y
  unfold cmpT ltT inE
  split
  · rename_i h; rw [cmpI_neg]; rw [Ne, cmpI_zero] at h; simp only at h ⊢; omega
  · rename_i h; rw [cmpI_neg]; rw [Ne, cmpI_zero] at h; simp only at h ⊢
    cases r <;> cases q <;> simp <;> omega
theorem lt_cmpT (x y : Stp) : ltOf cmpT x y = true ↔ ltT x y := by unfold ltOf; rw [decide_eq_true_eq, cmpT_neg]
theorem swo_cmpT : SWO (ltOf cmpT) where
  irrefl x := by rw [← not_true_iff, lt_cmpT]; exact ltT_irrefl x
  trans x y z h1 h2 := by rw [lt_cmpT] at *; exact ltT_trans h1 h2
  ntrans x y z h1 h2 := by
    rw [← not_true_iff, lt_cmpT] at *
    obtain ⟨a, r⟩ := x
    obtain ⟨b, q⟩ := y
    obtain ⟨c, p⟩ := z
    unfold ltT at *
    simp only at *
    cases r <;> cases q <;> cases p <;> simp at * <;> omega
/-- w' is w with more blocks behind it -/
structure GrS (w w' : World) : Prop where
  ex : ∃ q os, w' = grow (w.drewN q) os
theorem GrS.drew (w : World) : GrS w w.drew := ⟨1, #[], by simp [grow]; rfl⟩
theorem GrS.alloc (w : World) (o : Obj) : GrS w (w.alloc o) := ⟨0, #[o], by rw [alloc_eq_grow]; rfl⟩
theorem GrS.trans {a b c : World} (h1 : GrS a b) (h2 : GrS b c) : GrS a c := by
  obtain ⟨q, os, rfl⟩ := h1.ex
  obtain ⟨p, ot, rfl⟩ := h2.ex
  refine ⟨q + p, os ++ ot, ?_⟩
  simp [grow, World.drewN, Nat.add_assoc]
theorem GrS.keep {a b : World} (h : GrS a b) : Keep Never a b := by
  obtain ⟨q, os, rfl⟩ := h.ex
  refine ⟨rfl, rfl, rfl, by simp [grow], fun k hk _ => ?_⟩
  simp only [grow, World.heap_drewN]
  exact Array.getElem?_append_left hk
theorem grs4_next {W0 w w' : World} {a b c d : Addr} {ua ub uc ud : Value} (H : GrS W0 w ∧ w.cell? a = some ua ∧ w.cell? b = some ub ∧ w.cell? c = some uc ∧ w.cell? d = some ud) (hk : GrS w w') :
    GrS W0 w' ∧ w'.cell? a = some ua ∧ w'.cell? b = some ub ∧ w'.cell? c = some uc ∧ w'.cell? d = some ud :=
  ⟨H.1.trans hk, keepT hk.keep H.2.1, keepT hk.keep H.2.2.1, keepT hk.keep H.2.2.2.1, keepT hk.keep H.2.2.2.2⟩
set_option maxHeartbeats 1000000 in
set_option maxRecDepth 100000 in
/-- enters, with the world that it leaves -/
theorem enters_grow (s : Stp) (w : World) : Calls Try.prog 70 #[.agg #[.int .i64 s.1, .bool s.2]] w fun e w' => e = .returned (.agg #[.int .i64 (inE s).1, .int .i64 (inE s).2]) ∧ GrS w w' := by
  obtain ⟨a, b⟩ := s
  simp only
  cases b
  all_goals
    go_enter Try.func70, Try.ntmps70
    go_wp2_with fail
    refine bodyPost_ret (end_results rfl (Blk.new _ _ _) _ (by simp)) rfl ⟨rfl, ?_⟩
    exact (GrS.alloc _ _).trans (GrS.alloc _ _)

/-- the cells of a row of steps, for the sort -/
theorem flat_stp (d : Array Stp) : ∀ j, j < d.size * 2 → (flatK stpCell 2 d)[j]! = (stpCells d.toList)[j]! := by
  intro j hj
  rw [get_flatK _ _ _ _ hj]
  have hd : j / 2 < d.size := by omega
  have hs : d.toList[j / 2]? = some d[j / 2]! := by rw [Array.getElem?_toList, getElem!_pos d _ hd, Array.getElem?_eq_getElem hd]
  obtain ⟨a0, a1⟩ := stpCells_at _ hs
  have h3 : j % 2 = 0 ∨ j % 2 = 1 := by omega
  have e : j = j / 2 * 2 + j % 2 := by omega
  rcases h3 with h | h
  · have : (stpCells d.toList)[j]? = some (.int .i64 (d[j / 2]!).1) := by rw [← a0]; congr 1; omega
    rw [h, List.getElem!_eq_getElem?_getD (l := stpCells d.toList), this]; rfl
  · have : (stpCells d.toList)[j]? = some (.bool (d[j / 2]!).2) := by rw [← a1]; congr 1; omega
    rw [h, List.getElem!_eq_getElem?_getD (l := stpCells d.toList), this]; rfl
theorem holds_of_ownT {w : World} {base n c g : Nat} {l : List Stp} (h : Own w base 45 2 (some ⟨g, 0, none⟩) n c (stpCells l)) : HoldsK stpCell 2 w g 0 l.toArray := by
  intro j hj
  rw [size_flatK] at hj
  have hj' : j < (stpCells l).length := by rw [len_stpCells]; simpa using hj
  have hu : (stpCells l)[j]? = some (stpCells l)[j] := List.getElem?_eq_getElem hj'
  have h1 := World.ownsRow.cells h (g := g) rfl j _ hu
  have e0 : (⟨g, 0, none⟩ : Addr).add j = ⟨g, j, none⟩ := by unfold Addr.add; split <;> simp_all
  rw [e0] at h1
  have h2 := h.frozen rfl j
  rw [e0] at h2
  rw [Nat.zero_add, flat_stp _ j (by simpa using hj)]
  refine ⟨by rw [h1]; simp [List.getElem!_eq_getElem?_getD, hu], h2⟩
theorem own_sortT {w : World} {base n c g m : Nat} {l l' : List Stp} (os : Array Obj) (h : Own w base 45 2 (some ⟨g, 0, none⟩) n c (stpCells l)) (hl : l'.length = l.length) (_hb : base ≤ w.heap.size) :
    Own (sortWorldK stpCell 2 w g 0 m l'.toArray os) base 45 2 (some ⟨g, 0, none⟩) n c (stpCells l') ∧ Keep (InRow (some ⟨g, 0, none⟩)) w (sortWorldK stpCell 2 w g 0 m l'.toArray os) := by
  have hlen := h.len
  rw [len_stpCells] at hlen
  obtain ⟨g', cur, hA, hbg, hB, hnc, hcm, hcs, hct⟩ : ∃ g' cur, (some ⟨g, 0, none⟩ : Option Addr) = some ⟨g', 0, none⟩ ∧ base ≤ g' ∧ Blk w g' 45 cur ∧ n ≤ c ∧ c ≤ maxLen ∧ cur.size = c * 2 ∧ cur.toList.take (n * 2) = stpCells l := by
    rcases h.form with ⟨h1, _⟩ | h1
    · cases h1
    · exact h1
  injection hA with hA
  injection hA with hA
  subst hA
  have hglt := hB.lt
  obtain ⟨F, hF⟩ : ∃ F, flatK stpCell 2 l'.toArray = F := ⟨_, rfl⟩
  have hFs : F.size = n * 2 := by rw [← hF, size_flatK]; simp; omega
  have hFat : ∀ j, j < n * 2 → F[j]! = (stpCells l')[j]! := fun j hj => by
    have := flat_stp l'.toArray j (by simp; omega)
    rwa [hF] at this
  have hheap : (sortWorldK stpCell 2 w g 0 m l'.toArray os).heap = w.heap.modify g (onCells (putCells id 0 F)) ++ os := by
    unfold sortWorldK grow putRowK putRow mapBlock
    rw [hF]
    rfl
  have hat : (sortWorldK stpCell 2 w g 0 m l'.toArray os).heap[g]? = some (.cells (putCells id 0 F cur) 45 (0, 0)) := by
    unfold Blk at hB
    rw [hheap, Array.getElem?_append_left (by simpa using hglt), Array.getElem?_modify, if_pos rfl, hB]
    rfl
  have hother : ∀ k, k < w.heap.size → k ≠ g → (sortWorldK stpCell 2 w g 0 m l'.toArray os).heap[k]? = w.heap[k]? := fun k hk hne => by
    rw [hheap, Array.getElem?_append_left (by simpa using hk), Array.getElem?_modify, if_neg (by omega)]
  refine ⟨⟨by rw [len_stpCells]; omega, .inr ⟨g, c, putCells id 0 F cur, rfl, hbg, hat, hnc, hcm, by simp [putCells, hcs], ?_⟩⟩, ⟨rfl, rfl, rfl, by rw [hheap]; simp, fun k hk hn => hother k hk (fun e => hn ⟨_, rfl, e.symm⟩)⟩⟩
  have hcl : n * 2 ≤ cur.size := by rw [hcs]; omega
  refine List.ext_getElem? fun j => ?_
  rw [List.getElem?_take]
  by_cases hj : j < n * 2
  · rw [if_pos hj, Array.getElem?_toList]
    have h1 : (stpCells l')[j]? = some (stpCells l')[j]! := by
      rw [getElem!_pos _ _ (by rw [len_stpCells]; omega), List.getElem?_eq_getElem]
    rw [h1, ← hFat j hj]
    unfold putCells
    rw [Array.getElem?_mapIdx, Array.getElem?_eq_getElem (by omega)]
    simp only [Option.map_some]
    rw [if_pos (by omega)]
    rfl
  · rw [if_neg hj, List.getElem?_eq_none (by rw [len_stpCells]; omega)]

set_option maxHeartbeats 1000000 in
set_option maxRecDepth 100000 in
theorem run_field_end (w : World) (a b : Int) : (Instr.field 102 (.agg #[.int .i64 a, .int .i64 b]) 1).run Try.prog w = .ok (.int .i64 b) w := by
  simp [Instr.field, go_sem, part, asAgg]
set_option maxHeartbeats 1000000 in
set_option maxRecDepth 100000 in
theorem aft1_any (x y : Stp) (w : World) : Calls Try.prog 67 #[.agg #[.int .i64 x.1, .bool x.2], .agg #[.int .i64 y.1, .bool y.2]] w fun e w' => e = .returned (.int .i64 (cmpT x y)) ∧ GrS w w' := by
  have HC : Hid (∀ a b W, Calls Try.prog 69 #[.int .i64 a, .int .i64 b] W fun e w' => e = .returned (.int .i64 (cmpI a b)) ∧ W = w') := Lib.hid compare_any
  have qf : ∀ (w : World) (a b : Int), (Instr.field 102 (.agg #[.int .i64 a, .int .i64 b]) 1).run Try.prog w = .ok (.int .i64 b) w := run_field_end
  have HR : Hid (cmpT x y = orI (cmpI x.1 y.1) (cmpI (inE x).2 (inE y).2)) := Lib.hid rfl
  have HX : Hid (∀ (a : Int) (b : Bool) W, Calls Try.prog 70 #[.agg #[.int .i64 a, .bool b]] W fun e w' => e = .returned (.agg #[.int .i64 (inE (a, b)).1, .int .i64 (inE (a, b)).2]) ∧ GrS W w') := Lib.hid (fun a b W => enters_grow (a, b) W)
  obtain ⟨x1, x2⟩ := x
  obtain ⟨y1, y2⟩ := y
  simp only at HR ⊢
  obtain ⟨w1, hw1⟩ : ∃ W : World, w.alloc (.cells #[.int .i64 x1, .bool x2] 45) = W := ⟨_, rfl⟩
  obtain ⟨w2, hw2⟩ : ∃ W : World, w1.alloc (.cells #[.int .i64 y1, .bool y2] 45) = W := ⟨_, rfl⟩
  have s1 : w1.heap.size = w.heap.size + 1 := by rw [← hw1]; simp
  have g1 : GrS w w1 := by rw [← hw1]; exact GrS.alloc _ _
  have g2 : GrS w1 w2 := by rw [← hw2]; exact GrS.alloc _ _
  have hx := Blk.new w 45 #[.int .i64 x1, .bool x2]
  rw [hw1] at hx
  have hy := Blk.new w1 45 #[.int .i64 y1, .bool y2]
  rw [hw2, s1] at hy
  have hx2 := hx.keep g2.keep (fun h => h)
  have q0 : w2.cell? ⟨w.heap.size, 0, none⟩ = some (.int .i64 x1) := hx2.cell 0
  have q1 : w2.cell? ⟨w.heap.size, 1, none⟩ = some (.bool x2) := hx2.cell 1
  have r0 : w2.cell? ⟨w.heap.size + 1, 0, none⟩ = some (.int .i64 y1) := hy.cell 0
  have r1 : w2.cell? ⟨w.heap.size + 1, 1, none⟩ = some (.bool y2) := hy.cell 1
  have HG := Lib.hid (g1.trans g2)
  clear hx hy hx2 g1 g2
  go_enter Try.func67, Try.ntmps67
  go_wp2_with fail
  go_region_held3 (fun w' => GrS w2 w' ∧ w'.cell? ⟨w.heap.size, 0, none⟩ = some (.int .i64 x1) ∧ w'.cell? ⟨w.heap.size, 1, none⟩ = some (.bool x2) ∧ w'.cell? ⟨w.heap.size + 1, 0, none⟩ = some (.int .i64 y1) ∧ w'.cell? ⟨w.heap.size + 1, 1, none⟩ = some (.bool y2))
    (first | assumption | exact ⟨GrS.drew _, q0, q1, r0, r1⟩ | exact grs4_next (by assumption) hk' | exact grs4_next (by assumption) (GrS.alloc _ _) | exact grs4_next (by assumption) (GrS.drew _))
    (first
      | (go_at_call 69; refine (HC.out _ _ _).mono ?_; rintro e w' ⟨rfl, rfl⟩)
      | (go_at_call 70; refine (HX.out _ _ _).mono ?_; rintro e w' ⟨rfl, hk'⟩)
      | (go_at_call 68; refine (or_any _ _ (cmpI x1 y1) (cmpI (inE (x1, x2)).2 (inE (y1, y2)).2) _ (Blk.new _ _ _)).mono ?_; rintro e w6 ⟨rfl, rfl⟩))
  rename_i hS
  have HS := Lib.hid (And.left hS)
  clear hS q0 q1 r0 r1
  go_wp2_with fail
  go_ret
  exact ⟨by rw [HR.out]; rfl, HG.out.trans HS.out⟩
theorem cmpLays_stp (blk off size : Nat) (w : World) : Go.Proofs.CmpLays Try.prog 67 #[] stpCell 2 cmpT blk off size w :=
  fun _ _ _ _ x y => (aft1_any x y _).mono fun _ _ h => ⟨h.1, h.2.ex⟩

theorem sortT0_insert (w : World) : Calls Try.prog 115 #[.slice none 0 0, .int .i64 0, .int .i64 0, .func (.func 67) #[] #[]] w fun e w' => e = .returned (.tuple #[]) ∧ w' = w := by
  go_enter Try.func115, Try.ntmps115
  go_wp2
  refine wp_loop_rounds 1 ?_
  rw [rounds_succ]
  go_wp2
  go_end0
  exact ⟨rfl, rfl⟩
theorem sortT0_pdq (lim : Int) (w : World) : Calls Try.prog 98 #[.slice none 0 0, .int .i64 0, .int .i64 0, .int .i64 lim, .func (.func 67) #[] #[]] w fun e w' => e = .returned (.tuple #[]) ∧ w' = w := by
  have hi := sortT0_insert
  go_enter Try.func98, Try.ntmps98
  go_wp2
  refine wp_loop_rounds 1 ?_
  rw [rounds_succ]
  go_wp2_with (go_at_call 115; refine (hi _).mono ?_; rintro e w' ⟨rfl, rfl⟩)
  (try simp only [Exit.inBlock, Exit.then])
  refine bodyPost_ret (results_none rfl _ _ _) rfl ?_
  exact ⟨rfl, rfl⟩
theorem sortT0_any (w : World) : Calls Try.prog 66 #[.slice none 0 0, .func (.func 67) #[] #[]] w fun e w' => e = .returned (.tuple #[]) ∧ w' = w := by
  have hp := sortT0_pdq
  have hl : ∀ W, Calls Try.prog 99 #[.int .u64 0] W fun e w' => e = .returned (.int .i64 (Lib.bitLen 0 : Nat)) ∧ w' = W := fun W =>
    Any.bits_Len (SlLaysF0.n15.bits (P := Try.prog) (ρ := sortSt_ren) { sortSt with }) 0 W (by omega) (by omega)
  go_enter Try.func66, Try.ntmps66
  go_wp2_with (first | (go_at_call 99; refine (hl _).mono ?_; rintro e w' ⟨rfl, rfl⟩) | (go_at_call 98; refine (hp _ _).mono ?_; rintro e w' ⟨rfl, rfl⟩))
  go_end0
  exact ⟨rfl, rfl⟩
/-- SortFunc with the comparison of Norm -/
theorem sortfT_any (base : Nat) (A : Option Addr) (n c : Nat) (l : List Stp) (w : World) (ho : Own w base 45 2 A n c (stpCells l)) (hb : base ≤ w.heap.size) (hn : n ≤ 100000000000) :
    Calls Try.prog 66 #[.slice A n c, .func (.func 67) #[] #[]] w fun e w' => e = .returned (.tuple #[]) ∧ ∃ l' : List Stp, l'.Perm l ∧ l'.Pairwise (fun a b => ¬ ltT b a) ∧ Own w' base 45 2 A n c (stpCells l') ∧ Keep (InRow A) w w' := by
  have hlen : l.length = n := ho.rd.stp_len
  rcases ho.form with ⟨rfl, rfl, rfl, _⟩ | ⟨g, cur, rfl, hbg, hB, _⟩
  · obtain rfl := List.eq_nil_of_length_eq_zero hlen
    refine (sortT0_any w).mono ?_
    rintro e w' ⟨rfl, rfl⟩
    exact ⟨rfl, [], List.Perm.refl _, List.Pairwise.nil, ho, Keep.refl _ _⟩
  · have hcon := AnyQ.slices_SortFunc (P := Try.prog) (ρ := sortSt_ren) sortSt 2 Try.isAgg45 Try.sizeOf45 stpCell (fun _ => rfl) (fun x v hv => by simp [stpCell] at hv; rcases hv with rfl | rfl <;> rfl) cmpT swo_cmpT 67 #[] g 0 c l.toArray w (enters_of Try.func67 (by kernel_rfl) rfl) (cmpLays_stp g 0 _ w) (holds_of_ownT ho) hB.lt (by simp; omega)
    have e1 : l.toArray.size = n := by simpa using hlen
    rw [e1] at hcon
    refine Calls.mono (show Calls Try.prog 66 _ _ _ from hcon) ?_
    rintro e w' ⟨rfl, d', m, os, hp, hs, rfl⟩
    have hsz : d'.size = n := hp.1.trans e1
    have hperm : d'.toList.Perm l := by
      have h := hp.2.2
      rw [Array.extract_eq_self_of_le (by omega), Array.extract_eq_self_of_le (by omega)] at h
      simpa using h
    obtain ⟨h1, h2⟩ := own_sortT (m := m) (l' := d'.toList) os ho (by simpa [hlen] using hsz) hb
    simp only [Array.toArray_toList] at h1 h2
    refine ⟨rfl, d'.toList, hperm, ?_, h1, h2⟩
    rw [List.pairwise_iff_getElem]
    intro i j hi hj hij
    have h3 := hs i j (Nat.zero_le _) hij (by simpa [hsz] using hj)
    have hi' : i < d'.size := by simpa using hi
    have hj' : j < d'.size := by simpa using hj
    rw [getElem!_pos d' i hi', getElem!_pos d' j hj', ← not_true_iff, lt_cmpT] at h3
    simp only [Array.getElem_toList]
    exact h3

end Go.Proofs.Ytijdkjcjhfebfaa
