/- Chapter 6: the table of messages; of, Known, Up, head, values. -/
import Derived.Test.YtiebjnibmomcjaaDoorRep
import Derived.Test.YtiebjnibmomcjaaDoorBitsM
namespace Go.Proofs.YtiebjnibmomcjaaDoor
open Go.RowKit

/-- a message's own variables, the packet that it must have, those that it may have -/
def formM (id : Int) : Option (List Int × Int × List Int) :=
  if id = 2 then some ([8, 95], -1, [])
  else if id = 3 then some ([], 15, [3, 5, 21, 27, 57, 58, 80])
  else if id = 8 then some ([2], -1, [])
  else if id = 137 then some ([2], -1, [])
  else if id = 138 then some ([2], -1, [])
  else if id = 146 then some ([2], -1, [])
  else if id = 9 then some ([], 15, [5, 80])
  else if id = 15 then some ([88, 8, 6, 89, 90], -1, [])
  else if id = 16 then some ([88], -1, [])
  else if id = 18 then some ([88], -1, [])
  else if id = 24 then some ([], -1, [3, 5, 21, 27, 42, 57, 58])
  else if id = 32 then some ([92], -1, [])
  else if id = 33 then some ([8, 89], 15, [5, 21, 27, 80])
  else if id = 34 then some ([8, 89, 6, 72, 28], -1, [])
  else if id = 38 then some ([], -1, [])
  else if id = 39 then some ([], -1, [])
  else if id = 40 then some ([], -1, [])
  else if id = 41 then some ([], -1, [])
  else if id = 43 then some ([], -1, [])
  else if id = 155 then some ([], -1, [])
  else if id = 156 then some ([], -1, [])
  else if id = 159 then some ([], -1, [])
  else if id = 129 then some ([], 0, [11])
  else if id = 130 then some ([], 0, [])
  else if id = 136 then some ([], 0, [])
  else if id = 149 then some ([], 0, [])
  else if id = 150 then some ([], 0, [])
  else if id = 132 then some ([94], 0, [])
  else if id = 147 then some ([88, 91], 0, [])
  else if id = 157 then some ([93], 0, [])
  else none
def mids : List Int := [2, 3, 8, 137, 138, 146, 9, 15, 16, 18, 24, 32, 33, 34, 38, 39, 40, 41, 43, 155, 156, 159, 129, 130, 136, 149, 150, 132, 147, 157]
theorem formM_id {id : Int} {f : List Int × Int × List Int} (h : formM id = some f) : id ∈ mids := by
  by_cases hm : id ∈ mids
  · exact hm
  · exfalso
    simp only [mids, List.mem_cons, List.not_mem_nil, or_false, not_or] at hm
    unfold formM at h
    simp [hm] at h
/-- what 'of' leaves -/
def OfRet (id : Int) (w : World) (e : Ending) (w' : World) : Prop :=
  ∃ A1 n1 c1 A2 n2 c2, e = .returned (.tuple #[.agg #[.slice A1 n1 c1, .int .i64 ((formM id).getD ([], 0, [])).2.1, .slice A2 n2 c2], .bool (formM id).isSome]) ∧ Keep Never w w' ∧
    n1 = ((formM id).getD ([], 0, [])).1.length ∧ Rd w' w'.heap.size 1 A1 n1 (((formM id).getD ([], 0, [])).1.map (.int .i64)) ∧ n1 ≤ c1 ∧
    n2 = ((formM id).getD ([], 0, [])).2.2.length ∧ Rd w' w'.heap.size 1 A2 n2 (((formM id).getD ([], 0, [])).2.2.map (.int .i64)) ∧ n2 ≤ c2 ∧ (∀ k, InRow A1 k → w.heap.size ≤ k) ∧ (∀ k, InRow A2 k → w.heap.size ≤ k)
theorem inRow_none (B : Nat) : ∀ k, InRow none k → B ≤ k := fun k h => by obtain ⟨_, h, _⟩ := h; cases h
theorem inRow_new {B g : Nat} (hg : B ≤ g) : ∀ k, InRow (some ⟨g, 0, none⟩) k → B ≤ k := fun k h => by obtain ⟨ad, h, rfl⟩ := h; injection h with h; subst h; exact hg

theorem of_results {w : World} {b : Nat} {v0 v1 v2 : Value} (hb : Blk w b 42 #[v0, v1, v2]) (tmps : Array Value) (ht : tmps.getD 2 undef = .pointer (some ⟨b, 0, none⟩)) :
    (results Tryd.f22 tmps).run Tryd.prog w = .ok (.tuple #[.agg #[v0, v1, v2], tmps.getD 3 undef]) w := by
  have q0 : w.cell? ⟨b, 0, none⟩ = some v0 := hb.cell 0
  have q1 : w.cell? ⟨b, 1, none⟩ = some v1 := hb.cell 1
  have q2 : w.cell? ⟨b, 2, none⟩ = some v2 := hb.cell 2
  have ht' : tmps[2]?.getD undef = .pointer (some ⟨b, 0, none⟩) := by rw [← Array.getD_eq_getD_getElem?]; exact ht
  simp [results, ht', go_sem, q0, q1, q2]
theorem rd_new (w : World) (l : List Int) : Rd (w.alloc (.cells (l.map (.int .i64)).toArray 3)) (w.alloc (.cells (l.map (.int .i64)).toArray 3)).heap.size 1 (some ⟨w.heap.size, 0, none⟩) l.length (l.map (.int .i64)) :=
  Rd.of_blk (Blk.new w 3 (l.map (.int .i64)).toArray) (by simp)
theorem of_fin0 {id m : Int} (h : formM id = some ([], m, [])) (w : World) : OfRet id w (.returned (.tuple #[.agg #[.slice none 0 0, .int .i64 m, .slice none 0 0], .bool true])) (w.alloc (.cells #[.slice none 0 0, .int .i64 m, .slice none 0 0] 42)) := by
  refine ⟨none, 0, 0, none, 0, 0, by rw [h]; rfl, (Keep.refl Never w).alloc _, ?_⟩
  rw [h]
  exact ⟨rfl, Rd.nil _ _ _ _, Nat.le_refl _, rfl, Rd.nil _ _ _ _, Nat.le_refl _, inRow_none _, inRow_none _⟩
theorem of_finA {id m : Int} (own : List Int) (h : formM id = some (own, m, [])) (w : World) : OfRet id w (.returned (.tuple #[.agg #[.slice (some ⟨w.heap.size + 1, 0, none⟩) own.length own.length, .int .i64 m, .slice none 0 0], .bool true]))
    ((w.alloc (.cells #[.slice (some ⟨w.heap.size + 1, 0, none⟩) own.length own.length, .int .i64 m, .slice none 0 0] 42)).alloc (.cells (own.map (.int .i64)).toArray 3)) := by
  refine ⟨_, own.length, own.length, none, 0, 0, by rw [h]; rfl, ((Keep.refl Never w).alloc _).alloc _, ?_⟩
  rw [h]
  refine ⟨rfl, ?_, Nat.le_refl _, rfl, Rd.nil _ _ _ _, Nat.le_refl _, inRow_new (by omega), inRow_none _⟩
  have := rd_new (w.alloc (.cells #[.slice (some ⟨w.heap.size + 1, 0, none⟩) own.length own.length, .int .i64 m, .slice none 0 0] 42)) own
  simpa using this
theorem of_finB {id m : Int} (may : List Int) (h : formM id = some ([], m, may)) (w : World) : OfRet id w (.returned (.tuple #[.agg #[.slice none 0 0, .int .i64 m, .slice (some ⟨w.heap.size + 1, 0, none⟩) may.length may.length], .bool true]))
    ((w.alloc (.cells #[.slice none 0 0, .int .i64 m, .slice (some ⟨w.heap.size + 1, 0, none⟩) may.length may.length] 42)).alloc (.cells (may.map (.int .i64)).toArray 3)) := by
  refine ⟨none, 0, 0, _, may.length, may.length, by rw [h]; rfl, ((Keep.refl Never w).alloc _).alloc _, ?_⟩
  rw [h]
  refine ⟨rfl, Rd.nil _ _ _ _, Nat.le_refl _, rfl, ?_, Nat.le_refl _, inRow_none _, inRow_new (by omega)⟩
  have := rd_new (w.alloc (.cells #[.slice none 0 0, .int .i64 m, .slice (some ⟨w.heap.size + 1, 0, none⟩) may.length may.length] 42)) may
  simpa using this
theorem of_finC {id m : Int} (own may : List Int) (h : formM id = some (own, m, may)) (w : World) : OfRet id w (.returned (.tuple #[.agg #[.slice (some ⟨w.heap.size + 1, 0, none⟩) own.length own.length, .int .i64 m, .slice (some ⟨w.heap.size + 1 + 1, 0, none⟩) may.length may.length], .bool true]))
    (((w.alloc (.cells #[.slice (some ⟨w.heap.size + 1, 0, none⟩) own.length own.length, .int .i64 m, .slice (some ⟨w.heap.size + 1 + 1, 0, none⟩) may.length may.length] 42)).alloc (.cells (own.map (.int .i64)).toArray 3)).alloc (.cells (may.map (.int .i64)).toArray 3)) := by
  refine ⟨_, own.length, own.length, _, may.length, may.length, by rw [h]; rfl, (((Keep.refl Never w).alloc _).alloc _).alloc _, ?_⟩
  rw [h]
  refine ⟨rfl, ?_, Nat.le_refl _, rfl, ?_, Nat.le_refl _, inRow_new (by omega), inRow_new (by omega)⟩
  · have := (rd_new (w.alloc (.cells #[.slice (some ⟨w.heap.size + 1, 0, none⟩) own.length own.length, .int .i64 m, .slice (some ⟨w.heap.size + 1 + 1, 0, none⟩) may.length may.length] 42)) own).alloc (.cells (may.map (.int .i64)).toArray 3)
    exact (by simpa using this : Rd _ (w.heap.size + 1 + 1) 1 _ _ _).more (by simp)
  · have := rd_new ((w.alloc (.cells #[.slice (some ⟨w.heap.size + 1, 0, none⟩) own.length own.length, .int .i64 m, .slice (some ⟨w.heap.size + 1 + 1, 0, none⟩) may.length may.length] 42)).alloc (.cells (own.map (.int .i64)).toArray 3)) may
    simpa using this

set_option maxHeartbeats 4000000 in
set_option maxRecDepth 100000 in
theorem of_any (id : Int) (w : World) : Calls Tryd.prog 22 #[.int .i64 id] w (OfRet id w) := by
  by_cases h : id ∈ mids
  · simp only [mids, List.mem_cons, List.not_mem_nil, or_false] at h
    rcases h with rfl | rfl | rfl | rfl | rfl | rfl | rfl | rfl | rfl | rfl | rfl | rfl | rfl | rfl | rfl | rfl | rfl | rfl | rfl | rfl | rfl | rfl | rfl | rfl | rfl | rfl | rfl | rfl | rfl | rfl
    · go_enter Tryd.func22, Tryd.ntmps22
      go_wp2
      (try simp only [Exit.inBlock, Exit.then])
      refine bodyPost_ret (of_results ((Blk.new _ _ _).alloc _) _ rfl) rfl ?_
      exact of_finA (id := 2) (m := -1) [8, 95] rfl w
    · go_enter Tryd.func22, Tryd.ntmps22
      go_wp2
      (try simp only [Exit.inBlock, Exit.then])
      refine bodyPost_ret (of_results ((Blk.new _ _ _).alloc _) _ rfl) rfl ?_
      exact of_finB (id := 3) (m := 15) [3, 5, 21, 27, 57, 58, 80] rfl w
    · go_enter Tryd.func22, Tryd.ntmps22
      go_wp2
      (try simp only [Exit.inBlock, Exit.then])
      refine bodyPost_ret (of_results ((Blk.new _ _ _).alloc _) _ rfl) rfl ?_
      exact of_finA (id := 8) (m := -1) [2] rfl w
    · go_enter Tryd.func22, Tryd.ntmps22
      go_wp2
      (try simp only [Exit.inBlock, Exit.then])
      refine bodyPost_ret (of_results ((Blk.new _ _ _).alloc _) _ rfl) rfl ?_
      exact of_finA (id := 137) (m := -1) [2] rfl w
    · go_enter Tryd.func22, Tryd.ntmps22
      go_wp2
      (try simp only [Exit.inBlock, Exit.then])
      refine bodyPost_ret (of_results ((Blk.new _ _ _).alloc _) _ rfl) rfl ?_
      exact of_finA (id := 138) (m := -1) [2] rfl w
    · go_enter Tryd.func22, Tryd.ntmps22
      go_wp2
      (try simp only [Exit.inBlock, Exit.then])
      refine bodyPost_ret (of_results ((Blk.new _ _ _).alloc _) _ rfl) rfl ?_
      exact of_finA (id := 146) (m := -1) [2] rfl w
    · go_enter Tryd.func22, Tryd.ntmps22
      go_wp2
      (try simp only [Exit.inBlock, Exit.then])
      refine bodyPost_ret (of_results ((Blk.new _ _ _).alloc _) _ rfl) rfl ?_
      exact of_finB (id := 9) (m := 15) [5, 80] rfl w
    · go_enter Tryd.func22, Tryd.ntmps22
      go_wp2
      (try simp only [Exit.inBlock, Exit.then])
      refine bodyPost_ret (of_results ((Blk.new _ _ _).alloc _) _ rfl) rfl ?_
      exact of_finA (id := 15) (m := -1) [88, 8, 6, 89, 90] rfl w
    · go_enter Tryd.func22, Tryd.ntmps22
      go_wp2
      (try simp only [Exit.inBlock, Exit.then])
      refine bodyPost_ret (of_results ((Blk.new _ _ _).alloc _) _ rfl) rfl ?_
      exact of_finA (id := 16) (m := -1) [88] rfl w
    · go_enter Tryd.func22, Tryd.ntmps22
      go_wp2
      (try simp only [Exit.inBlock, Exit.then])
      refine bodyPost_ret (of_results ((Blk.new _ _ _).alloc _) _ rfl) rfl ?_
      exact of_finA (id := 18) (m := -1) [88] rfl w
    · go_enter Tryd.func22, Tryd.ntmps22
      go_wp2
      (try simp only [Exit.inBlock, Exit.then])
      refine bodyPost_ret (of_results ((Blk.new _ _ _).alloc _) _ rfl) rfl ?_
      exact of_finB (id := 24) (m := -1) [3, 5, 21, 27, 42, 57, 58] rfl w
    · go_enter Tryd.func22, Tryd.ntmps22
      go_wp2
      (try simp only [Exit.inBlock, Exit.then])
      refine bodyPost_ret (of_results ((Blk.new _ _ _).alloc _) _ rfl) rfl ?_
      exact of_finA (id := 32) (m := -1) [92] rfl w
    · go_enter Tryd.func22, Tryd.ntmps22
      go_wp2
      (try simp only [Exit.inBlock, Exit.then])
      refine bodyPost_ret (of_results (((Blk.new _ _ _).alloc _).alloc _) _ rfl) rfl ?_
      exact of_finC (id := 33) (m := 15) [8, 89] [5, 21, 27, 80] rfl w
    · go_enter Tryd.func22, Tryd.ntmps22
      go_wp2
      (try simp only [Exit.inBlock, Exit.then])
      refine bodyPost_ret (of_results ((Blk.new _ _ _).alloc _) _ rfl) rfl ?_
      exact of_finA (id := 34) (m := -1) [8, 89, 6, 72, 28] rfl w
    · go_enter Tryd.func22, Tryd.ntmps22
      go_wp2
      (try simp only [Exit.inBlock, Exit.then])
      refine bodyPost_ret (of_results (Blk.new _ _ _) _ rfl) rfl ?_
      exact of_fin0 (id := 38) (m := -1) rfl w
    · go_enter Tryd.func22, Tryd.ntmps22
      go_wp2
      (try simp only [Exit.inBlock, Exit.then])
      refine bodyPost_ret (of_results (Blk.new _ _ _) _ rfl) rfl ?_
      exact of_fin0 (id := 39) (m := -1) rfl w
    · go_enter Tryd.func22, Tryd.ntmps22
      go_wp2
      (try simp only [Exit.inBlock, Exit.then])
      refine bodyPost_ret (of_results (Blk.new _ _ _) _ rfl) rfl ?_
      exact of_fin0 (id := 40) (m := -1) rfl w
    · go_enter Tryd.func22, Tryd.ntmps22
      go_wp2
      (try simp only [Exit.inBlock, Exit.then])
      refine bodyPost_ret (of_results (Blk.new _ _ _) _ rfl) rfl ?_
      exact of_fin0 (id := 41) (m := -1) rfl w
    · go_enter Tryd.func22, Tryd.ntmps22
      go_wp2
      (try simp only [Exit.inBlock, Exit.then])
      refine bodyPost_ret (of_results (Blk.new _ _ _) _ rfl) rfl ?_
      exact of_fin0 (id := 43) (m := -1) rfl w
    · go_enter Tryd.func22, Tryd.ntmps22
      go_wp2
      (try simp only [Exit.inBlock, Exit.then])
      refine bodyPost_ret (of_results (Blk.new _ _ _) _ rfl) rfl ?_
      exact of_fin0 (id := 155) (m := -1) rfl w
    · go_enter Tryd.func22, Tryd.ntmps22
      go_wp2
      (try simp only [Exit.inBlock, Exit.then])
      refine bodyPost_ret (of_results (Blk.new _ _ _) _ rfl) rfl ?_
      exact of_fin0 (id := 156) (m := -1) rfl w
    · go_enter Tryd.func22, Tryd.ntmps22
      go_wp2
      (try simp only [Exit.inBlock, Exit.then])
      refine bodyPost_ret (of_results (Blk.new _ _ _) _ rfl) rfl ?_
      exact of_fin0 (id := 159) (m := -1) rfl w
    · go_enter Tryd.func22, Tryd.ntmps22
      go_wp2
      (try simp only [Exit.inBlock, Exit.then])
      refine bodyPost_ret (of_results ((Blk.new _ _ _).alloc _) _ rfl) rfl ?_
      exact of_finB (id := 129) (m := 0) [11] rfl w
    · go_enter Tryd.func22, Tryd.ntmps22
      go_wp2
      (try simp only [Exit.inBlock, Exit.then])
      refine bodyPost_ret (of_results (Blk.new _ _ _) _ rfl) rfl ?_
      exact of_fin0 (id := 130) (m := 0) rfl w
    · go_enter Tryd.func22, Tryd.ntmps22
      go_wp2
      (try simp only [Exit.inBlock, Exit.then])
      refine bodyPost_ret (of_results (Blk.new _ _ _) _ rfl) rfl ?_
      exact of_fin0 (id := 136) (m := 0) rfl w
    · go_enter Tryd.func22, Tryd.ntmps22
      go_wp2
      (try simp only [Exit.inBlock, Exit.then])
      refine bodyPost_ret (of_results (Blk.new _ _ _) _ rfl) rfl ?_
      exact of_fin0 (id := 149) (m := 0) rfl w
    · go_enter Tryd.func22, Tryd.ntmps22
      go_wp2
      (try simp only [Exit.inBlock, Exit.then])
      refine bodyPost_ret (of_results (Blk.new _ _ _) _ rfl) rfl ?_
      exact of_fin0 (id := 150) (m := 0) rfl w
    · go_enter Tryd.func22, Tryd.ntmps22
      go_wp2
      (try simp only [Exit.inBlock, Exit.then])
      refine bodyPost_ret (of_results ((Blk.new _ _ _).alloc _) _ rfl) rfl ?_
      exact of_finA (id := 132) (m := 0) [94] rfl w
    · go_enter Tryd.func22, Tryd.ntmps22
      go_wp2
      (try simp only [Exit.inBlock, Exit.then])
      refine bodyPost_ret (of_results ((Blk.new _ _ _).alloc _) _ rfl) rfl ?_
      exact of_finA (id := 147) (m := 0) [88, 91] rfl w
    · go_enter Tryd.func22, Tryd.ntmps22
      go_wp2
      (try simp only [Exit.inBlock, Exit.then])
      refine bodyPost_ret (of_results ((Blk.new _ _ _).alloc _) _ rfl) rfl ?_
      exact of_finA (id := 157) (m := 0) [93] rfl w
  · have hF : formM id = none := by
      cases hF : formM id with
      | none => rfl
      | some T => exact absurd (formM_id hF) h
    have HF : Hid (OfRet id w (.returned (.tuple #[.agg #[.slice none 0 0, .int .i64 0, .slice none 0 0], .bool false])) (w.alloc (.cells #[.slice none 0 0, .int .i64 0, .slice none 0 0] 42))) := by
      refine ⟨none, 0, 0, none, 0, 0, by rw [hF]; rfl, (Keep.refl Never w).alloc _, ?_⟩
      rw [hF]
      exact ⟨rfl, Rd.nil _ _ _ _, Nat.le_refl _, rfl, Rd.nil _ _ _ _, Nat.le_refl _, inRow_none _, inRow_none _⟩
    simp only [mids, List.mem_cons, List.not_mem_nil, or_false, not_or] at h
    obtain ⟨h1, h2, h3, h4, h5, h6, h7, h8, h9, h10, h11, h12, h13, h14, h15, h16, h17, h18, h19, h20, h21, h22, h23, h24, h25, h26, h27, h28, h29, h30⟩ := h
    clear hF
    go_enter Tryd.func22, Tryd.ntmps22
    go_wp2
    (try simp only [Exit.inBlock, Exit.then])
    refine bodyPost_ret (of_results (Blk.new _ _ _) _ rfl) rfl ?_
    exact HF.out


end Go.Proofs.YtiebjnibmomcjaaDoor
