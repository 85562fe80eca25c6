/- Chapter 6, the document's: Get, Known, Up. -/
import Derived.Test.YtiebjnibmomcjaaDoorBdMsgB
namespace Go.Proofs.YtiebjnibmomcjaaDoor
open Go.RowKit

/-- a message's row: its own variables, what it must have, what it may have, as texts -/
def rowS (id : Int) : ByteArray × ByteArray × ByteArray :=
  if id = 2 then (⟨#[81, 95, 83, 67, 65, 76, 69, 32, 68, 95, 83, 82]⟩, ⟨#[]⟩, ⟨#[]⟩)
  else if id = 3 then (⟨#[]⟩, ⟨#[49, 53]⟩, ⟨#[51, 32, 53, 32, 50, 49, 32, 50, 55, 32, 53, 55, 32, 53, 56, 32, 56, 48]⟩)
  else if id = 8 then (⟨#[84, 95, 84, 82, 65, 73, 78]⟩, ⟨#[]⟩, ⟨#[]⟩)
  else if id = 137 then (⟨#[84, 95, 84, 82, 65, 73, 78]⟩, ⟨#[]⟩, ⟨#[]⟩)
  else if id = 138 then (⟨#[84, 95, 84, 82, 65, 73, 78]⟩, ⟨#[]⟩, ⟨#[]⟩)
  else if id = 146 then (⟨#[84, 95, 84, 82, 65, 73, 78]⟩, ⟨#[]⟩, ⟨#[]⟩)
  else if id = 9 then (⟨#[]⟩, ⟨#[49, 53]⟩, ⟨#[53, 32, 56, 48]⟩)
  else if id = 15 then (⟨#[78, 73, 68, 95, 69, 77, 32, 81, 95, 83, 67, 65, 76, 69, 32, 81, 95, 68, 73, 82, 32, 68, 95, 82, 69, 70, 32, 68, 95, 69, 77, 69, 82, 71, 69, 78, 67, 89, 83, 84, 79, 80]⟩, ⟨#[]⟩, ⟨#[]⟩)
  else if id = 16 then (⟨#[78, 73, 68, 95, 69, 77]⟩, ⟨#[]⟩, ⟨#[]⟩)
  else if id = 18 then (⟨#[78, 73, 68, 95, 69, 77]⟩, ⟨#[]⟩, ⟨#[]⟩)
  else if id = 24 then (⟨#[]⟩, ⟨#[]⟩, ⟨#[51, 32, 53, 32, 50, 49, 32, 50, 55, 32, 52, 50, 32, 53, 55, 32, 53, 56]⟩)
  else if id = 32 then (⟨#[77, 95, 86, 69, 82, 83, 73, 79, 78]⟩, ⟨#[]⟩, ⟨#[]⟩)
  else if id = 33 then (⟨#[81, 95, 83, 67, 65, 76, 69, 32, 68, 95, 82, 69, 70]⟩, ⟨#[49, 53]⟩, ⟨#[53, 32, 50, 49, 32, 50, 55, 32, 56, 48]⟩)
  else if id = 34 then (⟨#[81, 95, 83, 67, 65, 76, 69, 32, 68, 95, 82, 69, 70, 32, 81, 95, 68, 73, 82, 32, 68, 95, 76, 79, 67, 32, 76, 95, 83, 69, 67, 84, 73, 79, 78]⟩, ⟨#[]⟩, ⟨#[]⟩)
  else if id = 38 then (⟨#[]⟩, ⟨#[]⟩, ⟨#[]⟩)
  else if id = 39 then (⟨#[]⟩, ⟨#[]⟩, ⟨#[]⟩)
  else if id = 40 then (⟨#[]⟩, ⟨#[]⟩, ⟨#[]⟩)
  else if id = 41 then (⟨#[]⟩, ⟨#[]⟩, ⟨#[]⟩)
  else if id = 43 then (⟨#[]⟩, ⟨#[]⟩, ⟨#[]⟩)
  else if id = 155 then (⟨#[]⟩, ⟨#[]⟩, ⟨#[]⟩)
  else if id = 156 then (⟨#[]⟩, ⟨#[]⟩, ⟨#[]⟩)
  else if id = 159 then (⟨#[]⟩, ⟨#[]⟩, ⟨#[]⟩)
  else if id = 129 then (⟨#[]⟩, ⟨#[82, 69, 80, 79, 82, 84]⟩, ⟨#[49, 49]⟩)
  else if id = 130 then (⟨#[]⟩, ⟨#[82, 69, 80, 79, 82, 84]⟩, ⟨#[]⟩)
  else if id = 136 then (⟨#[]⟩, ⟨#[82, 69, 80, 79, 82, 84]⟩, ⟨#[]⟩)
  else if id = 149 then (⟨#[]⟩, ⟨#[82, 69, 80, 79, 82, 84]⟩, ⟨#[]⟩)
  else if id = 150 then (⟨#[]⟩, ⟨#[82, 69, 80, 79, 82, 84]⟩, ⟨#[]⟩)
  else if id = 132 then (⟨#[81, 95, 77, 65, 82, 81, 83, 84, 82, 69, 65, 83, 79, 78]⟩, ⟨#[82, 69, 80, 79, 82, 84]⟩, ⟨#[]⟩)
  else if id = 147 then (⟨#[78, 73, 68, 95, 69, 77, 32, 81, 95, 69, 77, 69, 82, 71, 69, 78, 67, 89, 83, 84, 79, 80]⟩, ⟨#[82, 69, 80, 79, 82, 84]⟩, ⟨#[]⟩)
  else if id = 157 then (⟨#[81, 95, 83, 84, 65, 84, 85, 83]⟩, ⟨#[82, 69, 80, 79, 82, 84]⟩, ⟨#[]⟩)
  else (⟨#[]⟩, ⟨#[]⟩, ⟨#[]⟩)
/-- what the document's Get leaves -/
def RGet6 (id : Int) (w : World) (e : Ending) (w' : World) : Prop := e = .returned (.tuple #[.agg #[.string (rowS id).1, .string (rowS id).2.1, .string (rowS id).2.2], .bool (formM id).isSome]) ∧ Keep Never w w'
theorem rget6_results {w : World} {b : Nat} {v0 v1 v2 : Value} (hb : Blk w b 58 #[v0, v1, v2]) (tmps : Array Value) (ht : tmps.getD 2 undef = .pointer (some ⟨b, 0, none⟩)) :
    (results Tryd.f31 tmps).run Tryd.prog w = .ok (.tuple #[.agg #[v0, v1, v2], tmps.getD 3 undef]) w := by
  have q0 : w.cell? ⟨b, 0, none⟩ = some v0 := hb.cell 0
  have q1 : w.cell? ⟨b, 1, none⟩ = some v1 := hb.cell 1
  have q2 : w.cell? ⟨b, 2, none⟩ = some v2 := hb.cell 2
  have ht' : tmps[2]?.getD undef = .pointer (some ⟨b, 0, none⟩) := by rw [← Array.getD_eq_getD_getElem?]; exact ht
  simp [results, ht', go_sem, q0, q1, q2]
set_option maxHeartbeats 8000000 in
set_option maxRecDepth 100000 in
theorem rget6_any (id : Int) (w : World) : Calls Tryd.prog 31 #[.int .i64 id] w (RGet6 id w) := by
  by_cases h : id ∈ mids
  · simp only [mids, List.mem_cons, List.not_mem_nil, or_false] at h
    rcases h with rfl | rfl | rfl | rfl | rfl | rfl | rfl | rfl | rfl | rfl | rfl | rfl | rfl | rfl | rfl | rfl | rfl | rfl | rfl | rfl | rfl | rfl | rfl | rfl | rfl | rfl | rfl | rfl | rfl | rfl
    · go_enter Tryd.func31, Tryd.ntmps31
      go_wp2
      (try simp only [Exit.inBlock, Exit.then])
      refine bodyPost_ret (rget6_results (Blk.new _ _ _) _ rfl) rfl ?_
      exact ⟨rfl, (Keep.refl Never w).alloc _⟩
    · go_enter Tryd.func31, Tryd.ntmps31
      go_wp2
      (try simp only [Exit.inBlock, Exit.then])
      refine bodyPost_ret (rget6_results (Blk.new _ _ _) _ rfl) rfl ?_
      exact ⟨rfl, (Keep.refl Never w).alloc _⟩
    · go_enter Tryd.func31, Tryd.ntmps31
      go_wp2
      (try simp only [Exit.inBlock, Exit.then])
      refine bodyPost_ret (rget6_results (Blk.new _ _ _) _ rfl) rfl ?_
      exact ⟨rfl, (Keep.refl Never w).alloc _⟩
    · go_enter Tryd.func31, Tryd.ntmps31
      go_wp2
      (try simp only [Exit.inBlock, Exit.then])
      refine bodyPost_ret (rget6_results (Blk.new _ _ _) _ rfl) rfl ?_
      exact ⟨rfl, (Keep.refl Never w).alloc _⟩
    · go_enter Tryd.func31, Tryd.ntmps31
      go_wp2
      (try simp only [Exit.inBlock, Exit.then])
      refine bodyPost_ret (rget6_results (Blk.new _ _ _) _ rfl) rfl ?_
      exact ⟨rfl, (Keep.refl Never w).alloc _⟩
    · go_enter Tryd.func31, Tryd.ntmps31
      go_wp2
      (try simp only [Exit.inBlock, Exit.then])
      refine bodyPost_ret (rget6_results (Blk.new _ _ _) _ rfl) rfl ?_
      exact ⟨rfl, (Keep.refl Never w).alloc _⟩
    · go_enter Tryd.func31, Tryd.ntmps31
      go_wp2
      (try simp only [Exit.inBlock, Exit.then])
      refine bodyPost_ret (rget6_results (Blk.new _ _ _) _ rfl) rfl ?_
      exact ⟨rfl, (Keep.refl Never w).alloc _⟩
    · go_enter Tryd.func31, Tryd.ntmps31
      go_wp2
      (try simp only [Exit.inBlock, Exit.then])
      refine bodyPost_ret (rget6_results (Blk.new _ _ _) _ rfl) rfl ?_
      exact ⟨rfl, (Keep.refl Never w).alloc _⟩
    · go_enter Tryd.func31, Tryd.ntmps31
      go_wp2
      (try simp only [Exit.inBlock, Exit.then])
      refine bodyPost_ret (rget6_results (Blk.new _ _ _) _ rfl) rfl ?_
      exact ⟨rfl, (Keep.refl Never w).alloc _⟩
    · go_enter Tryd.func31, Tryd.ntmps31
      go_wp2
      (try simp only [Exit.inBlock, Exit.then])
      refine bodyPost_ret (rget6_results (Blk.new _ _ _) _ rfl) rfl ?_
      exact ⟨rfl, (Keep.refl Never w).alloc _⟩
    · go_enter Tryd.func31, Tryd.ntmps31
      go_wp2
      (try simp only [Exit.inBlock, Exit.then])
      refine bodyPost_ret (rget6_results (Blk.new _ _ _) _ rfl) rfl ?_
      exact ⟨rfl, (Keep.refl Never w).alloc _⟩
    · go_enter Tryd.func31, Tryd.ntmps31
      go_wp2
      (try simp only [Exit.inBlock, Exit.then])
      refine bodyPost_ret (rget6_results (Blk.new _ _ _) _ rfl) rfl ?_
      exact ⟨rfl, (Keep.refl Never w).alloc _⟩
    · go_enter Tryd.func31, Tryd.ntmps31
      go_wp2
      (try simp only [Exit.inBlock, Exit.then])
      refine bodyPost_ret (rget6_results (Blk.new _ _ _) _ rfl) rfl ?_
      exact ⟨rfl, (Keep.refl Never w).alloc _⟩
    · go_enter Tryd.func31, Tryd.ntmps31
      go_wp2
      (try simp only [Exit.inBlock, Exit.then])
      refine bodyPost_ret (rget6_results (Blk.new _ _ _) _ rfl) rfl ?_
      exact ⟨rfl, (Keep.refl Never w).alloc _⟩
    · go_enter Tryd.func31, Tryd.ntmps31
      go_wp2
      (try simp only [Exit.inBlock, Exit.then])
      refine bodyPost_ret (rget6_results (Blk.new _ _ _) _ rfl) rfl ?_
      exact ⟨rfl, (Keep.refl Never w).alloc _⟩
    · go_enter Tryd.func31, Tryd.ntmps31
      go_wp2
      (try simp only [Exit.inBlock, Exit.then])
      refine bodyPost_ret (rget6_results (Blk.new _ _ _) _ rfl) rfl ?_
      exact ⟨rfl, (Keep.refl Never w).alloc _⟩
    · go_enter Tryd.func31, Tryd.ntmps31
      go_wp2
      (try simp only [Exit.inBlock, Exit.then])
      refine bodyPost_ret (rget6_results (Blk.new _ _ _) _ rfl) rfl ?_
      exact ⟨rfl, (Keep.refl Never w).alloc _⟩
    · go_enter Tryd.func31, Tryd.ntmps31
      go_wp2
      (try simp only [Exit.inBlock, Exit.then])
      refine bodyPost_ret (rget6_results (Blk.new _ _ _) _ rfl) rfl ?_
      exact ⟨rfl, (Keep.refl Never w).alloc _⟩
    · go_enter Tryd.func31, Tryd.ntmps31
      go_wp2
      (try simp only [Exit.inBlock, Exit.then])
      refine bodyPost_ret (rget6_results (Blk.new _ _ _) _ rfl) rfl ?_
      exact ⟨rfl, (Keep.refl Never w).alloc _⟩
    · go_enter Tryd.func31, Tryd.ntmps31
      go_wp2
      (try simp only [Exit.inBlock, Exit.then])
      refine bodyPost_ret (rget6_results (Blk.new _ _ _) _ rfl) rfl ?_
      exact ⟨rfl, (Keep.refl Never w).alloc _⟩
    · go_enter Tryd.func31, Tryd.ntmps31
      go_wp2
      (try simp only [Exit.inBlock, Exit.then])
      refine bodyPost_ret (rget6_results (Blk.new _ _ _) _ rfl) rfl ?_
      exact ⟨rfl, (Keep.refl Never w).alloc _⟩
    · go_enter Tryd.func31, Tryd.ntmps31
      go_wp2
      (try simp only [Exit.inBlock, Exit.then])
      refine bodyPost_ret (rget6_results (Blk.new _ _ _) _ rfl) rfl ?_
      exact ⟨rfl, (Keep.refl Never w).alloc _⟩
    · go_enter Tryd.func31, Tryd.ntmps31
      go_wp2
      (try simp only [Exit.inBlock, Exit.then])
      refine bodyPost_ret (rget6_results (Blk.new _ _ _) _ rfl) rfl ?_
      exact ⟨rfl, (Keep.refl Never w).alloc _⟩
    · go_enter Tryd.func31, Tryd.ntmps31
      go_wp2
      (try simp only [Exit.inBlock, Exit.then])
      refine bodyPost_ret (rget6_results (Blk.new _ _ _) _ rfl) rfl ?_
      exact ⟨rfl, (Keep.refl Never w).alloc _⟩
    · go_enter Tryd.func31, Tryd.ntmps31
      go_wp2
      (try simp only [Exit.inBlock, Exit.then])
      refine bodyPost_ret (rget6_results (Blk.new _ _ _) _ rfl) rfl ?_
      exact ⟨rfl, (Keep.refl Never w).alloc _⟩
    · go_enter Tryd.func31, Tryd.ntmps31
      go_wp2
      (try simp only [Exit.inBlock, Exit.then])
      refine bodyPost_ret (rget6_results (Blk.new _ _ _) _ rfl) rfl ?_
      exact ⟨rfl, (Keep.refl Never w).alloc _⟩
    · go_enter Tryd.func31, Tryd.ntmps31
      go_wp2
      (try simp only [Exit.inBlock, Exit.then])
      refine bodyPost_ret (rget6_results (Blk.new _ _ _) _ rfl) rfl ?_
      exact ⟨rfl, (Keep.refl Never w).alloc _⟩
    · go_enter Tryd.func31, Tryd.ntmps31
      go_wp2
      (try simp only [Exit.inBlock, Exit.then])
      refine bodyPost_ret (rget6_results (Blk.new _ _ _) _ rfl) rfl ?_
      exact ⟨rfl, (Keep.refl Never w).alloc _⟩
    · go_enter Tryd.func31, Tryd.ntmps31
      go_wp2
      (try simp only [Exit.inBlock, Exit.then])
      refine bodyPost_ret (rget6_results (Blk.new _ _ _) _ rfl) rfl ?_
      exact ⟨rfl, (Keep.refl Never w).alloc _⟩
    · go_enter Tryd.func31, Tryd.ntmps31
      go_wp2
      (try simp only [Exit.inBlock, Exit.then])
      refine bodyPost_ret (rget6_results (Blk.new _ _ _) _ rfl) rfl ?_
      exact ⟨rfl, (Keep.refl Never w).alloc _⟩
  · have hF : (formM id).isSome = false := by
      cases hF : formM id with
      | none => rfl
      | some T => exact absurd (formM_id hF) h
    simp only [mids, List.mem_cons, List.not_mem_nil, or_false, not_or] at h
    obtain ⟨h1, h2, h3, h4, h5, h6, h7, h8, h9, h10, h11, h12, h13, h14, h15, h16, h17, h18, h19, h20, h21, h22, h23, h24, h25, h26, h27, h28, h29, h30⟩ := h
    have hS : rowS id = (⟨#[]⟩, ⟨#[]⟩, ⟨#[]⟩) := by unfold rowS; rw [if_neg h1, if_neg h2, if_neg h3, if_neg h4, if_neg h5, if_neg h6, if_neg h7, if_neg h8, if_neg h9, if_neg h10, if_neg h11, if_neg h12, if_neg h13, if_neg h14, if_neg h15, if_neg h16, if_neg h17, if_neg h18, if_neg h19, if_neg h20, if_neg h21, if_neg h22, if_neg h23, if_neg h24, if_neg h25, if_neg h26, if_neg h27, if_neg h28, if_neg h29, if_neg h30]
    have HF : Hid (∀ W, Keep Never w W → RGet6 id w (.returned (.tuple #[.agg #[.string ⟨#[]⟩, .string ⟨#[]⟩, .string ⟨#[]⟩], .bool false])) W) := Lib.hid (fun W hk => ⟨by rw [hS, hF], hk⟩)
    clear hF hS
    go_enter Tryd.func31, Tryd.ntmps31
    go_wp2
    (try simp only [Exit.inBlock, Exit.then])
    refine bodyPost_ret (rget6_results (Blk.new _ _ _) _ rfl) rfl ?_
    exact HF.out _ ((Keep.refl Never w).alloc _)

set_option maxHeartbeats 1000000 in
set_option maxRecDepth 100000 in
theorem rknown6_any (id : Int) (w : World) : Calls Tryd.prog 15 #[.int .i64 id] w fun e w' => e = .returned (.bool (formM id).isSome) ∧ Keep Never w w' := by
  have HO : Hid (∀ W, Calls Tryd.prog 31 #[.int .i64 id] W fun e w' => ∃ s1 s2 s3, e = .returned (.tuple #[.agg #[.string s1, .string s2, .string s3], .bool (formM id).isSome]) ∧ Keep Never W w') :=
    fun W => (rget6_any id W).mono (by rintro e w1 ⟨rfl, hk⟩; exact ⟨_, _, _, rfl, hk⟩)
  generalize (formM id).isSome = b at HO ⊢
  go_enter Tryd.func15, Tryd.ntmps15
  go_wp2_with fail
  refine (HO.out _).mono ?_
  rintro e w1 ⟨s1, s2, s3, rfl, hk⟩
  have HK := Lib.hid hk
  have HK2 := Lib.hid (hk.alloc (.cells #[.string s1, .string s2, .string s3] 58))
  clear hk
  go_wp2_with fail
  go_ret
  first | exact ⟨rfl, HK2.out⟩ | exact ⟨rfl, HK.out⟩
theorem up_159 {id : Int} (h : (formM id).isSome = true) : id ≤ 159 := by
  obtain ⟨f, hf⟩ := Option.isSome_iff_exists.1 h
  have h1 : mids.all (fun i => decide (i ≤ 159)) = true := by decide +kernel
  exact of_decide_eq_true (List.all_eq_true.1 h1 id (formM_id hf))
set_option maxHeartbeats 1000000 in
set_option maxRecDepth 100000 in
theorem rup6_any (id : Int) (w : World) : Calls Tryd.prog 17 #[.int .i64 id] w fun e w' => e = .returned (.bool (upM id)) ∧ Keep Never w w' := by
  have HK : Hid (∀ W, Calls Tryd.prog 15 #[.int .i64 id] W fun e w' => e = .returned (.bool (formM id).isSome) ∧ Keep Never W w') := fun W => rknown6_any id W
  have hu : upM id = ((formM id).isSome && decide (129 ≤ id)) := rfl
  have h9 : Hid ((formM id).isSome = true → id ≤ 159) := Lib.hid up_159
  rw [hu]
  clear hu
  generalize (formM id).isSome = b at *
  cases b
  · go_enter Tryd.func17, Tryd.ntmps17
    go_wp2_with fail
    refine (HK.out _).mono ?_
    rintro e w1 ⟨rfl, hk⟩
    have HK1 := Lib.hid hk
    clear hk
    go_wp2_with fail
    go_ret
    exact ⟨rfl, HK1.out⟩
  · have h159 := h9.out rfl
    by_cases h : 129 ≤ id
    all_goals
      go_enter Tryd.func17, Tryd.ntmps17
      go_wp2_with fail
      refine (HK.out _).mono ?_
      rintro e w1 ⟨rfl, hk⟩
      have HK1 := Lib.hid hk
      clear hk
      go_wp2_with fail
      go_ret
      exact ⟨by simp [h], HK1.out⟩

end Go.Proofs.YtiebjnibmomcjaaDoor
