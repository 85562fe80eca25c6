/- LockExtents: for every input the call returns true, and each argument reads as it did. No conditions. -/
import Derived.Test.YtijdkjcjhfebfaaGreatLckS
import Derived.Test.YtijdkjcjhfebfaaGreatLaw
namespace Go.Proofs.YtijdkjcjhfebfaaGreat.lawLockExtents
open Go.RowKit Go.ChangeShapes Go.WideShapes Go.ChangeAt Go.Proofs.YtijdkjcjhfebfaaGreat

set_option maxRecDepth 100000 in
theorem contract (H : Type) (enc : TypeId × Value → H) (W : World) (base : Nat) (args : Array Value) (ds gs : List (DataW H)) (before : List MemPlace)
    (hval : ∀ (j : Nat) t v, Tryz.f4.params[j]? = some t → args[j]? = some v → Value.okWide Tryz.prog W .any base t v)
    (hW : DataW.Whole enc Tryz.prog Tryz.f4.params.toList Rows.lockExtentsSpec.vars false W args.toList ds gs before) :
    Calls Tryz.prog 4 args W fun e W' => ∃ v, e = .returned v ∧ Rows.lockExtentsSpec.post enc Tryz.prog Tryz.f4 false true false false W args v W' := by
  have hW0 := hW
  obtain ⟨p, q, hA0, hV, rfl, hfz, hnd⟩ := hW
  have hA : DataW.TrodAll enc Tryz.prog W 0 (fun _ => true) true Tryz.f4.params.toList args.toList ds p := hA0
  rw [Tryz.params4] at hA hval
  obtain ⟨v0, vs0, d0, ds0, p0, q0, hargs, rfl, rfl, h0, r0⟩ := trodAll_cons hA
  obtain ⟨v1, vs1, d1, ds1, p1, q1, rfl, rfl, rfl, h1, r1⟩ := trodAll_cons r0
  obtain ⟨v2, vs2, d2, ds2, p2, q2, rfl, rfl, rfl, h2, r2⟩ := trodAll_cons r1
  obtain ⟨v3, vs3, d3, ds3, p3, q3, rfl, rfl, rfl, h3, r3⟩ := trodAll_cons r2
  obtain ⟨rfl, rfl, rfl⟩ := trodAll_nil r3
  obtain rfl : args = #[v0, v1, v2, v3] := by cases args; simp_all
  obtain ⟨cs0, a0, rfl, s0⟩ := arg_struct opens_tp Tryz.underlying27 (hval 0 27 v0 rfl rfl) h0
  obtain ⟨A1, n1, c1, l1, rfl, s1⟩ := arg_slice opens_lks Tryz.underlying28 (hval 1 28 v1 rfl rfl) h1
  obtain ⟨x2, rfl, b2, c2⟩ := arg_int Tryz.underlying3 (hval 2 3 v2 rfl rfl) h2
  obtain ⟨x3, rfl, b3, c3⟩ := arg_int Tryz.underlying3 (hval 3 3 v3 rfl rfl) h3
  refine (lockExtents_walk W cs0 a0 s0 A1 n1 c1 l1 s1 x2 b2 c2 x3 b3 c3).mono fun e W' ⟨he, hg⟩ => ?_
  subst he
  exact ⟨_, rfl, law_post (bt := 4) laidOut (by kernel_rfl) rfl Tryz.underlying4 rfl hW0 rfl (hg.below (Nat.le_refl _) (fun k h => h.elim))⟩

set_option maxRecDepth 100000 in
theorem lifted (os : Os) (started : os.Started) (H : Type) (enc : TypeId × Value → H) :
    ReturnsInHanded {} Tryz.checked os 4 .any (Rows.lockExtentsSpec.pre6 enc Tryz.prog Tryz.f4 Rows.lockExtentsRow.domain false) (Rows.lockExtentsSpec.post enc Tryz.prog Tryz.f4 false true false false) := by
  refine returnsInHanded_of_change (C := Tryz.checked) ownk started (by kernel_rfl) Tryz.func4
    (ChangeSpec.witness6 (enc := enc) (C := Tryz.checked) false ⟨#[], #[.agg #[.slice none 0 0, .slice none 0 0, .slice none 0 0, .slice none 0 0], .slice none 0 0, .int .i64 0, .int .i64 0], []⟩ 8 (by kernel_rfl) (by kernel_rfl) (by kernel_rfl) (by kernel_rfl)) ?_
  intro W base args ds gs before hval hW _ _
  exact contract H enc W base args ds gs before hval hW

theorem proved : Rows.LockExtentsSaid :=
  OpenClaim.holds_of_wide 4 Tryz.f4 rfl rfl rfl rfl rfl rfl rfl ⟨rfl, rfl, rfl, rfl, rfl⟩ rfl rfl rfl rfl rfl (by kernel_rfl) Tryz.func4 (by kernel_rfl)
    (of_decide_eq_true (by kernel_rfl)) (by unfold Func.isWrapper; first | (rw [if_pos (by decide +kernel)]; kernel_rfl) | (rw [if_neg (by decide +kernel)]; exact ⟨rfl, rfl⟩))
    (fun os started H enc _ => lifted os started H enc)

end Go.Proofs.YtijdkjcjhfebfaaGreat.lawLockExtents
