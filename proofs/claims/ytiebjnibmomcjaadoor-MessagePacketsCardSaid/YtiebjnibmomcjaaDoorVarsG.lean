/- linesideref02.Get. -/
import Derived.Test.YtiebjnibmomcjaaDoorVarsT
namespace Go.Proofs.YtiebjnibmomcjaaDoor
open Go.RowKit

def vrow (v : Int) : VRow := if 0 ≤ v ∧ v < 96 then vrows.getD v.toNat ⟨[], 0, 0, 0⟩ else ⟨[], 0, 0, 0⟩
def rowVals (r : VRow) : Array Value := #[.string ⟨r.name.toArray⟩, .int .i64 r.width, .int .i64 r.most, .int .i64 r.special]
theorem rows_at : ∀ (l : List VRow) (k j : Nat) (r : VRow) (x : Value), l[k]? = some r → [Value.string ⟨r.name.toArray⟩, .int .i64 r.width, .int .i64 r.most, .int .i64 r.special][j]? = some x →
    (l.flatMap fun r => [.string ⟨r.name.toArray⟩, .int .i64 r.width, .int .i64 r.most, .int .i64 r.special])[k * 4 + j]? = some x := by
  intro l
  induction l with
  | nil => intro k j r x h; cases h
  | cons r0 l ih =>
    intro k j r x h hx
    rw [List.flatMap_cons]
    cases k with
    | zero =>
      obtain rfl : r0 = r := by simpa using h
      have hj : j < 4 := by
        rcases Nat.lt_or_ge j 4 with h | h
        · exact h
        · rw [List.getElem?_eq_none (by simpa using h)] at hx; cases hx
      rw [Nat.zero_mul, Nat.zero_add, List.getElem?_append_left (by simpa using hj)]
      exact hx
    | succ k =>
      rw [List.getElem?_append_right (by simp; omega)]
      have e : (k + 1) * 4 + j - [Value.string ⟨r0.name.toArray⟩, .int .i64 r0.width, .int .i64 r0.most, .int .i64 r0.special].length = k * 4 + j := by simp; omega
      rw [e]
      exact ih k j r x (by simpa using h) hx
theorem vrows_len : vrows.length = 96 := by decide +kernel
theorem vrow_at (k : Nat) (hk : k < 96) : vrows[k]? = some (vrow k) := by
  rw [vrow, if_pos (by omega), Int.toNat_natCast, List.getD_eq_getElem?_getD, List.getElem?_eq_getElem (by rw [vrows_len]; exact hk)]
  rfl
/-- a row of the frame's own, behind a call that keeps all -/
theorem row_kept {w w' : World} {cs : Array Value} {t : TypeId} (hk : Keep Never (w.alloc (.cells cs t)) w') (j : Nat) (u : Value) (hj : cs[j]? = some u) :
    w'.cell? ⟨w.heap.size, j, none⟩ = some u ∧ w'.frozen? ⟨w.heap.size, j, none⟩ = false :=
  ⟨(hk.cell (by simp) (fun h => h)).trans ((World.cell?_alloc_at _ _ _ _ rfl).trans hj), (hk.frozen (by simp) (fun h => h)).trans (World.frozen?_alloc_at _ _ _ _ rfl)⟩

/-- the table, as the walks want it -/
theorem table_row (k : Nat) (hk : k < 96) (w0 : World) (n : Nat) (hn : w0.heap.size = n) :
    Calls Tryd.prog 61 #[] w0 fun e w' => e = .returned (.slice (some ⟨n, 0, none⟩) 96 96) ∧ n < w'.heap.size ∧ Keep Never w0 w' ∧ w'.cell? ⟨n, k * 4, none⟩ = some (.string ⟨(vrow k).name.toArray⟩) ∧ w'.cell? ⟨n, k * 4 + 1, none⟩ = some (.int .i64 (vrow k).width) ∧ w'.cell? ⟨n, k * 4 + 2, none⟩ = some (.int .i64 (vrow k).most) ∧ w'.cell? ⟨n, k * 4 + 3, none⟩ = some (.int .i64 (vrow k).special) := by
  refine (table_any w0).mono ?_
  rintro e w' ⟨rfl, rfl⟩
  subst hn
  have hc : ∀ j x, [Value.string ⟨(vrow k).name.toArray⟩, .int .i64 (vrow k).width, .int .i64 (vrow k).most, .int .i64 (vrow k).special][j]? = some x → (w0.alloc (.cells vcells.toArray 97)).cell? ⟨w0.heap.size, k * 4 + j, none⟩ = some x := by
    intro j x hx
    rw [World.cell?_alloc_at _ _ _ _ rfl, List.getElem?_toArray]
    exact rows_at vrows k j _ x (vrow_at k hk) hx
  exact ⟨rfl, by simp, (Keep.refl _ _).alloc _, hc 0 _ rfl, hc 1 _ rfl, hc 2 _ rfl, hc 3 _ rfl⟩

set_option maxHeartbeats 1000000 in
theorem rget2_any (v : Int) (w : World) :
    Calls Tryd.prog 62 #[.int .i64 v] w fun e w' => e = .returned (.tuple #[.agg (rowVals (vrow v)), .bool (decide (0 ≤ v ∧ v < 96))]) ∧ Keep Never w w' := by
  by_cases h : 0 ≤ v ∧ v < 96
  · obtain ⟨k, rfl⟩ : ∃ k : Nat, v = k := ⟨v.toNat, by omega⟩
    have htab := Lib.hid (table_row k (by omega))
    have hd : decide (0 ≤ (k : Int) ∧ (k : Int) < 96) = true := by simpa using h
    rw [hd]
    have hv : Hid (rowVals (vrow k) = #[.string ⟨(vrow k).name.toArray⟩, .int .i64 (vrow k).width, .int .i64 (vrow k).most, .int .i64 (vrow k).special]) := rfl
    obtain ⟨h1, h2⟩ := h
    generalize vrow k = r at *
    generalize rowVals r = rv at *
    clear hd
    go_enter Tryd.func62, Tryd.ntmps62
    go_wp2_with (go_at_call 61; refine (htab.out _ (w.heap.size + 1) (by simp)).mono ?_; rintro e w' ⟨rfl, hlt, hk, c0, c1, c2, c3⟩; obtain ⟨r0, f0⟩ := row_kept hk 0 _ rfl; obtain ⟨r1, f1⟩ := row_kept hk 1 _ rfl; obtain ⟨r2, f2⟩ := row_kept hk 2 _ rfl; obtain ⟨r3, f3⟩ := row_kept hk 3 _ rfl; have HK := Lib.hid hk; clear hk)
    refine bodyPost_ret (v := .tuple #[.agg rv, .bool true]) ?_ rfl ⟨rfl, ?_⟩
    · rw [results_cell_tmp rfl, hv.out]; go_simp
    · exact ((((((Keep.refl _ _).alloc _).trans HK.out).set_ (.inr (Nat.le_refl _)) _).set_ (.inr (Nat.le_refl _)) _).set_ (.inr (Nat.le_refl _)) _).set_ (.inr (Nat.le_refl _)) _
  · have hf : Hid (vrow v = ⟨[], 0, 0, 0⟩) := by show _ = _; rw [vrow, if_neg h]
    have hd : decide (0 ≤ v ∧ v < 96) = false := by simpa using h
    rw [hd, hf.out]
    have htab := Lib.hid (table_row 0 (by omega))
    clear hd
    have h : v < 0 ∨ 96 ≤ v := by omega
    rcases h with h | h
    all_goals
      go_enter Tryd.func62, Tryd.ntmps62
      go_wp2_with (go_at_call 61; refine (htab.out _ (w.heap.size + 1) (by simp)).mono ?_; rintro e w' ⟨rfl, hlt, hk, -, -, -, -⟩; obtain ⟨r0, f0⟩ := row_kept hk 0 _ rfl; obtain ⟨r1, f1⟩ := row_kept hk 1 _ rfl; obtain ⟨r2, f2⟩ := row_kept hk 2 _ rfl; obtain ⟨r3, f3⟩ := row_kept hk 3 _ rfl; have HK := Lib.hid hk; clear hk)
      refine bodyPost_ret (v := .tuple #[.agg (rowVals ⟨[], 0, 0, 0⟩), .bool false]) ?_ rfl ⟨rfl, ?_⟩
      · rw [results_cell_tmp rfl]; go_simp; rfl
      · exact ((((((Keep.refl _ _).alloc _).trans HK.out).set_ (.inr (Nat.le_refl _)) _).set_ (.inr (Nat.le_refl _)) _).set_ (.inr (Nat.le_refl _)) _).set_ (.inr (Nat.le_refl _)) _
end Go.Proofs.YtiebjnibmomcjaaDoor
