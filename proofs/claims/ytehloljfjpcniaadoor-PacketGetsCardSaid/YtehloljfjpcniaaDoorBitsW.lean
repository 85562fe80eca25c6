/- Walks of package bits: Writer. -/
import Derived.Test.YtehloljfjpcniaaDoorBitsG
import Derived.Deep.DeepCutAuto
import Derived.StillTailTactics
namespace Go.Proofs.YtehloljfjpcniaaDoor
open Go.RowKit

/-- what Put may turn: the Writer's own block, and its row -/
def WrS (p : Nat) (A : Option Addr) (k : Nat) : Prop := k = p ∨ InRow A k

theorem mk_u8 (n : Nat) (hn : n ≤ 140737488355328) : ∀ w : World, (Instr.makeSlice 22 (.int .i64 n) (.int .i64 n)).run Tryd.prog w = .ok (.slice (some ⟨w.heap.size, 0, none⟩) n n) (w.alloc (.cells (zerosU8 n) 5)) := by
  intro w
  obtain ⟨i, z, hi, hz, hsize, hby, hzs, hsz⟩ := elemU.hi
  have hz0 : z = .int .u8 0 := by
    have h1 : (Tryd.prog.info? 5).map (·.zero) = some (some (.int .u8 0)) := by kernel_rfl
    rw [hi] at h1
    simp only [Option.map_some, Option.some.injEq] at h1
    rw [hz] at h1
    exact Option.some.inj h1
  subst hz0
  have hr := run_make (P := Tryd.prog) w 22 5 i _ elemU.ht hi hz .i64 .i64 n n (by omega) (Int.le_refl _) (by rw [hby]; omega) (by omega)
  simp only [Int.toNat_natCast, hsize, Nat.mul_one] at hr
  exact hr

/-- what Bytes leaves: new memory -/
def WBytes (w : World) (l : List Nat) (e : Ending) (w' : World) : Prop :=
  ∃ A' c', e = .returned (.slice A' l.length c') ∧ Own w' w.heap.size 5 1 A' l.length c' (l.map u8v) ∧ Keep Never w w'

theorem ones_u8 (l : List Nat) : ∀ u ∈ l.map u8v, u.oneCell' = true := by
  intro u hu
  obtain ⟨x, _, rfl⟩ := List.mem_map.1 hu
  rfl

/-- a block that holds xs whole is a row of the call's own -/
theorem Own.of_blk {w : World} {g e n B : Nat} {xs : List Value} (h : Blk w g e xs.toArray) (hl : xs.length = n) (hm : n ≤ maxLen) (hB : B ≤ g) : Own w B e 1 (some ⟨g, 0, none⟩) n n xs :=
  ⟨by omega, .inr ⟨g, n, xs.toArray, rfl, hB, h, Nat.le_refl _, hm, by simp [hl], by rw [List.take_of_length_le (by simp; omega)]⟩⟩

end Go.Proofs.YtehloljfjpcniaaDoor
