/- Chapter 15: slices.Grow, Concat at spans; Union. -/
import Derived.Test.YtpahfobijmmmmaaGreatSpnG
import Derived.Lib.AppendZerosOnto
namespace Go.Proofs.YtpahfobijmmmmaaGreat
open Go.RowKit

/-- a new row of zeros, for m elements that are to come -/
theorem own_noughts (w : World) {e size : Nat} {z : Array Value} {m G : Nat} (hz : z.size = size) (hm : m ≤ G) (hG : G ≤ maxLen) :
    Own (w.alloc (.cells (#[] ++ Builtin.zeroCells z m ++ Builtin.zeroCells z (G - m)) e)) w.heap.size e size (some ⟨w.heap.size, 0, none⟩) 0 G [] := by
  refine ⟨by simp, .inr ⟨w.heap.size, G, _, rfl, Nat.le_refl _, heap_alloc_new w _, Nat.zero_le _, hG, ?_, by simp⟩⟩
  simp [size_zeroCells, hz]
  rw [← Nat.add_mul]
  congr 1
  omega
/-- append of as many zeros onto nil -/
theorem run_grow0 {P : Program} {t tn e size bytes : Nat} (hE : Elem P t e size bytes) (htn : P.underlying tn = some (.int .i64)) (m : Nat) (h0 : 0 < m) (hb : m * bytes ≤ 140737488355328) (hm : m ≤ 1000000000) (w : World) :
    ∃ G w', (∀ ty, (Builtin.append_ #[t, tn] ty #[.slice none 0 0, .int .i64 m]).run P w = .ok (.slice (some ⟨w.heap.size, 0, none⟩) m G) w') ∧ Own w' w.heap.size e size (some ⟨w.heap.size, 0, none⟩) 0 G [] ∧ Keep Never w w' ∧ m ≤ G := by
  obtain ⟨i, z, hi, hz, hsize, hby, hzs, hsz⟩ := hE.hi
  have hg := grownCap_ge w m 0 e
  have hl := grownCap_le_maxLen w m 0 e (by unfold maxLen; omega)
  refine ⟨grownCap w m 0 e, w.drew.alloc (.cells (#[] ++ Builtin.zeroCells z.cells m ++ Builtin.zeroCells z.cells (grownCap w m 0 e - m)) e), fun ty => ?_, ?_, ((Keep.refl Never w).drew).alloc _, hg⟩
  · have := Lib.run_append_grow_zeros w t tn ty e i z .i64 .i64 hE.ht htn hi hz none 0 0 [] (run_firstCells_none w.drew i.size 0 0 0) m h0 (by omega) (by omega) (by omega) (by rw [hby]; omega) (by rw [hby]; exact growslice_fits (by omega) (by simpa using hb))
    simpa using this
  · exact own_noughts w.drew hzs hg hl

/-- what Concat of two leaves -/
def SCat2 (w : World) (l m : List Sp) (e : Ending) (w' : World) : Prop := ∃ A c, e = .returned (.slice A (l.length + m.length) c) ∧ Own w' w.heap.size 74 3 A (l.length + m.length) c (spCells (l ++ m)) ∧ Keep Never w w'
end Go.Proofs.YtpahfobijmmmmaaGreat
