/- Chapter 14 (place): Right, Turn, over, along. -/
import Derived.Test.YtijdkjcjhfebfaaGreatBdPlcA
import Derived.Test.YtijdkjcjhfebfaaGreatBdTopP
namespace Go.Proofs.YtijdkjcjhfebfaaGreat
open Go.RowKit

abbrev psV (p : Ps) : Value := .agg #[.int .i64 p.1, .int .i64 p.2.1, .bool p.2.2]
theorem edge_at {w : World} {B : Nat} {x : TA} {t : Tp} {e : Int} (h : TpAt w B x t) (h0 : 0 ≤ e) (h1 : e < (x.ne : Int)) : ∃ ad k v, x.Ae = some ad ∧ e = ((k : Nat) : Int) ∧ k < x.ne ∧ w.cell? (ad.add k) = some (.int .i64 v) ∧ edgeM t e = v := by
  obtain ⟨k, rfl⟩ : ∃ k : Nat, e = k := ⟨e.toNat, by omega⟩
  have hl := h.e.len
  obtain ⟨ad, v, hA, hb, hv, hc⟩ := (int_rd h.e).at1 (show k < x.ne by omega)
  refine ⟨ad, k, v, hA, rfl, by omega, hc, ?_⟩
  unfold edgeM
  rw [show ((k : Nat) : Int).toNat = k by omega, List.getD_eq_getElem?_getD, hv]; rfl

theorem ps3_blk {w : World} {b t : Nat} {u0 u1 u2 : Value} (h : Blk w b t #[u0, u1, u2]) (v0 v1 v2 : Value) : Blk (((w.setCell ⟨b, 0, none⟩ v0).setCell ⟨b, 1, none⟩ v1).setCell ⟨b, 2, none⟩ v2) b t #[v0, v1, v2] := by
  have := ((h.set_ 0 v0).set_ 1 v1).set_ 2 v2
  simpa using this
theorem ps3_keep {S : Nat → Prop} {w0 w : World} {b : Nat} (h : Keep S w0 w) (hb : S b ∨ w0.heap.size ≤ b) (v0 v1 v2 : Value) : Keep S w0 (((w.setCell ⟨b, 0, none⟩ v0).setCell ⟨b, 1, none⟩ v1).setCell ⟨b, 2, none⟩ v2) :=
  ((h.set_ (p := ⟨b, 0, none⟩) hb v0).set_ (p := ⟨b, 1, none⟩) hb v1).set_ (p := ⟨b, 2, none⟩) hb v2
/-- a place is answered -/
def PsRet (p : Ps) (w : World) (e : Ending) (w' : World) : Prop := e = .returned (psV p) ∧ Keep Never w w'
/-- a place and an error are answered -/
def PsRet2 (p : Ps × Int) (w : World) (e : Ending) (w' : World) : Prop := e = .returned (.tuple #[psV p.1, .int .i64 p.2]) ∧ Keep Never w w'

end Go.Proofs.YtijdkjcjhfebfaaGreat
