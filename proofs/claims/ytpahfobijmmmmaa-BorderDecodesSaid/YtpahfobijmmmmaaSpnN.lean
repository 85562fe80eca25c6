/- Chapter 15: the chapter's examples; SpanNormal. -/
import Derived.Test.YtpahfobijmmmmaaSpnM
namespace Go.Proofs.Ytpahfobijmmmmaa
open Go.RowKit

def aw0 : List Sp := [(1, 5, 9), (0, 0, 3), (1, 9, 12), (0, 5, 5)]
def aw1 : List Sp := [(0, 0, 3), (1, 5, 12)]
def aw2 : List Sp := [(0, 0, 3), (1, 5, 6), (1, 7, 12)]
theorem aw_norm : NormOf aw0 aw1 := norm_of (l := aw0) (all := [(0, 0, 3), (1, 5, 9), (1, 9, 12)]) (by decide +kernel) (by simp [leS])
theorem aw_cut : NormalS [((1 : Int), (6 : Int), (7 : Int))] := ⟨by simp [someS], by simp⟩
theorem aw_minus : KeptIs aw1 [(1, 6, 7)] false aw2 := by
  refine ⟨⟨by simp [aw2, someS], by simp [aw2, sepS]⟩, fun e x => ?_⟩
  have h := piecesM_has false aw_norm.1 aw_cut e x
  have h2 : keptM false (piecesM aw1 [(1, 6, 7)]) = aw2 := by decide +kernel
  rwa [h2] at h
theorem SpAt.here {w w' : World} {n c : Nat} {A : Option Addr} {l : List Sp} (h : SpAt w w.heap.size A n c l) (hk : Keep Never w w') : SpAt w' w'.heap.size A n c l := (h.keep hk).more hk.size
theorem same15_self (l : List Sp) (A A' : Option Addr) (n n' c c' B B' : Nat) (w : World) (hr : Rd w B 3 A n (spCells l)) (hr' : Rd w B' 3 A' n' (spCells l)) (hn : n ≤ 100000000000) (hn' : n' ≤ 100000000000) :
    Calls Try.prog 34 #[.slice A n c, .slice A' n' c'] w fun e w' => e = .returned (.bool true) ∧ Keep Never w w' := by
  have h := same15_any l l A A' n n' c c' B B' w hr hr' hn hn'
  rwa [decide_eq_true rfl] at h
theorem KeptIs.one {a b m n : List Sp} {which : Bool} (h : KeptIs a b which m) (h' : KeptIs a b which n) : m = n := normal_one h.1 h'.1 (fun e x => (h.2 e x).trans (h'.2 e x).symm)

end Go.Proofs.Ytpahfobijmmmmaa
