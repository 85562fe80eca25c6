/- Chapter 6: Decode in the document's order of asking, plainly. -/
import Derived.Test.YtiebjnibmomcjaaDoorMsgP
import Derived.Test.YtiebjnibmomcjaaDoorBdRf6P
namespace Go.Proofs.YtiebjnibmomcjaaDoor
open Go.RowKit

theorem takeB0 (l : List Bool) (v : Int) : takeB l 0 v = (getN l (vWidth v), getL l (vWidth v), getE l.length (vWidth v)) := by unfold takeB; rw [if_neg (by simp)]
theorem takeBe {e : Int} (l : List Bool) (v : Int) (h : e ≠ 0) : takeB l e v = (0, l, e) := by unfold takeB; rw [if_pos h]
/-- an error stays -/
theorem dec6_key (b : List Nat) (i x : Int) (l : List Bool) {e : Int} (he : e ≠ 0) : tailM b i (onesM (headM i ++ ((formM i).getD ([], 0, [])).1) l (errB b.length x e)) = .error e := by
  have hB : errB b.length x e = e := by unfold errB; rw [if_neg (fun hc => he hc.1)]
  have h1 := onesM_err (headM i ++ ((formM i).getD ([], 0, [])).1) l e he
  rw [hB, tailM_err (by rw [h1]; exact he), h1]
theorem dec6_e0 {b : List Nat} (h : getE (bitsB b).length 8 ≠ 0) : DecodeM b = .error (getE (bitsB b).length 8) := by
  unfold DecodeM
  simp only
  rw [takeB0, wid0]
  simp only
  have hA : errA (getN (bitsB b) 8) (getE (bitsB b).length 8) = getE (bitsB b).length 8 := by unfold errA; rw [if_neg (fun hc => h hc.1)]
  rw [hA, takeBe _ _ h]
  exact dec6_key _ _ _ _ h
theorem dec6_none {b : List Nat} (h : getE (bitsB b).length 8 = 0) (hf : formM (getN (bitsB b) 8) = none) : DecodeM b = .error 4 := by
  unfold DecodeM
  simp only
  rw [takeB0, wid0]
  simp only
  have hA : errA (getN (bitsB b) 8) (getE (bitsB b).length 8) = 4 := by unfold errA; rw [if_pos ⟨h, by rw [hf]; rfl⟩]
  rw [hA, takeBe (e := 4) _ _ (by decide)]
  exact dec6_key _ _ _ _ (e := 4) (by decide)
theorem dec6_some {b : List Nat} (h : getE (bitsB b).length 8 = 0) {f : List Int × Int × List Int} (hf : formM (getN (bitsB b) 8) = some f) :
    DecodeM b = tailM b (getN (bitsB b) 8) (onesM (headM (getN (bitsB b) 8) ++ f.1) (getL (getL (bitsB b) 8) 10) (errB b.length (getN (getL (bitsB b) 8) 10) (getE (getL (bitsB b) 8).length 10))) := by
  unfold DecodeM
  simp only
  rw [takeB0, wid0]
  simp only
  have hA : errA (getN (bitsB b) 8) (getE (bitsB b).length 8) = 0 := by unfold errA; rw [if_neg (fun hc => by rw [hf] at hc; exact absurd hc.2 (by simp)), h]
  rw [hA, takeB0, wid1, hf]
  rfl
theorem dec6_e1 {b : List Nat} (h : getE (bitsB b).length 8 = 0) {f : List Int × Int × List Int} (hf : formM (getN (bitsB b) 8) = some f) (h1 : getE (getL (bitsB b) 8).length 10 ≠ 0) : DecodeM b = .error (getE (getL (bitsB b) 8).length 10) := by
  rw [dec6_some h hf]
  have := dec6_key b (getN (bitsB b) 8) (getN (getL (bitsB b) 8) 10) (getL (getL (bitsB b) 8) 10) h1
  rw [hf] at this
  exact this
theorem dec6_size {b : List Nat} (h : getE (bitsB b).length 8 = 0) {f : List Int × Int × List Int} (hf : formM (getN (bitsB b) 8) = some f) (h1 : getE (getL (bitsB b) 8).length 10 = 0) (h2 : getN (getL (bitsB b) 8) 10 ≠ b.length) : DecodeM b = .error 8 := by
  rw [dec6_some h hf]
  have hB : errB b.length (getN (getL (bitsB b) 8) 10) (getE (getL (bitsB b) 8).length 10) = 8 := by unfold errB; rw [if_pos ⟨h1, h2⟩]
  have h3 := onesM_err (headM (getN (bitsB b) 8) ++ f.1) (getL (getL (bitsB b) 8) 10) 8 (by decide)
  rw [hB, tailM_err (by rw [h3]; decide), h3]
theorem dec6_ones {b : List Nat} (h : getE (bitsB b).length 8 = 0) {f : List Int × Int × List Int} (hf : formM (getN (bitsB b) 8) = some f) (h1 : getE (getL (bitsB b) 8).length 10 = 0) (h2 : getN (getL (bitsB b) 8) 10 = b.length) :
    DecodeM b = tailM b (getN (bitsB b) 8) (onesM (headM (getN (bitsB b) 8) ++ f.1) (getL (getL (bitsB b) 8) 10) 0) := by
  rw [dec6_some h hf]
  have hB : errB b.length (getN (getL (bitsB b) 8) 10) (getE (getL (bitsB b) 8).length 10) = 0 := by unfold errB; rw [if_neg (fun hc => hc.2 h2), h1]
  rw [hB]
theorem ones6_split {names : List Int} {j : Nat} {v : Int} (h : names[j]? = some v) (l : List Bool) : onesM names l 0 =
    ((onesM (names.take (j + 1)) l 0).1 ++ (onesM (names.drop (j + 1)) (onesM (names.take (j + 1)) l 0).2.1 (onesM (names.take (j + 1)) l 0).2.2).1, (onesM (names.drop (j + 1)) (onesM (names.take (j + 1)) l 0).2.1 (onesM (names.take (j + 1)) l 0).2.2).2) := by
  have := onesM_app (names.take (j + 1)) (names.drop (j + 1)) l 0
  rwa [List.take_append_drop] at this
theorem ones6_short {names : List Int} {j : Nat} {v : Int} {l lj : List Bool} {vs : List Int} (h : names[j]? = some v) (h0 : onesM (names.take j) l 0 = (vs, lj, 0)) (hg : getE lj.length (vWidth v) ≠ 0) : (onesM names l 0).2.2 = getE lj.length (vWidth v) := by
  have ho : oneB lj 0 v = (getN lj (vWidth v), getL lj (vWidth v), getE lj.length (vWidth v)) := by unfold oneB; rw [takeB0, if_neg (fun hc => hg hc.1)]
  rw [ones6_split h, onesM_take h, h0]
  simp only
  rw [ho]
  exact onesM_err _ _ _ hg
theorem ones6_may {names : List Int} {j : Nat} {v : Int} {l lj : List Bool} {vs : List Int} (h : names[j]? = some v) (h0 : onesM (names.take j) l 0 = (vs, lj, 0)) (hg : getE lj.length (vWidth v) = 0) (hm : vMay v (getN lj (vWidth v)) = false) : (onesM names l 0).2.2 = 20 := by
  have ho : oneB lj 0 v = (getN lj (vWidth v), getL lj (vWidth v), 20) := by unfold oneB; rw [takeB0, if_pos ⟨hg, hm⟩]
  rw [ones6_split h, onesM_take h, h0]
  simp only
  rw [ho]
  exact onesM_err _ _ (20 : Int) (show (20 : Int) ≠ 0 by decide)
theorem ones6_next {names : List Int} {j : Nat} {v : Int} {l lj : List Bool} {vs : List Int} (h : names[j]? = some v) (h0 : onesM (names.take j) l 0 = (vs, lj, 0)) (hg : getE lj.length (vWidth v) = 0) (hm : vMay v (getN lj (vWidth v)) = true) : onesM (names.take (j + 1)) l 0 = (vs ++ [getN lj (vWidth v)], getL lj (vWidth v), 0) := by
  have ho : oneB lj 0 v = (getN lj (vWidth v), getL lj (vWidth v), getE lj.length (vWidth v)) := by unfold oneB; rw [takeB0, if_neg (fun hc => by rw [hm] at hc; cases hc.2)]
  rw [onesM_take h, h0]
  simp only
  rw [ho, hg]
theorem names6_at {l : List Int} {j : Nat} {s : ByteArray} (h : (namesS l)[j]? = some s) : ∃ v, l[j]? = some v ∧ s = vName v.toNat := by
  unfold namesS at h
  rw [List.getElem?_map] at h
  cases hv : l[j]? with
  | none => rw [hv] at h; cases h
  | some v => rw [hv] at h; injection h with h; exact ⟨v, rfl, h.symm⟩
theorem getL_le (l : List Bool) (k : Int) : (getL l k).length ≤ l.length := by unfold getL; split <;> simp
theorem parts_up {id : Int} (h : upM id = true) (a b : Int) (r : List Int) : partsM id (a :: b :: r) = (a, 0, b, r) := by unfold partsM; rw [if_pos h]; rfl
theorem parts_down {id : Int} (h : upM id = false) (a b c : Int) (r : List Int) : partsM id (a :: b :: c :: r) = (a, b, c, r) := by unfold partsM; rw [if_neg (by rw [h]; simp)]; rfl
/-- behind the numbers -/
theorem tail6 {b : List Nat} {id : Int} {vs : List Int} {l8 : List Bool} : tailM b id (vs, l8, 0) = match packsG b (8 * b.length) (8 * (b.length : Int) - l8.length) with
    | .error e => .error e
    | .ok s =>
      if blankM b (usedM id s.1) = false then .error 8
      else if fitsM ((formM id).getD ([], 0, [])).2.1 ((formM id).getD ([], 0, [])).2.2 (s.1.map (·.1)) = false then .error 50
      else .ok (id, (partsM id vs).1, (partsM id vs).2.1, (partsM id vs).2.2.1, (partsM id vs).2.2.2, s.1) := by
  unfold tailM
  rw [if_neg (by simp)]
  rfl

end Go.Proofs.YtiebjnibmomcjaaDoor
