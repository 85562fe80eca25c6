/- Plain laws for BitsBack: what was put comes out again. -/
import Derived.Test.YtfkmcohefppanaaBitsQ
import Derived.Test.YtfkmcohefppanaaBitsP
namespace Go.Proofs.Ytfkmcohefppanaa
open Go.RowKit

theorem bitOf_zero (n : Nat) (b : Bool) : bitOf (2 * n + b.toNat) 0 = b := by
  unfold bitOf
  cases b <;> simp <;> omega
theorem bitOf_succ (n d : Nat) (b : Bool) : bitOf (2 * n + b.toNat) (d + 1) = bitOf n d := by
  unfold bitOf
  rw [Nat.pow_succ, Nat.mul_comm (2 ^ d) 2, ← Nat.div_div_eq_div_mul]
  have : (2 * n + b.toNat) / 2 = n := by cases b <;> simp <;> omega
  rw [this]
theorem bitOf_chunk (l : List Bool) (i r : Nat) : ∀ d, bitOf (chunk l i (r + 1 + d)) d = bitAt l (i + r) := by
  intro d
  induction d with
  | zero => rw [Nat.add_zero, chunk, bitOf_zero]
  | succ d ih => rw [← Nat.add_assoc, chunk, bitOf_succ]; exact ih
theorem bits_ext {l m : List Bool} (h : l.length = m.length) (he : ∀ i, i < l.length → bitAt l i = bitAt m i) : l = m := by
  apply List.ext_getElem h
  intro i h1 h2
  have := he i h1
  simpa [bitAt, h1, h2] using this
theorem bitsB_bytesOf (l : List Bool) : bitsB (bytesOf l) = l ++ List.replicate (8 * ((l.length + 7) / 8) - l.length) false := by
  apply bits_ext
  · rw [length_bitsB, length_bytesOf, List.length_append, List.length_replicate]; omega
  · intro i hi
    rw [length_bitsB, length_bytesOf] at hi
    have hq : (bytesOf l)[i / 8]? = some (chunk l (8 * (i / 8)) 8) := by simp [bytesOf, bytesTo, show i / 8 < (l.length + 7) / 8 by omega]
    have h1 := bitAt_bitsB (bytesOf l) (i / 8) (i % 8) _ (by omega) hq
    rw [show 8 * (i / 8) + i % 8 = i by omega] at h1
    have h2 := bitOf_chunk l (8 * (i / 8)) (i % 8) (7 - i % 8)
    rw [show i % 8 + 1 + (7 - i % 8) = 8 by omega, show 8 * (i / 8) + i % 8 = i by omega] at h2
    rw [h1, h2]
    by_cases hl : i < l.length
    · simp [bitAt, List.getElem?_append_left hl]
    · rw [bitAt_end l (by omega)]
      simp only [bitAt]
      rw [List.getElem?_append_right (by omega)]
      simp only [List.getElem?_replicate]
      split <;> rfl
theorem numOf_bitsOf (n : Nat) : ∀ k, numOf (bitsOf n k) = n % 2 ^ k := by
  intro k
  induction k with
  | zero => simp [bitsOf, numOf, Nat.mod_one]
  | succ k ih =>
    have h1 : bitsOf n (k + 1) = [bitOf n k] ++ bitsOf n k := rfl
    rw [h1, numOf_app, length_bitsOf, ih]
    have h2 : numOf [bitOf n k] = n / 2 ^ k % 2 := by
      unfold bitOf
      have : n / 2 ^ k % 2 = 0 ∨ n / 2 ^ k % 2 = 1 := by omega
      rcases this with h | h <;> simp [numOf, h]
    rw [h2, Nat.pow_succ, Nat.mod_mul, Nat.mul_comm (n / 2 ^ k % 2)]
    omega

/-- what is laid down, and what of -/
def backStep (s : List Bool × List Item) (x : Item) : List Bool × List Item := if putE s.1.length x.N x.Width = 0 then (s.1 ++ bitsOf x.N.toNat x.Width.toNat, s.2 ++ [x]) else s
def back (l : List Item) : List Bool × List Item := l.foldl backStep ([], [])
theorem back_snoc (l : List Item) {i : Nat} {x : Item} (h : l[i]? = some x) : back (l.take (i + 1)) = backStep (back (l.take i)) x := by
  obtain ⟨h1, h2⟩ := List.getElem?_eq_some_iff.1 h
  rw [List.take_succ_eq_append_getElem h1, h2]
  simp [back]
def itemBits (x : Item) : List Bool := bitsOf x.N.toNat x.Width.toNat
theorem putE_zero {len : Nat} {n width : Int} (h : putE len n width = 0) : mayB n width = true ∧ (len : Int) + width ≤ 8184 := by
  unfold putE at h
  split at h
  · omega
  · split at h
    · omega
    · rename_i h1 h2
      exact ⟨by simpa using h1, by omega⟩
structure BackInv (s : List Bool × List Item) : Prop where
  bits : s.1 = s.2.flatMap itemBits
  may : ∀ x ∈ s.2, mayB x.N x.Width = true
theorem back_inv_step {s : List Bool × List Item} (h : BackInv s) (x : Item) : BackInv (backStep s x) := by
  unfold backStep
  split
  · rename_i he
    refine ⟨by rw [h.bits]; simp [itemBits], fun y hy => ?_⟩
    rcases List.mem_append.1 hy with hy | hy
    · exact h.may y hy
    · simp at hy; subst hy; exact (putE_zero he).1
  · exact h
theorem back_inv_from (l : List Item) : ∀ s, BackInv s → BackInv (l.foldl backStep s) := by
  induction l with
  | nil => intro s h; exact h
  | cons x l ih => intro s h; exact ih _ (back_inv_step h x)
theorem back_inv (l : List Item) : BackInv (back l) := back_inv_from l _ ⟨rfl, by simp⟩
theorem back_len_from (l : List Item) : ∀ s : List Bool × List Item, (l.foldl backStep s).2.length ≤ s.2.length + l.length := by
  induction l with
  | nil => intro s; simp
  | cons x l ih =>
    intro s
    have := ih (backStep s x)
    have h1 : (backStep s x).2.length ≤ s.2.length + 1 := by
      unfold backStep; split
      · simp
      · omega
    simp only [List.foldl_cons, List.length_cons]; omega
theorem back_len (l : List Item) : (back l).2.length ≤ l.length := by
  have := back_len_from l ([], [])
  simpa [back] using this

/-- the i-th comes out at its place -/
theorem back_get {bs : List Bool} {ins : List Item} (h : BackInv (bs, ins)) {i : Nat} {x : Item} (hx : ins[i]? = some x) :
    getN (leftB (bytesOf bs) ((ins.take i).flatMap itemBits).length) x.Width = x.N ∧ getE (leftB (bytesOf bs) ((ins.take i).flatMap itemBits).length).length x.Width = 0 ∧
      ((ins.take (i + 1)).flatMap itemBits).length = ((ins.take i).flatMap itemBits).length + x.Width.toNat := by
  obtain ⟨hi, hxi⟩ := List.getElem?_eq_some_iff.1 hx
  have hm := h.may x (List.mem_of_getElem? hx)
  obtain ⟨m1, m2, m3, m4⟩ := mayB_iff.1 hm
  have hsplit : ins = ins.take i ++ x :: ins.drop (i + 1) := by
    rw [← hxi, ← List.drop_eq_getElem_cons hi, List.take_append_drop]
  have hb : bs = (ins.take i).flatMap itemBits ++ (itemBits x ++ (ins.drop (i + 1)).flatMap itemBits) := by
    have h1 := h.bits
    simp only at h1
    rw [h1]
    conv => lhs; rw [hsplit]
    simp
  have hlen : (itemBits x).length = x.Width.toNat := length_bitsOf _ _
  generalize hP : (ins.take i).flatMap itemBits = P at *
  generalize hR : (ins.drop (i + 1)).flatMap itemBits = R at *
  have hL : ∃ Z, leftB (bytesOf bs) P.length = itemBits x ++ Z := by
    refine ⟨R ++ List.replicate (8 * ((bs.length + 7) / 8) - bs.length) false, ?_⟩
    rw [leftB, bitsB_bytesOf]
    generalize List.replicate (8 * ((bs.length + 7) / 8) - bs.length) false = T
    rw [hb]
    simp
  obtain ⟨Z, hZ⟩ := hL
  refine ⟨?_, ?_, ?_⟩
  · rw [getN, if_neg (by rw [hZ, List.length_append]; omega), hZ, List.take_left' hlen, itemBits, numOf_bitsOf, Nat.mod_eq_of_lt (by omega)]
    omega
  · rw [getE, if_neg (by omega), if_neg (by rw [hZ, List.length_append]; omega)]
  · rw [List.take_succ_eq_append_getElem hi, hxi, List.flatMap_append, hP, List.length_append]
    simp [hlen]

/-- behind the last one only noughts are left -/
theorem back_pad {bs : List Bool} {k : Nat} (h1 : bs.length ≤ k) (h2 : k < 8 * (bytesOf bs).length) : getN (leftB (bytesOf bs) k) 1 = 0 ∧ getE (leftB (bytesOf bs) k).length 1 = 0 := by
  have hl := length_leftB (bytesOf bs) k
  refine ⟨?_, ?_⟩
  · rw [getN, if_neg (by omega)]
    have hz : bitAt (leftB (bytesOf bs) k) 0 = false := by
      rw [bitAt_leftB, Nat.add_zero, bitsB_bytesOf]
      simp only [bitAt]
      rw [List.getElem?_append_right h1]
      simp only [List.getElem?_replicate]
      split <;> rfl
    have ht := take_bit (leftB (bytesOf bs) k) 0 (by omega)
    rw [hz] at ht
    rw [show (1 : Int).toNat = 0 + 1 from rfl, ht]
    rfl
  · rw [getE, if_neg (by omega), if_neg (by omega)]

end Go.Proofs.Ytfkmcohefppanaa
