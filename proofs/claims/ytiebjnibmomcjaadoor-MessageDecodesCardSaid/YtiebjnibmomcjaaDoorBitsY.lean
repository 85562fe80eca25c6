/- Plain laws on bits (no function of a law): numbers and bits back and forth; bytes that come in. -/
import Derived.Test.YtiebjnibmomcjaaDoorBitsM
import Derived.Test.YtiebjnibmomcjaaDoorRep
namespace Go.Proofs.YtiebjnibmomcjaaDoor
open Go.RowKit

theorem opens_bytes : Rep.Opens Tryd.prog 28 Rep.byte.list := Rep.opens_list Tryd.underlying28 (by kernel_rfl) (by decide) (Rep.opens_byte Tryd.underlying5)
theorem bytes_rd {w : World} {B n c : Nat} {A : Option Addr} {l : List Nat} (h : Rep.byte.Sl w B A n c l) : Rd w B 1 A n (l.map u8v) ∧ l.length = n ∧ ∀ x ∈ l, x < 256 := by
  obtain ⟨h1, _, _, _, css, h5, h6⟩ := h
  have hf : css.flatten = l.map u8v ∧ ∀ x ∈ l, x < 256 := by
    clear h5 h1
    induction l generalizing css with
    | nil => cases css with
      | nil => exact ⟨rfl, by simp⟩
      | cons c css => exact h6.elim
    | cons x l ih => cases css with
      | nil => exact h6.elim
      | cons c css =>
        obtain ⟨⟨hc, hx⟩, h⟩ := h6
        obtain ⟨h2, h3⟩ := ih css h
        subst hc
        refine ⟨by simp [h2], ?_⟩
        intro y hy
        rcases List.mem_cons.1 hy with rfl | hy
        · exact hx
        · exact h3 y hy
  exact ⟨by rw [← hf.1]; exact h5, h1.symm, hf.2⟩

theorem numOf_app_from (l m : List Bool) : ∀ a, (l ++ m).foldl (fun a b => 2 * a + b.toNat) a = m.foldl (fun a b => 2 * a + b.toNat) (l.foldl (fun a b => 2 * a + b.toNat) a) := by intro a; rw [List.foldl_append]
theorem numOf_from (m : List Bool) : ∀ a, m.foldl (fun a b => 2 * a + b.toNat) a = a * 2 ^ m.length + numOf m := by
  induction m with
  | nil => intro a; simp [numOf]
  | cons b m ih =>
    intro a
    have h1 := ih (2 * a + b.toNat)
    have h2 := ih (2 * 0 + b.toNat)
    simp only [numOf, List.foldl_cons, List.length_cons] at h1 h2 ⊢
    rw [h1, h2, Nat.pow_succ, Nat.add_mul, Nat.add_mul]
    generalize 2 ^ m.length = z
    rw [show 2 * a * z = a * (z * 2) by rw [Nat.mul_comm 2 a, Nat.mul_assoc, Nat.mul_comm 2 z]]
    omega
theorem numOf_app (l m : List Bool) : numOf (l ++ m) = numOf l * 2 ^ m.length + numOf m := by
  rw [numOf, numOf_app_from, numOf_from]; rfl

theorem bitOf_zero (n : Nat) (b : Bool) : bitOf (2 * n + b.toNat) 0 = b := by
  unfold bitOf
  cases b <;> simp <;> omega
theorem bitOf_succ (n d : Nat) (b : Bool) : bitOf (2 * n + b.toNat) (d + 1) = bitOf n d := by
  unfold bitOf
  rw [Nat.pow_succ, Nat.mul_comm (2 ^ d) 2, ← Nat.div_div_eq_div_mul]
  have : (2 * n + b.toNat) / 2 = n := by cases b <;> simp <;> omega
  rw [this]
theorem bitOf_chunk (l : List Bool) (i r : Nat) : ∀ d, bitOf (chunk l i (r + 1 + d)) d = bitAt l (i + r) := by
  intro d
  induction d with
  | zero => rw [Nat.add_zero, chunk, bitOf_zero]
  | succ d ih => rw [← Nat.add_assoc, chunk, bitOf_succ]; exact ih
theorem bits_ext {l m : List Bool} (h : l.length = m.length) (he : ∀ i, i < l.length → bitAt l i = bitAt m i) : l = m := by
  apply List.ext_getElem h
  intro i h1 h2
  have := he i h1
  simpa [bitAt, h1, h2] using this
theorem bitsB_bytesOf (l : List Bool) : bitsB (bytesOf l) = l ++ List.replicate (8 * ((l.length + 7) / 8) - l.length) false := by
  apply bits_ext
  · rw [length_bitsB, length_bytesOf, List.length_append, List.length_replicate]; omega
  · intro i hi
    rw [length_bitsB, length_bytesOf] at hi
    have hq : (bytesOf l)[i / 8]? = some (chunk l (8 * (i / 8)) 8) := by simp [bytesOf, bytesTo, show i / 8 < (l.length + 7) / 8 by omega]
    have h1 := bitAt_bitsB (bytesOf l) (i / 8) (i % 8) _ (by omega) hq
    rw [show 8 * (i / 8) + i % 8 = i by omega] at h1
    have h2 := bitOf_chunk l (8 * (i / 8)) (i % 8) (7 - i % 8)
    rw [show i % 8 + 1 + (7 - i % 8) = 8 by omega, show 8 * (i / 8) + i % 8 = i by omega] at h2
    rw [h1, h2]
    by_cases hl : i < l.length
    · simp [bitAt, List.getElem?_append_left hl]
    · rw [bitAt_end l (by omega)]
      simp only [bitAt]
      rw [List.getElem?_append_right (by omega)]
      simp only [List.getElem?_replicate]
      split <;> rfl
theorem numOf_bitsOf (n : Nat) : ∀ k, numOf (bitsOf n k) = n % 2 ^ k := by
  intro k
  induction k with
  | zero => simp [bitsOf, numOf, Nat.mod_one]
  | succ k ih =>
    have h1 : bitsOf n (k + 1) = [bitOf n k] ++ bitsOf n k := rfl
    rw [h1, numOf_app, length_bitsOf, ih]
    have h2 : numOf [bitOf n k] = n / 2 ^ k % 2 := by
      unfold bitOf
      have : n / 2 ^ k % 2 = 0 ∨ n / 2 ^ k % 2 = 1 := by omega
      rcases this with h | h <;> simp [numOf, h]
    rw [h2, Nat.pow_succ, Nat.mod_mul, Nat.mul_comm (n / 2 ^ k % 2)]
    omega


theorem numOf_cons (b : Bool) (l : List Bool) : numOf (b :: l) = b.toNat * 2 ^ l.length + numOf l := by
  have := numOf_app [b] l
  simpa [numOf] using this
theorem bitsOf_add (m c k : Nat) : ∀ j, j ≤ k → bitsOf (c * 2 ^ k + m) j = bitsOf m j := by
  intro j
  induction j with
  | zero => intro _; rfl
  | succ j ih =>
    intro hj
    have h1 : bitOf (c * 2 ^ k + m) j = bitOf m j := by
      unfold bitOf
      obtain ⟨d, rfl⟩ : ∃ d, k = j + 1 + d := ⟨k - (j + 1), by omega⟩
      have e : c * 2 ^ (j + 1 + d) + m = m + 2 ^ j * (2 * (c * 2 ^ d)) := by
        rw [Nat.pow_add, Nat.pow_succ]
        generalize 2 ^ j = x
        generalize 2 ^ d = y
        rw [Nat.add_comm]
        congr 1
        rw [Nat.mul_assoc x 2 y, Nat.mul_left_comm c x, ← Nat.mul_assoc c 2 y, Nat.mul_comm c 2, Nat.mul_assoc 2 c y]
      rw [e, Nat.add_mul_div_left _ _ (Nat.two_pow_pos j)]
      have : (m / 2 ^ j + 2 * (c * 2 ^ d)) % 2 = m / 2 ^ j % 2 := by omega
      rw [this]
    show bitOf _ j :: bitsOf _ j = bitOf _ j :: bitsOf _ j
    rw [h1, ih (by omega)]
theorem bitsOf_numOf : ∀ l : List Bool, bitsOf (numOf l) l.length = l
  | [] => rfl
  | b :: l => by
    show bitOf (numOf (b :: l)) l.length :: bitsOf (numOf (b :: l)) l.length = b :: l
    have hlt := numOf_lt l
    rw [numOf_cons, bitsOf_add _ _ _ _ (Nat.le_refl _), bitsOf_numOf l]
    congr 1
    unfold bitOf
    rw [Nat.mul_comm, Nat.mul_add_div (Nat.two_pow_pos _), Nat.div_eq_of_lt hlt]
    cases b <;> rfl

end Go.Proofs.YtiebjnibmomcjaaDoor
