/- Plain laws of bits: numbers as bits, bits as bytes. No program. -/
import Derived.Test.YtiebjnibmomcjaaDoorRep
namespace Go.Proofs.YtiebjnibmomcjaaDoor
open Go.RowKit

theorem int_eq {k : IntKind} {a b : Int} (h : a = b) : Value.int k a = Value.int k b := by rw [h]
theorem ret_int {k : IntKind} {a b : Int} (h : a = b) : Ending.returned (.int k a) = .returned (.int k b) := by rw [h]
theorem ret_bool {a b : Bool} (h : a = b) : Ending.returned (.bool a) = .returned (.bool b) := by rw [h]
theorem pow_pos' (k : Nat) : 1 ≤ ((2 ^ k : Nat) : Int) := by
  have := Nat.one_le_two_pow (n := k); omega
theorem pow_le32 {k : Nat} (hk : k ≤ 32) : ((2 ^ k : Nat) : Int) ≤ 4294967296 := by
  have : 2 ^ k ≤ 2 ^ 32 := Nat.pow_le_pow_right (by omega) hk
  have h : (2 : Nat) ^ 32 = 4294967296 := by decide
  omega

/-- may n be put in so many bits? -/
def mayB (n width : Int) : Bool := decide (1 ≤ width ∧ width ≤ 32 ∧ 0 ≤ n ∧ n < ((2 ^ width.toNat : Nat) : Int))
theorem mayB_iff {n width : Int} : mayB n width = true ↔ 1 ≤ width ∧ width ≤ 32 ∧ 0 ≤ n ∧ n < ((2 ^ width.toNat : Nat) : Int) := by simp [mayB]

/-- bit k of n -/
def bitOf (n k : Nat) : Bool := n / 2 ^ k % 2 == 1
/-- the width low bits of n, the most significant first -/
def bitsOf (n : Nat) : Nat → List Bool
  | 0 => []
  | k + 1 => bitOf n k :: bitsOf n k
theorem length_bitsOf (n k : Nat) : (bitsOf n k).length = k := by induction k with | zero => rfl | succ k ih => simp [bitsOf, ih]
/-- those ahead of the last j -/
def bitsFrom (n width j : Nat) : List Bool := (bitsOf n width).take (width - j)

theorem bitsOf_take (n : Nat) : ∀ (width j : Nat), j < width → (bitsOf n width).take (width - j) = (bitsOf n width).take (width - (j + 1)) ++ [bitOf n j] := by
  intro width
  induction width with
  | zero => intro j h; omega
  | succ k ih =>
    intro j h
    by_cases hj : j = k
    · subst hj
      have e1 : j + 1 - j = 1 := by omega
      have e2 : j + 1 - (j + 1) = 0 := by omega
      rw [e1, e2]; simp [bitsOf]
    · have e1 : k + 1 - j = (k - j) + 1 := by omega
      have e2 : k + 1 - (j + 1) = (k - (j + 1)) + 1 := by omega
      rw [e1, e2]
      simp only [bitsOf, List.take_succ_cons, List.cons_append, List.cons.injEq, true_and]
      exact ih j (by omega)

/-- the error of a put -/
def putE (len : Nat) (n width : Int) : Int := if mayB n width = false then 1 else if (len : Int) + width > 8184 then 2 else 0
def putL (l : List Bool) (n width : Int) : List Bool := if putE l.length n width = 0 then l ++ bitsOf n.toNat width.toNat else l

/-- the number of bits -/
def numOf (l : List Bool) : Nat := l.foldl (fun a b => 2 * a + b.toNat) 0
theorem numOf_snoc (l : List Bool) (b : Bool) : numOf (l ++ [b]) = 2 * numOf l + b.toNat := by simp [numOf]
theorem numOf_lt_from (l : List Bool) : ∀ a : Nat, l.foldl (fun a b => 2 * a + b.toNat) a < (a + 1) * 2 ^ l.length := by
  induction l with
  | nil => intro a; simp
  | cons b l ih =>
    intro a
    have h := ih (2 * a + b.toNat)
    have hb : b.toNat ≤ 1 := by cases b <;> simp
    have h2 : (2 * a + b.toNat + 1) * 2 ^ l.length ≤ ((a + 1) * 2) * 2 ^ l.length := Nat.mul_le_mul_right _ (by omega)
    simp only [List.foldl_cons, List.length_cons, Nat.pow_succ]
    rw [Nat.mul_comm (2 ^ l.length) 2, ← Nat.mul_assoc]
    omega
theorem numOf_lt (l : List Bool) : numOf l < 2 ^ l.length := by
  have := numOf_lt_from l 0
  simpa [numOf] using this

/-- bit i of a list, nought behind its end -/
def bitAt (l : List Bool) (i : Nat) : Bool := l[i]?.getD false
/-- the number of j bits from place i on -/
def chunk (l : List Bool) (i : Nat) : Nat → Nat
  | 0 => 0
  | j + 1 => 2 * chunk l i j + (bitAt l (i + j)).toNat
theorem chunk_lt (l : List Bool) (i j : Nat) : chunk l i j < 2 ^ j := by
  induction j with
  | zero => simp [chunk]
  | succ j ih => rw [chunk, Nat.pow_succ]; cases bitAt l (i + j) <;> simp <;> omega
theorem chunk_le (l : List Bool) (i : Nat) {j : Nat} (h : j ≤ 8) : chunk l i j ≤ 255 := by
  have h1 := chunk_lt l i j
  have h2 : 2 ^ j ≤ 2 ^ 8 := Nat.pow_le_pow_right (by omega) h
  omega
/-- bits, eight to a byte -/
def bytesTo (l : List Bool) (q : Nat) : List Nat := (List.range q).map fun i => chunk l (8 * i) 8
def bytesOf (l : List Bool) : List Nat := bytesTo l ((l.length + 7) / 8)
theorem bytesTo_succ (l : List Bool) (q : Nat) : bytesTo l (q + 1) = bytesTo l q ++ [chunk l (8 * q) 8] := by simp [bytesTo, List.range_succ]
theorem length_bytesTo (l : List Bool) (q : Nat) : (bytesTo l q).length = q := by simp [bytesTo]
theorem bytesTo_lt (l : List Bool) (q : Nat) : ∀ x ∈ bytesTo l q, x < 256 := by
  intro x hx
  simp only [bytesTo, List.mem_map] at hx
  obtain ⟨i, _, rfl⟩ := hx
  have := chunk_le l (8 * i) (Nat.le_refl 8)
  omega

/-- the bits of bytes -/
def bitsB (b : List Nat) : List Bool := b.flatMap fun n => bitsOf n 8

/-- what the document's Get answers -/
def getN (l : List Bool) (width : Int) : Int := if width < 1 ∨ 32 < width ∨ (l.length : Int) < width then 0 else numOf (l.take width.toNat)
def getL (l : List Bool) (width : Int) : List Bool := if width < 1 ∨ 32 < width ∨ (l.length : Int) < width then l else l.drop width.toNat
def getE (len : Nat) (width : Int) : Int := if width < 1 ∨ 32 < width then 1 else if (len : Int) < width then 10 else 0

theorem numOf_le32 (l : List Bool) {k : Nat} (hk : k ≤ 32) (h : l.length ≤ k) : numOf l ≤ 4294967295 := by
  have h1 := numOf_lt l
  have h2 : 2 ^ l.length ≤ 2 ^ 32 := Nat.pow_le_pow_right (by omega) (by omega)
  have h3 : (2 : Nat) ^ 32 = 4294967296 := by decide
  omega
theorem take_bit (l : List Bool) (k : Nat) (h : k < l.length) : l.take (k + 1) = l.take k ++ [bitAt l k] := by
  rw [List.take_succ_eq_append_getElem h]
  simp [bitAt, h]

theorem shift_nat (x k : Nat) : (x : Int) / 2 ^ k = ((x / 2 ^ k : Nat) : Int) := by
  rw [Int.natCast_ediv, Int.natCast_pow]; rfl
theorem shift_big {x k : Nat} (h : 2 ^ k ≤ x) : ((x : Int) / 2 ^ k != 0) = true := by
  have := Nat.div_pos h (Nat.two_pow_pos k)
  rw [shift_nat, bne_iff_ne]; omega
theorem shift_small {x k : Nat} (h : x < 2 ^ k) : ((x : Int) / 2 ^ k != 0) = false := by
  have := Nat.div_eq_of_lt h
  rw [shift_nat, this]; rfl

/-- the bytes that are there once there is room for one bit more -/
def padL (l : List Bool) : List Nat := if l.length % 8 = 0 then bytesOf l ++ [0] else bytesOf l
theorem length_bytesOf (l : List Bool) : (bytesOf l).length = (l.length + 7) / 8 := length_bytesTo _ _
theorem length_padL (l : List Bool) : (padL l).length = l.length / 8 + 1 := by
  unfold padL
  by_cases h : l.length % 8 = 0
  · rw [if_pos h, List.length_append, length_bytesOf, List.length_singleton]; omega
  · rw [if_neg h, length_bytesOf]; omega
theorem bitAt_snoc (l : List Bool) (b : Bool) {i : Nat} (h : i < l.length) : bitAt (l ++ [b]) i = bitAt l i := by simp [bitAt, List.getElem?_append_left h]
theorem bitAt_last (l : List Bool) (b : Bool) : bitAt (l ++ [b]) l.length = b := by simp [bitAt]
theorem bitAt_end (l : List Bool) {i : Nat} (h : l.length ≤ i) : bitAt l i = false := by simp [bitAt, h]
theorem chunk_snoc (l : List Bool) (b : Bool) (i : Nat) : ∀ j, i + j ≤ l.length → chunk (l ++ [b]) i j = chunk l i j := by
  intro j
  induction j with
  | zero => intro _; rfl
  | succ j ih => intro h; rw [chunk, chunk, ih (by omega), bitAt_snoc l b (by omega)]
theorem chunk_pad (l : List Bool) (i j : Nat) (h : l.length ≤ i + j) : ∀ d, chunk l i (j + d) = chunk l i j * 2 ^ d := by
  intro d
  induction d with
  | zero => simp
  | succ d ih =>
    rw [← Nat.add_assoc, chunk, ih, bitAt_end l (by omega), Nat.pow_succ]
    simp only [Bool.toNat_false]
    rw [Nat.add_zero, Nat.mul_comm 2, Nat.mul_assoc]
theorem chunk_end (l : List Bool) (i d : Nat) (h : l.length ≤ i) : chunk l i d = 0 := by
  have := chunk_pad l i 0 (by omega) d
  simpa [chunk] using this
/-- the last byte's number, once a bit stands behind -/
theorem chunk_last (l : List Bool) (b : Bool) {q r : Nat} (hl : l.length = 8 * q + r) (hr : r < 8) :
    chunk (l ++ [b]) (8 * q) 8 = chunk l (8 * q) 8 + b.toNat * 2 ^ (7 - r) ∧ chunk l (8 * q) 8 = chunk l (8 * q) r * 2 ^ (8 - r) := by
  have e1 : chunk l (8 * q) 8 = chunk l (8 * q) r * 2 ^ (8 - r) := by
    have := chunk_pad l (8 * q) r (by omega) (8 - r)
    rwa [show r + (8 - r) = 8 by omega] at this
  refine ⟨?_, e1⟩
  have h2 := chunk_pad (l ++ [b]) (8 * q) (r + 1) (by simp; omega) (7 - r)
  rw [show r + 1 + (7 - r) = 8 by omega] at h2
  rw [h2, chunk, chunk_snoc l b _ r (by omega), e1, show 8 * q + r = l.length by omega, bitAt_last, Nat.add_mul, show 8 - r = (7 - r) + 1 by omega, Nat.pow_succ]
  congr 1
  rw [Nat.mul_comm 2, Nat.mul_assoc, Nat.mul_comm 2]
theorem padL_get (l : List Bool) {i : Nat} (h : i < l.length / 8 + 1) : (padL l)[i]? = some (chunk l (8 * i) 8) := by
  unfold padL
  by_cases h8 : l.length % 8 = 0
  · rw [if_pos h8]
    by_cases hi : i < l.length / 8
    · rw [List.getElem?_append_left (by rw [length_bytesOf]; omega)]
      simp [bytesOf, bytesTo, show i < (l.length + 7) / 8 by omega]
    · rw [List.getElem?_append_right (by rw [length_bytesOf]; omega), chunk_end l _ _ (by omega), length_bytesOf]
      simp [show i - (l.length + 7) / 8 = 0 by omega]
  · rw [if_neg h8]
    simp [bytesOf, bytesTo, show i < (l.length + 7) / 8 by omega]
theorem bytesOf_snoc (l : List Bool) (b : Bool) : bytesOf (l ++ [b]) = (padL l).set (l.length / 8) (chunk l (8 * (l.length / 8)) 8 + b.toNat * 2 ^ (7 - l.length % 8)) := by
  apply List.ext_getElem?
  intro i
  have hlen : (bytesOf (l ++ [b])).length = l.length / 8 + 1 := by rw [length_bytesOf]; simp; omega
  by_cases hi : i < l.length / 8 + 1
  · have h1 : (bytesOf (l ++ [b]))[i]? = some (chunk (l ++ [b]) (8 * i) 8) := by
      have h3 : (List.range (((l ++ [b]).length + 7) / 8))[i]? = some i := by
        rw [List.getElem?_range]; simp; omega
      rw [bytesOf, bytesTo, List.getElem?_map, h3]; rfl
    rw [h1, List.getElem?_set]
    by_cases he : l.length / 8 = i
    · rw [if_pos he, if_pos (by rw [length_padL]; omega)]
      subst he
      rw [(chunk_last l b (q := l.length / 8) (r := l.length % 8) (by omega) (by omega)).1]
    · rw [if_neg he, padL_get l hi, chunk_snoc l b _ 8 (by omega)]
  · rw [List.getElem?_eq_none (by omega), List.getElem?_eq_none (by rw [List.length_set, length_padL]; omega)]
theorem bytesOf_snoc_false (l : List Bool) : bytesOf (l ++ [false]) = padL l := by
  rw [bytesOf_snoc]
  apply List.ext_getElem?
  intro i
  rw [List.getElem?_set]
  by_cases he : l.length / 8 = i
  · subst he
    rw [if_pos rfl, if_pos (by rw [length_padL]; omega), padL_get l (by omega)]; simp
  · rw [if_neg he]
/-- adding the bit is laying it over -/
theorem chunk_or (l : List Bool) : chunk l (8 * (l.length / 8)) 8 ||| 2 ^ (7 - l.length % 8) = chunk l (8 * (l.length / 8)) 8 + 2 ^ (7 - l.length % 8) := by
  have h := (chunk_last l true (q := l.length / 8) (r := l.length % 8) (by omega) (by omega)).2
  rw [h, Nat.mul_comm]
  exact (Nat.two_pow_add_eq_or_of_lt (Nat.pow_lt_pow_right (by omega) (by omega)) _).symm

theorem wraps_i64 (n : Int) (h₀ : 0 ≤ n) (h₁ : n < 2 ^ 63) : IntKind.i64.wrap n = n := IntWalk.i64_in _ ⟨by omega, by omega⟩
theorem and_one (x : Int) (h0 : 0 ≤ x) (h1 : x ≤ 9223372036854775807) : bits .and .i64 x 1 = x % 2 := bits_mask .i64 63 (by decide) wraps_i64 1 (by decide) x h0 (by omega)
/-- Go's test of bit k -/
theorem test_bit (x k : Nat) (hx : x ≤ 9223372036854775807) : (bits .and .i64 ((x : Int) / 2 ^ k) 1 == 1) = bitOf x k := by
  have h1 : x / 2 ^ k ≤ x := Nat.div_le_self _ _
  rw [shift_nat]
  unfold bitOf
  generalize x / 2 ^ k = y at *
  rw [and_one _ (by omega) (by omega), Bool.eq_iff_iff]
  simp only [beq_iff_eq]
  omega
theorem u8_or_nat (a b : Nat) (ha : a < 256) (hb : b < 256) : bits .or .u8 (a : Int) (b : Int) = ((a ||| b : Nat) : Int) := (bits_nat .u8 8 (by decide) wraps_u8 a b ha hb).2
theorem u8_and_one (a : Nat) (ha : a < 256) : bits .and .u8 (a : Int) 1 = ((a % 2 : Nat) : Int) := by
  have := bits_mask .u8 8 (by decide) wraps_u8 1 (by decide) (a : Int) (by omega) (by omega)
  simpa using this
theorem i64_or_nat (a b : Nat) (ha : a < 2 ^ 63) (hb : b < 2 ^ 63) : bits .or .i64 (a : Int) (b : Int) = ((a ||| b : Nat) : Int) := (bits_nat .i64 63 (by decide) wraps_i64 a b ha hb).2
theorem shr128 {r : Nat} (h : r < 8) : (128 : Int) / 2 ^ r = ((2 ^ (7 - r) : Nat) : Int) := by
  have : r = 0 ∨ r = 1 ∨ r = 2 ∨ r = 3 ∨ r = 4 ∨ r = 5 ∨ r = 6 ∨ r = 7 := by omega
  rcases this with h | h | h | h | h | h | h | h <;> subst h <;> rfl

theorem length_bitsB (b : List Nat) : (bitsB b).length = 8 * b.length := by
  induction b with
  | nil => rfl
  | cons x l ih => simp only [bitsB, List.flatMap_cons, List.length_append, length_bitsOf, List.length_cons] at ih ⊢; omega
theorem bitsOf_get (n : Nat) : ∀ (k i : Nat), i < k → (bitsOf n k)[i]? = some (bitOf n (k - 1 - i)) := by
  intro k
  induction k with
  | zero => intro i h; omega
  | succ k ih =>
    intro i h
    cases i with
    | zero => simp [bitsOf]
    | succ i =>
      rw [bitsOf, List.getElem?_cons_succ, ih i (by omega)]
      congr 2
      omega
theorem bitAt_bitsB (b : List Nat) : ∀ (q r x : Nat), r < 8 → b[q]? = some x → bitAt (bitsB b) (8 * q + r) = bitOf x (7 - r) := by
  induction b with
  | nil => intro q r x _ h; simp at h
  | cons y l ih =>
    intro q r x hr h
    cases q with
    | zero =>
      simp only [List.getElem?_cons_zero, Option.some.injEq] at h
      subst h
      simp only [bitAt, bitsB, List.flatMap_cons]
      rw [List.getElem?_append_left (by rw [length_bitsOf]; omega), bitsOf_get _ _ _ (by omega)]
      simp
    | succ q =>
      rw [List.getElem?_cons_succ] at h
      have := ih q r x hr h
      simp only [bitAt, bitsB, List.flatMap_cons] at this ⊢
      rw [List.getElem?_append_right (by rw [length_bitsOf]; omega), length_bitsOf, show 8 * (q + 1) + r - 8 = 8 * q + r by omega]
      exact this
/-- Go's bit of a byte -/
theorem byte_bit (x r : Nat) (hx : x < 256) : bits .and .u8 ((x : Int) / 2 ^ r) 1 = ((bitOf x r).toNat : Int) := by
  have h1 : x / 2 ^ r ≤ x := Nat.div_le_self _ _
  rw [shift_nat]
  unfold bitOf
  generalize x / 2 ^ r = y at *
  rw [u8_and_one _ (by omega)]
  have : y % 2 = 0 ∨ y % 2 = 1 := by omega
  rcases this with h | h <;> simp [h]
theorem or_bit (n : Nat) (b : Bool) (hn : n ≤ 4294967295) : bits .or .i64 ((n : Int) * 2) (b.toNat : Int) = ((2 * n + b.toNat : Nat) : Int) := by
  have hb : b.toNat ≤ 1 := by cases b <;> simp
  have e : ((n : Int) * 2) = ((2 * n : Nat) : Int) := by omega
  rw [e, i64_or_nat _ _ (by omega) (by omega)]
  have := (Nat.two_pow_add_eq_or_of_lt (i := 1) (b := b.toNat) (by omega) n)
  rw [Nat.pow_one] at this
  rw [this]

/-- the text of bytes -/
def strOf (l : List Nat) : ByteArray := ⟨(l.map UInt8.ofNat).toArray⟩
theorem run_str {P : Program} {src dst e : TypeId} (hs : P.underlying src = some (.slice e)) (he : P.underlying e = some (.int .u8)) (hd : P.underlying dst = some .string) {w : World} {B n : Nat} {A : Option Addr} {l : List Nat}
    (hr : Rd w B 1 A n (l.map u8v)) (h8 : ∀ x ∈ l, x < 256) (c : Nat) : (convert src dst (.slice A n c)).run P w = .ok (.string (strOf l)) w := by
  have hl : l.length = n := by simpa using hr.1
  rcases A with _ | ad
  · have h0 : n = 0 := by
      rcases Nat.eq_zero_or_pos n with h | h
      · exact h
      · obtain ⟨_, h1, _⟩ := hr.2 h; cases h1
    subst h0
    have : l = [] := List.eq_nil_of_length_eq_zero hl
    subst this
    rw [run_convert_bytes_string w src dst e none 0 c hs he hd]
    rfl
  · have := run_convert_bytes_back (P := P) w src dst e ad c (l.map UInt8.ofNat) hs he hd (fun j hj => by
      rw [List.length_map] at hj
      obtain ⟨ad', x, h1, _, h3, h4⟩ := hr.at1 (k := j) (by omega)
      injection h1 with h1
      subst h1
      rw [h4, List.getElem_map]
      have hx : l[j] = x := by rw [List.getElem?_eq_getElem hj] at h3; exact Option.some.inj h3
      have := h8 x (List.mem_of_getElem? h3)
      rw [hx, UInt8.toNat_ofNat', Nat.mod_eq_of_lt this]
      rfl)
    rw [List.length_map, hl] at this
    exact this

theorem size_strOf (l : List Nat) : (strOf l).size = l.length := by simp [strOf, ByteArray.size]
/-- a text laid down as bytes again -/
theorem run_unstr {P : Program} {src dst e : TypeId} (hs : P.underlying src = some .string) (hd : P.underlying dst = some (.slice e)) (he : P.underlying e = some (.int .u8)) (l : List Nat) (w : World) :
    ∃ c C, (convert src dst (.string (strOf l))).run P w = .ok (.slice (some ⟨w.heap.size, 0, none⟩) l.length c) (w.drew.alloc C) ∧ ((∀ x ∈ l, x < 256) → Rd (w.drew.alloc C) (w.heap.size + 1) 1 (some ⟨w.heap.size, 0, none⟩) l.length (l.map u8v)) := by
  refine ⟨_, _, by have := run_bytes_of_string (P := P) w src dst e (strOf l) hs hd he; rw [size_strOf] at this; exact this, fun h8 => ⟨by simp, fun _ => ⟨_, rfl, by simp, fun j u hu => ?_⟩⟩⟩
  have hj : j < l.length := by
    have := (List.getElem?_eq_some_iff.1 hu).1
    simpa using this
  have hadd : (⟨w.heap.size, 0, none⟩ : Addr).add j = ⟨w.heap.size, j, none⟩ := by unfold Addr.add; split <;> simp_all
  have hb := bytesRow_at (strOf l) (grownCap w l.length 0 e) j (by simp [strOf]; exact hj)
  have hc : ∀ (C : Array Value) (fr : Nat × Nat), (w.drew.alloc (.cells C e fr)).cell? ⟨w.heap.size, j, none⟩ = C[j]? := by
    intro C fr
    have h1 : (w.drew.alloc (.cells C e fr)).heap[w.heap.size]? = some (.cells C e fr) := heap_alloc_new w.drew _
    unfold World.cell?
    rw [show (⟨w.heap.size, j, none⟩ : Addr).block = w.heap.size from rfl, h1]
    simp
  rw [hadd, hc, hb, ← hu]
  have hx := h8 l[j] (List.getElem_mem hj)
  simp only [List.getElem?_map, List.getElem?_eq_getElem hj, Option.map_some, strOf]
  simp [u8v, Nat.mod_eq_of_lt hx]

theorem getE_zero {len : Nat} {x : Int} (h : getE len x = 0) : 1 ≤ x ∧ x ≤ 32 ∧ x ≤ len := by
  unfold getE at h
  split at h
  · omega
  · split at h
    · omega
    · omega
theorem getN_bad {l : List Bool} {x : Int} (h : getE l.length x ≠ 0) : getN l x = 0 := by
  unfold getE at h
  unfold getN
  split at h
  · rw [if_pos (by omega)]
  · split at h
    · rw [if_pos (by omega)]
    · omega

end Go.Proofs.YtiebjnibmomcjaaDoor
