/- Chapter 6, the plain laws: what a message's bytes are, and what bytes are. No program. -/
import Derived.Test.YtiebjnibmomcjaaDoorMsgH
namespace Go.Proofs.YtiebjnibmomcjaaDoor
open Go.RowKit

theorem fitsR_iff {may : List Int} : ∀ (l met : List Int), fitsR may met l = true ↔ l.Nodup ∧ ∀ x ∈ l, x ∈ may ∧ x ∉ met
  | [], met => by simp [fitsR]
  | x :: l, met => by
    simp only [fitsR]
    by_cases h : x ∈ met ∨ x ∉ may
    · rw [if_pos h]
      constructor
      · intro h'; cases h'
      · rintro ⟨_, h'⟩
        have := h' x (by simp)
        rcases h with h | h
        · exact absurd h this.2
        · exact absurd this.1 h
    · rw [if_neg h, fitsR_iff l (x :: met)]
      simp only [not_or, Classical.not_not] at h
      simp only [List.nodup_cons, List.mem_cons, not_or]
      constructor
      · rintro ⟨a, b⟩
        refine ⟨⟨fun hx => (b x hx).2.1 rfl, a⟩, ?_⟩
        rintro y (rfl | hy)
        · exact ⟨h.2, h.1⟩
        · exact ⟨(b y hy).1, (b y hy).2.2⟩
      · rintro ⟨⟨a, b⟩, c⟩
        exact ⟨b, fun y hy => ⟨(c y (.inr hy)).1, fun e => a (e ▸ hy), (c y (.inr hy)).2⟩⟩
theorem fitsR_perm {may l m : List Int} (h : l.Perm m) (met : List Int) : fitsR may met l = fitsR may met m := by
  rw [Bool.eq_iff_iff, fitsR_iff, fitsR_iff, h.nodup_iff]
  simp only [h.mem_iff]
theorem fitsM_perm {must : Int} {may : List Int} {x : Int} {l m : List Int} (h : l.Perm m) : fitsM must may (x :: l) = fitsM must may (x :: m) := by
  unfold fitsM
  split
  · show (_ && fitsR may [] l) = (_ && fitsR may [] m)
    rw [fitsR_perm h]
  · exact fitsR_perm (h.cons x) []
theorem fitsM_dup {must : Int} {may : List Int} {x a : Int} {l : List Int} (h : a ∈ l) : fitsM must may (x :: (l ++ [a])) = false := by
  have hd : ¬ (l ++ [a]).Nodup := by
    rw [List.nodup_append]
    rintro ⟨_, _, h'⟩
    exact h' a h a (by simp) rfl
  rw [← Bool.not_eq_true]
  unfold fitsM
  split
  · show ¬ ((_ && fitsR may [] (l ++ [a])) = true)
    rw [Bool.and_eq_true, fitsR_iff]
    rintro ⟨_, h', _⟩
    exact hd h'
  · rw [fitsR_iff, List.nodup_cons]
    rintro ⟨⟨_, h'⟩, _⟩
    exact hd h'

theorem packsM_cons {p : Int × List Int} {P : List (Int × List Int)} {l : List (Int × Int)} : packsM (p :: P) = .ok l ↔ ∃ a b, ItemsM p.1 p.2 = .ok a ∧ packsM P = .ok b ∧ l = a ++ b := by
  simp only [packsM]
  constructor
  · intro h
    cases ha : ItemsM p.1 p.2 with
    | error e => rw [ha] at h; cases h
    | ok a =>
      cases hb : packsM P with
      | error e => rw [ha, hb] at h; cases h
      | ok b => rw [ha, hb] at h; injection h with h; exact ⟨a, b, rfl, rfl, h.symm⟩
  · rintro ⟨a, b, ha, hb, rfl⟩
    rw [ha, hb]
theorem packsM_perm {P Q : List (Int × List Int)} (h : P.Perm Q) : ∀ {l}, packsM P = .ok l → ∃ m, packsM Q = .ok m ∧ sumW m = sumW l := by
  induction h with
  | nil => intro l h; exact ⟨l, h, rfl⟩
  | cons x _ ih =>
    intro l h
    obtain ⟨a, b, ha, hb, rfl⟩ := packsM_cons.1 h
    obtain ⟨m, hm, hs⟩ := ih hb
    exact ⟨a ++ m, packsM_cons.2 ⟨a, m, ha, hm, rfl⟩, by rw [sumW_app, sumW_app, hs]⟩
  | swap x y l =>
    intro k h
    obtain ⟨a, b, ha, hb, rfl⟩ := packsM_cons.1 h
    obtain ⟨c, d, hc, hd, rfl⟩ := packsM_cons.1 hb
    refine ⟨c ++ (a ++ d), packsM_cons.2 ⟨c, a ++ d, hc, packsM_cons.2 ⟨a, d, ha, hd, rfl⟩, rfl⟩, ?_⟩
    simp only [sumW_app]; omega
  | trans _ _ ih1 ih2 =>
    intro l h
    obtain ⟨m, hm, hs⟩ := ih1 h
    obtain ⟨k, hk, ht⟩ := ih2 hm
    exact ⟨k, hk, ht.trans hs⟩

/-- a message that has bytes -/
structure EncOk (id t ack of_ : Int) (V : List Int) (P : List (Int × List Int)) (own : List Int) (must : Int) (may : List Int) (l1 l2 : List (Int × Int)) : Prop where
  form : formM id = some (own, must, may)
  len : (valuesM id t ack of_ ++ V).length = (headM id ++ own).length
  up0 : upM id = true → ack = 0
  nums : numsM (headM id ++ own) (valuesM id t ack of_ ++ V) = .ok l1
  packs : packsM P = .ok l2
  fits : fitsM must may (P.map (·.1)) = true
  short : bytesN ((id, 8) :: (0, 10) :: (l1 ++ l2)) ≤ 1023
/-- .. and these are they -/
def encB (id : Int) (l1 l2 : List (Int × Int)) : List Nat := bytesOf (layP ((id, 8) :: (bytesN ((id, 8) :: (0, 10) :: (l1 ++ l2)), 10) :: (l1 ++ l2)))
theorem encode_inv {id t ack of_ : Int} {V : List Int} {P : List (Int × List Int)} {b : List Nat} (h : EncodeM id t ack of_ V P = .ok b) : ∃ own must may l1 l2, EncOk id t ack of_ V P own must may l1 l2 ∧ b = encB id l1 l2 := by
  unfold EncodeM at h
  cases hf : formM id with
  | none => rw [hf] at h; cases h
  | some f =>
    obtain ⟨own, must, may⟩ := f
    rw [hf] at h
    simp only at h
    split at h
    · cases h
    rename_i hc
    cases hn : numsM (headM id ++ own) (valuesM id t ack of_ ++ V) with
    | error e => rw [hn] at h; cases h
    | ok l1 =>
      rw [hn] at h
      simp only at h
      cases hp : packsM P with
      | error e => rw [hp] at h; cases h
      | ok l2 =>
        rw [hp] at h
        simp only at h
        split at h
        · cases h
        rename_i hft
        split at h
        · cases h
        rename_i hs
        injection h with h
        refine ⟨own, must, may, l1, l2, ⟨hf, ?_, ?_, hn, hp, by simpa using hft, by omega⟩, h.symm⟩
        · exact Classical.byContradiction fun h' => hc (.inl h')
        · intro hu; exact Classical.byContradiction fun h' => hc (.inr ⟨hu, h'⟩)
theorem encode_of {id t ack of_ : Int} {V : List Int} {P : List (Int × List Int)} {own : List Int} {must : Int} {may : List Int} {l1 l2 : List (Int × Int)} (h : EncOk id t ack of_ V P own must may l1 l2) : EncodeM id t ack of_ V P = .ok (encB id l1 l2) := by
  unfold EncodeM
  rw [h.form]
  simp only
  rw [if_neg (by rintro (h' | ⟨h', h''⟩); exact h' h.len; exact h'' (h.up0 h'))]
  rw [h.nums]
  simp only
  rw [h.packs]
  simp only
  rw [if_neg (by rw [h.fits]; simp), if_neg (by have := h.short; omega)]
  rfl

/-- the order of packets behind the first says nothing -/
theorem encode_perm {id t ack of_ : Int} {V : List Int} {p : Int × List Int} {P Q : List (Int × List Int)} (hp : P.Perm Q) {b : List Nat} (h : EncodeM id t ack of_ V (p :: P) = .ok b) : ∃ c, EncodeM id t ack of_ V (p :: Q) = .ok c := by
  obtain ⟨own, must, may, l1, l2, hk, _⟩ := encode_inv h
  obtain ⟨m, hm, hs⟩ := packsM_perm (hp.cons p) hk.packs
  refine ⟨_, encode_of ⟨hk.form, hk.len, hk.up0, hk.nums, hm, ?_, ?_⟩⟩
  · have := hk.fits
    rw [List.map_cons, fitsM_perm (hp.map _)] at this
    exact this
  · have := hk.short
    unfold bytesN at this ⊢
    have e : ∀ k : List (Int × Int), sumW ((id, 8) :: (0, 10) :: k) = 18 + sumW k := by intro k; simp [sumW]; omega
    rw [e, sumW_app] at this ⊢
    rw [hs]
    exact this
/-- one that stands there twice makes it none -/
theorem encode_twice {id t ack of_ : Int} {V : List Int} {p q : Int × List Int} {P : List (Int × List Int)} (hq : q ∈ P) : ∃ e, EncodeM id t ack of_ V (p :: (P ++ [q])) = .error e := by
  cases h : EncodeM id t ack of_ V (p :: (P ++ [q])) with
  | error e => exact ⟨e, rfl⟩
  | ok b =>
    obtain ⟨own, must, may, l1, l2, hk, _⟩ := encode_inv h
    have := hk.fits
    rw [List.map_cons, List.map_append, List.map_cons, List.map_nil, fitsM_dup (List.mem_map_of_mem hq)] at this
    cases this

def chkSide (id : Int) : Bool := match formM id with
  | some f => f.2.2.all (fun p => upP p == upM id) && (decide (f.2.1 < 0) || (decide (f.2.1 = 0) && upM id) || (decide (f.2.1 = 15) && !upM id))
  | none => true
theorem chkSide_all : mids.all chkSide = true := by decide +kernel
/-- the packets of a message go where it goes -/
theorem encode_side {id t ack of_ : Int} {V : List Int} {P : List (Int × List Int)} {b : List Nat} (h : EncodeM id t ack of_ V P = .ok b) : (formM id).isSome = true ∧ (upM id = true → ack = 0) ∧ ∀ p ∈ P, upP p.1 = upM id := by
  obtain ⟨own, must, may, l1, l2, hk, _⟩ := encode_inv h
  refine ⟨by rw [hk.form]; rfl, hk.up0, ?_⟩
  have hc := List.all_eq_true.1 chkSide_all id (formM_id hk.form)
  unfold chkSide at hc
  rw [hk.form] at hc
  simp only [Bool.and_eq_true, List.all_eq_true, beq_iff_eq, Bool.or_eq_true, decide_eq_true_eq, Bool.not_eq_true'] at hc
  obtain ⟨hmay, hmust⟩ := hc
  have hft := hk.fits
  unfold fitsM at hft
  by_cases h0 : 0 ≤ must
  · rw [if_pos h0] at hft
    cases P with
    | nil => intro p hp; cases hp
    | cons p0 P =>
      simp only [List.map_cons, Bool.and_eq_true, Bool.or_eq_true, decide_eq_true_eq] at hft
      obtain ⟨h1, h2⟩ := hft
      rw [fitsR_iff] at h2
      intro p hp
      rcases List.mem_cons.1 hp with rfl | hp
      · rcases hmust with (hm | ⟨rfl, hu⟩) | ⟨rfl, hu⟩
        · omega
        · rw [hu]
          rcases h1 with h1 | ⟨_, h1⟩ <;> (rw [h1]; rfl)
        · rw [hu]
          rcases h1 with h1 | ⟨h1, _⟩
          · rw [h1]; rfl
          · cases h1
      · exact hmay _ (h2.2 p.1 (List.mem_map_of_mem hp)).1
  · rw [if_neg h0, fitsR_iff] at hft
    intro p hp
    exact hmay _ (hft.2 p.1 (List.mem_map_of_mem hp)).1

theorem numOf_zero : ∀ l : List Bool, numOf l = 0 ↔ ∀ x ∈ l, x = false
  | [] => by simp [numOf]
  | b :: l => by
    have h := numOf_zero l
    have hp := Nat.two_pow_pos l.length
    rw [numOf_cons]
    constructor
    · intro h'
      have h1 : b = false := by
        cases b
        · rfl
        · simp at h'
      subst h1
      intro x hx
      rcases List.mem_cons.1 hx with rfl | hx
      · rfl
      · exact h.1 (by simpa using h') x hx
    · intro h'
      have h1 := h' b (by simp)
      subst h1
      have := h.2 fun x hx => h' x (by simp [hx])
      simp [this]
theorem bitsOf_drop (x : Nat) : ∀ (k j : Nat), j ≤ k → (bitsOf x k).drop (k - j) = bitsOf x j
  | 0, j, h => by
    obtain rfl : j = 0 := by omega
    rfl
  | k + 1, j, h => by
    by_cases hj : j = k + 1
    · subst hj; simp
    · rw [show k + 1 - j = (k - j) + 1 by omega]
      show ((bitOf x k :: bitsOf x k).drop (k - j + 1)) = _
      rw [List.drop_succ_cons]
      exact bitsOf_drop x k j (by omega)
theorem bitsB_app (a b : List Nat) : bitsB (a ++ b) = bitsB a ++ bitsB b := by simp [bitsB]
theorem bitsB_inj : ∀ (b c : List Nat), (∀ x ∈ b, x < 256) → (∀ x ∈ c, x < 256) → bitsB b = bitsB c → b = c
  | [], [], _, _, _ => rfl
  | [], y :: c, _, _, h => by have := congrArg List.length h; rw [length_bitsB, length_bitsB] at this; simp at this
  | x :: b, [], _, _, h => by have := congrArg List.length h; rw [length_bitsB, length_bitsB] at this; simp at this
  | x :: b, y :: c, hb, hc, h => by
    have e1 : bitsB (x :: b) = bitsOf x 8 ++ bitsB b := by simp [bitsB]
    have e2 : bitsB (y :: c) = bitsOf y 8 ++ bitsB c := by simp [bitsB]
    rw [e1, e2] at h
    obtain ⟨h1, h2⟩ := List.append_inj h (by rw [length_bitsOf, length_bitsOf])
    have h3 := congrArg numOf h1
    rw [numOf_bitsOf, numOf_bitsOf] at h3
    have hx := hb x (by simp)
    have hy := hc y (by simp)
    have e3 : x = y := by omega
    rw [e3, bitsB_inj b c (fun z hz => hb z (by simp [hz])) (fun z hz => hc z (by simp [hz])) h2]
theorem bytesOf_lt (l : List Bool) : ∀ x ∈ bytesOf l, x < 256 := bytesTo_lt _ _
/-- bytes are the bits that they have, and noughts -/
theorem bytes_of_bits {b : List Nat} {l z : List Bool} (h8 : ∀ x ∈ b, x < 256) (h : bitsB b = l ++ z) (hz : z.length < 8) (h0 : ∀ x ∈ z, x = false) : bytesOf l = b := by
  refine bitsB_inj _ _ (bytesOf_lt l) h8 ?_
  have hlen := congrArg List.length h
  rw [length_bitsB, List.length_append] at hlen
  have e : z = List.replicate (8 * ((l.length + 7) / 8) - l.length) false := by
    rw [List.eq_replicate_iff]
    exact ⟨by omega, h0⟩
  rw [bitsB_bytesOf, h, ← e]
theorem blankM_iff {b : List Nat} {u : Int} (h8 : ∀ x ∈ b, x < 256) (h1 : 0 ≤ u) (h2 : u ≤ 8 * (b.length : Int)) (h3 : 8 * (b.length : Int) < u + 8) : blankM b u = true ↔ ∀ x ∈ leftB b u.toNat, x = false := by
  unfold blankM
  rw [Bool.or_eq_true, decide_eq_true_eq, decide_eq_true_eq]
  by_cases h0 : 8 * (b.length : Int) = u
  · have e : leftB b u.toNat = [] := by
      apply List.eq_nil_of_length_eq_zero
      rw [length_leftB]; omega
    rw [e]
    simp [h0]
  · rcases List.eq_nil_or_concat b with rfl | ⟨c, x, rfl⟩
    · simp at h2 h0; omega
    rw [List.concat_eq_append] at *
    have hl : (c ++ [x]).length = c.length + 1 := by simp
    rw [hl] at h0 h2 h3 ⊢
    obtain ⟨L, hL⟩ : ∃ L : Nat, 8 * ((c.length + 1 : Nat) : Int) - u = L := ⟨(8 * ((c.length + 1 : Nat) : Int) - u).toNat, by omega⟩
    have hg : (c ++ [x]).getD (c.length + 1 - 1) 0 = x := by simp
    have e : leftB (c ++ [x]) u.toNat = bitsOf x L := by
      unfold leftB
      rw [bitsB_app, List.drop_append, List.drop_eq_nil_of_le (by rw [length_bitsB]; omega), List.nil_append, length_bitsB]
      have e1 : bitsB [x] = bitsOf x 8 := by simp [bitsB]
      rw [e1, show u.toNat - 8 * c.length = 8 - L by omega]
      exact bitsOf_drop x 8 L (by omega)
    rw [hg, hL, e, Int.toNat_natCast, ← numOf_zero, numOf_bitsOf]
    constructor
    · rintro (h | h)
      · exact absurd h h0
      · exact h
    · exact fun h => .inr h

theorem takeB_lay {v x : Int} (hx : mayB x (vWidth v) = true) (t : List Bool) : takeB (bitsOf x.toNat (vWidth v).toNat ++ t) 0 v = (x, t, 0) := by
  have hr := mayB_iff.1 hx
  have hl : (bitsOf x.toNat (vWidth v).toNat ++ t).length = (vWidth v).toNat + t.length := by rw [List.length_append, length_bitsOf]
  have he : getE (bitsOf x.toNat (vWidth v).toNat ++ t).length (vWidth v) = 0 := by rw [hl, getE, if_neg (by omega), if_neg (by omega)]
  have h1 := getL_eq he
  have h2 := getN_eq he
  rw [List.drop_left' (length_bitsOf _ _)] at h1
  rw [List.take_left' (length_bitsOf _ _), numOf_bitsOf, Nat.mod_eq_of_lt (by omega)] at h2
  have h3 : ((x.toNat : Nat) : Int) = x := Int.toNat_of_nonneg hr.2.2.1
  rw [h3] at h2
  unfold takeB
  rw [if_neg (by simp), h1, h2, he]
theorem oneB_lay {v x : Int} (hx : vMay v x = true) (t : List Bool) : oneB (bitsOf x.toNat (vWidth v).toNat ++ t) 0 v = (x, t, 0) := by
  unfold oneB
  rw [takeB_lay (may_mayB hx), if_neg (by rw [hx]; simp)]
theorem layP_cons (x : Int × Int) (l : List (Int × Int)) : layP (x :: l) = bitsOf x.1.toNat x.2.toNat ++ layP l := by simp [layP]
theorem layP_app (a b : List (Int × Int)) : layP (a ++ b) = layP a ++ layP b := by simp [layP]
theorem onesM_lay : ∀ {names all : List Int} {l1 : List (Int × Int)}, names.length = all.length → numsM names all = .ok l1 → ∀ t, onesM names (layP l1 ++ t) 0 = (all, t, 0)
  | [], [], l1, _, h, t => by simp [numsM] at h; subst h; rfl
  | [], _ :: _, _, h, _, _ => by simp at h
  | _ :: _, [], _, h, _, _ => by simp at h
  | v :: names, x :: all, l1, hl, h, t => by
    simp only [numsM] at h
    split at h
    · rename_i hv
      cases hn : numsM names all with
      | error e => rw [hn] at h; cases h
      | ok m =>
        rw [hn] at h
        injection h with h
        subst h
        rw [layP_cons, List.append_assoc]
        simp only [onesM]
        rw [oneB_lay hv]
        simp only
        rw [onesM_lay (by simpa using hl) hn t]
    · cases h
theorem ItemsM_head {id : Int} {V : List Int} {l : List (Int × Int)} (h : ItemsM id V = .ok l) : 8 ≤ sumW l := by
  obtain ⟨T, tr, hT, hM, hm, hV, rfl, h7, hS⟩ := ItemsM_trace h
  have h2 := sumW_items tr
  have e8 : vWidth 5 = 8 := by decide +kernel
  have e : sumW (itemsOf ((5, id) :: tr)) = vWidth 5 + sumW (itemsOf tr) := by simp [sumW, itemsOf]
  rw [e, e8]
  omega
theorem ItemsM_len {id : Int} {V : List Int} {l : List (Int × Int)} (h : ItemsM id V = .ok l) : ((layP l).length : Int) = sumW l := by
  obtain ⟨T, tr, hT, hM, hm, hV, rfl, h7, hS⟩ := ItemsM_trace h
  exact length_layP (ItemsM_width h)
theorem packsM_len : ∀ {P : List (Int × List Int)} {l : List (Int × Int)}, packsM P = .ok l → ((layP l).length : Int) = sumW l
  | [], l, h => by injection h with h; subst h; rfl
  | p :: P, l, h => by
    obtain ⟨a, b, ha, hb, rfl⟩ := packsM_cons.1 h
    rw [layP_app, List.length_append, sumW_app, ← ItemsM_len ha, ← packsM_len hb]; omega
theorem leftB_next {b : List Nat} {a : Nat} {l t : List Bool} (h : leftB b a = l ++ t) : leftB b (a + l.length) = t := by
  unfold leftB at h ⊢
  rw [← List.drop_drop, h, List.drop_left]
theorem packsG_lay {b : List Nat} : ∀ {P : List (Int × List Int)} {l : List (Int × Int)} {f a : Nat} {z : List Bool}, packsM P = .ok l → P.length ≤ f → a ≤ 8 * b.length → leftB b a = layP l ++ z → z.length < 8 → packsG b f a = .ok (P, (a : Int) + sumW l)
  | [], l, f, a, z, h, _, ha, hb, hz => by
    injection h with h
    subst h
    have hl := congrArg List.length hb
    rw [length_leftB] at hl
    simp [layP] at hl
    cases f with
    | zero => simp [packsG, sumW]
    | succ f =>
      simp only [packsG]
      rw [if_neg (by omega)]
      simp [sumW]
  | p :: P, l, f, a, z, h, hf, ha, hb, hz => by
    obtain ⟨c, d, hc, hd, rfl⟩ := packsM_cons.1 h
    cases f with
    | zero => simp at hf
    | succ f =>
      rw [layP_app, List.append_assoc] at hb
      have hl := congrArg List.length hb
      rw [length_leftB, List.length_append] at hl
      have h8 := ItemsM_head hc
      have hcl := ItemsM_len hc
      have hg := get_of hc ha hb
      simp only [packsG]
      rw [if_pos (by omega), hg]
      simp only
      have hz' : (a : Int) + sumW c = ((a + (layP c).length : Nat) : Int) := by omega
      rw [hz', packsG_lay hd (by simpa using hf) (by omega) (leftB_next hb) hz, sumW_app]
      simp only [Except.ok.injEq, Prod.mk.injEq, true_and]
      omega
theorem wsum_nums : ∀ {names all : List Int} {l1 : List (Int × Int)}, names.length = all.length → numsM names all = .ok l1 → wsum names = sumW l1
  | [], [], l1, _, h => by simp [numsM] at h; subst h; rfl
  | [], _ :: _, _, h, _ => by simp at h
  | _ :: _, [], _, h, _ => by simp at h
  | v :: names, x :: all, l1, hl, h => by
    simp only [numsM] at h
    split at h
    · cases hn : numsM names all with
      | error e => rw [hn] at h; cases h
      | ok m =>
        rw [hn] at h
        injection h with h
        subst h
        have := wsum_nums (by simpa using hl) hn
        simp only [wsum, sumW, List.map_cons, List.sum_cons] at this ⊢
        rw [this]
    · cases h
theorem psum_packs : ∀ {P : List (Int × List Int)} {l : List (Int × Int)}, packsM P = .ok l → psum P = sumW l
  | [], l, h => by injection h with h; subst h; rfl
  | p :: P, l, h => by
    obtain ⟨a, b, ha, hb, rfl⟩ := packsM_cons.1 h
    have e : psum (p :: P) = SizeM p.1 p.2 + psum P := by simp [psum]
    have e2 : SizeM p.1 p.2 = sumW a := by unfold SizeM; rw [ha]
    rw [e, e2, psum_packs hb, sumW_app]
theorem nums_width {l : List (Int × Int)} (h : ∀ y ∈ l, mayB y.1 y.2 = true) : ∀ y ∈ l, 0 ≤ y.2 ∧ y.2 ≤ 32 := fun y hy => by have := mayB_iff.1 (h y hy); omega
theorem sumW_head (a b : Int) (l : List (Int × Int)) : sumW ((a, 8) :: (b, 10) :: l) = 18 + sumW l := by simp [sumW]; omega
theorem values_parts {id t ack of_ : Int} {V : List Int} (h : upM id = true → ack = 0) : partsM id (valuesM id t ack of_ ++ V) = (t, ack, of_, V) := by
  unfold partsM valuesM
  cases hu : upM id with
  | true => simp [h hu]
  | false => simp
theorem parts_values {id : Int} {h : List Int} (hl : (headM id).length ≤ h.length) : valuesM id (partsM id h).1 (partsM id h).2.1 (partsM id h).2.2.1 ++ (partsM id h).2.2.2 = h ∧ (upM id = true → (partsM id h).2.1 = 0) := by
  unfold partsM valuesM
  unfold headM at hl
  cases hu : upM id with
  | true =>
    rw [hu] at hl
    rcases h with _ | ⟨a, _ | ⟨b, h⟩⟩
    · simp at hl
    · simp at hl
    · simp
  | false =>
    rw [hu] at hl
    rcases h with _ | ⟨a, _ | ⟨b, _ | ⟨c, h⟩⟩⟩
    · simp at hl
    · simp at hl
    · simp at hl
    · simp
/-- what is laid as bytes, as bits -/
theorem enc_bits {id t ack of_ : Int} {V : List Int} {P : List (Int × List Int)} {own : List Int} {must : Int} {may : List Int} {l1 l2 : List (Int × Int)} (h : EncOk id t ack of_ V P own must may l1 l2) :
    ∃ z : List Bool, z.length < 8 ∧ (∀ x ∈ z, x = false) ∧ bitsB (encB id l1 l2) = bitsOf id.toNat 8 ++ (bitsOf (encB id l1 l2).length 10 ++ (layP l1 ++ (layP l2 ++ z))) ∧ (encB id l1 l2).length ≤ 1023 ∧
      (((bitsOf id.toNat 8 ++ (bitsOf (encB id l1 l2).length 10 ++ (layP l1 ++ layP l2))).length : Nat) : Int) = 18 + sumW l1 + sumW l2 ∧ 18 + sumW l1 + sumW l2 ≤ 8 * ((encB id l1 l2).length : Int) ∧ ((encB id l1 l2).length : Int) = bytesN ((id, 8) :: (0, 10) :: (l1 ++ l2)) := by
  have h1 := length_layP (nums_width (numsM_may h.nums))
  have h2 := packsM_len h.packs
  have hs := h.short
  unfold bytesN at hs
  rw [sumW_head, sumW_app] at hs
  have hlen : ((encB id l1 l2).length : Int) = bytesN ((id, 8) :: (0, 10) :: (l1 ++ l2)) := by
    unfold encB
    rw [length_bytesOf]
    unfold bytesN
    simp only [layP_cons, List.length_append, length_bitsOf, layP_app]
    rw [sumW_head, sumW_app]
    have e8 : (8 : Int).toNat = 8 := rfl
    have e10 : (10 : Int).toNat = 10 := rfl
    rw [e8, e10]
    omega
  have e : bitsB (encB id l1 l2) = _ := bitsB_bytesOf _
  refine ⟨_, ?_, ?_, by
    rw [e, layP_cons, layP_cons, layP_app]
    simp only [List.append_assoc]
    rw [← hlen]
    rfl, ?_, ?_, ?_, hlen⟩
  · rw [List.length_replicate]; omega
  · intro x hx; exact (List.mem_replicate.1 hx).2
  · rw [← Int.ofNat_le, hlen]; exact h.short
  · simp only [List.length_append, length_bitsOf]; omega
  · rw [hlen]; unfold bytesN; rw [sumW_head, sumW_app]; omega
theorem wid0' : vWidth 0 = 8 := wid0
theorem form_id {id must : Int} {own may : List Int} (h : formM id = some (own, must, may)) : 0 ≤ id ∧ id < 256 := (form_chk h).2.2
theorem may8 {x : Int} (h : 0 ≤ x ∧ x < 256) : mayB x (vWidth 0) = true := by rw [mayB_iff, wid0]; exact ⟨by omega, by omega, h.1, h.2⟩
theorem may10 {x : Int} (h : 0 ≤ x ∧ x ≤ 1023) : mayB x (vWidth 1) = true := by rw [mayB_iff, wid1]; exact ⟨by omega, by omega, h.1, by show x < 1024; omega⟩
theorem packs_len {P : List (Int × List Int)} {l : List (Int × Int)} : packsM P = .ok l → 8 * (P.length : Int) ≤ sumW l := by
  induction P generalizing l with
  | nil => intro h; injection h with h; subst h; decide
  | cons p P ih =>
    intro h
    obtain ⟨a, b, ha, hb, rfl⟩ := packsM_cons.1 h
    have h1 := ih hb
    have h2 := ItemsM_head ha
    rw [sumW_app, List.length_cons]
    omega
/-- the front of a message's bytes, whatever stands behind -/
theorem decode_front {id N : Int} {b : List Nat} {t : List Bool} {f : List Int × Int × List Int} (hf : formM id = some f) (hN : 0 ≤ N ∧ N ≤ 1023) (h : bitsB b = bitsOf id.toNat 8 ++ (bitsOf N.toNat 10 ++ t)) :
    DecodeM b = tailM b id (onesM (headM id ++ f.1) t (if N = b.length then 0 else 8)) := by
  obtain ⟨own, must, may⟩ := f
  have hi := form_id hf
  unfold DecodeM
  have t0 := takeB_lay (v := 0) (may8 hi) (bitsOf N.toNat 10 ++ t)
  rw [wid0] at t0
  have t1 := takeB_lay (v := 1) (may10 hN) t
  rw [wid1] at t1
  have e8 : (8 : Int).toNat = 8 := rfl
  have e10 : (10 : Int).toNat = 10 := rfl
  rw [e8] at t0
  rw [e10] at t1
  rw [h, t0]
  simp only
  have hA : errA id 0 = 0 := by unfold errA; rw [if_neg (by rw [hf]; simp)]
  rw [hA, t1]
  simp only
  rw [hf]
  have hB : errB b.length N 0 = if N = b.length then 0 else 8 := by
    unfold errB
    by_cases h : N = b.length
    · rw [if_neg (by simp [h]), if_pos h]
    · rw [if_pos ⟨rfl, h⟩, if_neg h]
  rw [hB]
  rfl
theorem onesM_err : ∀ (names : List Int) (l : List Bool) (e : Int), e ≠ 0 → (onesM names l e).2.2 = e
  | [], _, _, _ => rfl
  | v :: names, l, e, h => by
    have ht : takeB l e v = (0, l, e) := by unfold takeB; rw [if_pos h]
    have ho : oneB l e v = (0, l, e) := by unfold oneB; rw [ht, if_neg (fun hc => h hc.1)]
    simp only [onesM]
    rw [ho]
    exact onesM_err names l e h
/-- THE STAGE'S THEOREM, plainly: the bytes of a message are that message -/
theorem decode_of {id t ack of_ : Int} {V : List Int} {P : List (Int × List Int)} {own : List Int} {must : Int} {may : List Int} {l1 l2 : List (Int × Int)} (h : EncOk id t ack of_ V P own must may l1 l2) :
    DecodeM (encB id l1 l2) = .ok (id, t, ack, of_, V, P) := by
  obtain ⟨z, hz, hz0, hb, h1023, hused, hle, hN⟩ := enc_bits h
  have h8 : ∀ x ∈ encB id l1 l2, x < 256 := bytesOf_lt _
  generalize encB id l1 l2 = b at *
  have hd := decode_front (b := b) (N := b.length) (t := layP l1 ++ (layP l2 ++ z)) h.form ⟨by omega, by omega⟩ (by rw [hb]; rfl)
  rw [hd, if_pos rfl]
  show tailM b id (onesM (headM id ++ own) (layP l1 ++ (layP l2 ++ z)) 0) = _
  rw [onesM_lay h.len.symm h.nums]
  unfold tailM
  simp only
  rw [if_neg (by simp)]
  have hlb := congrArg List.length hb
  rw [length_bitsB] at hlb
  simp only [List.length_append, length_bitsOf] at hlb hused
  have hp2 := packsM_len h.packs
  have hp1 := length_layP (nums_width (numsM_may h.nums))
  have hst : 8 * (b.length : Int) - ((layP l2 ++ z).length : Nat) = ((18 + (layP l1).length : Nat) : Int) := by
    rw [List.length_append]; omega
  have hleft : leftB b (18 + (layP l1).length) = layP l2 ++ z := by
    have e : leftB b 0 = (bitsOf id.toNat 8 ++ (bitsOf b.length 10 ++ layP l1)) ++ (layP l2 ++ z) := by
      unfold leftB
      rw [List.drop_zero, hb]
      simp only [List.append_assoc]
    have := leftB_next e
    simp only [List.length_append, length_bitsOf] at this
    rw [← this]
    congr 1
    omega
  have hpl := packs_len h.packs
  rw [hst, packsG_lay (z := z) h.packs (by omega) (by omega) hleft hz]
  simp only
  have hu : usedM id P = 18 + sumW l1 + sumW l2 := by
    unfold usedM
    rw [h.form]
    show 18 + wsum (headM id ++ own) + psum P = _
    rw [wsum_nums h.len.symm h.nums, psum_packs h.packs]
  have hzl : leftB b (usedM id P).toNat = z := by
    have := leftB_next hleft
    rw [← this]
    congr 1
    rw [hu]
    omega
  have hbl : blankM b (usedM id P) = true := by
    rw [blankM_iff h8 (by omega) (by omega) (by omega), hzl]
    exact hz0
  rw [if_neg (by rw [hbl]; simp), h.form]
  simp only [Option.getD_some]
  rw [if_neg (by rw [h.fits]; simp), values_parts h.up0]

theorem takeB_inv {l : List Bool} {e v x : Int} {l' : List Bool} (h : takeB l e v = (x, l', 0)) : e = 0 ∧ 1 ≤ vWidth v ∧ vWidth v ≤ 32 ∧ l = bitsOf x.toNat (vWidth v).toNat ++ l' ∧ 0 ≤ x ∧ x < ((2 ^ (vWidth v).toNat : Nat) : Int) := by
  unfold takeB at h
  by_cases he : e = 0
  · rw [if_neg (by simpa using he)] at h
    simp only [Prod.mk.injEq] at h
    obtain ⟨h1, h2, h3⟩ := h
    have hr := getE_zero h3
    have g1 := getL_eq h3
    have g2 := getN_eq h3
    have g3 := bitsOf_numOf (l.take (vWidth v).toNat)
    have g4 := numOf_lt (l.take (vWidth v).toNat)
    rw [List.length_take, Nat.min_eq_left (by omega)] at g3 g4
    rw [h1] at g2
    rw [h2] at g1
    refine ⟨he, hr.1, hr.2.1, ?_, by omega, by omega⟩
    rw [g2, Int.toNat_natCast, g3, g1, List.take_append_drop]
  · rw [if_pos he] at h
    simp only [Prod.mk.injEq] at h
    exact absurd h.2.2 he
theorem oneB_inv {l : List Bool} {e v x : Int} {l' : List Bool} (h : oneB l e v = (x, l', 0)) : e = 0 ∧ vMay v x = true ∧ l = bitsOf x.toNat (vWidth v).toNat ++ l' := by
  unfold oneB at h
  split at h
  · simp only [Prod.mk.injEq] at h; exact absurd h.2.2 (by decide)
  rename_i hc
  obtain ⟨h1, _, _, h2, _⟩ := takeB_inv h
  refine ⟨h1, ?_, h2⟩
  rw [h] at hc
  cases hm : vMay v x with
  | true => rfl
  | false => exact absurd ⟨rfl, hm⟩ hc
theorem onesM_inv : ∀ {names : List Int} {l : List Bool} {e : Int} {vs : List Int} {l' : List Bool}, onesM names l e = (vs, l', 0) → e = 0 ∧ ∃ l1, numsM names vs = .ok l1 ∧ l = layP l1 ++ l'
  | [], l, e, vs, l', h => by
    simp only [onesM, Prod.mk.injEq] at h
    obtain ⟨rfl, rfl, rfl⟩ := h
    exact ⟨rfl, [], rfl, rfl⟩
  | v :: names, l, e, vs, l', h => by
    simp only [onesM, Prod.mk.injEq] at h
    obtain ⟨rfl, h2⟩ := h
    have h3 : onesM names (oneB l e v).2.1 (oneB l e v).2.2 = ((onesM names (oneB l e v).2.1 (oneB l e v).2.2).1, l', 0) := by rw [← h2]
    obtain ⟨he, l1, hn, hl⟩ := onesM_inv h3
    obtain ⟨h4, h5, h6⟩ := oneB_inv (x := (oneB l e v).1) (l' := (oneB l e v).2.1) (l := l) (e := e) (v := v) (by rw [← he])
    refine ⟨h4, ((oneB l e v).1, vWidth v) :: l1, ?_, ?_⟩
    · simp only [numsM]
      rw [if_pos h5, hn]
    · rw [layP_cons, List.append_assoc, ← hl]
      exact h6
theorem packsG_inv {b : List Nat} : ∀ {f : Nat} {z : Int} {P : List (Int × List Int)} {e : Int}, packsG b f z = .ok (P, e) → 0 ≤ z → z ≤ 8 * (b.length : Int) → 8 * (b.length : Int) - z ≤ f →
    ∃ l2, packsM P = .ok l2 ∧ leftB b z.toNat = layP l2 ++ leftB b e.toNat ∧ e = z + sumW l2 ∧ e ≤ 8 * (b.length : Int) ∧ 8 * (b.length : Int) < e + 8
  | 0, z, P, e, h, h0, h1, hf => by
    simp only [packsG, Except.ok.injEq, Prod.mk.injEq] at h
    obtain ⟨rfl, rfl⟩ := h
    exact ⟨[], rfl, rfl, by simp [sumW], h1, by omega⟩
  | f + 1, z, P, e, h, h0, h1, hf => by
    simp only [packsG] at h
    split at h
    · rename_i h8
      cases hg : GetM b z with
      | error x => rw [hg] at h; cases h
      | ok r =>
        obtain ⟨pid, V, z'⟩ := r
        rw [hg] at h
        simp only at h
        obtain ⟨_, _, l, rest, hI, hb, hz'⟩ := get_only hg
        have hcl := ItemsM_len hI
        have hl := congrArg List.length hb
        rw [length_leftB, List.length_append] at hl
        have h8' := ItemsM_head hI
        cases hp : packsG b f z' with
        | error x => rw [hp] at h; cases h
        | ok s =>
          obtain ⟨Q, e'⟩ := s
          rw [hp] at h
          simp only [Except.ok.injEq, Prod.mk.injEq] at h
          obtain ⟨rfl, rfl⟩ := h
          obtain ⟨l2, i1, i2, i3, i4, i5⟩ := packsG_inv hp (by omega) (by omega) (by omega)
          refine ⟨l ++ l2, packsM_cons.2 ⟨l, l2, hI, i1, rfl⟩, ?_, by rw [sumW_app]; omega, i4, i5⟩
          rw [layP_app, List.append_assoc, ← i2, hb]
          have := leftB_next hb
          rw [show z.toNat + (layP l).length = z'.toNat by omega] at this
          rw [this]
    · simp only [Except.ok.injEq, Prod.mk.injEq] at h
      obtain ⟨rfl, rfl⟩ := h
      exact ⟨[], rfl, rfl, by simp [sumW], h1, by omega⟩
/-- what bytes are has just these bytes -/
theorem decode_inv {b : List Nat} (h8 : ∀ x ∈ b, x < 256) {id t ack of_ : Int} {V : List Int} {P : List (Int × List Int)} (h : DecodeM b = .ok (id, t, ack, of_, V, P)) :
    ∃ own must may l1 l2, EncOk id t ack of_ V P own must may l1 l2 ∧ b = encB id l1 l2 := by
  unfold DecodeM at h
  obtain ⟨⟨i0, l0, e0⟩, h0⟩ : ∃ r, takeB (bitsB b) 0 0 = r := ⟨_, rfl⟩
  rw [h0] at h
  simp only at h
  obtain ⟨⟨n1, l1', e1⟩, h1⟩ : ∃ r, takeB l0 (errA i0 e0) 1 = r := ⟨_, rfl⟩
  rw [h1] at h
  simp only at h
  obtain ⟨⟨vs, l2', e2⟩, h2⟩ : ∃ r, onesM (headM i0 ++ ((formM i0).getD ([], 0, [])).1) l1' (errB b.length n1 e1) = r := ⟨_, rfl⟩
  rw [h2] at h
  unfold tailM at h
  simp only at h
  by_cases he2 : e2 ≠ 0
  · rw [if_pos he2] at h; cases h
  rw [if_neg he2] at h
  obtain rfl : e2 = 0 := by simpa using he2
  cases hp : packsG b (8 * b.length) (8 * (b.length : Int) - (l2'.length : Nat)) with
  | error e => rw [hp] at h; cases h
  | ok s =>
    obtain ⟨Q, e⟩ := s
    rw [hp] at h
    simp only at h
    by_cases hbl : blankM b (usedM i0 Q) = false
    · rw [if_pos hbl] at h; cases h
    rw [if_neg hbl] at h
    by_cases hft : fitsM ((formM i0).getD ([], 0, [])).2.1 ((formM i0).getD ([], 0, [])).2.2 (Q.map (·.1)) = false
    · rw [if_pos hft] at h; cases h
    rw [if_neg hft] at h
    simp only [Except.ok.injEq, Prod.mk.injEq] at h
    obtain ⟨rfl, rfl, rfl, rfl, rfl, rfl⟩ := h
    obtain ⟨hE, ll1, hn, hl1⟩ := onesM_inv h2
    have hE1 : e1 = 0 ∧ n1 = b.length := by
      unfold errB at hE
      by_cases hc : e1 = 0 ∧ n1 ≠ b.length
      · rw [if_pos hc] at hE; cases hE
      · rw [if_neg hc] at hE
        exact ⟨hE, Classical.byContradiction fun h => hc ⟨hE, h⟩⟩
    obtain ⟨rfl, rfl⟩ := hE1
    obtain ⟨hA, _, _, hl0, hn0, hn1⟩ := takeB_inv h1
    have hA1 : e0 = 0 ∧ (formM i0).isSome = true := by
      unfold errA at hA
      by_cases hc : e0 = 0 ∧ (formM i0).isSome = false
      · rw [if_pos hc] at hA; cases hA
      · rw [if_neg hc] at hA
        exact ⟨hA, by cases hs : (formM i0).isSome; exact absurd ⟨hA, hs⟩ hc; rfl⟩
    obtain ⟨rfl, hsome⟩ := hA1
    obtain ⟨-, _, _, hbb, hi0, hi1⟩ := takeB_inv h0
    rw [wid0] at hbb
    rw [wid1] at hl0 hn1
    obtain ⟨f, hf⟩ := Option.isSome_iff_exists.1 hsome
    obtain ⟨own, must, may⟩ := f
    rw [hf] at hn hft h2
    simp only [Option.getD_some] at hn hft h2
    have e8 : (8 : Int).toNat = 8 := rfl
    have e10 : (10 : Int).toNat = 10 := rfl
    rw [e8] at hbb
    rw [e10, Int.toNat_natCast] at hl0
    have hbits : leftB b 0 = (bitsOf i0.toNat 8 ++ (bitsOf b.length 10 ++ layP ll1)) ++ l2' := by
      unfold leftB
      rw [List.drop_zero, hbb, hl0, hl1]
      simp only [List.append_assoc]
    have hlen := congrArg List.length hbits
    rw [length_leftB] at hlen
    simp only [List.length_append, length_bitsOf] at hlen
    have hz := leftB_next hbits
    simp only [List.length_append, length_bitsOf, Nat.zero_add] at hz
    obtain ⟨l2, i1, i2, i3, i4, i5⟩ := packsG_inv hp (by omega) (by omega) (by omega)
    have hzz : (8 * (b.length : Int) - (l2'.length : Nat)).toNat = 8 + (10 + (layP ll1).length) := by omega
    rw [hzz, hz] at i2
    have hvl : vs.length = (headM i0 ++ own).length := by
      have := onesM_len (headM i0 ++ own) l1' (errB b.length (b.length : Int) 0)
      rw [h2] at this
      exact this
    have hpv := parts_values (id := i0) (h := vs) (by rw [hvl, List.length_append]; omega)
    have hp1 := length_layP (nums_width (numsM_may hn))
    have hp2 := packsM_len i1
    have hu : usedM i0 Q = e := by
      unfold usedM
      rw [hf, psum_packs i1]
      simp only [Option.getD_some]
      rw [wsum_nums hvl.symm hn]
      omega
    have hbl' : blankM b (usedM i0 Q) = true := by simpa using hbl
    rw [hu, blankM_iff h8 (by omega) i4 i5] at hbl'
    have hlast : (leftB b e.toNat).length < 8 := by rw [length_leftB]; omega
    have hall : bytesOf (bitsOf i0.toNat 8 ++ (bitsOf b.length 10 ++ (layP ll1 ++ layP l2))) = b := by
      refine bytes_of_bits h8 ?_ hlast hbl'
      rw [hbb, hl0, hl1, i2]
      simp only [List.append_assoc]
    have hBN : bytesN ((i0, 8) :: (0, 10) :: (ll1 ++ l2)) = b.length := by
      unfold bytesN
      rw [sumW_head, sumW_app]
      omega
    have hn1' : (b.length : Int) < 1024 := hn1
    refine ⟨own, must, may, ll1, l2, ⟨hf, by rw [hpv.1, hvl], hpv.2, by rw [hpv.1]; exact hn, i1, by simpa using hft, by rw [hBN]; omega⟩, ?_⟩
    unfold encB
    rw [hBN, layP_cons, layP_cons, layP_app]
    simp only [Int.toNat_natCast]
    rw [e8, e10]
    exact hall.symm

/-- behind a message's numbers: how long it is, and where its packets end -/
theorem decode_used {b : List Nat} {i0 n1 : Int} {l0 l1' l2' : List Bool} {e0 e1 : Int} {vs : List Int} (h0 : takeB (bitsB b) 0 0 = (i0, l0, e0)) (h1 : takeB l0 (errA i0 e0) 1 = (n1, l1', e1))
    (h2 : onesM (headM i0 ++ ((formM i0).getD ([], 0, [])).1) l1' (errB b.length n1 e1) = (vs, l2', 0)) :
    b.length ≤ 1023 ∧ ∀ {Q : List (Int × List Int)} {e : Int}, packsG b (8 * b.length) (8 * (b.length : Int) - (l2'.length : Nat)) = .ok (Q, e) → usedM i0 Q = e ∧ 0 ≤ e ∧ e ≤ 8 * (b.length : Int) ∧ 8 * (b.length : Int) < e + 8 := by
  obtain ⟨hE, ll1, hn, hl1⟩ := onesM_inv h2
  have hE1 : e1 = 0 ∧ n1 = b.length := by
    unfold errB at hE
    by_cases hc : e1 = 0 ∧ n1 ≠ b.length
    · rw [if_pos hc] at hE; cases hE
    · rw [if_neg hc] at hE
      exact ⟨hE, Classical.byContradiction fun h => hc ⟨hE, h⟩⟩
  obtain ⟨rfl, rfl⟩ := hE1
  obtain ⟨hA, _, _, hl0, hn0, hn1⟩ := takeB_inv h1
  have hA1 : e0 = 0 ∧ (formM i0).isSome = true := by
    unfold errA at hA
    by_cases hc : e0 = 0 ∧ (formM i0).isSome = false
    · rw [if_pos hc] at hA; cases hA
    · rw [if_neg hc] at hA
      exact ⟨hA, by cases hs : (formM i0).isSome; exact absurd ⟨hA, hs⟩ hc; rfl⟩
  obtain ⟨rfl, hsome⟩ := hA1
  obtain ⟨-, _, _, hbb, hi0, hi1⟩ := takeB_inv h0
  rw [wid0] at hbb
  rw [wid1] at hl0 hn1
  have hn1' : (b.length : Int) < 1024 := hn1
  refine ⟨by omega, fun {Q e} hp => ?_⟩
  have e8 : (8 : Int).toNat = 8 := rfl
  have e10 : (10 : Int).toNat = 10 := rfl
  rw [e8] at hbb
  rw [e10, Int.toNat_natCast] at hl0
  have hbits : leftB b 0 = (bitsOf i0.toNat 8 ++ (bitsOf b.length 10 ++ layP ll1)) ++ l2' := by
    unfold leftB
    rw [List.drop_zero, hbb, hl0, hl1]
    simp only [List.append_assoc]
  have hlen := congrArg List.length hbits
  rw [length_leftB] at hlen
  simp only [List.length_append, length_bitsOf] at hlen
  obtain ⟨l2, i1, i2, i3, i4, i5⟩ := packsG_inv hp (by omega) (by omega) (by omega)
  have hvl : vs.length = (headM i0 ++ ((formM i0).getD ([], 0, [])).1).length := by
    have := onesM_len (headM i0 ++ ((formM i0).getD ([], 0, [])).1) l1' (errB b.length (b.length : Int) 0)
    rw [h2] at this
    exact this
  have hp1 := length_layP (nums_width (numsM_may hn))
  have hp2 := packsM_len i1
  have hu : usedM i0 Q = e := by
    unfold usedM
    rw [psum_packs i1, wsum_nums hvl.symm hn]
    omega
  exact ⟨hu, by omega, i4, i5⟩
theorem partsM_app {id : Int} {h : List Int} (hl : h.length = (headM id).length) (vs : List Int) : partsM id (h ++ vs) = ((partsM id h).1, (partsM id h).2.1, (partsM id h).2.2.1, vs) := by
  unfold partsM
  unfold headM at hl
  cases hu : upM id with
  | true =>
    rw [hu] at hl
    rcases h with _ | ⟨a, _ | ⟨b, _ | ⟨c, h⟩⟩⟩
    · simp at hl
    · simp at hl
    · simp
    · simp at hl
  | false =>
    rw [hu] at hl
    rcases h with _ | ⟨a, _ | ⟨b, _ | ⟨c, _ | ⟨d, h⟩⟩⟩⟩
    · simp at hl
    · simp at hl
    · simp at hl
    · simp
    · simp at hl
theorem packsG_none {b : List Nat} {f : Nat} {z : Int} (h : ¬ 8 ≤ 8 * (b.length : Int) - z) : packsG b f z = .ok ([], z) := by
  cases f with
  | zero => rfl
  | succ f => simp only [packsG]; rw [if_neg h]
/-- packets ahead of packets -/
def preG (P : List (Int × List Int)) : Except Int (List (Int × List Int) × Int) → Except Int (List (Int × List Int) × Int)
  | .error e => .error e
  | .ok s => .ok (P ++ s.1, s.2)
theorem preG_nil (r : Except Int (List (Int × List Int) × Int)) : preG [] r = r := by cases r <;> rfl
theorem packsG_step {b : List Nat} {f : Nat} {z : Int} {P : List (Int × List Int)} (h : 8 ≤ 8 * (b.length : Int) - z) (hf : 8 * (b.length : Int) - z ≤ f) :
    ∃ f', (∀ (p : Int) (V : List Int) (z' : Int), GetM b z = .ok (p, V, z') → preG P (packsG b f z) = preG (P ++ [(p, V)]) (packsG b f' z') ∧ z + 8 ≤ z' ∧ 8 * (b.length : Int) - z' ≤ f' ∧ z' ≤ 8 * (b.length : Int) ∧ V.length ≤ 8200 ∧ (∀ x ∈ V, i64 x) ∧ i64 p) ∧
      (∀ (e : Int), GetM b z = .error e → preG P (packsG b f z) = .error e) := by
  cases f with
  | zero => omega
  | succ f =>
    refine ⟨f, fun p V z' hg => ?_, fun e hg => ?_⟩
    · obtain ⟨h0, _, l, rest, hI, hb, hz'⟩ := get_only hg
      have hcl := ItemsM_len hI
      have hl := congrArg List.length hb
      rw [length_leftB, List.length_append] at hl
      have h8' := ItemsM_head hI
      refine ⟨?_, by omega, by omega, by omega, ?_, ?_, ?_⟩
      · simp only [packsG]
        rw [if_pos h, hg]
        simp only
        cases packsG b f z' <;> simp [preG]
      · have := (ItemsM_short hI).1; omega
      · exact (ItemsM_short hI).2.2.1
      · obtain ⟨T, tr, hT, _⟩ := ItemsM_trace hI
        have := (ptree_chk hT).2.2.2
        unfold i64; omega
    · simp only [packsG]
      rw [if_pos h, hg]
      rfl

theorem nums_range : ∀ {names vs : List Int} {l : List (Int × Int)}, names.length = vs.length → numsM names vs = .ok l → ∀ x ∈ vs, 0 ≤ x ∧ x ≤ 4294967295 := by
  intro names
  induction names with
  | nil => intro vs l hl _ x hx; rw [List.eq_nil_of_length_eq_zero hl.symm] at hx; cases hx
  | cons v names ih =>
    intro vs l hl hn x hx
    cases vs with
    | nil => cases hx
    | cons y vs =>
      simp only [numsM] at hn
      split at hn
      · rename_i hv
        cases hn' : numsM names vs with
        | error e => rw [hn'] at hn; cases hn
        | ok m =>
          rcases List.mem_cons.1 hx with rfl | hx
          · have hr := vMay_range hv
            have := pow_le32 (k := (vWidth v).toNat) (by omega)
            omega
          · exact ih (by simpa using hl) hn' x hx
      · cases hn
theorem ones_i64 {names : List Int} {l l' : List Bool} {e : Int} {vs : List Int} (h : onesM names l e = (vs, l', 0)) : ∀ x ∈ vs, i64 x := by
  obtain ⟨_, l1, hn, _⟩ := onesM_inv h
  have hl := onesM_len names l e
  rw [h] at hl
  intro x hx
  have := nums_range hl.symm hn x hx
  unfold i64
  omega
theorem tailM_err {b : List Nat} {id : Int} {h : List Int × List Bool × Int} (he : h.2.2 ≠ 0) : tailM b id h = .error h.2.2 := by
  unfold tailM
  rw [if_pos he]
theorem takeB_short {l : List Bool} {v : Int} (h1 : 1 ≤ vWidth v) (h2 : vWidth v ≤ 32) (h : (l.length : Int) < vWidth v) : takeB l 0 v = (0, l, 10) := by
  unfold takeB
  rw [if_neg (by simp)]
  unfold getN getL getE
  rw [if_pos (by omega), if_pos (by omega), if_neg (by omega), if_pos (by omega)]
/-- bytes that are too few for a message's head -/
theorem decode_short {b : List Nat} {id : Int} {t : List Bool} (hi : 0 ≤ id ∧ id < 256) (hf : (formM id).isSome = true) (h : bitsB b = [] ∨ bitsB b = bitsOf id.toNat 8 ++ t ∧ t.length < 10) : DecodeM b = .error 10 := by
  have key : ∀ i l e, e ≠ 0 → tailM b i (onesM (headM i ++ ((formM i).getD ([], 0, [])).1) l (errB b.length 0 e)) = .error e := by
    intro i l e he
    have hB : errB b.length 0 e = e := by unfold errB; rw [if_neg (fun hc => he hc.1)]
    rw [hB, tailM_err (by rw [onesM_err _ _ _ he]; exact he), onesM_err _ _ _ he]
  unfold DecodeM
  rcases h with h | ⟨h, ht⟩
  · have t0 := takeB_short (l := []) (v := 0) (by rw [wid0]; decide) (by rw [wid0]; decide) (by rw [wid0]; decide)
    rw [h, t0]
    simp only
    have hA : errA 0 10 = 10 := by unfold errA; rw [if_neg (by simp)]
    have t1 : takeB [] 10 1 = (0, [], 10) := by unfold takeB; rw [if_pos (by decide)]
    rw [hA, t1]
    exact key _ _ _ (by decide)
  · have t0 := takeB_lay (v := 0) (may8 hi) t
    rw [wid0] at t0
    have e8 : (8 : Int).toNat = 8 := rfl
    rw [e8] at t0
    rw [h, t0]
    simp only
    have hA : errA id 0 = 0 := by unfold errA; rw [if_neg (by rw [hf]; simp)]
    have t1 := takeB_short (l := t) (v := 1) (by rw [wid1]; decide) (by rw [wid1]; decide) (by rw [wid1]; omega)
    rw [hA, t1]
    exact key _ t 10 (by decide)
theorem bitsB_take (b : List Nat) (k : Nat) : bitsB (b.take k) = (bitsB b).take (8 * k) := by
  have h : bitsB b = bitsB (b.take k) ++ bitsB (b.drop k) := by rw [← bitsB_app, List.take_append_drop]
  by_cases hk : k ≤ b.length
  · rw [h, List.take_left' (by rw [length_bitsB, List.length_take]; omega)]
  · rw [List.take_of_length_le (by omega), List.take_of_length_le (by rw [length_bitsB]; omega)]
/-- with bytes missing at the end a message is none -/
theorem decode_cut {id t ack of_ : Int} {V : List Int} {P : List (Int × List Int)} {own : List Int} {must : Int} {may : List Int} {l1 l2 : List (Int × Int)} (h : EncOk id t ack of_ V P own must may l1 l2) {k : Nat} (hk : k < (encB id l1 l2).length) :
    DecodeM ((encB id l1 l2).take k) = .error 10 ∨ DecodeM ((encB id l1 l2).take k) = .error 8 := by
  obtain ⟨z, hz, hz0, hb, h1023, hused, hle, hN⟩ := enc_bits h
  generalize encB id l1 l2 = b at *
  have hi := form_id h.form
  have hf : (formM id).isSome = true := by rw [h.form]; rfl
  by_cases hk3 : k < 3
  · left
    by_cases hk0 : k = 0
    · subst hk0
      exact decode_short hi hf (.inl rfl) (t := [])
    · refine decode_short hi hf (.inr ⟨?_, ?_⟩) (t := (bitsOf b.length 10 ++ (layP l1 ++ (layP l2 ++ z))).take (8 * k - 8))
      · rw [bitsB_take, hb, List.take_append, length_bitsOf, List.take_of_length_le (by rw [length_bitsOf]; omega)]
      · rw [List.length_take]; omega
  · right
    have hbt : bitsB (b.take k) = bitsOf id.toNat 8 ++ (bitsOf b.length 10 ++ (layP l1 ++ (layP l2 ++ z)).take (8 * k - 18)) := by
      rw [bitsB_take, hb, List.take_append, length_bitsOf, List.take_of_length_le (by rw [length_bitsOf]; omega), List.take_append, length_bitsOf, List.take_of_length_le (by rw [length_bitsOf]; omega), Nat.sub_sub]
    have hd := decode_front (b := b.take k) (N := b.length) h.form ⟨by omega, by omega⟩ (by rw [hbt]; rfl)
    have hne : ¬ ((b.length : Int) = ((b.take k).length : Nat)) := by rw [List.length_take]; omega
    rw [hd, if_neg hne, tailM_err (by rw [onesM_err _ _ _ (by decide)]; decide), onesM_err _ _ _ (by decide)]
/-- .. with more of them, too -/
theorem decode_more {id t ack of_ : Int} {V : List Int} {P : List (Int × List Int)} {own : List Int} {must : Int} {may : List Int} {l1 l2 : List (Int × Int)} (h : EncOk id t ack of_ V P own must may l1 l2) {more : List Nat} (hm : more ≠ []) :
    DecodeM (encB id l1 l2 ++ more) = .error 8 := by
  obtain ⟨z, hz, hz0, hb, h1023, hused, hle, hN⟩ := enc_bits h
  generalize encB id l1 l2 = b at *
  have hbt : bitsB (b ++ more) = bitsOf id.toNat 8 ++ (bitsOf b.length 10 ++ (layP l1 ++ (layP l2 ++ z) ++ bitsB more)) := by
    rw [bitsB_app, hb]
    simp only [List.append_assoc]
  have hd := decode_front (b := b ++ more) (N := b.length) h.form ⟨by omega, by omega⟩ (by rw [hbt]; rfl)
  have hml : 0 < more.length := List.length_pos_iff.2 hm
  have hne : ¬ ((b.length : Int) = ((b ++ more).length : Nat)) := by rw [List.length_append]; omega
  rw [hd, if_neg hne, tailM_err (by rw [onesM_err _ _ _ (by decide)]; decide), onesM_err _ _ _ (by decide)]
/-- the numbers of what comes up -/
theorem decode_range {b : List Nat} (h8 : ∀ x ∈ b, x < 256) {id t ack of_ : Int} {V : List Int} {P : List (Int × List Int)} (h : DecodeM b = .ok (id, t, ack, of_, V, P)) :
    (0 ≤ id ∧ id < 256) ∧ (0 ≤ t ∧ t ≤ 4294967295) ∧ (0 ≤ ack ∧ ack ≤ 4294967295) ∧ (0 ≤ of_ ∧ of_ ≤ 4294967295) ∧ V.length ≤ 5 ∧ 8 * (P.length : Int) ≤ 8 * b.length := by
  obtain ⟨own, must, may, l1, l2, hk, rfl⟩ := decode_inv h8 h
  have hv := nums_range hk.len.symm hk.nums
  have hlen := hk.len
  have hown := form_own hk.form
  refine ⟨form_id hk.form, ?_, ?_, ?_, ?_, ?_⟩
  · exact hv t (by unfold valuesM; split <;> simp)
  · by_cases hu : upM id = true
    · rw [hk.up0 hu]; omega
    · exact hv ack (by unfold valuesM; rw [if_neg hu]; simp)
  · exact hv of_ (by unfold valuesM; split <;> simp)
  · rw [List.length_append, List.length_append] at hlen
    have : (valuesM id t ack of_).length = (headM id).length := by unfold valuesM headM; split <;> rfl
    omega
  · obtain ⟨z, hz, hz0, hb, h1023, hused, hle, hN⟩ := enc_bits hk
    have := packs_len hk.packs
    have h1 := length_layP (nums_width (numsM_may hk.nums))
    omega

end Go.Proofs.YtiebjnibmomcjaaDoor
