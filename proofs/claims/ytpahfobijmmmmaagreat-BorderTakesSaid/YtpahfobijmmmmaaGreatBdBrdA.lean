/- Chapter 20 (border), plainly: which notes and borders may be; what is taken. No program. -/
import Derived.Test.YtpahfobijmmmmaaGreatGrA
import Derived.Test.YtpahfobijmmmmaaGreatBitsY
namespace Go.Proofs.YtpahfobijmmmmaaGreat

/-- a lock: route, train, number -/
abbrev Lok := Int × Int × Int
/-- a note: kind, train, T, Until, locks, here -/
abbrev Nt := Int × Int × Int × Int × List Lok × List Sp
/-- what is lent: the lock, until when -/
abbrev Len := Lok × Int
/-- a border: Sent, Got, Have -/
abbrev Bdr := Int × Int × List Len
def clockB (t : Int) : Bool := decide (0 ≤ t) && decide (t ≤ 4294967294)
def runB (n : Int) : Bool := decide (0 ≤ n) && decide (n ≤ 16777215)
def lokB (train : Int) (k : Lok) : Bool := decide (1 ≤ k.1) && decide (k.1 ≤ 65535) && decide (k.2.1 = train) && decide (1 ≤ k.2.2) && decide (k.2.2 ≤ 1099511627775)
/-- the note without its lists -/
def headN (n : Nt) : Bool := decide (1 ≤ n.1) && decide (n.1 ≤ 3) && runB n.2.1 && clockB n.2.2.1 && decide (0 ≤ n.2.2.2.1) && decide (n.2.2.2.1 ≤ 1099511627776)
def listsN (n : Nt) : Bool := (decide (n.1 = 2) || decide (n.2.2.2.2.1.length = 0)) && (decide (n.1 = 3) || decide (n.2.2.2.2.2.length = 0)) && (!decide (n.1 = 1) || decide (n.2.2.2.1 = 0))
def mayN (n : Nt) : Bool := headN n && listsN n && decide (n.2.2.2.2.1.length ≤ 24) && n.2.2.2.2.1.all (lokB n.2.1) && decide (n.2.2.2.2.2.length ≤ 16) && normB n.2.2.2.2.2 && n.2.2.2.2.2.all fun s => decide (s.1 ≤ 39)
structure MayN (n : Nt) : Prop where
  kind : 1 ≤ n.1 ∧ n.1 ≤ 3
  train : 0 ≤ n.2.1 ∧ n.2.1 ≤ 16777215
  time : 0 ≤ n.2.2.1 ∧ n.2.2.1 ≤ 4294967294
  till : 0 ≤ n.2.2.2.1 ∧ n.2.2.2.1 ≤ 1099511627776
  tell : n.1 = 2 ∨ n.2.2.2.2.1 = []
  took : n.1 = 3 ∨ n.2.2.2.2.2 = []
  ask : n.1 = 1 → n.2.2.2.1 = 0
  few : n.2.2.2.2.1.length ≤ 24
  lok : ∀ k ∈ n.2.2.2.2.1, (1 ≤ k.1 ∧ k.1 ≤ 65535) ∧ k.2.1 = n.2.1 ∧ 1 ≤ k.2.2 ∧ k.2.2 ≤ 1099511627775
  here : n.2.2.2.2.2.length ≤ 16
  norm : NormalS n.2.2.2.2.2
  near : ∀ s ∈ n.2.2.2.2.2, s.1 ≤ 39
theorem mayN_iff {n : Nt} : mayN n = true ↔ MayN n := by
  unfold mayN headN listsN runB clockB
  simp only [Bool.and_eq_true, Bool.or_eq_true, decide_eq_true_eq, List.all_eq_true, normB_iff, List.length_eq_zero_iff]
  constructor
  · rintro ⟨⟨⟨⟨⟨⟨h1, h2⟩, h3⟩, h4⟩, h5⟩, h6⟩, h7⟩
    obtain ⟨⟨⟨⟨⟨a1, a2⟩, a3⟩, a4⟩, a5⟩, a6⟩ := h1
    obtain ⟨⟨b1, b2⟩, b3⟩ := h2
    refine ⟨⟨a1, a2⟩, a3, a4, ⟨a5, a6⟩, b1, b2, fun h => ?_, h3, fun k hk => ?_, h5, h6, h7⟩
    · rcases b3 with b3 | b3
      · rw [decide_eq_true h] at b3; cases b3
      · exact b3
    · have := h4 k hk
      unfold lokB at this
      simp only [Bool.and_eq_true, decide_eq_true_eq] at this
      exact ⟨this.1.1.1, this.1.1.2, this.1.2, this.2⟩
  · intro h
    refine ⟨⟨⟨⟨⟨⟨⟨⟨⟨⟨⟨h.kind.1, h.kind.2⟩, h.train⟩, h.time⟩, h.till.1⟩, h.till.2⟩, ⟨⟨h.tell, h.took⟩, ?_⟩⟩, h.few⟩, fun k hk => ?_⟩, h.here⟩, h.norm⟩, h.near⟩
    · by_cases e : n.1 = 1
      · exact .inr (h.ask e)
      · left; rw [decide_eq_false e]; rfl
    · obtain ⟨⟨a1, a2⟩, a3, a4, a5⟩ := h.lok k hk
      unfold lokB
      simp only [Bool.and_eq_true, decide_eq_true_eq]
      exact ⟨⟨⟨⟨a1, a2⟩, a3⟩, a4⟩, a5⟩
def lentB (h : Len) : Bool := decide (1 ≤ h.1.2.2) && runB h.1.2.1 && decide (0 ≤ h.2) && decide (h.2 ≤ 1099511627776)
def rightX (x : Bdr) : Bool := (decide (x.1 = -1) || clockB x.1) && (decide (x.2.1 = -1) || clockB x.2.1) && decide (x.2.2.length ≤ 48) && x.2.2.all lentB
def noX : Bdr := (0, 0, [])
def haveM (x : Bdr) (n : Nt) : List Len := if n.1 = 2 then (x.2.2.filter fun h => h.1.2.1 != n.2.1) ++ n.2.2.2.2.1.map fun k => (k, n.2.2.2.1) else x.2.2
def takeM (x : Bdr) (n : Nt) : Bdr × Int := if rightX x = true ∧ mayN n = true then (if n.2.2.1 ≤ x.2.1 then (noX, 110) else if 48 < (haveM x n).length then (noX, 1) else ((x.1, n.2.2.1, haveM x n), 0)) else (noX, 1)
def overX (x : Bdr) (now : Int) : Bdr := (x.1, x.2.1, x.2.2.filter fun h => decide (now < h.2))
/-- the document's list: what is kept, then the note's locks -/
theorem haveM_doc {x : Bdr} {n : Nt} (h : mayN n = true) : haveM x n = (x.2.2.filter fun h => decide (n.1 ≠ 2) || (h.1.2.1 != n.2.1)) ++ n.2.2.2.2.1.map fun k => (k, n.2.2.2.1) := by
  have hm := mayN_iff.1 h
  unfold haveM
  by_cases e : n.1 = 2
  · rw [if_pos e]
    congr 1
    refine List.filter_congr fun u _ => ?_
    simp [e]
  · rw [if_neg e]
    rcases hm.tell with h2 | h2
    · exact absurd h2 e
    · rw [h2, List.map_nil, List.append_nil, List.filter_eq_self.2 (fun u _ => by simp [e])]
theorem take_ok {x : Bdr} {n : Nt} (h : (takeM x n).2 = 0) : rightX x = true ∧ mayN n = true ∧ x.2.1 < n.2.2.1 ∧ (haveM x n).length ≤ 48 ∧ takeM x n = ((x.1, n.2.2.1, haveM x n), 0) := by
  unfold takeM at h ⊢
  split at h
  case isFalse => exact absurd h (by decide)
  rename_i h1
  split at h
  · exact absurd h (by decide)
  rename_i h2
  split at h
  · exact absurd h (by decide)
  rename_i h3
  rw [if_pos h1, if_neg h2, if_neg h3]
  exact ⟨h1.1, h1.2, by omega, by omega, rfl⟩
theorem take_right {x : Bdr} {n : Nt} (h : (takeM x n).2 = 0) : rightX (takeM x n).1 = true := by
  obtain ⟨h1, h2, h3, h4, h5⟩ := take_ok h
  rw [h5]
  have hm := mayN_iff.1 h2
  unfold rightX at h1 ⊢
  simp only [Bool.and_eq_true, decide_eq_true_eq, List.all_eq_true] at h1 ⊢
  refine ⟨⟨⟨h1.1.1.1, ?_⟩, h4⟩, fun u hu => ?_⟩
  · rw [Bool.or_eq_true]; right
    unfold clockB
    rw [decide_eq_true hm.time.1, decide_eq_true hm.time.2]; rfl
  · unfold haveM at hu
    split at hu
    · rcases List.mem_append.1 hu with hu | hu
      · exact h1.2 u (List.mem_filter.1 hu).1
      · obtain ⟨k, hk, rfl⟩ := List.mem_map.1 hu
        obtain ⟨_, a3, a4, a5⟩ := hm.lok k hk
        unfold lentB runB
        simp only [Bool.and_eq_true, decide_eq_true_eq]
        exact ⟨⟨⟨a4, by rw [a3]; exact hm.train⟩, hm.till.1⟩, hm.till.2⟩
    · exact h1.2 u hu
def lentTo (train : Int) (l : List Len) : List Lok := (l.filter fun h => h.1.2.1 == train).map Prod.fst
theorem lent_app (train : Int) (l m : List Len) : lentTo train (l ++ m) = lentTo train l ++ lentTo train m := by unfold lentTo; rw [List.filter_append, List.map_append]
/-- what is lent behind a note that was taken -/
theorem take_lent {x : Bdr} {n : Nt} (h : (takeM x n).2 = 0) (train : Int) : lentTo train (takeM x n).1.2.2 = if n.1 = 2 ∧ n.2.1 = train then n.2.2.2.2.1 else lentTo train x.2.2 := by
  obtain ⟨h1, h2, h3, h4, h5⟩ := take_ok h
  rw [h5]
  have hm := mayN_iff.1 h2
  simp only
  unfold haveM
  by_cases e : n.1 = 2
  · rw [if_pos e, lent_app]
    by_cases e2 : n.2.1 = train
    · rw [if_pos ⟨e, e2⟩]
      have a : lentTo train (x.2.2.filter fun h => h.1.2.1 != n.2.1) = [] := by
        unfold lentTo
        rw [List.filter_filter, List.filter_eq_nil_iff.2 (fun u _ => by rw [e2]; simp), List.map_nil]
      have b : lentTo train (n.2.2.2.2.1.map fun k => (k, n.2.2.2.1)) = n.2.2.2.2.1 := by
        unfold lentTo
        rw [List.filter_eq_self.2 (fun u hu => by
          obtain ⟨k, hk, rfl⟩ := List.mem_map.1 hu
          have := (hm.lok k hk).2.1
          simp [this, e2]), List.map_map]
        exact List.map_id _
      rw [a, b, List.nil_append]
    · rw [if_neg (fun h => e2 h.2)]
      have a : lentTo train (x.2.2.filter fun h => h.1.2.1 != n.2.1) = lentTo train x.2.2 := by
        unfold lentTo
        rw [List.filter_filter]
        congr 1
        refine List.filter_congr fun u _ => ?_
        by_cases e3 : u.1.2.1 = train
        · have : u.1.2.1 ≠ n.2.1 := fun h => e2 (h.symm.trans e3)
          simp [e3]; rw [e3] at this; exact this
        · simp [e3]
      have b : lentTo train (n.2.2.2.2.1.map fun k => (k, n.2.2.2.1)) = [] := by
        unfold lentTo
        rw [List.filter_eq_nil_iff.2 (fun u hu => by
          obtain ⟨k, hk, rfl⟩ := List.mem_map.1 hu
          have := (hm.lok k hk).2.1
          simp [this, e2]), List.map_nil]
      rw [a, b, List.append_nil]
  · rw [if_neg e, if_neg (fun h => e h.1)]
/-- between two notes of BorderRises: the border, what is wanted, the last T -/
structure RiseI (train : Int) (x : Bdr) (want : List Lok) (last : Int) : Prop where
  right : rightX x = true
  got : x.2.1 = last
  lent : lentTo train x.2.2 = want
theorem rise_start (train : Int) : RiseI train (-1, -1, []) [] (-1) := ⟨by decide, rfl, rfl⟩
theorem rise_step {train : Int} {x : Bdr} {want : List Lok} {last : Int} (h : RiseI train x want last) {n : Nt} (h0 : (takeM x n).2 = 0) :
    last < n.2.2.1 ∧ (takeM x n).1.2.1 = n.2.2.1 ∧ rightX (takeM x n).1 = true ∧ RiseI train (takeM x n).1 (if n.1 = 2 ∧ n.2.1 = train then n.2.2.2.2.1 else want) n.2.2.1 := by
  obtain ⟨h1, h2, h3, h4, h5⟩ := take_ok h0
  have e : (takeM x n).1.2.1 = n.2.2.1 := by rw [h5]
  refine ⟨by rw [← h.got]; exact h3, e, take_right h0, ⟨take_right h0, e, ?_⟩⟩
  rw [take_lent h0, h.lent]

end Go.Proofs.YtpahfobijmmmmaaGreat

namespace Go.Proofs.YtpahfobijmmmmaaGreat
open Go.RowKit

def wordsL (k : Lok) : List (Int × Int) := [(k.1, 16), (k.2.2 / 1048576, 20), (k.2.2 % 1048576, 20)]
def wordsS (s : Sp) : List (Int × Int) := [(s.1, 8), (s.2.1, 20), (s.2.2, 20)]
/-- a note's numbers and widths -/
def wordsN (n : Nt) : List (Int × Int) := [(n.1, 8), (n.2.1, 24), (n.2.2.1, 32), (n.2.2.2.1 / 1048576, 21), (n.2.2.2.1 % 1048576, 20), ((n.2.2.2.2.1.length : Int), 8)] ++ (n.2.2.2.2.1.flatMap wordsL ++ ([((n.2.2.2.2.2.length : Int), 8)] ++ n.2.2.2.2.2.flatMap wordsS))
def layW (l : List (Int × Int)) : List Bool := l.flatMap fun x => bitsOf x.1.toNat x.2.toNat
def encN (n : Nt) : List Nat := bytesOf (layW (wordsN n))
theorem layW_app (l m : List (Int × Int)) : layW (l ++ m) = layW l ++ layW m := by unfold layW; rw [List.flatMap_append]
theorem layW_cons (x : Int × Int) (l : List (Int × Int)) : layW (x :: l) = bitsOf x.1.toNat x.2.toNat ++ layW l := rfl
structure GoodW (x : Int × Int) : Prop where
  w : 1 ≤ x.2 ∧ x.2 ≤ 32
  lo : 0 ≤ x.1
  hi : x.1 < ((2 ^ x.2.toNat : Nat) : Int)
theorem wordsL_good {train : Int} {k : Lok} (h : (1 ≤ k.1 ∧ k.1 ≤ 65535) ∧ k.2.1 = train ∧ 1 ≤ k.2.2 ∧ k.2.2 ≤ 1099511627775) : ∀ x ∈ wordsL k, GoodW x := by
  intro x hx
  unfold wordsL at hx
  simp only [List.mem_cons, List.not_mem_nil, or_false] at hx
  have e16 : ((2 ^ (16 : Int).toNat : Nat) : Int) = 65536 := by decide
  have e20 : ((2 ^ (20 : Int).toNat : Nat) : Int) = 1048576 := by decide
  rcases hx with rfl | rfl | rfl
  · exact ⟨by simp only; omega, by simp only; omega, by simp only; rw [e16]; omega⟩
  · exact ⟨by simp only; omega, by simp only; omega, by simp only; rw [e20]; omega⟩
  · exact ⟨by simp only; omega, by simp only; omega, by simp only; rw [e20]; omega⟩
theorem wordsS_good {s : Sp} (h : someS s = true) (h2 : s.1 ≤ 39) : ∀ x ∈ wordsS s, GoodW x := by
  intro x hx
  have h3 := someS_iff.1 h
  unfold wordsS at hx
  simp only [List.mem_cons, List.not_mem_nil, or_false] at hx
  have e8 : ((2 ^ (8 : Int).toNat : Nat) : Int) = 256 := by decide
  have e20 : ((2 ^ (20 : Int).toNat : Nat) : Int) = 1048576 := by decide
  rcases hx with rfl | rfl | rfl
  · exact ⟨by simp only; omega, by simp only; omega, by simp only; rw [e8]; omega⟩
  · exact ⟨by simp only; omega, by simp only; omega, by simp only; rw [e20]; omega⟩
  · exact ⟨by simp only; omega, by simp only; omega, by simp only; rw [e20]; omega⟩
theorem wordsN_good {n : Nt} (h : MayN n) : ∀ x ∈ wordsN n, GoodW x := by
  intro x hx
  have e8 : ((2 ^ (8 : Int).toNat : Nat) : Int) = 256 := by decide
  have e24 : ((2 ^ (24 : Int).toNat : Nat) : Int) = 16777216 := by decide
  have e32 : ((2 ^ (32 : Int).toNat : Nat) : Int) = 4294967296 := by decide
  have e21 : ((2 ^ (21 : Int).toNat : Nat) : Int) = 2097152 := by decide
  have e20 : ((2 ^ (20 : Int).toNat : Nat) : Int) = 1048576 := by decide
  have k1 := h.kind; have k2 := h.train; have k3 := h.time; have k4 := h.till; have k5 := h.few; have k6 := h.here
  unfold wordsN at hx
  rw [List.mem_append, List.mem_append, List.mem_append] at hx
  rcases hx with hx | hx | hx | hx
  · simp only [List.mem_cons, List.not_mem_nil, or_false] at hx
    rcases hx with rfl | rfl | rfl | rfl | rfl | rfl
    · exact ⟨by simp only; omega, by simp only; omega, by simp only; rw [e8]; omega⟩
    · exact ⟨by simp only; omega, by simp only; omega, by simp only; rw [e24]; omega⟩
    · exact ⟨by simp only; omega, by simp only; omega, by simp only; rw [e32]; omega⟩
    · exact ⟨by simp only; omega, by simp only; omega, by simp only; rw [e21]; omega⟩
    · exact ⟨by simp only; omega, by simp only; omega, by simp only; rw [e20]; omega⟩
    · exact ⟨by simp only; omega, by simp only; omega, by simp only; rw [e8]; omega⟩
  · obtain ⟨k, hk, hx⟩ := List.mem_flatMap.1 hx
    exact wordsL_good (h.lok k hk) x hx
  · simp only [List.mem_cons, List.not_mem_nil, or_false] at hx
    subst hx
    exact ⟨by simp only; omega, by simp only; omega, by simp only; rw [e8]; omega⟩
  · obtain ⟨s, hs, hx⟩ := List.mem_flatMap.1 hx
    exact wordsS_good (h.norm.1 s hs) (h.near s hs) x hx

/-- a way to take numbers out of bits: what was put comes out, where there are so many -/
def GetOk (g : List Bool → Int → Int × List Bool) : Prop := ∀ (x : Int × Int) (rest : List Bool), GoodW x → g (bitsOf x.1.toNat x.2.toNat ++ rest) x.2 = (x.1, rest)
def gP (l : List Bool) (k : Int) : Int × List Bool := (getN l k, getL l k)
def gR (l : List Bool) (k : Int) : Int × List Bool := if getE l.length k = 0 then (getN l k, getL l k) else (0, [])
theorem gP_ok : GetOk gP := by
  intro x rest h
  have hl := length_bitsOf x.1.toNat x.2.toNat
  have h1 := h.w
  have hc : ¬ (x.2 < 1 ∨ 32 < x.2 ∨ (((bitsOf x.1.toNat x.2.toNat ++ rest).length : Nat) : Int) < x.2) := by rw [List.length_append, hl]; omega
  unfold gP getN getL
  rw [if_neg hc, if_neg hc, List.take_left' hl, List.drop_left' hl, numOf_bitsOf, Nat.mod_eq_of_lt (by have h2 := h.hi; have h3 := h.lo; omega)]
  have := h.lo
  congr 1; omega
theorem gR_ok : GetOk gR := by
  intro x rest h
  have hl := length_bitsOf x.1.toNat x.2.toNat
  have h1 := h.w
  unfold gR
  rw [if_pos]
  · exact gP_ok x rest h
  · unfold getE
    rw [if_neg (by omega), if_neg (by rw [List.length_append, hl]; omega)]
def locksG (g : List Bool → Int → Int × List Bool) (train : Int) : Nat → List Bool → List Lok × List Bool
  | 0, l => ([], l)
  | m + 1, l => ((locksG g train m l).1 ++ [((g (locksG g train m l).2 16).1, train, (g (g (locksG g train m l).2 16).2 20).1 * 1048576 + (g (g (g (locksG g train m l).2 16).2 20).2 20).1)], (g (g (g (locksG g train m l).2 16).2 20).2 20).2)
def hereG (g : List Bool → Int → Int × List Bool) : Nat → List Bool → List Sp × List Bool
  | 0, l => ([], l)
  | m + 1, l => ((hereG g m l).1 ++ [((g (hereG g m l).2 8).1, (g (g (hereG g m l).2 8).2 20).1, (g (g (g (hereG g m l).2 8).2 20).2 20).1)], (g (g (g (hereG g m l).2 8).2 20).2 20).2)
def sixG (g : List Bool → Int → Int × List Bool) (l : List Bool) : (Int × Int × Int × Int × Int) × List Bool :=
  (((g l 8).1, (g (g l 8).2 24).1, (g (g (g l 8).2 24).2 32).1, (g (g (g (g l 8).2 24).2 32).2 21).1 * 1048576 + (g (g (g (g (g l 8).2 24).2 32).2 21).2 20).1, (g (g (g (g (g (g l 8).2 24).2 32).2 21).2 20).2 8).1), (g (g (g (g (g (g l 8).2 24).2 32).2 21).2 20).2 8).2)
def parseG (g : List Bool → Int → Int × List Bool) (m1 m2 : Nat) (l : List Bool) : Nt :=
  let s := sixG g l
  let r := locksG g s.1.2.1 (min s.1.2.2.2.2.toNat m1) s.2
  let h := hereG g (min (g r.2 8).1.toNat m2) (g r.2 8).2
  (s.1.1, s.1.2.1, s.1.2.2.1, s.1.2.2.2.1, r.1, h.1)
theorem g_at {g : List Bool → Int → Int × List Bool} (hg : GetOk g) {v w : Int} (rest : List Bool) (h : GoodW (v, w)) : g (bitsOf v.toNat w.toNat ++ rest) w = (v, rest) := hg (v, w) rest h
theorem locks_back {g : List Bool → Int → Int × List Bool} (hg : GetOk g) {train : Int} {l : List Lok} (h : ∀ k ∈ l, (1 ≤ k.1 ∧ k.1 ≤ 65535) ∧ k.2.1 = train ∧ 1 ≤ k.2.2 ∧ k.2.2 ≤ 1099511627775) (rest : List Bool) :
    ∀ i, i ≤ l.length → locksG g train i (layW (l.flatMap wordsL) ++ rest) = (l.take i, layW ((l.drop i).flatMap wordsL) ++ rest)
  | 0, _ => rfl
  | i + 1, hi => by
    obtain ⟨s, hs⟩ : ∃ s, l[i]? = some s := ⟨_, List.getElem?_eq_getElem (by omega)⟩
    have hk := h s (List.mem_of_getElem? hs)
    have hgw := wordsL_good hk
    have hd : l.drop i = s :: l.drop (i + 1) := by
      obtain ⟨h2, h3⟩ := List.getElem?_eq_some_iff.1 hs
      rw [← h3]; exact List.drop_eq_getElem_cons (by omega)
    unfold locksG
    rw [locks_back hg h rest i (by omega), hd, List.flatMap_cons, layW_app]
    obtain ⟨a, b, c⟩ := s
    simp only at hk
    unfold wordsL at hgw
    have e : layW (wordsL (a, b, c)) = bitsOf a.toNat (16 : Int).toNat ++ (bitsOf (c / 1048576).toNat (20 : Int).toNat ++ (bitsOf (c % 1048576).toNat (20 : Int).toNat ++ [])) := rfl
    rw [e, List.append_nil]
    simp only [List.append_assoc]
    rw [g_at hg _ (hgw (a, 16) (by simp))]
    simp only
    rw [g_at hg _ (hgw (c / 1048576, 20) (by simp))]
    simp only
    rw [g_at hg _ (hgw (c % 1048576, 20) (by simp))]
    simp only
    rw [show c / 1048576 * 1048576 + c % 1048576 = c by omega, ← hk.2.1, List.take_add_one, hs]
    congr 1
theorem here_back {g : List Bool → Int → Int × List Bool} (hg : GetOk g) {l : List Sp} (h : ∀ s ∈ l, someS s = true ∧ s.1 ≤ 39) (rest : List Bool) :
    ∀ i, i ≤ l.length → hereG g i (layW (l.flatMap wordsS) ++ rest) = (l.take i, layW ((l.drop i).flatMap wordsS) ++ rest)
  | 0, _ => rfl
  | i + 1, hi => by
    obtain ⟨s, hs⟩ : ∃ s, l[i]? = some s := ⟨_, List.getElem?_eq_getElem (by omega)⟩
    have hk := h s (List.mem_of_getElem? hs)
    have hgw := wordsS_good hk.1 hk.2
    have hd : l.drop i = s :: l.drop (i + 1) := by
      obtain ⟨h2, h3⟩ := List.getElem?_eq_some_iff.1 hs
      rw [← h3]; exact List.drop_eq_getElem_cons (by omega)
    unfold hereG
    rw [here_back hg h rest i (by omega), hd, List.flatMap_cons, layW_app]
    obtain ⟨a, b, c⟩ := s
    unfold wordsS at hgw
    have e : layW (wordsS (a, b, c)) = bitsOf a.toNat (8 : Int).toNat ++ (bitsOf b.toNat (20 : Int).toNat ++ (bitsOf c.toNat (20 : Int).toNat ++ [])) := rfl
    rw [e, List.append_nil]
    simp only [List.append_assoc]
    rw [g_at hg _ (hgw (a, 8) (by simp))]
    simp only
    rw [g_at hg _ (hgw (b, 20) (by simp))]
    simp only
    rw [g_at hg _ (hgw (c, 20) (by simp))]
    simp only
    rw [List.take_add_one, hs]
    congr 1
theorem parse_back {g : List Bool → Int → Int × List Bool} (hg : GetOk g) {m1 m2 : Nat} (h1 : 24 ≤ m1) (h2 : 16 ≤ m2) {n : Nt} (h : MayN n) (pad : List Bool) : parseG g m1 m2 (layW (wordsN n) ++ pad) = n := by
  have hw := wordsN_good h
  have k5 := h.few; have k6 := h.here
  have hlk := h.lok
  have hsp : ∀ s ∈ n.2.2.2.2.2, someS s = true ∧ s.1 ≤ 39 := fun s hs => ⟨h.norm.1 s hs, h.near s hs⟩
  obtain ⟨a, b, c, d, l, m⟩ := n
  simp only at k5 k6 hlk hsp
  have e : layW (wordsN (a, b, c, d, l, m)) ++ pad = bitsOf a.toNat (8 : Int).toNat ++ (bitsOf b.toNat (24 : Int).toNat ++ (bitsOf c.toNat (32 : Int).toNat ++ (bitsOf (d / 1048576).toNat (21 : Int).toNat ++ (bitsOf (d % 1048576).toNat (20 : Int).toNat ++ (bitsOf ((l.length : Int)).toNat (8 : Int).toNat ++ (layW (l.flatMap wordsL) ++ (bitsOf ((m.length : Int)).toNat (8 : Int).toNat ++ (layW (m.flatMap wordsS) ++ pad)))))))) := by
    unfold wordsN
    rw [layW_app, layW_app, layW_app]
    simp only [layW_cons, show layW [] = [] from rfl, List.append_nil, List.append_assoc]
  rw [e]
  have six : sixG g (bitsOf a.toNat (8 : Int).toNat ++ (bitsOf b.toNat (24 : Int).toNat ++ (bitsOf c.toNat (32 : Int).toNat ++ (bitsOf (d / 1048576).toNat (21 : Int).toNat ++ (bitsOf (d % 1048576).toNat (20 : Int).toNat ++ (bitsOf ((l.length : Int)).toNat (8 : Int).toNat ++ (layW (l.flatMap wordsL) ++ (bitsOf ((m.length : Int)).toNat (8 : Int).toNat ++ (layW (m.flatMap wordsS) ++ pad))))))))) = ((a, b, c, d, (l.length : Int)), layW (l.flatMap wordsL) ++ (bitsOf ((m.length : Int)).toNat (8 : Int).toNat ++ (layW (m.flatMap wordsS) ++ pad))) := by
    unfold sixG
    rw [g_at hg _ (hw (a, 8) (by simp [wordsN]))]
    simp only
    rw [g_at hg _ (hw (b, 24) (by simp [wordsN]))]
    simp only
    rw [g_at hg _ (hw (c, 32) (by simp [wordsN]))]
    simp only
    rw [g_at hg _ (hw (d / 1048576, 21) (by simp [wordsN]))]
    simp only
    rw [g_at hg _ (hw (d % 1048576, 20) (by simp [wordsN]))]
    simp only
    rw [g_at hg _ (hw ((l.length : Int), 8) (by simp [wordsN]))]
    simp only
    rw [show d / 1048576 * 1048576 + d % 1048576 = d by omega]
  unfold parseG
  rw [six]
  simp only
  have q1 : min ((l.length : Int)).toNat m1 = l.length := by omega
  rw [q1, locks_back hg hlk _ l.length (Nat.le_refl _), List.take_length, List.drop_length]
  simp only [List.flatMap_nil, show layW [] = [] from rfl, List.nil_append]
  rw [g_at hg _ (hw ((m.length : Int), 8) (by simp [wordsN]))]
  simp only
  have q2 : min ((m.length : Int)).toNat m2 = m.length := by omega
  rw [q2, here_back hg hsp _ m.length (Nat.le_refl _), List.take_length]
def noN : Nt := (0, 0, 0, 0, [], [])
/-- the note of bytes, in a reader's way -/
def decG (g : List Bool → Int → Int × List Bool) (m1 m2 : Nat) (b : List Nat) : Nt × Int := if mayN (parseG g m1 m2 (bitsB b)) = true ∧ encN (parseG g m1 m2 (bitsB b)) = b then (parseG g m1 m2 (bitsB b), 0) else (noN, 8)
theorem parse_enc {g : List Bool → Int → Int × List Bool} (hg : GetOk g) {m1 m2 : Nat} (h1 : 24 ≤ m1) (h2 : 16 ≤ m2) {n : Nt} (h : mayN n = true) : parseG g m1 m2 (bitsB (encN n)) = n := by
  unfold encN
  rw [bitsB_bytesOf]
  exact parse_back hg h1 h2 (mayN_iff.1 h) _
/-- BorderBack -/
theorem dec_back {g : List Bool → Int → Int × List Bool} (hg : GetOk g) {m1 m2 : Nat} (h1 : 24 ≤ m1) (h2 : 16 ≤ m2) {n : Nt} (h : mayN n = true) : decG g m1 m2 (encN n) = (n, 0) := by
  unfold decG
  rw [parse_enc hg h1 h2 h, if_pos ⟨h, rfl⟩]
/-- BorderOnly -/
theorem dec_only {g : List Bool → Int → Int × List Bool} {m1 m2 : Nat} {b : List Nat} (h : (decG g m1 m2 b).2 = 0) : mayN (decG g m1 m2 b).1 = true ∧ encN (decG g m1 m2 b).1 = b := by
  unfold decG at h ⊢
  split at h
  · rename_i hc; rw [if_pos hc]; exact hc
  · exact absurd h (by decide)
theorem dec_none {g : List Bool → Int → Int × List Bool} {m1 m2 : Nat} {b : List Nat} (h : (decG g m1 m2 b).2 ≠ 0) : decG g m1 m2 b = (noN, 8) := by
  unfold decG at h ⊢
  split at h
  · exact absurd rfl h
  · rename_i hc; rw [if_neg hc]
/-- BorderDecodes: whichever way the numbers are taken -/
theorem dec_same {g g' : List Bool → Int → Int × List Bool} (hg : GetOk g) (hg' : GetOk g') {m1 m2 m1' m2' : Nat} (h1 : 24 ≤ m1) (h2 : 16 ≤ m2) (h1' : 24 ≤ m1') (h2' : 16 ≤ m2') (b : List Nat) : decG g m1 m2 b = decG g' m1' m2' b := by
  by_cases h : (decG g m1 m2 b).2 = 0
  · obtain ⟨a1, a2⟩ := dec_only h
    have e := dec_back hg' h1' h2' a1
    rw [a2] at e
    rw [e]
    exact Prod.ext rfl h
  · by_cases h' : (decG g' m1' m2' b).2 = 0
    · obtain ⟨a1, a2⟩ := dec_only h'
      have e := dec_back hg h1 h2 a1
      rw [a2] at e
      rw [e] at h
      exact absurd rfl h
    · rw [dec_none h, dec_none h']

end Go.Proofs.YtpahfobijmmmmaaGreat
