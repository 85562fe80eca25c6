/- Chapter 15: the chapter's examples; SpanNormal. -/
import Derived.Test.YtpahfobijmmmmaaGreatBdSpnL
namespace Go.Proofs.YtpahfobijmmmmaaGreat
open Go.RowKit

def aw0 : List Sp := [(1, 5, 9), (0, 0, 3), (1, 9, 12), (0, 5, 5)]
def aw1 : List Sp := [(0, 0, 3), (1, 5, 12)]
def aw2 : List Sp := [(0, 0, 3), (1, 5, 6), (1, 7, 12)]
theorem aw_norm : NormOf aw0 aw1 := norm_of (l := aw0) (all := [(0, 0, 3), (1, 5, 9), (1, 9, 12)]) (by decide +kernel) (by simp [leS])
theorem aw_cut : NormalS [((1 : Int), (6 : Int), (7 : Int))] := ⟨by simp [someS], by simp⟩
theorem aw_minus : KeptIs aw1 [(1, 6, 7)] false aw2 := by
  refine ⟨⟨by simp [aw2, someS], by simp [aw2, sepS]⟩, fun e x => ?_⟩
  have h := piecesM_has false aw_norm.1 aw_cut e x
  have h2 : keptM false (piecesM aw1 [(1, 6, 7)]) = aw2 := by decide +kernel
  rwa [h2] at h
theorem SpAt.here {w w' : World} {n c : Nat} {A : Option Addr} {l : List Sp} (h : SpAt w w.heap.size A n c l) (hk : Keep Never w w') : SpAt w' w'.heap.size A n c l := (h.keep hk).more hk.size
theorem same15_self (l : List Sp) (A A' : Option Addr) (n n' c c' B B' : Nat) (w : World) (hr : Rd w B 3 A n (spCells l)) (hr' : Rd w B' 3 A' n' (spCells l)) (hn : n ≤ 100000000000) (hn' : n' ≤ 100000000000) :
    Calls Tryz.prog 49 #[.slice A n c, .slice A' n' c'] w fun e w' => e = .returned (.bool true) ∧ Keep Never w w' := by
  have h := same15_any l l A A' n n' c c' B B' w hr hr' hn hn'
  rwa [decide_eq_true rfl] at h
theorem KeptIs.one {a b m n : List Sp} {which : Bool} (h : KeptIs a b which m) (h' : KeptIs a b which n) : m = n := normal_one h.1 h'.1 (fun e x => (h.2 e x).trans (h'.2 e x).symm)

end Go.Proofs.YtpahfobijmmmmaaGreat

namespace Go.Proofs.YtpahfobijmmmmaaGreat
open Go.RowKit

/-- a list of spans in the program's memory -/
structure Lv where
  A : Option Addr
  n : Nat
  c : Nat
  l : List Sp
/-- the lists that a walk has in hand, all in the present world -/
def Live (W w : World) (L : List Lv) : Prop := Keep Never W w ∧ ∀ t ∈ L, SpAt w w.heap.size t.A t.n t.c t.l
theorem Live.go {W w w' : World} {L : List Lv} (h : Live W w L) (hk : Keep Never w w') : Live W w' L := ⟨h.1.trans hk, fun t ht => (h.2 t ht).here hk⟩
theorem Live.put {W w w' : World} {L : List Lv} (h : Live W w L) (hk : Keep Never w w') {A : Option Addr} {n c : Nat} {l : List Sp} (hs : SpAt w' w'.heap.size A n c l) : Live W w' (L ++ [⟨A, n, c, l⟩]) :=
  ⟨h.1.trans hk, fun t ht => by
    rcases List.mem_append.1 ht with ht | ht
    · exact (h.2 t ht).here hk
    · rw [List.mem_singleton] at ht; subst ht; exact hs⟩
theorem Live.ix {W w : World} {L : List Lv} (h : Live W w L) (i : Nat) {A : Option Addr} {n c : Nat} {l : List Sp} (hi : L[i]? = some ⟨A, n, c, l⟩) : SpAt w w.heap.size A n c l := h.2 _ (List.mem_of_getElem? hi)
/-- a list of spans is answered -/
def SpAns (w : World) (p : List Sp → Prop) (e : Ending) (w' : World) : Prop := ∃ m A n c, e = .returned (.slice A n c) ∧ Hid (n = m.length) ∧ SpAt w' w'.heap.size A n c m ∧ Keep Never w w' ∧ p m
theorem SpRet.ans {w : World} {p : List Sp → Prop} {e : Ending} {w' : World} (h : SpRet w p e w') : SpAns w p e w' := by
  obtain ⟨m, A, n, c, he, hn, ho, hk, hp⟩ := h
  exact ⟨m, A, n, c, he, Lib.hid hn, SpAt.of_own ho, hk, hp⟩
theorem norm_at {W w : World} {L : List Lv} (h : Live W w L) (i : Nat) {A : Option Addr} {n c : Nat} {l : List Sp} (hi : L[i]? = some ⟨A, n, c, l⟩) (hn : n ≤ 100000000) :
    Calls Tryz.prog 46 #[.slice A n c] w (SpAns w fun m => NormOf l m ∧ m.length ≤ n) := by
  have hs := h.ix i hi
  refine (norm_any A n c _ l w hs.rd hs.nil hs.cap (by omega) (Nat.le_refl _)).mono fun e w' hr => ?_
  rw [hs.len] at hr
  exact hr.ans
theorem same_at {W w : World} {L : List Lv} (h : Live W w L) (i j : Nat) {A A' : Option Addr} {n c n' c' : Nat} {l : List Sp} (hi : L[i]? = some ⟨A, n, c, l⟩) (hj : L[j]? = some ⟨A', n', c', l⟩) (hn : n ≤ 100000000) (hn' : n' ≤ 100000000) :
    Calls Tryz.prog 49 #[.slice A n c, .slice A' n' c'] w fun e w' => e = .returned (.bool true) ∧ Keep Never w w' :=
  same15_self l A A' n n' c c' _ _ w (h.ix i hi).rd (h.ix j hj).rd (by omega) (by omega)
theorem Sl.at {W : World} {A : Option Addr} {n c : Nat} {l : List Sp} (s : repSp.Sl W W.heap.size A n c l) : SpAt W W.heap.size A n c l := by
  obtain ⟨h1, h2, h3, h4, h5, h6⟩ := sps_rd s
  exact ⟨h1, h5, h3⟩
theorem Live.two {W : World} {A0 A1 : Option Addr} {n0 c0 n1 c1 : Nat} {l0 l1 : List Sp} (s0 : repSp.Sl W W.heap.size A0 n0 c0 l0) (s1 : repSp.Sl W W.heap.size A1 n1 c1 l1) : Live W W [⟨A0, n0, c0, l0⟩, ⟨A1, n1, c1, l1⟩] :=
  ⟨Keep.refl _ _, fun t ht => by
    simp only [List.mem_cons, List.not_mem_nil, or_false] at ht
    rcases ht with rfl | rfl
    · exact Sl.at s0
    · exact Sl.at s1⟩

end Go.Proofs.YtpahfobijmmmmaaGreat

namespace Go.Proofs.YtpahfobijmmmmaaGreat
open Go.RowKit

theorem parts_all {a b c m u n : List Sp} (hc : KeptIs a b true c) (hm : KeptIs a b false m) (hu : NormOf (c ++ m) u) (hn : NormOf a n) : u = n :=
  normal_one hu.1 hn.1 fun e x => by
    rw [hu.2, hn.2, hasL_app, hc.2, hm.2]
    cases hasL a e x <;> cases hasL b e x <;> rfl
theorem parts_swap {a b c d : List Sp} (hc : KeptIs a b true c) (hd : KeptIs b a true d) : d = c :=
  normal_one hd.1 hc.1 fun e x => by
    rw [hd.2, hc.2]
    cases hasL a e x <;> cases hasL b e x <;> rfl
theorem parts_union {a b c d : List Sp} (hc : NormOf (a ++ b) c) (hd : NormOf (b ++ a) d) : c = d :=
  normal_one hc.1 hd.1 fun e x => by
    rw [hc.2, hd.2, hasL_app, hasL_app, Bool.or_comm]
theorem parts_meet {a b c m : List Sp} {r : Bool} (hc : KeptIs a b true c) (hm : KeptIs a b false m) (h : meetsB c m r) : r = false := by
  cases r with
  | false => rfl
  | true =>
    obtain ⟨e, x, h1, h2⟩ := h.1 rfl
    rw [hc.2] at h1
    rw [hm.2] at h2
    cases ha : hasL a e x <;> cases hb : hasL b e x <;> rw [ha, hb] at h1 h2 <;> first | exact absurd h1 Bool.false_ne_true | exact absurd h2 Bool.false_ne_true
theorem parts_cnt {a b c m n c' m' n' : List Sp} (hc : KeptIs a b true c) (hm : KeptIs a b false m) (hn : NormOf a n) (h1 : NormOf c c') (h2 : NormOf m m') (h3 : NormOf a n') : cntL c' + cntL m' = cntL n' := by
  rw [h1.one (NormOf.self hc.1), h2.one (NormOf.self hm.1), h3.one hn]
  refine cnt_parts hn.1 hc.1 hm.1 (fun e x => ?_) (fun e x h => ?_)
  · rw [hn.2, hc.2, hm.2]
    cases hasL a e x <;> cases hasL b e x <;> rfl
  · rw [hc.2, hm.2] at h
    cases ha : hasL a e x <;> cases hb : hasL b e x <;> rw [ha, hb] at h <;> first | exact absurd h.1 Bool.false_ne_true | exact absurd h.2 Bool.false_ne_true
theorem parts_len {c c' : List Sp} (hc : NormalS c) (h : NormOf c c') {n : Nat} (hn : c.length ≤ n) : 0 ≤ cntL c' ∧ cntL c' ≤ 1000000 * n := by
  rw [h.one (NormOf.self hc)]
  have := cntL_range hc
  omega
theorem parts_in {a b c : List Sp} {r : Bool} (hc : KeptIs a b true c) (h : withinB c b r) : r = true :=
  h.2 fun e x hx => by
    rw [hc.2] at hx
    cases ha : hasL a e x <;> cases hb : hasL b e x <;> rw [ha, hb] at hx <;> first | rfl | exact absurd hx Bool.false_ne_true
theorem parts_in2 {a b c : List Sp} {r : Bool} (hc : NormOf (a ++ b) c) (h : withinB a c r) : r = true :=
  h.2 fun e x hx => by rw [hc.2, hasL_app, hx]; rfl
theorem parts_none {a b m : List Sp} {r : Bool} (hm : KeptIs a b false m) (h : withinB a b r) {n : Nat} (hn : n = m.length) : r = (((n : Int) == 0) : Bool) := by
  apply bool_ext
  rw [show r = true ↔ _ from h, beq_iff_eq, hn]
  have h2 := kept_nil hm
  constructor
  · intro hh
    have : m = [] := h2.2 fun e x hx => by rw [hh e x hx.1] at hx; cases hx.2
    simp [this]
  · intro hh e x hx
    have := h2.1 (List.eq_nil_of_length_eq_zero (by omega)) e x
    cases hb : hasL b e x with
    | true => rfl
    | false => exact absurd ⟨hx, hb⟩ this

end Go.Proofs.YtpahfobijmmmmaaGreat
