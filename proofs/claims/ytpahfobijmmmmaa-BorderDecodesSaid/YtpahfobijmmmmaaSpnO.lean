/- Chapter 15: the calls in one shape; SpanNormal. -/
import Derived.Test.YtpahfobijmmmmaaSpnN
namespace Go.Proofs.Ytpahfobijmmmmaa
open Go.RowKit

/-- a list of spans in the program's memory -/
structure Lv where
  A : Option Addr
  n : Nat
  c : Nat
  l : List Sp
/-- the lists that a walk has in hand, all in the present world -/
def Live (W w : World) (L : List Lv) : Prop := Keep Never W w ∧ ∀ t ∈ L, SpAt w w.heap.size t.A t.n t.c t.l
theorem Live.go {W w w' : World} {L : List Lv} (h : Live W w L) (hk : Keep Never w w') : Live W w' L := ⟨h.1.trans hk, fun t ht => (h.2 t ht).here hk⟩
theorem Live.put {W w w' : World} {L : List Lv} (h : Live W w L) (hk : Keep Never w w') {A : Option Addr} {n c : Nat} {l : List Sp} (hs : SpAt w' w'.heap.size A n c l) : Live W w' (L ++ [⟨A, n, c, l⟩]) :=
  ⟨h.1.trans hk, fun t ht => by
    rcases List.mem_append.1 ht with ht | ht
    · exact (h.2 t ht).here hk
    · rw [List.mem_singleton] at ht; subst ht; exact hs⟩
theorem Live.ix {W w : World} {L : List Lv} (h : Live W w L) (i : Nat) {A : Option Addr} {n c : Nat} {l : List Sp} (hi : L[i]? = some ⟨A, n, c, l⟩) : SpAt w w.heap.size A n c l := h.2 _ (List.mem_of_getElem? hi)
/-- a list of spans is answered -/
def SpAns (w : World) (p : List Sp → Prop) (e : Ending) (w' : World) : Prop := ∃ m A n c, e = .returned (.slice A n c) ∧ Hid (n = m.length) ∧ SpAt w' w'.heap.size A n c m ∧ Keep Never w w' ∧ p m
theorem SpRet.ans {w : World} {p : List Sp → Prop} {e : Ending} {w' : World} (h : SpRet w p e w') : SpAns w p e w' := by
  obtain ⟨m, A, n, c, he, hn, ho, hk, hp⟩ := h
  exact ⟨m, A, n, c, he, Lib.hid hn, SpAt.of_own ho, hk, hp⟩
theorem norm_at {W w : World} {L : List Lv} (h : Live W w L) (i : Nat) {A : Option Addr} {n c : Nat} {l : List Sp} (hi : L[i]? = some ⟨A, n, c, l⟩) (hn : n ≤ 100000000) :
    Calls Try.prog 30 #[.slice A n c] w (SpAns w fun m => NormOf l m ∧ m.length ≤ n) := by
  have hs := h.ix i hi
  refine (norm_any A n c _ l w hs.rd hs.nil hs.cap (by omega) (Nat.le_refl _)).mono fun e w' hr => ?_
  rw [hs.len] at hr
  exact hr.ans
theorem same_at {W w : World} {L : List Lv} (h : Live W w L) (i j : Nat) {A A' : Option Addr} {n c n' c' : Nat} {l : List Sp} (hi : L[i]? = some ⟨A, n, c, l⟩) (hj : L[j]? = some ⟨A', n', c', l⟩) (hn : n ≤ 100000000) (hn' : n' ≤ 100000000) :
    Calls Try.prog 34 #[.slice A n c, .slice A' n' c'] w fun e w' => e = .returned (.bool true) ∧ Keep Never w w' :=
  same15_self l A A' n n' c c' _ _ w (h.ix i hi).rd (h.ix j hj).rd (by omega) (by omega)
theorem Sl.at {W : World} {A : Option Addr} {n c : Nat} {l : List Sp} (s : repSp.Sl W W.heap.size A n c l) : SpAt W W.heap.size A n c l := by
  obtain ⟨h1, h2, h3, h4, h5, h6⟩ := sps_rd s
  exact ⟨h1, h5, h3⟩
theorem Live.two {W : World} {A0 A1 : Option Addr} {n0 c0 n1 c1 : Nat} {l0 l1 : List Sp} (s0 : repSp.Sl W W.heap.size A0 n0 c0 l0) (s1 : repSp.Sl W W.heap.size A1 n1 c1 l1) : Live W W [⟨A0, n0, c0, l0⟩, ⟨A1, n1, c1, l1⟩] :=
  ⟨Keep.refl _ _, fun t ht => by
    simp only [List.mem_cons, List.not_mem_nil, or_false] at ht
    rcases ht with rfl | rfl
    · exact Sl.at s0
    · exact Sl.at s1⟩

end Go.Proofs.Ytpahfobijmmmmaa
