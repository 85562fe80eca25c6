/- Chapter 15: the calls in one shape; SpanNormal. -/
import Derived.Test.YtlcbehhlmobhmaaSpnN
namespace Go.Proofs.Ytlcbehhlmobhmaa
open Go.RowKit

/-- a list of spans in the program's memory -/
structure Lv where
  A : Option Addr
  n : Nat
  c : Nat
  l : List Sp
/-- the lists that a walk has in hand, all in the present world -/
def Live (W w : World) (L : List Lv) : Prop := Keep Never W w ∧ ∀ t ∈ L, SpAt w w.heap.size t.A t.n t.c t.l
theorem Live.go {W w w' : World} {L : List Lv} (h : Live W w L) (hk : Keep Never w w') : Live W w' L := ⟨h.1.trans hk, fun t ht => (h.2 t ht).here hk⟩
theorem Live.put {W w w' : World} {L : List Lv} (h : Live W w L) (hk : Keep Never w w') {A : Option Addr} {n c : Nat} {l : List Sp} (hs : SpAt w' w'.heap.size A n c l) : Live W w' (L ++ [⟨A, n, c, l⟩]) :=
  ⟨h.1.trans hk, fun t ht => by
    rcases List.mem_append.1 ht with ht | ht
    · exact (h.2 t ht).here hk
    · rw [List.mem_singleton] at ht; subst ht; exact hs⟩
theorem Live.ix {W w : World} {L : List Lv} (h : Live W w L) (i : Nat) {A : Option Addr} {n c : Nat} {l : List Sp} (hi : L[i]? = some ⟨A, n, c, l⟩) : SpAt w w.heap.size A n c l := h.2 _ (List.mem_of_getElem? hi)
/-- a list of spans is answered -/
def SpAns (w : World) (p : List Sp → Prop) (e : Ending) (w' : World) : Prop := ∃ m A n c, e = .returned (.slice A n c) ∧ Hid (n = m.length) ∧ SpAt w' w'.heap.size A n c m ∧ Keep Never w w' ∧ p m
theorem SpRet.ans {w : World} {p : List Sp → Prop} {e : Ending} {w' : World} (h : SpRet w p e w') : SpAns w p e w' := by
  obtain ⟨m, A, n, c, he, hn, ho, hk, hp⟩ := h
  exact ⟨m, A, n, c, he, Lib.hid hn, SpAt.of_own ho, hk, hp⟩
theorem norm_at {W w : World} {L : List Lv} (h : Live W w L) (i : Nat) {A : Option Addr} {n c : Nat} {l : List Sp} (hi : L[i]? = some ⟨A, n, c, l⟩) (hn : n ≤ 100000000) :
    Calls Try.prog 11 #[.slice A n c] w (SpAns w fun m => NormOf l m ∧ m.length ≤ n) := by
  have hs := h.ix i hi
  refine (norm_any A n c _ l w hs.rd hs.nil hs.cap (by omega) (Nat.le_refl _)).mono fun e w' hr => ?_
  rw [hs.len] at hr
  exact hr.ans
theorem union_at {W w : World} {L : List Lv} (h : Live W w L) (i j : Nat) {A A' : Option Addr} {n c n' c' : Nat} {l l' : List Sp} (hi : L[i]? = some ⟨A, n, c, l⟩) (hj : L[j]? = some ⟨A', n', c', l'⟩) (hn : n ≤ 400000) (hn' : n' ≤ 400000) :
    Calls Try.prog 13 #[.slice A n c, .slice A' n' c'] w (SpAns w fun m => NormOf (l ++ l') m ∧ m.length ≤ n + n') := by
  have hs := h.ix i hi
  have ht := h.ix j hj
  refine (union_any A A' n c n' c' _ l l' w hs.rd ht.rd hn hn' (Nat.le_refl _)).mono fun e w' hr => ?_
  rw [hs.len, ht.len] at hr
  exact hr.ans
theorem minus_at {W w : World} {L : List Lv} (h : Live W w L) (i j : Nat) {A A' : Option Addr} {n c n' c' : Nat} {l l' : List Sp} (hi : L[i]? = some ⟨A, n, c, l⟩) (hj : L[j]? = some ⟨A', n', c', l'⟩) (hn : n ≤ 200000) (hn' : n' ≤ 200000) :
    Calls Try.prog 15 #[.slice A n c, .slice A' n' c'] w (SpAns w fun m => KeptIs l l' false m ∧ m.length ≤ n * (2 * n' + 1)) :=
  (minus_any _ A n c A' n' c' l l' w (h.ix i hi) (h.ix j hj) hn hn' (Nat.le_refl _)).mono fun _ _ hr => hr.ans
theorem both_at {W w : World} {L : List Lv} (h : Live W w L) (i j : Nat) {A A' : Option Addr} {n c n' c' : Nat} {l l' : List Sp} (hi : L[i]? = some ⟨A, n, c, l⟩) (hj : L[j]? = some ⟨A', n', c', l'⟩) (hn : n ≤ 200000) (hn' : n' ≤ 200000) :
    Calls Try.prog 17 #[.slice A n c, .slice A' n' c'] w (SpAns w fun m => KeptIs l l' true m ∧ m.length ≤ n * (2 * n' + 1)) :=
  (both_any _ A n c A' n' c' l l' w (h.ix i hi) (h.ix j hj) hn hn' (Nat.le_refl _)).mono fun _ _ hr => hr.ans
theorem within_at {W w : World} {L : List Lv} (h : Live W w L) (i j : Nat) {A A' : Option Addr} {n c n' c' : Nat} {l l' : List Sp} (hi : L[i]? = some ⟨A, n, c, l⟩) (hj : L[j]? = some ⟨A', n', c', l'⟩) (hn : n ≤ 200000) (hn' : n' ≤ 200000) :
    Calls Try.prog 19 #[.slice A n c, .slice A' n' c'] w fun e w' => ∃ r, e = .returned (.bool r) ∧ withinB l l' r ∧ Keep Never w w' :=
  within_any _ A n c A' n' c' l l' w (h.ix i hi) (h.ix j hj) hn hn' (Nat.le_refl _)
theorem meets_at {W w : World} {L : List Lv} (h : Live W w L) (i j : Nat) {A A' : Option Addr} {n c n' c' : Nat} {l l' : List Sp} (hi : L[i]? = some ⟨A, n, c, l⟩) (hj : L[j]? = some ⟨A', n', c', l'⟩) (hn : n ≤ 200000) (hn' : n' ≤ 200000) :
    Calls Try.prog 21 #[.slice A n c, .slice A' n' c'] w fun e w' => ∃ r, e = .returned (.bool r) ∧ meetsB l l' r ∧ Keep Never w w' :=
  meets_any _ A n c A' n' c' l l' w (h.ix i hi) (h.ix j hj) hn hn' (Nat.le_refl _)
theorem total_at {W w : World} {L : List Lv} (h : Live W w L) (i : Nat) {A : Option Addr} {n c : Nat} {l : List Sp} (hi : L[i]? = some ⟨A, n, c, l⟩) (hn : n ≤ 100000000) :
    Calls Try.prog 23 #[.slice A n c] w fun e w' => ∃ m, e = .returned (.int .i64 (cntL m)) ∧ NormOf l m ∧ Keep Never w w' :=
  total_sp _ A n c l w (h.ix i hi) (by omega) (Nat.le_refl _)
theorem has_at {W w : World} {L : List Lv} (h : Live W w L) (i : Nat) {A : Option Addr} {n c : Nat} {l : List Sp} (hi : L[i]? = some ⟨A, n, c, l⟩) (hn : n ≤ 100000000) (e x : Int) :
    Calls Try.prog 25 #[.slice A n c, .int .i64 e, .int .i64 x] w fun en w' => en = .returned (.bool (hasL l e x)) ∧ Keep Never w w' :=
  has_any A n c _ l e x w (h.ix i hi).rd (by omega)
theorem same_at {W w : World} {L : List Lv} (h : Live W w L) (i j : Nat) {A A' : Option Addr} {n c n' c' : Nat} {l : List Sp} (hi : L[i]? = some ⟨A, n, c, l⟩) (hj : L[j]? = some ⟨A', n', c', l⟩) (hn : n ≤ 100000000) (hn' : n' ≤ 100000000) :
    Calls Try.prog 10 #[.slice A n c, .slice A' n' c'] w fun e w' => e = .returned (.bool true) ∧ Keep Never w w' :=
  same15_self l A A' n n' c c' _ _ w (h.ix i hi).rd (h.ix j hj).rd (by omega) (by omega)
theorem normal_at {W w : World} {L : List Lv} (h : Live W w L) (i : Nat) {A : Option Addr} {n c : Nat} {l : List Sp} (hi : L[i]? = some ⟨A, n, c, l⟩) (hN : NormalS l) (hn : n ≤ 100000000) :
    Calls Try.prog 26 #[.slice A n c] w fun e w' => e = .returned (.bool true) ∧ Keep Never w w' :=
  normal_any l A n c _ w (h.ix i hi).rd hN (by omega)
theorem Sl.at {W : World} {A : Option Addr} {n c : Nat} {l : List Sp} (s : repSp.Sl W W.heap.size A n c l) : SpAt W W.heap.size A n c l := by
  obtain ⟨h1, h2, h3, h4, h5, h6⟩ := sps_rd s
  exact ⟨h1, h5, h3⟩
theorem Live.two {W : World} {A0 A1 : Option Addr} {n0 c0 n1 c1 : Nat} {l0 l1 : List Sp} (s0 : repSp.Sl W W.heap.size A0 n0 c0 l0) (s1 : repSp.Sl W W.heap.size A1 n1 c1 l1) : Live W W [⟨A0, n0, c0, l0⟩, ⟨A1, n1, c1, l1⟩] :=
  ⟨Keep.refl _ _, fun t ht => by
    simp only [List.mem_cons, List.not_mem_nil, or_false] at ht
    rcases ht with rfl | rfl
    · exact Sl.at s0
    · exact Sl.at s1⟩

set_option maxHeartbeats 2000000 in
set_option maxRecDepth 100000 in
theorem spanNormal_walk (W : World) (A0 : Option Addr) (n0 c0 : Nat) (l0 : List Sp) (s0 : repSp.Sl W W.heap.size A0 n0 c0 l0) (A1 : Option Addr) (n1 c1 : Nat) (l1 : List Sp) (s1 : repSp.Sl W W.heap.size A1 n1 c1 l1) :
    Calls Try.prog 5 #[.slice A0 n0 c0, .slice A1 n1 c1] W fun e W' => e = .returned (.bool true) ∧ Keep Never W W' := by
  have HL0 := Lib.hid (Live.two s0 s1)
  clear s0 s1
  have HA := Lib.hid (awake15_any W)
  go_enter Try.func5, Try.ntmps5
  go_wp2_with fail
  refine HA.out.mono ?_
  rintro e w1 ⟨rfl, hk1⟩
  have HL1 := Lib.hid (HL0.out.go hk1)
  clear hk1 HA HL0
  by_cases hs : n0 ≤ 200 ∧ n1 ≤ 200
  case neg =>
    by_cases h0 : n0 ≤ 200
    · have t0 : decide ((n0 : Int) > 200) = false := by simp; omega
      have t1 : decide ((n1 : Int) > 200) = true := by simp; omega
      clear hs h0
      go_wp2_with fail
      go_ret
      exact ⟨rfl, HL1.out.1⟩
    · have t0 : decide ((n0 : Int) > 200) = true := by simp; omega
      clear hs h0
      go_wp2_with fail
      go_ret
      exact ⟨rfl, HL1.out.1⟩
  case pos =>
    obtain ⟨h0, h1⟩ := hs
    have t0 : decide ((n0 : Int) > 200) = false := by simp; omega
    have t1 : decide ((n1 : Int) > 200) = false := by simp; omega
    have HC := Lib.hid (norm_at HL1.out 0 rfl (by omega))
    go_wp2_with fail
    refine HC.out.mono ?_
    rintro e w2 ⟨m2, A2, n2, c2, rfl, hn2, hs2, hk2, hp2, hb2⟩
    have HL2 := Lib.hid (HL1.out.put hk2 hs2)
    have b2 : n2 ≤ 200 := by have := hn2.out; omega
    have HC2 := Lib.hid (norm_at HL2.out 2 rfl (by omega))
    clear HC hs2 hk2 HL1
    go_wp2_with fail
    refine HC2.out.mono ?_
    rintro e w3 ⟨m3, A3, n3, c3, rfl, hn3, hs3, hk3, hp3, hb3⟩
    have HL3 := Lib.hid (HL2.out.put hk3 hs3)
    have e3 : m3 = m2 := hp3.one (NormOf.self hp2.1)
    subst e3
    have b3 : n3 ≤ 200 := by have := hn3.out; omega
    have HC3 := Lib.hid (same_at HL3.out 3 2 rfl rfl (by omega) (by omega))
    clear HC2 hs3 hk3 hp3 HL2
    go_wp2_with fail
    refine HC3.out.mono ?_
    rintro e w4 ⟨rfl, hk4⟩
    have HL4 := Lib.hid (HL3.out.go hk4)
    have HC4 := Lib.hid (normal_at HL4.out 2 rfl hp2.1 (by omega))
    clear HC3 hk4 HL3
    go_wp2_with fail
    refine HC4.out.mono ?_
    rintro e w5 ⟨rfl, hk5⟩
    have HL5 := Lib.hid (HL4.out.go hk5)
    have HC5 := Lib.hid (union_at HL5.out 0 1 rfl rfl (by omega) (by omega))
    clear HC4 hk5 HL4
    go_wp2_with fail
    refine HC5.out.mono ?_
    rintro e w6 ⟨m6, A6, n6, c6, rfl, hn6, hs6, hk6, hp6, hb6⟩
    have HL6 := Lib.hid (HL5.out.put hk6 hs6)
    have b6 : n6 ≤ 400 := by have := hn6.out; have := (HL6.out.ix 0 rfl).len; have := (HL6.out.ix 1 rfl).len; omega
    have HC6 := Lib.hid (normal_at HL6.out 4 rfl hp6.1 (by omega))
    clear HC5 hs6 hk6 HL5
    go_wp2_with fail
    refine HC6.out.mono ?_
    rintro e w7 ⟨rfl, hk7⟩
    have HL7 := Lib.hid (HL6.out.go hk7)
    have HC7 := Lib.hid (minus_at HL7.out 0 1 rfl rfl (by omega) (by omega))
    clear HC6 hk7 HL6
    go_wp2_with fail
    refine HC7.out.mono ?_
    rintro e w8 ⟨m8, A8, n8, c8, rfl, hn8, hs8, hk8, hp8, hb8⟩
    have HL8 := Lib.hid (HL7.out.put hk8 hs8)
    have b8 : n0 * (2 * n1 + 1) ≤ 200 * 401 := Nat.mul_le_mul h0 (by omega)
    have b8' : n8 ≤ 100000 := by have := hn8.out; omega
    have HC8 := Lib.hid (normal_at HL8.out 5 rfl hp8.1 (by omega))
    clear HC7 hs8 hk8 HL7
    go_wp2_with fail
    refine HC8.out.mono ?_
    rintro e w9 ⟨rfl, hk9⟩
    have HL9 := Lib.hid (HL8.out.go hk9)
    have HC9 := Lib.hid (both_at HL9.out 0 1 rfl rfl (by omega) (by omega))
    clear HC8 hk9 HL8
    go_wp2_with fail
    refine HC9.out.mono ?_
    rintro e w10 ⟨m10, A10, n10, c10, rfl, hn10, hs10, hk10, hp10, hb10⟩
    have HL10 := Lib.hid (HL9.out.put hk10 hs10)
    have b10' : n10 ≤ 100000 := by have := hn10.out; omega
    have HC10 := Lib.hid (normal_at HL10.out 6 rfl hp10.1 (by omega))
    clear HC9 hs10 hk10 HL9
    go_wp2_with fail
    refine HC10.out.mono ?_
    rintro e w11 ⟨rfl, hk11⟩
    have HL11 := Lib.hid (HL10.out.go hk11)
    clear HC10 hk11 HL10
    go_wp2_with fail
    go_ret
    exact ⟨rfl, HL11.out.1⟩

end Go.Proofs.Ytlcbehhlmobhmaa
