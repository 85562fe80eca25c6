/- Reference of layer 5: Grammar, Words, closing. -/
import Derived.Test.YtiebjnibmomcjaaDoorPackG
import Derived.Test.YtiebjnibmomcjaaDoorBdVarsD
namespace Go.Proofs.YtiebjnibmomcjaaDoor
open Go.RowKit

/-- what stands between blanks: what is left, the word that is under way -/
def wF : List UInt8 → List UInt8 → List ByteArray
  | [], cur => if cur = [] then [] else [⟨cur.toArray⟩]
  | b :: l, cur => if b = 32 then (if cur = [] then wF l [] else ⟨cur.toArray⟩ :: wF l []) else wF l (cur ++ [b])
def wordsL (s : List UInt8) : List ByteArray := wF s []
/-- L_PACKET stands in no brackets -/
def safe7 : Parts → Bool
  | .nil => true
  | .cons _ wh l r => (decide (wh = 0) || no7 l) && safe7 r
def n7 : Parts → Nat
  | .nil => 0
  | .cons v wh _ r => (if wh = 0 ∧ v = 7 then 1 else 0) + n7 r
/-- the text of a packet's grammar -/
def GramOk (id : Int) (s : ByteArray) : Bool := match ptree id with
  | none => decide (s.data.toList = [])
  | some T => decide (wordsL s.data.toList = toks T) && wfT T && safe7 T && decide (n7 T = 1) && decide (s.data.toList.length ≤ 1000) && decide (s.data.toList ≠ [])

set_option maxRecDepth 100000 in
set_option maxHeartbeats 2000000 in
theorem grammar_any (id : Int) (w : World) :
    Calls Tryd.prog 66 #[.int .i64 id] w fun e w' => ∃ s, e = .returned (.string s) ∧ GramOk id s = true ∧ w = w' := by
  by_cases h : id ∈ pids
  · simp only [pids, List.mem_cons, List.not_mem_nil, or_false] at h
    rcases h with rfl | rfl | rfl | rfl | rfl | rfl | rfl | rfl | rfl | rfl | rfl | rfl
    all_goals
      go_enter Tryd.func66, Tryd.ntmps66
      go_wp2
      go_ret
      exact ⟨_, rfl, by kernel_rfl, rfl⟩
  · have hT : ptree id = none := by
      cases hT : ptree id with
      | none => rfl
      | some T => exact absurd (ptree_id hT) h
    have hG : Hid (GramOk id ⟨#[]⟩ = true) := by show GramOk id _ = true; unfold GramOk; rw [hT]; rfl
    simp only [pids, List.mem_cons, List.not_mem_nil, or_false, not_or] at h
    obtain ⟨h1, h2, h3, h4, h5, h6, h7, h8, h9, h10, h11, h12⟩ := h
    clear hT
    go_enter Tryd.func66, Tryd.ntmps66
    go_wp2
    go_ret
    exact ⟨_, rfl, hG.out, rfl⟩

theorem gram_none {id : Int} {s : ByteArray} (h : GramOk id s = true) (hT : ptree id = none) : s = ⟨#[]⟩ := by
  unfold GramOk at h
  rw [hT] at h
  have h1 : s.data.toList = [] := by simpa using h
  apply ByteArray.ext
  simpa using h1
theorem gram_some {id : Int} {s : ByteArray} {T : Parts} (h : GramOk id s = true) (hT : ptree id = some T) : wordsL s.data.toList = toks T ∧ wfT T = true ∧ safe7 T = true ∧ n7 T = 1 ∧ s.data.toList.length ≤ 1000 ∧ s.data.toList ≠ [] := by
  unfold GramOk at h
  rw [hT] at h
  simp only [Bool.and_eq_true, decide_eq_true_eq] at h
  obtain ⟨⟨⟨⟨⟨h1, h2⟩, h3⟩, h4⟩, h5⟩, h6⟩ := h
  exact ⟨h1, h2, h3, h4, h5, h6⟩

theorem rknown_any (id : Int) (w : World) :
    Calls Tryd.prog 64 #[.int .i64 id] w fun e w' => e = .returned (.bool (ptree id).isSome) ∧ w = w' := by
  cases hT : ptree id with
  | none =>
    go_enter Tryd.func64, Tryd.ntmps64
    go_wp2_with fail
    refine (grammar_any id _).mono ?_
    rintro e w' ⟨s, rfl, hg, rfl⟩
    obtain rfl := gram_none hg hT
    clear hg
    go_wp2_with fail
    go_ret
    exact ⟨rfl, rfl⟩
  | some T =>
    go_enter Tryd.func64, Tryd.ntmps64
    go_wp2_with fail
    refine (grammar_any id _).mono ?_
    rintro e w' ⟨s, rfl, hg, rfl⟩
    have hne : (s.toList == []) = false := by
      have := (gram_some hg hT).2.2.2.2.2
      rw [Lib.toList_data]
      simpa using this
    clear hg
    go_wp2_with fail
    go_ret
    exact ⟨rfl, rfl⟩

set_option maxRecDepth 100000 in
theorem elemStr : Elem Tryd.prog 61 9 1 16 := ⟨Tryd.underlying61, _, _, rfl, rfl, rfl, rfl, rfl, by omega⟩

/-- what Words has yet to say behind the first k bytes, the word from f on being under way -/
def wRest (s : List UInt8) (f k : Nat) : List ByteArray := if s.length < k then [] else wF (s.drop k) ((s.take k).drop f)
theorem wRest_end {s : List UInt8} {f : Nat} (hf : f ≤ s.length) : wRest s f s.length = (if f < s.length then [⟨(s.drop f).toArray⟩] else []) := by
  unfold wRest
  rw [if_neg (by omega), List.drop_length, List.take_length]
  simp only [wF]
  by_cases h : f < s.length
  · rw [if_pos h, if_neg (by intro e; have := congrArg List.length e; simp at this; omega)]
  · rw [if_neg h, if_pos (List.drop_eq_nil_of_le (by omega))]
theorem wRest_blank {s : List UInt8} {f k : Nat} (hk : k < s.length) (hf : f ≤ k) (h : s[k]? = some 32) : wRest s f k = (if f < k then [⟨((s.take k).drop f).toArray⟩] else []) ++ wRest s (k + 1) (k + 1) := by
  have hd : s.drop k = 32 :: s.drop (k + 1) := by
    rw [List.drop_eq_getElem_cons hk]
    have : s[k] = 32 := by rw [List.getElem?_eq_getElem hk] at h; injection h
    rw [this]
  have e2 : wRest s (k + 1) (k + 1) = wF (s.drop (k + 1)) [] := by
    unfold wRest
    rw [if_neg (by omega), List.drop_take]; simp
  rw [e2]
  unfold wRest
  rw [if_neg (by omega), hd]
  simp only [wF, if_true]
  by_cases hf' : f < k
  · rw [if_pos hf', if_neg (by intro e; have := congrArg List.length e; simp at this; omega)]; rfl
  · rw [if_neg hf', if_pos (List.drop_eq_nil_of_le (by simp; omega))]; rfl
theorem wRest_more {s : List UInt8} {f k : Nat} (hk : k < s.length) (hf : f ≤ k) (h : s[k]? ≠ some 32) : wRest s f k = wRest s f (k + 1) := by
  have hd : s.drop k = s[k] :: s.drop (k + 1) := List.drop_eq_getElem_cons hk
  have hne : s[k] ≠ 32 := by intro e; rw [List.getElem?_eq_getElem hk, e] at h; exact h rfl
  unfold wRest
  rw [if_neg (by omega), if_neg (by omega), hd]
  simp only [wF, if_neg hne]
  congr 1
  rw [List.take_succ_eq_append_getElem hk, List.drop_append_of_le_length (by simp; omega)]
theorem wRest_zero (s : List UInt8) : wRest s 0 0 = wordsL s := by unfold wRest wordsL; rw [if_neg (by omega)]; simp

/-- what Words leaves -/
def WWords (w : World) (l : List ByteArray) (e : Ending) (w' : World) : Prop :=
  ∃ A n c, e = .returned (.slice A n c) ∧ n = l.length ∧ Own w' w.heap.size 9 1 A n c (l.map .string) ∧ Keep Never w w'

set_option maxHeartbeats 4000000 in
set_option maxRecDepth 100000 in
theorem words_any (s : ByteArray) (hs : s.data.toList.length ≤ 100000) (w : World) :
    Calls Tryd.prog 60 #[.string s] w (WWords w (wordsL s.data.toList)) := by
  obtain ⟨N, hN⟩ : ∃ N, s.size = N := ⟨_, rfl⟩
  have hN' : s.data.toList.length = N := by rw [← hN]; rfl
  have HN := Lib.hid hN
  have HN' := Lib.hid hN'
  rw [hN'] at hs
  clear hN'
  go_enter Tryd.func60, Tryd.ntmps60
  go_wp2
  go_loopw [3, 4, 5] (fun v f i wr => ∃ (k q m c3 : Nat) (A3 : Option Addr) (l : List ByteArray), k ≤ N + 1 ∧ q ≤ k ∧ m ≤ k ∧ f = .int .i64 q ∧ i = .int .i64 k ∧ v = .slice A3 m c3 ∧
      Hid (m = l.length ∧ Own wr w.heap.size 9 1 A3 m c3 (l.map .string) ∧ Keep Never w wr ∧ l ++ wRest s.data.toList q k = wordsL s.data.toList))
    (fun _ _ i _ => N + 1 - (intOf i).toNat)
  case atStart => exact ⟨0, 0, 0, 0, none, [], by omega, by omega, by omega, rfl, rfl, rfl, rfl, Own.nil _ _ _ _, Keep.refl _ _, by rw [wRest_zero]; rfl⟩
  case round =>
    obtain ⟨k, q, m, c3, A3, l, hk, hq, hm, rfl, rfl, rfl, HH⟩ := hrel
    have hszs : Hid (∀ w, (sizeOf 9).run Tryd.prog w = .ok 1 w) := fun w => by kernel_rfl
    have hsl : ∀ q k : Nat, (⟨((s.data.toList.take k).drop q).toArray⟩ : ByteArray) = s.extract q k := by
      intro q k
      rw [← Lib.mk_data s, ByteArray.extract_mk, List.drop_take]
    have HSL := Lib.hid hsl
    clear hsl
    by_cases hkN : k = N + 1
    · subst hkN
      obtain ⟨h1, h2, h3, h4⟩ := HH.out
      have e : wRest s.data.toList q (N + 1) = [] := by unfold wRest; rw [HN'.out, if_pos (by omega)]
      rw [e, List.append_nil] at h4
      subst h4
      have HF : Hid (WWords w (wordsL s.data.toList) (.returned (.slice A3 m c3)) wr) := ⟨A3, m, c3, rfl, h1, h2, h3⟩
      clear h1 h2 h3 e HH
      go_wp2
      go_ret
      exact HF.out
    have hkN' : k ≤ N := by omega
    -- the test is true just at a blank, or the end
    by_cases hb : k = N ∨ s.data.toList[k]? = some 32
    · -- the word, if there is one
      have hnext : Hid (wRest s.data.toList q k = (if q < k then [s.extract q k] else []) ++ wRest s.data.toList (k + 1) (k + 1)) := by
        show _ = _
        have h1 := HN'.out
        rcases hb with rfl | hb
        · have e1 : wRest s.data.toList (k + 1) (k + 1) = [] := by unfold wRest; rw [h1, if_pos (by omega)]
          have e2 := wRest_end (s := s.data.toList) (f := q) (by omega)
          rw [h1] at e2
          rw [e1, e2, ← HSL.out, List.append_nil]
          by_cases h : q < k
          · rw [if_pos h, if_pos h, ← h1, List.take_length]
          · rw [if_neg h, if_neg h]
        · have hk' : k < s.data.toList.length := by
            have := (List.getElem?_eq_some_iff.1 hb).1; exact this
          rw [wRest_blank hk' hq hb, HSL.out]
      have htest : Hid (k = N ∨ ∃ h : k < s.size, (((s[k]'h).toNat : Int) == 32) = true) := by
        rcases hb with h | hb
        · exact .inl h
        · right
          obtain ⟨h1, h2⟩ := List.getElem?_eq_some_iff.1 hb
          refine ⟨by have := HN'.out; omega, ?_⟩
          have : s[k]'(by have := HN'.out; omega) = 32 := h2
          rw [this]; rfl
      by_cases hqk : q < k
      · have hqi : (q : Int) < (k : Int) := by omega
        have HA : Hid (∀ (A4 : Option Addr) (c4 : Nat) (w3 w4 : World), Keep Never wr w3 → Own w4 w.heap.size 9 1 A4 (m + 1) c4 (l.map .string ++ [.string (s.extract q k)]) → Keep (InRow A3) w3 w4 →
            m + 1 = (l ++ [s.extract q k]).length ∧ Own w4 w.heap.size 9 1 A4 (m + 1) c4 ((l ++ [s.extract q k]).map .string) ∧ Keep Never w w4 ∧ (l ++ [s.extract q k]) ++ wRest s.data.toList (k + 1) (k + 1) = wordsL s.data.toList) := by
          intro A4 c4 w3 w4 hk3 ho4 hk4
          obtain ⟨h1, h2, h3, h4⟩ := HH.out
          have e := hnext.out
          rw [if_pos hqk] at e
          rw [e] at h4
          exact ⟨by simp [h1], by simpa using ho4, (h3.trans hk3).then_ hk4 (fun i hi hr => by have := (h2.row hr).1; omega), by rw [← h4]; simp⟩
        have HO : Hid (Own wr w.heap.size 9 1 A3 m c3 (l.map .string)) := HH.out.2.1
        have HS0 : Hid (w.heap.size ≤ wr.heap.size) := HH.out.2.2.1.size
        have hki : (k : Int) ≤ (s.size : Int) := by omega
        clear HH hnext
        rcases htest.out with h | ⟨hlt, ht⟩
        all_goals
          first
            | (subst h; have hke : ((k : Int) == (s.size : Int)) = true := by simp [hN])
            | have hke : ((k : Int) == (s.size : Int)) = false := by simp; omega
          clear hb
          go_wp2_with (first
            | (at_builtin; refine wpList_app _ rfl (.tmp 25) (.tmp 30) _ rfl elemStr w.heap.size rfl (HO.out.alloc _) _ rfl (Rd.of_blk (n := 1) (cs := [.string _]) (Blk.new _ _ _) rfl) (by simp [Value.oneCell']) (by omega) (by unfold maxLen; omega) (by have := HS0.out; simp; omega) ?_; intro A4 c4 w4 hown4 hk4 hrow4))
          have HF := Lib.hid (HA.out A4 c4 _ w4 ((Keep.refl _ _).alloc _) (by simpa using hown4) hk4)
          clear hown4 hk4 hrow4
          go_wp2_with fail
          go_roundw
          case rel => exact ⟨k + 1, k + 1, m + 1, c4, A4, l ++ [s.extract q k], by omega, by omega, by omega, by go_num, by go_num, rfl, HF.out⟩
          case measure => simp [intOf]; try omega
      · have hqi : ¬ (q : Int) < (k : Int) := by omega
        obtain ⟨h1, h2, h3, h4⟩ := HH.out
        have e := hnext.out
        rw [if_neg hqk, List.nil_append] at e
        rw [e] at h4
        have HF := Lib.hid (And.intro h1 (And.intro h2 (And.intro h3 h4)))
        clear h1 h2 h3 h4 e HH hnext
        rcases htest.out with h | ⟨hlt, ht⟩
        all_goals
          first
            | (subst h; have hke : ((k : Int) == (s.size : Int)) = true := by simp [hN])
            | have hke : ((k : Int) == (s.size : Int)) = false := by simp; omega
          clear hb
          go_wp2_with fail
          go_roundw
          case rel => exact ⟨k + 1, k + 1, m, c3, A3, l, by omega, by omega, by omega, by go_num, by go_num, rfl, HF.out⟩
          case measure => simp [intOf]; try omega
    · obtain ⟨h1, h2, h3, h4⟩ := HH.out
      have hk' : k < N := by omega
      have e := wRest_more (s := s.data.toList) (f := q) (k := k) (by have := HN'.out; omega) hq (fun h => hb (.inr h))
      rw [e] at h4
      have HF := Lib.hid (And.intro h1 (And.intro h2 (And.intro h3 h4)))
      clear h1 h2 h3 h4 e HH
      have hke : ((k : Int) == (s.size : Int)) = false := by simp; omega
      have hlt : k < s.size := by omega
      have ht : (((s[k]'hlt).toNat : Int) == 32) = false := by
        have h0 : s.data.toList[k]? = some (s[k]'hlt) := by
          rw [List.getElem?_eq_getElem (by have := HN'.out; omega)]; rfl
        have : s[k]'hlt ≠ 32 := fun h => hb (.inr (by rw [h0, h]))
        simp only [beq_eq_false_iff_ne, ne_eq]
        intro h'
        apply this
        apply UInt8.toNat_inj.1
        exact_mod_cast h'
      clear hb
      go_wp2_with fail
      go_roundw
      case rel => exact ⟨k + 1, q, m, c3, A3, l, by omega, by omega, by omega, rfl, by go_num, rfl, HF.out⟩
      case measure => simp [intOf]; try omega

theorem closeAt_nil (d : Int) : closeAt [] d = 0 := rfl
theorem closeAt_drop {l : List Word} {k : Nat} {x : Word} (h : l[k]? = some x) (d : Int) :
    closeAt (l.drop k) d = (if (if isOpen x then d + 1 else d) - (if isClose x then 1 else 0) = 0 then 0 else closeAt (l.drop (k + 1)) ((if isOpen x then d + 1 else d) - (if isClose x then 1 else 0)) + 1) := by
  obtain ⟨h1, h2⟩ := List.getElem?_eq_some_iff.1 h
  rw [List.drop_eq_getElem_cons h1, h2]
  rfl
theorem word_is (x : ByteArray) (l : List UInt8) : (ByteArray.toList x == l) = decide (x = ByteArray.mk l.toArray) := by
  have := bytes_beq x ⟨l.toArray⟩
  rw [Go.ByteArray.toList_mk l] at this
  exact this

set_option maxHeartbeats 4000000 in
set_option maxRecDepth 100000 in
theorem closing_any (A : Option Addr) (n c B : Nat) (l : List Word) (hl : l.length = n) (w : World) (hr : Rd w B 1 A n (l.map .string)) (hn : n ≤ 100000) (k0 : Nat) (hk0 : k0 ≤ n) :
    Calls Tryd.prog 80 #[.slice A n c, .int .i64 k0] w fun e w' => e = .returned (.int .i64 ((k0 + closeAt (l.drop k0) 0 : Nat) : Int)) ∧ Keep Never w w' := by
  have HL := Lib.hid hl
  have HR := Lib.hid hr
  clear hl hr
  go_enter Tryd.func80, Tryd.ntmps80
  go_wp2
  go_loopw [5, 6] (fun d i wr => ∃ (k : Nat) (z : Int), k0 ≤ k ∧ k ≤ n ∧ i = .int .i64 k ∧ d = .int .i64 z ∧ -k ≤ z ∧ z ≤ k ∧ Hid (Keep Never w wr ∧ k + closeAt (l.drop k) z = k0 + closeAt (l.drop k0) 0))
    (fun _ i _ => n - (intOf i).toNat)
  case atStart => exact ⟨k0, 0, by omega, by omega, rfl, rfl, by omega, by omega, Keep.refl _ _, rfl⟩
  case round =>
    obtain ⟨k, z, hk, hkn, rfl, rfl, hz1, hz2, HH⟩ := hrel
    by_cases h0 : k < n
    · have h0i : (k : Int) < (n : Int) := by omega
      obtain ⟨ad, x, rfl, _, hx, hc⟩ := (HR.out.keep HH.out.1 (fun _ h => h.elim)).at1 h0
      have HX := Lib.hid hx
      have hd := closeAt_drop hx z
      clear hx
      clear HX
      have hz3 : -100000 ≤ z ∧ z ≤ 100000 := by omega
      obtain ⟨hz3, hz4⟩ := hz3
      have hcase : (isOpen x = true ∧ isClose x = false ∧ (x = ⟨#[123]⟩ ∨ x = ⟨#[60]⟩ ∨ x = ⟨#[40, 49, 50]⟩)) ∨ (isOpen x = false ∧ isClose x = true ∧ (x = ⟨#[125]⟩ ∨ x = ⟨#[62]⟩)) ∨
          (isOpen x = false ∧ isClose x = false ∧ (ByteArray.toList x == [123]) = false ∧ (ByteArray.toList x == [60]) = false ∧ (ByteArray.toList x == [40, 49, 50]) = false ∧ (ByteArray.toList x == [125]) = false ∧ (ByteArray.toList x == [62]) = false) := by
        rw [word_is, word_is, word_is, word_is, word_is]
        by_cases e1 : x = ⟨#[123]⟩
        · subst e1; left; exact ⟨by decide, by decide, by simp⟩
        by_cases e2 : x = ⟨#[60]⟩
        · subst e2; left; exact ⟨by decide, by decide, by simp⟩
        by_cases e3 : x = ⟨#[40, 49, 50]⟩
        · subst e3; left; exact ⟨by decide, by decide, by simp⟩
        by_cases e4 : x = ⟨#[125]⟩
        · subst e4; right; left; exact ⟨by decide, by decide, by simp⟩
        by_cases e5 : x = ⟨#[62]⟩
        · subst e5; right; left; exact ⟨by decide, by decide, by simp⟩
        right; right
        refine ⟨?_, ?_, by simpa using e1, by simpa using e2, by simpa using e3, by simpa using e4, by simpa using e5⟩
        · unfold isOpen wO wL wE; simp only [decide_eq_false_iff_not, not_or]; exact ⟨e1, e2, e3⟩
        · unfold isClose wC wG; simp only [decide_eq_false_iff_not, not_or]; exact ⟨e4, e5⟩
      rcases hcase with ⟨ho, hcl, hx⟩ | ⟨ho, hcl, hx⟩ | ⟨ho, hcl, t1, t2, t3, t4, t5⟩
      · have hd2 : closeAt (l.drop k) z = if z + 1 = 0 then 0 else closeAt (l.drop (k + 1)) (z + 1) + 1 := by
          rw [hd, ho, hcl]; simp
        clear hd ho hcl
        by_cases hz : z + 1 = 0
        · have HF : Hid (k = k0 + closeAt (l.drop k0) 0 ∧ Keep Never w wr) := ⟨by rw [← HH.out.2, hd2, if_pos hz]; rfl, HH.out.1⟩
          have hzb : (z + 1 == 0) = true := by simpa using hz
          clear hz hd2 HH
          rcases hx with rfl | rfl | rfl
          all_goals
            go_wp2
            go_ret
            exact ⟨congrArg (fun z : Int => Ending.returned (.int .i64 z)) (by have := HF.out.1; omega), HF.out.2⟩
        · have HF : Hid (Keep Never w wr ∧ (k + 1) + closeAt (l.drop (k + 1)) (z + 1) = k0 + closeAt (l.drop k0) 0) := ⟨HH.out.1, by rw [← HH.out.2, hd2, if_neg hz]; omega⟩
          have hzb : (z + 1 == 0) = false := by simpa using hz
          clear hz hd2 HH
          rcases hx with rfl | rfl | rfl
          all_goals
            go_wp2
            go_roundw
            case rel => exact ⟨k + 1, z + 1, by omega, by omega, by go_num, rfl, by omega, by omega, HF.out⟩
            case measure => simp [intOf]; try omega
      · have hd2 : closeAt (l.drop k) z = if z - 1 = 0 then 0 else closeAt (l.drop (k + 1)) (z - 1) + 1 := by
          rw [hd, ho, hcl]; simp
        clear hd ho hcl
        by_cases hz : z - 1 = 0
        · have HF : Hid (k = k0 + closeAt (l.drop k0) 0 ∧ Keep Never w wr) := ⟨by rw [← HH.out.2, hd2, if_pos hz]; rfl, HH.out.1⟩
          have hzb : (z - 1 == 0) = true := by simpa using hz
          clear hz hd2 HH
          rcases hx with rfl | rfl
          all_goals
            go_wp2
            go_ret
            exact ⟨congrArg (fun z : Int => Ending.returned (.int .i64 z)) (by have := HF.out.1; omega), HF.out.2⟩
        · have HF : Hid (Keep Never w wr ∧ (k + 1) + closeAt (l.drop (k + 1)) (z - 1) = k0 + closeAt (l.drop k0) 0) := ⟨HH.out.1, by rw [← HH.out.2, hd2, if_neg hz]; omega⟩
          have hzb : (z - 1 == 0) = false := by simpa using hz
          clear hz hd2 HH
          rcases hx with rfl | rfl
          all_goals
            go_wp2
            go_roundw
            case rel => exact ⟨k + 1, z - 1, by omega, by omega, by go_num, rfl, by omega, by omega, HF.out⟩
            case measure => simp [intOf]; try omega
      · have hd2 : closeAt (l.drop k) z = if z = 0 then 0 else closeAt (l.drop (k + 1)) (z) + 1 := by
          rw [hd, ho, hcl]; simp
        clear hd ho hcl
        by_cases hz : z = 0
        · have HF : Hid (k = k0 + closeAt (l.drop k0) 0 ∧ Keep Never w wr) := ⟨by rw [← HH.out.2, hd2, if_pos hz]; rfl, HH.out.1⟩
          have hzb : (z == 0) = true := by simpa using hz
          clear hz hd2 HH
          skip
          all_goals
            go_wp2
            go_ret
            exact ⟨congrArg (fun z : Int => Ending.returned (.int .i64 z)) (by have := HF.out.1; omega), HF.out.2⟩
        · have HF : Hid (Keep Never w wr ∧ (k + 1) + closeAt (l.drop (k + 1)) (z) = k0 + closeAt (l.drop k0) 0) := ⟨HH.out.1, by rw [← HH.out.2, hd2, if_neg hz]; omega⟩
          have hzb : (z == 0) = false := by simpa using hz
          clear hz hd2 HH
          skip
          all_goals
            go_wp2
            go_roundw
            case rel => exact ⟨k + 1, z, by omega, by omega, by go_num, rfl, by omega, by omega, HF.out⟩
            case measure => simp [intOf]; try omega
    · obtain rfl : k = n := by omega
      have e : k + closeAt (l.drop k) z = k := by rw [List.drop_eq_nil_of_le (by have := HL.out; omega)]; rfl
      have hki : ¬ (k : Int) < (k : Int) := by omega
      have HF : Hid (k = k0 + closeAt (l.drop k0) 0 ∧ Keep Never w wr) := ⟨by rw [← HH.out.2, e], HH.out.1⟩
      clear e HH
      go_wp2
      go_ret
      exact ⟨congrArg (fun z : Int => Ending.returned (.int .i64 z)) (by have := HF.out.1; omega), HF.out.2⟩

end Go.Proofs.YtiebjnibmomcjaaDoor
