/- Chapter 20 (border): what is lent, in cells of four; slices.IndexFunc, ContainsFunc, Clone, DeleteFunc there. -/
import Derived.Test.YtpahfobijmmmmaaBdBrdC
import Derived.Test.YtpahfobijmmmmaaSpnF
namespace Go.Proofs.Ytpahfobijmmmmaa
open Go.RowKit

def leCell (s : Len) : List Value := [.int .i64 s.1.1, .int .i64 s.1.2.1, .int .i64 s.1.2.2, .int .i64 s.2]
/-- the cells of what is lent -/
def leCells (l : List Len) : List Value := l.flatMap leCell
theorem leCells_cons (s : Len) (l : List Len) : leCells (s :: l) = .int .i64 s.1.1 :: .int .i64 s.1.2.1 :: .int .i64 s.1.2.2 :: .int .i64 s.2 :: leCells l := rfl
theorem leCells_nil : leCells [] = [] := rfl
theorem leCells_app (l m : List Len) : leCells (l ++ m) = leCells l ++ leCells m := by simp [leCells]
theorem len_leCells (l : List Len) : (leCells l).length = l.length * 4 := by
  induction l with
  | nil => rfl
  | cons s l ih => rw [leCells_cons]; simp only [List.length_cons, ih]; omega
theorem leCells_one (l : List Len) : ∀ u ∈ leCells l, u.oneCell' = true := by
  induction l with
  | nil => intro u hu; cases hu
  | cons s l ih =>
    intro u hu
    rw [leCells_cons] at hu
    rcases List.mem_cons.1 hu with rfl | hu
    · rfl
    rcases List.mem_cons.1 hu with rfl | hu
    · rfl
    rcases List.mem_cons.1 hu with rfl | hu
    · rfl
    rcases List.mem_cons.1 hu with rfl | hu
    · rfl
    exact ih u hu
theorem leCells_at : ∀ (l : List Len) {i : Nat} {s : Len}, l[i]? = some s → (leCells l)[i * 4]? = some (.int .i64 s.1.1) ∧ (leCells l)[i * 4 + 1]? = some (.int .i64 s.1.2.1) ∧ (leCells l)[i * 4 + 2]? = some (.int .i64 s.1.2.2) ∧ (leCells l)[i * 4 + 3]? = some (.int .i64 s.2) := by
  intro l
  induction l with
  | nil => intro i s h; simp at h
  | cons y l ih =>
    intro i s h
    cases i with
    | zero => simp only [List.getElem?_cons_zero, Option.some.injEq] at h; subst h; exact ⟨rfl, rfl, rfl, rfl⟩
    | succ i =>
      simp only [List.getElem?_cons_succ] at h
      obtain ⟨h1, h2, h3, h4⟩ := ih h
      rw [leCells_cons, show (i + 1) * 4 = i * 4 + 1 + 1 + 1 + 1 by omega, show i * 4 + 1 + 1 + 1 + 1 + 1 = (i * 4 + 1) + 1 + 1 + 1 + 1 by omega, show i * 4 + 1 + 1 + 1 + 1 + 2 = (i * 4 + 2) + 1 + 1 + 1 + 1 by omega, show i * 4 + 1 + 1 + 1 + 1 + 3 = (i * 4 + 3) + 1 + 1 + 1 + 1 by omega]
      simp only [List.getElem?_cons_succ]
      exact ⟨h1, h2, h3, h4⟩
theorem leCells_take : ∀ (l : List Len) (k : Nat), (leCells l).take (k * 4) = leCells (l.take k)
  | [], k => by simp [leCells_nil]
  | s :: l, 0 => by simp [leCells_nil]
  | s :: l, k + 1 => by
    rw [List.take_succ_cons, leCells_cons, leCells_cons, show (k + 1) * 4 = k * 4 + 1 + 1 + 1 + 1 by omega, List.take_succ_cons, List.take_succ_cons, List.take_succ_cons, List.take_succ_cons, leCells_take l k]
/-- element k of what a slice reads as -/
theorem Rd.le {w : World} {B n k : Nat} {A : Option Addr} {l : List Len} (h : Rd w B 4 A n (leCells l)) (hk : k < n) : ∃ ad s, A = some ad ∧ ad.block < B ∧ l[k]? = some s ∧ w.cell? (ad.add (k * 4)) = some (.int .i64 s.1.1) ∧
    w.cell? ⟨(ad.add (k * 4)).block, (ad.add (k * 4)).off + 1, none⟩ = some (.int .i64 s.1.2.1) ∧ w.cell? ⟨(ad.add (k * 4)).block, (ad.add (k * 4)).off + 2, none⟩ = some (.int .i64 s.1.2.2) ∧ w.cell? ⟨(ad.add (k * 4)).block, (ad.add (k * 4)).off + 3, none⟩ = some (.int .i64 s.2) := by
  obtain ⟨ad, e, hb, hc⟩ := h.2 (by omega)
  have hl : k < l.length := by have := h.1; rw [len_leCells] at this; omega
  have hs : l[k]? = some l[k] := List.getElem?_eq_getElem hl
  obtain ⟨a0, a1, a2, a3⟩ := leCells_at l hs
  have c0 := hc _ _ a0
  have c1 := hc _ _ a1
  have c2 := hc _ _ a2
  have c3 := hc _ _ a3
  rw [fld _ _ (by omega)] at c1 c2 c3
  exact ⟨ad, l[k], e, hb, hs, c0, c1, c2, c3⟩
theorem Rd.le_len {w : World} {B n : Nat} {A : Option Addr} {l : List Len} (h : Rd w B 4 A n (leCells l)) : l.length = n := by have := h.1; rw [len_leCells] at this; omega
/-- the list lies at (A, n, c), below block B -/
structure LeAt (w : World) (B : Nat) (A : Option Addr) (n c : Nat) (l : List Len) : Prop where
  rd : Rd w B 4 A n (leCells l)
  nil : A = none → c = 0
  cap : n ≤ c
theorem LeAt.keep {w w' : World} {B n c : Nat} {A : Option Addr} {l : List Len} (h : LeAt w B A n c l) (hk : Keep Never w w') : LeAt w' B A n c l := ⟨h.rd.keep hk (fun _ h => h.elim), h.nil, h.cap⟩
theorem LeAt.more {w : World} {B B' n c : Nat} {A : Option Addr} {l : List Len} (h : LeAt w B A n c l) (hB : B ≤ B') : LeAt w B' A n c l := ⟨h.rd.more hB, h.nil, h.cap⟩
theorem LeAt.len {w : World} {B n c : Nat} {A : Option Addr} {l : List Len} (h : LeAt w B A n c l) : l.length = n := h.rd.le_len
theorem LeAt.of_own {w : World} {base n c : Nat} {A : Option Addr} {l : List Len} (h : Own w base 46 4 A n c (leCells l)) : LeAt w w.heap.size A n c l :=
  ⟨h.rd, (fun e => by
    rcases h.form with ⟨_, _, h2, _⟩ | ⟨_, _, h2, _⟩
    · exact h2
    · rw [e] at h2; cases h2), h.cap_le⟩
set_option maxRecDepth 100000 in
theorem elemLe : Elem Try.prog 37 46 4 32 := ⟨Try.underlying37, _, _, rfl, rfl, rfl, rfl, rfl, by omega⟩
/-- what is asked of a predicate -/
def PredLe (g : Nat) (lb : Array Value) (p : Len → Bool) (w : World) : Prop :=
  ∀ (W : World) (s : Len), Keep Never w W → Calls Try.prog g (#[.agg #[.int .i64 s.1.1, .int .i64 s.1.2.1, .int .i64 s.1.2.2, .int .i64 s.2]] ++ lb) W fun e w' => e = .returned (.bool (p s)) ∧ Keep Never W w'
/-- what IndexFunc leaves there -/
def IdxRetT (p : Len → Bool) (l : List Len) (w : World) (e : Ending) (w' : World) : Prop :=
  ((∃ (i : Nat) (s : Len), e = .returned (.int .i64 i) ∧ l[i]? = some s ∧ p s = true ∧ ∀ x ∈ l.take i, p x = false) ∨ (e = .returned (.int .i64 (-1)) ∧ ∀ x ∈ l, p x = false)) ∧ Keep Never w w'
set_option maxHeartbeats 1000000 in
set_option maxRecDepth 100000 in
theorem indexfT_any (g : Nat) (lb : Array Value) (p : Len → Bool) (eg : ∀ args w, (callFunc g args).run Try.prog w = .ok (.enter g args) w) (A : Option Addr) (n c B : Nat) (l : List Len) (w : World) (hr : Rd w B 4 A n (leCells l)) (hp : PredLe g lb p w) (hn : n ≤ 100000000000) :
    Calls Try.prog 63 #[.slice A n c, .func (.func g) #[] lb] w (IdxRetT p l w) := by
  have HL := Lib.hid hr.le_len
  have HR := Lib.hid hr
  have HP := Lib.hid hp
  clear hr hp
  go_enter Try.func63, Try.ntmps63
  go_wp2_with fail
  go_loopw [5, 8] (fun _ s8 wr => ∃ k : Nat, k ≤ n ∧ s8 = .int .i64 k ∧ Hid (Keep Never w wr ∧ ∀ x ∈ l.take k, p x = false)) (fun _ i _ => n - (intOf i).toNat)
  case atStart => exact ⟨0, by omega, rfl, Lib.hid ⟨Keep.refl _ _, by simp⟩⟩
  case round =>
    obtain ⟨k, hk, rfl, HH⟩ := hrel
    by_cases h0 : k < n
    · have hki : (k : Int) < (n : Int) := by omega
      obtain ⟨ad, s, hA, _, hs, c0, c1, c2, c3⟩ := (HR.out.keep HH.out.1 (fun _ h => h.elim)).le h0
      subst hA
      have hcall := HP.out wr s HH.out.1
      have Hs := Lib.hid hs
      have htk : Hid (l.take (k + 1) = l.take k ++ [s]) := Lib.hid (by
        obtain ⟨h2, h3⟩ := List.getElem?_eq_some_iff.1 hs
        rw [List.take_succ_eq_append_getElem h2, h3])
      clear hs
      obtain ⟨⟨s1, s2, s3⟩, s4⟩ := s
      simp only at c0 c1 c2 c3 hcall
      cases hps : p ((s1, s2, s3), s4) with
      | true =>
        rw [hps] at hcall
        have Hps := Lib.hid hps
        clear hps
        go_wp2_with (go_at_fn g; refine hcall.mono ?_; rintro e w' ⟨rfl, hk'⟩)
        go_ret
        exact ⟨.inl ⟨k, _, rfl, Hs.out, Hps.out, HH.out.2⟩, HH.out.1.trans hk'⟩
      | false =>
        rw [hps] at hcall
        have Hps := Lib.hid hps
        clear hps
        go_wp2_with (go_at_fn g; refine hcall.mono ?_; rintro e w' ⟨rfl, hk'⟩)
        go_roundw
        case measure => simp [intOf]; try omega
        case rel =>
          refine ⟨k + 1, by omega, by go_num, Lib.hid ⟨HH.out.1.trans hk', fun x hx => ?_⟩⟩
          rw [htk.out] at hx
          rcases List.mem_append.1 hx with hx | hx
          · exact HH.out.2 x hx
          · simp at hx; subst hx; exact Hps.out
    · obtain rfl : k = n := by omega
      have hki : ¬ (k : Int) < (k : Int) := by omega
      have HN : Hid (∀ x ∈ l, p x = false) := Lib.hid (by have := HH.out.2; rwa [List.take_of_length_le (by have := HL.out; omega)] at this)
      go_wp2_with fail
      go_ret
      exact ⟨.inr ⟨rfl, HN.out⟩, HH.out.1⟩
set_option maxHeartbeats 1000000 in
set_option maxRecDepth 100000 in
theorem containsfT_any (g : Nat) (lb : Array Value) (p : Len → Bool) (eg : ∀ args w, (callFunc g args).run Try.prog w = .ok (.enter g args) w) (A : Option Addr) (n c B : Nat) (l : List Len) (w : World) (hr : Rd w B 4 A n (leCells l)) (hp : PredLe g lb p w) (hn : n ≤ 100000000000) :
    Calls Try.prog 46 #[.slice A n c, .func (.func g) #[] lb] w fun e w' => e = .returned (.bool (l.any p)) ∧ Keep Never w w' := by
  have HI := Lib.hid (indexfT_any g lb p eg A n c B l w hr hp hn)
  clear hr hp
  go_enter Try.func46, Try.ntmps46
  go_wp2_with fail
  refine HI.out.mono ?_
  rintro e w' ⟨⟨i, s, rfl, h1, h2, h3⟩ | ⟨rfl, h1⟩, hk⟩
  · have HA : Hid (l.any p = true) := Lib.hid (List.any_eq_true.2 ⟨s, List.mem_of_getElem? h1, h2⟩)
    have HK := Lib.hid hk
    have hi : decide ((i : Int) ≥ 0) = true := by simp
    clear h1 h2 h3 hk
    go_wp2_with fail
    go_ret
    exact ⟨by rw [HA.out]; rfl, HK.out⟩
  · have HA : Hid (l.any p = false) := Lib.hid (by rw [List.any_eq_false]; intro x hx; rw [h1 x hx]; simp)
    have HK := Lib.hid hk
    clear h1 hk
    go_wp2_with fail
    go_ret
    exact ⟨by rw [HA.out]; rfl, HK.out⟩

set_option maxHeartbeats 1000000 in
set_option maxRecDepth 100000 in
theorem cloneT_any (A : Option Addr) (n c B : Nat) (l : List Len) (w : World) (hr : Rd w B 4 A n (leCells l)) (hA : A = none → c = 0) (hnc : n ≤ c) (hn : n ≤ 100000000000) (hB : B ≤ w.heap.size) :
    Calls Try.prog 42 #[.slice A n c] w fun e w' => ∃ A' c', e = .returned (.slice A' n c') ∧ Own w' w.heap.size 46 4 A' n c' (leCells l) ∧ Keep Never w w' := by
  have HR := Lib.hid hr
  have HL := Lib.hid hr.le_len
  clear hr
  have q22 : ∀ (w : World) (a : Option Addr) (n c n' c' : Nat), (binOp .eql 37 (.slice a n c) (.slice none n' c')).run Try.prog w = .ok (.bool a.isNone) w := fun w a n c n' c' => Lib.run_eql_slice_nil w _ _ a n c n' c' Try.underlying37
  cases A with
  | none =>
    obtain rfl := hA rfl
    obtain rfl : n = 0 := by omega
    have hl : l = [] := List.eq_nil_of_length_eq_zero HL.out
    subst hl
    clear hA
    go_enter Try.func42, Try.ntmps42
    go_wp2_with fail
    go_ret
    exact ⟨none, 0, rfl, Own.nil _ _ _ _, Keep.refl _ _⟩
  | some ad =>
    clear hA
    have HO : Hid (Own (w.alloc (.cells #[] 46)) w.heap.size 46 4 (some ⟨w.heap.size, 0, none⟩) 0 0 []) := Lib.hid (by
      have h := Own.lit w 46 #[] 0 4 (by unfold maxLen; omega) rfl
      simpa using h)
    have HK : Hid (Keep Never w (w.alloc (.cells #[] 46))) := Lib.hid ((Keep.refl Never w).alloc _)
    have HR1 := Lib.hid (HR.out.keep HK.out (fun _ h => h.elim))
    have hsz : w.heap.size ≤ (w.alloc (.cells #[] 46)).heap.size := by simp
    go_enter Try.func42, Try.ntmps42
    go_wp2_with (at_builtin; refine wpList_app _ rfl (.tmp 5) (.tmp 6) _ rfl elemLe w.heap.size (n := 0) (c := 0) rfl HO.out B (m := n) rfl HR1.out (leCells_one _) (by omega) (by unfold maxLen; omega) hsz ?_; intro A5 c5 w5 hown hk5 hrow)
    go_ret
    refine ⟨A5, c5, by simp, by simpa using hown, HK.out.then_ hk5 (fun i hi h => ?_)⟩
    have := (HO.out.row h).1
    omega

/-- 'clear(s[i:])' of what is lent: four noughts for each -/
theorem run_clear_le (w : World) (ty : TypeId) {base n c g i : Nat} {xs : List Value} (h : Own w base 46 4 (some ⟨g, 0, none⟩) n c xs) (hi : i < n) :
    (Builtin.clear_ #[37] ty #[.slice (some ⟨g, i * 4, none⟩) (n - i) (c - i)]).run Try.prog w = .ok (.tuple #[]) (w.setCells g (i * 4) (Builtin.zeroCells #[.int .i64 0, .int .i64 0, .int .i64 0, .int .i64 0] (n - i)).toList) := by
  have hsz : (Builtin.zeroCells #[Value.int .i64 0, .int .i64 0, .int .i64 0, .int .i64 0] (n - i)).size = (n - i) * 4 := by simp [size_zeroCells]
  have hone : ∀ v ∈ (Builtin.zeroCells #[Value.int .i64 0, .int .i64 0, .int .i64 0, .int .i64 0] (n - i)).toList, v.oneCell' = true := by
    intro v hv
    simp [Builtin.zeroCells] at hv
    obtain ⟨a, _, rfl⟩ := hv
    have h3 : a % 4 = 0 ∨ a % 4 = 1 ∨ a % 4 = 2 ∨ a % 4 = 3 := by omega
    rcases h3 with h3 | h3 | h3 | h3 <;> simp [h3, Value.oneCell']
  have hst := run_storeCells_cells (P := Try.prog) g (i * 4) (Builtin.zeroCells #[Value.int .i64 0, .int .i64 0, .int .i64 0, .int .i64 0] (n - i)).toList 0 w
    (fun j hj => by
      have hj' : i * 4 + j < xs.length := by rw [h.len]; simp at hj; rw [hsz] at hj; omega
      have := World.ownsRow.cells h (g := g) rfl (i * 4 + j) _ (List.getElem?_eq_getElem hj')
      rw [add0] at this
      rw [Nat.add_zero, this]; rfl)
    (fun j _ => by
      have := h.frozen rfl (i * 4 + j)
      rw [add0] at this
      rw [Nat.add_zero]; exact this)
    hone
  simp only [Nat.add_zero] at hst
  obtain ⟨m, hm⟩ : ∃ m, n - i = m + 1 := ⟨n - i - 1, by omega⟩
  rw [hm] at hst ⊢
  have hz : ∀ w, (zeroValue 46).run Try.prog w = .ok (.agg #[.int .i64 0, .int .i64 0, .int .i64 0, .int .i64 0]) w := Try.zeroValue46
  simp [Builtin.clear_, run_underlying Try.underlying37, hz, Value.cells, hst]
theorem le_put {w : World} {base n c g i : Nat} {l : List Len} (s : Len) (h : Own w base 46 4 (some ⟨g, 0, none⟩) n c (leCells l)) (hi : i < n) :
    Own ((((w.setCell ⟨g, i * 4, none⟩ (.int .i64 s.1.1)).setCell ⟨g, i * 4 + 1, none⟩ (.int .i64 s.1.2.1)).setCell ⟨g, i * 4 + 2, none⟩ (.int .i64 s.1.2.2)).setCell ⟨g, i * 4 + 3, none⟩ (.int .i64 s.2)) base 46 4 (some ⟨g, 0, none⟩) n c (leCells (l.set i s)) ∧
      Keep (InRow (some ⟨g, 0, none⟩)) w ((((w.setCell ⟨g, i * 4, none⟩ (.int .i64 s.1.1)).setCell ⟨g, i * 4 + 1, none⟩ (.int .i64 s.1.2.1)).setCell ⟨g, i * 4 + 2, none⟩ (.int .i64 s.1.2.2)).setCell ⟨g, i * 4 + 3, none⟩ (.int .i64 s.2)) := by
  have h1 := (((h.stored rfl (i * 4) (.int .i64 s.1.1)).stored rfl (i * 4 + 1) (.int .i64 s.1.2.1)).stored rfl (i * 4 + 2) (.int .i64 s.1.2.2)).stored rfl (i * 4 + 3) (.int .i64 s.2)
  rw [add0, add0, add0, add0] at h1
  have hlen : l.length = n := by have := h.len; rw [len_leCells] at this; omega
  have he : ∀ (l : List Len) (i : Nat), i < l.length → ((((leCells l).set (i * 4) (.int .i64 s.1.1)).set (i * 4 + 1) (.int .i64 s.1.2.1)).set (i * 4 + 2) (.int .i64 s.1.2.2)).set (i * 4 + 3) (.int .i64 s.2) = leCells (l.set i s) := by
    intro l
    induction l with
    | nil => intro i hi; simp at hi
    | cons y l ih =>
      intro i hi
      cases i with
      | zero => rfl
      | succ i =>
        rw [List.set_cons_succ, leCells_cons, leCells_cons, ← ih i (by simpa using hi), show (i + 1) * 4 = i * 4 + 1 + 1 + 1 + 1 by omega]
        simp only [show i * 4 + 1 + 1 + 1 + 1 + 1 = (i * 4 + 1) + 1 + 1 + 1 + 1 by omega, show i * 4 + 1 + 1 + 1 + 1 + 2 = (i * 4 + 2) + 1 + 1 + 1 + 1 by omega, show i * 4 + 1 + 1 + 1 + 1 + 3 = (i * 4 + 3) + 1 + 1 + 1 + 1 by omega, List.set_cons_succ]
  rw [he l i (by omega)] at h1
  exact ⟨h1, ((((Keep.refl _ w).set_ (p := ⟨g, i * 4, none⟩) (.inl ⟨_, rfl, rfl⟩) _).set_ (p := ⟨g, i * 4 + 1, none⟩) (.inl ⟨_, rfl, rfl⟩) _).set_ (p := ⟨g, i * 4 + 2, none⟩) (.inl ⟨_, rfl, rfl⟩) _).set_ (p := ⟨g, i * 4 + 3, none⟩) (.inl ⟨_, rfl, rfl⟩) _⟩
theorem filter_takeT {l : List Len} {j : Nat} {s : Len} (h : l[j]? = some s) (p : Len → Bool) : (l.take (j + 1)).filter p = (l.take j).filter p ++ (if p s = true then [s] else []) := by
  rw [List.take_add_one, h, List.filter_append]
  simp [List.filter_cons]
/-- the predicate in each world that the row's stores lead to -/
def PredDel (g : Nat) (lb : Array Value) (p : Len → Bool) (A : Option Addr) (w : World) : Prop :=
  ∀ (W : World) (s : Len), Keep (InRow A) w W → Calls Try.prog g (#[.agg #[.int .i64 s.1.1, .int .i64 s.1.2.1, .int .i64 s.1.2.2, .int .i64 s.2]] ++ lb) W fun e w' => e = .returned (.bool (p s)) ∧ Keep Never W w'

set_option maxHeartbeats 2000000 in
set_option maxRecDepth 100000 in
theorem deletefT_any (g0 : Nat) (lb : Array Value) (p : Len → Bool) (eg : ∀ args w, (callFunc g0 args).run Try.prog w = .ok (.enter g0 args) w) (base : Nat) (A : Option Addr) (n c : Nat) (l : List Len) (w : World) (ho : Own w base 46 4 A n c (leCells l)) (hp : PredDel g0 lb p A w) (hn : n ≤ 100000000000) :
    Calls Try.prog 44 #[.slice A n c, .func (.func g0) #[] lb] w fun e w' => e = .returned (.slice A (l.filter fun s => !p s).length c) ∧ Own w' base 46 4 A (l.filter fun s => !p s).length c (leCells (l.filter fun s => !p s)) ∧ Keep (InRow A) w w' := by
  have HO := Lib.hid ho
  have HL : Hid (l.length = n) := Lib.hid ho.rd.le_len
  have HI := Lib.hid (indexfT_any g0 lb p eg A n c _ l w ho.rd (fun W s h => hp W s (h.mono (fun _ _ h => h.elim))) hn)
  have HN := Lib.hid hp
  clear hp
  clear ho
  go_enter Try.func44, Try.ntmps44
  go_wp2_with fail
  refine HI.out.mono ?_
  rintro e w1 ⟨⟨i0, s0, rfl, h1, h2, h3⟩ | ⟨rfl, h1⟩, hk⟩
  rotate_left
  · have HF : Hid ((l.filter fun s => !p s) = l) := Lib.hid (List.filter_eq_self.2 (fun x hx => by have := h1 x hx; simpa using this))
    have HK := Lib.hid hk
    have HO1 := Lib.hid (HO.out.keep hk (fun _ _ h => h))
    clear h1 hk
    go_wp2_with fail
    go_ret
    exact ⟨by rw [HF.out, HL.out]; rfl, by rw [HF.out, HL.out]; exact HO1.out, HK.out.mono (fun _ _ h => h.elim)⟩
  · have hi0 : i0 < n := by have := (List.getElem?_eq_some_iff.1 h1).1; have := HL.out; omega
    obtain ⟨g, cur, rfl, hbg, hB, hnc, hcm, hcs, hct⟩ : ∃ g cur, A = some ⟨g, 0, none⟩ ∧ base ≤ g ∧ Blk w g 46 cur ∧ n ≤ c ∧ c ≤ maxLen ∧ cur.size = c * 4 ∧ cur.toList.take (n * 4) = leCells l := by
      rcases HO.out.form with ⟨_, h, _⟩ | h
      · omega
      · exact h
    have HS0 : Hid (l.take i0 = (l.take (i0 + 1)).filter (fun s => !p s)) := Lib.hid (by
      have h4 : (l.take i0).filter (fun s => !p s) = l.take i0 := List.filter_eq_self.2 (fun x hx => by have := h3 x hx; simpa using this)
      rw [filter_takeT h1, h4, if_neg (by simpa using h2)]; simp)
    have HO1 := Lib.hid (HO.out.keep hk (fun _ _ h => h))
    have HK1 := Lib.hid hk
    have b0 : ((i0 : Int) == -1) = false := beq_eq_false_iff_ne.2 (by omega)
    clear hB hcs hct h1 h2 h3 hk HI
    go_wp2_with fail
    go_loopw [5, 6, 7] (fun s5 s6 _ wr => ∃ i j : Nat, s5 = .int .i64 i ∧ s6 = .int .i64 j ∧ i < j ∧ j ≤ n ∧ Hid (∃ cur : List Len, Own wr base 46 4 (some ⟨g, 0, none⟩) n c (leCells cur) ∧ cur.take i = (l.take j).filter (fun s => !p s) ∧ cur.drop j = l.drop j ∧ Keep (InRow (some ⟨g, 0, none⟩)) w wr))
      (fun _ j _ _ => n - (intOf j).toNat)
    case atStart => exact ⟨i0, i0 + 1, rfl, by go_num, by omega, by omega, Lib.hid ⟨l, HO1.out, HS0.out, rfl, HK1.out.mono (fun _ _ h => h.elim)⟩⟩
    case round =>
      obtain ⟨i, j, rfl, rfl, hij, hjn, HH⟩ := hrel
      by_cases h0 : j < n
      · obtain ⟨cur2, ho, ht, hd, hk⟩ := HH.out
        have hjz : (j : Int) < (n : Int) := by omega
        have hlc : cur2.length = n := ho.rd.le_len
        have hs : cur2[j]? = some cur2[j] := List.getElem?_eq_getElem (by omega)
        have hsl : l[j]? = some cur2[j] := by
          have e1 : (cur2.drop j)[0]? = cur2[j]? := by rw [List.getElem?_drop, Nat.add_zero]
          have e2 : (l.drop j)[0]? = l[j]? := by rw [List.getElem?_drop, Nat.add_zero]
          rw [← e2, ← hd, e1, hs]
        obtain ⟨a0, a1, a2, a3⟩ := leCells_at _ hs
        have c0 := ho.cell0 a0
        have c1 := ho.cell0 a1
        have c2 := ho.cell0 a2
        have c3 := ho.cell0 a3
        obtain ⟨so, hso⟩ : ∃ so, cur2[i]? = some so := ⟨_, List.getElem?_eq_getElem (by omega)⟩
        obtain ⟨o0, o1, o2, o3⟩ := leCells_at _ hso
        generalize cur2[j] = s at *
        have HP := Lib.hid (fun W (h : Keep (InRow (some ⟨g, 0, none⟩)) w W) => HN.out W s h)
        have HO2 := Lib.hid ho
        have Hk := Lib.hid hk
        have Ht := Lib.hid ht
        have Hd := Lib.hid hd
        have Hsl := Lib.hid hsl
        have Hlc := Lib.hid hlc
        have HQ := Lib.hid (And.intro o0 (And.intro o1 (And.intro o2 o3)))
        obtain ⟨⟨s1, s2, s3⟩, s4⟩ := s
        simp only at c0 c1 c2 c3 HP
        have hkb : Hid (Keep Never wr (wr.alloc (.cells #[.int .i64 s1, .int .i64 s2, .int .i64 s3, .int .i64 s4] 46)) ∧ Blk (wr.alloc (.cells #[.int .i64 s1, .int .i64 s2, .int .i64 s3, .int .i64 s4] 46)) wr.heap.size 46 #[.int .i64 s1, .int .i64 s2, .int .i64 s3, .int .i64 s4]) := Lib.hid ⟨(Keep.refl Never wr).alloc _, Blk.new wr _ _⟩
        clear ho hk ht hd hsl hlc hs hso a0 a1 a2 a3 o0 o1 o2 o3 HH
        cases hsm : p ((s1, s2, s3), s4) with
        | true =>
          rw [hsm] at HP
          have HF : Hid ((l.take (j + 1)).filter (fun s => !p s) = (l.take j).filter (fun s => !p s)) := Lib.hid (by rw [filter_takeT Hsl.out, if_neg (by rw [hsm]; simp)]; simp)
          clear hsm
          go_wp2_with (go_at_fn g0; refine (HP.out _ (Hk.out.trans (hkb.out.1.mono (fun _ _ h => h.elim)))).mono ?_; rintro e w' ⟨rfl, hk'⟩)
          have HFin : Hid (∃ cur : List Len, Own w' base 46 4 (some ⟨g, 0, none⟩) n c (leCells cur) ∧ cur.take i = (l.take (j + 1)).filter (fun s => !p s) ∧ cur.drop (j + 1) = l.drop (j + 1) ∧ Keep (InRow (some ⟨g, 0, none⟩)) w w') := by
            have hk2 : Keep Never wr w' := hkb.out.1.trans hk'
            refine Lib.hid ⟨cur2, HO2.out.keep hk2 (fun _ _ h => h), by rw [HF.out]; exact Ht.out, ?_, Hk.out.trans (hk2.mono (fun _ _ h => h.elim))⟩
            rw [← List.drop_drop, ← List.drop_drop, Hd.out]
          clear hk'
          go_roundw
          case measure => simp [intOf]; try omega
          case rel => exact ⟨i, j + 1, rfl, by go_num, by omega, by omega, HFin⟩
        | false =>
          rw [hsm] at HP
          have HF : Hid ((l.take (j + 1)).filter (fun s => !p s) = (l.take j).filter (fun s => !p s) ++ [((s1, s2, s3), s4)]) := Lib.hid (by rw [filter_takeT Hsl.out, if_pos (by rw [hsm]; rfl)])
          clear hsm
          go_wp2_with fail
          go_at_fn g0
          refine (HP.out _ (Hk.out.trans (hkb.out.1.mono (fun _ _ h => h.elim)))).mono ?_
          rintro e w' ⟨rfl, hk'⟩
          have hk2 : Keep Never wr w' := hkb.out.1.trans hk'
          have HO3 := Lib.hid (HO2.out.keep hk2 (fun _ _ h => h))
          have HK3 := Lib.hid (Hk.out.trans (hk2.mono (fun _ _ h => h.elim)))
          have hb3 := hkb.out.2.keep hk' (fun h => h)
          have b1 : w'.cell? ⟨wr.heap.size, 0, none⟩ = some (.int .i64 s1) := hb3.cell 0
          have b2 : w'.cell? ⟨wr.heap.size, 1, none⟩ = some (.int .i64 s2) := hb3.cell 1
          have b3 : w'.cell? ⟨wr.heap.size, 2, none⟩ = some (.int .i64 s3) := hb3.cell 2
          have b4 : w'.cell? ⟨wr.heap.size, 3, none⟩ = some (.int .i64 s4) := hb3.cell 3
          have d0 := HO3.out.cell0 HQ.out.1
          have d1 := HO3.out.cell0 HQ.out.2.1
          have d2 := HO3.out.cell0 HQ.out.2.2.1
          have d3 := HO3.out.cell0 HQ.out.2.2.2
          have f0 := HO3.out.frozen0 (i * 4)
          have f1 := HO3.out.frozen0 (i * 4 + 1)
          have f2 := HO3.out.frozen0 (i * 4 + 2)
          have f3 := HO3.out.frozen0 (i * 4 + 3)
          have hiz : (i : Int) < (n : Int) := by omega
          have hPut := le_put ((s1, s2, s3), s4) HO3.out (show i < n by omega)
          simp only at hPut
          have HFin : Hid (∃ cur : List Len, Own ((((w'.setCell ⟨g, i * 4, none⟩ (.int .i64 s1)).setCell ⟨g, i * 4 + 1, none⟩ (.int .i64 s2)).setCell ⟨g, i * 4 + 2, none⟩ (.int .i64 s3)).setCell ⟨g, i * 4 + 3, none⟩ (.int .i64 s4)) base 46 4 (some ⟨g, 0, none⟩) n c (leCells cur) ∧ cur.take (i + 1) = (l.take (j + 1)).filter (fun s => !p s) ∧ cur.drop (j + 1) = l.drop (j + 1) ∧ Keep (InRow (some ⟨g, 0, none⟩)) w ((((w'.setCell ⟨g, i * 4, none⟩ (.int .i64 s1)).setCell ⟨g, i * 4 + 1, none⟩ (.int .i64 s2)).setCell ⟨g, i * 4 + 2, none⟩ (.int .i64 s3)).setCell ⟨g, i * 4 + 3, none⟩ (.int .i64 s4))) := by
            refine Lib.hid ⟨cur2.set i ((s1, s2, s3), s4), hPut.1, ?_, ?_, HK3.out.trans hPut.2⟩
            · rw [HF.out, List.take_add_one, List.getElem?_set_self (by have := Hlc.out; omega), List.take_set, List.set_eq_of_length_le (by simp; omega), Ht.out]
              rfl
            · rw [List.drop_set_of_lt (by omega), ← List.drop_drop, ← List.drop_drop, Hd.out]
          clear hPut hk' hk2 hb3 c0 c1 c2 c3
          go_wp2_with fail
          go_roundw
          case measure => simp [intOf]; try omega
          case rel => exact ⟨i + 1, j + 1, by go_num, by go_num, by omega, by omega, HFin⟩
      · obtain rfl : j = n := by omega
        obtain ⟨cur2, ho, ht, hd, hk⟩ := HH.out
        have hjz : ¬ (j : Int) < (j : Int) := by omega
        have hlen : i = (l.filter fun s => !p s).length := by
          have h1 := congrArg List.length ht
          rw [List.length_take, ho.rd.le_len, Nat.min_eq_left (by omega), List.take_of_length_le (by have := HL.out; omega)] at h1
          exact h1
        have hcl : ∀ ty, (Builtin.clear_ #[37] ty #[.slice (some ⟨g, i * 4, none⟩) (j - i) (c - i)]).run Try.prog wr = .ok (.tuple #[]) (wr.setCells g (i * 4) (Builtin.zeroCells #[.int .i64 0, .int .i64 0, .int .i64 0, .int .i64 0] (j - i)).toList) := fun ty => run_clear_le wr ty ho hij
        have hB := (ho.front (show i ≤ j by omega)).behind (Builtin.zeroCells #[.int .i64 0, .int .i64 0, .int .i64 0, .int .i64 0] (j - i)).toList (i * 4) wr (Nat.le_refl _)
        rw [leCells_take, ht, List.take_of_length_le (by have := HL.out; omega)] at hB
        generalize wr.setCells g (i * 4) (Builtin.zeroCells #[.int .i64 0, .int .i64 0, .int .i64 0, .int .i64 0] (j - i)).toList = w9 at *
        have HB := Lib.hid hB
        have Hk := Lib.hid hk
        have Hlen := Lib.hid hlen
        clear hB hk ht hd ho hlen HH
        go_wp2_with (first | (refine wpList_from0 rfl (.tmp 36) (.tmp 37) _ rfl Try.underlying37 Try.sizeOf46 g j c i (by go_simp) _ (by go_simp) rfl (by omega) (by omega) ?_) | (refine wpList_upto0 rfl (.tmp 39) (.tmp 40) _ rfl Try.underlying37 Try.sizeOf46 g j c i (by go_simp) _ (by go_simp) rfl (by omega) (by omega) ?_))
        go_ret
        exact ⟨by rw [← Hlen.out]; rfl, by rw [← Hlen.out]; exact HB.out.1, Hk.out.trans HB.out.2⟩

end Go.Proofs.Ytpahfobijmmmmaa
