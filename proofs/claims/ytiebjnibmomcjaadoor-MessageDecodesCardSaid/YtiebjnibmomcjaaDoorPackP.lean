/- Package packet: its trees of parts are made as the plain ones. -/
import Derived.Test.YtiebjnibmomcjaaDoorPackD
import Derived.Test.YtiebjnibmomcjaaDoorRep
namespace Go.Proofs.YtiebjnibmomcjaaDoor
open Go.RowKit

/-- the slice (A, n) reads as the cells xs; its array is a block of D -/
def RdD (w : World) (D : Nat → Prop) (size : Nat) (A : Option Addr) (n : Nat) (xs : List Value) : Prop :=
  xs.length = n * size ∧ (0 < n → ∃ ad, A = some ad ∧ D ad.block ∧ ∀ j u, xs[j]? = some u → w.cell? (ad.add j) = some u)
theorem RdD.keep {w w' : World} {D D' : Nat → Prop} {size n : Nat} {A : Option Addr} {xs : List Value} {S : Nat → Prop} (h : RdD w D size A n xs) (hs : 0 < size) (hk : Keep S w w') (hS : ∀ k, k < w.heap.size → D k → ¬ S k ∧ D' k) : RdD w' D' size A n xs :=
  ⟨h.1, fun hn => by
    obtain ⟨ad, e, hb, hc⟩ := h.2 hn
    have hl : 0 < xs.length := by rw [h.1]; exact Nat.mul_pos hn hs
    have h0 := cell_lt (hc 0 _ (List.getElem?_eq_getElem hl))
    rw [block_add] at h0
    obtain ⟨h1, h2⟩ := hS _ h0 hb
    refine ⟨ad, e, h2, fun j u hu => ?_⟩
    rw [hk.cell (by rw [block_add]; exact h0) (by rw [block_add]; exact h1)]
    exact hc j u hu⟩
theorem RdD.rd {w : World} {D : Nat → Prop} {size n : Nat} {A : Option Addr} {xs : List Value} (h : RdD w D size A n xs) (hs : 0 < size) : Rd w w.heap.size size A n xs :=
  ⟨h.1, fun hn => by
    obtain ⟨ad, e, hb, hc⟩ := h.2 hn
    have hl : 0 < xs.length := by rw [h.1]; exact Nat.mul_pos hn hs
    have := cell_lt (hc 0 _ (List.getElem?_eq_getElem hl))
    exact ⟨ad, e, by rwa [block_add] at this, hc⟩⟩

/-- the cells of a row of parts -/
def PRows (w : World) (D : Nat → Prop) : Parts → List Value → Prop
  | .nil, xs => xs = []
  | .cons v wh l r, xs => ∃ A n c ys zs, xs = .int .i64 v :: .int .i64 wh :: .slice A n c :: zs ∧ n = l.len ∧ n ≤ c ∧ c ≤ maxLen ∧ RdD w D 3 A n ys ∧ PRows w D l ys ∧ PRows w D r zs
theorem PRows.len {w : World} {D : Nat → Prop} : ∀ {T : Parts} {xs : List Value}, PRows w D T xs → xs.length = T.len * 3 := by
  intro T
  induction T with
  | nil => intro xs h; rw [show xs = [] from h]; rfl
  | cons v wh l r _ ihr =>
    rintro xs ⟨A, n, c, ys, zs, rfl, _, _, _, _, _, h⟩
    simp only [List.length_cons, Parts.len, ihr h]
    omega
theorem PRows.keep {w w' : World} {D D' : Nat → Prop} {S : Nat → Prop} (hk : Keep S w w') (hS : ∀ k, k < w.heap.size → D k → ¬ S k ∧ D' k) : ∀ {T : Parts} {xs : List Value}, PRows w D T xs → PRows w' D' T xs := by
  intro T
  induction T with
  | nil => intro xs h; exact h
  | cons v wh l r ihl ihr =>
    rintro xs ⟨A, n, c, ys, zs, rfl, h1, h2, h3, h4, h5, h6⟩
    exact ⟨A, n, c, ys, zs, rfl, h1, h2, h3, h4.keep (by omega) hk hS, ihl h5, ihr h6⟩
theorem PRows.app {w : World} {D : Nat → Prop} {T' : Parts} {ys : List Value} (h' : PRows w D T' ys) : ∀ {T : Parts} {xs : List Value}, PRows w D T xs → PRows w D (T.app T') (xs ++ ys) := by
  intro T
  induction T with
  | nil => intro xs h; rw [show xs = [] from h]; exact h'
  | cons v wh l r _ ihr =>
    rintro xs ⟨A, n, c, ys', zs, rfl, h1, h2, h3, h4, h5, h6⟩
    exact ⟨A, n, c, ys', zs ++ ys, rfl, h1, h2, h3, h4, h5, ihr h6⟩
theorem PRows.one {w : World} {D : Nat → Prop} : ∀ {T : Parts} {xs : List Value}, PRows w D T xs → ∀ u ∈ xs, u.oneCell' = true := by
  intro T
  induction T with
  | nil => intro xs h u hu; rw [show xs = [] from h] at hu; cases hu
  | cons v wh l r _ ihr =>
    rintro xs ⟨A, n, c, ys', zs, rfl, h1, h2, h3, h4, h5, h6⟩ u hu
    simp only [List.mem_cons] at hu
    rcases hu with rfl | rfl | rfl | hu
    · rfl
    · rfl
    · rfl
    · exact ihr h6 u hu

/-- the slice reads as a row of parts -/
def PSl (w : World) (D : Nat → Prop) (A : Option Addr) (n c : Nat) (T : Parts) : Prop := n = T.len ∧ n ≤ c ∧ c ≤ maxLen ∧ ∃ xs, RdD w D 3 A n xs ∧ PRows w D T xs
/-- from block H on -/
def Fr (H : Nat) : Nat → Prop := fun k => H ≤ k
/-- from block H on, of those that there are -/
def Frw (H : Nat) (w : World) : Nat → Prop := fun k => H ≤ k ∧ k < w.heap.size
namespace PSl
variable {w w' : World} {D D' : Nat → Prop} {H H' n c : Nat} {A : Option Addr} {T : Parts}
theorem nil (w : World) (D : Nat → Prop) : PSl w D none 0 0 .nil := ⟨rfl, Nat.le_refl _, by unfold maxLen; omega, [], ⟨rfl, fun h => absurd h (by omega)⟩, rfl⟩
theorem keep {S : Nat → Prop} (h : PSl w D A n c T) (hk : Keep S w w') (hS : ∀ k, k < w.heap.size → D k → ¬ S k ∧ D' k) : PSl w' D' A n c T := by
  obtain ⟨h1, h2, h3, xs, h4, h5⟩ := h
  exact ⟨h1, h2, h3, xs, h4.keep (by omega) hk hS, h5.keep hk hS⟩
theorem keepN (h : PSl w D A n c T) (hk : Keep Never w w') : PSl w' D A n c T := h.keep hk (fun _ _ h => ⟨fun h => h.elim, h⟩)
theorem less (h : PSl w (Fr H) A n c T) (hH : H' ≤ H) : PSl w (Fr H') A n c T := h.keep (Keep.refl Never w) (fun _ _ h => ⟨fun h => h.elim, Nat.le_trans hH h⟩)
theorem some_ (h : PSl w D A n c T) (h0 : T.len ≠ 0) : A ≠ none := by
  obtain ⟨h1, _, _, xs, ⟨_, h2⟩, _⟩ := h
  obtain ⟨ad, e, _⟩ := h2 (by omega)
  rw [e]; exact fun h => by cases h
end PSl

set_option maxRecDepth 100000 in
theorem elemP : Elem Tryd.prog 118 127 3 40 := ⟨Tryd.underlying118, _, _, rfl, rfl, rfl, rfl, rfl, by omega⟩

/-- what a function that makes parts leaves -/
def PRet (w : World) (H : Nat) (T : Parts) (e : Ending) (w' : World) : Prop := ∃ A n c, e = .returned (.slice A n c) ∧ PSl w' (Fr H) A n c T ∧ Keep Never w w'
/-- an owned row of parts, as a slice -/
theorem PSl.of_own {w : World} {D : Nat → Prop} {base n c : Nat} {A : Option Addr} {T : Parts} {xs : List Value} (h : Own w base 127 3 A n c xs) (hp : PRows w D T xs) (hn : n = T.len) (hH : ∀ k, base ≤ k → D k) : PSl w D A n c T := by
  refine ⟨hn, h.cap_le, ?_, xs, ⟨h.len, fun h0 => ?_⟩, hp⟩
  · rcases h.form with ⟨_, _, rfl, _⟩ | ⟨_, _, _, _, _, _, hc, _⟩
    · unfold maxLen; omega
    · exact hc
  · obtain ⟨ad, e, _, hc⟩ := h.rd.2 h0
    exact ⟨ad, e, hH _ (h.row (k := ad.block) ⟨ad, e, rfl⟩).1, hc⟩

def intsOf (cs : List Value) : List Int := cs.map fun v => match v with | .int _ n => n | _ => 0
def rowCells (l : List Int) : List Value := l.flatMap fun v => [.int .i64 v, .int .i64 0, .slice none 0 0]
theorem rows_row (w : World) (D : Nat → Prop) : ∀ l : List Int, PRows w D (row l) (rowCells l)
  | [] => rfl
  | v :: l => ⟨none, 0, 0, [], rowCells l, rfl, rfl, Nat.le_refl _, by unfold maxLen; omega, ⟨rfl, fun h => absurd h (by omega)⟩, rfl, rows_row w D l⟩
theorem row_len (l : List Int) : (row l).len = l.length := by
  induction l with
  | nil => rfl
  | cons v l ih => simp [row, Parts.len, ih]

set_option maxHeartbeats 1000000 in
theorem row_any (l : List Int) (hl : l.length ≤ 1000) (A : Option Addr) (n c B : Nat) (w : World) (hn : l.length = n) (hr : Rd w B 1 A n (l.map (.int .i64))) :
    Calls Tryd.prog 84 #[.slice A n c] w (PRet w w.heap.size (row l)) := by
  have HR := Lib.hid hr
  have HN := Lib.hid hn
  have hn2 : n ≤ 1000 := by omega
  clear hr hn hl
  go_enter Tryd.func84, Tryd.ntmps84
  go_wp2
  go_loopw [3, 5, 8] (fun v _ i wr => ∃ (k m c3 : Nat) (A3 : Option Addr), k ≤ n ∧ i = .int .i64 k ∧ v = .slice A3 m c3 ∧ Hid (m = k ∧ Own wr w.heap.size 127 3 A3 m c3 (rowCells (l.take k)) ∧ Keep Never w wr))
    (fun _ _ i _ => n - (intOf i).toNat)
  case atStart => exact ⟨0, 0, 0, none, by omega, rfl, rfl, ⟨rfl, Own.nil _ _ _ _, Keep.refl _ _⟩⟩
  case round =>
    obtain ⟨k, m, c3, A3, hk, rfl, rfl, HH⟩ := hrel
    by_cases h0 : k < n
    · obtain ⟨ad, x, rfl, _, hx, hcell⟩ := (HR.out.keep HH.out.2.2 (by intro k h; cases h)).at1 h0
      have HX := Lib.hid hx
      have hm : m ≤ 1000 := by have := HH.out.1; omega
      clear hx
      go_wp2_with (at_builtin; refine wpList_app _ rfl (.tmp 12) (.tmp 15) _ rfl elemP w.heap.size rfl (HH.out.2.1.alloc _) _ rfl (Rd.of_blk (n := 1) (cs := [.int .i64 x, .int .i64 0, .slice none 0 0]) (Blk.new _ _ _) rfl) (by simp [Value.oneCell']) (by omega) (by unfold maxLen; omega) (by have := HH.out.2.2.size; simp; omega) ?_; intro A5 c5 w5 hown5 hk5 hrow5; have HO := Lib.hid hown5; have HK := Lib.hid hk5; clear hown5 hk5)
      go_roundw
      case rel =>
        obtain ⟨e1, o1, k1⟩ := HH.out
        have hkk : Keep Never w w5 := (k1.alloc _).then_ HK.out (fun z hz hr => by have := (o1.row hr).1; omega)
        have e2 : l.take (k + 1) = l.take k ++ [x] := by
          obtain ⟨h2, h3⟩ := List.getElem?_eq_some_iff.1 HX.out
          rw [List.take_succ_eq_append_getElem h2, h3]
        refine ⟨k + 1, m + 1, c5, A5, by omega, by go_num, rfl, ⟨by omega, ?_, hkk⟩⟩
        have := HO.out
        rwa [e2, show rowCells (l.take k ++ [x]) = rowCells (l.take k) ++ [.int .i64 x, .int .i64 0, .slice none 0 0] by simp [rowCells]]
      case measure => simp [intOf]; omega
    · obtain rfl : k = n := by omega
      go_wp2
      go_ret
      obtain ⟨e1, o1, k1⟩ := HH.out
      rw [List.take_of_length_le (by rw [HN.out]; exact Nat.le_refl _)] at o1
      exact ⟨_, _, _, rfl, PSl.of_own o1 (rows_row _ _ l) (by rw [row_len, HN.out]; exact e1) (fun _ h => h), k1⟩

/-- parts that were made so far -/
structure PStack (H : Nat) (w0 w : World) (L : List (Value × Parts)) : Prop where
  keep : Keep Never w0 w
  base : H ≤ w0.heap.size
  all : ∀ x ∈ L, ∃ A n c, x.1 = .slice A n c ∧ PSl w (Fr H) A n c x.2
theorem PStack.start {H : Nat} {w : World} (h : H ≤ w.heap.size) : PStack H w w [] := ⟨Keep.refl _ _, h, by simp⟩
theorem PStack.next {H : Nat} {w0 w w' : World} {L : List (Value × Parts)} (h : PStack H w0 w L) (hk : Keep Never w w') : PStack H w0 w' L :=
  ⟨h.keep.trans hk, h.base, fun x hx => by obtain ⟨A, n, c, e, hp⟩ := h.all x hx; exact ⟨A, n, c, e, hp.keepN hk⟩⟩
theorem PStack.push {H : Nat} {w0 w w' : World} {L : List (Value × Parts)} {A : Option Addr} {n c H' : Nat} {T : Parts} (h : PStack H w0 w L) (hk : Keep Never w w') (hp : PSl w' (Fr H') A n c T) (hH : H ≤ H') : PStack H w0 w' ((.slice A n c, T) :: L) :=
  ⟨h.keep.trans hk, h.base, fun x hx => by
    rcases List.mem_cons.1 hx with rfl | hx
    · exact ⟨A, n, c, rfl, hp.less hH⟩
    · exact (h.next hk).all x hx⟩
/-- a call that makes parts, of whatever world stands -/
theorem PStack.call {H : Nat} {w0 w W : World} {L : List (Value × Parts)} {f : Nat} {args : Array Value} {T : Parts} (HS : Hid (PStack H w0 w L)) (hk : Keep Never w W) (h : Calls Tryd.prog f args W (PRet W W.heap.size T)) :
    Calls Tryd.prog f args W fun e w' => ∃ A n c, e = .returned (.slice A n c) ∧ Hid (PStack H w0 w' ((.slice A n c, T) :: L)) := by
  refine h.mono ?_
  rintro e w' ⟨A, n, c, rfl, h1, h2⟩
  have h3 := HS.out
  exact ⟨A, n, c, rfl, Lib.hid (h3.push (hk.trans h2) h1 (Nat.le_trans h3.base (Nat.le_trans h3.keep.size hk.size)))⟩
/-- 'row' at a literal -/
theorem row_st {H : Nat} {w0 w : World} {L : List (Value × Parts)} (HS : Hid (PStack H w0 w L)) {cs : Array Value} {n c : Nat} (l : List Int) (hl : cs = (l.map (.int .i64)).toArray) (hn : l.length = n) (h1 : l.length ≤ 1000) :
    Calls Tryd.prog 84 #[.slice (some ⟨w.heap.size, 0, none⟩) n c] (w.alloc (.cells cs 3)) fun e w' => ∃ A m d, e = .returned (.slice A m d) ∧ Hid (PStack H w0 w' ((.slice A m d, row l) :: L)) := by
  subst hl
  exact PStack.call HS ((Keep.refl _ _).alloc _) (row_any l h1 _ _ _ _ _ hn (Rd.of_blk (Blk.new _ _ _) (by simp [hn])))

def isPart (w : World) (D : Nat → Prop) (T : Parts) (v : Value) : Prop := ∃ A n c, v = .slice A n c ∧ PSl w D A n c T
theorem andP_take {Ts : List Parts} {k : Nat} {T : Parts} (h : Ts[k]? = some T) : andP (Ts.take (k + 1)) = (andP (Ts.take k)).app T := by
  obtain ⟨h2, h3⟩ := List.getElem?_eq_some_iff.1 h
  rw [List.take_succ_eq_append_getElem h2, h3, andP_snoc]
theorem andP_take_len (Ts : List Parts) : ∀ k, (andP (Ts.take k)).len ≤ (andP Ts).len := by
  induction Ts with
  | nil => intro k; simp [andP]
  | cons T Ts ih =>
    intro k
    cases k with
    | zero => simp [andP, Parts.len]
    | succ k =>
      have := ih k
      simp only [List.take_succ_cons, andP, List.foldr_cons, Parts.len_app] at this ⊢
      omega

set_option maxHeartbeats 1000000 in
theorem and_any (Ts : List Parts) (A : Option Addr) (n c B H : Nat) (w : World) (hn : Ts.length = n) (vals : List Value) (hr : Rd w B 1 A n vals) (hv : All2 (isPart w (Fr H)) Ts vals) (hlen : (andP Ts).len ≤ 1000) (h16 : n ≤ 1000) (hH : H ≤ w.heap.size) :
    Calls Tryd.prog 85 #[.slice A n c] w (PRet w H (andP Ts)) := by
  have HR := Lib.hid hr
  have HN := Lib.hid hn
  have HV := Lib.hid hv
  have HL := Lib.hid hlen
  clear hr hn hv hlen
  go_enter Tryd.func85, Tryd.ntmps85
  go_wp2
  go_loopw [3, 5, 8] (fun v _ i wr => ∃ (k m c3 : Nat) (A3 : Option Addr) (xs : List Value), k ≤ n ∧ i = .int .i64 k ∧ v = .slice A3 m c3 ∧ Hid (m = (andP (Ts.take k)).len ∧ Own wr w.heap.size 127 3 A3 m c3 xs ∧ PRows wr (Frw H w) (andP (Ts.take k)) xs ∧ Keep Never w wr))
    (fun _ _ i _ => n - (intOf i).toNat)
  case atStart => exact ⟨0, 0, 0, none, [], by omega, rfl, rfl, ⟨rfl, Own.nil _ _ _ _, rfl, Keep.refl _ _⟩⟩
  case round =>
    obtain ⟨k, m, c3, A3, xs, hk, rfl, rfl, HH⟩ := hrel
    by_cases h0 : k < n
    · have hT : Ts[k]? = some (Ts[k]'(by rw [HN.out]; exact h0)) := List.getElem?_eq_getElem _
      generalize Ts[k]'(by rw [HN.out]; exact h0) = T at hT
      obtain ⟨v, hv, A', m', c', rfl, hp⟩ := HV.out.at_ hT
      have HT := Lib.hid hT
      obtain ⟨ad, hA, _, hcc⟩ := (HR.out.keep HH.out.2.2.2 (by intro k h; cases h)).2 (by omega)
      have hcell := hcc k _ hv
      obtain ⟨hm', hc1, hc2, ys, hys, hpr⟩ := hp
      have HP := Lib.hid hpr
      have HY := Lib.hid hys
      have HM := Lib.hid hm'
      subst hA
      have hb : m + m' ≤ 1000 := by
        have h1 := andP_take_len Ts (k + 1)
        have h2 := HL.out
        rw [andP_take hT, Parts.len_app] at h1
        have := HH.out.1
        omega
      clear hT hcc hv hm' hys hpr
      go_wp2_with (at_builtin; refine wpList_app _ rfl (.tmp 12) (.tmp 13) _ rfl elemP w.heap.size rfl HH.out.2.1 _ rfl ((HY.out.keep (by omega) HH.out.2.2.2 (D' := Fr H) (fun _ _ h => ⟨fun h => h.elim, h⟩)).rd (by omega)) (HP.out.one) (by omega) (by unfold maxLen; omega) (by have := HH.out.2.2.2.size; omega) ?_; intro A5 c5 w5 hown5 hk5 hrow5; have HO := Lib.hid hown5; have HK := Lib.hid hk5; clear hown5 hk5)
      go_roundw
      case rel =>
        obtain ⟨e1, o1, p1, k1⟩ := HH.out
        have hkk : Keep Never w w5 := k1.then_ HK.out (fun z hz hr => by have := (o1.row hr).1; omega)
        refine ⟨k + 1, m + m', c5, A5, _, by omega, by go_num, rfl, ⟨?_, HO.out, ?_, hkk⟩⟩
        · rw [andP_take HT.out, Parts.len_app, ← e1, ← HM.out]
        · rw [andP_take HT.out]
          refine PRows.app (HP.out.keep hkk (fun k hk h => ⟨fun h => h.elim, h, hk⟩)) (p1.keep HK.out (fun k hk h => ⟨fun hr => ?_, h⟩))
          have := (o1.row hr).1
          have := h.2
          omega
      case measure => simp [intOf]; omega
    · obtain rfl : k = n := by omega
      go_wp2
      go_ret
      obtain ⟨e1, o1, p1, k1⟩ := HH.out
      rw [List.take_of_length_le (by rw [HN.out]; exact Nat.le_refl _)] at p1 e1
      exact ⟨_, _, _, rfl, PSl.of_own o1 (p1.keep (Keep.refl Never _) (D' := Fr H) (fun _ _ h => ⟨fun h => h.elim, h.1⟩)) e1 (fun _ h => Nat.le_trans hH h), k1⟩

theorem All2.of_idx {α : Type} {R : α → Value → Prop} {L : List (Value × α)} (h : ∀ x ∈ L, R x.2 x.1) : ∀ (is : List Nat) (z : Value × α), R z.2 z.1 → All2 R (is.map fun i => (L.getD i z).2) (is.map fun i => (L.getD i z).1)
  | [], _, _ => trivial
  | i :: is, z, hz => ⟨by
      show R (L.getD i z).2 (L.getD i z).1
      rw [List.getD_eq_getElem?_getD]
      cases hi : L[i]? with
      | none => exact hz
      | some x => exact h x (List.mem_of_getElem? hi), All2.of_idx h is z hz⟩

def zPart : Value × Parts := (.slice none 0 0, .nil)
/-- 'and' at a literal of what was made: 'is' tells where in the stack -/
theorem and_st {H : Nat} {w0 w : World} {L : List (Value × Parts)} (HS : Hid (PStack H w0 w L)) {cs : Array Value} {n c : Nat} (is : List Nat) (T : Parts) (hl : cs = (is.map fun i => (L.getD i zPart).1).toArray) (hn : is.length = n) (hT : andP (is.map fun i => (L.getD i zPart).2) = T) (h16 : is.length ≤ 1000) (h1 : T.len ≤ 1000) :
    Calls Tryd.prog 85 #[.slice (some ⟨w.heap.size, 0, none⟩) n c] (w.alloc (.cells cs 118)) fun e w' => ∃ A m d, e = .returned (.slice A m d) ∧ Hid (PStack H w0 w' ((.slice A m d, T) :: L)) := by
  subst hl
  subst hT
  have hk : Keep Never w (w.alloc (.cells (is.map fun i => (L.getD i zPart).1).toArray 118)) := (Keep.refl _ _).alloc _
  have h2 := HS.out.next hk
  refine (and_any (is.map fun i => (L.getD i zPart).2) _ _ _ _ H _ (by simp [hn]) _ (Rd.of_blk (Blk.new _ _ _) (by simp [hn])) (All2.of_idx (R := isPart _ (Fr H)) (fun x hx => h2.all x hx) is zPart ⟨none, 0, 0, rfl, PSl.nil _ _⟩) h1 (by omega) (by have := h2.base; have := h2.keep.size; omega)).mono ?_
  rintro e w' ⟨A, m, d, rfl, h3, h4⟩
  exact ⟨A, m, d, rfl, Lib.hid (h2.push h4 h3 (Nat.le_refl _))⟩

theorem RdD.of_blk {w : World} {g : Nat} {t : TypeId} {cs : List Value} {D : Nat → Prop} (h : Blk w g t cs.toArray) (hD : D g) {size n : Nat} (hl : cs.length = n * size) : RdD w D size (some ⟨g, 0, none⟩) n cs := by
  refine ⟨hl, fun _ => ⟨_, rfl, hD, fun j u hu => ?_⟩⟩
  have hadd : (⟨g, 0, none⟩ : Addr).add j = ⟨g, j, none⟩ := by unfold Addr.add; split <;> simp_all
  rw [hadd, h.cell]
  simpa using hu

set_option maxHeartbeats 400000 in
theorem some_any (wh : Int) (A : Option Addr) (n c H : Nat) (w : World) (T : Parts) (h : PSl w (Fr H) A n c T) (hH : H ≤ w.heap.size) :
    Calls Tryd.prog 87 #[.int .i64 wh, .slice A n c] w (PRet w H (some_ wh T)) := by
  have HP := Lib.hid h
  clear h
  go_enter Tryd.func87, Tryd.ntmps87
  go_wp2
  go_ret
  obtain ⟨h1, h2, h3, xs, h4, h5⟩ := HP.out
  have hk : Keep Never w (w.alloc (.cells #[.int .i64 0, .int .i64 wh, .slice A n c] 127)) := (Keep.refl _ _).alloc _
  exact ⟨_, _, _, rfl, ⟨rfl, Nat.le_refl _, by unfold maxLen; omega, _, RdD.of_blk (Blk.new w 127 #[.int .i64 0, .int .i64 wh, .slice A n c]) hH rfl,
    ⟨A, n, c, xs, [], rfl, h1, h2, h3, h4.keep (by omega) hk (fun _ _ h => ⟨fun h => h.elim, h⟩), h5.keep hk (fun _ _ h => ⟨fun h => h.elim, h⟩), rfl⟩⟩, hk⟩
theorem PStack.at_ {H : Nat} {w0 w : World} {L : List (Value × Parts)} (h2 : PStack H w0 w L) (i : Nat) : ∃ A n c, (L.getD i zPart).1 = .slice A n c ∧ PSl w (Fr H) A n c (L.getD i zPart).2 := by
  rw [List.getD_eq_getElem?_getD]
  cases hi : L[i]? with
  | none => exact ⟨none, 0, 0, rfl, PSl.nil _ _⟩
  | some y => exact h2.all _ (List.mem_of_getElem? hi)
theorem some_st {H : Nat} {w0 w : World} {L : List (Value × Parts)} (HS : Hid (PStack H w0 w L)) {wh : Int} {A : Option Addr} {n c : Nat} (i : Nat) (T : Parts) (hv : L.getD i zPart = (.slice A n c, T)) :
    Calls Tryd.prog 87 #[.int .i64 wh, .slice A n c] w fun e w' => ∃ A m d, e = .returned (.slice A m d) ∧ Hid (PStack H w0 w' ((.slice A m d, some_ wh T) :: L)) := by
  have h2 := HS.out
  obtain ⟨A', n', c', e, hp⟩ := PStack.at_ h2 i
  rw [hv] at e hp
  injection e with e1 e2 e3
  subst e1; subst e2; subst e3
  refine (some_any wh A n c H w _ hp (by have := h2.base; have := h2.keep.size; omega)).mono ?_
  rintro e w' ⟨A, m, d, rfl, h3, h4⟩
  exact ⟨A, m, d, rfl, Lib.hid (h2.push h4 h3 (Nat.le_refl _))⟩
theorem PStack.ret {H : Nat} {w0 w : World} {L : List (Value × Parts)} {A : Option Addr} {n c : Nat} {T : Parts} (h : Hid (PStack H w0 w ((.slice A n c, T) :: L))) : PRet w0 H T (.returned (.slice A n c)) w := by
  obtain ⟨A', n', c', e, hp⟩ := h.out.all _ (List.mem_cons_self ..)
  injection e with e1 e2 e3
  subst e1; subst e2; subst e3
  exact ⟨A, n, c, rfl, hp, h.out.keep⟩

end Go.Proofs.YtiebjnibmomcjaaDoor
