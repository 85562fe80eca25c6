/- Chapter 20 (border): how notes lie in cells; slices.ContainsFunc, Clone at locks. -/
import Derived.Test.YtpahfobijmmmmaaGreatBdBrdA
import Derived.Test.YtpahfobijmmmmaaGreatBdSpnL
import Derived.Test.YtpahfobijmmmmaaGreatBdTopA
import Derived.Test.YtpahfobijmmmmaaGreatSpnF
import Derived.Test.YtpahfobijmmmmaaGreatSpnG
namespace Go.Proofs.YtpahfobijmmmmaaGreat
open Go.RowKit


def repLo : Rep Lok := Rep.int.pair (Rep.int.pair Rep.int)
theorem opens_lo : Rep.Opens Tryz.prog 57 repLo :=
  Rep.opens_struct Tryz.underlying57 (by kernel_rfl)
    (Rep.fopens_cons rfl (by kernel_rfl) (Rep.opens_int Tryz.underlying3) (Rep.fopens_cons rfl (by kernel_rfl) (Rep.opens_int Tryz.underlying3) (Rep.fopens_last rfl (by kernel_rfl) (Rep.opens_int Tryz.underlying3))))
theorem opens_los : Rep.Opens Tryz.prog 31 repLo.list := Rep.opens_list Tryz.underlying31 (by kernel_rfl) (by decide) opens_lo
/-- a note: Kind, Train, T, Until, Locks, Here -/
def repNt : Rep Nt := Rep.int.pair (Rep.int.pair (Rep.int.pair (Rep.int.pair (repLo.list.pair repSp.list))))
theorem opens_nt : Rep.Opens Tryz.prog 34 repNt :=
  Rep.opens_struct Tryz.underlying34 (by kernel_rfl)
    (Rep.fopens_cons rfl (by kernel_rfl) (Rep.opens_int Tryz.underlying3) (Rep.fopens_cons rfl (by kernel_rfl) (Rep.opens_int Tryz.underlying3) (Rep.fopens_cons rfl (by kernel_rfl) (Rep.opens_int Tryz.underlying3) (Rep.fopens_cons rfl (by kernel_rfl) (Rep.opens_int Tryz.underlying3) (Rep.fopens_cons rfl (by kernel_rfl) opens_los (Rep.fopens_last rfl (by kernel_rfl) opens_sps))))))
theorem los_at {w : World} {B n c : Nat} {A : Option Addr} {l : List Lok} (h : repLo.Sl w B A n c l) : SpAt w B A n c l := by
  obtain ⟨h1, h2, h3, h4, h5, _⟩ := sps_rd (show repSp.Sl w B A n c l from h)
  exact ⟨h1, h5, h3⟩
set_option maxRecDepth 100000 in
theorem elemLo : Elem Tryz.prog 31 57 3 24 := ⟨Tryz.underlying31, _, _, rfl, rfl, rfl, rfl, rfl, by omega⟩
theorem loAt_own {w : World} {base n c : Nat} {A : Option Addr} {l : List Lok} (h : Own w base 57 3 A n c (spCells l)) : SpAt w w.heap.size A n c l :=
  ⟨h.rd, (fun e => by
    rcases h.form with ⟨_, _, h2, _⟩ | ⟨_, _, h2, _⟩
    · exact h2
    · rw [e] at h2; cases h2), h.cap_le⟩
theorem SpAt.takeL {w : World} {B n c : Nat} {A : Option Addr} {l : List Sp} (h : SpAt w B A n c l) {i : Nat} (hi : i ≤ n) : SpAt w B A i c (l.take i) := by
  refine ⟨⟨?_, fun h0 => ?_⟩, h.nil, Nat.le_trans hi h.cap⟩
  · rw [← spCells_take, List.length_take, h.rd.1]; omega
  · obtain ⟨ad, e, hb, hc⟩ := h.rd.2 (by omega)
    refine ⟨ad, e, hb, fun j v hj => hc j v ?_⟩
    rw [← spCells_take, List.getElem?_take] at hj
    split at hj
    · exact hj
    · cases hj
set_option maxHeartbeats 1000000 in
set_option maxRecDepth 100000 in
theorem indexfL_any (g : Nat) (lb : Array Value) (p : Sp → Bool) (eg : ∀ args w, (callFunc g args).run Tryz.prog w = .ok (.enter g args) w) (A : Option Addr) (n c B : Nat) (l : List Sp) (w : World) (hr : Rd w B 3 A n (spCells l)) (hp : PredSp g lb p w) (hn : n ≤ 100000000000) :
    Calls Tryz.prog 68 #[.slice A n c, .func (.func g) #[] lb] w (IdxRet p l w) := by
  have HL := Lib.hid hr.sp_len
  have HR := Lib.hid hr
  have HP := Lib.hid hp
  clear hr hp
  go_enter Tryz.func68, Tryz.ntmps68
  go_wp2_with fail
  go_loopw [5, 8] (fun _ s8 wr => ∃ k : Nat, k ≤ n ∧ s8 = .int .i64 k ∧ Hid (Keep Never w wr ∧ ∀ x ∈ l.take k, p x = false)) (fun _ i _ => n - (intOf i).toNat)
  case atStart => exact ⟨0, by omega, rfl, Lib.hid ⟨Keep.refl _ _, by simp⟩⟩
  case round =>
    obtain ⟨k, hk, rfl, HH⟩ := hrel
    by_cases h0 : k < n
    · have hki : (k : Int) < (n : Int) := by omega
      obtain ⟨ad, s, hA, _, hs, c0, c1, c2⟩ := (HR.out.keep HH.out.1 (fun _ h => h.elim)).sp h0
      subst hA
      have hcall := HP.out wr s HH.out.1
      have Hs := Lib.hid hs
      have htk : Hid (l.take (k + 1) = l.take k ++ [s]) := Lib.hid (by
        obtain ⟨h2, h3⟩ := List.getElem?_eq_some_iff.1 hs
        rw [List.take_succ_eq_append_getElem h2, h3])
      clear hs
      obtain ⟨s1, s2, s3⟩ := s
      simp only at c0 c1 c2 hcall
      cases hps : p (s1, s2, s3) with
      | true =>
        rw [hps] at hcall
        have Hps := Lib.hid hps
        clear hps
        go_wp2_with (go_at_fn g; refine hcall.mono ?_; rintro e w' ⟨rfl, hk'⟩)
        go_ret
        exact ⟨.inl ⟨k, _, rfl, Hs.out, Hps.out, HH.out.2⟩, HH.out.1.trans hk'⟩
      | false =>
        rw [hps] at hcall
        have Hps := Lib.hid hps
        clear hps
        go_wp2_with (go_at_fn g; refine hcall.mono ?_; rintro e w' ⟨rfl, hk'⟩)
        go_roundw
        case measure => simp [intOf]; try omega
        case rel =>
          refine ⟨k + 1, by omega, by go_num, Lib.hid ⟨HH.out.1.trans hk', fun x hx => ?_⟩⟩
          rw [htk.out] at hx
          rcases List.mem_append.1 hx with hx | hx
          · exact HH.out.2 x hx
          · simp at hx; subst hx; exact Hps.out
    · obtain rfl : k = n := by omega
      have hki : ¬ (k : Int) < (k : Int) := by omega
      have HN : Hid (∀ x ∈ l, p x = false) := Lib.hid (by have := HH.out.2; rwa [List.take_of_length_le (by have := HL.out; omega)] at this)
      go_wp2_with fail
      go_ret
      exact ⟨.inr ⟨rfl, HN.out⟩, HH.out.1⟩
set_option maxHeartbeats 1000000 in
set_option maxRecDepth 100000 in
theorem containsfL_any (g : Nat) (lb : Array Value) (p : Sp → Bool) (eg : ∀ args w, (callFunc g args).run Tryz.prog w = .ok (.enter g args) w) (A : Option Addr) (n c B : Nat) (l : List Sp) (w : World) (hr : Rd w B 3 A n (spCells l)) (hp : PredSp g lb p w) (hn : n ≤ 100000000000) :
    Calls Tryz.prog 44 #[.slice A n c, .func (.func g) #[] lb] w fun e w' => e = .returned (.bool (l.any p)) ∧ Keep Never w w' := by
  have HI := Lib.hid (indexfL_any g lb p eg A n c B l w hr hp hn)
  clear hr hp
  go_enter Tryz.func44, Tryz.ntmps44
  go_wp2_with fail
  refine HI.out.mono ?_
  rintro e w' ⟨⟨i, s, rfl, h1, h2, h3⟩ | ⟨rfl, h1⟩, hk⟩
  · have HA : Hid (l.any p = true) := Lib.hid (List.any_eq_true.2 ⟨s, List.mem_of_getElem? h1, h2⟩)
    have HK := Lib.hid hk
    have hi : decide ((i : Int) ≥ 0) = true := by simp
    clear h1 h2 h3 hk
    go_wp2_with fail
    go_ret
    exact ⟨by rw [HA.out]; rfl, HK.out⟩
  · have HA : Hid (l.any p = false) := Lib.hid (by rw [List.any_eq_false]; intro x hx; rw [h1 x hx]; simp)
    have HK := Lib.hid hk
    clear h1 hk
    go_wp2_with fail
    go_ret
    exact ⟨by rw [HA.out]; rfl, HK.out⟩

/-- where a note's two lists lie -/
structure NA where
  A1 : Option Addr
  n1 : Nat
  c1 : Nat
  A2 : Option Addr
  n2 : Nat
  c2 : Nat
/-- a note's cells -/
def NA.cs (x : NA) (n : Nt) : Array Value := #[.int .i64 n.1, .int .i64 n.2.1, .int .i64 n.2.2.1, .int .i64 n.2.2.2.1, .slice x.A1 x.n1 x.c1, .slice x.A2 x.n2 x.c2]
/-- the note n lies at x, below block B -/
structure NtAt (w : World) (B : Nat) (x : NA) (n : Nt) : Prop where
  l : SpAt w B x.A1 x.n1 x.c1 n.2.2.2.2.1
  h : SpAt w B x.A2 x.n2 x.c2 n.2.2.2.2.2
theorem NtAt.keep {w w' : World} {B : Nat} {x : NA} {n : Nt} (h : NtAt w B x n) (hk : Keep Never w w') : NtAt w' B x n := ⟨h.l.keep hk, h.h.keep hk⟩
theorem NtAt.more {w : World} {B B2 : Nat} {x : NA} {n : Nt} (h : NtAt w B x n) (hB : B ≤ B2) : NtAt w B2 x n := ⟨h.l.more hB, h.h.more hB⟩
theorem NtAt.of {w : World} {B : Nat} {n : Nt} {cs : List Value} (h : repNt.cells w B n cs) : ∃ x : NA, cs = (x.cs n).toList ∧ NtAt w B x n := by
  obtain ⟨c1, d1, rfl, ⟨rfl, _⟩, c2, d2, rfl, ⟨rfl, _⟩, c3, d3, rfl, ⟨rfl, _⟩, c4, d4, rfl, ⟨rfl, _⟩, c5, d5, rfl, ⟨A1, n1, c1, rfl, h1⟩, ⟨A2, n2, c2, rfl, h2⟩⟩ := h
  obtain ⟨a1, a2, a3, a4, a5, _⟩ := sps_rd h2
  exact ⟨⟨A1, n1, c1, A2, n2, c2⟩, rfl, los_at h1, ⟨a1, a5, a3⟩⟩

end Go.Proofs.YtpahfobijmmmmaaGreat

namespace Go.Proofs.YtpahfobijmmmmaaGreat
open Go.RowKit

def leCell (s : Len) : List Value := [.int .i64 s.1.1, .int .i64 s.1.2.1, .int .i64 s.1.2.2, .int .i64 s.2]
/-- the cells of what is lent -/
def leCells (l : List Len) : List Value := l.flatMap leCell
theorem leCells_cons (s : Len) (l : List Len) : leCells (s :: l) = .int .i64 s.1.1 :: .int .i64 s.1.2.1 :: .int .i64 s.1.2.2 :: .int .i64 s.2 :: leCells l := rfl
theorem leCells_nil : leCells [] = [] := rfl
theorem leCells_app (l m : List Len) : leCells (l ++ m) = leCells l ++ leCells m := by simp [leCells]
theorem len_leCells (l : List Len) : (leCells l).length = l.length * 4 := by
  induction l with
  | nil => rfl
  | cons s l ih => rw [leCells_cons]; simp only [List.length_cons, ih]; omega
theorem leCells_one (l : List Len) : ∀ u ∈ leCells l, u.oneCell' = true := by
  induction l with
  | nil => intro u hu; cases hu
  | cons s l ih =>
    intro u hu
    rw [leCells_cons] at hu
    rcases List.mem_cons.1 hu with rfl | hu
    · rfl
    rcases List.mem_cons.1 hu with rfl | hu
    · rfl
    rcases List.mem_cons.1 hu with rfl | hu
    · rfl
    rcases List.mem_cons.1 hu with rfl | hu
    · rfl
    exact ih u hu
theorem leCells_at : ∀ (l : List Len) {i : Nat} {s : Len}, l[i]? = some s → (leCells l)[i * 4]? = some (.int .i64 s.1.1) ∧ (leCells l)[i * 4 + 1]? = some (.int .i64 s.1.2.1) ∧ (leCells l)[i * 4 + 2]? = some (.int .i64 s.1.2.2) ∧ (leCells l)[i * 4 + 3]? = some (.int .i64 s.2) := by
  intro l
  induction l with
  | nil => intro i s h; simp at h
  | cons y l ih =>
    intro i s h
    cases i with
    | zero => simp only [List.getElem?_cons_zero, Option.some.injEq] at h; subst h; exact ⟨rfl, rfl, rfl, rfl⟩
    | succ i =>
      simp only [List.getElem?_cons_succ] at h
      obtain ⟨h1, h2, h3, h4⟩ := ih h
      rw [leCells_cons, show (i + 1) * 4 = i * 4 + 1 + 1 + 1 + 1 by omega, show i * 4 + 1 + 1 + 1 + 1 + 1 = (i * 4 + 1) + 1 + 1 + 1 + 1 by omega, show i * 4 + 1 + 1 + 1 + 1 + 2 = (i * 4 + 2) + 1 + 1 + 1 + 1 by omega, show i * 4 + 1 + 1 + 1 + 1 + 3 = (i * 4 + 3) + 1 + 1 + 1 + 1 by omega]
      simp only [List.getElem?_cons_succ]
      exact ⟨h1, h2, h3, h4⟩
theorem leCells_take : ∀ (l : List Len) (k : Nat), (leCells l).take (k * 4) = leCells (l.take k)
  | [], k => by simp [leCells_nil]
  | s :: l, 0 => by simp [leCells_nil]
  | s :: l, k + 1 => by
    rw [List.take_succ_cons, leCells_cons, leCells_cons, show (k + 1) * 4 = k * 4 + 1 + 1 + 1 + 1 by omega, List.take_succ_cons, List.take_succ_cons, List.take_succ_cons, List.take_succ_cons, leCells_take l k]
/-- element k of what a slice reads as -/
theorem Rd.le {w : World} {B n k : Nat} {A : Option Addr} {l : List Len} (h : Rd w B 4 A n (leCells l)) (hk : k < n) : ∃ ad s, A = some ad ∧ ad.block < B ∧ l[k]? = some s ∧ w.cell? (ad.add (k * 4)) = some (.int .i64 s.1.1) ∧
    w.cell? ⟨(ad.add (k * 4)).block, (ad.add (k * 4)).off + 1, none⟩ = some (.int .i64 s.1.2.1) ∧ w.cell? ⟨(ad.add (k * 4)).block, (ad.add (k * 4)).off + 2, none⟩ = some (.int .i64 s.1.2.2) ∧ w.cell? ⟨(ad.add (k * 4)).block, (ad.add (k * 4)).off + 3, none⟩ = some (.int .i64 s.2) := by
  obtain ⟨ad, e, hb, hc⟩ := h.2 (by omega)
  have hl : k < l.length := by have := h.1; rw [len_leCells] at this; omega
  have hs : l[k]? = some l[k] := List.getElem?_eq_getElem hl
  obtain ⟨a0, a1, a2, a3⟩ := leCells_at l hs
  have c0 := hc _ _ a0
  have c1 := hc _ _ a1
  have c2 := hc _ _ a2
  have c3 := hc _ _ a3
  rw [fld _ _ (by omega)] at c1 c2 c3
  exact ⟨ad, l[k], e, hb, hs, c0, c1, c2, c3⟩
theorem Rd.le_len {w : World} {B n : Nat} {A : Option Addr} {l : List Len} (h : Rd w B 4 A n (leCells l)) : l.length = n := by have := h.1; rw [len_leCells] at this; omega
/-- the list lies at (A, n, c), below block B -/
structure LeAt (w : World) (B : Nat) (A : Option Addr) (n c : Nat) (l : List Len) : Prop where
  rd : Rd w B 4 A n (leCells l)
  nil : A = none → c = 0
  cap : n ≤ c
theorem LeAt.keep {w w' : World} {B n c : Nat} {A : Option Addr} {l : List Len} (h : LeAt w B A n c l) (hk : Keep Never w w') : LeAt w' B A n c l := ⟨h.rd.keep hk (fun _ h => h.elim), h.nil, h.cap⟩
theorem LeAt.more {w : World} {B B' n c : Nat} {A : Option Addr} {l : List Len} (h : LeAt w B A n c l) (hB : B ≤ B') : LeAt w B' A n c l := ⟨h.rd.more hB, h.nil, h.cap⟩
theorem LeAt.len {w : World} {B n c : Nat} {A : Option Addr} {l : List Len} (h : LeAt w B A n c l) : l.length = n := h.rd.le_len
theorem LeAt.of_own {w : World} {base n c : Nat} {A : Option Addr} {l : List Len} (h : Own w base 59 4 A n c (leCells l)) : LeAt w w.heap.size A n c l :=
  ⟨h.rd, (fun e => by
    rcases h.form with ⟨_, _, h2, _⟩ | ⟨_, _, h2, _⟩
    · exact h2
    · rw [e] at h2; cases h2), h.cap_le⟩
set_option maxRecDepth 100000 in
theorem elemLe : Elem Tryz.prog 28 59 4 32 := ⟨Tryz.underlying28, _, _, rfl, rfl, rfl, rfl, rfl, by omega⟩
/-- what is asked of a predicate -/
def PredLe (g : Nat) (lb : Array Value) (p : Len → Bool) (w : World) : Prop :=
  ∀ (W : World) (s : Len), Keep Never w W → Calls Tryz.prog g (#[.agg #[.int .i64 s.1.1, .int .i64 s.1.2.1, .int .i64 s.1.2.2, .int .i64 s.2]] ++ lb) W fun e w' => e = .returned (.bool (p s)) ∧ Keep Never W w'
/-- what IndexFunc leaves there -/
def IdxRetT (p : Len → Bool) (l : List Len) (w : World) (e : Ending) (w' : World) : Prop :=
  ((∃ (i : Nat) (s : Len), e = .returned (.int .i64 i) ∧ l[i]? = some s ∧ p s = true ∧ ∀ x ∈ l.take i, p x = false) ∨ (e = .returned (.int .i64 (-1)) ∧ ∀ x ∈ l, p x = false)) ∧ Keep Never w w'
set_option maxHeartbeats 1000000 in
set_option maxRecDepth 100000 in
theorem indexfT_any (g : Nat) (lb : Array Value) (p : Len → Bool) (eg : ∀ args w, (callFunc g args).run Tryz.prog w = .ok (.enter g args) w) (A : Option Addr) (n c B : Nat) (l : List Len) (w : World) (hr : Rd w B 4 A n (leCells l)) (hp : PredLe g lb p w) (hn : n ≤ 100000000000) :
    Calls Tryz.prog 48 #[.slice A n c, .func (.func g) #[] lb] w (IdxRetT p l w) := by
  have HL := Lib.hid hr.le_len
  have HR := Lib.hid hr
  have HP := Lib.hid hp
  clear hr hp
  go_enter Tryz.func48, Tryz.ntmps48
  go_wp2_with fail
  go_loopw [5, 8] (fun _ s8 wr => ∃ k : Nat, k ≤ n ∧ s8 = .int .i64 k ∧ Hid (Keep Never w wr ∧ ∀ x ∈ l.take k, p x = false)) (fun _ i _ => n - (intOf i).toNat)
  case atStart => exact ⟨0, by omega, rfl, Lib.hid ⟨Keep.refl _ _, by simp⟩⟩
  case round =>
    obtain ⟨k, hk, rfl, HH⟩ := hrel
    by_cases h0 : k < n
    · have hki : (k : Int) < (n : Int) := by omega
      obtain ⟨ad, s, hA, _, hs, c0, c1, c2, c3⟩ := (HR.out.keep HH.out.1 (fun _ h => h.elim)).le h0
      subst hA
      have hcall := HP.out wr s HH.out.1
      have Hs := Lib.hid hs
      have htk : Hid (l.take (k + 1) = l.take k ++ [s]) := Lib.hid (by
        obtain ⟨h2, h3⟩ := List.getElem?_eq_some_iff.1 hs
        rw [List.take_succ_eq_append_getElem h2, h3])
      clear hs
      obtain ⟨⟨s1, s2, s3⟩, s4⟩ := s
      simp only at c0 c1 c2 c3 hcall
      cases hps : p ((s1, s2, s3), s4) with
      | true =>
        rw [hps] at hcall
        have Hps := Lib.hid hps
        clear hps
        go_wp2_with (go_at_fn g; refine hcall.mono ?_; rintro e w' ⟨rfl, hk'⟩)
        go_ret
        exact ⟨.inl ⟨k, _, rfl, Hs.out, Hps.out, HH.out.2⟩, HH.out.1.trans hk'⟩
      | false =>
        rw [hps] at hcall
        have Hps := Lib.hid hps
        clear hps
        go_wp2_with (go_at_fn g; refine hcall.mono ?_; rintro e w' ⟨rfl, hk'⟩)
        go_roundw
        case measure => simp [intOf]; try omega
        case rel =>
          refine ⟨k + 1, by omega, by go_num, Lib.hid ⟨HH.out.1.trans hk', fun x hx => ?_⟩⟩
          rw [htk.out] at hx
          rcases List.mem_append.1 hx with hx | hx
          · exact HH.out.2 x hx
          · simp at hx; subst hx; exact Hps.out
    · obtain rfl : k = n := by omega
      have hki : ¬ (k : Int) < (k : Int) := by omega
      have HN : Hid (∀ x ∈ l, p x = false) := Lib.hid (by have := HH.out.2; rwa [List.take_of_length_le (by have := HL.out; omega)] at this)
      go_wp2_with fail
      go_ret
      exact ⟨.inr ⟨rfl, HN.out⟩, HH.out.1⟩
set_option maxHeartbeats 1000000 in
set_option maxRecDepth 100000 in
theorem containsfT_any (g : Nat) (lb : Array Value) (p : Len → Bool) (eg : ∀ args w, (callFunc g args).run Tryz.prog w = .ok (.enter g args) w) (A : Option Addr) (n c B : Nat) (l : List Len) (w : World) (hr : Rd w B 4 A n (leCells l)) (hp : PredLe g lb p w) (hn : n ≤ 100000000000) :
    Calls Tryz.prog 31 #[.slice A n c, .func (.func g) #[] lb] w fun e w' => e = .returned (.bool (l.any p)) ∧ Keep Never w w' := by
  have HI := Lib.hid (indexfT_any g lb p eg A n c B l w hr hp hn)
  clear hr hp
  go_enter Tryz.func31, Tryz.ntmps31
  go_wp2_with fail
  refine HI.out.mono ?_
  rintro e w' ⟨⟨i, s, rfl, h1, h2, h3⟩ | ⟨rfl, h1⟩, hk⟩
  · have HA : Hid (l.any p = true) := Lib.hid (List.any_eq_true.2 ⟨s, List.mem_of_getElem? h1, h2⟩)
    have HK := Lib.hid hk
    have hi : decide ((i : Int) ≥ 0) = true := by simp
    clear h1 h2 h3 hk
    go_wp2_with fail
    go_ret
    exact ⟨by rw [HA.out]; rfl, HK.out⟩
  · have HA : Hid (l.any p = false) := Lib.hid (by rw [List.any_eq_false]; intro x hx; rw [h1 x hx]; simp)
    have HK := Lib.hid hk
    clear h1 hk
    go_wp2_with fail
    go_ret
    exact ⟨by rw [HA.out]; rfl, HK.out⟩

set_option maxHeartbeats 1000000 in
set_option maxRecDepth 100000 in
theorem clone20T_any (A : Option Addr) (n c B : Nat) (l : List Len) (w : World) (hr : Rd w B 4 A n (leCells l)) (hA : A = none → c = 0) (hnc : n ≤ c) (hn : n ≤ 100000000000) (hB : B ≤ w.heap.size) :
    Calls Tryz.prog 19 #[.slice A n c] w fun e w' => ∃ A' c', e = .returned (.slice A' n c') ∧ Own w' w.heap.size 59 4 A' n c' (leCells l) ∧ Keep Never w w' := by
  have HR := Lib.hid hr
  have HL := Lib.hid hr.le_len
  clear hr
  have q22 : ∀ (w : World) (a : Option Addr) (n c n' c' : Nat), (binOp .eql 28 (.slice a n c) (.slice none n' c')).run Tryz.prog w = .ok (.bool a.isNone) w := fun w a n c n' c' => Lib.run_eql_slice_nil w _ _ a n c n' c' Tryz.underlying28
  cases A with
  | none =>
    obtain rfl := hA rfl
    obtain rfl : n = 0 := by omega
    have hl : l = [] := List.eq_nil_of_length_eq_zero HL.out
    subst hl
    clear hA
    go_enter Tryz.func19, Tryz.ntmps19
    go_wp2_with fail
    go_ret
    exact ⟨none, 0, rfl, Own.nil _ _ _ _, Keep.refl _ _⟩
  | some ad =>
    clear hA
    have HO : Hid (Own (w.alloc (.cells #[] 59)) w.heap.size 59 4 (some ⟨w.heap.size, 0, none⟩) 0 0 []) := Lib.hid (by
      have h := Own.lit w 59 #[] 0 4 (by unfold maxLen; omega) rfl
      simpa using h)
    have HK : Hid (Keep Never w (w.alloc (.cells #[] 59))) := Lib.hid ((Keep.refl Never w).alloc _)
    have HR1 := Lib.hid (HR.out.keep HK.out (fun _ h => h.elim))
    have hsz : w.heap.size ≤ (w.alloc (.cells #[] 59)).heap.size := by simp
    go_enter Tryz.func19, Tryz.ntmps19
    go_wp2_with (at_builtin; refine wpList_app _ rfl (.tmp 5) (.tmp 6) _ rfl elemLe w.heap.size (n := 0) (c := 0) rfl HO.out B (m := n) rfl HR1.out (leCells_one _) (by omega) (by unfold maxLen; omega) hsz ?_; intro A5 c5 w5 hown hk5 hrow)
    go_ret
    refine ⟨A5, c5, by simp, by simpa using hown, HK.out.then_ hk5 (fun i hi h => ?_)⟩
    have := (HO.out.row h).1
    omega

/-- 'clear(s[i:])' of what is lent: four noughts for each -/
theorem run_clear_le (w : World) (ty : TypeId) {base n c g i : Nat} {xs : List Value} (h : Own w base 59 4 (some ⟨g, 0, none⟩) n c xs) (hi : i < n) :
    (Builtin.clear_ #[28] ty #[.slice (some ⟨g, i * 4, none⟩) (n - i) (c - i)]).run Tryz.prog w = .ok (.tuple #[]) (w.setCells g (i * 4) (Builtin.zeroCells #[.int .i64 0, .int .i64 0, .int .i64 0, .int .i64 0] (n - i)).toList) := by
  have hsz : (Builtin.zeroCells #[Value.int .i64 0, .int .i64 0, .int .i64 0, .int .i64 0] (n - i)).size = (n - i) * 4 := by simp [size_zeroCells]
  have hone : ∀ v ∈ (Builtin.zeroCells #[Value.int .i64 0, .int .i64 0, .int .i64 0, .int .i64 0] (n - i)).toList, v.oneCell' = true := by
    intro v hv
    simp [Builtin.zeroCells] at hv
    obtain ⟨a, _, rfl⟩ := hv
    have h3 : a % 4 = 0 ∨ a % 4 = 1 ∨ a % 4 = 2 ∨ a % 4 = 3 := by omega
    rcases h3 with h3 | h3 | h3 | h3 <;> simp [h3, Value.oneCell']
  have hst := run_storeCells_cells (P := Tryz.prog) g (i * 4) (Builtin.zeroCells #[Value.int .i64 0, .int .i64 0, .int .i64 0, .int .i64 0] (n - i)).toList 0 w
    (fun j hj => by
      have hj' : i * 4 + j < xs.length := by rw [h.len]; simp at hj; rw [hsz] at hj; omega
      have := World.ownsRow.cells h (g := g) rfl (i * 4 + j) _ (List.getElem?_eq_getElem hj')
      rw [add0] at this
      rw [Nat.add_zero, this]; rfl)
    (fun j _ => by
      have := h.frozen rfl (i * 4 + j)
      rw [add0] at this
      rw [Nat.add_zero]; exact this)
    hone
  simp only [Nat.add_zero] at hst
  obtain ⟨m, hm⟩ : ∃ m, n - i = m + 1 := ⟨n - i - 1, by omega⟩
  rw [hm] at hst ⊢
  have hz : ∀ w, (zeroValue 59).run Tryz.prog w = .ok (.agg #[.int .i64 0, .int .i64 0, .int .i64 0, .int .i64 0]) w := Tryz.zeroValue59
  simp [Builtin.clear_, run_underlying Tryz.underlying28, hz, Value.cells, hst]
theorem le_put {w : World} {base n c g i : Nat} {l : List Len} (s : Len) (h : Own w base 59 4 (some ⟨g, 0, none⟩) n c (leCells l)) (hi : i < n) :
    Own ((((w.setCell ⟨g, i * 4, none⟩ (.int .i64 s.1.1)).setCell ⟨g, i * 4 + 1, none⟩ (.int .i64 s.1.2.1)).setCell ⟨g, i * 4 + 2, none⟩ (.int .i64 s.1.2.2)).setCell ⟨g, i * 4 + 3, none⟩ (.int .i64 s.2)) base 59 4 (some ⟨g, 0, none⟩) n c (leCells (l.set i s)) ∧
      Keep (InRow (some ⟨g, 0, none⟩)) w ((((w.setCell ⟨g, i * 4, none⟩ (.int .i64 s.1.1)).setCell ⟨g, i * 4 + 1, none⟩ (.int .i64 s.1.2.1)).setCell ⟨g, i * 4 + 2, none⟩ (.int .i64 s.1.2.2)).setCell ⟨g, i * 4 + 3, none⟩ (.int .i64 s.2)) := by
  have h1 := (((h.stored rfl (i * 4) (.int .i64 s.1.1)).stored rfl (i * 4 + 1) (.int .i64 s.1.2.1)).stored rfl (i * 4 + 2) (.int .i64 s.1.2.2)).stored rfl (i * 4 + 3) (.int .i64 s.2)
  rw [add0, add0, add0, add0] at h1
  have hlen : l.length = n := by have := h.len; rw [len_leCells] at this; omega
  have he : ∀ (l : List Len) (i : Nat), i < l.length → ((((leCells l).set (i * 4) (.int .i64 s.1.1)).set (i * 4 + 1) (.int .i64 s.1.2.1)).set (i * 4 + 2) (.int .i64 s.1.2.2)).set (i * 4 + 3) (.int .i64 s.2) = leCells (l.set i s) := by
    intro l
    induction l with
    | nil => intro i hi; simp at hi
    | cons y l ih =>
      intro i hi
      cases i with
      | zero => rfl
      | succ i =>
        rw [List.set_cons_succ, leCells_cons, leCells_cons, ← ih i (by simpa using hi), show (i + 1) * 4 = i * 4 + 1 + 1 + 1 + 1 by omega]
        simp only [show i * 4 + 1 + 1 + 1 + 1 + 1 = (i * 4 + 1) + 1 + 1 + 1 + 1 by omega, show i * 4 + 1 + 1 + 1 + 1 + 2 = (i * 4 + 2) + 1 + 1 + 1 + 1 by omega, show i * 4 + 1 + 1 + 1 + 1 + 3 = (i * 4 + 3) + 1 + 1 + 1 + 1 by omega, List.set_cons_succ]
  rw [he l i (by omega)] at h1
  exact ⟨h1, ((((Keep.refl _ w).set_ (p := ⟨g, i * 4, none⟩) (.inl ⟨_, rfl, rfl⟩) _).set_ (p := ⟨g, i * 4 + 1, none⟩) (.inl ⟨_, rfl, rfl⟩) _).set_ (p := ⟨g, i * 4 + 2, none⟩) (.inl ⟨_, rfl, rfl⟩) _).set_ (p := ⟨g, i * 4 + 3, none⟩) (.inl ⟨_, rfl, rfl⟩) _⟩
theorem filter_takeT {l : List Len} {j : Nat} {s : Len} (h : l[j]? = some s) (p : Len → Bool) : (l.take (j + 1)).filter p = (l.take j).filter p ++ (if p s = true then [s] else []) := by
  rw [List.take_add_one, h, List.filter_append]
  simp [List.filter_cons]
/-- the predicate in each world that the row's stores lead to -/
def PredDel (g : Nat) (lb : Array Value) (p : Len → Bool) (A : Option Addr) (w : World) : Prop :=
  ∀ (W : World) (s : Len), Keep (InRow A) w W → Calls Tryz.prog g (#[.agg #[.int .i64 s.1.1, .int .i64 s.1.2.1, .int .i64 s.1.2.2, .int .i64 s.2]] ++ lb) W fun e w' => e = .returned (.bool (p s)) ∧ Keep Never W w'

set_option maxHeartbeats 2000000 in
set_option maxRecDepth 100000 in
theorem deletefT_any (g0 : Nat) (lb : Array Value) (p : Len → Bool) (eg : ∀ args w, (callFunc g0 args).run Tryz.prog w = .ok (.enter g0 args) w) (base : Nat) (A : Option Addr) (n c : Nat) (l : List Len) (w : World) (ho : Own w base 59 4 A n c (leCells l)) (hp : PredDel g0 lb p A w) (hn : n ≤ 100000000000) :
    Calls Tryz.prog 21 #[.slice A n c, .func (.func g0) #[] lb] w fun e w' => e = .returned (.slice A (l.filter fun s => !p s).length c) ∧ Own w' base 59 4 A (l.filter fun s => !p s).length c (leCells (l.filter fun s => !p s)) ∧ Keep (InRow A) w w' := by
  have HO := Lib.hid ho
  have HL : Hid (l.length = n) := Lib.hid ho.rd.le_len
  have HI := Lib.hid (indexfT_any g0 lb p eg A n c _ l w ho.rd (fun W s h => hp W s (h.mono (fun _ _ h => h.elim))) hn)
  have HN := Lib.hid hp
  clear hp
  clear ho
  go_enter Tryz.func21, Tryz.ntmps21
  go_wp2_with fail
  refine HI.out.mono ?_
  rintro e w1 ⟨⟨i0, s0, rfl, h1, h2, h3⟩ | ⟨rfl, h1⟩, hk⟩
  rotate_left
  · have HF : Hid ((l.filter fun s => !p s) = l) := Lib.hid (List.filter_eq_self.2 (fun x hx => by have := h1 x hx; simpa using this))
    have HK := Lib.hid hk
    have HO1 := Lib.hid (HO.out.keep hk (fun _ _ h => h))
    clear h1 hk
    go_wp2_with fail
    go_ret
    exact ⟨by rw [HF.out, HL.out]; rfl, by rw [HF.out, HL.out]; exact HO1.out, HK.out.mono (fun _ _ h => h.elim)⟩
  · have hi0 : i0 < n := by have := (List.getElem?_eq_some_iff.1 h1).1; have := HL.out; omega
    obtain ⟨g, cur, rfl, hbg, hB, hnc, hcm, hcs, hct⟩ : ∃ g cur, A = some ⟨g, 0, none⟩ ∧ base ≤ g ∧ Blk w g 59 cur ∧ n ≤ c ∧ c ≤ maxLen ∧ cur.size = c * 4 ∧ cur.toList.take (n * 4) = leCells l := by
      rcases HO.out.form with ⟨_, h, _⟩ | h
      · omega
      · exact h
    have HS0 : Hid (l.take i0 = (l.take (i0 + 1)).filter (fun s => !p s)) := Lib.hid (by
      have h4 : (l.take i0).filter (fun s => !p s) = l.take i0 := List.filter_eq_self.2 (fun x hx => by have := h3 x hx; simpa using this)
      rw [filter_takeT h1, h4, if_neg (by simpa using h2)]; simp)
    have HO1 := Lib.hid (HO.out.keep hk (fun _ _ h => h))
    have HK1 := Lib.hid hk
    have b0 : ((i0 : Int) == -1) = false := beq_eq_false_iff_ne.2 (by omega)
    clear hB hcs hct h1 h2 h3 hk HI
    go_wp2_with fail
    go_loopw [5, 6, 7] (fun s5 s6 _ wr => ∃ i j : Nat, s5 = .int .i64 i ∧ s6 = .int .i64 j ∧ i < j ∧ j ≤ n ∧ Hid (∃ cur : List Len, Own wr base 59 4 (some ⟨g, 0, none⟩) n c (leCells cur) ∧ cur.take i = (l.take j).filter (fun s => !p s) ∧ cur.drop j = l.drop j ∧ Keep (InRow (some ⟨g, 0, none⟩)) w wr))
      (fun _ j _ _ => n - (intOf j).toNat)
    case atStart => exact ⟨i0, i0 + 1, rfl, by go_num, by omega, by omega, Lib.hid ⟨l, HO1.out, HS0.out, rfl, HK1.out.mono (fun _ _ h => h.elim)⟩⟩
    case round =>
      obtain ⟨i, j, rfl, rfl, hij, hjn, HH⟩ := hrel
      by_cases h0 : j < n
      · obtain ⟨cur2, ho, ht, hd, hk⟩ := HH.out
        have hjz : (j : Int) < (n : Int) := by omega
        have hlc : cur2.length = n := ho.rd.le_len
        have hs : cur2[j]? = some cur2[j] := List.getElem?_eq_getElem (by omega)
        have hsl : l[j]? = some cur2[j] := by
          have e1 : (cur2.drop j)[0]? = cur2[j]? := by rw [List.getElem?_drop, Nat.add_zero]
          have e2 : (l.drop j)[0]? = l[j]? := by rw [List.getElem?_drop, Nat.add_zero]
          rw [← e2, ← hd, e1, hs]
        obtain ⟨a0, a1, a2, a3⟩ := leCells_at _ hs
        have c0 := ho.cell0 a0
        have c1 := ho.cell0 a1
        have c2 := ho.cell0 a2
        have c3 := ho.cell0 a3
        obtain ⟨so, hso⟩ : ∃ so, cur2[i]? = some so := ⟨_, List.getElem?_eq_getElem (by omega)⟩
        obtain ⟨o0, o1, o2, o3⟩ := leCells_at _ hso
        generalize cur2[j] = s at *
        have HP := Lib.hid (fun W (h : Keep (InRow (some ⟨g, 0, none⟩)) w W) => HN.out W s h)
        have HO2 := Lib.hid ho
        have Hk := Lib.hid hk
        have Ht := Lib.hid ht
        have Hd := Lib.hid hd
        have Hsl := Lib.hid hsl
        have Hlc := Lib.hid hlc
        have HQ := Lib.hid (And.intro o0 (And.intro o1 (And.intro o2 o3)))
        obtain ⟨⟨s1, s2, s3⟩, s4⟩ := s
        simp only at c0 c1 c2 c3 HP
        have hkb : Hid (Keep Never wr (wr.alloc (.cells #[.int .i64 s1, .int .i64 s2, .int .i64 s3, .int .i64 s4] 59)) ∧ Blk (wr.alloc (.cells #[.int .i64 s1, .int .i64 s2, .int .i64 s3, .int .i64 s4] 59)) wr.heap.size 59 #[.int .i64 s1, .int .i64 s2, .int .i64 s3, .int .i64 s4]) := Lib.hid ⟨(Keep.refl Never wr).alloc _, Blk.new wr _ _⟩
        clear ho hk ht hd hsl hlc hs hso a0 a1 a2 a3 o0 o1 o2 o3 HH
        cases hsm : p ((s1, s2, s3), s4) with
        | true =>
          rw [hsm] at HP
          have HF : Hid ((l.take (j + 1)).filter (fun s => !p s) = (l.take j).filter (fun s => !p s)) := Lib.hid (by rw [filter_takeT Hsl.out, if_neg (by rw [hsm]; simp)]; simp)
          clear hsm
          go_wp2_with (go_at_fn g0; refine (HP.out _ (Hk.out.trans (hkb.out.1.mono (fun _ _ h => h.elim)))).mono ?_; rintro e w' ⟨rfl, hk'⟩)
          have HFin : Hid (∃ cur : List Len, Own w' base 59 4 (some ⟨g, 0, none⟩) n c (leCells cur) ∧ cur.take i = (l.take (j + 1)).filter (fun s => !p s) ∧ cur.drop (j + 1) = l.drop (j + 1) ∧ Keep (InRow (some ⟨g, 0, none⟩)) w w') := by
            have hk2 : Keep Never wr w' := hkb.out.1.trans hk'
            refine Lib.hid ⟨cur2, HO2.out.keep hk2 (fun _ _ h => h), by rw [HF.out]; exact Ht.out, ?_, Hk.out.trans (hk2.mono (fun _ _ h => h.elim))⟩
            rw [← List.drop_drop, ← List.drop_drop, Hd.out]
          clear hk'
          go_roundw
          case measure => simp [intOf]; try omega
          case rel => exact ⟨i, j + 1, rfl, by go_num, by omega, by omega, HFin⟩
        | false =>
          rw [hsm] at HP
          have HF : Hid ((l.take (j + 1)).filter (fun s => !p s) = (l.take j).filter (fun s => !p s) ++ [((s1, s2, s3), s4)]) := Lib.hid (by rw [filter_takeT Hsl.out, if_pos (by rw [hsm]; rfl)])
          clear hsm
          go_wp2_with fail
          go_at_fn g0
          refine (HP.out _ (Hk.out.trans (hkb.out.1.mono (fun _ _ h => h.elim)))).mono ?_
          rintro e w' ⟨rfl, hk'⟩
          have hk2 : Keep Never wr w' := hkb.out.1.trans hk'
          have HO3 := Lib.hid (HO2.out.keep hk2 (fun _ _ h => h))
          have HK3 := Lib.hid (Hk.out.trans (hk2.mono (fun _ _ h => h.elim)))
          have hb3 := hkb.out.2.keep hk' (fun h => h)
          have b1 : w'.cell? ⟨wr.heap.size, 0, none⟩ = some (.int .i64 s1) := hb3.cell 0
          have b2 : w'.cell? ⟨wr.heap.size, 1, none⟩ = some (.int .i64 s2) := hb3.cell 1
          have b3 : w'.cell? ⟨wr.heap.size, 2, none⟩ = some (.int .i64 s3) := hb3.cell 2
          have b4 : w'.cell? ⟨wr.heap.size, 3, none⟩ = some (.int .i64 s4) := hb3.cell 3
          have d0 := HO3.out.cell0 HQ.out.1
          have d1 := HO3.out.cell0 HQ.out.2.1
          have d2 := HO3.out.cell0 HQ.out.2.2.1
          have d3 := HO3.out.cell0 HQ.out.2.2.2
          have f0 := HO3.out.frozen0 (i * 4)
          have f1 := HO3.out.frozen0 (i * 4 + 1)
          have f2 := HO3.out.frozen0 (i * 4 + 2)
          have f3 := HO3.out.frozen0 (i * 4 + 3)
          have hiz : (i : Int) < (n : Int) := by omega
          have hPut := le_put ((s1, s2, s3), s4) HO3.out (show i < n by omega)
          simp only at hPut
          have HFin : Hid (∃ cur : List Len, Own ((((w'.setCell ⟨g, i * 4, none⟩ (.int .i64 s1)).setCell ⟨g, i * 4 + 1, none⟩ (.int .i64 s2)).setCell ⟨g, i * 4 + 2, none⟩ (.int .i64 s3)).setCell ⟨g, i * 4 + 3, none⟩ (.int .i64 s4)) base 59 4 (some ⟨g, 0, none⟩) n c (leCells cur) ∧ cur.take (i + 1) = (l.take (j + 1)).filter (fun s => !p s) ∧ cur.drop (j + 1) = l.drop (j + 1) ∧ Keep (InRow (some ⟨g, 0, none⟩)) w ((((w'.setCell ⟨g, i * 4, none⟩ (.int .i64 s1)).setCell ⟨g, i * 4 + 1, none⟩ (.int .i64 s2)).setCell ⟨g, i * 4 + 2, none⟩ (.int .i64 s3)).setCell ⟨g, i * 4 + 3, none⟩ (.int .i64 s4))) := by
            refine Lib.hid ⟨cur2.set i ((s1, s2, s3), s4), hPut.1, ?_, ?_, HK3.out.trans hPut.2⟩
            · rw [HF.out, List.take_add_one, List.getElem?_set_self (by have := Hlc.out; omega), List.take_set, List.set_eq_of_length_le (by simp; omega), Ht.out]
              rfl
            · rw [List.drop_set_of_lt (by omega), ← List.drop_drop, ← List.drop_drop, Hd.out]
          clear hPut hk' hk2 hb3 c0 c1 c2 c3
          go_wp2_with fail
          go_roundw
          case measure => simp [intOf]; try omega
          case rel => exact ⟨i + 1, j + 1, by go_num, by go_num, by omega, by omega, HFin⟩
      · obtain rfl : j = n := by omega
        obtain ⟨cur2, ho, ht, hd, hk⟩ := HH.out
        have hjz : ¬ (j : Int) < (j : Int) := by omega
        have hlen : i = (l.filter fun s => !p s).length := by
          have h1 := congrArg List.length ht
          rw [List.length_take, ho.rd.le_len, Nat.min_eq_left (by omega), List.take_of_length_le (by have := HL.out; omega)] at h1
          exact h1
        have hcl : ∀ ty, (Builtin.clear_ #[28] ty #[.slice (some ⟨g, i * 4, none⟩) (j - i) (c - i)]).run Tryz.prog wr = .ok (.tuple #[]) (wr.setCells g (i * 4) (Builtin.zeroCells #[.int .i64 0, .int .i64 0, .int .i64 0, .int .i64 0] (j - i)).toList) := fun ty => run_clear_le wr ty ho hij
        have hB := (ho.front (show i ≤ j by omega)).behind (Builtin.zeroCells #[.int .i64 0, .int .i64 0, .int .i64 0, .int .i64 0] (j - i)).toList (i * 4) wr (Nat.le_refl _)
        rw [leCells_take, ht, List.take_of_length_le (by have := HL.out; omega)] at hB
        generalize wr.setCells g (i * 4) (Builtin.zeroCells #[.int .i64 0, .int .i64 0, .int .i64 0, .int .i64 0] (j - i)).toList = w9 at *
        have HB := Lib.hid hB
        have Hk := Lib.hid hk
        have Hlen := Lib.hid hlen
        clear hB hk ht hd ho hlen HH
        go_wp2_with (first | (refine wpList_from0 rfl (.tmp 36) (.tmp 37) _ rfl Tryz.underlying28 Tryz.sizeOf59 g j c i (by go_simp) _ (by go_simp) rfl (by omega) (by omega) ?_) | (refine wpList_upto0 rfl (.tmp 39) (.tmp 40) _ rfl Tryz.underlying28 Tryz.sizeOf59 g j c i (by go_simp) _ (by go_simp) rfl (by omega) (by omega) ?_))
        go_ret
        exact ⟨by rw [← Hlen.out]; rfl, by rw [← Hlen.out]; exact HB.out.1, Hk.out.trans HB.out.2⟩

end Go.Proofs.YtpahfobijmmmmaaGreat

namespace Go.Proofs.YtpahfobijmmmmaaGreat
open Go.RowKit

theorem mayN_no {n : Nt} (h : MayN n → False) : mayN n = false := by
  rw [← Bool.not_eq_true, mayN_iff]
  exact h
theorem norm_self {l : List Sp} : normM l = l ↔ NormalS l := by
  constructor
  · intro h; rw [← h]; exact (normM_of l).1
  · intro h; exact (normM_eq ⟨h, fun _ _ => rfl⟩).symm

set_option maxHeartbeats 4000000 in
set_option maxRecDepth 100000 in
theorem stime_any (n : Int) (w : World) :
    Calls Tryz.prog 89 #[.int .i64 n] w fun e w' => e = .returned (.bool (clockB n)) ∧ Keep Never w w' := by
  by_cases g0 : 0 ≤ n
  case neg =>
    have t0 : decide (n ≥ 0) = false := by simpa using g0
    have HF : Hid (clockB n = false) := Lib.hid (by unfold clockB; simp; omega)
    clear g0
    go_enter Tryz.func89, Tryz.ntmps89
    go_wp2_with fail
    go_ret
    exact ⟨by rw [HF.out]; rfl, Keep.refl _ _⟩
  have t0 : decide (n ≥ 0) = true := by simpa using g0
  by_cases g1 : n ≤ 4294967294
  case neg =>
    have t1 : decide (n ≤ 4294967294) = false := by simpa using g1
    have HF : Hid (clockB n = false) := Lib.hid (by unfold clockB; simp; omega)
    clear g0 g1
    go_enter Tryz.func89, Tryz.ntmps89
    go_wp2_with fail
    go_ret
    exact ⟨by rw [HF.out]; rfl, Keep.refl _ _⟩
  have t1 : decide (n ≤ 4294967294) = true := by simpa using g1
  have HF : Hid (clockB n = true) := Lib.hid (by unfold clockB; simp; omega)
  clear g0 g1
  go_enter Tryz.func89, Tryz.ntmps89
  go_wp2_with fail
  go_ret
  exact ⟨by rw [HF.out]; rfl, Keep.refl _ _⟩

set_option maxHeartbeats 4000000 in
set_option maxRecDepth 100000 in
theorem later0_any (n : Int) (w : World) (h1 : -9223372036854775808 ≤ n) (h2 : n ≤ 9223372036854775807) :
    Calls Tryz.prog 65 #[.int .i64 n, .int .i64 0] w fun e w' => ∃ v, e = .returned (.tuple #[.int .i64 v, .int .i64 (if clockB n = true then 0 else 7)]) ∧ Keep Never w w' := by
  have HT := Lib.hid (fun V => stime_any n V)
  have HT0 : Hid (∀ V, Calls Tryz.prog 89 #[.int .i64 0] V fun e w' => e = .returned (.bool true) ∧ Keep Never V w') := Lib.hid (fun V => stime_any 0 V)
  have hwn : IntKind.i64.wrap n = n := IntWalk.i64_in _ (by omega)
  have hwn2 : wrap64 n = n := by have := hwn; rwa [IntWalk.i64_left] at this
  obtain ⟨tb, htb⟩ : ∃ z, clockB n = z := ⟨_, rfl⟩
  rw [htb] at HT ⊢
  clear htb
  go_enter Tryz.func65, Tryz.ntmps65
  go_wp2_with fail
  refine (HT.out _).mono ?_
  rintro e w1 ⟨rfl, hk1⟩
  cases tb with
  | false =>
    have HK1 := Lib.hid hk1
    clear hk1
    go_wp2_with fail
    go_ret2
    exact ⟨⟨0, rfl⟩, HK1.out⟩
  | true =>
    go_wp2_with fail
    refine (HT0.out _).mono ?_
    rintro e w2 ⟨rfl, hk2⟩
    have HK2 := Lib.hid (hk1.trans hk2)
    clear hk1 hk2
    go_wp2_with fail
    (try rw [hwn2])
    refine (HT.out _).mono ?_
    rintro e w3 ⟨rfl, hk3⟩
    have HK3 := Lib.hid (HK2.out.trans hk3)
    clear hk3
    go_wp2_with fail
    (try rw [hwn2])
    go_ret2
    exact ⟨⟨n, rfl⟩, HK3.out⟩

set_option maxHeartbeats 4000000 in
set_option maxRecDepth 100000 in
theorem btime_any (n : Int) (w : World) (h1 : -9223372036854775808 ≤ n) (h2 : n ≤ 9223372036854775807) :
    Calls Tryz.prog 30 #[.int .i64 n] w fun e w' => e = .returned (.bool (clockB n)) ∧ Keep Never w w' := by
  have HL := Lib.hid (later0_any n w h1 h2)
  obtain ⟨tb, htb⟩ : ∃ z, clockB n = z := ⟨_, rfl⟩
  rw [htb] at HL ⊢
  clear htb
  go_enter Tryz.func30, Tryz.ntmps30
  go_wp2_with fail
  refine HL.out.mono ?_
  rintro e w1 ⟨v, rfl, hk1⟩
  have HK1 := Lib.hid hk1
  clear hk1
  cases tb with
  | false =>
    simp only [Bool.false_eq_true, if_false]
    go_wp2_with fail
    go_ret
    exact ⟨rfl, HK1.out⟩
  | true =>
    simp only [if_true]
    go_wp2_with fail
    go_ret
    exact ⟨rfl, HK1.out⟩

set_option maxHeartbeats 4000000 in
set_option maxRecDepth 100000 in
theorem blocked_any (k0 tr tt un : Int) (A1 A2 : Option Addr) (n1 c1 n2 c2 : Nat) (a b c : Int) (w : World) :
    Calls Tryz.prog 42 #[.agg #[.int .i64 k0, .int .i64 tr, .int .i64 tt, .int .i64 un, .slice A1 n1 c1, .slice A2 n2 c2], .agg #[.int .i64 a, .int .i64 b, .int .i64 c]] w fun e w' => e = .returned (.bool (lokB tr (a, b, c))) ∧ Keep Never w w' := by
  obtain ⟨w1, hw1⟩ : ∃ V : World, w.alloc (.cells #[.int .i64 k0, .int .i64 tr, .int .i64 tt, .int .i64 un, .slice A1 n1 c1, .slice A2 n2 c2] 34) = V := ⟨_, rfl⟩
  have zw1 : w1.heap.size = w.heap.size + 1 := by rw [← hw1]; simp
  have kw1 : Keep Never w w1 := by rw [← hw1]; exact (Keep.refl _ _).alloc _
  have bw1 := Blk.new w 34 #[.int .i64 k0, .int .i64 tr, .int .i64 tt, .int .i64 un, .slice A1 n1 c1, .slice A2 n2 c2]
  rw [hw1] at bw1
  obtain ⟨w2, hw2⟩ : ∃ V : World, w1.alloc (.cells #[.int .i64 a, .int .i64 b, .int .i64 c] 57) = V := ⟨_, rfl⟩
  have kw2 : Keep Never w1 w2 := by rw [← hw2]; exact (Keep.refl _ _).alloc _
  have bw2 := Blk.new w1 57 #[.int .i64 a, .int .i64 b, .int .i64 c]
  rw [hw2, zw1] at bw2
  have HB1 := Lib.hid (bw1.keep kw2 (fun h => h))
  have HB2 := Lib.hid bw2
  have HK := Lib.hid (kw1.trans kw2)
  clear kw1 kw2 bw1 bw2
  have p1 : w2.cell? ⟨w.heap.size, 1, none⟩ = some (.int .i64 tr) := HB1.out.cell 1
  have q0 : w2.cell? ⟨w.heap.size + 1, 0, none⟩ = some (.int .i64 a) := HB2.out.cell 0
  have q1 : w2.cell? ⟨w.heap.size + 1, 1, none⟩ = some (.int .i64 b) := HB2.out.cell 1
  have q2 : w2.cell? ⟨w.heap.size + 1, 2, none⟩ = some (.int .i64 c) := HB2.out.cell 2
  by_cases g0 : 1 ≤ a
  case neg =>
    have t0 : decide (a ≥ 1) = false := by simpa using g0
    have HF : Hid (lokB tr (a, b, c) = false) := Lib.hid (by unfold lokB; simp; omega)
    clear g0
    go_enter Tryz.func42, Tryz.ntmps42
    go_wp2_with fail
    go_ret
    exact ⟨by rw [HF.out]; rfl, HK.out⟩
  have t0 : decide (a ≥ 1) = true := by simpa using g0
  by_cases g1 : a < 65536
  case neg =>
    have t1 : decide (a < 65536) = false := by simpa using g1
    have HF : Hid (lokB tr (a, b, c) = false) := Lib.hid (by unfold lokB; simp; omega)
    clear g0 g1
    go_enter Tryz.func42, Tryz.ntmps42
    go_wp2_with fail
    go_ret
    exact ⟨by rw [HF.out]; rfl, HK.out⟩
  have t1 : decide (a < 65536) = true := by simpa using g1
  by_cases g2 : b = tr
  case neg =>
    have t2 : (b == tr) = false := by simpa using g2
    have HF : Hid (lokB tr (a, b, c) = false) := Lib.hid (by unfold lokB; simp; omega)
    clear g0 g1 g2
    go_enter Tryz.func42, Tryz.ntmps42
    go_wp2_with fail
    go_ret
    exact ⟨by rw [HF.out]; rfl, HK.out⟩
  have t2 : (b == tr) = true := by simpa using g2
  by_cases g3 : 1 ≤ c
  case neg =>
    have t3 : decide (c ≥ 1) = false := by simpa using g3
    have HF : Hid (lokB tr (a, b, c) = false) := Lib.hid (by unfold lokB; simp; omega)
    clear g0 g1 g2 g3
    go_enter Tryz.func42, Tryz.ntmps42
    go_wp2_with fail
    go_ret
    exact ⟨by rw [HF.out]; rfl, HK.out⟩
  have t3 : decide (c ≥ 1) = true := by simpa using g3
  by_cases g4 : c < 1099511627776
  case neg =>
    have t4 : decide (c < 1099511627776) = false := by simpa using g4
    have HF : Hid (lokB tr (a, b, c) = false) := Lib.hid (by unfold lokB; simp; omega)
    clear g0 g1 g2 g3 g4
    go_enter Tryz.func42, Tryz.ntmps42
    go_wp2_with fail
    go_ret
    exact ⟨by rw [HF.out]; rfl, HK.out⟩
  have t4 : decide (c < 1099511627776) = true := by simpa using g4
  have HF : Hid (lokB tr (a, b, c) = true) := Lib.hid (by unfold lokB; simp; omega)
  clear g0 g1 g2 g3 g4
  go_enter Tryz.func42, Tryz.ntmps42
  go_wp2_with fail
  go_ret
  exact ⟨by rw [HF.out]; rfl, HK.out⟩

set_option maxHeartbeats 4000000 in
set_option maxRecDepth 100000 in
theorem bad20_any (k0 tr tt un : Int) (A1 A2 : Option Addr) (n1 c1 n2 c2 : Nat) (a b c : Int) (g : Nat) (w : World) (h1 : Blk w g 34 #[.int .i64 k0, .int .i64 tr, .int .i64 tt, .int .i64 un, .slice A1 n1 c1, .slice A2 n2 c2]) :
    Calls Tryz.prog 41 #[.agg #[.int .i64 a, .int .i64 b, .int .i64 c], .pointer (some ⟨g, 0, none⟩)] w fun e w' => e = .returned (.bool (!lokB tr (a, b, c))) ∧ Keep Never w w' := by
  obtain ⟨w1, hw1⟩ : ∃ V : World, w.alloc (.cells #[.int .i64 a, .int .i64 b, .int .i64 c] 57) = V := ⟨_, rfl⟩
  have kw1 : Keep Never w w1 := by rw [← hw1]; exact (Keep.refl _ _).alloc _
  have bw1 := Blk.new w 57 #[.int .i64 a, .int .i64 b, .int .i64 c]
  rw [hw1] at bw1
  have HB1 := Lib.hid bw1
  have HK := Lib.hid kw1
  clear kw1 bw1
  have H1 := Lib.hid (h1.keep HK.out (fun h => h))
  clear h1
  have lk0 : w1.cell? ⟨w.heap.size, 0, none⟩ = some (.int .i64 a) := HB1.out.cell 0
  have lk1 : w1.cell? ⟨w.heap.size, 1, none⟩ = some (.int .i64 b) := HB1.out.cell 1
  have lk2 : w1.cell? ⟨w.heap.size, 2, none⟩ = some (.int .i64 c) := HB1.out.cell 2
  have nt0 : w1.cell? ⟨g, 0, none⟩ = some (.int .i64 k0) := H1.out.cell 0
  have nt1 : w1.cell? ⟨g, 1, none⟩ = some (.int .i64 tr) := H1.out.cell 1
  have nt2 : w1.cell? ⟨g, 2, none⟩ = some (.int .i64 tt) := H1.out.cell 2
  have nt3 : w1.cell? ⟨g, 3, none⟩ = some (.int .i64 un) := H1.out.cell 3
  have nt4 : w1.cell? ⟨g, 4, none⟩ = some (.slice A1 n1 c1) := H1.out.cell 4
  have nt5 : w1.cell? ⟨g, 5, none⟩ = some (.slice A2 n2 c2) := H1.out.cell 5
  have HC := Lib.hid (blocked_any k0 tr tt un A1 A2 n1 c1 n2 c2 a b c w1)
  obtain ⟨z, hz⟩ : ∃ z, lokB tr (a, b, c) = z := ⟨_, rfl⟩
  rw [hz] at HC ⊢
  clear hz
  go_enter Tryz.func41, Tryz.ntmps41
  go_wp2_with fail
  refine HC.out.mono ?_
  rintro en w101 ⟨rfl, hk1⟩
  have HK1 := Lib.hid (HK.out.trans hk1)
  have Hlk1 := Lib.hid (HB1.out.keep hk1 (fun h => h))
  have Hnt1 := Lib.hid (H1.out.keep hk1 (fun h => h))
  clear lk0 lk1 lk2 nt0 nt1 nt2 nt3 nt4 nt5 hk1 HC
  go_wp2_with fail
  go_ret
  exact ⟨rfl, HK1.out⟩

set_option maxHeartbeats 4000000 in
set_option maxRecDepth 100000 in
theorem far20_any (a b c : Int) (w : World) :
    Calls Tryz.prog 43 #[.agg #[.int .i64 a, .int .i64 b, .int .i64 c]] w fun e w' => e = .returned (.bool (decide (a ≥ 40))) ∧ Keep Never w w' := by
  obtain ⟨w1, hw1⟩ : ∃ V : World, w.alloc (.cells #[.int .i64 a, .int .i64 b, .int .i64 c] 74) = V := ⟨_, rfl⟩
  have kw1 : Keep Never w w1 := by rw [← hw1]; exact (Keep.refl _ _).alloc _
  have bw1 := Blk.new w 74 #[.int .i64 a, .int .i64 b, .int .i64 c]
  rw [hw1] at bw1
  have HB1 := Lib.hid bw1
  have HK := Lib.hid kw1
  have v0 : w1.cell? ⟨w.heap.size, 0, none⟩ = some (.int .i64 a) := HB1.out.cell 0
  clear kw1 bw1
  obtain ⟨z, hz⟩ : ∃ z, decide (a ≥ 40) = z := ⟨_, rfl⟩
  have HZ := Lib.hid hz
  go_enter Tryz.func43, Tryz.ntmps43
  go_wp2_with fail
  go_ret
  exact ⟨by rw [HZ.out]; rfl, HK.out⟩

set_option maxHeartbeats 2000000 in
set_option maxRecDepth 100000 in
theorem equal20_any (l m : List Sp) (A A' : Option Addr) (n n' c c' B B' : Nat) (w : World) (hr : Rd w B 3 A n (spCells l)) (hr' : Rd w B' 3 A' n' (spCells m)) (hn : n ≤ 100000000000) (hn' : n' ≤ 100000000000) :
    Calls Tryz.prog 45 #[.slice A n c, .slice A' n' c'] w fun e w' => e = .returned (.bool (decide (l = m))) ∧ Keep Never w w' := by
  have Hl := Lib.hid hr.sp_len
  have Hm := Lib.hid hr'.sp_len
  have Hr := Lib.hid hr
  have Hr' := Lib.hid hr'
  clear hr hr'
  by_cases hne : n = n'
  · subst hne
    go_enter Tryz.func45, Tryz.ntmps45
    go_wp2_with fail
    go_loopw [13] (fun i wr => ∃ k : Nat, k ≤ n ∧ i = .int .i64 k ∧ Hid (Keep Never w wr ∧ l.take k = m.take k)) (fun i _ => n - (intOf i).toNat)
    case atStart => exact ⟨0, by omega, rfl, Keep.refl _ _, by simp⟩
    case round =>
      obtain ⟨k, hk, rfl, HH⟩ := hrel
      by_cases h0 : k < n
      · obtain ⟨ad, x, hA, _, hx, c0, c1, c2⟩ := (Hr.out.keep HH.out.1 (fun _ h => h.elim)).sp h0
        obtain ⟨ad', y, hA', _, hy, d0, d1, d2⟩ := (Hr'.out.keep HH.out.1 (fun _ h => h.elim)).sp h0
        subst hA
        subst hA'
        obtain ⟨x1, x2, x3⟩ := x
        obtain ⟨y1, y2, y3⟩ := y
        simp only at c0 c1 c2 d0 d1 d2
        have HX := Lib.hid hx
        have HY := Lib.hid hy
        have hki : (k : Int) < (n : Int) := by omega
        have hk00 : (0 : Int) ≤ (k : Int) := by omega
        clear hx hy
        have htx : Hid (l.take (k + 1) = l.take k ++ [(x1, x2, x3)]) := by
          obtain ⟨h2, h3⟩ := List.getElem?_eq_some_iff.1 HX.out
          show _ = _
          rw [List.take_succ_eq_append_getElem h2, h3]
        have hty : Hid (m.take (k + 1) = m.take k ++ [(y1, y2, y3)]) := by
          obtain ⟨h2, h3⟩ := List.getElem?_eq_some_iff.1 HY.out
          show _ = _
          rw [List.take_succ_eq_append_getElem h2, h3]
        by_cases hxy : x1 = y1 ∧ x2 = y2 ∧ x3 = y3
        · obtain ⟨rfl, rfl, rfl⟩ := hxy
          go_wp2_with fail
          go_quiet (fail)
          go_wp2_with fail
          go_roundw
          case rel => exact ⟨k + 1, by omega, by go_num, HH.out.1.drewN _, by rw [htx.out, hty.out, HH.out.2]⟩
          case measure => simp [intOf]; try omega
        · have hb : (x1 == y1) = false ∨ ((x1 == y1) = true ∧ (x2 == y2) = false) ∨ ((x1 == y1) = true ∧ (x2 == y2) = true ∧ (x3 == y3) = false) := by
            by_cases h : x1 = y1
            · right
              by_cases h2 : x2 = y2
              · right; exact ⟨by simpa using h, by simpa using h2, by simp; exact fun h' => hxy ⟨h, h2, h'⟩⟩
              · left; exact ⟨by simpa using h, by simpa using h2⟩
            · exact .inl (by simpa using h)
          have hne : Hid (decide (l = m) = false) := by
            show _ = _
            rw [decide_eq_false_iff_not]
            intro e
            have h1 := HX.out
            rw [e, HY.out] at h1
            injection h1 with h1
            injection h1 with h1 h2
            injection h2 with h2 h3
            exact hxy ⟨h1.symm, h2.symm, h3.symm⟩
          clear hxy
          rcases hb with hb | ⟨hb, hb2⟩ | ⟨hb, hb2, hb3⟩
          all_goals
            go_wp2_with fail
            go_quiet (fail)
            go_wp2_with fail
            go_ret
            exact ⟨by rw [hne.out]; rfl, HH.out.1.drewN _⟩
      · obtain rfl : k = n := by omega
        have he : Hid (decide (l = m) = true) := by
          show _ = _
          rw [decide_eq_true_iff]
          have := HH.out.2
          rwa [List.take_of_length_le (by rw [Hl.out]; exact Nat.le_refl _), List.take_of_length_le (by rw [Hm.out]; exact Nat.le_refl _)] at this
        go_wp2_with fail
        go_ret
        exact ⟨by rw [he.out]; rfl, HH.out.1⟩
  · have he : Hid (decide (l = m) = false) := by
      show _ = _
      rw [decide_eq_false_iff_not]
      intro e
      have h1 := Hl.out
      rw [e, Hm.out] at h1
      exact hne h1.symm
    have hb : ((n : Int) == (n' : Int)) = false := by simp; omega
    clear hne
    go_enter Tryz.func45, Tryz.ntmps45
    go_wp2_with fail
    go_ret
    exact ⟨by rw [he.out]; rfl, Keep.refl _ _⟩


end Go.Proofs.YtpahfobijmmmmaaGreat
