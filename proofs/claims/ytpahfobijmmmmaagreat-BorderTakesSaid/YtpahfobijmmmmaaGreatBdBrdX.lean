/- Chapter 20 (border), the document: Laid. -/
import Derived.Test.YtpahfobijmmmmaaGreatBdBrdA
import Derived.Test.YtpahfobijmmmmaaGreatBitsG
import Derived.Deep.DeepCutAuto
import Derived.Test.YtpahfobijmmmmaaGreatBrdE
import Derived.Test.YtpahfobijmmmmaaGreatBdSpnR
namespace Go.Proofs.YtpahfobijmmmmaaGreat
open Go.RowKit

/-- the cells of numbers and widths -/
def bitC20 (l : List (Int × Int)) : List Value := l.flatMap fun x => [.int .i64 x.1, .int .i64 x.2]
theorem Own.of_blk20 {w : World} {g e n B size : Nat} {xs : List Value} (h : Blk w g e xs.toArray) (hl : xs.length = n * size) (hm : n ≤ maxLen) (hB : B ≤ g) : Own w B e size (some ⟨g, 0, none⟩) n n xs :=
  ⟨hl, .inr ⟨g, n, xs.toArray, rfl, hB, h, Nat.le_refl _, hm, by simp [hl], by rw [List.take_of_length_le (by simp [hl])]⟩⟩
theorem bitC20_at : ∀ (l : List (Int × Int)) {i : Nat} {x : Int × Int}, l[i]? = some x → (bitC20 l)[i * 2]? = some (.int .i64 x.1) ∧ (bitC20 l)[i * 2 + 1]? = some (.int .i64 x.2) := by
  intro l
  induction l with
  | nil => intro i x h; simp at h
  | cons y l ih =>
    intro i x h
    have e : bitC20 (y :: l) = .int .i64 y.1 :: .int .i64 y.2 :: bitC20 l := rfl
    rw [e]
    cases i with
    | zero => simp only [List.getElem?_cons_zero, Option.some.injEq] at h; subst h; exact ⟨rfl, rfl⟩
    | succ i =>
      simp only [List.getElem?_cons_succ] at h
      rw [show (i + 1) * 2 = i * 2 + 1 + 1 by omega, List.getElem?_cons_succ, List.getElem?_cons_succ, List.getElem?_cons_succ, List.getElem?_cons_succ]
      exact ih h
theorem layW20_take {l : List (Int × Int)} {k : Nat} {x : Int × Int} (h : l[k]? = some x) : layW (l.take (k + 1)) = layW (l.take k) ++ bitsOf x.1.toNat x.2.toNat := by
  obtain ⟨h2, h3⟩ := List.getElem?_eq_some_iff.1 h
  rw [List.take_succ_eq_append_getElem h2, h3]
  simp [layW]
theorem layW20_le {l : List (Int × Int)} (hw : ∀ y ∈ l, 0 ≤ y.2 ∧ y.2 ≤ 32) : (layW l).length ≤ 32 * l.length := by
  induction l with
  | nil => simp [layW]
  | cons y l ih =>
    have h1 := hw y (by simp)
    have h2 := ih (fun z hz => hw z (by simp [hz]))
    simp only [layW, List.flatMap_cons, List.length_append, length_bitsOf, List.length_cons] at h2 ⊢
    omega
theorem layW20_take_len {l : List (Int × Int)} (hw : ∀ y ∈ l, 0 ≤ y.2 ∧ y.2 ≤ 32) (k : Nat) : (layW (l.take k)).length ≤ 32 * l.length := by
  have h1 := layW20_le (l := l.take k) (fun y hy => hw y (List.mem_of_mem_take hy))
  have h2 : (l.take k).length ≤ l.length := by simp; omega
  omega

/-- what Laid leaves -/
def LRet20 (w : World) (l : List (Int × Int)) (e : Ending) (w' : World) : Prop :=
  ∃ A' n' c', e = .returned (.slice A' n' c') ∧ n' = (layW l).length ∧ Own w' w.heap.size 4 1 A' n' c' ((layW l).map .bool) ∧ Keep Never w w'

end Go.Proofs.YtpahfobijmmmmaaGreat

namespace Go.Proofs.YtpahfobijmmmmaaGreat
open Go.RowKit

set_option maxHeartbeats 4000000 in
set_option maxRecDepth 100000 in
theorem rtrain20_any (train : Int) (w : World) :
    Calls Tryz.prog 33 #[.int .i64 train] w fun e w' => e = .returned (.bool (runB train)) ∧ Keep Never w w' := by
  by_cases g0 : 0 ≤ train
  · have t0 : decide (train ≥ 0) = true := by simpa using g0
    by_cases g1 : train ≤ 16777215
    · have t1 : decide (train ≤ 16777215) = true := by simpa using g1
      have HF : Hid (runB train = true) := Lib.hid (by unfold runB; simp; omega)
      clear g0 g1
      go_enter Tryz.func33, Tryz.ntmps33
      go_wp2_with fail
      go_ret
      exact ⟨by rw [HF.out]; rfl, Keep.refl _ _⟩
    · have t1 : decide (train ≤ 16777215) = false := by simpa using g1
      have HF : Hid (runB train = false) := Lib.hid (by unfold runB; simp; omega)
      clear g0 g1
      go_enter Tryz.func33, Tryz.ntmps33
      go_wp2_with fail
      go_ret
      exact ⟨by rw [HF.out]; rfl, Keep.refl _ _⟩
  · have t0 : decide (train ≥ 0) = false := by simpa using g0
    have HF : Hid (runB train = false) := Lib.hid (by unfold runB; simp; omega)
    clear g0
    go_enter Tryz.func33, Tryz.ntmps33
    go_wp2_with fail
    go_ret
    exact ⟨by rw [HF.out]; rfl, Keep.refl _ _⟩
set_option maxHeartbeats 4000000 in
set_option maxRecDepth 100000 in
theorem rtime20_any (t : Int) (w : World) :
    Calls Tryz.prog 32 #[.int .i64 t] w fun e w' => e = .returned (.bool (clockB t)) ∧ Keep Never w w' := by
  by_cases g0 : 0 ≤ t
  case neg =>
    have t0 : decide (t ≥ 0) = false := by simpa using g0
    have HF : Hid (clockB t = false) := Lib.hid (by unfold clockB; simp [g0])
    clear g0
    go_enter Tryz.func32, Tryz.ntmps32
    go_wp2_with fail
    go_ret
    exact ⟨by rw [HF.out]; rfl, Keep.refl _ _⟩
  have t0 : decide (t ≥ 0) = true := by simpa using g0
  by_cases g1 : t ≤ 4294967294
  case neg =>
    have t1 : decide (t < 4294967295) = false := by simp; omega
    have HF : Hid (clockB t = false) := Lib.hid (by unfold clockB; simp [g1])
    clear g0 g1
    go_enter Tryz.func32, Tryz.ntmps32
    go_wp2_with fail
    go_ret
    exact ⟨by rw [HF.out]; rfl, Keep.refl _ _⟩
  have t1 : decide (t < 4294967295) = true := by simp; omega
  have HF : Hid (clockB t = true) := Lib.hid (by unfold clockB; simp [g0, g1])
  clear g0 g1
  go_enter Tryz.func32, Tryz.ntmps32
  go_wp2_with fail
  go_ret
  exact ⟨by rw [HF.out]; rfl, Keep.refl _ _⟩
/-- what is left to ask, where the head is right -/
structure HeadN (k0 tr tt un : Int) (l : List Lok) (h : List Sp) : Prop where
  kind : 1 ≤ k0 ∧ k0 ≤ 3
  train : runB tr = true
  time : clockB tt = true
  norm : normB h = true
  till : 0 ≤ un ∧ un ≤ 1099511627776
  few : l.length ≤ 24
  here : h.length ≤ 16
structure ListsN (k0 un : Int) (l : List Lok) (h : List Sp) : Prop where
  tell : k0 = 2 ∨ l.length = 0
  took : k0 = 3 ∨ h.length = 0
  ask : k0 = 1 → un = 0
theorem listsN_iff {k0 tr tt un : Int} {l : List Lok} {h : List Sp} : listsN (k0, tr, tt, un, l, h) = true ↔ ListsN k0 un l h := by
  unfold listsN
  simp only [Bool.and_eq_true, Bool.or_eq_true, decide_eq_true_eq]
  constructor
  · rintro ⟨⟨a, b⟩, c⟩
    refine ⟨a, b, fun e => ?_⟩
    rcases c with c | c
    · rw [decide_eq_true e] at c; cases c
    · exact c
  · intro h2
    refine ⟨⟨h2.tell, h2.took⟩, ?_⟩
    by_cases e : k0 = 1
    · exact .inr (h2.ask e)
    · left; rw [decide_eq_false e]; rfl
theorem mayN_left {k0 tr tt un : Int} {l : List Lok} {h : List Sp} (h1 : HeadN k0 tr tt un l h) (h2 : ListsN k0 un l h) : mayN (k0, tr, tt, un, l, h) = (l.all (lokB tr) && h.all fun s => decide (s.1 ≤ 39)) := by
  have a1 : headN (k0, tr, tt, un, l, h) = true := by
    unfold headN
    simp only [h1.train, h1.time, decide_eq_true h1.kind.1, decide_eq_true h1.kind.2, decide_eq_true h1.till.1, decide_eq_true h1.till.2, Bool.and_self]
  have a2 : listsN (k0, tr, tt, un, l, h) = true := listsN_iff.2 h2
  unfold mayN
  rw [a1, a2]
  simp only [h1.norm, decide_eq_true h1.few, decide_eq_true h1.here, Bool.true_and, Bool.and_true]
theorem mayN_head {k0 tr tt un : Int} {l : List Lok} {h : List Sp} (hn : HeadN k0 tr tt un l h → False) : mayN (k0, tr, tt, un, l, h) = false := mayN_no (fun hm => hn (by
  refine ⟨hm.kind, ?_, ?_, normB_iff.2 hm.norm, hm.till, hm.few, hm.here⟩
  · have := hm.train; unfold runB; simp only at this; simp only [Bool.and_eq_true, decide_eq_true_eq]; exact this
  · have := hm.time; unfold clockB; simp only at this; simp only [Bool.and_eq_true, decide_eq_true_eq]; exact this))
theorem mayN_lists {k0 tr tt un : Int} {l : List Lok} {h : List Sp} (hn : ListsN k0 un l h → False) : mayN (k0, tr, tt, un, l, h) = false := mayN_no (fun hm => hn ⟨hm.tell.imp_right (fun e => by rw [List.length_eq_zero_iff]; exact e), hm.took.imp_right (fun e => by rw [List.length_eq_zero_iff]; exact e), hm.ask⟩)
set_option maxHeartbeats 16000000 in
set_option maxRecDepth 100000 in
theorem rmay20_any (k0 tr tt un : Int) (A1 A2 : Option Addr) (n1 c1 n2 c2 B : Nat) (l : List Lok) (h : List Sp) (w : World) (hl : SpAt w B A1 n1 c1 l) (hh : SpAt w B A2 n2 c2 h) (hn1 : n1 ≤ 1000) (hn2 : n2 ≤ 1000) (hB : B ≤ w.heap.size) :
    Calls Tryz.prog 22 #[.agg #[.int .i64 k0, .int .i64 tr, .int .i64 tt, .int .i64 un, .slice A1 n1 c1, .slice A2 n2 c2]] w (fun e w' => e = .returned (.bool (mayN (k0, tr, tt, un, l, h))) ∧ Keep Never w w') := by
  have HTr : Hid (∀ V, Calls Tryz.prog 33 #[.int .i64 tr] V fun e w' => e = .returned (.bool (runB tr)) ∧ Keep Never V w') := Lib.hid (fun V => rtrain20_any tr V)
  have HTm : Hid (∀ V, Calls Tryz.prog 32 #[.int .i64 tt] V fun e w' => e = .returned (.bool (clockB tt)) ∧ Keep Never V w') := Lib.hid (fun V => rtime20_any tt V)
  have HNo : Hid (∀ V, Keep Never w V → Calls Tryz.prog 50 #[.slice A2 n2 c2] V (SpAns V fun m => NormOf h m ∧ m.length ≤ 4000000)) := Lib.hid (fun V hV => rnorm_any B A2 n2 c2 h V (hh.keep hV) hn2 (Nat.le_trans hB hV.size))
  have HLl := Lib.hid hl
  have HLh := Lib.hid hh
  have HN1 : Hid (l.length = n1) := Lib.hid hl.len
  have HN2 : Hid (h.length = n2) := Lib.hid hh.len
  have HBb : Hid (B ≤ w.heap.size) := Lib.hid hB
  clear hl hh hB
  obtain ⟨w1, hw1⟩ : ∃ V : World, w.alloc (.cells #[.int .i64 k0, .int .i64 tr, .int .i64 tt, .int .i64 un, .slice A1 n1 c1, .slice A2 n2 c2] 34) = V := ⟨_, rfl⟩
  have kw1 : Keep Never w w1 := by rw [← hw1]; exact (Keep.refl _ _).alloc _
  have bw1 := Blk.new w 34 #[.int .i64 k0, .int .i64 tr, .int .i64 tt, .int .i64 un, .slice A1 n1 c1, .slice A2 n2 c2]
  rw [hw1] at bw1
  have HB1 := Lib.hid bw1
  have HK := Lib.hid kw1
  clear kw1 bw1
  have m0 : w1.cell? ⟨w.heap.size, 0, none⟩ = some (.int .i64 k0) := HB1.out.cell 0
  have m1 : w1.cell? ⟨w.heap.size, 1, none⟩ = some (.int .i64 tr) := HB1.out.cell 1
  have m2 : w1.cell? ⟨w.heap.size, 2, none⟩ = some (.int .i64 tt) := HB1.out.cell 2
  have m3 : w1.cell? ⟨w.heap.size, 3, none⟩ = some (.int .i64 un) := HB1.out.cell 3
  have m4 : w1.cell? ⟨w.heap.size, 4, none⟩ = some (.slice A1 n1 c1) := HB1.out.cell 4
  have m5 : w1.cell? ⟨w.heap.size, 5, none⟩ = some (.slice A2 n2 c2) := HB1.out.cell 5
  go_enter Tryz.func22, Tryz.ntmps22
  go_wp2_with fail
  refine (HTr.out _).mono ?_
  rintro en w2 ⟨rfl, hk2⟩
  have HK2 := Lib.hid (HK.out.trans hk2)
  have HB2 := Lib.hid (HB1.out.keep hk2 (fun h => h))
  clear hk2 HTr m0 m1 m2 m3 m4 m5
  have m0 : w2.cell? ⟨w.heap.size, 0, none⟩ = some (.int .i64 k0) := HB2.out.cell 0
  have m1 : w2.cell? ⟨w.heap.size, 1, none⟩ = some (.int .i64 tr) := HB2.out.cell 1
  have m2 : w2.cell? ⟨w.heap.size, 2, none⟩ = some (.int .i64 tt) := HB2.out.cell 2
  have m3 : w2.cell? ⟨w.heap.size, 3, none⟩ = some (.int .i64 un) := HB2.out.cell 3
  have m4 : w2.cell? ⟨w.heap.size, 4, none⟩ = some (.slice A1 n1 c1) := HB2.out.cell 4
  have m5 : w2.cell? ⟨w.heap.size, 5, none⟩ = some (.slice A2 n2 c2) := HB2.out.cell 5
  go_wp2_with fail
  refine (HTm.out _).mono ?_
  rintro en w4 ⟨rfl, hk4⟩
  have HK4 := Lib.hid (HK2.out.trans hk4)
  have HB4 := Lib.hid (HB2.out.keep hk4 (fun h => h))
  clear hk4 HTm m0 m1 m2 m3 m4 m5
  have m5 : w4.cell? ⟨w.heap.size, 5, none⟩ = some (.slice A2 n2 c2) := HB4.out.cell 5
  have HS2 : Hid (∀ W', Keep Never w4 W' → Keep Never w4 W' ∧ W'.cell? ⟨w.heap.size, 5, none⟩ = some (.slice A2 n2 c2)) := Lib.hid (fun W' h => ⟨h, keepT h m5⟩)
  go_wp2_with fail
  clear m5
  go_region_held3 (fun W' => Keep Never w4 W' ∧ W'.cell? ⟨w.heap.size, 5, none⟩ = some (.slice A2 n2 c2))
    (first | assumption | exact HS2.out _ ((Keep.refl Never w4).drew) | exact HS2.out _ (Keep.trans (And.left (by assumption)) hk3) | exact HS2.out _ (Keep.trans ((Keep.refl Never w4).drew) hk3))
    (first
      | (go_at_call 50; refine (HNo.out _ (HK4.out.trans (by first | exact And.left (by assumption) | exact (Keep.refl Never w4).drew | exact Keep.refl Never w4))).mono ?_; rintro e w3 ⟨mh, A6, n6, c6, rfl, hn6, hs6, hk3, hnf, hml⟩; have HSa := Lib.hid hs6; have HMl := Lib.hid hml; have HM6 := Lib.hid hn6; have HNf := Lib.hid hnf; have HSh := Lib.hid (HLh.out.keep (HK4.out.trans (by first | exact Keep.trans (And.left (by assumption)) hk3 | exact Keep.trans ((Keep.refl Never w4).drew) hk3 | exact hk3))))
      | (go_at_call 49; refine (same15_any mh h A6 A2 n6 n2 c6 c2 _ _ _ HSa.out.rd HSh.out.rd (by have a1 := HM6.out; have a2 := HMl.out; simp only [Hid] at a1; omega) (by omega)).mono ?_; rintro e w8 ⟨rfl, hk3⟩))
  all_goals
    rename_i hS
    have HK5 := Lib.hid (HK4.out.trans hS.1)
    have HB5 := Lib.hid (HB4.out.keep hS.1 (fun h => h))
    rename World => w5
    have hnb : decide (mh = h) = normB h := by
      have e := normM_eq HNf.out
      by_cases g : mh = h
      · rw [decide_eq_true g, normB_iff.2 (norm_self.1 (e.symm.trans g))]
      · rw [decide_eq_false g]
        symm
        rw [← Bool.not_eq_true]
        intro h2
        exact g (e.trans (norm_self.2 (normB_iff.1 h2)))
    rw [hnb]
    clear hnb hS HS2 HSa HSh HNf HM6 HMl HNo
    have m0 : w5.cell? ⟨w.heap.size, 0, none⟩ = some (.int .i64 k0) := HB5.out.cell 0
    have m1 : w5.cell? ⟨w.heap.size, 1, none⟩ = some (.int .i64 tr) := HB5.out.cell 1
    have m2 : w5.cell? ⟨w.heap.size, 2, none⟩ = some (.int .i64 tt) := HB5.out.cell 2
    have m3 : w5.cell? ⟨w.heap.size, 3, none⟩ = some (.int .i64 un) := HB5.out.cell 3
    have m4 : w5.cell? ⟨w.heap.size, 4, none⟩ = some (.slice A1 n1 c1) := HB5.out.cell 4
    have m5 : w5.cell? ⟨w.heap.size, 5, none⟩ = some (.slice A2 n2 c2) := HB5.out.cell 5
    by_cases g0 : k0 < 1
    · have t0 : decide (k0 < 1) = true := decide_eq_true (by omega)
      have HF : Hid (mayN (k0, tr, tt, un, l, h) = false) := Lib.hid (mayN_head (fun hm => by have a1 := hm.kind; omega))
      clear g0
      go_wp2_with fail
      go_ret
      exact ⟨by rw [HF.out]; rfl, HK5.out⟩
    have t0 : decide (k0 < 1) = false := decide_eq_false (by omega)
    by_cases g1 : k0 > 3
    · have t1 : decide (k0 > 3) = true := decide_eq_true (by omega)
      have HF : Hid (mayN (k0, tr, tt, un, l, h) = false) := Lib.hid (mayN_head (fun hm => by have a1 := hm.kind; omega))
      clear g0 g1
      go_wp2_with fail
      go_ret
      exact ⟨by rw [HF.out]; rfl, HK5.out⟩
    have t1 : decide (k0 > 3) = false := decide_eq_false (by omega)
    obtain ⟨b2, hb2⟩ : ∃ b, runB tr = b := ⟨_, rfl⟩
    rw [hb2]
    have HBl2 := Lib.hid hb2
    clear hb2
    cases b2 with
    | false =>
      have HF : Hid (mayN (k0, tr, tt, un, l, h) = false) := Lib.hid (mayN_head (fun hm => Bool.false_ne_true (HBl2.out.symm.trans hm.train)))
      go_wp2_with fail
      go_ret
      exact ⟨by rw [HF.out]; rfl, HK5.out⟩
    | true =>
      obtain ⟨b3, hb3⟩ : ∃ b, clockB tt = b := ⟨_, rfl⟩
      rw [hb3]
      have HBl3 := Lib.hid hb3
      clear hb3
      cases b3 with
      | false =>
        have HF : Hid (mayN (k0, tr, tt, un, l, h) = false) := Lib.hid (mayN_head (fun hm => Bool.false_ne_true (HBl3.out.symm.trans hm.time)))
        go_wp2_with fail
        go_ret
        exact ⟨by rw [HF.out]; rfl, HK5.out⟩
      | true =>
        obtain ⟨b4, hb4⟩ : ∃ b, normB h = b := ⟨_, rfl⟩
        rw [hb4]
        have HBl4 := Lib.hid hb4
        clear hb4
        cases b4 with
        | false =>
          have HF : Hid (mayN (k0, tr, tt, un, l, h) = false) := Lib.hid (mayN_head (fun hm => Bool.false_ne_true (HBl4.out.symm.trans hm.norm)))
          go_wp2_with fail
          go_ret
          exact ⟨by rw [HF.out]; rfl, HK5.out⟩
        | true =>
          by_cases g5 : un < 0
          · have t5 : decide (un < 0) = true := decide_eq_true (by omega)
            have HF : Hid (mayN (k0, tr, tt, un, l, h) = false) := Lib.hid (mayN_head (fun hm => by have a1 := hm.till; omega))
            clear g0 g1 g5
            go_wp2_with fail
            go_ret
            exact ⟨by rw [HF.out]; rfl, HK5.out⟩
          have t5 : decide (un < 0) = false := decide_eq_false (by omega)
          by_cases g6 : un > 1099511627776
          · have t6 : decide (un > 1099511627776) = true := decide_eq_true (by omega)
            have HF : Hid (mayN (k0, tr, tt, un, l, h) = false) := Lib.hid (mayN_head (fun hm => by have a1 := hm.till; omega))
            clear g0 g1 g5 g6
            go_wp2_with fail
            go_ret
            exact ⟨by rw [HF.out]; rfl, HK5.out⟩
          have t6 : decide (un > 1099511627776) = false := decide_eq_false (by omega)
          by_cases g7 : 24 < n1
          · have t7 : decide ((n1 : Int) > 24) = true := decide_eq_true (by omega)
            have HF : Hid (mayN (k0, tr, tt, un, l, h) = false) := Lib.hid (mayN_head (fun hm => by have a1 := hm.few; have a2 := HN1.out; omega))
            clear g0 g1 g5 g6 g7
            go_wp2_with fail
            go_ret
            exact ⟨by rw [HF.out]; rfl, HK5.out⟩
          have t7 : decide ((n1 : Int) > 24) = false := decide_eq_false (by omega)
          by_cases g8 : 16 < n2
          · have t8 : decide ((n2 : Int) > 16) = true := decide_eq_true (by omega)
            have HF : Hid (mayN (k0, tr, tt, un, l, h) = false) := Lib.hid (mayN_head (fun hm => by have a1 := hm.here; have a2 := HN2.out; omega))
            clear g0 g1 g5 g6 g7 g8
            go_wp2_with fail
            go_ret
            exact ⟨by rw [HF.out]; rfl, HK5.out⟩
          have t8 : decide ((n2 : Int) > 16) = false := decide_eq_false (by omega)
          have HHd : Hid (HeadN k0 tr tt un l h) := Lib.hid ⟨by omega, HBl2.out, HBl3.out, HBl4.out, by omega, by have := HN1.out; omega, by have := HN2.out; omega⟩
          have Hkd : Hid (k0 = 1 ∨ k0 = 2 ∨ k0 = 3) := Lib.hid (by omega)
          clear g0 g1 g5 g6 g7 g8
          obtain ⟨y, hy⟩ : ∃ y, listsN (k0, tr, tt, un, l, h) = y := ⟨_, rfl⟩
          have HY := Lib.hid hy
          clear hy
          go_upto_region 6 with (fail)
          go_cut [92] (fun s wx => s = .bool (!y) ∧ w5 = wx)
          case first =>
            rcases Hkd.out with p0 | p0 | p0
            · by_cases p1 : 0 < n1
              · have yb : (k0 != 2) = true := by simp; omega
                have yd : (k0 != 3) = true := by simp; omega
                have ye : (k0 == 1) = true := by simp; omega
                have ya : decide (0 < n1) = true := decide_eq_true (by omega)
                have HYv : Hid (y = false) := Lib.hid (by rw [← HY.out, ← Bool.not_eq_true, listsN_iff]; intro hL; have a1 := hL.tell; have a2 := hL.took; have a3 := hL.ask; have a4 := HN1.out; have a5 := HN2.out; omega)
                clear Hkd HHd
                (try clear p0)
                (try clear p1)
                (try clear p2)
                (try clear p3)
                go_wp2_with fail
                go_meet
                exact ⟨by rw [HYv.out]; rfl, rfl⟩
              · by_cases p2 : 0 < n2
                · have yb : (k0 != 2) = true := by simp; omega
                  have yd : (k0 != 3) = true := by simp; omega
                  have ye : (k0 == 1) = true := by simp; omega
                  have ya : decide (0 < n1) = false := decide_eq_false (by omega)
                  have yc : decide (0 < n2) = true := decide_eq_true (by omega)
                  have HYv : Hid (y = false) := Lib.hid (by rw [← HY.out, ← Bool.not_eq_true, listsN_iff]; intro hL; have a1 := hL.tell; have a2 := hL.took; have a3 := hL.ask; have a4 := HN1.out; have a5 := HN2.out; omega)
                  clear Hkd HHd
                  (try clear p0)
                  (try clear p1)
                  (try clear p2)
                  (try clear p3)
                  go_wp2_with fail
                  go_meet
                  exact ⟨by rw [HYv.out]; rfl, rfl⟩
                · by_cases p3 : un = 0
                  · have yb : (k0 != 2) = true := by simp; omega
                    have yd : (k0 != 3) = true := by simp; omega
                    have ye : (k0 == 1) = true := by simp; omega
                    have ya : decide (0 < n1) = false := decide_eq_false (by omega)
                    have yc : decide (0 < n2) = false := decide_eq_false (by omega)
                    have yf : (un != 0) = false := by simp; omega
                    have HYv : Hid (y = true) := Lib.hid (by rw [← HY.out, listsN_iff]; have a4 := HN1.out; have a5 := HN2.out; exact ⟨by omega, by omega, by omega⟩)
                    clear Hkd HHd
                    (try clear p0)
                    (try clear p1)
                    (try clear p2)
                    (try clear p3)
                    go_wp2_with fail
                    go_meet
                    exact ⟨by rw [HYv.out]; rfl, rfl⟩
                  · have yb : (k0 != 2) = true := by simp; omega
                    have yd : (k0 != 3) = true := by simp; omega
                    have ye : (k0 == 1) = true := by simp; omega
                    have ya : decide (0 < n1) = false := decide_eq_false (by omega)
                    have yc : decide (0 < n2) = false := decide_eq_false (by omega)
                    have yf : (un != 0) = true := by simp; omega
                    have HYv : Hid (y = false) := Lib.hid (by rw [← HY.out, ← Bool.not_eq_true, listsN_iff]; intro hL; have a1 := hL.tell; have a2 := hL.took; have a3 := hL.ask; have a4 := HN1.out; have a5 := HN2.out; omega)
                    clear Hkd HHd
                    (try clear p0)
                    (try clear p1)
                    (try clear p2)
                    (try clear p3)
                    go_wp2_with fail
                    go_meet
                    exact ⟨by rw [HYv.out]; rfl, rfl⟩
            · by_cases p1 : 0 < n1
              · by_cases p2 : 0 < n2
                · have yb : (k0 != 2) = false := by simp; omega
                  have yd : (k0 != 3) = true := by simp; omega
                  have ye : (k0 == 1) = false := by simp; omega
                  have ya : decide (0 < n1) = true := decide_eq_true (by omega)
                  have yc : decide (0 < n2) = true := decide_eq_true (by omega)
                  have HYv : Hid (y = false) := Lib.hid (by rw [← HY.out, ← Bool.not_eq_true, listsN_iff]; intro hL; have a1 := hL.tell; have a2 := hL.took; have a3 := hL.ask; have a4 := HN1.out; have a5 := HN2.out; omega)
                  clear Hkd HHd
                  (try clear p0)
                  (try clear p1)
                  (try clear p2)
                  (try clear p3)
                  go_wp2_with fail
                  go_meet
                  exact ⟨by rw [HYv.out]; rfl, rfl⟩
                · have yb : (k0 != 2) = false := by simp; omega
                  have yd : (k0 != 3) = true := by simp; omega
                  have ye : (k0 == 1) = false := by simp; omega
                  have ya : decide (0 < n1) = true := decide_eq_true (by omega)
                  have yc : decide (0 < n2) = false := decide_eq_false (by omega)
                  have HYv : Hid (y = true) := Lib.hid (by rw [← HY.out, listsN_iff]; have a4 := HN1.out; have a5 := HN2.out; exact ⟨by omega, by omega, by omega⟩)
                  clear Hkd HHd
                  (try clear p0)
                  (try clear p1)
                  (try clear p2)
                  (try clear p3)
                  go_wp2_with fail
                  go_meet
                  exact ⟨by rw [HYv.out]; rfl, rfl⟩
              · by_cases p2 : 0 < n2
                · have yb : (k0 != 2) = false := by simp; omega
                  have yd : (k0 != 3) = true := by simp; omega
                  have ye : (k0 == 1) = false := by simp; omega
                  have ya : decide (0 < n1) = false := decide_eq_false (by omega)
                  have yc : decide (0 < n2) = true := decide_eq_true (by omega)
                  have HYv : Hid (y = false) := Lib.hid (by rw [← HY.out, ← Bool.not_eq_true, listsN_iff]; intro hL; have a1 := hL.tell; have a2 := hL.took; have a3 := hL.ask; have a4 := HN1.out; have a5 := HN2.out; omega)
                  clear Hkd HHd
                  (try clear p0)
                  (try clear p1)
                  (try clear p2)
                  (try clear p3)
                  go_wp2_with fail
                  go_meet
                  exact ⟨by rw [HYv.out]; rfl, rfl⟩
                · have yb : (k0 != 2) = false := by simp; omega
                  have yd : (k0 != 3) = true := by simp; omega
                  have ye : (k0 == 1) = false := by simp; omega
                  have ya : decide (0 < n1) = false := decide_eq_false (by omega)
                  have yc : decide (0 < n2) = false := decide_eq_false (by omega)
                  have HYv : Hid (y = true) := Lib.hid (by rw [← HY.out, listsN_iff]; have a4 := HN1.out; have a5 := HN2.out; exact ⟨by omega, by omega, by omega⟩)
                  clear Hkd HHd
                  (try clear p0)
                  (try clear p1)
                  (try clear p2)
                  (try clear p3)
                  go_wp2_with fail
                  go_meet
                  exact ⟨by rw [HYv.out]; rfl, rfl⟩
            · by_cases p1 : 0 < n1
              · have yb : (k0 != 2) = true := by simp; omega
                have yd : (k0 != 3) = false := by simp; omega
                have ye : (k0 == 1) = false := by simp; omega
                have ya : decide (0 < n1) = true := decide_eq_true (by omega)
                have HYv : Hid (y = false) := Lib.hid (by rw [← HY.out, ← Bool.not_eq_true, listsN_iff]; intro hL; have a1 := hL.tell; have a2 := hL.took; have a3 := hL.ask; have a4 := HN1.out; have a5 := HN2.out; omega)
                clear Hkd HHd
                (try clear p0)
                (try clear p1)
                (try clear p2)
                (try clear p3)
                go_wp2_with fail
                go_meet
                exact ⟨by rw [HYv.out]; rfl, rfl⟩
              · by_cases p2 : 0 < n2
                · have yb : (k0 != 2) = true := by simp; omega
                  have yd : (k0 != 3) = false := by simp; omega
                  have ye : (k0 == 1) = false := by simp; omega
                  have ya : decide (0 < n1) = false := decide_eq_false (by omega)
                  have yc : decide (0 < n2) = true := decide_eq_true (by omega)
                  have HYv : Hid (y = true) := Lib.hid (by rw [← HY.out, listsN_iff]; have a4 := HN1.out; have a5 := HN2.out; exact ⟨by omega, by omega, by omega⟩)
                  clear Hkd HHd
                  (try clear p0)
                  (try clear p1)
                  (try clear p2)
                  (try clear p3)
                  go_wp2_with fail
                  go_meet
                  exact ⟨by rw [HYv.out]; rfl, rfl⟩
                · have yb : (k0 != 2) = true := by simp; omega
                  have yd : (k0 != 3) = false := by simp; omega
                  have ye : (k0 == 1) = false := by simp; omega
                  have ya : decide (0 < n1) = false := decide_eq_false (by omega)
                  have yc : decide (0 < n2) = false := decide_eq_false (by omega)
                  have HYv : Hid (y = true) := Lib.hid (by rw [← HY.out, listsN_iff]; have a4 := HN1.out; have a5 := HN2.out; exact ⟨by omega, by omega, by omega⟩)
                  clear Hkd HHd
                  (try clear p0)
                  (try clear p1)
                  (try clear p2)
                  (try clear p3)
                  go_wp2_with fail
                  go_meet
                  exact ⟨by rw [HYv.out]; rfl, rfl⟩
          case rest =>
          obtain ⟨rfl, rfl⟩ := hcut
          cases y with
          | false =>
            have HF : Hid (mayN (k0, tr, tt, un, l, h) = false) := Lib.hid (mayN_lists (fun hm => Bool.false_ne_true (HY.out.symm.trans (listsN_iff.2 hm))))
            go_wp2_with fail
            go_ret
            exact ⟨by rw [HF.out]; rfl, HK5.out⟩
          | true =>
            have HM : Hid (mayN (k0, tr, tt, un, l, h) = (l.all (lokB tr) && h.all fun s => decide (s.1 ≤ 39))) := Lib.hid (mayN_left HHd.out (listsN_iff.1 HY.out))
            clear HHd HY Hkd m0 m1 m2 m3 m4 m5
            simp only [Bool.not_true]
            go_wp2_with fail
            go_loopw [6] (fun i wr => ∃ k : Nat, k ≤ n1 ∧ i = .int .i64 k ∧ Hid (Keep Never w wr ∧ Blk wr w.heap.size 34 #[.int .i64 k0, .int .i64 tr, .int .i64 tt, .int .i64 un, .slice A1 n1 c1, .slice A2 n2 c2] ∧ (l.take k).all (lokB tr) = true)) (fun i _ => n1 - (intOf i).toNat)
            case atStart => exact ⟨0, by omega, rfl, Lib.hid ⟨HK5.out, HB5.out, rfl⟩⟩
            case round =>
              obtain ⟨k, hk, rfl, HH⟩ := hrel
              have HKr := Lib.hid HH.out.1
              have HBr := Lib.hid HH.out.2.1
              have HAr := Lib.hid HH.out.2.2
              clear HH
              by_cases h0 : k < n1
              · have hki : (k : Int) < (n1 : Int) := by omega
                have m0 : wr.cell? ⟨w.heap.size, 0, none⟩ = some (.int .i64 k0) := HBr.out.cell 0
                have m1 : wr.cell? ⟨w.heap.size, 1, none⟩ = some (.int .i64 tr) := HBr.out.cell 1
                have m2 : wr.cell? ⟨w.heap.size, 2, none⟩ = some (.int .i64 tt) := HBr.out.cell 2
                have m3 : wr.cell? ⟨w.heap.size, 3, none⟩ = some (.int .i64 un) := HBr.out.cell 3
                have m4 : wr.cell? ⟨w.heap.size, 4, none⟩ = some (.slice A1 n1 c1) := HBr.out.cell 4
                have m5 : wr.cell? ⟨w.heap.size, 5, none⟩ = some (.slice A2 n2 c2) := HBr.out.cell 5
                obtain ⟨ad, s, hA, _, hs, d0, d1, d2⟩ := (HLl.out.keep HKr.out).rd.sp h0
                subst hA
                obtain ⟨s1, s2, s3⟩ := s
                simp only at d0 d1 d2
                have Hs := Lib.hid hs
                clear hs
                have z0 : (wr.alloc (.cells #[.int .i64 0, .int .i64 0, .int .i64 0] 57)).cell? ⟨wr.heap.size, 0, none⟩ = some (.int .i64 0) := (Blk.new wr 57 #[.int .i64 0, .int .i64 0, .int .i64 0]).cell 0
                have zf0 := (Blk.new wr 57 #[.int .i64 0, .int .i64 0, .int .i64 0]).frozen 0
                have z1 : (wr.alloc (.cells #[.int .i64 0, .int .i64 0, .int .i64 0] 57)).cell? ⟨wr.heap.size, 1, none⟩ = some (.int .i64 0) := (Blk.new wr 57 #[.int .i64 0, .int .i64 0, .int .i64 0]).cell 1
                have zf1 := (Blk.new wr 57 #[.int .i64 0, .int .i64 0, .int .i64 0]).frozen 1
                have z2 : (wr.alloc (.cells #[.int .i64 0, .int .i64 0, .int .i64 0] 57)).cell? ⟨wr.heap.size, 2, none⟩ = some (.int .i64 0) := (Blk.new wr 57 #[.int .i64 0, .int .i64 0, .int .i64 0]).cell 2
                have zf2 := (Blk.new wr 57 #[.int .i64 0, .int .i64 0, .int .i64 0]).frozen 2
                go_upto_region 12 with (fail)
                clear z0 z1 z2 zf0 zf1 zf2 d0 d1 d2
                obtain ⟨wb, hwb⟩ : ∃ V : World, wr.alloc (.cells #[.int .i64 s1, .int .i64 s2, .int .i64 s3] 57) = V := ⟨_, rfl⟩
                have kb : Keep Never wr wb := (by rw [← hwb]; exact (Keep.refl _ _).alloc _)
                have bb := Blk.new wr 57 #[.int .i64 s1, .int .i64 s2, .int .i64 s3]
                rw [hwb] at bb ⊢
                obtain ⟨bl, hbl⟩ : ∃ q, wr.heap.size = q := ⟨_, rfl⟩
                rw [hbl] at bb ⊢
                have HKb := Lib.hid (HKr.out.trans kb)
                have HBb := Lib.hid (HBr.out.keep kb (fun h => h))
                clear kb hwb hbl m0 m1 m2 m3 m4 m5
                have x0 : wb.cell? ⟨bl, 0, none⟩ = some (.int .i64 s1) := bb.cell 0
                have x1 : wb.cell? ⟨bl, 1, none⟩ = some (.int .i64 s2) := bb.cell 1
                have x2 : wb.cell? ⟨bl, 2, none⟩ = some (.int .i64 s3) := bb.cell 2
                have m1 : wb.cell? ⟨w.heap.size, 1, none⟩ = some (.int .i64 tr) := HBb.out.cell 1
                clear bb
                by_cases e0 : s1 < 1
                · have t0 : decide (s1 < 1) = true := decide_eq_true e0
                  have HF : Hid (mayN (k0, tr, tt, un, l, h) = false) := Lib.hid (mayN_no (fun hm => by have a1 := hm.lok _ (List.mem_of_getElem? Hs.out); simp only at a1; omega))
                  clear e0
                  go_wp2_with fail
                  go_ret
                  exact ⟨by rw [HF.out]; rfl, HKb.out⟩
                have t0 : decide (s1 < 1) = false := decide_eq_false e0
                by_cases e1 : s1 > 65535
                · have t1 : decide (s1 > 65535) = true := decide_eq_true e1
                  have HF : Hid (mayN (k0, tr, tt, un, l, h) = false) := Lib.hid (mayN_no (fun hm => by have a1 := hm.lok _ (List.mem_of_getElem? Hs.out); simp only at a1; omega))
                  clear e0 e1
                  go_wp2_with fail
                  go_ret
                  exact ⟨by rw [HF.out]; rfl, HKb.out⟩
                have t1 : decide (s1 > 65535) = false := decide_eq_false e1
                by_cases e2 : s2 ≠ tr
                · have t2 : (s2 != tr) = true := by simpa using e2
                  have HF : Hid (mayN (k0, tr, tt, un, l, h) = false) := Lib.hid (mayN_no (fun hm => by have a1 := hm.lok _ (List.mem_of_getElem? Hs.out); simp only at a1; omega))
                  clear e0 e1 e2
                  go_wp2_with fail
                  go_ret
                  exact ⟨by rw [HF.out]; rfl, HKb.out⟩
                have t2 : (s2 != tr) = false := by simpa using e2
                by_cases e3 : s3 < 1
                · have t3 : decide (s3 < 1) = true := decide_eq_true e3
                  have HF : Hid (mayN (k0, tr, tt, un, l, h) = false) := Lib.hid (mayN_no (fun hm => by have a1 := hm.lok _ (List.mem_of_getElem? Hs.out); simp only at a1; omega))
                  clear e0 e1 e2 e3
                  go_wp2_with fail
                  go_ret
                  exact ⟨by rw [HF.out]; rfl, HKb.out⟩
                have t3 : decide (s3 < 1) = false := decide_eq_false e3
                by_cases e4 : s3 > 1099511627775
                · have t4 : decide (s3 > 1099511627775) = true := decide_eq_true e4
                  have HF : Hid (mayN (k0, tr, tt, un, l, h) = false) := Lib.hid (mayN_no (fun hm => by have a1 := hm.lok _ (List.mem_of_getElem? Hs.out); simp only at a1; omega))
                  clear e0 e1 e2 e3 e4
                  go_wp2_with fail
                  go_ret
                  exact ⟨by rw [HF.out]; rfl, HKb.out⟩
                have t4 : decide (s3 > 1099511627775) = false := decide_eq_false e4
                have HAn : Hid ((l.take (k + 1)).all (lokB tr) = true) := Lib.hid (by
                  rw [List.take_add_one, Hs.out, List.all_append, HAr.out]
                  simp only [Option.toList_some, List.all_cons, List.all_nil, Bool.and_true, Bool.true_and]
                  unfold lokB
                  simp only [Bool.and_eq_true, decide_eq_true_eq]
                  omega)
                clear e0 e1 e2 e3 e4
                go_wp2_with fail
                refine ⟨⟨k + 1, by omega, by go_num, Lib.hid ⟨HKb.out, HBb.out, HAn.out⟩⟩, ?_⟩
                simp [intOf]; try omega
              · obtain rfl : k = n1 := by omega
                have hki : ¬ (k : Int) < (k : Int) := by omega
                have HAl : Hid (l.all (lokB tr) = true) := Lib.hid (by have h1 := HAr.out; rwa [List.take_of_length_le (by have := HN1.out; omega)] at h1)
                have HM2 : Hid (mayN (k0, tr, tt, un, l, h) = h.all fun s => decide (s.1 ≤ 39)) := Lib.hid (by rw [HM.out, HAl.out, Bool.true_and])
                rename World => wq
                have m0 : wq.cell? ⟨w.heap.size, 0, none⟩ = some (.int .i64 k0) := HBr.out.cell 0
                have m1 : wq.cell? ⟨w.heap.size, 1, none⟩ = some (.int .i64 tr) := HBr.out.cell 1
                have m2 : wq.cell? ⟨w.heap.size, 2, none⟩ = some (.int .i64 tt) := HBr.out.cell 2
                have m3 : wq.cell? ⟨w.heap.size, 3, none⟩ = some (.int .i64 un) := HBr.out.cell 3
                have m4 : wq.cell? ⟨w.heap.size, 4, none⟩ = some (.slice A1 k c1) := HBr.out.cell 4
                have m5 : wq.cell? ⟨w.heap.size, 5, none⟩ = some (.slice A2 n2 c2) := HBr.out.cell 5
                go_wp2_with fail
                clear m0 m1 m2 m3 m4 m5
                go_loopw [8] (fun i wz => ∃ j : Nat, j ≤ n2 ∧ i = .int .i64 j ∧ Hid (Keep Never w wz ∧ Blk wz w.heap.size 34 #[.int .i64 k0, .int .i64 tr, .int .i64 tt, .int .i64 un, .slice A1 k c1, .slice A2 n2 c2] ∧ ((h.take j).all fun s => decide (s.1 ≤ 39)) = true)) (fun i _ => n2 - (intOf i).toNat)
                case atStart => exact ⟨0, by omega, rfl, Lib.hid ⟨HKr.out, HBr.out, rfl⟩⟩
                case round =>
                  obtain ⟨j, hj, rfl, HH⟩ := hrel
                  have HKz := Lib.hid HH.out.1
                  have HBz := Lib.hid HH.out.2.1
                  have HAz := Lib.hid HH.out.2.2
                  clear HH
                  rename World => wz
                  have m0 : wz.cell? ⟨w.heap.size, 0, none⟩ = some (.int .i64 k0) := HBz.out.cell 0
                  have m1 : wz.cell? ⟨w.heap.size, 1, none⟩ = some (.int .i64 tr) := HBz.out.cell 1
                  have m2 : wz.cell? ⟨w.heap.size, 2, none⟩ = some (.int .i64 tt) := HBz.out.cell 2
                  have m3 : wz.cell? ⟨w.heap.size, 3, none⟩ = some (.int .i64 un) := HBz.out.cell 3
                  have m4 : wz.cell? ⟨w.heap.size, 4, none⟩ = some (.slice A1 k c1) := HBz.out.cell 4
                  have m5 : wz.cell? ⟨w.heap.size, 5, none⟩ = some (.slice A2 n2 c2) := HBz.out.cell 5
                  by_cases h0 : j < n2
                  · have hji : (j : Int) < (n2 : Int) := by omega
                    obtain ⟨ad, s, hA, _, hs, d0, d1, d2⟩ := (HLh.out.keep HKz.out).rd.sp h0
                    subst hA
                    obtain ⟨s1, s2, s3⟩ := s
                    simp only at d0 d1 d2
                    have Hs := Lib.hid hs
                    clear hs
                    by_cases e0 : s1 > 39
                    · have t0 : decide (s1 > 39) = true := decide_eq_true e0
                      have HF : Hid (mayN (k0, tr, tt, un, l, h) = false) := Lib.hid (by
                        rw [HM2.out, List.all_eq_false]
                        exact ⟨_, List.mem_of_getElem? Hs.out, by simp only [decide_eq_true_eq]; omega⟩)
                      clear e0
                      go_wp2_with fail
                      go_ret
                      exact ⟨by rw [HF.out]; rfl, HKz.out⟩
                    have t0 : decide (s1 > 39) = false := decide_eq_false e0
                    have HAn : Hid (((h.take (j + 1)).all fun s => decide (s.1 ≤ 39)) = true) := Lib.hid (by
                      rw [List.take_add_one, Hs.out, List.all_append, HAz.out]
                      simp only [Option.toList_some, List.all_cons, List.all_nil, Bool.and_true, Bool.true_and, decide_eq_true_eq]
                      omega)
                    clear e0
                    go_wp2_with fail
                    refine ⟨⟨j + 1, by omega, by go_num, Lib.hid ⟨HKz.out, HBz.out, HAn.out⟩⟩, ?_⟩
                    simp [intOf]; try omega
                  · obtain rfl : j = n2 := by omega
                    have hji : ¬ (j : Int) < (j : Int) := by omega
                    have HF : Hid (mayN (k0, tr, tt, un, l, h) = true) := Lib.hid (by rw [HM2.out]; have h1 := HAz.out; rwa [List.take_of_length_le (by have := HN2.out; omega)] at h1)
                    go_wp2_with fail
                    go_ret
                    exact ⟨by rw [HF.out]; rfl, HKz.out⟩


end Go.Proofs.YtpahfobijmmmmaaGreat
