/- Chapter 18 (grant): Add, Expire, Shorten, Stands. -/
import Derived.Test.YtlcbajdckgcopaaGrH
namespace Go.Proofs.Ytlcbajdckgcopaa
open Go.RowKit

set_option maxHeartbeats 1000000 in
set_option maxRecDepth 100000 in
theorem egrow_any (m : Nat) (hm : m ≤ 1000000) (w : World) :
    Calls Try.prog 131 #[.slice none 0 0, .int .i64 m] w fun e w' => ∃ A c, e = .returned (.slice A 0 c) ∧ Own w' w.heap.size 77 4 A 0 c [] ∧ Keep Never w w' := by
  by_cases h0 : m = 0
  · subst h0
    go_enter Try.func131, Try.ntmps131
    go_wp2
    go_ret
    exact ⟨none, 0, rfl, Own.nil _ _ _ _, Keep.refl _ _⟩
  · have hm0 : (0 : Int) < (m : Int) := by omega
    obtain ⟨G, w2, hrun, ho, hk, hmG⟩ := run_grow0 (P := Try.prog) elemE Try.underlying3 m (by omega) (by omega) (by omega) w
    have HO := Lib.hid ho
    have HK := Lib.hid hk
    have hG : Hid (G ≤ maxLen) := by
      rcases ho.form with ⟨h, _⟩ | ⟨_, _, _, _, _, _, hc, _⟩
      · cases h
      · exact hc
    have hG' : G ≤ 9223372036854775807 := by have := hG.out; unfold maxLen at this; omega
    clear ho hk
    go_enter Try.func131, Try.ntmps131
    go_wp2_with (at_builtin; refine Lib.wpList_append_run _ rfl _ _ _ _ rfl _ _ rfl rfl _ _ (hrun _) ?_)
    all_goals go_ret
    all_goals exact ⟨_, _, rfl, HO.out, HK.out⟩


set_option maxHeartbeats 2000000 in
set_option maxRecDepth 100000 in
theorem econcat_any (g t : Nat) (A1 A2 : Option Addr) (n1 c1 n2 c2 B : Nat) (xs ys : List Value) (w : World) (hb : Blk w g t #[.slice A1 n1 c1, .slice A2 n2 c2]) (h1 : Rd w B 4 A1 n1 xs) (h2 : Rd w B 4 A2 n2 ys) (hx : ∀ u ∈ xs, u.oneCell' = true) (hy : ∀ u ∈ ys, u.oneCell' = true) (hn1 : n1 ≤ 400000) (hn2 : n2 ≤ 400000) (_hB : B ≤ w.heap.size) :
    Calls Try.prog 99 #[.slice (some ⟨g, 0, none⟩) 2 2] w fun e w' => ∃ A c, e = .returned (.slice A (n1 + n2) c) ∧ Own w' w.heap.size 77 4 A (n1 + n2) c (xs ++ ys) ∧ Keep Never w w' := by
  have HB := Lib.hid hb
  have HX := Lib.hid hx
  have HY := Lib.hid hy
  have H1 := Lib.hid h1
  have H2 := Lib.hid h2
  clear hb h1 h2 hx hy
  have f0 := HB.out.cell 0
  have f1 := HB.out.cell 1
  go_enter Try.func99, Try.ntmps99
  go_wp2_with fail
  go_loop [3, 11] (fun s i => (i = .int .i64 0 ∧ s = .int .i64 0) ∨ (i = .int .i64 1 ∧ s = .int .i64 n1) ∨ (i = .int .i64 2 ∧ s = .int .i64 (n1 + n2 : Nat))) (fun _ i => 2 - (intOf i).toNat)
  case atStart => exact .inl ⟨rfl, rfl⟩
  case round =>
    rcases hrel with ⟨rfl, rfl⟩ | ⟨rfl, rfl⟩ | ⟨rfl, rfl⟩
    · go_wp2_with fail
      go_round
      case rel => exact .inr (.inl ⟨rfl, rfl⟩)
      case measure => simp [intOf]
    · go_wp2_with fail
      go_round
      case rel => exact .inr (.inr ⟨rfl, by simp⟩)
      case measure => simp [intOf]
    · go_wp2_with fail
      refine (egrow_any (n1 + n2) (by omega) w).mono ?_
      rintro e w1 ⟨A3, c3, rfl, ho, hk⟩
      have HB1 := Lib.hid (HB.out.keep hk (fun h => h))
      have HO := Lib.hid ho
      have HK := Lib.hid hk
      clear ho hk f0 f1
      go_wp2_with fail
      go_loopw [6, 27] (fun v i wr => (i = .int .i64 0 ∧ v = .slice A3 0 c3 ∧ wr = w1) ∨ (∃ A4 c4, i = .int .i64 1 ∧ v = .slice A4 n1 c4 ∧ Hid (Own wr w.heap.size 77 4 A4 n1 c4 xs ∧ Keep Never w wr ∧ Blk wr g t #[.slice A1 n1 c1, .slice A2 n2 c2])) ∨ (∃ A4 c4, i = .int .i64 2 ∧ v = .slice A4 (n1 + n2) c4 ∧ Hid (Own wr w.heap.size 77 4 A4 (n1 + n2) c4 (xs ++ ys) ∧ Keep Never w wr)))
        (fun _ i _ => 2 - (intOf i).toNat)
      case atStart => exact .inl ⟨rfl, rfl, rfl⟩
      case round =>
        rcases hrel with ⟨rfl, rfl, rfl⟩ | ⟨A4, c4, rfl, rfl, HH⟩ | ⟨A4, c4, rfl, rfl, HH⟩
        · have f0 := HB1.out.cell 0
          have hr1 := Lib.hid (H1.out.keep HK.out (fun _ h => h.elim))
          have hsz : Hid (w.heap.size ≤ wr.heap.size) := Lib.hid HK.out.size
          go_wp2_with (at_builtin; refine wpList_app _ rfl (.tmp 31) (.tmp 32) _ rfl elemE w.heap.size rfl HO.out B rfl hr1.out HX.out (by omega) (by unfold maxLen; omega) hsz.out ?_; intro A5 c5 w5 hown hk5 hrow)
          have HF : Hid (Own w5 w.heap.size 77 4 A5 n1 c5 xs ∧ Keep Never w w5 ∧ Blk w5 g t #[.slice A1 n1 c1, .slice A2 n2 c2]) := by
            have hg : ¬ InRow A3 g := fun e => by have := (HO.out.row e).1; have := HB.out.lt; omega
            exact ⟨by simpa using hown, HK.out.then_ hk5 (fun i hi h => by have := (HO.out.row h).1; omega), HB1.out.keep hk5 hg⟩
          clear hown hk5 hrow
          exact ⟨.inr (.inl ⟨A5, c5, rfl, rfl, HF⟩), by simp [intOf]⟩
        · have f1 := HH.out.2.2.cell 1
          have hr2 := Lib.hid (H2.out.keep HH.out.2.1 (fun _ h => h.elim))
          have hsz : Hid (w.heap.size ≤ wr.heap.size) := Lib.hid HH.out.2.1.size
          go_wp2_with (at_builtin; refine wpList_app _ rfl (.tmp 31) (.tmp 32) _ rfl elemE w.heap.size rfl HH.out.1 B rfl hr2.out HY.out (by omega) (by unfold maxLen; omega) hsz.out ?_; intro A5 c5 w5 hown hk5 hrow)
          have HF : Hid (Own w5 w.heap.size 77 4 A5 (n1 + n2) c5 (xs ++ ys) ∧ Keep Never w w5) :=
            ⟨by simpa using hown, HH.out.2.1.then_ hk5 (fun i hi h => by have := (HH.out.1.row h).1; omega)⟩
          clear hown hk5 hrow
          exact ⟨.inr (.inr ⟨A5, c5, rfl, rfl, HF⟩), by simp [intOf]⟩
        · go_wp2_with fail
          go_ret
          exact ⟨A4, c4, rfl, HH.out⟩


theorem SpRet.g {N : Nat} {w : World} {l : List Sp} {P : List Sp → Prop} {e : Ending} {w' : World} (h : SpRet w P e w') (hl : ∀ m, P m → m = l) : SpRetG N l w e w' := by
  obtain ⟨m, A, n, c, he, _, ho, hk, hp⟩ := h
  obtain rfl := hl m hp
  exact ⟨A, n, c, he, SpG.own ho, hk⟩
theorem kept_both {a b m : List Sp} (h : KeptIs a b true m) : m = bothM a b := normal_one h.1 (bothM_n a b) fun e x => by rw [h.2, bothM_has]; cases hasL b e x <;> simp
theorem kept_minus {a b m : List Sp} (h : KeptIs a b false m) : m = minusM a b := normal_one h.1 (minusM_n a b) fun e x => by rw [h.2, minusM_has]; cases hasL b e x <;> simp

set_option maxHeartbeats 4000000 in
set_option maxRecDepth 100000 in
theorem exp1_any (now : Int) (e : Ent) (A : Option Addr) (n c pb N : Nat) (w : World) (h : SpG N w A n c e.2.2.1) (hp : w.cell? ⟨pb, 0, none⟩ = some (.int .i64 now)) :
    Calls Try.prog 90 #[.agg #[.int .i64 e.1, .int .i64 e.2.1, .slice A n c, .bool e.2.2.2], .pointer (some ⟨pb, 0, none⟩)] w (SpRetG N (expF now e) w) := by
  obtain ⟨e0, e1, x, e3⟩ := e
  have HS := Lib.hid h
  simp only at HS ⊢
  clear h
  obtain ⟨w1, hw1⟩ : ∃ W : World, w.alloc (.cells #[.int .i64 e0, .int .i64 e1, .slice A n c, .bool e3] 77) = W := ⟨_, rfl⟩
  have kw1 : Keep Never w w1 := by rw [← hw1]; exact (Keep.refl _ _).alloc _
  have bw1 := Blk.new w 77 #[.int .i64 e0, .int .i64 e1, .slice A n c, .bool e3]
  rw [hw1] at bw1
  have HB1 := Lib.hid bw1
  have HK := Lib.hid kw1
  have y0 : w1.cell? ⟨w.heap.size, 0, none⟩ = some (.int .i64 e0) := HB1.out.cell 0
  have y1 : w1.cell? ⟨w.heap.size, 1, none⟩ = some (.int .i64 e1) := HB1.out.cell 1
  have y2 : w1.cell? ⟨w.heap.size, 2, none⟩ = some (.slice A n c) := HB1.out.cell 2
  have y3 : w1.cell? ⟨w.heap.size, 3, none⟩ = some (.bool e3) := HB1.out.cell 3
  clear kw1 bw1
  have hp1 := keepT HK.out hp
  clear hp
  by_cases g : e1 ≤ now
  · have t1 : decide (e1 ≤ now) = true := by simpa using g
    have HF : Hid (expF now (e0, e1, x, e3) = []) := Lib.hid (by unfold expF; rw [if_pos g])
    clear g
    go_enter Try.func90, Try.ntmps90
    go_wp2_with fail
    go_ret
    exact ⟨none, 0, 0, rfl, by rw [HF.out]; exact SpG.nil _ _, HK.out⟩
  · have t1 : decide (e1 ≤ now) = false := by simpa using g
    have HF : Hid (expF now (e0, e1, x, e3) = x) := Lib.hid (by unfold expF; rw [if_neg g])
    clear g
    go_enter Try.func90, Try.ntmps90
    go_wp2_with fail
    go_ret
    exact ⟨A, n, c, rfl, by rw [HF.out]; exact HS.out.never HK.out, HK.out⟩

set_option maxHeartbeats 4000000 in
set_option maxRecDepth 100000 in
theorem sho1_any (t : Int) (y : List Sp) (B2 : Option Addr) (m2 d2 : Nat) (e : Ent) (A : Option Addr) (n c pb pc N : Nat) (w : World) (h : SpG N w A n c e.2.2.1) (hy : SpG N w B2 m2 d2 y) (hn : n ≤ 200000) (hm : m2 ≤ 200000) (hp : w.cell? ⟨pb, 0, none⟩ = some (.int .i64 t)) (hq : w.cell? ⟨pc, 0, none⟩ = some (.slice B2 m2 d2)) :
    Calls Try.prog 92 #[.agg #[.int .i64 e.1, .int .i64 e.2.1, .slice A n c, .bool e.2.2.2], .pointer (some ⟨pb, 0, none⟩), .pointer (some ⟨pc, 0, none⟩)] w (SpRetG N (shoF t y e) w) := by
  obtain ⟨e0, e1, x, e3⟩ := e
  have HS := Lib.hid h
  have HY := Lib.hid hy
  simp only at HS ⊢
  clear h hy
  obtain ⟨w1, hw1⟩ : ∃ W : World, w.alloc (.cells #[.int .i64 e0, .int .i64 e1, .slice A n c, .bool e3] 77) = W := ⟨_, rfl⟩
  have kw1 : Keep Never w w1 := by rw [← hw1]; exact (Keep.refl _ _).alloc _
  have bw1 := Blk.new w 77 #[.int .i64 e0, .int .i64 e1, .slice A n c, .bool e3]
  rw [hw1] at bw1
  have HB1 := Lib.hid bw1
  have HK := Lib.hid kw1
  have y0 : w1.cell? ⟨w.heap.size, 0, none⟩ = some (.int .i64 e0) := HB1.out.cell 0
  have y1 : w1.cell? ⟨w.heap.size, 1, none⟩ = some (.int .i64 e1) := HB1.out.cell 1
  have y2 : w1.cell? ⟨w.heap.size, 2, none⟩ = some (.slice A n c) := HB1.out.cell 2
  have y3 : w1.cell? ⟨w.heap.size, 3, none⟩ = some (.bool e3) := HB1.out.cell 3
  clear kw1 bw1
  have hp1 := keepT HK.out hp
  have hq1 := keepT HK.out hq
  clear hp hq
  cases e3 with
  | true =>
    have HF : Hid (shoF t y (e0, e1, x, true) = x) := Lib.hid (by unfold shoF; rw [if_pos (.inl rfl)])
    go_enter Try.func92, Try.ntmps92
    go_wp2_with fail
    go_ret
    exact ⟨A, n, c, rfl, by rw [HF.out]; exact HS.out.never HK.out, HK.out⟩
  | false =>
    by_cases g : t ≤ e0
    · have t1 : decide (e0 ≥ t) = true := by simpa using g
      have HF : Hid (shoF t y (e0, e1, x, false) = x) := Lib.hid (by unfold shoF; rw [if_pos (.inr g)])
      clear g
      go_enter Try.func92, Try.ntmps92
      go_wp2_with fail
      go_ret
      exact ⟨A, n, c, rfl, by rw [HF.out]; exact HS.out.never HK.out, HK.out⟩
    · have t1 : decide (e0 ≥ t) = false := by simpa using g
      have HF : Hid (shoF t y (e0, e1, x, false) = bothM x y) := Lib.hid (by unfold shoF; rw [if_neg (by simp; omega)])
      have HC := Lib.hid (both_any w1.heap.size A n c B2 m2 d2 x y w1 (HS.out.never HK.out).at_ (HY.out.never HK.out).at_ hn hm (Nat.le_refl _))
      clear g
      go_enter Try.func92, Try.ntmps92
      go_wp2_with fail
      refine HC.out.mono ?_
      intro e w2 hr
      obtain ⟨A3, n3, c3, rfl, hs3, hk3⟩ := hr.g (N := N) (l := bothM x y) (fun m h => kept_both h.1)
      have HR : Hid (SpRetG N (shoF t y (e0, e1, x, false)) w (.returned (.slice A3 n3 c3)) w2) := Lib.hid ⟨A3, n3, c3, rfl, by rw [HF.out]; exact hs3, HK.out.trans hk3⟩
      clear hr hs3 hk3 HC
      go_wp2_with fail
      go_ret
      exact HR.out

set_option maxHeartbeats 4000000 in
set_option maxRecDepth 100000 in
theorem sta1_any (y : List Sp) (B2 : Option Addr) (m2 d2 : Nat) (e : Ent) (A : Option Addr) (n c pc N : Nat) (w : World) (h : SpG N w A n c e.2.2.1) (hy : SpG N w B2 m2 d2 y) (hn : n ≤ 200000) (hm : m2 ≤ 200000) (hq : w.cell? ⟨pc, 0, none⟩ = some (.slice B2 m2 d2)) :
    Calls Try.prog 102 #[.agg #[.int .i64 e.1, .int .i64 e.2.1, .slice A n c, .bool e.2.2.2], .pointer (some ⟨pc, 0, none⟩)] w (SpRetG N (staF y e) w) := by
  obtain ⟨e0, e1, x, e3⟩ := e
  have HS := Lib.hid h
  have HY := Lib.hid hy
  simp only at HS ⊢
  clear h hy
  obtain ⟨w1, hw1⟩ : ∃ W : World, w.alloc (.cells #[.int .i64 e0, .int .i64 e1, .slice A n c, .bool e3] 77) = W := ⟨_, rfl⟩
  have kw1 : Keep Never w w1 := by rw [← hw1]; exact (Keep.refl _ _).alloc _
  have bw1 := Blk.new w 77 #[.int .i64 e0, .int .i64 e1, .slice A n c, .bool e3]
  rw [hw1] at bw1
  have HB1 := Lib.hid bw1
  have HK := Lib.hid kw1
  have y0 : w1.cell? ⟨w.heap.size, 0, none⟩ = some (.int .i64 e0) := HB1.out.cell 0
  have y1 : w1.cell? ⟨w.heap.size, 1, none⟩ = some (.int .i64 e1) := HB1.out.cell 1
  have y2 : w1.cell? ⟨w.heap.size, 2, none⟩ = some (.slice A n c) := HB1.out.cell 2
  have y3 : w1.cell? ⟨w.heap.size, 3, none⟩ = some (.bool e3) := HB1.out.cell 3
  clear kw1 bw1
  have hq1 := keepT HK.out hq
  clear hq
  have HC := Lib.hid (minus_any w1.heap.size A n c B2 m2 d2 x y w1 (HS.out.never HK.out).at_ (HY.out.never HK.out).at_ hn hm (Nat.le_refl _))
  go_enter Try.func102, Try.ntmps102
  go_wp2_with fail
  refine HC.out.mono ?_
  intro e w2 hr
  obtain ⟨A3, n3, c3, rfl, hs3, hk3⟩ := hr.g (N := N) (l := minusM x y) (fun m h => kept_minus h.1)
  have HR : Hid (SpRetG N (staF y (e0, e1, x, e3)) w (.returned (.slice A3 n3 c3)) w2) := Lib.hid ⟨A3, n3, c3, rfl, hs3, HK.out.trans hk3⟩
  clear hr hs3 hk3 HC
  go_wp2_with fail
  go_ret
  exact HR.out

/-- what is asked of a ledger's size -/
structure LdB (x : LA) (l : Ldg) : Prop where
  n : x.n ≤ 100000
  e : ∀ e ∈ l.1, e.2.2.1.length ≤ 200000
  h : x.n2 ≤ 200000
theorem LdB.small {x : LA} {l : Ldg} (h : LdB x l) : LdSmall x l := ⟨by have := h.n; omega, fun e he => by have := h.e e he; omega, by have := h.h; omega⟩

set_option maxHeartbeats 4000000 in
set_option maxRecDepth 100000 in
theorem gexp_any (x : LA) (l : Ldg) (N : Nat) (now : Int) (w : World) (h : LdG N w x l) (hs : LdB x l) (hN : N ≤ w.heap.size) :
    Calls Try.prog 35 #[.agg x.cs, .int .i64 now] w (LdRet2 N (expireM l now) w) := by
  have HG := Lib.hid h
  have HNw := Lib.hid hN
  have HKn := Lib.hid h.k
  have HSz := Lib.hid hs
  have HTu := Lib.hid (fun (W : World) (g : Nat) (lb : Array Value) (f : Ent → List Sp) (hk : Keep Never w W) (eg : ∀ args w, (callFunc g args).run Try.prog w = .ok (.enter g args) w) (hE : ExtOk g lb f N Never W l.1) => turned_any x l N g lb f W (h.never hk) hs.small (by have := hs.n; omega) (Nat.le_trans hN hk.size) eg hE)
  obtain ⟨A, n, c, A2, n2, c2, k⟩ := x
  obtain ⟨es, hr, kn⟩ := l
  simp only [LA.cs] at HG HKn HTu HSz ⊢
  obtain rfl := HKn.out
  clear h hs hN HKn
  obtain ⟨w1, hw1⟩ : ∃ W : World, w.alloc (.cells #[.slice A n c, .slice A2 n2 c2, .bool k] 53) = W := ⟨_, rfl⟩
  have zw1 : w1.heap.size = w.heap.size + 1 := by rw [← hw1]; simp
  have kw1 : Keep Never w w1 := by rw [← hw1]; exact (Keep.refl _ _).alloc _
  have bw1 := Blk.new w 53 #[.slice A n c, .slice A2 n2 c2, .bool k]
  rw [hw1] at bw1
  obtain ⟨w2, hw2⟩ : ∃ W : World, w1.alloc (.cells #[.int .i64 now] 3) = W := ⟨_, rfl⟩
  have zw2 : w2.heap.size = w.heap.size + 1 + 1 := by rw [← hw2]; simp [zw1]
  have kw2 : Keep Never w1 w2 := by rw [← hw2]; exact (Keep.refl _ _).alloc _
  have bw2 := Blk.new w1 3 #[.int .i64 now]
  rw [hw2, zw1] at bw2
  obtain ⟨w3, hw3⟩ : ∃ W : World, w2.alloc (.cells #[.slice none 0 0, .slice none 0 0, .bool false] 53) = W := ⟨_, rfl⟩
  have kw3 : Keep Never w2 w3 := by rw [← hw3]; exact (Keep.refl _ _).alloc _
  have bw3 := Blk.new w2 53 #[.slice none 0 0, .slice none 0 0, .bool false]
  rw [hw3, zw2] at bw3
  have HB1 := Lib.hid ((bw1.keep kw2 (fun h => h)).keep kw3 (fun h => h))
  have HB2 := Lib.hid (bw2.keep kw3 (fun h => h))
  have HB3 := Lib.hid bw3
  have HK := Lib.hid ((kw1.trans kw2).trans kw3)
  have y0 : w3.cell? ⟨w.heap.size, 0, none⟩ = some (.slice A n c) := HB1.out.cell 0
  have y1 : w3.cell? ⟨w.heap.size, 1, none⟩ = some (.slice A2 n2 c2) := HB1.out.cell 1
  have y2 : w3.cell? ⟨w.heap.size, 2, none⟩ = some (.bool k) := HB1.out.cell 2
  have x0 : w3.cell? ⟨w.heap.size + 1, 0, none⟩ = some (.int .i64 now) := HB2.out.cell 0
  clear kw1 kw2 kw3 bw1 bw2 bw3
  have HC := Lib.hid (HTu.out w3 90 #[.pointer (some ⟨w.heap.size + 1, 0, none⟩)] (expF now) HK.out (enters_of Try.func90 (by kernel_rfl) rfl) (fun W e A n c hk he hs => exp1_any now e A n c _ N W hs (keepT hk x0)))
  clear HTu HG
  have b3 := HB3.out
  have s0 : w3.cell? ⟨w.heap.size + 1 + 1, 0, none⟩ = some (.slice none 0 0) := b3.cell 0
  have s1 : w3.cell? ⟨w.heap.size + 1 + 1, 1, none⟩ = some (.slice none 0 0) := b3.cell 1
  have s2 : w3.cell? ⟨w.heap.size + 1 + 1, 2, none⟩ = some (.bool false) := b3.cell 2
  have sf0 := b3.frozen 0
  have sf1 := b3.frozen 1
  have sf2 := b3.frozen 2
  clear b3
  go_enter Try.func35, Try.ntmps35
  go_wp2_with fail
  refine HC.out.mono ?_
  rintro e W3 ⟨⟨A3, n3, c3, A4, n4, c4, k4⟩, rfl, hg3, hk3⟩
  have hbz := HB3.out.keep hk3 (fun h => h)
  have HBz := Lib.hid hbz
  have HG3 := Lib.hid hg3
  have HK3 := Lib.hid (HK.out.trans hk3)
  clear hg3 hk3 HC y0 y1 y2 s0 s1 s2 sf0 sf1 sf2 x0
  have s0 : W3.cell? ⟨w.heap.size + 1 + 1, 0, none⟩ = some (.slice none 0 0) := hbz.cell 0
  have s1 : W3.cell? ⟨w.heap.size + 1 + 1, 1, none⟩ = some (.slice none 0 0) := hbz.cell 1
  have s2 : W3.cell? ⟨w.heap.size + 1 + 1, 2, none⟩ = some (.bool false) := hbz.cell 2
  have sf0 := hbz.frozen 0
  have sf1 := hbz.frozen 1
  have sf2 := hbz.frozen 2
  clear hbz
  dsimp only [LA.cs]
  go_wp2_with fail
  (try simp only [Exit.inBlock, Exit.then])
  have hp := putL_keep (S := fun q => q = w.heap.size + 1 + 1) (Keep.refl _ W3) (b := w.heap.size + 1 + 1) (.inl rfl) (.slice A3 n3 c3) (.slice A4 n4 c4) (.bool k4)
  have hF : Far2 N W3 (fun q => q = w.heap.size + 1 + 1) := Far2.blk HBz.out (by decide) (by decide) (by have := HNw.out; omega)
  refine bodyPost_ret (ld_results2 (fn := Try.f35) (r := 4) (s := 5) rfl (putL_blk HBz.out (.slice A3 n3 c3) (.slice A4 n4 c4) (.bool k4)) _ rfl) rfl ⟨⟨A3, n3, c3, A4, n4, c4, k4⟩, rfl, HG3.out.keep hp hF, HK3.out.then_ hp (fun i hi e => by omega)⟩

set_option maxHeartbeats 4000000 in
set_option maxRecDepth 100000 in
theorem gsho_any (x : LA) (l : Ldg) (N : Nat) (t : Int) (y : List Sp) (B2 : Option Addr) (m2 d2 : Nat) (w : World) (h : LdG N w x l) (hy : SpG N w B2 m2 d2 y) (hs : LdB x l) (hm : m2 ≤ 200000) (hN : N ≤ w.heap.size) :
    Calls Try.prog 37 #[.agg x.cs, .int .i64 t, .slice B2 m2 d2] w (LdRet2 N (shortenM l t y) w) := by
  have HG := Lib.hid h
  have HNw := Lib.hid hN
  have HKn := Lib.hid h.k
  have HSz := Lib.hid hs
  have HY := Lib.hid hy
  clear hy
  have HTu := Lib.hid (fun (W : World) (g : Nat) (lb : Array Value) (f : Ent → List Sp) (hk : Keep Never w W) (eg : ∀ args w, (callFunc g args).run Try.prog w = .ok (.enter g args) w) (hE : ExtOk g lb f N Never W l.1) => turned_any x l N g lb f W (h.never hk) hs.small (by have := hs.n; omega) (Nat.le_trans hN hk.size) eg hE)
  obtain ⟨A, n, c, A2, n2, c2, k⟩ := x
  obtain ⟨es, hr, kn⟩ := l
  simp only [LA.cs] at HG HKn HTu HSz ⊢
  obtain rfl := HKn.out
  clear h hs hN HKn
  obtain ⟨w1, hw1⟩ : ∃ W : World, w.alloc (.cells #[.slice A n c, .slice A2 n2 c2, .bool k] 53) = W := ⟨_, rfl⟩
  have zw1 : w1.heap.size = w.heap.size + 1 := by rw [← hw1]; simp
  have kw1 : Keep Never w w1 := by rw [← hw1]; exact (Keep.refl _ _).alloc _
  have bw1 := Blk.new w 53 #[.slice A n c, .slice A2 n2 c2, .bool k]
  rw [hw1] at bw1
  obtain ⟨w2, hw2⟩ : ∃ W : World, w1.alloc (.cells #[.int .i64 t] 3) = W := ⟨_, rfl⟩
  have zw2 : w2.heap.size = w.heap.size + 1 + 1 := by rw [← hw2]; simp [zw1]
  have kw2 : Keep Never w1 w2 := by rw [← hw2]; exact (Keep.refl _ _).alloc _
  have bw2 := Blk.new w1 3 #[.int .i64 t]
  rw [hw2, zw1] at bw2
  obtain ⟨w3, hw3⟩ : ∃ W : World, w2.alloc (.cells #[.slice B2 m2 d2] 51) = W := ⟨_, rfl⟩
  have zw3 : w3.heap.size = w.heap.size + 1 + 1 + 1 := by rw [← hw3]; simp [zw2]
  have kw3 : Keep Never w2 w3 := by rw [← hw3]; exact (Keep.refl _ _).alloc _
  have bw3 := Blk.new w2 51 #[.slice B2 m2 d2]
  rw [hw3, zw2] at bw3
  obtain ⟨w4, hw4⟩ : ∃ W : World, w3.alloc (.cells #[.slice none 0 0, .slice none 0 0, .bool false] 53) = W := ⟨_, rfl⟩
  have kw4 : Keep Never w3 w4 := by rw [← hw4]; exact (Keep.refl _ _).alloc _
  have bw4 := Blk.new w3 53 #[.slice none 0 0, .slice none 0 0, .bool false]
  rw [hw4, zw3] at bw4
  have HB1 := Lib.hid (((bw1.keep kw2 (fun h => h)).keep kw3 (fun h => h)).keep kw4 (fun h => h))
  have HB2 := Lib.hid ((bw2.keep kw3 (fun h => h)).keep kw4 (fun h => h))
  have HB3 := Lib.hid (bw3.keep kw4 (fun h => h))
  have HB4 := Lib.hid bw4
  have HK := Lib.hid (((kw1.trans kw2).trans kw3).trans kw4)
  have y0 : w4.cell? ⟨w.heap.size, 0, none⟩ = some (.slice A n c) := HB1.out.cell 0
  have y1 : w4.cell? ⟨w.heap.size, 1, none⟩ = some (.slice A2 n2 c2) := HB1.out.cell 1
  have y2 : w4.cell? ⟨w.heap.size, 2, none⟩ = some (.bool k) := HB1.out.cell 2
  have x0 : w4.cell? ⟨w.heap.size + 1, 0, none⟩ = some (.int .i64 t) := HB2.out.cell 0
  have x1 : w4.cell? ⟨w.heap.size + 1 + 1, 0, none⟩ = some (.slice B2 m2 d2) := HB3.out.cell 0
  clear kw1 kw2 kw3 kw4 bw1 bw2 bw3 bw4
  have HC := Lib.hid (HTu.out w4 92 #[.pointer (some ⟨w.heap.size + 1, 0, none⟩), .pointer (some ⟨w.heap.size + 1 + 1, 0, none⟩)] (shoF t y) HK.out (enters_of Try.func92 (by kernel_rfl) rfl) (fun W e A n c hk he hs => sho1_any t y B2 m2 d2 e A n c _ _ N W hs (HY.out.never (HK.out.trans hk)) (by have h1 := hs.at_.len; have h2 := HSz.out.e e he; omega) hm (keepT hk x0) (keepT hk x1)))
  clear HTu HG
  have b4 := HB4.out
  have s0 : w4.cell? ⟨w.heap.size + 1 + 1 + 1, 0, none⟩ = some (.slice none 0 0) := b4.cell 0
  have s1 : w4.cell? ⟨w.heap.size + 1 + 1 + 1, 1, none⟩ = some (.slice none 0 0) := b4.cell 1
  have s2 : w4.cell? ⟨w.heap.size + 1 + 1 + 1, 2, none⟩ = some (.bool false) := b4.cell 2
  have sf0 := b4.frozen 0
  have sf1 := b4.frozen 1
  have sf2 := b4.frozen 2
  clear b4
  go_enter Try.func37, Try.ntmps37
  go_wp2_with fail
  refine HC.out.mono ?_
  rintro e W3 ⟨⟨A3, n3, c3, A4, n4, c4, k4⟩, rfl, hg3, hk3⟩
  have hbz := HB4.out.keep hk3 (fun h => h)
  have HBz := Lib.hid hbz
  have HG3 := Lib.hid hg3
  have HK3 := Lib.hid (HK.out.trans hk3)
  clear hg3 hk3 HC y0 y1 y2 s0 s1 s2 sf0 sf1 sf2 x0 x1
  have s0 : W3.cell? ⟨w.heap.size + 1 + 1 + 1, 0, none⟩ = some (.slice none 0 0) := hbz.cell 0
  have s1 : W3.cell? ⟨w.heap.size + 1 + 1 + 1, 1, none⟩ = some (.slice none 0 0) := hbz.cell 1
  have s2 : W3.cell? ⟨w.heap.size + 1 + 1 + 1, 2, none⟩ = some (.bool false) := hbz.cell 2
  have sf0 := hbz.frozen 0
  have sf1 := hbz.frozen 1
  have sf2 := hbz.frozen 2
  clear hbz
  dsimp only [LA.cs]
  go_wp2_with fail
  (try simp only [Exit.inBlock, Exit.then])
  have hp := putL_keep (S := fun q => q = w.heap.size + 1 + 1 + 1) (Keep.refl _ W3) (b := w.heap.size + 1 + 1 + 1) (.inl rfl) (.slice A3 n3 c3) (.slice A4 n4 c4) (.bool k4)
  have hF : Far2 N W3 (fun q => q = w.heap.size + 1 + 1 + 1) := Far2.blk HBz.out (by decide) (by decide) (by have := HNw.out; omega)
  refine bodyPost_ret (ld_results2 (fn := Try.f37) (r := 6) (s := 7) rfl (putL_blk HBz.out (.slice A3 n3 c3) (.slice A4 n4 c4) (.bool k4)) _ rfl) rfl ⟨⟨A3, n3, c3, A4, n4, c4, k4⟩, rfl, HG3.out.keep hp hF, HK3.out.then_ hp (fun i hi e => by omega)⟩
end Go.Proofs.Ytlcbajdckgcopaa
