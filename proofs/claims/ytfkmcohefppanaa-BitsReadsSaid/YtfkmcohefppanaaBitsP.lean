/- The walk of BitsPieces. -/
import Derived.Test.YtfkmcohefppanaaBitsA
namespace Go.Proofs.Ytfkmcohefppanaa
open Go.RowKit

theorem opens_bytes : Rep.Opens Try.prog 25 Rep.byte.list := Rep.opens_list Try.underlying25 (by kernel_rfl) (by decide) (Rep.opens_byte Try.underlying5)
theorem bytes_rd {w : World} {B n c : Nat} {A : Option Addr} {l : List Nat} (h : Rep.byte.Sl w B A n c l) : Rd w B 1 A n (l.map u8v) ∧ l.length = n ∧ ∀ x ∈ l, x < 256 := by
  obtain ⟨h1, _, _, _, css, h5, h6⟩ := h
  have hf : css.flatten = l.map u8v ∧ ∀ x ∈ l, x < 256 := by
    clear h5 h1
    induction l generalizing css with
    | nil => cases css with
      | nil => exact ⟨rfl, by simp⟩
      | cons c css => exact h6.elim
    | cons x l ih => cases css with
      | nil => exact h6.elim
      | cons c css =>
        obtain ⟨⟨hc, hx⟩, h⟩ := h6
        obtain ⟨h2, h3⟩ := ih css h
        subst hc
        refine ⟨by simp [h2], ?_⟩
        intro y hy
        rcases List.mem_cons.1 hy with rfl | hy
        · exact hx
        · exact h3 y hy
  exact ⟨by rw [← hf.1]; exact h5, h1.symm, hf.2⟩

theorem numOf_app_from (l m : List Bool) : ∀ a, (l ++ m).foldl (fun a b => 2 * a + b.toNat) a = m.foldl (fun a b => 2 * a + b.toNat) (l.foldl (fun a b => 2 * a + b.toNat) a) := by intro a; rw [List.foldl_append]
theorem numOf_from (m : List Bool) : ∀ a, m.foldl (fun a b => 2 * a + b.toNat) a = a * 2 ^ m.length + numOf m := by
  induction m with
  | nil => intro a; simp [numOf]
  | cons b m ih =>
    intro a
    have h1 := ih (2 * a + b.toNat)
    have h2 := ih (2 * 0 + b.toNat)
    simp only [numOf, List.foldl_cons, List.length_cons] at h1 h2 ⊢
    rw [h1, h2, Nat.pow_succ, Nat.add_mul, Nat.add_mul]
    generalize 2 ^ m.length = z
    rw [show 2 * a * z = a * (z * 2) by rw [Nat.mul_comm 2 a, Nat.mul_assoc, Nat.mul_comm 2 z]]
    omega
theorem numOf_app (l m : List Bool) : numOf (l ++ m) = numOf l * 2 ^ m.length + numOf m := by
  rw [numOf, numOf_app_from, numOf_from]; rfl

set_option maxHeartbeats 1000000 in
theorem pieces_out (w : World) (A : Option Addr) (n c : Nat) (skip first second : Int) (hg : ¬ (n ≤ 2000 ∧ 1 ≤ first ∧ 1 ≤ second ∧ first ≤ 31 ∧ second ≤ 31 ∧ first + second ≤ 32))
    (_ : -9223372036854775808 ≤ first) (_ : first ≤ 9223372036854775807) (_ : -9223372036854775808 ≤ second) (_ : second ≤ 9223372036854775807) :
    Calls Try.prog 4 #[.slice A n c, .int .i64 skip, .int .i64 first, .int .i64 second] w fun e w' => e = .returned (.bool true) ∧ Keep Never w w' := by
  have hni : ((2000 : Int) < n) ∨ ((n : Int) ≤ 2000 ∧ first < 1) ∨ ((n : Int) ≤ 2000 ∧ 1 ≤ first ∧ second < 1) ∨ ((n : Int) ≤ 2000 ∧ 1 ≤ first ∧ 1 ≤ second ∧ 31 < first) ∨ ((n : Int) ≤ 2000 ∧ 1 ≤ first ∧ 1 ≤ second ∧ first ≤ 31 ∧ 31 < second) ∨
      ((n : Int) ≤ 2000 ∧ 1 ≤ first ∧ 1 ≤ second ∧ first ≤ 31 ∧ second ≤ 31 ∧ 32 < first + second) := by omega
  clear hg
  rcases hni with h | ⟨h, h1⟩ | ⟨h, h1, h2⟩ | ⟨h, h1, h2, h3⟩ | ⟨h, h1, h2, h3, h4⟩ | ⟨h, h1, h2, h3, h4, h5⟩
  all_goals
    go_enter Try.func4, Try.ntmps4
    go_wp2_with (go_at_call 10; refine (awake_any _).mono ?_; rintro e w1 ⟨rfl, hk1⟩)
    go_ret
    exact ⟨rfl, hk1⟩


set_option maxHeartbeats 1000000 in
theorem pieces_in (w : World) (A : Option Addr) (n c : Nat) (b : List Nat) (hb : Rep.byte.Sl w w.heap.size A n c b) (skip first second : Int) (hg : n ≤ 2000 ∧ 1 ≤ first ∧ 1 ≤ second ∧ first ≤ 31 ∧ second ≤ 31 ∧ first + second ≤ 32) :
    Calls Try.prog 4 #[.slice A n c, .int .i64 skip, .int .i64 first, .int .i64 second] w fun e w' => e = .returned (.bool true) ∧ Keep Never w w' := by
  obtain ⟨g1, g2, g3, g4, g5, g6⟩ := hg
  have g1' : (n : Int) ≤ 2000 := by omega
  obtain ⟨hrd, hbl, h8⟩ := bytes_rd hb
  have Hrd := Lib.hid hrd
  have Hbl := Lib.hid hbl
  have H8 := Lib.hid h8
  clear hrd hbl h8 hb
  go_enter Try.func4, Try.ntmps4
  go_wp2_with (go_at_call 10; refine (awake_any _).mono ?_; rintro e w1 ⟨rfl, hk1⟩)
  have hs1 := hk1.size
  go_wp2_with fail
  refine (read_any A n c w.heap.size b Hbl.out w1 (Hrd.out.keep hk1 (by intro k h; cases h)) H8.out (by omega)).mono ?_
  rintro e w2 ⟨p, rfl, hrd2, hk2⟩
  have hs2 := hk2.size
  have Hrd2 := Lib.hid hrd2
  clear hrd2
  go_wp2_with fail
  refine (read_any A n c w.heap.size b Hbl.out w2 ((Hrd.out.keep hk1 (by intro k h; cases h)).keep hk2 (by intro k h; cases h)) H8.out (by omega)).mono ?_
  rintro e w3 ⟨q, rfl, hrd3, hk3⟩
  have hs3 := hk3.size
  have Hrd3 := Lib.hid hrd3
  clear hrd3
  have hr2 := Lib.hid (Hrd2.out.keep hk3 (fun k h => h.elim))
  have lo2 := Hrd2.out.lo
  have lo3 := Hrd3.out.lo
  go_wp2_with fail
  refine (get_eq hr2.out (by omega) rfl rfl rfl).mono ?_
  rintro e w4 ⟨rfl, hr4, hk4⟩
  have hs4 := hk4.size
  have ht4 := Lib.hid (Hrd3.out.keep hk4 (fun k h => .inl (by omega)))
  go_wp2_with fail
  refine (get_eq ht4.out (by omega) rfl rfl rfl).mono ?_
  rintro e w5 ⟨rfl, ht5, hk5⟩
  have hs5 := hk5.size
  have hr5 := Lib.hid (hr4.out.keep hk5 (fun k h => .inr (by omega)))
  generalize (0 + if getE (leftB b 0).length skip = 0 then skip.toNat else 0) = k at *
  obtain ⟨f, rfl⟩ : ∃ f : Nat, first = f := ⟨first.toNat, by omega⟩
  obtain ⟨s, rfl⟩ : ∃ s : Nat, second = s := ⟨second.toNat, by omega⟩
  have hll := length_leftB b k
  have gN : ∀ (L : List Bool) (m : Nat), 1 ≤ m → m ≤ 32 → m ≤ L.length → getN L m = ((numOf (L.take m) : Nat) : Int) ∧ getE L.length m = 0 := by
    intro L m h1 h2 h3
    exact ⟨by rw [getN, if_neg (by omega), Int.toNat_natCast], by rw [getE, if_neg (by omega), if_neg (by omega)]⟩
  have gS : ∀ (L : List Bool) (m : Nat), 1 ≤ m → m ≤ 32 → L.length < m → getN L m = 0 ∧ getE L.length m = 10 := by
    intro L m h1 h2 h3
    exact ⟨by rw [getN, if_pos (by omega)], by rw [getE, if_neg (by omega), if_pos (by omega)]⟩
  have GN := Lib.hid gN
  have GS := Lib.hid gS
  clear gN gS
  have hki : Keep Never w w5 := ((((hk1.trans hk2).trans hk3).then_ hk4 (fun i hi e => by omega)).then_ hk5 (fun i hi e => by omega))
  by_cases hbig : f + s ≤ (leftB b k).length
  · have e1 := GN.out (leftB b k) (f + s) (by omega) (by omega) hbig
    have e2 := GN.out (leftB b k) f (by omega) (by omega) (by omega)
    have hdrop : leftB b (k + f) = (leftB b k).drop f := by rw [leftB, leftB, List.drop_drop]
    have e3 := GN.out (leftB b (k + f)) s (by omega) (by omega) (by rw [length_leftB]; omega)
    have hnum : numOf ((leftB b k).take (f + s)) = numOf ((leftB b k).take f) * 2 ^ s + numOf ((leftB b (k + f)).take s) := by
      rw [hdrop, List.take_add, numOf_app]
      congr 3
      rw [List.length_take, List.length_drop]; omega
    have hle := numOf_le32 ((leftB b k).take (f + s)) (k := 32) (by omega) (by simp; omega)
    rw [Int.natCast_add] at e1
    have E1 := Lib.hid e1
    have E2 := Lib.hid e2
    have E3 := Lib.hid e3
    clear e1 e2 e3 hdrop
    have hnumi : ((numOf ((leftB b k).take (f + s)) : Nat) : Int) = ((numOf ((leftB b k).take f) : Nat) : Int) * 2 ^ s + ((numOf ((leftB b (k + f)).take s) : Nat) : Int) := by
      rw [hnum, Int.natCast_add, Int.natCast_mul, Int.natCast_pow]; rfl
    clear hnum
    have hZ1 : 0 ≤ ((numOf ((leftB b k).take f) : Nat) : Int) * 2 ^ s := by rw [show (2 : Int) ^ s = ((2 ^ s : Nat) : Int) from (Int.natCast_pow 2 s).symm, ← Int.natCast_mul]; omega
    obtain ⟨Z, hZ⟩ : ∃ Z, ((numOf ((leftB b k).take f) : Nat) : Int) * 2 ^ s = Z := ⟨_, rfl⟩
    rw [hZ] at hnumi hZ1
    have hle' : Z + ((numOf ((leftB b (k + f)).take s) : Nat) : Int) ≤ 4294967295 := by omega
    generalize hN : numOf ((leftB b k).take (f + s)) = N at *
    generalize hX : numOf ((leftB b k).take f) = X at *
    generalize hY : numOf ((leftB b (k + f)).take s) = Y at *
    go_wp2_with fail
    refine (get_eq (k' := k + (f + s)) hr5.out (by omega) E1.out.1 E1.out.2 (by rw [E1.out.2]; simp; omega)).mono ?_
    rintro e w6 ⟨rfl, hr6, hk6⟩
    have hs6 := hk6.size
    have ht6 := Lib.hid (ht5.out.keep hk6 (fun k h => .inl (by omega)))
    go_wp2_with fail
    refine (get_eq (k' := k + f) ht6.out (by omega) E2.out.1 E2.out.2 (by rw [E2.out.2]; simp)).mono ?_
    rintro e w7 ⟨rfl, ht7, hk7⟩
    have hs7 := hk7.size
    have hr7 := Lib.hid (hr6.out.keep hk7 (fun k h => .inr (by omega)))
    go_wp2_with fail
    refine (get_eq (k' := k + f + s) ht7.out (by omega) E3.out.1 E3.out.2 (by rw [E3.out.2]; simp)).mono ?_
    rintro e w8 ⟨rfl, ht8, hk8⟩
    have hs8 := hk8.size
    have hr8 := Lib.hid (hr7.out.keep hk8 (fun k h => .inr (by omega)))
    have hki8 : Keep Never w w8 := ((hki.then_ hk6 (fun i hi e => by omega)).then_ hk7 (fun i hi e => by omega)).then_ hk8 (fun i hi e => by omega)
    go_wp2_with fail
    refine (left_any _ _ p _ _ w8 hr8.out).mono ?_
    rintro e w9 ⟨rfl, z1, rfl⟩
    go_wp2_with fail
    refine (left_any _ _ q _ _ (w8.drewN z1) (ht8.out.drewN z1)).mono ?_
    rintro e w9 ⟨rfl, z2, rfl⟩
    rw [show 8 * b.length - (k + (f + s)) = 8 * b.length - (k + f + s) by omega]
    go_wp2_with fail
    go_ret
    exact ⟨rfl, hki8.drewN _⟩
  · have e1 := GS.out (leftB b k) (f + s) (by omega) (by omega) (by omega)
    rw [Int.natCast_add] at e1
    have E1 := Lib.hid e1
    clear e1
    go_wp2_with fail
    refine (get_eq (k' := k) hr5.out (by omega) E1.out.1 E1.out.2 (by rw [E1.out.2]; simp)).mono ?_
    rintro e w6 ⟨rfl, hr6, hk6⟩
    have hs6 := hk6.size
    have ht6 := Lib.hid (ht5.out.keep hk6 (fun k h => .inl (by omega)))
    by_cases hsm : f ≤ (leftB b k).length
    · have E2 := Lib.hid (GN.out (leftB b k) f (by omega) (by omega) (by omega))
      have hlt : ((8 * b.length - (k + f) : Nat) : Int) < (s : Int) := by omega
      go_wp2_with fail
      refine (get_eq (k' := k + f) ht6.out (by omega) E2.out.1 E2.out.2 (by rw [E2.out.2]; simp)).mono ?_
      rintro e w7 ⟨rfl, ht7, hk7⟩
      have hki7 : Keep Never w w7 := (hki.then_ hk6 (fun i hi e => by omega)).then_ hk7 (fun i hi e => by omega)
      generalize hM : 8 * b.length - (k + f) = M at *
      have HM := Lib.hid hM
      clear hM
      go_wp2_with fail
      refine (left_any _ _ q _ _ w7 ht7.out).mono ?_
      rw [HM.out]
      rintro e w9 ⟨rfl, z1, rfl⟩
      go_wp2_with fail
      go_ret
      exact ⟨rfl, hki7.drewN _⟩
    · have E2 := Lib.hid (GS.out (leftB b k) f (by omega) (by omega) (by omega))
      go_wp2_with fail
      refine (get_eq (k' := k) ht6.out (by omega) E2.out.1 E2.out.2 (by rw [E2.out.2]; simp)).mono ?_
      rintro e w7 ⟨rfl, ht7, hk7⟩
      go_wp2_with fail
      go_ret
      exact ⟨rfl, (hki.then_ hk6 (fun i hi e => by omega)).then_ hk7 (fun i hi e => by omega)⟩

theorem pieces_walk (w : World) (A : Option Addr) (n c : Nat) (b : List Nat) (hb : Rep.byte.Sl w w.heap.size A n c b) (skip : Int) (_ : -9223372036854775808 ≤ skip) (_ : skip ≤ 9223372036854775807)
    (first : Int) (_ : -9223372036854775808 ≤ first) (_ : first ≤ 9223372036854775807) (second : Int) (_ : -9223372036854775808 ≤ second) (_ : second ≤ 9223372036854775807) :
    Calls Try.prog 4 #[.slice A n c, .int .i64 skip, .int .i64 first, .int .i64 second] w fun e w' => e = .returned (.bool true) ∧ Keep Never w w' := by
  by_cases hg : n ≤ 2000 ∧ 1 ≤ first ∧ 1 ≤ second ∧ first ≤ 31 ∧ second ≤ 31 ∧ first + second ≤ 32
  · exact pieces_in w A n c b hb skip first second hg
  · exact pieces_out w A n c skip first second hg ‹_› ‹_› ‹_› ‹_›

end Go.Proofs.Ytfkmcohefppanaa
