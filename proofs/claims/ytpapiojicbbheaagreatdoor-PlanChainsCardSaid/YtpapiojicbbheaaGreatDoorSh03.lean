/- Texts of this claim, together: TopO. -/
import Derived.Test.YtpapiojicbbheaaGreatDoorSh02
namespace Go.Proofs.YtpapiojicbbheaaGreatDoor
open Go.RowKit
def firstE (f : Nat → Int) : Nat → Int
 | 0 => 0
 | k + 1 => if firstE f k ≠ 0 then firstE f k else f k
theorem firstE_zero {f : Nat → Int} : ∀ {n : Nat}, (∀ j, j < n → f j = 0) → firstE f n = 0
 | 0, _ => rfl
 | n + 1, h => by unfold firstE; rw [firstE_zero (fun j hj => h j (by omega)), if_neg (by simp), h n (by omega)]
theorem firstE_at {f : Nat → Int} {k e : Int} {i : Nat} : ∀ {n : Nat}, i < n → (∀ j, j < i → f j = 0) → f i = e → e ≠ 0 → firstE f n = e
 | 0, h, _, _, _ => by omega
 | n + 1, h, h0, h1, h2 => by
  unfold firstE
  by_cases hi : i < n
  ·rw [firstE_at (k := k) hi h0 h1 h2, if_pos h2]
  ·obtain rfl : i = n := by omega
   rw [firstE_zero h0, if_neg (by simp), h1]
def jErr (t : Tp) (i : Nat) : Int := match t.2.1[i]? with
 | some j => if endB t.1.length j.1 = false ∨ endB t.1.length j.2 = false ∨ j.1 = j.2 then 1 else if joinB (t.2.1.take i) j.1 j.2 = true then 5 else 0
 | none => 0
def bErr (t : Tp) (i : Nat) : Int := match t.2.2.1[i]? with
 | some b => if b.1 < 0 ∨ 16777214 < b.1 ∨ thereB t.1.length b.2.1 = false ∨ b.2.2 < 0 ∨ t.1.getD b.2.1.toNat 0 < b.2.2 then 1 else if (balM (t.2.2.1.take i) b.1).isSome = true then 5 else 0
 | none => 0
def rErr (t : Tp) (i : Nat) : Int := match t.2.2.2[i]? with
 | some r => if routedM t r ≠ 0 then routedM t r else if (rtM (t.2.2.2.take i) r.1).isSome = true then 5 else 0
 | none => 0
def checkM (t : Tp) : Int :=
 if 40 < t.1.length ∨ 80 < t.2.1.length ∨ 80 < t.2.2.1.length ∨ 30 < t.2.2.2.length then 2
 else if t.1.any wrongB = true then 1
 else if firstE (jErr t) t.2.1.length ≠ 0 then firstE (jErr t) t.2.1.length
 else if firstE (bErr t) t.2.2.1.length ≠ 0 then firstE (bErr t) t.2.2.1.length
 else firstE (rErr t) t.2.2.2.length
structure TpSmall (x : TA) (t : Tp) : Prop where
 e : x.ne ≤ 100000000
 j : x.nj ≤ 100000000
 b : x.nb ≤ 100000000
 r : x.nr ≤ 100000000
 p : ∀ r ∈ t.2.2.2, r.2.1.length ≤ 100000000
set_option maxHeartbeats 1000000 in
set_option maxRecDepth 100000 in
theorem chk1_any (n : Int) (w : World) : Calls Tryz.prog 101 #[.int .i64 n] w fun e w' => e = .returned (.bool (wrongB n)) ∧ Keep Never w w' := by
 by_cases h1 : n < 1
 ·have t1 : decide (n < 1) = true := by simpa using h1
  have HF : Hid (wrongB n = true) := Lib.hid (by unfold wrongB; rw [t1]; rfl)
  clear h1
  go_enter Tryz.func101, Tryz.ntmps101
  go_wp2_with fail
  go_ret
  exact ⟨by rw [HF.out]; rfl, Keep.refl _ _⟩
 ·have t1 : decide (n < 1) = false := by simpa using h1
  by_cases h2 : n > 1000000
  ·have t2 : decide (n > 1000000) = true := by simpa using h2
   have HF : Hid (wrongB n = true) := Lib.hid (by unfold wrongB; rw [t1, t2]; rfl)
   clear h1 h2
   go_enter Tryz.func101, Tryz.ntmps101
   go_wp2_with fail
   go_ret
   exact ⟨by rw [HF.out]; rfl, Keep.refl _ _⟩
  ·have t2 : decide (n > 1000000) = false := by simpa using h2
   have HF : Hid (wrongB n = false) := Lib.hid (by unfold wrongB; rw [t1, t2]; rfl)
   clear h1 h2
   go_enter Tryz.func101, Tryz.ntmps101
   go_wp2_with fail
   go_ret
   exact ⟨by rw [HF.out]; rfl, Keep.refl _ _⟩
theorem wrongc_any (A : Option Addr) (n c B : Nat) (l : List Int) (w : World) (hr : Rd w B 1 A n (l.map (.int .i64))) (hn : n ≤ 100000000000) :
  Calls Tryz.prog 100 #[.slice A n c, .func (.func 101) #[] #[]] w fun e w' => e = .returned (.bool (l.any wrongB)) ∧ Keep Never w w' :=
 containsfi_any _ _ wrongB (enters_of Tryz.func101 (by kernel_rfl) rfl) A n c B l w hr (fun W s _ => chk1_any s W) hn
set_option maxHeartbeats 40000000 in
set_option maxRecDepth 100000 in
theorem check_any (x : TA) (t : Tp) (B : Nat) (w : World) (ht : TpAt w B x t) (hs : TpSmall x t) (hB : B ≤ w.heap.size) :
  Calls Tryz.prog 39 #[.agg x.cs] w fun e w' => e = .returned (.int .i64 (checkM t)) ∧ Keep Never w w' := by
 have HT := Lib.hid (fun i W => there_any x i W)
 have HEn : Hid (∀ (a1 a2 : Int) W, Calls Tryz.prog 102 #[.agg x.cs, .agg #[.int .i64 a1, .int .i64 a2]] W fun e w' => e = .returned (.bool (endB x.ne (a1, a2))) ∧ Keep Never W w') := Lib.hid (fun a1 a2 W => end_any x (a1, a2) W)
 have HRd : Hid (∀ (r : Rt) A n c W, Keep Never w W → repStp.Sl W B A n c r.2.1 → n ≤ 100000000 → Calls Tryz.prog 104 #[.agg x.cs, .agg #[.int .i64 r.1, .slice A n c, .int .i64 r.2.2.1, .int .i64 r.2.2.2]] W fun e w' => e = .returned (.int .i64 (routedM t r)) ∧ Keep Never W w') := Lib.hid (fun r A n c W hk hr hn => routed_any x t B r A n c W (ht.keep hk) hr hs.j hs.b hn)
 have HTp := Lib.hid ht
 have HSm := Lib.hid hs
 have HGB := Lib.hid hB
 have qe : ∀ (w : World) (x1 x2 y1 y2 : Int), (binOp .eql 132 (.agg #[.int .i64 x1, .int .i64 x2]) (.agg #[.int .i64 y1, .int .i64 y2])).run Tryz.prog w = .ok (.bool (sameE x1 x2 y1 y2)) w := run_eq_end
 have HL : Hid (x.ne = t.1.length ∧ x.nj = t.2.1.length ∧ x.nb = t.2.2.1.length ∧ x.nr = t.2.2.2.length) := Lib.hid ⟨ht.e.len, ht.j.len, ht.b.len, ht.r.len⟩
 obtain ⟨Ae, ne, ce, Aj, nj, cj, Ab, nb, cb, Ar, nr, cr⟩ := x
 simp only [TA.cs] at HT HEn HRd HL ⊢
 have hns := hs
 obtain ⟨hn1, hn2, hn3, hn4, hn5⟩ := hns
 simp only at hn1 hn2 hn3 hn4
 have HP5 := Lib.hid hn5
 obtain ⟨w1, hw1⟩ : ∃ wb : World, w.alloc (.cells #[.slice Ae ne ce, .slice Aj nj cj, .slice Ab nb cb, .slice Ar nr cr] 27) = wb := ⟨_, rfl⟩
 have k1 : Keep Never w w1 := by rw [← hw1]; exact (Keep.refl _ _).alloc _
 have b1 := Blk.new w 27 #[.slice Ae ne ce, .slice Aj nj cj, .slice Ab nb cb, .slice Ar nr cr]
 rw [hw1] at b1
 have HB1 := Lib.hid b1
 have HK := Lib.hid k1
 have y0 : w1.cell? ⟨w.heap.size, 0, none⟩ = some (.slice Ae ne ce) := HB1.out.cell 0
 have y1 : w1.cell? ⟨w.heap.size, 1, none⟩ = some (.slice Aj nj cj) := HB1.out.cell 1
 have y2 : w1.cell? ⟨w.heap.size, 2, none⟩ = some (.slice Ab nb cb) := HB1.out.cell 2
 have y3 : w1.cell? ⟨w.heap.size, 3, none⟩ = some (.slice Ar nr cr) := HB1.out.cell 3
 have HWr := Lib.hid (wrongc_any Ae ne ce B t.1 w1 (int_rd (ht.e.keep k1 (fun _ h => h.elim))) (by omega))
 clear k1 b1 ht hs hB hn5
 by_cases g1 : 40 < ne
 ·have t1 : decide ((ne : Int) > 40) = true := by simp; omega
  have HF : Hid (checkM t = 2) := Lib.hid (by unfold checkM; rw [if_pos (.inl (by rw [← HL.out.1]; exact g1))])
  clear g1
  go_enter Tryz.func39, Tryz.ntmps39
  go_wp2_with fail
  go_ret
  exact ⟨by rw [HF.out]; rfl, HK.out⟩
 have t1 : decide ((ne : Int) > 40) = false := by simp; omega
 by_cases g2 : 80 < nj
 ·have t2 : decide ((nj : Int) > 80) = true := by simp; omega
  have HF : Hid (checkM t = 2) := Lib.hid (by unfold checkM; rw [if_pos (.inr (.inl (by rw [← HL.out.2.1]; exact g2)))])
  clear g1 g2
  go_enter Tryz.func39, Tryz.ntmps39
  go_wp2_with fail
  go_ret
  exact ⟨by rw [HF.out]; rfl, HK.out⟩
 have t2 : decide ((nj : Int) > 80) = false := by simp; omega
 by_cases g3 : 80 < nb
 ·have t3 : decide ((nb : Int) > 80) = true := by simp; omega
  have HF : Hid (checkM t = 2) := Lib.hid (by unfold checkM; rw [if_pos (.inr (.inr (.inl (by rw [← HL.out.2.2.1]; exact g3))))])
  clear g1 g2 g3
  go_enter Tryz.func39, Tryz.ntmps39
  go_wp2_with fail
  go_ret
  exact ⟨by rw [HF.out]; rfl, HK.out⟩
 have t3 : decide ((nb : Int) > 80) = false := by simp; omega
 by_cases g4 : 30 < nr
 ·have t4 : decide ((nr : Int) > 30) = true := by simp; omega
  have HF : Hid (checkM t = 2) := Lib.hid (by unfold checkM; rw [if_pos (.inr (.inr (.inr (by rw [← HL.out.2.2.2]; exact g4))))])
  clear g1 g2 g3 g4
  go_enter Tryz.func39, Tryz.ntmps39
  go_wp2_with fail
  go_ret
  exact ⟨by rw [HF.out]; rfl, HK.out⟩
 have t4 : decide ((nr : Int) > 30) = false := by simp; omega
 have HN1 : Hid (¬ (40 < t.1.length ∨ 80 < t.2.1.length ∨ 80 < t.2.2.1.length ∨ 30 < t.2.2.2.length)) := Lib.hid (by have := HL.out; omega)
 clear g1 g2 g3 g4
 go_enter Tryz.func39, Tryz.ntmps39
 go_wp2_with fail
 refine HWr.out.mono ?_
 rintro e w2 ⟨rfl, hk2⟩
 have HK2 := Lib.hid hk2
 have y1' : w2.cell? ⟨w.heap.size, 1, none⟩ = some (.slice Aj nj cj) := keepT hk2 y1
 clear hk2 HWr y0 y1 y2 y3 t1 t2 t3 t4
 cases hwr : t.1.any wrongB with
 | true =>
  have HF : Hid (checkM t = 1) := Lib.hid (by unfold checkM; rw [if_neg HN1.out, if_pos hwr])
  clear hwr
  go_wp2_with fail
  go_ret
  exact ⟨by rw [HF.out]; rfl, HK.out.trans HK2.out⟩
 | false =>
  have HN2 : Hid (¬ t.1.any wrongB = true) := Lib.hid (by rw [hwr]; simp)
  clear hwr
  go_wp2_with fail
  clear y1'
  go_loopw [3, 4, 42] (fun _ _ i wr => ∃ k : Nat, k ≤ nj ∧ i = .int .i64 k ∧ Hid (Keep Never w1 wr ∧ ∀ j, j < k → jErr t j = 0)) (fun _ _ i _ => nj - (intOf i).toNat)
  case atStart => exact ⟨0, by omega, rfl, Lib.hid ⟨HK2.out, fun j h => by omega⟩⟩
  case round =>
   obtain ⟨k, hk, rfl, HH⟩ := hrel
   by_cases h0 : k < nj
   ·have hkz : (k : Int) < (nj : Int) := by omega
    obtain ⟨ad, j, hA, _, hj, c0, c1, c2, c3⟩ := jt_at (HTp.out.keep (HK.out.trans HH.out.1)).j h0
    subst hA
    obtain ⟨⟨x1, x2⟩, x3, x4⟩ := j
    simp only at c0 c1 c2 c3
    obtain ⟨W1, hW1⟩ : ∃ W : World, wr.alloc (.cells #[.int .i64 x1, .int .i64 x2, .int .i64 x3, .int .i64 x4] 134) = W := ⟨_, rfl⟩
    have K1 : Keep Never wr W1 := by rw [← hW1]; exact (Keep.refl _ _).alloc _
    have B1 := Blk.new wr 134 #[.int .i64 x1, .int .i64 x2, .int .i64 x3, .int .i64 x4]
    rw [hW1] at B1
    have HKW := Lib.hid (HH.out.1.trans K1)
    have HJb := Lib.hid B1
    have d0 : W1.cell? ⟨wr.heap.size, 0, none⟩ = some (.int .i64 x1) := B1.cell 0
    have d1 : W1.cell? ⟨wr.heap.size, 1, none⟩ = some (.int .i64 x2) := B1.cell 1
    have d2 : W1.cell? ⟨wr.heap.size, 2, none⟩ = some (.int .i64 x3) := B1.cell 2
    have d3 : W1.cell? ⟨wr.heap.size, 3, none⟩ = some (.int .i64 x4) := B1.cell 3
    have hb1 := HB1.out.keep HKW.out (fun h => h)
    have y0 : W1.cell? ⟨w.heap.size, 0, none⟩ = some (.slice Ae ne ce) := hb1.cell 0
    have y1 : W1.cell? ⟨w.heap.size, 1, none⟩ = some (.slice (some ad) nj cj) := hb1.cell 1
    have y2 : W1.cell? ⟨w.heap.size, 2, none⟩ = some (.slice Ab nb cb) := hb1.cell 2
    have y3 : W1.cell? ⟨w.heap.size, 3, none⟩ = some (.slice Ar nr cr) := hb1.cell 3
    have Hj := Lib.hid hj
    have HJe : Hid ((endB ne (x1, x2) = false ∨ endB ne (x3, x4) = false ∨ ((x1, x2) : En) = (x3, x4)) → checkM t = 1) := Lib.hid (fun h => by
     have h1 : jErr t k = 1 := by unfold jErr; rw [hj]; simp only; rw [← HL.out.1, if_pos h]
     have h2 : firstE (jErr t) t.2.1.length = 1 := firstE_at (k := 0) (by rw [← HL.out.2.1]; exact h0) HH.out.2 h1 (by decide)
     unfold checkM; rw [if_neg HN1.out, if_neg HN2.out, h2, if_pos (by decide)])
    clear hj K1 B1 hb1
    go_wp2_with fail
    refine (HEn.out _ _ _).mono ?_
    rintro e w3 ⟨rfl, hk3⟩
    have HK3 := Lib.hid (HKW.out.trans hk3)
    have HJ3 := Lib.hid (HJb.out.keep hk3 (fun h => h))
    clear hk3 c0 c1 c2 c3 d0 d1 d2 d3 y0 y1 y2 y3
    have d0 : w3.cell? ⟨wr.heap.size, 0, none⟩ = some (.int .i64 x1) := HJ3.out.cell 0
    have d1 : w3.cell? ⟨wr.heap.size, 1, none⟩ = some (.int .i64 x2) := HJ3.out.cell 1
    have d2 : w3.cell? ⟨wr.heap.size, 2, none⟩ = some (.int .i64 x3) := HJ3.out.cell 2
    have d3 : w3.cell? ⟨wr.heap.size, 3, none⟩ = some (.int .i64 x4) := HJ3.out.cell 3
    have hb1 := HB1.out.keep HK3.out (fun h => h)
    have y0 : w3.cell? ⟨w.heap.size, 0, none⟩ = some (.slice Ae ne ce) := hb1.cell 0
    have y1 : w3.cell? ⟨w.heap.size, 1, none⟩ = some (.slice (some ad) nj cj) := hb1.cell 1
    have y2 : w3.cell? ⟨w.heap.size, 2, none⟩ = some (.slice Ab nb cb) := hb1.cell 2
    have y3 : w3.cell? ⟨w.heap.size, 3, none⟩ = some (.slice Ar nr cr) := hb1.cell 3
    clear hb1
    cases he1 : endB ne (x1, x2) with
    | false =>
     have HF := Lib.hid (HJe.out (.inl he1))
     clear he1
     go_wp2_with fail
     go_ret
     exact ⟨by rw [HF.out]; rfl, HK.out.trans HK3.out⟩
    | true =>
     have HE1 := Lib.hid he1
     clear he1
     go_wp2_with fail
     refine (HEn.out _ _ _).mono ?_
     rintro e w4 ⟨rfl, hk4⟩
     have HK4 := Lib.hid (HK3.out.trans hk4)
     have HJ4 := Lib.hid (HJ3.out.keep hk4 (fun h => h))
     clear hk4 d0 d1 d2 d3 y0 y1 y2 y3
     have d0 : w4.cell? ⟨wr.heap.size, 0, none⟩ = some (.int .i64 x1) := HJ4.out.cell 0
     have d1 : w4.cell? ⟨wr.heap.size, 1, none⟩ = some (.int .i64 x2) := HJ4.out.cell 1
     have d2 : w4.cell? ⟨wr.heap.size, 2, none⟩ = some (.int .i64 x3) := HJ4.out.cell 2
     have d3 : w4.cell? ⟨wr.heap.size, 3, none⟩ = some (.int .i64 x4) := HJ4.out.cell 3
     have y1 : w4.cell? ⟨w.heap.size, 1, none⟩ = some (.slice (some ad) nj cj) := (HB1.out.keep HK4.out (fun h => h)).cell 1
     cases he2 : endB ne (x3, x4) with
     | false =>
      have HF := Lib.hid (HJe.out (.inr (.inl he2)))
      clear he2
      go_wp2_with fail
      go_ret
      exact ⟨by rw [HF.out]; rfl, HK.out.trans HK4.out⟩
     | true =>
      have HE2 := Lib.hid he2
      clear he2
      rcases Bool.eq_false_or_eq_true (sameE x1 x2 x3 x4) with t1 | t1
      ·have HF := Lib.hid (HJe.out (.inr (.inr (of_decide_eq_true t1))))
       go_wp2_with fail
       go_ret
       exact ⟨by rw [HF.out]; rfl, HK.out.trans HK4.out⟩
      ·have HNe : Hid (¬ ((x1, x2) : En) = (x3, x4)) := Lib.hid (of_decide_eq_false t1)
       have hq := run_front Tryz.underlying23 Tryz.sizeOf134 (some ad) nj cj k hk HTp.out.j.cap
       have HJs : Hid (∀ W, Keep Never w W → Calls Tryz.prog 103 #[.agg #[.slice none 0 0, .slice (some ad) k cj, .slice none 0 0, .slice none 0 0], .agg #[.int .i64 x1, .int .i64 x2], .agg #[.int .i64 x3, .int .i64 x4]] W fun e w' => e = .returned (.bool (joinB (t.2.1.take k) (x1, x2) (x3, x4))) ∧ Keep Never W w') := Lib.hid (fun W hk0 => joins_any ⟨none, 0, 0, some ad, k, cj, none, 0, 0, none, 0, 0⟩ ([], t.2.1.take k, [], []) B (x1, x2) (x3, x4) W ⟨Rep.Sl.nil _ _ _, Sl.front (HTp.out.keep hk0).j hk, Rep.Sl.nil _ _ _, Rep.Sl.nil _ _ _⟩ (by show k ≤ 100000000; omega))
       have HS4 : Hid (∀ w', Keep Never w4 w' → Keep Never w4 w' ∧ w'.cell? ⟨wr.heap.size, 0, none⟩ = some (.int .i64 x1) ∧ w'.cell? ⟨wr.heap.size, 1, none⟩ = some (.int .i64 x2) ∧ w'.cell? ⟨wr.heap.size, 2, none⟩ = some (.int .i64 x3) ∧ w'.cell? ⟨wr.heap.size, 3, none⟩ = some (.int .i64 x4) ∧ w'.cell? ⟨w.heap.size, 1, none⟩ = some (.slice (some ad) nj cj)) := Lib.hid (fun w' h => ⟨h, keepT h d0, keepT h d1, keepT h d2, keepT h d3, keepT h y1⟩)
       obtain ⟨jb, hjb⟩ : ∃ b, joinB (t.2.1.take k) (x1, x2) (x3, x4) = b := ⟨_, rfl⟩
       rw [hjb] at HJs
       have HJv := Lib.hid hjb
       have HKw := Lib.hid (HK.out.trans HK4.out)
       clear hjb
       go_wp2_with fail
       go_region_held3 (fun w' => Keep Never w4 w' ∧ w'.cell? ⟨wr.heap.size, 0, none⟩ = some (.int .i64 x1) ∧ w'.cell? ⟨wr.heap.size, 1, none⟩ = some (.int .i64 x2) ∧ w'.cell? ⟨wr.heap.size, 2, none⟩ = some (.int .i64 x3) ∧ w'.cell? ⟨wr.heap.size, 3, none⟩ = some (.int .i64 x4) ∧ w'.cell? ⟨w.heap.size, 1, none⟩ = some (.slice (some ad) nj cj))
        (first | assumption | exact HS4.out _ ((Keep.refl Never w4).drew) | exact HS4.out _ (Keep.trans (And.left (by assumption)) hk'))
        (first
         | (go_at_call 103; refine (HJs.out _ (HKw.out.trans (by first | exact (Keep.refl Never w4).drew | exact And.left (by assumption)))).mono ?_; rintro e w' ⟨rfl, hk'⟩))
       rename_i hS
       have HKe := Lib.hid (HK4.out.trans (And.left hS))
       clear hS hq d0 d1 d2 d3 y1 HJs HS4 HEn HRd
       cases jb with
       | true =>
        have HF : Hid (checkM t = 5) := Lib.hid (by
         have h1 : jErr t k = 5 := by unfold jErr; rw [Hj.out]; simp only; rw [← HL.out.1, if_neg (by rw [HE1.out, HE2.out]; simpa using HNe.out), if_pos HJv.out]
         have h2 : firstE (jErr t) t.2.1.length = 5 := firstE_at (k := 0) (by rw [← HL.out.2.1]; exact h0) HH.out.2 h1 (by decide)
         unfold checkM; rw [if_neg HN1.out, if_neg HN2.out, h2, if_pos (by decide)])
        go_wp2_with fail
        go_ret
        exact ⟨by rw [HF.out]; rfl, HK.out.trans HKe.out⟩
       | false =>
        have HZ : Hid (jErr t k = 0) := Lib.hid (by unfold jErr; rw [Hj.out]; simp only; rw [← HL.out.1, if_neg (by rw [HE1.out, HE2.out]; simpa using HNe.out), if_neg (by rw [HJv.out]; simp)])
        go_wp2_with fail
        refine ⟨⟨k + 1, by omega, by go_num, Lib.hid ⟨HKe.out, fun j hj => ?_⟩⟩, ?_⟩
        ·by_cases e : j = k
         ·rw [e]; exact HZ.out
         ·exact HH.out.2 j (by omega)
        ·simp [intOf]; try omega
   ·obtain rfl : k = nj := by omega
    have hkz : ¬ (k : Int) < (k : Int) := by omega
    have HN3 : Hid (¬ firstE (jErr t) t.2.1.length ≠ 0) := Lib.hid (by rw [firstE_zero (fun j hj => HH.out.2 j (by rw [HL.out.2.1]; exact hj))]; simp)
    have HKr := Lib.hid HH.out.1
    have y2 : wr.cell? ⟨w.heap.size, 2, none⟩ = some (.slice Ab nb cb) := (HB1.out.keep HH.out.1 (fun h => h)).cell 2
    clear HH HEn
    go_wp2_with fail
    clear y2
    go_loopw [5, 6, 7, 8, 80] (fun _ _ _ _ i wr => ∃ q : Nat, q ≤ nb ∧ i = .int .i64 q ∧ Hid (Keep Never w1 wr ∧ ∀ j, j < q → bErr t j = 0)) (fun _ _ _ _ i _ => nb - (intOf i).toNat)
    case atStart => exact ⟨0, by omega, rfl, Lib.hid ⟨HKr.out, fun j h => by omega⟩⟩
    case round =>
     rename Nat => nj
     obtain ⟨k, hk, rfl, HH⟩ := hrel
     by_cases h0 : k < nb
     ·have hkz : (k : Int) < (nb : Int) := by omega
      obtain ⟨ad, b, hA, _, hb, c0, c1, c2⟩ := (bl_rd (HTp.out.keep (HK.out.trans HH.out.1)).b).sp h0
      simp only at hA
      subst hA
      obtain ⟨x1, x2, x3⟩ := b
      simp only at c0 c1 c2
      obtain ⟨W1, hW1⟩ : ∃ W : World, wr.alloc (.cells #[.int .i64 x1, .int .i64 x2, .int .i64 x3] 94) = W := ⟨_, rfl⟩
      have K1 : Keep Never wr W1 := by rw [← hW1]; exact (Keep.refl _ _).alloc _
      have B1 := Blk.new wr 94 #[.int .i64 x1, .int .i64 x2, .int .i64 x3]
      rw [hW1] at B1
      have HKW := Lib.hid (HH.out.1.trans K1)
      have d0 : W1.cell? ⟨wr.heap.size, 0, none⟩ = some (.int .i64 x1) := B1.cell 0
      have d1 : W1.cell? ⟨wr.heap.size, 1, none⟩ = some (.int .i64 x2) := B1.cell 1
      have d2 : W1.cell? ⟨wr.heap.size, 2, none⟩ = some (.int .i64 x3) := B1.cell 2
      have hb1 := HB1.out.keep HKW.out (fun h => h)
      have y2o : wr.cell? ⟨w.heap.size, 2, none⟩ = some (.slice (some ad) nb cb) := (HB1.out.keep HH.out.1 (fun h => h)).cell 2
      have y0 : W1.cell? ⟨w.heap.size, 0, none⟩ = some (.slice Ae ne ce) := hb1.cell 0
      have y1 : W1.cell? ⟨w.heap.size, 1, none⟩ = some (.slice Aj nj cj) := hb1.cell 1
      have y2 : W1.cell? ⟨w.heap.size, 2, none⟩ = some (.slice (some ad) nb cb) := hb1.cell 2
      have y3 : W1.cell? ⟨w.heap.size, 3, none⟩ = some (.slice Ar nr cr) := hb1.cell 3
      have Hb := Lib.hid hb
      have HBe : Hid ((x1 < 0 ∨ 16777214 < x1 ∨ thereB ne x2 = false ∨ x3 < 0 ∨ t.1.getD x2.toNat 0 < x3) → checkM t = 1) := Lib.hid (fun h => by
       have h1 : bErr t k = 1 := by unfold bErr; rw [hb]; simp only; rw [← HL.out.1, if_pos h]
       have h2 : firstE (bErr t) t.2.2.1.length = 1 := firstE_at (k := 0) (by rw [← HL.out.2.2.1]; exact h0) HH.out.2 h1 (by decide)
       unfold checkM; rw [if_neg HN1.out, if_neg HN2.out, if_neg HN3.out, h2, if_pos (by decide)])
      have hTt := HT.out x2
      clear hb K1 B1 hb1 HRd HT
      go_wp2_with fail
      clear c0 c1 c2 hW1 y2o
      by_cases g1 : x1 < 0
      ·have t1 : decide (x1 < 0) = true := by simpa using g1
       have HF := Lib.hid (HBe.out (.inl g1))
       have HS8 : Hid (∀ w', Keep Never W1 w' → Keep Never W1 w' ∧ w'.cell? ⟨wr.heap.size, 0, none⟩ = some (.int .i64 x1) ∧ w'.cell? ⟨wr.heap.size, 1, none⟩ = some (.int .i64 x2) ∧ w'.cell? ⟨wr.heap.size, 2, none⟩ = some (.int .i64 x3) ∧ w'.cell? ⟨w.heap.size, 0, none⟩ = some (.slice Ae ne ce) ∧ w'.cell? ⟨w.heap.size, 1, none⟩ = some (.slice Aj nj cj) ∧ w'.cell? ⟨w.heap.size, 2, none⟩ = some (.slice (some ad) nb cb) ∧ w'.cell? ⟨w.heap.size, 3, none⟩ = some (.slice Ar nr cr) ∧ w'.cell? ⟨wr.heap.size, 0, none⟩ = some (.int .i64 x1)) := Lib.hid (fun w' h => ⟨h, keepT h d0, keepT h d1, keepT h d2, keepT h y0, keepT h y1, keepT h y2, keepT h y3, keepT h d0⟩)
       clear g1 hTt HBe
       refine wp_region_noPanic ?_
       refine wp_region_held_drew (S := (fun w' => Keep Never W1 w' ∧ w'.cell? ⟨wr.heap.size, 0, none⟩ = some (.int .i64 x1) ∧ w'.cell? ⟨wr.heap.size, 1, none⟩ = some (.int .i64 x2) ∧ w'.cell? ⟨wr.heap.size, 2, none⟩ = some (.int .i64 x3) ∧ w'.cell? ⟨w.heap.size, 0, none⟩ = some (.slice Ae ne ce) ∧ w'.cell? ⟨w.heap.size, 1, none⟩ = some (.slice Aj nj cj) ∧ w'.cell? ⟨w.heap.size, 2, none⟩ = some (.slice (some ad) nb cb) ∧ w'.cell? ⟨w.heap.size, 3, none⟩ = some (.slice Ar nr cr) ∧ w'.cell? ⟨wr.heap.size, 0, none⟩ = some (.int .i64 x1))) (by kernel_rfl) ?_ (fun hHeld => ?_)
       ·exact HS8.out _ ((Keep.refl Never W1).drew)
       refine wpAnyH_take (i := 0) (oi := ?_) (v := ?_) ?_ (by kernel_rfl) (by kernel_rfl) (by kernel_rfl) (fun _ _ _ h => h) (Or.inl ⟨?_, ?_⟩) (by assumption) ?_
       rotate_left 2
       ·(simp only [List.getElem?_toArray, List.getElem?_cons_zero]; rfl)
       ·rfl
       ·(intro w hSw; (try dsimp only at hSw); go_simp; (try with_reducible rfl))
       try simp only [Act.put, List.setIfInBounds_toArray, List.set_cons_zero, List.set_cons_succ]
       refine wpAnyH_take (i := 1) (oi := ?_) (v := ?_) ?_ (by kernel_rfl) (by kernel_rfl) (by kernel_rfl) (fun _ _ _ h => h) (Or.inl ⟨?_, ?_⟩) (by assumption) ?_
       rotate_left 2
       ·(simp only [List.getElem?_toArray, List.getElem?_cons_succ, List.getElem?_cons_zero]; rfl)
       ·rfl
       ·(intro w hSw; (try dsimp only at hSw); go_simp; (try with_reducible rfl))
       try simp only [Act.put, List.setIfInBounds_toArray, List.set_cons_zero, List.set_cons_succ]
       refine wpAnyH_take (i := 2) (oi := ?_) (v := ?_) ?_ (by kernel_rfl) (by kernel_rfl) (by kernel_rfl) (fun _ _ _ h => h) (Or.inl ⟨?_, ?_⟩) (by assumption) ?_
       rotate_left 2
       ·(simp only [List.getElem?_toArray, List.getElem?_cons_succ, List.getElem?_cons_zero]; rfl)
       ·rfl
       ·(intro w hSw; (try dsimp only at hSw); go_simp; (try with_reducible rfl))
       try simp only [Act.put, List.setIfInBounds_toArray, List.set_cons_zero, List.set_cons_succ]
       refine wpAnyH_take (i := 3) (oi := ?_) (v := ?_) ?_ (by kernel_rfl) (by kernel_rfl) (by kernel_rfl) (fun _ _ _ h => h) (Or.inl ⟨?_, ?_⟩) (by assumption) ?_
       rotate_left 2
       ·(simp only [List.getElem?_toArray, List.getElem?_cons_succ, List.getElem?_cons_zero]; rfl)
       ·rfl
       ·(intro w hSw; (try dsimp only at hSw); go_simp; (try with_reducible rfl))
       try simp only [Act.put, List.setIfInBounds_toArray, List.set_cons_zero, List.set_cons_succ]
       refine wpAnyH_take (i := 4) (oi := ?_) (v := undef) ?_ (by kernel_rfl) (by kernel_rfl) (by kernel_rfl) (fun _ _ _ h => h) (Or.inr ⟨?_, rfl⟩) (by assumption) ?_
       rotate_left 1
       ·(simp only [List.getElem?_toArray, List.getElem?_cons_succ, List.getElem?_cons_zero]; rfl)
       ·rfl
       try simp only [Act.put, List.setIfInBounds_toArray, List.set_cons_zero, List.set_cons_succ]
       refine wpAnyH_take (i := 5) (oi := ?_) (v := undef) ?_ (by kernel_rfl) (by kernel_rfl) (by kernel_rfl) (fun _ _ _ h => h) (Or.inr ⟨?_, rfl⟩) (by assumption) ?_
       rotate_left 1
       ·(simp only [List.getElem?_toArray, List.getElem?_cons_succ, List.getElem?_cons_zero]; rfl)
       ·rfl
       try simp only [Act.put, List.setIfInBounds_toArray, List.set_cons_zero, List.set_cons_succ]
       refine wpAnyH_take (i := 6) (oi := ?_) (v := undef) ?_ (by kernel_rfl) (by kernel_rfl) (by kernel_rfl) (fun _ _ _ h => h) (Or.inr ⟨?_, rfl⟩) (by assumption) ?_
       rotate_left 1
       ·(simp only [List.getElem?_toArray, List.getElem?_cons_succ, List.getElem?_cons_zero]; rfl)
       ·rfl
       try simp only [Act.put, List.setIfInBounds_toArray, List.set_cons_zero, List.set_cons_succ]
       refine wpAnyH_take (i := 7) (oi := ?_) (v := ?_) ?_ (by kernel_rfl) (by kernel_rfl) (by kernel_rfl) (fun _ _ _ h => h) (Or.inl ⟨?_, ?_⟩) (by assumption) ?_
       rotate_left 2
       ·(simp only [List.getElem?_toArray, List.getElem?_cons_succ, List.getElem?_cons_zero]; rfl)
       ·rfl
       ·(intro w hSw; (try dsimp only at hSw); go_simp; (try with_reducible rfl))
       try simp only [Act.put, List.setIfInBounds_toArray, List.set_cons_zero, List.set_cons_succ]
       refine wpAnyH_take (i := 8) (oi := ?_) (v := ?_) ?_ (by kernel_rfl) (by kernel_rfl) (by kernel_rfl) (fun _ _ _ h => h) (Or.inl ⟨?_, ?_⟩) (by assumption) ?_
       rotate_left 2
       ·(simp only [List.getElem?_toArray, List.getElem?_cons_succ, List.getElem?_cons_zero]; rfl)
       ·rfl
       ·(intro w hSw; (try dsimp only at hSw); go_simp; (try with_reducible rfl))
       try simp only [Act.put, List.setIfInBounds_toArray, List.set_cons_zero, List.set_cons_succ]
       refine wpAnyH_take (i := 9) (oi := ?_) (v := undef) ?_ (by kernel_rfl) (by kernel_rfl) (by kernel_rfl) (fun _ _ _ h => h) (Or.inr ⟨?_, rfl⟩) (by assumption) ?_
       rotate_left 1
       ·(simp only [List.getElem?_toArray, List.getElem?_cons_succ, List.getElem?_cons_zero]; rfl)
       ·rfl
       try simp only [Act.put, List.setIfInBounds_toArray, List.set_cons_zero, List.set_cons_succ]
       refine wpAnyH_take (i := 10) (oi := ?_) (v := undef) ?_ (by kernel_rfl) (by kernel_rfl) (by kernel_rfl) (fun _ _ _ h => h) (Or.inr ⟨?_, rfl⟩) (by assumption) ?_
       rotate_left 1
       ·(simp only [List.getElem?_toArray, List.getElem?_cons_succ, List.getElem?_cons_zero]; rfl)
       ·rfl
       try simp only [Act.put, List.setIfInBounds_toArray, List.set_cons_zero, List.set_cons_succ]
       refine wpAnyH_take (i := 11) (oi := ?_) (v := undef) ?_ (by kernel_rfl) (by kernel_rfl) (by kernel_rfl) (fun _ _ _ h => h) (Or.inr ⟨?_, rfl⟩) (by assumption) ?_
       rotate_left 1
       ·(simp only [List.getElem?_toArray, List.getElem?_cons_succ, List.getElem?_cons_zero]; rfl)
       ·rfl
       try simp only [Act.put, List.setIfInBounds_toArray, List.set_cons_zero, List.set_cons_succ]
       refine wpAnyH_take (i := 12) (oi := ?_) (v := undef) ?_ (by kernel_rfl) (by kernel_rfl) (by kernel_rfl) (fun _ _ _ h => h) (Or.inr ⟨?_, rfl⟩) (by assumption) ?_
       rotate_left 1
       ·(simp only [List.getElem?_toArray, List.getElem?_cons_succ, List.getElem?_cons_zero]; rfl)
       ·rfl
       try simp only [Act.put, List.setIfInBounds_toArray, List.set_cons_zero, List.set_cons_succ]
       refine wpAnyH_take (i := 13) (oi := ?_) (v := undef) ?_ (by kernel_rfl) (by kernel_rfl) (by kernel_rfl) (fun _ _ _ h => h) (Or.inr ⟨?_, rfl⟩) (by assumption) ?_
       rotate_left 1
       ·(simp only [List.getElem?_toArray, List.getElem?_cons_succ, List.getElem?_cons_zero]; rfl)
       ·rfl
       try simp only [Act.put, List.setIfInBounds_toArray, List.set_cons_zero, List.set_cons_succ]
       refine wpAnyH_take (i := 14) (oi := ?_) (v := ?_) ?_ (by kernel_rfl) (by kernel_rfl) (by kernel_rfl) (fun _ _ _ h => h) (Or.inl ⟨?_, ?_⟩) (by assumption) ?_
       rotate_left 2
       ·(simp only [List.getElem?_toArray, List.getElem?_cons_succ, List.getElem?_cons_zero]; rfl)
       ·rfl
       ·(intro w hSw; (try dsimp only at hSw); go_simp; (try with_reducible rfl))
       try simp only [Act.put, List.setIfInBounds_toArray, List.set_cons_zero, List.set_cons_succ]
       refine wpAnyH_take (i := 15) (oi := ?_) (v := ?_) ?_ (by kernel_rfl) (by kernel_rfl) (by kernel_rfl) (fun _ _ _ h => h) (Or.inl ⟨?_, ?_⟩) (by assumption) ?_
       rotate_left 2
       ·(simp only [List.getElem?_toArray, List.getElem?_cons_succ, List.getElem?_cons_zero]; rfl)
       ·rfl
       ·(intro w hSw; (try dsimp only at hSw); go_simp; (try with_reducible rfl))
       try simp only [Act.put, List.setIfInBounds_toArray, List.set_cons_zero, List.set_cons_succ]
       refine wpAnyH_take (i := 16) (oi := ?_) (v := undef) ?_ (by kernel_rfl) (by kernel_rfl) (by kernel_rfl) (fun _ _ _ h => h) (Or.inr ⟨?_, rfl⟩) (by assumption) ?_
       rotate_left 1
       ·(simp only [List.getElem?_toArray, List.getElem?_cons_succ, List.getElem?_cons_zero]; rfl)
       ·rfl
       try simp only [Act.put, List.setIfInBounds_toArray, List.set_cons_zero, List.set_cons_succ]
       refine wpAnyH_take (i := 17) (oi := ?_) (v := undef) ?_ (by kernel_rfl) (by kernel_rfl) (by kernel_rfl) (fun _ _ _ h => h) (Or.inr ⟨?_, rfl⟩) (by assumption) ?_
       rotate_left 1
       ·(simp only [List.getElem?_toArray, List.getElem?_cons_succ, List.getElem?_cons_zero]; rfl)
       ·rfl
       try simp only [Act.put, List.setIfInBounds_toArray, List.set_cons_zero, List.set_cons_succ]
       refine wpAnyH_take (i := 18) (oi := ?_) (v := undef) ?_ (by kernel_rfl) (by kernel_rfl) (by kernel_rfl) (fun _ _ _ h => h) (Or.inr ⟨?_, rfl⟩) (by assumption) ?_
       rotate_left 1
       ·(simp only [List.getElem?_toArray, List.getElem?_cons_succ, List.getElem?_cons_zero]; rfl)
       ·rfl
       try simp only [Act.put, List.setIfInBounds_toArray, List.set_cons_zero, List.set_cons_succ]
       refine wpAnyH_take (i := 19) (oi := ?_) (v := ?_) ?_ (by kernel_rfl) (by kernel_rfl) (by kernel_rfl) (fun _ _ _ h => h) (Or.inl ⟨?_, ?_⟩) (by assumption) ?_
       rotate_left 2
       ·(simp only [List.getElem?_toArray, List.getElem?_cons_succ, List.getElem?_cons_zero]; rfl)
       ·rfl
       ·(intro w hSw; (try dsimp only at hSw); go_simp; (try with_reducible rfl))
       try simp only [Act.put, List.setIfInBounds_toArray, List.set_cons_zero, List.set_cons_succ]
       refine wpAnyH_take (i := 20) (oi := ?_) (v := ?_) ?_ (by kernel_rfl) (by kernel_rfl) (by kernel_rfl) (fun _ _ _ h => h) (Or.inl ⟨?_, ?_⟩) (by assumption) ?_
       rotate_left 2
       ·(simp only [List.getElem?_toArray, List.getElem?_cons_succ, List.getElem?_cons_zero]; rfl)
       ·rfl
       ·(intro w hSw; (try dsimp only at hSw); go_simp; (try with_reducible rfl))
       try simp only [Act.put, List.setIfInBounds_toArray, List.set_cons_zero, List.set_cons_succ]
       refine wpAnyH_take (i := 21) (oi := ?_) (v := undef) ?_ (by kernel_rfl) (by kernel_rfl) (by kernel_rfl) (fun _ _ _ h => h) (Or.inr ⟨?_, rfl⟩) (by assumption) ?_
       rotate_left 1
       ·(simp only [List.getElem?_toArray, List.getElem?_cons_succ, List.getElem?_cons_zero]; rfl)
       ·rfl
       try simp only [Act.put, List.setIfInBounds_toArray, List.set_cons_zero, List.set_cons_succ]
       refine wpAnyH_take (i := 22) (oi := ?_) (v := undef) ?_ (by kernel_rfl) (by kernel_rfl) (by kernel_rfl) (fun _ _ _ h => h) (Or.inr ⟨?_, rfl⟩) (by assumption) ?_
       rotate_left 1
       ·(simp only [List.getElem?_toArray, List.getElem?_cons_succ, List.getElem?_cons_zero]; rfl)
       ·rfl
       try simp only [Act.put, List.setIfInBounds_toArray, List.set_cons_zero, List.set_cons_succ]
       refine wpAnyH_take (i := 23) (oi := ?_) (v := undef) ?_ (by kernel_rfl) (by kernel_rfl) (by kernel_rfl) (fun _ _ _ h => h) (Or.inr ⟨?_, rfl⟩) (by assumption) ?_
       rotate_left 1
       ·(simp only [List.getElem?_toArray, List.getElem?_cons_succ, List.getElem?_cons_zero]; rfl)
       ·rfl
       try simp only [Act.put, List.setIfInBounds_toArray, List.set_cons_zero, List.set_cons_succ]
       refine wpAnyH_take (i := 24) (oi := ?_) (v := undef) ?_ (by kernel_rfl) (by kernel_rfl) (by kernel_rfl) (fun _ _ _ h => h) (Or.inr ⟨?_, rfl⟩) (by assumption) ?_
       rotate_left 1
       ·(simp only [List.getElem?_toArray, List.getElem?_cons_succ, List.getElem?_cons_zero]; rfl)
       ·rfl
       try simp only [Act.put, List.setIfInBounds_toArray, List.set_cons_zero, List.set_cons_succ]
       refine wpAnyH_take (i := 25) (oi := ?_) (v := undef) ?_ (by kernel_rfl) (by kernel_rfl) (by kernel_rfl) (fun _ _ _ h => h) (Or.inr ⟨?_, rfl⟩) (by assumption) ?_
       rotate_left 1
       ·(simp only [List.getElem?_toArray, List.getElem?_cons_succ, List.getElem?_cons_zero]; rfl)
       ·rfl
       try simp only [Act.put, List.setIfInBounds_toArray, List.set_cons_zero, List.set_cons_succ]
       refine wpAnyH_take (i := 26) (oi := ?_) (v := undef) ?_ (by kernel_rfl) (by kernel_rfl) (by kernel_rfl) (fun _ _ _ h => h) (Or.inr ⟨?_, rfl⟩) (by assumption) ?_
       rotate_left 1
       ·(simp only [List.getElem?_toArray, List.getElem?_cons_succ, List.getElem?_cons_zero]; rfl)
       ·rfl
       try simp only [Act.put, List.setIfInBounds_toArray, List.set_cons_zero, List.set_cons_succ]
       refine wpAnyH_take (i := 27) (oi := ?_) (v := undef) ?_ (by kernel_rfl) (by kernel_rfl) (by kernel_rfl) (fun _ _ _ h => h) (Or.inr ⟨?_, rfl⟩) (by assumption) ?_
       rotate_left 1
       ·(simp only [List.getElem?_toArray, List.getElem?_cons_succ, List.getElem?_cons_zero]; rfl)
       ·rfl
       try simp only [Act.put, List.setIfInBounds_toArray, List.set_cons_zero, List.set_cons_succ]
       refine wpAnyH_take (i := 28) (oi := ?_) (v := undef) ?_ (by kernel_rfl) (by kernel_rfl) (by kernel_rfl) (fun _ _ _ h => h) (Or.inr ⟨?_, rfl⟩) (by assumption) ?_
       rotate_left 1
       ·(simp only [List.getElem?_toArray, List.getElem?_cons_succ, List.getElem?_cons_zero]; rfl)
       ·rfl
       try simp only [Act.put, List.setIfInBounds_toArray, List.set_cons_zero, List.set_cons_succ]
       refine wpAnyH_take (i := 29) (oi := ?_) (v := undef) ?_ (by kernel_rfl) (by kernel_rfl) (by kernel_rfl) (fun _ _ _ h => h) (Or.inr ⟨?_, rfl⟩) (by assumption) ?_
       rotate_left 1
       ·(simp only [List.getElem?_toArray, List.getElem?_cons_succ, List.getElem?_cons_zero]; rfl)
       ·rfl
       try simp only [Act.put, List.setIfInBounds_toArray, List.set_cons_zero, List.set_cons_succ]
       refine wpAnyH_take (i := 30) (oi := ?_) (v := ?_) ?_ (by kernel_rfl) (by kernel_rfl) (by kernel_rfl) (fun _ _ _ h => h) (Or.inl ⟨?_, ?_⟩) (by assumption) ?_
       rotate_left 2
       ·(simp only [List.getElem?_toArray, List.getElem?_cons_succ, List.getElem?_cons_zero]; rfl)
       ·rfl
       ·(intro w hSw; (try dsimp only at hSw); go_simp; (try with_reducible rfl))
       try simp only [Act.put, List.setIfInBounds_toArray, List.set_cons_zero, List.set_cons_succ]
       refine wpAnyH_done (by kernel_rfl) ?_ _
       refine NoPanic.normal ?_
       have hS := hHeld
       have HKe := Lib.hid (And.left hS)
       clear hS hHeld HS8 d0 d1 d2 y0 y1 y2 y3
       go_wp2_with fail
       go_ret
       exact ⟨by rw [HF.out]; rfl, HK.out.trans (HKW.out.trans HKe.out)⟩
      have t1 : decide (x1 < 0) = false := by simpa using g1
      by_cases g2 : 16777214 < x1
      ·have t2 : decide (x1 > 16777214) = true := by simpa using g2
       have HF := Lib.hid (HBe.out (.inr (.inl g2)))
       have HS8 : Hid (∀ w', Keep Never W1 w' → Keep Never W1 w' ∧ w'.cell? ⟨wr.heap.size, 0, none⟩ = some (.int .i64 x1) ∧ w'.cell? ⟨wr.heap.size, 1, none⟩ = some (.int .i64 x2) ∧ w'.cell? ⟨wr.heap.size, 2, none⟩ = some (.int .i64 x3) ∧ w'.cell? ⟨w.heap.size, 0, none⟩ = some (.slice Ae ne ce) ∧ w'.cell? ⟨w.heap.size, 1, none⟩ = some (.slice Aj nj cj) ∧ w'.cell? ⟨w.heap.size, 2, none⟩ = some (.slice (some ad) nb cb) ∧ w'.cell? ⟨w.heap.size, 3, none⟩ = some (.slice Ar nr cr) ∧ w'.cell? ⟨wr.heap.size, 0, none⟩ = some (.int .i64 x1)) := Lib.hid (fun w' h => ⟨h, keepT h d0, keepT h d1, keepT h d2, keepT h y0, keepT h y1, keepT h y2, keepT h y3, keepT h d0⟩)
       clear g1 g2 hTt HBe
       refine wp_region_noPanic ?_
       refine wp_region_held_drew (S := (fun w' => Keep Never W1 w' ∧ w'.cell? ⟨wr.heap.size, 0, none⟩ = some (.int .i64 x1) ∧ w'.cell? ⟨wr.heap.size, 1, none⟩ = some (.int .i64 x2) ∧ w'.cell? ⟨wr.heap.size, 2, none⟩ = some (.int .i64 x3) ∧ w'.cell? ⟨w.heap.size, 0, none⟩ = some (.slice Ae ne ce) ∧ w'.cell? ⟨w.heap.size, 1, none⟩ = some (.slice Aj nj cj) ∧ w'.cell? ⟨w.heap.size, 2, none⟩ = some (.slice (some ad) nb cb) ∧ w'.cell? ⟨w.heap.size, 3, none⟩ = some (.slice Ar nr cr) ∧ w'.cell? ⟨wr.heap.size, 0, none⟩ = some (.int .i64 x1))) (by kernel_rfl) ?_ (fun hHeld => ?_)
       ·exact HS8.out _ ((Keep.refl Never W1).drew)
       refine wpAnyH_take (i := 0) (oi := ?_) (v := ?_) ?_ (by kernel_rfl) (by kernel_rfl) (by kernel_rfl) (fun _ _ _ h => h) (Or.inl ⟨?_, ?_⟩) (by assumption) ?_
       rotate_left 2
       ·(simp only [List.getElem?_toArray, List.getElem?_cons_zero]; rfl)
       ·rfl
       ·(intro w hSw; (try dsimp only at hSw); go_simp; (try with_reducible rfl))
       try simp only [Act.put, List.setIfInBounds_toArray, List.set_cons_zero, List.set_cons_succ]
       refine wpAnyH_take (i := 1) (oi := ?_) (v := ?_) ?_ (by kernel_rfl) (by kernel_rfl) (by kernel_rfl) (fun _ _ _ h => h) (Or.inl ⟨?_, ?_⟩) (by assumption) ?_
       rotate_left 2
       ·(simp only [List.getElem?_toArray, List.getElem?_cons_succ, List.getElem?_cons_zero]; rfl)
       ·rfl
       ·(intro w hSw; (try dsimp only at hSw); go_simp; (try with_reducible rfl))
       try simp only [Act.put, List.setIfInBounds_toArray, List.set_cons_zero, List.set_cons_succ]
       refine wpAnyH_take (i := 2) (oi := ?_) (v := ?_) ?_ (by kernel_rfl) (by kernel_rfl) (by kernel_rfl) (fun _ _ _ h => h) (Or.inl ⟨?_, ?_⟩) (by assumption) ?_
       rotate_left 2
       ·(simp only [List.getElem?_toArray, List.getElem?_cons_succ, List.getElem?_cons_zero]; rfl)
       ·rfl
       ·(intro w hSw; (try dsimp only at hSw); go_simp; (try with_reducible rfl))
       try simp only [Act.put, List.setIfInBounds_toArray, List.set_cons_zero, List.set_cons_succ]
       refine wpAnyH_take (i := 3) (oi := ?_) (v := ?_) ?_ (by kernel_rfl) (by kernel_rfl) (by kernel_rfl) (fun _ _ _ h => h) (Or.inl ⟨?_, ?_⟩) (by assumption) ?_
       rotate_left 2
       ·(simp only [List.getElem?_toArray, List.getElem?_cons_succ, List.getElem?_cons_zero]; rfl)
       ·rfl
       ·(intro w hSw; (try dsimp only at hSw); go_simp; (try with_reducible rfl))
       try simp only [Act.put, List.setIfInBounds_toArray, List.set_cons_zero, List.set_cons_succ]
       refine wpAnyH_take (i := 4) (oi := ?_) (v := ?_) ?_ (by kernel_rfl) (by kernel_rfl) (by kernel_rfl) (fun _ _ _ h => h) (Or.inl ⟨?_, ?_⟩) (by assumption) ?_
       rotate_left 2
       ·(simp only [List.getElem?_toArray, List.getElem?_cons_succ, List.getElem?_cons_zero]; rfl)
       ·rfl
       ·(intro w hSw; (try dsimp only at hSw); go_simp; (try with_reducible rfl))
       try simp only [Act.put, List.setIfInBounds_toArray, List.set_cons_zero, List.set_cons_succ]
       refine wpAnyH_take (i := 5) (oi := ?_) (v := ?_) ?_ (by kernel_rfl) (by kernel_rfl) (by kernel_rfl) (fun _ _ _ h => h) (Or.inl ⟨?_, ?_⟩) (by assumption) ?_
       rotate_left 2
       ·(simp only [List.getElem?_toArray, List.getElem?_cons_succ, List.getElem?_cons_zero]; rfl)
       ·rfl
       ·(intro w hSw; (try dsimp only at hSw); go_simp; (try with_reducible rfl))
       try simp only [Act.put, List.setIfInBounds_toArray, List.set_cons_zero, List.set_cons_succ]
       refine wpAnyH_take (i := 6) (oi := ?_) (v := ?_) ?_ (by kernel_rfl) (by kernel_rfl) (by kernel_rfl) (fun _ _ _ h => h) (Or.inl ⟨?_, ?_⟩) (by assumption) ?_
       rotate_left 2
       ·(simp only [List.getElem?_toArray, List.getElem?_cons_succ, List.getElem?_cons_zero]; rfl)
       ·rfl
       ·(intro w hSw; (try dsimp only at hSw); go_simp; (try with_reducible rfl))
       try simp only [Act.put, List.setIfInBounds_toArray, List.set_cons_zero, List.set_cons_succ]
       refine wpAnyH_take (i := 7) (oi := ?_) (v := ?_) ?_ (by kernel_rfl) (by kernel_rfl) (by kernel_rfl) (fun _ _ _ h => h) (Or.inl ⟨?_, ?_⟩) (by assumption) ?_
       rotate_left 2
       ·(simp only [List.getElem?_toArray, List.getElem?_cons_succ, List.getElem?_cons_zero]; rfl)
       ·rfl
       ·(intro w hSw; (try dsimp only at hSw); go_simp; (try with_reducible rfl))
       try simp only [Act.put, List.setIfInBounds_toArray, List.set_cons_zero, List.set_cons_succ]
       refine wpAnyH_take (i := 8) (oi := ?_) (v := ?_) ?_ (by kernel_rfl) (by kernel_rfl) (by kernel_rfl) (fun _ _ _ h => h) (Or.inl ⟨?_, ?_⟩) (by assumption) ?_
       rotate_left 2
       ·(simp only [List.getElem?_toArray, List.getElem?_cons_succ, List.getElem?_cons_zero]; rfl)
       ·rfl
       ·(intro w hSw; (try dsimp only at hSw); go_simp; (try with_reducible rfl))
       try simp only [Act.put, List.setIfInBounds_toArray, List.set_cons_zero, List.set_cons_succ]
       refine wpAnyH_take (i := 9) (oi := ?_) (v := undef) ?_ (by kernel_rfl) (by kernel_rfl) (by kernel_rfl) (fun _ _ _ h => h) (Or.inr ⟨?_, rfl⟩) (by assumption) ?_
       rotate_left 1
       ·(simp only [List.getElem?_toArray, List.getElem?_cons_succ, List.getElem?_cons_zero]; rfl)
       ·rfl
       try simp only [Act.put, List.setIfInBounds_toArray, List.set_cons_zero, List.set_cons_succ]
       refine wpAnyH_take (i := 10) (oi := ?_) (v := undef) ?_ (by kernel_rfl) (by kernel_rfl) (by kernel_rfl) (fun _ _ _ h => h) (Or.inr ⟨?_, rfl⟩) (by assumption) ?_
       rotate_left 1
       ·(simp only [List.getElem?_toArray, List.getElem?_cons_succ, List.getElem?_cons_zero]; rfl)
       ·rfl
       try simp only [Act.put, List.setIfInBounds_toArray, List.set_cons_zero, List.set_cons_succ]
       refine wpAnyH_take (i := 11) (oi := ?_) (v := undef) ?_ (by kernel_rfl) (by kernel_rfl) (by kernel_rfl) (fun _ _ _ h => h) (Or.inr ⟨?_, rfl⟩) (by assumption) ?_
       rotate_left 1
       ·(simp only [List.getElem?_toArray, List.getElem?_cons_succ, List.getElem?_cons_zero]; rfl)
       ·rfl
       try simp only [Act.put, List.setIfInBounds_toArray, List.set_cons_zero, List.set_cons_succ]
       refine wpAnyH_take (i := 12) (oi := ?_) (v := undef) ?_ (by kernel_rfl) (by kernel_rfl) (by kernel_rfl) (fun _ _ _ h => h) (Or.inr ⟨?_, rfl⟩) (by assumption) ?_
       rotate_left 1
       ·(simp only [List.getElem?_toArray, List.getElem?_cons_succ, List.getElem?_cons_zero]; rfl)
       ·rfl
       try simp only [Act.put, List.setIfInBounds_toArray, List.set_cons_zero, List.set_cons_succ]
       refine wpAnyH_take (i := 13) (oi := ?_) (v := undef) ?_ (by kernel_rfl) (by kernel_rfl) (by kernel_rfl) (fun _ _ _ h => h) (Or.inr ⟨?_, rfl⟩) (by assumption) ?_
       rotate_left 1
       ·(simp only [List.getElem?_toArray, List.getElem?_cons_succ, List.getElem?_cons_zero]; rfl)
       ·rfl
       try simp only [Act.put, List.setIfInBounds_toArray, List.set_cons_zero, List.set_cons_succ]
       refine wpAnyH_take (i := 14) (oi := ?_) (v := ?_) ?_ (by kernel_rfl) (by kernel_rfl) (by kernel_rfl) (fun _ _ _ h => h) (Or.inl ⟨?_, ?_⟩) (by assumption) ?_
       rotate_left 2
       ·(simp only [List.getElem?_toArray, List.getElem?_cons_succ, List.getElem?_cons_zero]; rfl)
       ·rfl
       ·(intro w hSw; (try dsimp only at hSw); go_simp; (try with_reducible rfl))
       try simp only [Act.put, List.setIfInBounds_toArray, List.set_cons_zero, List.set_cons_succ]
       refine wpAnyH_take (i := 15) (oi := ?_) (v := ?_) ?_ (by kernel_rfl) (by kernel_rfl) (by kernel_rfl) (fun _ _ _ h => h) (Or.inl ⟨?_, ?_⟩) (by assumption) ?_
       rotate_left 2
       ·(simp only [List.getElem?_toArray, List.getElem?_cons_succ, List.getElem?_cons_zero]; rfl)
       ·rfl
       ·(intro w hSw; (try dsimp only at hSw); go_simp; (try with_reducible rfl))
       try simp only [Act.put, List.setIfInBounds_toArray, List.set_cons_zero, List.set_cons_succ]
       refine wpAnyH_take (i := 16) (oi := ?_) (v := undef) ?_ (by kernel_rfl) (by kernel_rfl) (by kernel_rfl) (fun _ _ _ h => h) (Or.inr ⟨?_, rfl⟩) (by assumption) ?_
       rotate_left 1
       ·(simp only [List.getElem?_toArray, List.getElem?_cons_succ, List.getElem?_cons_zero]; rfl)
       ·rfl
       try simp only [Act.put, List.setIfInBounds_toArray, List.set_cons_zero, List.set_cons_succ]
       refine wpAnyH_take (i := 17) (oi := ?_) (v := undef) ?_ (by kernel_rfl) (by kernel_rfl) (by kernel_rfl) (fun _ _ _ h => h) (Or.inr ⟨?_, rfl⟩) (by assumption) ?_
       rotate_left 1
       ·(simp only [List.getElem?_toArray, List.getElem?_cons_succ, List.getElem?_cons_zero]; rfl)
       ·rfl
       try simp only [Act.put, List.setIfInBounds_toArray, List.set_cons_zero, List.set_cons_succ]
       refine wpAnyH_take (i := 18) (oi := ?_) (v := undef) ?_ (by kernel_rfl) (by kernel_rfl) (by kernel_rfl) (fun _ _ _ h => h) (Or.inr ⟨?_, rfl⟩) (by assumption) ?_
       rotate_left 1
       ·(simp only [List.getElem?_toArray, List.getElem?_cons_succ, List.getElem?_cons_zero]; rfl)
       ·rfl
       try simp only [Act.put, List.setIfInBounds_toArray, List.set_cons_zero, List.set_cons_succ]
       refine wpAnyH_take (i := 19) (oi := ?_) (v := ?_) ?_ (by kernel_rfl) (by kernel_rfl) (by kernel_rfl) (fun _ _ _ h => h) (Or.inl ⟨?_, ?_⟩) (by assumption) ?_
       rotate_left 2
       ·(simp only [List.getElem?_toArray, List.getElem?_cons_succ, List.getElem?_cons_zero]; rfl)
       ·rfl
       ·(intro w hSw; (try dsimp only at hSw); go_simp; (try with_reducible rfl))
       try simp only [Act.put, List.setIfInBounds_toArray, List.set_cons_zero, List.set_cons_succ]
       refine wpAnyH_take (i := 20) (oi := ?_) (v := ?_) ?_ (by kernel_rfl) (by kernel_rfl) (by kernel_rfl) (fun _ _ _ h => h) (Or.inl ⟨?_, ?_⟩) (by assumption) ?_
       rotate_left 2
       ·(simp only [List.getElem?_toArray, List.getElem?_cons_succ, List.getElem?_cons_zero]; rfl)
       ·rfl
       ·(intro w hSw; (try dsimp only at hSw); go_simp; (try with_reducible rfl))
       try simp only [Act.put, List.setIfInBounds_toArray, List.set_cons_zero, List.set_cons_succ]
       refine wpAnyH_take (i := 21) (oi := ?_) (v := undef) ?_ (by kernel_rfl) (by kernel_rfl) (by kernel_rfl) (fun _ _ _ h => h) (Or.inr ⟨?_, rfl⟩) (by assumption) ?_
       rotate_left 1
       ·(simp only [List.getElem?_toArray, List.getElem?_cons_succ, List.getElem?_cons_zero]; rfl)
       ·rfl
       try simp only [Act.put, List.setIfInBounds_toArray, List.set_cons_zero, List.set_cons_succ]
       refine wpAnyH_take (i := 22) (oi := ?_) (v := undef) ?_ (by kernel_rfl) (by kernel_rfl) (by kernel_rfl) (fun _ _ _ h => h) (Or.inr ⟨?_, rfl⟩) (by assumption) ?_
       rotate_left 1
       ·(simp only [List.getElem?_toArray, List.getElem?_cons_succ, List.getElem?_cons_zero]; rfl)
       ·rfl
       try simp only [Act.put, List.setIfInBounds_toArray, List.set_cons_zero, List.set_cons_succ]
       refine wpAnyH_take (i := 23) (oi := ?_) (v := undef) ?_ (by kernel_rfl) (by kernel_rfl) (by kernel_rfl) (fun _ _ _ h => h) (Or.inr ⟨?_, rfl⟩) (by assumption) ?_
       rotate_left 1
       ·(simp only [List.getElem?_toArray, List.getElem?_cons_succ, List.getElem?_cons_zero]; rfl)
       ·rfl
       try simp only [Act.put, List.setIfInBounds_toArray, List.set_cons_zero, List.set_cons_succ]
       refine wpAnyH_take (i := 24) (oi := ?_) (v := undef) ?_ (by kernel_rfl) (by kernel_rfl) (by kernel_rfl) (fun _ _ _ h => h) (Or.inr ⟨?_, rfl⟩) (by assumption) ?_
       rotate_left 1
       ·(simp only [List.getElem?_toArray, List.getElem?_cons_succ, List.getElem?_cons_zero]; rfl)
       ·rfl
       try simp only [Act.put, List.setIfInBounds_toArray, List.set_cons_zero, List.set_cons_succ]
       refine wpAnyH_take (i := 25) (oi := ?_) (v := undef) ?_ (by kernel_rfl) (by kernel_rfl) (by kernel_rfl) (fun _ _ _ h => h) (Or.inr ⟨?_, rfl⟩) (by assumption) ?_
       rotate_left 1
       ·(simp only [List.getElem?_toArray, List.getElem?_cons_succ, List.getElem?_cons_zero]; rfl)
       ·rfl
       try simp only [Act.put, List.setIfInBounds_toArray, List.set_cons_zero, List.set_cons_succ]
       refine wpAnyH_take (i := 26) (oi := ?_) (v := undef) ?_ (by kernel_rfl) (by kernel_rfl) (by kernel_rfl) (fun _ _ _ h => h) (Or.inr ⟨?_, rfl⟩) (by assumption) ?_
       rotate_left 1
       ·(simp only [List.getElem?_toArray, List.getElem?_cons_succ, List.getElem?_cons_zero]; rfl)
       ·rfl
       try simp only [Act.put, List.setIfInBounds_toArray, List.set_cons_zero, List.set_cons_succ]
       refine wpAnyH_take (i := 27) (oi := ?_) (v := undef) ?_ (by kernel_rfl) (by kernel_rfl) (by kernel_rfl) (fun _ _ _ h => h) (Or.inr ⟨?_, rfl⟩) (by assumption) ?_
       rotate_left 1
       ·(simp only [List.getElem?_toArray, List.getElem?_cons_succ, List.getElem?_cons_zero]; rfl)
       ·rfl
       try simp only [Act.put, List.setIfInBounds_toArray, List.set_cons_zero, List.set_cons_succ]
       refine wpAnyH_take (i := 28) (oi := ?_) (v := undef) ?_ (by kernel_rfl) (by kernel_rfl) (by kernel_rfl) (fun _ _ _ h => h) (Or.inr ⟨?_, rfl⟩) (by assumption) ?_
       rotate_left 1
       ·(simp only [List.getElem?_toArray, List.getElem?_cons_succ, List.getElem?_cons_zero]; rfl)
       ·rfl
       try simp only [Act.put, List.setIfInBounds_toArray, List.set_cons_zero, List.set_cons_succ]
       refine wpAnyH_take (i := 29) (oi := ?_) (v := undef) ?_ (by kernel_rfl) (by kernel_rfl) (by kernel_rfl) (fun _ _ _ h => h) (Or.inr ⟨?_, rfl⟩) (by assumption) ?_
       rotate_left 1
       ·(simp only [List.getElem?_toArray, List.getElem?_cons_succ, List.getElem?_cons_zero]; rfl)
       ·rfl
       try simp only [Act.put, List.setIfInBounds_toArray, List.set_cons_zero, List.set_cons_succ]
       refine wpAnyH_take (i := 30) (oi := ?_) (v := ?_) ?_ (by kernel_rfl) (by kernel_rfl) (by kernel_rfl) (fun _ _ _ h => h) (Or.inl ⟨?_, ?_⟩) (by assumption) ?_
       rotate_left 2
       ·(simp only [List.getElem?_toArray, List.getElem?_cons_succ, List.getElem?_cons_zero]; rfl)
       ·rfl
       ·(intro w hSw; (try dsimp only at hSw); go_simp; (try with_reducible rfl))
       try simp only [Act.put, List.setIfInBounds_toArray, List.set_cons_zero, List.set_cons_succ]
       refine wpAnyH_done (by kernel_rfl) ?_ _
       refine NoPanic.normal ?_
       have hS := hHeld
       have HKe := Lib.hid (And.left hS)
       clear hS hHeld HS8 d0 d1 d2 y0 y1 y2 y3
       go_wp2_with fail
       go_ret
       exact ⟨by rw [HF.out]; rfl, HK.out.trans (HKW.out.trans HKe.out)⟩
      have t2 : decide (x1 > 16777214) = false := by simpa using g2
      cases htb : thereB ne x2 with
      | false =>
       rw [htb] at hTt
       have HTt := Lib.hid hTt
       have HF := Lib.hid (HBe.out (.inr (.inr (.inl htb))))
       have HS8 : Hid (∀ w', Keep Never W1 w' → Keep Never W1 w' ∧ w'.cell? ⟨wr.heap.size, 0, none⟩ = some (.int .i64 x1) ∧ w'.cell? ⟨wr.heap.size, 1, none⟩ = some (.int .i64 x2) ∧ w'.cell? ⟨wr.heap.size, 2, none⟩ = some (.int .i64 x3) ∧ w'.cell? ⟨w.heap.size, 0, none⟩ = some (.slice Ae ne ce) ∧ w'.cell? ⟨w.heap.size, 1, none⟩ = some (.slice Aj nj cj) ∧ w'.cell? ⟨w.heap.size, 2, none⟩ = some (.slice (some ad) nb cb) ∧ w'.cell? ⟨w.heap.size, 3, none⟩ = some (.slice Ar nr cr) ∧ w'.cell? ⟨wr.heap.size, 0, none⟩ = some (.int .i64 x1)) := Lib.hid (fun w' h => ⟨h, keepT h d0, keepT h d1, keepT h d2, keepT h y0, keepT h y1, keepT h y2, keepT h y3, keepT h d0⟩)
       clear g1 g2 hTt htb HBe
       refine wp_region_noPanic ?_
       refine wp_region_held_drew (S := (fun w' => Keep Never W1 w' ∧ w'.cell? ⟨wr.heap.size, 0, none⟩ = some (.int .i64 x1) ∧ w'.cell? ⟨wr.heap.size, 1, none⟩ = some (.int .i64 x2) ∧ w'.cell? ⟨wr.heap.size, 2, none⟩ = some (.int .i64 x3) ∧ w'.cell? ⟨w.heap.size, 0, none⟩ = some (.slice Ae ne ce) ∧ w'.cell? ⟨w.heap.size, 1, none⟩ = some (.slice Aj nj cj) ∧ w'.cell? ⟨w.heap.size, 2, none⟩ = some (.slice (some ad) nb cb) ∧ w'.cell? ⟨w.heap.size, 3, none⟩ = some (.slice Ar nr cr) ∧ w'.cell? ⟨wr.heap.size, 0, none⟩ = some (.int .i64 x1))) (by kernel_rfl) ?_ (fun hHeld => ?_)
       ·exact HS8.out _ ((Keep.refl Never W1).drew)
       refine wpAnyH_take (i := 0) (oi := ?_) (v := ?_) ?_ (by kernel_rfl) (by kernel_rfl) (by kernel_rfl) (fun _ _ _ h => h) (Or.inl ⟨?_, ?_⟩) (by assumption) ?_
       rotate_left 2
       ·(simp only [List.getElem?_toArray, List.getElem?_cons_zero]; rfl)
       ·rfl
       ·(intro w hSw; (try dsimp only at hSw); go_simp; (try with_reducible rfl))
       try simp only [Act.put, List.setIfInBounds_toArray, List.set_cons_zero, List.set_cons_succ]
       refine wpAnyH_take (i := 1) (oi := ?_) (v := ?_) ?_ (by kernel_rfl) (by kernel_rfl) (by kernel_rfl) (fun _ _ _ h => h) (Or.inl ⟨?_, ?_⟩) (by assumption) ?_
       rotate_left 2
       ·(simp only [List.getElem?_toArray, List.getElem?_cons_succ, List.getElem?_cons_zero]; rfl)
       ·rfl
       ·(intro w hSw; (try dsimp only at hSw); go_simp; (try with_reducible rfl))
       try simp only [Act.put, List.setIfInBounds_toArray, List.set_cons_zero, List.set_cons_succ]
       refine wpAnyH_take (i := 2) (oi := ?_) (v := ?_) ?_ (by kernel_rfl) (by kernel_rfl) (by kernel_rfl) (fun _ _ _ h => h) (Or.inl ⟨?_, ?_⟩) (by assumption) ?_
       rotate_left 2
       ·(simp only [List.getElem?_toArray, List.getElem?_cons_succ, List.getElem?_cons_zero]; rfl)
       ·rfl
       ·(intro w hSw; (try dsimp only at hSw); go_simp; (try with_reducible rfl))
       try simp only [Act.put, List.setIfInBounds_toArray, List.set_cons_zero, List.set_cons_succ]
       refine wpAnyH_take (i := 3) (oi := ?_) (v := ?_) ?_ (by kernel_rfl) (by kernel_rfl) (by kernel_rfl) (fun _ _ _ h => h) (Or.inl ⟨?_, ?_⟩) (by assumption) ?_
       rotate_left 2
       ·(simp only [List.getElem?_toArray, List.getElem?_cons_succ, List.getElem?_cons_zero]; rfl)
       ·rfl
       ·(intro w hSw; (try dsimp only at hSw); go_simp; (try with_reducible rfl))
       try simp only [Act.put, List.setIfInBounds_toArray, List.set_cons_zero, List.set_cons_succ]
       refine wpAnyH_take (i := 4) (oi := ?_) (v := ?_) ?_ (by kernel_rfl) (by kernel_rfl) (by kernel_rfl) (fun _ _ _ h => h) (Or.inl ⟨?_, ?_⟩) (by assumption) ?_
       rotate_left 2
       ·(simp only [List.getElem?_toArray, List.getElem?_cons_succ, List.getElem?_cons_zero]; rfl)
       ·rfl
       ·(intro w hSw; (try dsimp only at hSw); go_simp; (try with_reducible rfl))
       try simp only [Act.put, List.setIfInBounds_toArray, List.set_cons_zero, List.set_cons_succ]
       refine wpAnyH_take (i := 5) (oi := ?_) (v := ?_) ?_ (by kernel_rfl) (by kernel_rfl) (by kernel_rfl) (fun _ _ _ h => h) (Or.inl ⟨?_, ?_⟩) (by assumption) ?_
       rotate_left 2
       ·(simp only [List.getElem?_toArray, List.getElem?_cons_succ, List.getElem?_cons_zero]; rfl)
       ·rfl
       ·(intro w hSw; (try dsimp only at hSw); go_simp; (try with_reducible rfl))
       try simp only [Act.put, List.setIfInBounds_toArray, List.set_cons_zero, List.set_cons_succ]
       refine wpAnyH_take (i := 6) (oi := ?_) (v := ?_) ?_ (by kernel_rfl) (by kernel_rfl) (by kernel_rfl) (fun _ _ _ h => h) (Or.inl ⟨?_, ?_⟩) (by assumption) ?_
       rotate_left 2
       ·(simp only [List.getElem?_toArray, List.getElem?_cons_succ, List.getElem?_cons_zero]; rfl)
       ·rfl
       ·(intro w hSw; (try dsimp only at hSw); go_simp; (try with_reducible rfl))
       try simp only [Act.put, List.setIfInBounds_toArray, List.set_cons_zero, List.set_cons_succ]
       refine wpAnyH_take (i := 7) (oi := ?_) (v := ?_) ?_ (by kernel_rfl) (by kernel_rfl) (by kernel_rfl) (fun _ _ _ h => h) (Or.inl ⟨?_, ?_⟩) (by assumption) ?_
       rotate_left 2
       ·(simp only [List.getElem?_toArray, List.getElem?_cons_succ, List.getElem?_cons_zero]; rfl)
       ·rfl
       ·(intro w hSw; (try dsimp only at hSw); go_simp; (try with_reducible rfl))
       try simp only [Act.put, List.setIfInBounds_toArray, List.set_cons_zero, List.set_cons_succ]
       refine wpAnyH_take (i := 8) (oi := ?_) (v := ?_) ?_ (by kernel_rfl) (by kernel_rfl) (by kernel_rfl) (fun _ _ _ h => h) (Or.inl ⟨?_, ?_⟩) (by assumption) ?_
       rotate_left 2
       ·(simp only [List.getElem?_toArray, List.getElem?_cons_succ, List.getElem?_cons_zero]; rfl)
       ·rfl
       ·(intro w hSw; (try dsimp only at hSw); go_simp; (try with_reducible rfl))
       try simp only [Act.put, List.setIfInBounds_toArray, List.set_cons_zero, List.set_cons_succ]
       refine wpAnyH_take (i := 9) (oi := ?_) (v := ?_) ?_ (by kernel_rfl) (by kernel_rfl) (by kernel_rfl) (fun _ _ _ h => h) (Or.inl ⟨?_, ?_⟩) (by assumption) ?_
       rotate_left 2
       ·(simp only [List.getElem?_toArray, List.getElem?_cons_succ, List.getElem?_cons_zero]; rfl)
       ·rfl
       ·(intro w hSw; (try dsimp only at hSw); go_simp; (try with_reducible rfl))
       try simp only [Act.put, List.setIfInBounds_toArray, List.set_cons_zero, List.set_cons_succ]
       refine wpAnyH_take (i := 10) (oi := ?_) (v := ?_) ?_ (by kernel_rfl) (by kernel_rfl) (by kernel_rfl) (fun _ _ _ h => h) (Or.inl ⟨?_, ?_⟩) (by assumption) ?_
       rotate_left 2
       ·(simp only [List.getElem?_toArray, List.getElem?_cons_succ, List.getElem?_cons_zero]; rfl)
       ·rfl
       ·(intro w hSw; (try dsimp only at hSw); go_simp; (try with_reducible rfl))
       try simp only [Act.put, List.setIfInBounds_toArray, List.set_cons_zero, List.set_cons_succ]
       refine wpAnyH_take (i := 11) (oi := ?_) (v := ?_) ?_ (by kernel_rfl) (by kernel_rfl) (by kernel_rfl) (fun _ _ _ h => h) (Or.inl ⟨?_, ?_⟩) (by assumption) ?_
       rotate_left 2
       ·(simp only [List.getElem?_toArray, List.getElem?_cons_succ, List.getElem?_cons_zero]; rfl)
       ·rfl
       ·(intro w hSw; (try dsimp only at hSw); go_simp; (try with_reducible rfl))
       try simp only [Act.put, List.setIfInBounds_toArray, List.set_cons_zero, List.set_cons_succ]
       refine wpAnyH_ready (rs := [12]) (by kernel_rfl) (by simp) ?_
       refine AllReadyH.cons (o := ?_) ?_ (fun K hK => ?_) AllReadyH.nil
       rotate_left 1
       ·(simp only [List.getElem?_toArray, List.getElem?_cons_succ, List.getElem?_cons_zero]; rfl)
       go_simp
       first
        | (go_at_call 84; refine (HTt.out _).mono ?_; rintro e w' ⟨rfl, hk'⟩)
       (try go_wp2_with fail)
       refine hK.out _ _ ?_ (fun hHeld => ?_)
       ·(try dsimp only); exact HS8.out _ (Keep.trans (And.left (by assumption)) hk')
       clear hK K
       try simp only [Act.put, List.setIfInBounds_toArray, List.set_cons_zero, List.set_cons_succ]
       refine wpAnyH_take (i := 13) (oi := ?_) (v := ?_) ?_ (by kernel_rfl) (by kernel_rfl) (by kernel_rfl) (fun _ _ _ h => h) (Or.inl ⟨?_, ?_⟩) (by assumption) ?_
       rotate_left 2
       ·(simp only [List.getElem?_toArray, List.getElem?_cons_succ, List.getElem?_cons_zero]; rfl)
       ·rfl
       ·(intro w hSw; (try dsimp only at hSw); go_simp; (try with_reducible rfl))
       try simp only [Act.put, List.setIfInBounds_toArray, List.set_cons_zero, List.set_cons_succ]
       refine wpAnyH_take (i := 14) (oi := ?_) (v := ?_) ?_ (by kernel_rfl) (by kernel_rfl) (by kernel_rfl) (fun _ _ _ h => h) (Or.inl ⟨?_, ?_⟩) (by assumption) ?_
       rotate_left 2
       ·(simp only [List.getElem?_toArray, List.getElem?_cons_succ, List.getElem?_cons_zero]; rfl)
       ·rfl
       ·(intro w hSw; (try dsimp only at hSw); go_simp; (try with_reducible rfl))
       try simp only [Act.put, List.setIfInBounds_toArray, List.set_cons_zero, List.set_cons_succ]
       refine wpAnyH_take (i := 15) (oi := ?_) (v := ?_) ?_ (by kernel_rfl) (by kernel_rfl) (by kernel_rfl) (fun _ _ _ h => h) (Or.inl ⟨?_, ?_⟩) (by assumption) ?_
       rotate_left 2
       ·(simp only [List.getElem?_toArray, List.getElem?_cons_succ, List.getElem?_cons_zero]; rfl)
       ·rfl
       ·(intro w hSw; (try dsimp only at hSw); go_simp; (try with_reducible rfl))
       try simp only [Act.put, List.setIfInBounds_toArray, List.set_cons_zero, List.set_cons_succ]
       refine wpAnyH_take (i := 16) (oi := ?_) (v := undef) ?_ (by kernel_rfl) (by kernel_rfl) (by kernel_rfl) (fun _ _ _ h => h) (Or.inr ⟨?_, rfl⟩) (by assumption) ?_
       rotate_left 1
       ·(simp only [List.getElem?_toArray, List.getElem?_cons_succ, List.getElem?_cons_zero]; rfl)
       ·rfl
       try simp only [Act.put, List.setIfInBounds_toArray, List.set_cons_zero, List.set_cons_succ]
       refine wpAnyH_take (i := 17) (oi := ?_) (v := undef) ?_ (by kernel_rfl) (by kernel_rfl) (by kernel_rfl) (fun _ _ _ h => h) (Or.inr ⟨?_, rfl⟩) (by assumption) ?_
       rotate_left 1
       ·(simp only [List.getElem?_toArray, List.getElem?_cons_succ, List.getElem?_cons_zero]; rfl)
       ·rfl
       try simp only [Act.put, List.setIfInBounds_toArray, List.set_cons_zero, List.set_cons_succ]
       refine wpAnyH_take (i := 18) (oi := ?_) (v := undef) ?_ (by kernel_rfl) (by kernel_rfl) (by kernel_rfl) (fun _ _ _ h => h) (Or.inr ⟨?_, rfl⟩) (by assumption) ?_
       rotate_left 1
       ·(simp only [List.getElem?_toArray, List.getElem?_cons_succ, List.getElem?_cons_zero]; rfl)
       ·rfl
       try simp only [Act.put, List.setIfInBounds_toArray, List.set_cons_zero, List.set_cons_succ]
       refine wpAnyH_take (i := 19) (oi := ?_) (v := ?_) ?_ (by kernel_rfl) (by kernel_rfl) (by kernel_rfl) (fun _ _ _ h => h) (Or.inl ⟨?_, ?_⟩) (by assumption) ?_
       rotate_left 2
       ·(simp only [List.getElem?_toArray, List.getElem?_cons_succ, List.getElem?_cons_zero]; rfl)
       ·rfl
       ·(intro w hSw; (try dsimp only at hSw); go_simp; (try with_reducible rfl))
       try simp only [Act.put, List.setIfInBounds_toArray, List.set_cons_zero, List.set_cons_succ]
       refine wpAnyH_take (i := 20) (oi := ?_) (v := ?_) ?_ (by kernel_rfl) (by kernel_rfl) (by kernel_rfl) (fun _ _ _ h => h) (Or.inl ⟨?_, ?_⟩) (by assumption) ?_
       rotate_left 2
       ·(simp only [List.getElem?_toArray, List.getElem?_cons_succ, List.getElem?_cons_zero]; rfl)
       ·rfl
       ·(intro w hSw; (try dsimp only at hSw); go_simp; (try with_reducible rfl))
       try simp only [Act.put, List.setIfInBounds_toArray, List.set_cons_zero, List.set_cons_succ]
       refine wpAnyH_take (i := 21) (oi := ?_) (v := undef) ?_ (by kernel_rfl) (by kernel_rfl) (by kernel_rfl) (fun _ _ _ h => h) (Or.inr ⟨?_, rfl⟩) (by assumption) ?_
       rotate_left 1
       ·(simp only [List.getElem?_toArray, List.getElem?_cons_succ, List.getElem?_cons_zero]; rfl)
       ·rfl
       try simp only [Act.put, List.setIfInBounds_toArray, List.set_cons_zero, List.set_cons_succ]
       refine wpAnyH_take (i := 22) (oi := ?_) (v := undef) ?_ (by kernel_rfl) (by kernel_rfl) (by kernel_rfl) (fun _ _ _ h => h) (Or.inr ⟨?_, rfl⟩) (by assumption) ?_
       rotate_left 1
       ·(simp only [List.getElem?_toArray, List.getElem?_cons_succ, List.getElem?_cons_zero]; rfl)
       ·rfl
       try simp only [Act.put, List.setIfInBounds_toArray, List.set_cons_zero, List.set_cons_succ]
       refine wpAnyH_take (i := 23) (oi := ?_) (v := undef) ?_ (by kernel_rfl) (by kernel_rfl) (by kernel_rfl) (fun _ _ _ h => h) (Or.inr ⟨?_, rfl⟩) (by assumption) ?_
       rotate_left 1
       ·(simp only [List.getElem?_toArray, List.getElem?_cons_succ, List.getElem?_cons_zero]; rfl)
       ·rfl
       try simp only [Act.put, List.setIfInBounds_toArray, List.set_cons_zero, List.set_cons_succ]
       refine wpAnyH_take (i := 24) (oi := ?_) (v := undef) ?_ (by kernel_rfl) (by kernel_rfl) (by kernel_rfl) (fun _ _ _ h => h) (Or.inr ⟨?_, rfl⟩) (by assumption) ?_
       rotate_left 1
       ·(simp only [List.getElem?_toArray, List.getElem?_cons_succ, List.getElem?_cons_zero]; rfl)
       ·rfl
       try simp only [Act.put, List.setIfInBounds_toArray, List.set_cons_zero, List.set_cons_succ]
       refine wpAnyH_take (i := 25) (oi := ?_) (v := undef) ?_ (by kernel_rfl) (by kernel_rfl) (by kernel_rfl) (fun _ _ _ h => h) (Or.inr ⟨?_, rfl⟩) (by assumption) ?_
       rotate_left 1
       ·(simp only [List.getElem?_toArray, List.getElem?_cons_succ, List.getElem?_cons_zero]; rfl)
       ·rfl
       try simp only [Act.put, List.setIfInBounds_toArray, List.set_cons_zero, List.set_cons_succ]
       refine wpAnyH_take (i := 26) (oi := ?_) (v := undef) ?_ (by kernel_rfl) (by kernel_rfl) (by kernel_rfl) (fun _ _ _ h => h) (Or.inr ⟨?_, rfl⟩) (by assumption) ?_
       rotate_left 1
       ·(simp only [List.getElem?_toArray, List.getElem?_cons_succ, List.getElem?_cons_zero]; rfl)
       ·rfl
       try simp only [Act.put, List.setIfInBounds_toArray, List.set_cons_zero, List.set_cons_succ]
       refine wpAnyH_take (i := 27) (oi := ?_) (v := undef) ?_ (by kernel_rfl) (by kernel_rfl) (by kernel_rfl) (fun _ _ _ h => h) (Or.inr ⟨?_, rfl⟩) (by assumption) ?_
       rotate_left 1
       ·(simp only [List.getElem?_toArray, List.getElem?_cons_succ, List.getElem?_cons_zero]; rfl)
       ·rfl
       try simp only [Act.put, List.setIfInBounds_toArray, List.set_cons_zero, List.set_cons_succ]
       refine wpAnyH_take (i := 28) (oi := ?_) (v := undef) ?_ (by kernel_rfl) (by kernel_rfl) (by kernel_rfl) (fun _ _ _ h => h) (Or.inr ⟨?_, rfl⟩) (by assumption) ?_
       rotate_left 1
       ·(simp only [List.getElem?_toArray, List.getElem?_cons_succ, List.getElem?_cons_zero]; rfl)
       ·rfl
       try simp only [Act.put, List.setIfInBounds_toArray, List.set_cons_zero, List.set_cons_succ]
       refine wpAnyH_take (i := 29) (oi := ?_) (v := undef) ?_ (by kernel_rfl) (by kernel_rfl) (by kernel_rfl) (fun _ _ _ h => h) (Or.inr ⟨?_, rfl⟩) (by assumption) ?_
       rotate_left 1
       ·(simp only [List.getElem?_toArray, List.getElem?_cons_succ, List.getElem?_cons_zero]; rfl)
       ·rfl
       try simp only [Act.put, List.setIfInBounds_toArray, List.set_cons_zero, List.set_cons_succ]
       refine wpAnyH_take (i := 30) (oi := ?_) (v := ?_) ?_ (by kernel_rfl) (by kernel_rfl) (by kernel_rfl) (fun _ _ _ h => h) (Or.inl ⟨?_, ?_⟩) (by assumption) ?_
       rotate_left 2
       ·(simp only [List.getElem?_toArray, List.getElem?_cons_succ, List.getElem?_cons_zero]; rfl)
       ·rfl
       ·(intro w hSw; (try dsimp only at hSw); go_simp; (try with_reducible rfl))
       try simp only [Act.put, List.setIfInBounds_toArray, List.set_cons_zero, List.set_cons_succ]
       refine wpAnyH_done (by kernel_rfl) ?_ _
       refine NoPanic.normal ?_
       have hS := hHeld
       have HKe := Lib.hid (And.left hS)
       clear hS hHeld HS8 d0 d1 d2 y0 y1 y2 y3
       go_wp2_with fail
       go_ret
       exact ⟨by rw [HF.out]; rfl, HK.out.trans (HKW.out.trans HKe.out)⟩
      | true =>
       rw [htb] at hTt
       have HTt := Lib.hid hTt
       by_cases g3 : x3 < 0
       ·have t3 : decide (x3 < 0) = true := by simpa using g3
        have HF := Lib.hid (HBe.out (.inr (.inr (.inr (.inl g3)))))
        have HS8 : Hid (∀ w', Keep Never W1 w' → Keep Never W1 w' ∧ w'.cell? ⟨wr.heap.size, 0, none⟩ = some (.int .i64 x1) ∧ w'.cell? ⟨wr.heap.size, 1, none⟩ = some (.int .i64 x2) ∧ w'.cell? ⟨wr.heap.size, 2, none⟩ = some (.int .i64 x3) ∧ w'.cell? ⟨w.heap.size, 0, none⟩ = some (.slice Ae ne ce) ∧ w'.cell? ⟨w.heap.size, 1, none⟩ = some (.slice Aj nj cj) ∧ w'.cell? ⟨w.heap.size, 2, none⟩ = some (.slice (some ad) nb cb) ∧ w'.cell? ⟨w.heap.size, 3, none⟩ = some (.slice Ar nr cr) ∧ w'.cell? ⟨wr.heap.size, 0, none⟩ = some (.int .i64 x1)) := Lib.hid (fun w' h => ⟨h, keepT h d0, keepT h d1, keepT h d2, keepT h y0, keepT h y1, keepT h y2, keepT h y3, keepT h d0⟩)
        clear g1 g2 g3 hTt htb HBe
        refine wp_region_noPanic ?_
        refine wp_region_held_drew (S := (fun w' => Keep Never W1 w' ∧ w'.cell? ⟨wr.heap.size, 0, none⟩ = some (.int .i64 x1) ∧ w'.cell? ⟨wr.heap.size, 1, none⟩ = some (.int .i64 x2) ∧ w'.cell? ⟨wr.heap.size, 2, none⟩ = some (.int .i64 x3) ∧ w'.cell? ⟨w.heap.size, 0, none⟩ = some (.slice Ae ne ce) ∧ w'.cell? ⟨w.heap.size, 1, none⟩ = some (.slice Aj nj cj) ∧ w'.cell? ⟨w.heap.size, 2, none⟩ = some (.slice (some ad) nb cb) ∧ w'.cell? ⟨w.heap.size, 3, none⟩ = some (.slice Ar nr cr) ∧ w'.cell? ⟨wr.heap.size, 0, none⟩ = some (.int .i64 x1))) (by kernel_rfl) ?_ (fun hHeld => ?_)
        ·exact HS8.out _ ((Keep.refl Never W1).drew)
        refine wpAnyH_take (i := 0) (oi := ?_) (v := ?_) ?_ (by kernel_rfl) (by kernel_rfl) (by kernel_rfl) (fun _ _ _ h => h) (Or.inl ⟨?_, ?_⟩) (by assumption) ?_
        rotate_left 2
        ·(simp only [List.getElem?_toArray, List.getElem?_cons_zero]; rfl)
        ·rfl
        ·(intro w hSw; (try dsimp only at hSw); go_simp; (try with_reducible rfl))
        try simp only [Act.put, List.setIfInBounds_toArray, List.set_cons_zero, List.set_cons_succ]
        refine wpAnyH_take (i := 1) (oi := ?_) (v := ?_) ?_ (by kernel_rfl) (by kernel_rfl) (by kernel_rfl) (fun _ _ _ h => h) (Or.inl ⟨?_, ?_⟩) (by assumption) ?_
        rotate_left 2
        ·(simp only [List.getElem?_toArray, List.getElem?_cons_succ, List.getElem?_cons_zero]; rfl)
        ·rfl
        ·(intro w hSw; (try dsimp only at hSw); go_simp; (try with_reducible rfl))
        try simp only [Act.put, List.setIfInBounds_toArray, List.set_cons_zero, List.set_cons_succ]
        refine wpAnyH_take (i := 2) (oi := ?_) (v := ?_) ?_ (by kernel_rfl) (by kernel_rfl) (by kernel_rfl) (fun _ _ _ h => h) (Or.inl ⟨?_, ?_⟩) (by assumption) ?_
        rotate_left 2
        ·(simp only [List.getElem?_toArray, List.getElem?_cons_succ, List.getElem?_cons_zero]; rfl)
        ·rfl
        ·(intro w hSw; (try dsimp only at hSw); go_simp; (try with_reducible rfl))
        try simp only [Act.put, List.setIfInBounds_toArray, List.set_cons_zero, List.set_cons_succ]
        refine wpAnyH_take (i := 3) (oi := ?_) (v := ?_) ?_ (by kernel_rfl) (by kernel_rfl) (by kernel_rfl) (fun _ _ _ h => h) (Or.inl ⟨?_, ?_⟩) (by assumption) ?_
        rotate_left 2
        ·(simp only [List.getElem?_toArray, List.getElem?_cons_succ, List.getElem?_cons_zero]; rfl)
        ·rfl
        ·(intro w hSw; (try dsimp only at hSw); go_simp; (try with_reducible rfl))
        try simp only [Act.put, List.setIfInBounds_toArray, List.set_cons_zero, List.set_cons_succ]
        refine wpAnyH_take (i := 4) (oi := ?_) (v := ?_) ?_ (by kernel_rfl) (by kernel_rfl) (by kernel_rfl) (fun _ _ _ h => h) (Or.inl ⟨?_, ?_⟩) (by assumption) ?_
        rotate_left 2
        ·(simp only [List.getElem?_toArray, List.getElem?_cons_succ, List.getElem?_cons_zero]; rfl)
        ·rfl
        ·(intro w hSw; (try dsimp only at hSw); go_simp; (try with_reducible rfl))
        try simp only [Act.put, List.setIfInBounds_toArray, List.set_cons_zero, List.set_cons_succ]
        refine wpAnyH_take (i := 5) (oi := ?_) (v := ?_) ?_ (by kernel_rfl) (by kernel_rfl) (by kernel_rfl) (fun _ _ _ h => h) (Or.inl ⟨?_, ?_⟩) (by assumption) ?_
        rotate_left 2
        ·(simp only [List.getElem?_toArray, List.getElem?_cons_succ, List.getElem?_cons_zero]; rfl)
        ·rfl
        ·(intro w hSw; (try dsimp only at hSw); go_simp; (try with_reducible rfl))
        try simp only [Act.put, List.setIfInBounds_toArray, List.set_cons_zero, List.set_cons_succ]
        refine wpAnyH_take (i := 6) (oi := ?_) (v := ?_) ?_ (by kernel_rfl) (by kernel_rfl) (by kernel_rfl) (fun _ _ _ h => h) (Or.inl ⟨?_, ?_⟩) (by assumption) ?_
        rotate_left 2
        ·(simp only [List.getElem?_toArray, List.getElem?_cons_succ, List.getElem?_cons_zero]; rfl)
        ·rfl
        ·(intro w hSw; (try dsimp only at hSw); go_simp; (try with_reducible rfl))
        try simp only [Act.put, List.setIfInBounds_toArray, List.set_cons_zero, List.set_cons_succ]
        refine wpAnyH_take (i := 7) (oi := ?_) (v := ?_) ?_ (by kernel_rfl) (by kernel_rfl) (by kernel_rfl) (fun _ _ _ h => h) (Or.inl ⟨?_, ?_⟩) (by assumption) ?_
        rotate_left 2
        ·(simp only [List.getElem?_toArray, List.getElem?_cons_succ, List.getElem?_cons_zero]; rfl)
        ·rfl
        ·(intro w hSw; (try dsimp only at hSw); go_simp; (try with_reducible rfl))
        try simp only [Act.put, List.setIfInBounds_toArray, List.set_cons_zero, List.set_cons_succ]
        refine wpAnyH_take (i := 8) (oi := ?_) (v := ?_) ?_ (by kernel_rfl) (by kernel_rfl) (by kernel_rfl) (fun _ _ _ h => h) (Or.inl ⟨?_, ?_⟩) (by assumption) ?_
        rotate_left 2
        ·(simp only [List.getElem?_toArray, List.getElem?_cons_succ, List.getElem?_cons_zero]; rfl)
        ·rfl
        ·(intro w hSw; (try dsimp only at hSw); go_simp; (try with_reducible rfl))
        try simp only [Act.put, List.setIfInBounds_toArray, List.set_cons_zero, List.set_cons_succ]
        refine wpAnyH_take (i := 9) (oi := ?_) (v := ?_) ?_ (by kernel_rfl) (by kernel_rfl) (by kernel_rfl) (fun _ _ _ h => h) (Or.inl ⟨?_, ?_⟩) (by assumption) ?_
        rotate_left 2
        ·(simp only [List.getElem?_toArray, List.getElem?_cons_succ, List.getElem?_cons_zero]; rfl)
        ·rfl
        ·(intro w hSw; (try dsimp only at hSw); go_simp; (try with_reducible rfl))
        try simp only [Act.put, List.setIfInBounds_toArray, List.set_cons_zero, List.set_cons_succ]
        refine wpAnyH_take (i := 10) (oi := ?_) (v := ?_) ?_ (by kernel_rfl) (by kernel_rfl) (by kernel_rfl) (fun _ _ _ h => h) (Or.inl ⟨?_, ?_⟩) (by assumption) ?_
        rotate_left 2
        ·(simp only [List.getElem?_toArray, List.getElem?_cons_succ, List.getElem?_cons_zero]; rfl)
        ·rfl
        ·(intro w hSw; (try dsimp only at hSw); go_simp; (try with_reducible rfl))
        try simp only [Act.put, List.setIfInBounds_toArray, List.set_cons_zero, List.set_cons_succ]
        refine wpAnyH_take (i := 11) (oi := ?_) (v := ?_) ?_ (by kernel_rfl) (by kernel_rfl) (by kernel_rfl) (fun _ _ _ h => h) (Or.inl ⟨?_, ?_⟩) (by assumption) ?_
        rotate_left 2
        ·(simp only [List.getElem?_toArray, List.getElem?_cons_succ, List.getElem?_cons_zero]; rfl)
        ·rfl
        ·(intro w hSw; (try dsimp only at hSw); go_simp; (try with_reducible rfl))
        try simp only [Act.put, List.setIfInBounds_toArray, List.set_cons_zero, List.set_cons_succ]
        refine wpAnyH_ready (rs := [12]) (by kernel_rfl) (by simp) ?_
        refine AllReadyH.cons (o := ?_) ?_ (fun K hK => ?_) AllReadyH.nil
        rotate_left 1
        ·(simp only [List.getElem?_toArray, List.getElem?_cons_succ, List.getElem?_cons_zero]; rfl)
        go_simp
        first
         | (go_at_call 84; refine (HTt.out _).mono ?_; rintro e w' ⟨rfl, hk'⟩)
        (try go_wp2_with fail)
        refine hK.out _ _ ?_ (fun hHeld => ?_)
        ·(try dsimp only); exact HS8.out _ (Keep.trans (And.left (by assumption)) hk')
        clear hK K
        try simp only [Act.put, List.setIfInBounds_toArray, List.set_cons_zero, List.set_cons_succ]
        refine wpAnyH_take (i := 13) (oi := ?_) (v := ?_) ?_ (by kernel_rfl) (by kernel_rfl) (by kernel_rfl) (fun _ _ _ h => h) (Or.inl ⟨?_, ?_⟩) (by assumption) ?_
        rotate_left 2
        ·(simp only [List.getElem?_toArray, List.getElem?_cons_succ, List.getElem?_cons_zero]; rfl)
        ·rfl
        ·(intro w hSw; (try dsimp only at hSw); go_simp; (try with_reducible rfl))
        try simp only [Act.put, List.setIfInBounds_toArray, List.set_cons_zero, List.set_cons_succ]
        refine wpAnyH_take (i := 14) (oi := ?_) (v := ?_) ?_ (by kernel_rfl) (by kernel_rfl) (by kernel_rfl) (fun _ _ _ h => h) (Or.inl ⟨?_, ?_⟩) (by assumption) ?_
        rotate_left 2
        ·(simp only [List.getElem?_toArray, List.getElem?_cons_succ, List.getElem?_cons_zero]; rfl)
        ·rfl
        ·(intro w hSw; (try dsimp only at hSw); go_simp; (try with_reducible rfl))
        try simp only [Act.put, List.setIfInBounds_toArray, List.set_cons_zero, List.set_cons_succ]
        refine wpAnyH_take (i := 15) (oi := ?_) (v := ?_) ?_ (by kernel_rfl) (by kernel_rfl) (by kernel_rfl) (fun _ _ _ h => h) (Or.inl ⟨?_, ?_⟩) (by assumption) ?_
        rotate_left 2
        ·(simp only [List.getElem?_toArray, List.getElem?_cons_succ, List.getElem?_cons_zero]; rfl)
        ·rfl
        ·(intro w hSw; (try dsimp only at hSw); go_simp; (try with_reducible rfl))
        try simp only [Act.put, List.setIfInBounds_toArray, List.set_cons_zero, List.set_cons_succ]
        refine wpAnyH_take (i := 16) (oi := ?_) (v := ?_) ?_ (by kernel_rfl) (by kernel_rfl) (by kernel_rfl) (fun _ _ _ h => h) (Or.inl ⟨?_, ?_⟩) (by assumption) ?_
        rotate_left 2
        ·(simp only [List.getElem?_toArray, List.getElem?_cons_succ, List.getElem?_cons_zero]; rfl)
        ·rfl
        ·(intro w hSw; (try dsimp only at hSw); go_simp; (try with_reducible rfl))
        try simp only [Act.put, List.setIfInBounds_toArray, List.set_cons_zero, List.set_cons_succ]
        refine wpAnyH_take (i := 17) (oi := ?_) (v := ?_) ?_ (by kernel_rfl) (by kernel_rfl) (by kernel_rfl) (fun _ _ _ h => h) (Or.inl ⟨?_, ?_⟩) (by assumption) ?_
        rotate_left 2
        ·(simp only [List.getElem?_toArray, List.getElem?_cons_succ, List.getElem?_cons_zero]; rfl)
        ·rfl
        ·(intro w hSw; (try dsimp only at hSw); go_simp; (try with_reducible rfl))
        try simp only [Act.put, List.setIfInBounds_toArray, List.set_cons_zero, List.set_cons_succ]
        refine wpAnyH_take (i := 18) (oi := ?_) (v := ?_) ?_ (by kernel_rfl) (by kernel_rfl) (by kernel_rfl) (fun _ _ _ h => h) (Or.inl ⟨?_, ?_⟩) (by assumption) ?_
        rotate_left 2
        ·(simp only [List.getElem?_toArray, List.getElem?_cons_succ, List.getElem?_cons_zero]; rfl)
        ·rfl
        ·(intro w hSw; (try dsimp only at hSw); go_simp; (try with_reducible rfl))
        try simp only [Act.put, List.setIfInBounds_toArray, List.set_cons_zero, List.set_cons_succ]
        refine wpAnyH_take (i := 19) (oi := ?_) (v := ?_) ?_ (by kernel_rfl) (by kernel_rfl) (by kernel_rfl) (fun _ _ _ h => h) (Or.inl ⟨?_, ?_⟩) (by assumption) ?_
        rotate_left 2
        ·(simp only [List.getElem?_toArray, List.getElem?_cons_succ, List.getElem?_cons_zero]; rfl)
        ·rfl
        ·(intro w hSw; (try dsimp only at hSw); go_simp; (try with_reducible rfl))
        try simp only [Act.put, List.setIfInBounds_toArray, List.set_cons_zero, List.set_cons_succ]
        refine wpAnyH_take (i := 20) (oi := ?_) (v := ?_) ?_ (by kernel_rfl) (by kernel_rfl) (by kernel_rfl) (fun _ _ _ h => h) (Or.inl ⟨?_, ?_⟩) (by assumption) ?_
        rotate_left 2
        ·(simp only [List.getElem?_toArray, List.getElem?_cons_succ, List.getElem?_cons_zero]; rfl)
        ·rfl
        ·(intro w hSw; (try dsimp only at hSw); go_simp; (try with_reducible rfl))
        try simp only [Act.put, List.setIfInBounds_toArray, List.set_cons_zero, List.set_cons_succ]
        refine wpAnyH_take (i := 21) (oi := ?_) (v := undef) ?_ (by kernel_rfl) (by kernel_rfl) (by kernel_rfl) (fun _ _ _ h => h) (Or.inr ⟨?_, rfl⟩) (by assumption) ?_
        rotate_left 1
        ·(simp only [List.getElem?_toArray, List.getElem?_cons_succ, List.getElem?_cons_zero]; rfl)
        ·rfl
        try simp only [Act.put, List.setIfInBounds_toArray, List.set_cons_zero, List.set_cons_succ]
        refine wpAnyH_take (i := 22) (oi := ?_) (v := undef) ?_ (by kernel_rfl) (by kernel_rfl) (by kernel_rfl) (fun _ _ _ h => h) (Or.inr ⟨?_, rfl⟩) (by assumption) ?_
        rotate_left 1
        ·(simp only [List.getElem?_toArray, List.getElem?_cons_succ, List.getElem?_cons_zero]; rfl)
        ·rfl
        try simp only [Act.put, List.setIfInBounds_toArray, List.set_cons_zero, List.set_cons_succ]
        refine wpAnyH_take (i := 23) (oi := ?_) (v := undef) ?_ (by kernel_rfl) (by kernel_rfl) (by kernel_rfl) (fun _ _ _ h => h) (Or.inr ⟨?_, rfl⟩) (by assumption) ?_
        rotate_left 1
        ·(simp only [List.getElem?_toArray, List.getElem?_cons_succ, List.getElem?_cons_zero]; rfl)
        ·rfl
        try simp only [Act.put, List.setIfInBounds_toArray, List.set_cons_zero, List.set_cons_succ]
        refine wpAnyH_take (i := 24) (oi := ?_) (v := undef) ?_ (by kernel_rfl) (by kernel_rfl) (by kernel_rfl) (fun _ _ _ h => h) (Or.inr ⟨?_, rfl⟩) (by assumption) ?_
        rotate_left 1
        ·(simp only [List.getElem?_toArray, List.getElem?_cons_succ, List.getElem?_cons_zero]; rfl)
        ·rfl
        try simp only [Act.put, List.setIfInBounds_toArray, List.set_cons_zero, List.set_cons_succ]
        refine wpAnyH_take (i := 25) (oi := ?_) (v := undef) ?_ (by kernel_rfl) (by kernel_rfl) (by kernel_rfl) (fun _ _ _ h => h) (Or.inr ⟨?_, rfl⟩) (by assumption) ?_
        rotate_left 1
        ·(simp only [List.getElem?_toArray, List.getElem?_cons_succ, List.getElem?_cons_zero]; rfl)
        ·rfl
        try simp only [Act.put, List.setIfInBounds_toArray, List.set_cons_zero, List.set_cons_succ]
        refine wpAnyH_take (i := 26) (oi := ?_) (v := undef) ?_ (by kernel_rfl) (by kernel_rfl) (by kernel_rfl) (fun _ _ _ h => h) (Or.inr ⟨?_, rfl⟩) (by assumption) ?_
        rotate_left 1
        ·(simp only [List.getElem?_toArray, List.getElem?_cons_succ, List.getElem?_cons_zero]; rfl)
        ·rfl
        try simp only [Act.put, List.setIfInBounds_toArray, List.set_cons_zero, List.set_cons_succ]
        refine wpAnyH_take (i := 27) (oi := ?_) (v := undef) ?_ (by kernel_rfl) (by kernel_rfl) (by kernel_rfl) (fun _ _ _ h => h) (Or.inr ⟨?_, rfl⟩) (by assumption) ?_
        rotate_left 1
        ·(simp only [List.getElem?_toArray, List.getElem?_cons_succ, List.getElem?_cons_zero]; rfl)
        ·rfl
        try simp only [Act.put, List.setIfInBounds_toArray, List.set_cons_zero, List.set_cons_succ]
        refine wpAnyH_take (i := 28) (oi := ?_) (v := undef) ?_ (by kernel_rfl) (by kernel_rfl) (by kernel_rfl) (fun _ _ _ h => h) (Or.inr ⟨?_, rfl⟩) (by assumption) ?_
        rotate_left 1
        ·(simp only [List.getElem?_toArray, List.getElem?_cons_succ, List.getElem?_cons_zero]; rfl)
        ·rfl
        try simp only [Act.put, List.setIfInBounds_toArray, List.set_cons_zero, List.set_cons_succ]
        refine wpAnyH_take (i := 29) (oi := ?_) (v := undef) ?_ (by kernel_rfl) (by kernel_rfl) (by kernel_rfl) (fun _ _ _ h => h) (Or.inr ⟨?_, rfl⟩) (by assumption) ?_
        rotate_left 1
        ·(simp only [List.getElem?_toArray, List.getElem?_cons_succ, List.getElem?_cons_zero]; rfl)
        ·rfl
        try simp only [Act.put, List.setIfInBounds_toArray, List.set_cons_zero, List.set_cons_succ]
        refine wpAnyH_take (i := 30) (oi := ?_) (v := ?_) ?_ (by kernel_rfl) (by kernel_rfl) (by kernel_rfl) (fun _ _ _ h => h) (Or.inl ⟨?_, ?_⟩) (by assumption) ?_
        rotate_left 2
        ·(simp only [List.getElem?_toArray, List.getElem?_cons_succ, List.getElem?_cons_zero]; rfl)
        ·rfl
        ·(intro w hSw; (try dsimp only at hSw); go_simp; (try with_reducible rfl))
        try simp only [Act.put, List.setIfInBounds_toArray, List.set_cons_zero, List.set_cons_succ]
        refine wpAnyH_done (by kernel_rfl) ?_ _
        refine NoPanic.normal ?_
        have hS := hHeld
        have HKe := Lib.hid (And.left hS)
        clear hS hHeld HS8 d0 d1 d2 y0 y1 y2 y3
        go_wp2_with fail
        go_ret
        exact ⟨by rw [HF.out]; rfl, HK.out.trans (HKW.out.trans HKe.out)⟩
       have t3 : decide (x3 < 0) = false := by simpa using g3
       have hin := there_in htb
       have HTb := Lib.hid htb
       obtain ⟨e, rfl⟩ : ∃ e : Nat, x2 = (e : Int) := ⟨x2.toNat, by omega⟩
       have hen : e < ne := by omega
       obtain ⟨ad2, v, hA2, _, hv, g0⟩ := (int_rd (HTp.out.keep (HK.out.trans HKW.out)).e).at1 hen
       simp only at hA2
       subst hA2
       have hez : (e : Int) < (ne : Int) := by omega
       have he0 : (0 : Int) ≤ (e : Int) := by omega
       have HV : Hid (t.1.getD (e : Int).toNat 0 = v) := Lib.hid (by rw [List.getD_eq_getElem?_getD, Int.toNat_natCast, hv]; rfl)
       clear hv htb hTt hin
       by_cases g4 : v < x3
       ·have t4 : decide (x3 > v) = true := by simpa using g4
        have HF := Lib.hid (HBe.out (.inr (.inr (.inr (.inr (by rw [HV.out]; exact g4))))))
        have HS8 : Hid (∀ w', Keep Never W1 w' → Keep Never W1 w' ∧ w'.cell? ⟨wr.heap.size, 0, none⟩ = some (.int .i64 x1) ∧ w'.cell? ⟨wr.heap.size, 1, none⟩ = some (.int .i64 (e : Int)) ∧ w'.cell? ⟨wr.heap.size, 2, none⟩ = some (.int .i64 x3) ∧ w'.cell? ⟨w.heap.size, 0, none⟩ = some (.slice (some ad2) ne ce) ∧ w'.cell? ⟨w.heap.size, 1, none⟩ = some (.slice Aj nj cj) ∧ w'.cell? ⟨w.heap.size, 2, none⟩ = some (.slice (some ad) nb cb) ∧ w'.cell? ⟨w.heap.size, 3, none⟩ = some (.slice Ar nr cr) ∧ w'.cell? (ad2.add e) = some (.int .i64 v)) := Lib.hid (fun w' h => ⟨h, keepT h d0, keepT h d1, keepT h d2, keepT h y0, keepT h y1, keepT h y2, keepT h y3, keepT h g0⟩)
        clear g1 g2 g3 g4 HBe
        refine wp_region_noPanic ?_
        refine wp_region_held_drew (S := (fun w' => Keep Never W1 w' ∧ w'.cell? ⟨wr.heap.size, 0, none⟩ = some (.int .i64 x1) ∧ w'.cell? ⟨wr.heap.size, 1, none⟩ = some (.int .i64 (e : Int)) ∧ w'.cell? ⟨wr.heap.size, 2, none⟩ = some (.int .i64 x3) ∧ w'.cell? ⟨w.heap.size, 0, none⟩ = some (.slice (some ad2) ne ce) ∧ w'.cell? ⟨w.heap.size, 1, none⟩ = some (.slice Aj nj cj) ∧ w'.cell? ⟨w.heap.size, 2, none⟩ = some (.slice (some ad) nb cb) ∧ w'.cell? ⟨w.heap.size, 3, none⟩ = some (.slice Ar nr cr) ∧ w'.cell? (ad2.add e) = some (.int .i64 v))) (by kernel_rfl) ?_ (fun hHeld => ?_)
        ·exact HS8.out _ ((Keep.refl Never W1).drew)
        refine wpAnyH_take (i := 0) (oi := ?_) (v := ?_) ?_ (by kernel_rfl) (by kernel_rfl) (by kernel_rfl) (fun _ _ _ h => h) (Or.inl ⟨?_, ?_⟩) (by assumption) ?_
        rotate_left 2
        ·(simp only [List.getElem?_toArray, List.getElem?_cons_zero]; rfl)
        ·rfl
        ·(intro w hSw; (try dsimp only at hSw); go_simp; (try with_reducible rfl))
        try simp only [Act.put, List.setIfInBounds_toArray, List.set_cons_zero, List.set_cons_succ]
        refine wpAnyH_take (i := 1) (oi := ?_) (v := ?_) ?_ (by kernel_rfl) (by kernel_rfl) (by kernel_rfl) (fun _ _ _ h => h) (Or.inl ⟨?_, ?_⟩) (by assumption) ?_
        rotate_left 2
        ·(simp only [List.getElem?_toArray, List.getElem?_cons_succ, List.getElem?_cons_zero]; rfl)
        ·rfl
        ·(intro w hSw; (try dsimp only at hSw); go_simp; (try with_reducible rfl))
        try simp only [Act.put, List.setIfInBounds_toArray, List.set_cons_zero, List.set_cons_succ]
        refine wpAnyH_take (i := 2) (oi := ?_) (v := ?_) ?_ (by kernel_rfl) (by kernel_rfl) (by kernel_rfl) (fun _ _ _ h => h) (Or.inl ⟨?_, ?_⟩) (by assumption) ?_
        rotate_left 2
        ·(simp only [List.getElem?_toArray, List.getElem?_cons_succ, List.getElem?_cons_zero]; rfl)
        ·rfl
        ·(intro w hSw; (try dsimp only at hSw); go_simp; (try with_reducible rfl))
        try simp only [Act.put, List.setIfInBounds_toArray, List.set_cons_zero, List.set_cons_succ]
        refine wpAnyH_take (i := 3) (oi := ?_) (v := ?_) ?_ (by kernel_rfl) (by kernel_rfl) (by kernel_rfl) (fun _ _ _ h => h) (Or.inl ⟨?_, ?_⟩) (by assumption) ?_
        rotate_left 2
        ·(simp only [List.getElem?_toArray, List.getElem?_cons_succ, List.getElem?_cons_zero]; rfl)
        ·rfl
        ·(intro w hSw; (try dsimp only at hSw); go_simp; (try with_reducible rfl))
        try simp only [Act.put, List.setIfInBounds_toArray, List.set_cons_zero, List.set_cons_succ]
        refine wpAnyH_take (i := 4) (oi := ?_) (v := ?_) ?_ (by kernel_rfl) (by kernel_rfl) (by kernel_rfl) (fun _ _ _ h => h) (Or.inl ⟨?_, ?_⟩) (by assumption) ?_
        rotate_left 2
        ·(simp only [List.getElem?_toArray, List.getElem?_cons_succ, List.getElem?_cons_zero]; rfl)
        ·rfl
        ·(intro w hSw; (try dsimp only at hSw); go_simp; (try with_reducible rfl))
        try simp only [Act.put, List.setIfInBounds_toArray, List.set_cons_zero, List.set_cons_succ]
        refine wpAnyH_take (i := 5) (oi := ?_) (v := ?_) ?_ (by kernel_rfl) (by kernel_rfl) (by kernel_rfl) (fun _ _ _ h => h) (Or.inl ⟨?_, ?_⟩) (by assumption) ?_
        rotate_left 2
        ·(simp only [List.getElem?_toArray, List.getElem?_cons_succ, List.getElem?_cons_zero]; rfl)
        ·rfl
        ·(intro w hSw; (try dsimp only at hSw); go_simp; (try with_reducible rfl))
        try simp only [Act.put, List.setIfInBounds_toArray, List.set_cons_zero, List.set_cons_succ]
        refine wpAnyH_take (i := 6) (oi := ?_) (v := ?_) ?_ (by kernel_rfl) (by kernel_rfl) (by kernel_rfl) (fun _ _ _ h => h) (Or.inl ⟨?_, ?_⟩) (by assumption) ?_
        rotate_left 2
        ·(simp only [List.getElem?_toArray, List.getElem?_cons_succ, List.getElem?_cons_zero]; rfl)
        ·rfl
        ·(intro w hSw; (try dsimp only at hSw); go_simp; (try with_reducible rfl))
        try simp only [Act.put, List.setIfInBounds_toArray, List.set_cons_zero, List.set_cons_succ]
        refine wpAnyH_take (i := 7) (oi := ?_) (v := ?_) ?_ (by kernel_rfl) (by kernel_rfl) (by kernel_rfl) (fun _ _ _ h => h) (Or.inl ⟨?_, ?_⟩) (by assumption) ?_
        rotate_left 2
        ·(simp only [List.getElem?_toArray, List.getElem?_cons_succ, List.getElem?_cons_zero]; rfl)
        ·rfl
        ·(intro w hSw; (try dsimp only at hSw); go_simp; (try with_reducible rfl))
        try simp only [Act.put, List.setIfInBounds_toArray, List.set_cons_zero, List.set_cons_succ]
        refine wpAnyH_take (i := 8) (oi := ?_) (v := ?_) ?_ (by kernel_rfl) (by kernel_rfl) (by kernel_rfl) (fun _ _ _ h => h) (Or.inl ⟨?_, ?_⟩) (by assumption) ?_
        rotate_left 2
        ·(simp only [List.getElem?_toArray, List.getElem?_cons_succ, List.getElem?_cons_zero]; rfl)
        ·rfl
        ·(intro w hSw; (try dsimp only at hSw); go_simp; (try with_reducible rfl))
        try simp only [Act.put, List.setIfInBounds_toArray, List.set_cons_zero, List.set_cons_succ]
        refine wpAnyH_take (i := 9) (oi := ?_) (v := ?_) ?_ (by kernel_rfl) (by kernel_rfl) (by kernel_rfl) (fun _ _ _ h => h) (Or.inl ⟨?_, ?_⟩) (by assumption) ?_
        rotate_left 2
        ·(simp only [List.getElem?_toArray, List.getElem?_cons_succ, List.getElem?_cons_zero]; rfl)
        ·rfl
        ·(intro w hSw; (try dsimp only at hSw); go_simp; (try with_reducible rfl))
        try simp only [Act.put, List.setIfInBounds_toArray, List.set_cons_zero, List.set_cons_succ]
        refine wpAnyH_take (i := 10) (oi := ?_) (v := ?_) ?_ (by kernel_rfl) (by kernel_rfl) (by kernel_rfl) (fun _ _ _ h => h) (Or.inl ⟨?_, ?_⟩) (by assumption) ?_
        rotate_left 2
        ·(simp only [List.getElem?_toArray, List.getElem?_cons_succ, List.getElem?_cons_zero]; rfl)
        ·rfl
        ·(intro w hSw; (try dsimp only at hSw); go_simp; (try with_reducible rfl))
        try simp only [Act.put, List.setIfInBounds_toArray, List.set_cons_zero, List.set_cons_succ]
        refine wpAnyH_take (i := 11) (oi := ?_) (v := ?_) ?_ (by kernel_rfl) (by kernel_rfl) (by kernel_rfl) (fun _ _ _ h => h) (Or.inl ⟨?_, ?_⟩) (by assumption) ?_
        rotate_left 2
        ·(simp only [List.getElem?_toArray, List.getElem?_cons_succ, List.getElem?_cons_zero]; rfl)
        ·rfl
        ·(intro w hSw; (try dsimp only at hSw); go_simp; (try with_reducible rfl))
        try simp only [Act.put, List.setIfInBounds_toArray, List.set_cons_zero, List.set_cons_succ]
        refine wpAnyH_ready (rs := [12]) (by kernel_rfl) (by simp) ?_
        refine AllReadyH.cons (o := ?_) ?_ (fun K hK => ?_) AllReadyH.nil
        rotate_left 1
        ·(simp only [List.getElem?_toArray, List.getElem?_cons_succ, List.getElem?_cons_zero]; rfl)
        go_simp
        first
         | (go_at_call 84; refine (HTt.out _).mono ?_; rintro e w' ⟨rfl, hk'⟩)
        (try go_wp2_with fail)
        refine hK.out _ _ ?_ (fun hHeld => ?_)
        ·(try dsimp only); exact HS8.out _ (Keep.trans (And.left (by assumption)) hk')
        clear hK K
        try simp only [Act.put, List.setIfInBounds_toArray, List.set_cons_zero, List.set_cons_succ]
        refine wpAnyH_take (i := 13) (oi := ?_) (v := ?_) ?_ (by kernel_rfl) (by kernel_rfl) (by kernel_rfl) (fun _ _ _ h => h) (Or.inl ⟨?_, ?_⟩) (by assumption) ?_
        rotate_left 2
        ·(simp only [List.getElem?_toArray, List.getElem?_cons_succ, List.getElem?_cons_zero]; rfl)
        ·rfl
        ·(intro w hSw; (try dsimp only at hSw); go_simp; (try with_reducible rfl))
        try simp only [Act.put, List.setIfInBounds_toArray, List.set_cons_zero, List.set_cons_succ]
        refine wpAnyH_take (i := 14) (oi := ?_) (v := ?_) ?_ (by kernel_rfl) (by kernel_rfl) (by kernel_rfl) (fun _ _ _ h => h) (Or.inl ⟨?_, ?_⟩) (by assumption) ?_
        rotate_left 2
        ·(simp only [List.getElem?_toArray, List.getElem?_cons_succ, List.getElem?_cons_zero]; rfl)
        ·rfl
        ·(intro w hSw; (try dsimp only at hSw); go_simp; (try with_reducible rfl))
        try simp only [Act.put, List.setIfInBounds_toArray, List.set_cons_zero, List.set_cons_succ]
        refine wpAnyH_take (i := 15) (oi := ?_) (v := ?_) ?_ (by kernel_rfl) (by kernel_rfl) (by kernel_rfl) (fun _ _ _ h => h) (Or.inl ⟨?_, ?_⟩) (by assumption) ?_
        rotate_left 2
        ·(simp only [List.getElem?_toArray, List.getElem?_cons_succ, List.getElem?_cons_zero]; rfl)
        ·rfl
        ·(intro w hSw; (try dsimp only at hSw); go_simp; (try with_reducible rfl))
        try simp only [Act.put, List.setIfInBounds_toArray, List.set_cons_zero, List.set_cons_succ]
        refine wpAnyH_take (i := 16) (oi := ?_) (v := ?_) ?_ (by kernel_rfl) (by kernel_rfl) (by kernel_rfl) (fun _ _ _ h => h) (Or.inl ⟨?_, ?_⟩) (by assumption) ?_
        rotate_left 2
        ·(simp only [List.getElem?_toArray, List.getElem?_cons_succ, List.getElem?_cons_zero]; rfl)
        ·rfl
        ·(intro w hSw; (try dsimp only at hSw); go_simp; (try with_reducible rfl))
        try simp only [Act.put, List.setIfInBounds_toArray, List.set_cons_zero, List.set_cons_succ]
        refine wpAnyH_take (i := 17) (oi := ?_) (v := ?_) ?_ (by kernel_rfl) (by kernel_rfl) (by kernel_rfl) (fun _ _ _ h => h) (Or.inl ⟨?_, ?_⟩) (by assumption) ?_
        rotate_left 2
        ·(simp only [List.getElem?_toArray, List.getElem?_cons_succ, List.getElem?_cons_zero]; rfl)
        ·rfl
        ·(intro w hSw; (try dsimp only at hSw); go_simp; (try with_reducible rfl))
        try simp only [Act.put, List.setIfInBounds_toArray, List.set_cons_zero, List.set_cons_succ]
        refine wpAnyH_take (i := 18) (oi := ?_) (v := ?_) ?_ (by kernel_rfl) (by kernel_rfl) (by kernel_rfl) (fun _ _ _ h => h) (Or.inl ⟨?_, ?_⟩) (by assumption) ?_
        rotate_left 2
        ·(simp only [List.getElem?_toArray, List.getElem?_cons_succ, List.getElem?_cons_zero]; rfl)
        ·rfl
        ·(intro w hSw; (try dsimp only at hSw); go_simp; (try with_reducible rfl))
        try simp only [Act.put, List.setIfInBounds_toArray, List.set_cons_zero, List.set_cons_succ]
        refine wpAnyH_take (i := 19) (oi := ?_) (v := ?_) ?_ (by kernel_rfl) (by kernel_rfl) (by kernel_rfl) (fun _ _ _ h => h) (Or.inl ⟨?_, ?_⟩) (by assumption) ?_
        rotate_left 2
        ·(simp only [List.getElem?_toArray, List.getElem?_cons_succ, List.getElem?_cons_zero]; rfl)
        ·rfl
        ·(intro w hSw; (try dsimp only at hSw); go_simp; (try with_reducible rfl))
        try simp only [Act.put, List.setIfInBounds_toArray, List.set_cons_zero, List.set_cons_succ]
        refine wpAnyH_take (i := 20) (oi := ?_) (v := ?_) ?_ (by kernel_rfl) (by kernel_rfl) (by kernel_rfl) (fun _ _ _ h => h) (Or.inl ⟨?_, ?_⟩) (by assumption) ?_
        rotate_left 2
        ·(simp only [List.getElem?_toArray, List.getElem?_cons_succ, List.getElem?_cons_zero]; rfl)
        ·rfl
        ·(intro w hSw; (try dsimp only at hSw); go_simp; (try with_reducible rfl))
        try simp only [Act.put, List.setIfInBounds_toArray, List.set_cons_zero, List.set_cons_succ]
        refine wpAnyH_take (i := 21) (oi := ?_) (v := ?_) ?_ (by kernel_rfl) (by kernel_rfl) (by kernel_rfl) (fun _ _ _ h => h) (Or.inl ⟨?_, ?_⟩) (by assumption) ?_
        rotate_left 2
        ·(simp only [List.getElem?_toArray, List.getElem?_cons_succ, List.getElem?_cons_zero]; rfl)
        ·rfl
        ·(intro w hSw; (try dsimp only at hSw); go_simp; (try with_reducible rfl))
        try simp only [Act.put, List.setIfInBounds_toArray, List.set_cons_zero, List.set_cons_succ]
        refine wpAnyH_take (i := 22) (oi := ?_) (v := ?_) ?_ (by kernel_rfl) (by kernel_rfl) (by kernel_rfl) (fun _ _ _ h => h) (Or.inl ⟨?_, ?_⟩) (by assumption) ?_
        rotate_left 2
        ·(simp only [List.getElem?_toArray, List.getElem?_cons_succ, List.getElem?_cons_zero]; rfl)
        ·rfl
        ·(intro w hSw; (try dsimp only at hSw); go_simp; (try with_reducible rfl))
        try simp only [Act.put, List.setIfInBounds_toArray, List.set_cons_zero, List.set_cons_succ]
        refine wpAnyH_take (i := 23) (oi := ?_) (v := ?_) ?_ (by kernel_rfl) (by kernel_rfl) (by kernel_rfl) (fun _ _ _ h => h) (Or.inl ⟨?_, ?_⟩) (by assumption) ?_
        rotate_left 2
        ·(simp only [List.getElem?_toArray, List.getElem?_cons_succ, List.getElem?_cons_zero]; rfl)
        ·rfl
        ·(intro w hSw; (try dsimp only at hSw); go_simp; (try with_reducible rfl))
        try simp only [Act.put, List.setIfInBounds_toArray, List.set_cons_zero, List.set_cons_succ]
        refine wpAnyH_take (i := 24) (oi := ?_) (v := ?_) ?_ (by kernel_rfl) (by kernel_rfl) (by kernel_rfl) (fun _ _ _ h => h) (Or.inl ⟨?_, ?_⟩) (by assumption) ?_
        rotate_left 2
        ·(simp only [List.getElem?_toArray, List.getElem?_cons_succ, List.getElem?_cons_zero]; rfl)
        ·rfl
        ·(intro w hSw; (try dsimp only at hSw); go_simp; (try with_reducible rfl))
        try simp only [Act.put, List.setIfInBounds_toArray, List.set_cons_zero, List.set_cons_succ]
        refine wpAnyH_take (i := 25) (oi := ?_) (v := ?_) ?_ (by kernel_rfl) (by kernel_rfl) (by kernel_rfl) (fun _ _ _ h => h) (Or.inl ⟨?_, ?_⟩) (by assumption) ?_
        rotate_left 2
        ·(simp only [List.getElem?_toArray, List.getElem?_cons_succ, List.getElem?_cons_zero]; rfl)
        ·rfl
        ·(intro w hSw; (try dsimp only at hSw); go_simp; (try with_reducible rfl))
        try simp only [Act.put, List.setIfInBounds_toArray, List.set_cons_zero, List.set_cons_succ]
        refine wpAnyH_take (i := 26) (oi := ?_) (v := ?_) ?_ (by kernel_rfl) (by kernel_rfl) (by kernel_rfl) (fun _ _ _ h => h) (Or.inl ⟨?_, ?_⟩) (by assumption) ?_
        rotate_left 2
        ·(simp only [List.getElem?_toArray, List.getElem?_cons_succ, List.getElem?_cons_zero]; rfl)
        ·rfl
        ·(intro w hSw; (try dsimp only at hSw); go_simp; (try with_reducible rfl))
        try simp only [Act.put, List.setIfInBounds_toArray, List.set_cons_zero, List.set_cons_succ]
        refine wpAnyH_take (i := 27) (oi := ?_) (v := ?_) ?_ (by kernel_rfl) (by kernel_rfl) (by kernel_rfl) (fun _ _ _ h => h) (Or.inl ⟨?_, ?_⟩) (by assumption) ?_
        rotate_left 2
        ·(simp only [List.getElem?_toArray, List.getElem?_cons_succ, List.getElem?_cons_zero]; rfl)
        ·rfl
        ·(intro w hSw; (try dsimp only at hSw); go_simp; (try with_reducible rfl))
        try simp only [Act.put, List.setIfInBounds_toArray, List.set_cons_zero, List.set_cons_succ]
        refine wpAnyH_take (i := 28) (oi := ?_) (v := ?_) ?_ (by kernel_rfl) (by kernel_rfl) (by kernel_rfl) (fun _ _ _ h => h) (Or.inl ⟨?_, ?_⟩) (by assumption) ?_
        rotate_left 2
        ·(simp only [List.getElem?_toArray, List.getElem?_cons_succ, List.getElem?_cons_zero]; rfl)
        ·rfl
        ·(intro w hSw; (try dsimp only at hSw); go_simp; (try with_reducible rfl))
        try simp only [Act.put, List.setIfInBounds_toArray, List.set_cons_zero, List.set_cons_succ]
        refine wpAnyH_take (i := 29) (oi := ?_) (v := ?_) ?_ (by kernel_rfl) (by kernel_rfl) (by kernel_rfl) (fun _ _ _ h => h) (Or.inl ⟨?_, ?_⟩) (by assumption) ?_
        rotate_left 2
        ·(simp only [List.getElem?_toArray, List.getElem?_cons_succ, List.getElem?_cons_zero]; rfl)
        ·rfl
        ·(intro w hSw; (try dsimp only at hSw); go_simp; (try with_reducible rfl))
        try simp only [Act.put, List.setIfInBounds_toArray, List.set_cons_zero, List.set_cons_succ]
        refine wpAnyH_take (i := 30) (oi := ?_) (v := ?_) ?_ (by kernel_rfl) (by kernel_rfl) (by kernel_rfl) (fun _ _ _ h => h) (Or.inl ⟨?_, ?_⟩) (by assumption) ?_
        rotate_left 2
        ·(simp only [List.getElem?_toArray, List.getElem?_cons_succ, List.getElem?_cons_zero]; rfl)
        ·rfl
        ·(intro w hSw; (try dsimp only at hSw); go_simp; (try with_reducible rfl))
        try simp only [Act.put, List.setIfInBounds_toArray, List.set_cons_zero, List.set_cons_succ]
        refine wpAnyH_done (by kernel_rfl) ?_ _
        refine NoPanic.normal ?_
        have hS := hHeld
        have HKe := Lib.hid (And.left hS)
        clear hS hHeld HS8 d0 d1 d2 y0 y1 y2 y3
        go_wp2_with fail
        go_ret
        exact ⟨by rw [HF.out]; rfl, HK.out.trans (HKW.out.trans HKe.out)⟩
       have t4 : decide (x3 > v) = false := by simpa using g4
       have HNb : Hid (¬ (x1 < 0 ∨ 16777214 < x1 ∨ thereB ne (e : Int) = false ∨ x3 < 0 ∨ t.1.getD (e : Int).toNat 0 < x3)) := Lib.hid (by rw [HV.out, HTb.out]; simp; omega)
       have HS8 : Hid (∀ w', Keep Never W1 w' → Keep Never W1 w' ∧ w'.cell? ⟨wr.heap.size, 0, none⟩ = some (.int .i64 x1) ∧ w'.cell? ⟨wr.heap.size, 1, none⟩ = some (.int .i64 (e : Int)) ∧ w'.cell? ⟨wr.heap.size, 2, none⟩ = some (.int .i64 x3) ∧ w'.cell? ⟨w.heap.size, 0, none⟩ = some (.slice (some ad2) ne ce) ∧ w'.cell? ⟨w.heap.size, 1, none⟩ = some (.slice Aj nj cj) ∧ w'.cell? ⟨w.heap.size, 2, none⟩ = some (.slice (some ad) nb cb) ∧ w'.cell? ⟨w.heap.size, 3, none⟩ = some (.slice Ar nr cr) ∧ w'.cell? (ad2.add e) = some (.int .i64 v)) := Lib.hid (fun w' h => ⟨h, keepT h d0, keepT h d1, keepT h d2, keepT h y0, keepT h y1, keepT h y2, keepT h y3, keepT h g0⟩)
       clear g1 g2 g3 g4 HBe
       refine wp_region_noPanic ?_
       refine wp_region_held_drew (S := (fun w' => Keep Never W1 w' ∧ w'.cell? ⟨wr.heap.size, 0, none⟩ = some (.int .i64 x1) ∧ w'.cell? ⟨wr.heap.size, 1, none⟩ = some (.int .i64 (e : Int)) ∧ w'.cell? ⟨wr.heap.size, 2, none⟩ = some (.int .i64 x3) ∧ w'.cell? ⟨w.heap.size, 0, none⟩ = some (.slice (some ad2) ne ce) ∧ w'.cell? ⟨w.heap.size, 1, none⟩ = some (.slice Aj nj cj) ∧ w'.cell? ⟨w.heap.size, 2, none⟩ = some (.slice (some ad) nb cb) ∧ w'.cell? ⟨w.heap.size, 3, none⟩ = some (.slice Ar nr cr) ∧ w'.cell? (ad2.add e) = some (.int .i64 v))) (by kernel_rfl) ?_ (fun hHeld => ?_)
       ·exact HS8.out _ ((Keep.refl Never W1).drew)
       refine wpAnyH_take (i := 0) (oi := ?_) (v := ?_) ?_ (by kernel_rfl) (by kernel_rfl) (by kernel_rfl) (fun _ _ _ h => h) (Or.inl ⟨?_, ?_⟩) (by assumption) ?_
       rotate_left 2
       ·(simp only [List.getElem?_toArray, List.getElem?_cons_zero]; rfl)
       ·rfl
       ·(intro w hSw; (try dsimp only at hSw); go_simp; (try with_reducible rfl))
       try simp only [Act.put, List.setIfInBounds_toArray, List.set_cons_zero, List.set_cons_succ]
       refine wpAnyH_take (i := 1) (oi := ?_) (v := ?_) ?_ (by kernel_rfl) (by kernel_rfl) (by kernel_rfl) (fun _ _ _ h => h) (Or.inl ⟨?_, ?_⟩) (by assumption) ?_
       rotate_left 2
       ·(simp only [List.getElem?_toArray, List.getElem?_cons_succ, List.getElem?_cons_zero]; rfl)
       ·rfl
       ·(intro w hSw; (try dsimp only at hSw); go_simp; (try with_reducible rfl))
       try simp only [Act.put, List.setIfInBounds_toArray, List.set_cons_zero, List.set_cons_succ]
       refine wpAnyH_take (i := 2) (oi := ?_) (v := ?_) ?_ (by kernel_rfl) (by kernel_rfl) (by kernel_rfl) (fun _ _ _ h => h) (Or.inl ⟨?_, ?_⟩) (by assumption) ?_
       rotate_left 2
       ·(simp only [List.getElem?_toArray, List.getElem?_cons_succ, List.getElem?_cons_zero]; rfl)
       ·rfl
       ·(intro w hSw; (try dsimp only at hSw); go_simp; (try with_reducible rfl))
       try simp only [Act.put, List.setIfInBounds_toArray, List.set_cons_zero, List.set_cons_succ]
       refine wpAnyH_take (i := 3) (oi := ?_) (v := ?_) ?_ (by kernel_rfl) (by kernel_rfl) (by kernel_rfl) (fun _ _ _ h => h) (Or.inl ⟨?_, ?_⟩) (by assumption) ?_
       rotate_left 2
       ·(simp only [List.getElem?_toArray, List.getElem?_cons_succ, List.getElem?_cons_zero]; rfl)
       ·rfl
       ·(intro w hSw; (try dsimp only at hSw); go_simp; (try with_reducible rfl))
       try simp only [Act.put, List.setIfInBounds_toArray, List.set_cons_zero, List.set_cons_succ]
       refine wpAnyH_take (i := 4) (oi := ?_) (v := ?_) ?_ (by kernel_rfl) (by kernel_rfl) (by kernel_rfl) (fun _ _ _ h => h) (Or.inl ⟨?_, ?_⟩) (by assumption) ?_
       rotate_left 2
       ·(simp only [List.getElem?_toArray, List.getElem?_cons_succ, List.getElem?_cons_zero]; rfl)
       ·rfl
       ·(intro w hSw; (try dsimp only at hSw); go_simp; (try with_reducible rfl))
       try simp only [Act.put, List.setIfInBounds_toArray, List.set_cons_zero, List.set_cons_succ]
       refine wpAnyH_take (i := 5) (oi := ?_) (v := ?_) ?_ (by kernel_rfl) (by kernel_rfl) (by kernel_rfl) (fun _ _ _ h => h) (Or.inl ⟨?_, ?_⟩) (by assumption) ?_
       rotate_left 2
       ·(simp only [List.getElem?_toArray, List.getElem?_cons_succ, List.getElem?_cons_zero]; rfl)
       ·rfl
       ·(intro w hSw; (try dsimp only at hSw); go_simp; (try with_reducible rfl))
       try simp only [Act.put, List.setIfInBounds_toArray, List.set_cons_zero, List.set_cons_succ]
       refine wpAnyH_take (i := 6) (oi := ?_) (v := ?_) ?_ (by kernel_rfl) (by kernel_rfl) (by kernel_rfl) (fun _ _ _ h => h) (Or.inl ⟨?_, ?_⟩) (by assumption) ?_
       rotate_left 2
       ·(simp only [List.getElem?_toArray, List.getElem?_cons_succ, List.getElem?_cons_zero]; rfl)
       ·rfl
       ·(intro w hSw; (try dsimp only at hSw); go_simp; (try with_reducible rfl))
       try simp only [Act.put, List.setIfInBounds_toArray, List.set_cons_zero, List.set_cons_succ]
       refine wpAnyH_take (i := 7) (oi := ?_) (v := ?_) ?_ (by kernel_rfl) (by kernel_rfl) (by kernel_rfl) (fun _ _ _ h => h) (Or.inl ⟨?_, ?_⟩) (by assumption) ?_
       rotate_left 2
       ·(simp only [List.getElem?_toArray, List.getElem?_cons_succ, List.getElem?_cons_zero]; rfl)
       ·rfl
       ·(intro w hSw; (try dsimp only at hSw); go_simp; (try with_reducible rfl))
       try simp only [Act.put, List.setIfInBounds_toArray, List.set_cons_zero, List.set_cons_succ]
       refine wpAnyH_take (i := 8) (oi := ?_) (v := ?_) ?_ (by kernel_rfl) (by kernel_rfl) (by kernel_rfl) (fun _ _ _ h => h) (Or.inl ⟨?_, ?_⟩) (by assumption) ?_
       rotate_left 2
       ·(simp only [List.getElem?_toArray, List.getElem?_cons_succ, List.getElem?_cons_zero]; rfl)
       ·rfl
       ·(intro w hSw; (try dsimp only at hSw); go_simp; (try with_reducible rfl))
       try simp only [Act.put, List.setIfInBounds_toArray, List.set_cons_zero, List.set_cons_succ]
       refine wpAnyH_take (i := 9) (oi := ?_) (v := ?_) ?_ (by kernel_rfl) (by kernel_rfl) (by kernel_rfl) (fun _ _ _ h => h) (Or.inl ⟨?_, ?_⟩) (by assumption) ?_
       rotate_left 2
       ·(simp only [List.getElem?_toArray, List.getElem?_cons_succ, List.getElem?_cons_zero]; rfl)
       ·rfl
       ·(intro w hSw; (try dsimp only at hSw); go_simp; (try with_reducible rfl))
       try simp only [Act.put, List.setIfInBounds_toArray, List.set_cons_zero, List.set_cons_succ]
       refine wpAnyH_take (i := 10) (oi := ?_) (v := ?_) ?_ (by kernel_rfl) (by kernel_rfl) (by kernel_rfl) (fun _ _ _ h => h) (Or.inl ⟨?_, ?_⟩) (by assumption) ?_
       rotate_left 2
       ·(simp only [List.getElem?_toArray, List.getElem?_cons_succ, List.getElem?_cons_zero]; rfl)
       ·rfl
       ·(intro w hSw; (try dsimp only at hSw); go_simp; (try with_reducible rfl))
       try simp only [Act.put, List.setIfInBounds_toArray, List.set_cons_zero, List.set_cons_succ]
       refine wpAnyH_take (i := 11) (oi := ?_) (v := ?_) ?_ (by kernel_rfl) (by kernel_rfl) (by kernel_rfl) (fun _ _ _ h => h) (Or.inl ⟨?_, ?_⟩) (by assumption) ?_
       rotate_left 2
       ·(simp only [List.getElem?_toArray, List.getElem?_cons_succ, List.getElem?_cons_zero]; rfl)
       ·rfl
       ·(intro w hSw; (try dsimp only at hSw); go_simp; (try with_reducible rfl))
       try simp only [Act.put, List.setIfInBounds_toArray, List.set_cons_zero, List.set_cons_succ]
       refine wpAnyH_ready (rs := [12]) (by kernel_rfl) (by simp) ?_
       refine AllReadyH.cons (o := ?_) ?_ (fun K hK => ?_) AllReadyH.nil
       rotate_left 1
       ·(simp only [List.getElem?_toArray, List.getElem?_cons_succ, List.getElem?_cons_zero]; rfl)
       go_simp
       first
        | (go_at_call 84; refine (HTt.out _).mono ?_; rintro e w' ⟨rfl, hk'⟩)
       (try go_wp2_with fail)
       refine hK.out _ _ ?_ (fun hHeld => ?_)
       ·(try dsimp only); exact HS8.out _ (Keep.trans (And.left (by assumption)) hk')
       clear hK K
       try simp only [Act.put, List.setIfInBounds_toArray, List.set_cons_zero, List.set_cons_succ]
       refine wpAnyH_take (i := 13) (oi := ?_) (v := ?_) ?_ (by kernel_rfl) (by kernel_rfl) (by kernel_rfl) (fun _ _ _ h => h) (Or.inl ⟨?_, ?_⟩) (by assumption) ?_
       rotate_left 2
       ·(simp only [List.getElem?_toArray, List.getElem?_cons_succ, List.getElem?_cons_zero]; rfl)
       ·rfl
       ·(intro w hSw; (try dsimp only at hSw); go_simp; (try with_reducible rfl))
       try simp only [Act.put, List.setIfInBounds_toArray, List.set_cons_zero, List.set_cons_succ]
       refine wpAnyH_take (i := 14) (oi := ?_) (v := ?_) ?_ (by kernel_rfl) (by kernel_rfl) (by kernel_rfl) (fun _ _ _ h => h) (Or.inl ⟨?_, ?_⟩) (by assumption) ?_
       rotate_left 2
       ·(simp only [List.getElem?_toArray, List.getElem?_cons_succ, List.getElem?_cons_zero]; rfl)
       ·rfl
       ·(intro w hSw; (try dsimp only at hSw); go_simp; (try with_reducible rfl))
       try simp only [Act.put, List.setIfInBounds_toArray, List.set_cons_zero, List.set_cons_succ]
       refine wpAnyH_take (i := 15) (oi := ?_) (v := ?_) ?_ (by kernel_rfl) (by kernel_rfl) (by kernel_rfl) (fun _ _ _ h => h) (Or.inl ⟨?_, ?_⟩) (by assumption) ?_
       rotate_left 2
       ·(simp only [List.getElem?_toArray, List.getElem?_cons_succ, List.getElem?_cons_zero]; rfl)
       ·rfl
       ·(intro w hSw; (try dsimp only at hSw); go_simp; (try with_reducible rfl))
       try simp only [Act.put, List.setIfInBounds_toArray, List.set_cons_zero, List.set_cons_succ]
       refine wpAnyH_take (i := 16) (oi := ?_) (v := ?_) ?_ (by kernel_rfl) (by kernel_rfl) (by kernel_rfl) (fun _ _ _ h => h) (Or.inl ⟨?_, ?_⟩) (by assumption) ?_
       rotate_left 2
       ·(simp only [List.getElem?_toArray, List.getElem?_cons_succ, List.getElem?_cons_zero]; rfl)
       ·rfl
       ·(intro w hSw; (try dsimp only at hSw); go_simp; (try with_reducible rfl))
       try simp only [Act.put, List.setIfInBounds_toArray, List.set_cons_zero, List.set_cons_succ]
       refine wpAnyH_take (i := 17) (oi := ?_) (v := ?_) ?_ (by kernel_rfl) (by kernel_rfl) (by kernel_rfl) (fun _ _ _ h => h) (Or.inl ⟨?_, ?_⟩) (by assumption) ?_
       rotate_left 2
       ·(simp only [List.getElem?_toArray, List.getElem?_cons_succ, List.getElem?_cons_zero]; rfl)
       ·rfl
       ·(intro w hSw; (try dsimp only at hSw); go_simp; (try with_reducible rfl))
       try simp only [Act.put, List.setIfInBounds_toArray, List.set_cons_zero, List.set_cons_succ]
       refine wpAnyH_take (i := 18) (oi := ?_) (v := ?_) ?_ (by kernel_rfl) (by kernel_rfl) (by kernel_rfl) (fun _ _ _ h => h) (Or.inl ⟨?_, ?_⟩) (by assumption) ?_
       rotate_left 2
       ·(simp only [List.getElem?_toArray, List.getElem?_cons_succ, List.getElem?_cons_zero]; rfl)
       ·rfl
       ·(intro w hSw; (try dsimp only at hSw); go_simp; (try with_reducible rfl))
       try simp only [Act.put, List.setIfInBounds_toArray, List.set_cons_zero, List.set_cons_succ]
       refine wpAnyH_take (i := 19) (oi := ?_) (v := ?_) ?_ (by kernel_rfl) (by kernel_rfl) (by kernel_rfl) (fun _ _ _ h => h) (Or.inl ⟨?_, ?_⟩) (by assumption) ?_
       rotate_left 2
       ·(simp only [List.getElem?_toArray, List.getElem?_cons_succ, List.getElem?_cons_zero]; rfl)
       ·rfl
       ·(intro w hSw; (try dsimp only at hSw); go_simp; (try with_reducible rfl))
       try simp only [Act.put, List.setIfInBounds_toArray, List.set_cons_zero, List.set_cons_succ]
       refine wpAnyH_take (i := 20) (oi := ?_) (v := ?_) ?_ (by kernel_rfl) (by kernel_rfl) (by kernel_rfl) (fun _ _ _ h => h) (Or.inl ⟨?_, ?_⟩) (by assumption) ?_
       rotate_left 2
       ·(simp only [List.getElem?_toArray, List.getElem?_cons_succ, List.getElem?_cons_zero]; rfl)
       ·rfl
       ·(intro w hSw; (try dsimp only at hSw); go_simp; (try with_reducible rfl))
       try simp only [Act.put, List.setIfInBounds_toArray, List.set_cons_zero, List.set_cons_succ]
       refine wpAnyH_take (i := 21) (oi := ?_) (v := ?_) ?_ (by kernel_rfl) (by kernel_rfl) (by kernel_rfl) (fun _ _ _ h => h) (Or.inl ⟨?_, ?_⟩) (by assumption) ?_
       rotate_left 2
       ·(simp only [List.getElem?_toArray, List.getElem?_cons_succ, List.getElem?_cons_zero]; rfl)
       ·rfl
       ·(intro w hSw; (try dsimp only at hSw); go_simp; (try with_reducible rfl))
       try simp only [Act.put, List.setIfInBounds_toArray, List.set_cons_zero, List.set_cons_succ]
       refine wpAnyH_take (i := 22) (oi := ?_) (v := ?_) ?_ (by kernel_rfl) (by kernel_rfl) (by kernel_rfl) (fun _ _ _ h => h) (Or.inl ⟨?_, ?_⟩) (by assumption) ?_
       rotate_left 2
       ·(simp only [List.getElem?_toArray, List.getElem?_cons_succ, List.getElem?_cons_zero]; rfl)
       ·rfl
       ·(intro w hSw; (try dsimp only at hSw); go_simp; (try with_reducible rfl))
       try simp only [Act.put, List.setIfInBounds_toArray, List.set_cons_zero, List.set_cons_succ]
       refine wpAnyH_take (i := 23) (oi := ?_) (v := ?_) ?_ (by kernel_rfl) (by kernel_rfl) (by kernel_rfl) (fun _ _ _ h => h) (Or.inl ⟨?_, ?_⟩) (by assumption) ?_
       rotate_left 2
       ·(simp only [List.getElem?_toArray, List.getElem?_cons_succ, List.getElem?_cons_zero]; rfl)
       ·rfl
       ·(intro w hSw; (try dsimp only at hSw); go_simp; (try with_reducible rfl))
       try simp only [Act.put, List.setIfInBounds_toArray, List.set_cons_zero, List.set_cons_succ]
       refine wpAnyH_take (i := 24) (oi := ?_) (v := ?_) ?_ (by kernel_rfl) (by kernel_rfl) (by kernel_rfl) (fun _ _ _ h => h) (Or.inl ⟨?_, ?_⟩) (by assumption) ?_
       rotate_left 2
       ·(simp only [List.getElem?_toArray, List.getElem?_cons_succ, List.getElem?_cons_zero]; rfl)
       ·rfl
       ·(intro w hSw; (try dsimp only at hSw); go_simp; (try with_reducible rfl))
       try simp only [Act.put, List.setIfInBounds_toArray, List.set_cons_zero, List.set_cons_succ]
       refine wpAnyH_take (i := 25) (oi := ?_) (v := ?_) ?_ (by kernel_rfl) (by kernel_rfl) (by kernel_rfl) (fun _ _ _ h => h) (Or.inl ⟨?_, ?_⟩) (by assumption) ?_
       rotate_left 2
       ·(simp only [List.getElem?_toArray, List.getElem?_cons_succ, List.getElem?_cons_zero]; rfl)
       ·rfl
       ·(intro w hSw; (try dsimp only at hSw); go_simp; (try with_reducible rfl))
       try simp only [Act.put, List.setIfInBounds_toArray, List.set_cons_zero, List.set_cons_succ]
       refine wpAnyH_take (i := 26) (oi := ?_) (v := ?_) ?_ (by kernel_rfl) (by kernel_rfl) (by kernel_rfl) (fun _ _ _ h => h) (Or.inl ⟨?_, ?_⟩) (by assumption) ?_
       rotate_left 2
       ·(simp only [List.getElem?_toArray, List.getElem?_cons_succ, List.getElem?_cons_zero]; rfl)
       ·rfl
       ·(intro w hSw; (try dsimp only at hSw); go_simp; (try with_reducible rfl))
       try simp only [Act.put, List.setIfInBounds_toArray, List.set_cons_zero, List.set_cons_succ]
       refine wpAnyH_take (i := 27) (oi := ?_) (v := ?_) ?_ (by kernel_rfl) (by kernel_rfl) (by kernel_rfl) (fun _ _ _ h => h) (Or.inl ⟨?_, ?_⟩) (by assumption) ?_
       rotate_left 2
       ·(simp only [List.getElem?_toArray, List.getElem?_cons_succ, List.getElem?_cons_zero]; rfl)
       ·rfl
       ·(intro w hSw; (try dsimp only at hSw); go_simp; (try with_reducible rfl))
       try simp only [Act.put, List.setIfInBounds_toArray, List.set_cons_zero, List.set_cons_succ]
       refine wpAnyH_take (i := 28) (oi := ?_) (v := ?_) ?_ (by kernel_rfl) (by kernel_rfl) (by kernel_rfl) (fun _ _ _ h => h) (Or.inl ⟨?_, ?_⟩) (by assumption) ?_
       rotate_left 2
       ·(simp only [List.getElem?_toArray, List.getElem?_cons_succ, List.getElem?_cons_zero]; rfl)
       ·rfl
       ·(intro w hSw; (try dsimp only at hSw); go_simp; (try with_reducible rfl))
       try simp only [Act.put, List.setIfInBounds_toArray, List.set_cons_zero, List.set_cons_succ]
       refine wpAnyH_take (i := 29) (oi := ?_) (v := ?_) ?_ (by kernel_rfl) (by kernel_rfl) (by kernel_rfl) (fun _ _ _ h => h) (Or.inl ⟨?_, ?_⟩) (by assumption) ?_
       rotate_left 2
       ·(simp only [List.getElem?_toArray, List.getElem?_cons_succ, List.getElem?_cons_zero]; rfl)
       ·rfl
       ·(intro w hSw; (try dsimp only at hSw); go_simp; (try with_reducible rfl))
       try simp only [Act.put, List.setIfInBounds_toArray, List.set_cons_zero, List.set_cons_succ]
       refine wpAnyH_take (i := 30) (oi := ?_) (v := ?_) ?_ (by kernel_rfl) (by kernel_rfl) (by kernel_rfl) (fun _ _ _ h => h) (Or.inl ⟨?_, ?_⟩) (by assumption) ?_
       rotate_left 2
       ·(simp only [List.getElem?_toArray, List.getElem?_cons_succ, List.getElem?_cons_zero]; rfl)
       ·rfl
       ·(intro w hSw; (try dsimp only at hSw); go_simp; (try with_reducible rfl))
       try simp only [Act.put, List.setIfInBounds_toArray, List.set_cons_zero, List.set_cons_succ]
       refine wpAnyH_done (by kernel_rfl) ?_ _
       refine NoPanic.normal ?_
       have hS := hHeld
       have HKe := Lib.hid (HKW.out.trans (And.left hS))
       have p0 := hS.2.1
       have q2 := hS.2.2.2.2.2.2.1
       clear hS hHeld HS8 HTt g0 d0 d1 d2 y0 y1 y2 y3 t1 t2 t3 t4 hez he0
       have hq := run_front Tryz.underlying24 Tryz.sizeOf94 (some ad) nb cb k hk HTp.out.b.cap
       obtain ⟨ob, hob⟩ : ∃ b, balM (t.2.2.1.take k) x1 = b := ⟨_, rfl⟩
       have HBc0 : ∀ W, Keep Never w W → Calls Tryz.prog 55 #[.agg #[.slice none 0 0, .slice none 0 0, .slice (some ad) k cb, .slice none 0 0], .int .i64 x1] W (BalRet ob W) := fun W hk0 => by
        have := bal_any ⟨none, 0, 0, none, 0, 0, some ad, k, cb, none, 0, 0⟩ ([], [], t.2.2.1.take k, []) B x1 W ⟨Rep.Sl.nil _ _ _, Rep.Sl.nil _ _ _, Sl.front (HTp.out.keep hk0).b hk, Rep.Sl.nil _ _ _⟩ (by show k ≤ 100000000; omega)
        simp only at this
        rw [hob] at this
        exact this
       obtain ⟨o1, ho1⟩ : ∃ z, (ob.getD (0, 0, 0)).1 = z := ⟨_, rfl⟩
       obtain ⟨o2, ho2⟩ : ∃ z, (ob.getD (0, 0, 0)).2.1 = z := ⟨_, rfl⟩
       obtain ⟨o3, ho3⟩ : ∃ z, (ob.getD (0, 0, 0)).2.2 = z := ⟨_, rfl⟩
       obtain ⟨os, hos⟩ : ∃ z, ob.isSome = z := ⟨_, rfl⟩
       unfold BalRet at HBc0
       rw [ho1, ho2, ho3, hos] at HBc0
       have HBc := Lib.hid HBc0
       have HOs : Hid ((balM (t.2.2.1.take k) x1).isSome = os) := Lib.hid (by rw [hob]; exact hos)
       have HS2 : Hid (∀ W, Keep Never w' W → Keep Never w' W ∧ W.cell? ⟨wr.heap.size, 0, none⟩ = some (.int .i64 x1) ∧ W.cell? ⟨w.heap.size, 2, none⟩ = some (.slice (some ad) nb cb)) := Lib.hid (fun W h => ⟨h, keepT h p0, keepT h q2⟩)
       have HKw := Lib.hid (HK.out.trans HKe.out)
       clear hob ho1 ho2 ho3 hos HBc0 hk'
       go_wp2_with fail
       go_region_held3 (fun W => Keep Never w' W ∧ W.cell? ⟨wr.heap.size, 0, none⟩ = some (.int .i64 x1) ∧ W.cell? ⟨w.heap.size, 2, none⟩ = some (.slice (some ad) nb cb))
        (first | assumption | exact HS2.out _ ((Keep.refl Never w').drew) | exact HS2.out _ (Keep.trans (And.left (by assumption)) hk9) | exact HS2.out _ (Keep.alloc (And.left (by assumption)) _) | exact HS2.out _ (Keep.alloc (Keep.trans ((Keep.refl Never w').drew) hk9) _) | exact HS2.out _ (put3_keep (And.left (by assumption)) (by first | exact Nat.le_refl _ | exact (Keep.size (And.left (by assumption))) | omega) _ _ _))
        (first
         | (go_at_call 55; refine (HBc.out _ (HKw.out.trans (by first | exact And.left (by assumption) | exact (Keep.refl Never w').drew))).mono ?_; rintro e w9 ⟨rfl, hk9⟩; have nb9 : Blk w9 w'.heap.size 94 #[.int .i64 0, .int .i64 0, .int .i64 0] := (by first | exact Blk.keep (Blk.new _ _ _) hk9 (fun h => h) | exact Blk.keep (Blk.drew (Blk.new _ _ _)) hk9 (fun h => h)); have n0 : w9.cell? ⟨w'.heap.size, 0, none⟩ = some (.int .i64 0) := nb9.cell 0; have n1 : w9.cell? ⟨w'.heap.size, 1, none⟩ = some (.int .i64 0) := nb9.cell 1; have n2 : w9.cell? ⟨w'.heap.size, 2, none⟩ = some (.int .i64 0) := nb9.cell 2; have m0 : w9.frozen? ⟨w'.heap.size, 0, none⟩ = false := nb9.frozen 0; have m1 : w9.frozen? ⟨w'.heap.size, 1, none⟩ = false := nb9.frozen 1; have m2 : w9.frozen? ⟨w'.heap.size, 2, none⟩ = false := nb9.frozen 2)
         | (go_at_call 55; refine (HBc.out _ (HKw.out.trans (by first | exact And.left (by assumption) | exact (Keep.refl Never w').drew))).mono ?_; rintro e w9 ⟨rfl, hk9⟩))
       all_goals
        rename_i hS
        have HKf := Lib.hid (HKe.out.trans (And.left hS))
        clear hS
        clear p0 q2 hq HBc HS2 hk9
        (try clear nb9 n0 n1 n2 m0 m1 m2)
        cases os with
        | true =>
         have HF : Hid (checkM t = 5) := Lib.hid (by
          have h1 : bErr t k = 5 := by unfold bErr; rw [Hb.out]; simp only; rw [← HL.out.1, if_neg HNb.out, if_pos HOs.out]
          have h2 : firstE (bErr t) t.2.2.1.length = 5 := firstE_at (k := 0) (by rw [← HL.out.2.2.1]; exact h0) HH.out.2 h1 (by decide)
          unfold checkM; rw [if_neg HN1.out, if_neg HN2.out, if_neg HN3.out, h2, if_pos (by decide)])
         go_wp2_with fail
         go_ret
         exact ⟨by rw [HF.out]; rfl, HK.out.trans HKf.out⟩
        | false =>
         have HZ : Hid (bErr t k = 0) := Lib.hid (by unfold bErr; rw [Hb.out]; simp only; rw [← HL.out.1, if_neg HNb.out, if_neg (by rw [HOs.out]; simp)])
         go_wp2_with fail
         refine ⟨⟨k + 1, by omega, by go_num, Lib.hid ⟨HKf.out, fun j hj => ?_⟩⟩, ?_⟩
         ·by_cases e : j = k
          ·rw [e]; exact HZ.out
          ·exact HH.out.2 j (by omega)
         ·simp [intOf]; try omega
     ·obtain rfl : k = nb := by omega
      have hkz : ¬ (k : Int) < (k : Int) := by omega
      have HN4 : Hid (¬ firstE (bErr t) t.2.2.1.length ≠ 0) := Lib.hid (by rw [firstE_zero (fun j hj => HH.out.2 j (by rw [HL.out.2.2.1]; exact hj))]; simp)
      have HKr := Lib.hid HH.out.1
      have y3 : wr.cell? ⟨w.heap.size, 3, none⟩ = some (.slice Ar nr cr) := (HB1.out.keep HH.out.1 (fun h => h)).cell 3
      clear HH HT
      go_wp2_with fail
      clear y3
      go_loopw [9, 10, 11, 12, 13, 132] (fun _ _ _ _ _ i wr => ∃ q : Nat, q ≤ nr ∧ i = .int .i64 q ∧ Hid (Keep Never w1 wr ∧ ∀ j, j < q → rErr t j = 0)) (fun _ _ _ _ _ i _ => nr - (intOf i).toNat)
      case atStart => exact ⟨0, by omega, rfl, Lib.hid ⟨HKr.out, fun j h => by omega⟩⟩
      case round =>
       rename Nat => nb
       obtain ⟨k, hk, rfl, HH⟩ := hrel
       by_cases h0 : k < nr
       ·have hkz : (k : Int) < (nr : Int) := by omega
        obtain ⟨ad, r, A2, n2, d2, hA, _, hr, c0, c1, c2, c3, hsl⟩ := rt_at2 (HTp.out.keep (HK.out.trans HH.out.1)).r h0
        simp only at hA
        subst hA
        obtain ⟨x1, p, x2, x3⟩ := r
        simp only at c0 c1 c2 c3 hsl
        obtain ⟨W1, hW1⟩ : ∃ W : World, wr.alloc (.cells #[.int .i64 x1, .slice A2 n2 d2, .int .i64 x2, .int .i64 x3] 64) = W := ⟨_, rfl⟩
        have K1 : Keep Never wr W1 := by rw [← hW1]; exact (Keep.refl _ _).alloc _
        have B1 := Blk.new wr 64 #[.int .i64 x1, .slice A2 n2 d2, .int .i64 x2, .int .i64 x3]
        rw [hW1] at B1
        have HKW := Lib.hid (HH.out.1.trans K1)
        have d0 : W1.cell? ⟨wr.heap.size, 0, none⟩ = some (.int .i64 x1) := B1.cell 0
        have d1 : W1.cell? ⟨wr.heap.size, 1, none⟩ = some (.slice A2 n2 d2) := B1.cell 1
        have d2' : W1.cell? ⟨wr.heap.size, 2, none⟩ = some (.int .i64 x2) := B1.cell 2
        have d3 : W1.cell? ⟨wr.heap.size, 3, none⟩ = some (.int .i64 x3) := B1.cell 3
        have hb1 := HB1.out.keep HKW.out (fun h => h)
        have y3o : wr.cell? ⟨w.heap.size, 3, none⟩ = some (.slice (some ad) nr cr) := (HB1.out.keep HH.out.1 (fun h => h)).cell 3
        have y0 : W1.cell? ⟨w.heap.size, 0, none⟩ = some (.slice Ae ne ce) := hb1.cell 0
        have y1 : W1.cell? ⟨w.heap.size, 1, none⟩ = some (.slice Aj nj cj) := hb1.cell 1
        have y2 : W1.cell? ⟨w.heap.size, 2, none⟩ = some (.slice Ab nb cb) := hb1.cell 2
        have y3 : W1.cell? ⟨w.heap.size, 3, none⟩ = some (.slice (some ad) nr cr) := hb1.cell 3
        have hn2 : n2 ≤ 100000000 := by have h5 : p.length ≤ 100000000 := HP5.out _ (List.mem_of_getElem? hr); have := hsl.len; omega
        have HRr := HRd.out (x1, p, x2, x3) A2 n2 d2 W1 (HK.out.trans HKW.out) (hsl.keep K1 (fun _ h => h.elim)) hn2
        obtain ⟨re, hre⟩ : ∃ z, routedM t (x1, p, x2, x3) = z := ⟨_, rfl⟩
        rw [hre] at HRr
        have HRc := Lib.hid HRr
        have HRe := Lib.hid hre
        have Hr := Lib.hid hr
        have HBr := Lib.hid B1
        clear hr K1 B1 hb1 HRr hre hsl HRd
        go_wp2_with fail
        refine HRc.out.mono ?_
        rintro e w5 ⟨rfl, hk5⟩
        have HK5 := Lib.hid (HKW.out.trans hk5)
        have p0 : w5.cell? ⟨wr.heap.size, 0, none⟩ = some (.int .i64 x1) := keepT hk5 d0
        have q3 : w5.cell? ⟨w.heap.size, 3, none⟩ = some (.slice (some ad) nr cr) := keepT hk5 y3
        clear hk5 HRc c0 c1 c2 c3 hW1 d0 d1 d2' d3 y0 y1 y2 y3 y3o
        by_cases g0 : re = 0
        case neg =>
         have t0 : (re != 0) = true := by simpa using g0
         have t0' : (re == 0) = false := by simpa using g0
         have HF : Hid (checkM t = re) := Lib.hid (by
          have h1 : rErr t k = re := by unfold rErr; rw [Hr.out]; simp only; rw [HRe.out, if_pos g0]
          have h2 : firstE (rErr t) t.2.2.2.length = re := firstE_at (k := 0) (by rw [← HL.out.2.2.2]; exact h0) HH.out.2 h1 g0
          unfold checkM; rw [if_neg HN1.out, if_neg HN2.out, if_neg HN3.out, if_neg HN4.out, h2])
         clear g0
         go_wp2_with fail
         go_ret
         exact ⟨by rw [HF.out]; rfl, HK.out.trans HK5.out⟩
        subst g0
        have hq := run_front Tryz.underlying25 Tryz.sizeOf64 (some ad) nr cr k hk HTp.out.r.cap
        obtain ⟨ob, hob⟩ : ∃ b, rtM (t.2.2.2.take k) x1 = b := ⟨_, rfl⟩
        have HBc0 : ∀ W, Keep Never w W → Calls Tryz.prog 28 #[.agg #[.slice none 0 0, .slice none 0 0, .slice none 0 0, .slice (some ad) k cr], .int .i64 x1] W (RtRet ob W) := fun W hk0 => by
         have := route_any ⟨none, 0, 0, none, 0, 0, none, 0, 0, some ad, k, cr⟩ ([], [], [], t.2.2.2.take k) B x1 W ⟨Rep.Sl.nil _ _ _, Rep.Sl.nil _ _ _, Rep.Sl.nil _ _ _, Sl.front (HTp.out.keep hk0).r hk⟩ (by show k ≤ 100000000; omega) (fun r hr => HP5.out r (List.mem_of_mem_take hr)) (Nat.le_trans HGB.out hk0.size)
         simp only at this
         rw [hob] at this
         exact this
        obtain ⟨o1, ho1⟩ : ∃ z, (ob.getD (0, [], 0, 0)).1 = z := ⟨_, rfl⟩
        obtain ⟨o2, ho2⟩ : ∃ z, (ob.getD (0, [], 0, 0)).2.2.1 = z := ⟨_, rfl⟩
        obtain ⟨o3, ho3⟩ : ∃ z, (ob.getD (0, [], 0, 0)).2.2.2 = z := ⟨_, rfl⟩
        obtain ⟨os, hos⟩ : ∃ z, ob.isSome = z := ⟨_, rfl⟩
        unfold RtRet at HBc0
        rw [ho1, ho2, ho3, hos] at HBc0
        have HBc := Lib.hid HBc0
        have HOs : Hid ((rtM (t.2.2.2.take k) x1).isSome = os) := Lib.hid (by rw [hob]; exact hos)
        have HS2 : Hid (∀ W, Keep Never w5 W → Keep Never w5 W ∧ W.cell? ⟨wr.heap.size, 0, none⟩ = some (.int .i64 x1) ∧ W.cell? ⟨w.heap.size, 3, none⟩ = some (.slice (some ad) nr cr)) := Lib.hid (fun W h => ⟨h, keepT h p0, keepT h q3⟩)
        have HKw := Lib.hid (HK.out.trans HK5.out)
        clear hob ho1 ho2 ho3 hos HBc0
        go_wp2_with fail
        go_region_held3 (fun W => Keep Never w5 W ∧ W.cell? ⟨wr.heap.size, 0, none⟩ = some (.int .i64 x1) ∧ W.cell? ⟨w.heap.size, 3, none⟩ = some (.slice (some ad) nr cr))
         (first | assumption | exact HS2.out _ ((Keep.refl Never w5).drew) | exact HS2.out _ (Keep.trans (And.left (by assumption)) hk9) | exact HS2.out _ (Keep.alloc (And.left (by assumption)) _) | exact HS2.out _ (Keep.alloc (Keep.trans ((Keep.refl Never w5).drew) hk9) _) | exact HS2.out _ (put4_keep (And.left (by assumption)) (.inr (by first | exact Nat.le_refl _ | exact (Keep.size (And.left (by assumption))) | omega)) _ _ _ _))
         (first
          | (go_at_call 28; refine (HBc.out _ (HKw.out.trans (by first | exact And.left (by assumption) | exact (Keep.refl Never w5).drew))).mono ?_; rintro e w9 ⟨A9, n9, c9, rfl, hsl9, hk9⟩; have nb9 : Blk w9 w5.heap.size 64 #[.int .i64 0, .slice none 0 0, .int .i64 0, .int .i64 0] := (by first | exact Blk.keep (Blk.new _ _ _) hk9 (fun h => h) | exact Blk.keep (Blk.drew (Blk.new _ _ _)) hk9 (fun h => h)); have n0 : w9.cell? ⟨w5.heap.size, 0, none⟩ = some (.int .i64 0) := nb9.cell 0; have n1 : w9.cell? ⟨w5.heap.size, 1, none⟩ = some (.slice none 0 0) := nb9.cell 1; have n2 : w9.cell? ⟨w5.heap.size, 2, none⟩ = some (.int .i64 0) := nb9.cell 2; have n3 : w9.cell? ⟨w5.heap.size, 3, none⟩ = some (.int .i64 0) := nb9.cell 3; have m0 : w9.frozen? ⟨w5.heap.size, 0, none⟩ = false := nb9.frozen 0; have m1 : w9.frozen? ⟨w5.heap.size, 1, none⟩ = false := nb9.frozen 1; have m2 : w9.frozen? ⟨w5.heap.size, 2, none⟩ = false := nb9.frozen 2; have m3 : w9.frozen? ⟨w5.heap.size, 3, none⟩ = false := nb9.frozen 3)
          | (go_at_call 28; refine (HBc.out _ (HKw.out.trans (by first | exact And.left (by assumption) | exact (Keep.refl Never w5).drew))).mono ?_; rintro e w9 ⟨A9, n9, c9, rfl, hsl9, hk9⟩))
        all_goals
         rename_i hS
         have HKf := Lib.hid (HK5.out.trans (And.left hS))
         clear hS
         clear p0 q3 hq HBc HS2 hk9 hsl9
         (try clear nb9 n0 n1 n2 n3 m0 m1 m2 m3)
         cases os with
         | true =>
          have HF : Hid (checkM t = 5) := Lib.hid (by
           have h1 : rErr t k = 5 := by unfold rErr; rw [Hr.out]; simp only; rw [if_neg (by rw [HRe.out]; simp), if_pos HOs.out]
           have h2 : firstE (rErr t) t.2.2.2.length = 5 := firstE_at (k := 0) (by rw [← HL.out.2.2.2]; exact h0) HH.out.2 h1 (by decide)
           unfold checkM; rw [if_neg HN1.out, if_neg HN2.out, if_neg HN3.out, if_neg HN4.out, h2])
          go_wp2_with fail
          go_ret
          exact ⟨by rw [HF.out]; rfl, HK.out.trans HKf.out⟩
         | false =>
          have HZ : Hid (rErr t k = 0) := Lib.hid (by unfold rErr; rw [Hr.out]; simp only; rw [if_neg (by rw [HRe.out]; simp), if_neg (by rw [HOs.out]; simp)])
          go_wp2_with fail
          refine ⟨⟨k + 1, by omega, by go_num, Lib.hid ⟨HKf.out, fun j hj => ?_⟩⟩, ?_⟩
          ·by_cases e : j = k
           ·rw [e]; exact HZ.out
           ·exact HH.out.2 j (by omega)
          ·simp [intOf]; try omega
       ·obtain rfl : k = nr := by omega
        have hkz : ¬ (k : Int) < (k : Int) := by omega
        have HF : Hid (checkM t = 0) := Lib.hid (by unfold checkM; rw [if_neg HN1.out, if_neg HN2.out, if_neg HN3.out, if_neg HN4.out, firstE_zero (fun j hj => HH.out.2 j (by rw [HL.out.2.2.2]; exact hj))])
        have HKe := Lib.hid (HK.out.trans HH.out.1)
        clear HH
        go_wp2_with fail
        go_ret
        exact ⟨by rw [HF.out]; rfl, HKe.out⟩
end Go.Proofs.YtpapiojicbbheaaGreatDoor
