/- awake: the chapter's examples hold. -/
import Derived.Test.YtfkmcohefppanaaBitsX
namespace Go.Proofs.Ytfkmcohefppanaa
open Go.RowKit

theorem wr_new (w : World) : WrAt (w.alloc (.cells #[.slice none 0 0, .int .i64 0] 27)) w.heap.size w.heap.size none [] :=
  ⟨0, Blk.new _ _ _, Own.nil _ _ _ _, by simp, Nat.le_refl _⟩

theorem wput_eq {B p : Nat} {A : Option Addr} {bs l' : List Bool} {x width e0 : Int} (hx : x ≤ 9223372036854775807) {w : World} (hw : WrAt w B p A bs) (hB : B ≤ w.heap.size) (he : putE bs.length x width = e0) (hl : putL bs x width = l') :
    Calls Try.prog 12 #[.pointer (some ⟨p, 0, none⟩), .int .i64 x, .int .i64 width] w fun e w' => ∃ A', e = .returned (.int .i64 e0) ∧ Hid (WrAt w' B p A' l') ∧ Keep (WrS p A) w w' ∧ Hid (∀ k, InRow A' k → InRow A k ∨ w.heap.size ≤ k) := by
  subst he; subst hl
  exact wput_any B p A bs x width hx w hw hB
theorem get_eq {B H p : Nat} {b : List Nat} {k k' : Nat} {width n0 e0 : Int} {w : World} (hw : RdAt w B H p b k) (hB : B ≤ w.heap.size) (hn : getN (leftB b k) width = n0) (he : getE (leftB b k).length width = e0) (hk : (k + if getE (leftB b k).length width = 0 then width.toNat else 0) = k') :
    Calls Try.prog 17 #[.pointer (some ⟨p, 0, none⟩), .int .i64 width] w fun e w' => e = .returned (.tuple #[.int .i64 n0, .int .i64 e0]) ∧ Hid (RdAt w' B H p b k') ∧ Keep (fun q => q = p) w w' := by
  subst he; subst hn; subst hk
  exact get_any B H p b k width w hw hB
theorem left_eq {B H p : Nat} {b : List Nat} {k : Nat} {v : Int} {w : World} (hw : RdAt w B H p b k) (hv : ((8 * b.length - k : Nat) : Int) = v) :
    Calls Try.prog 18 #[.pointer (some ⟨p, 0, none⟩)] w fun e w' => e = .returned (.int .i64 v) ∧ ∃ q, w' = w.drewN q := by
  subst hv
  exact left_any B H p b k w hw
theorem wr_base {p : Nat} {A : Option Addr} {w w0 : World} {B : Nat} {bs : List Bool} (h : WrAt w B p A bs) (hB : w0.heap.size ≤ B) : ∀ k, WrS p A k → w0.heap.size ≤ k := by
  obtain ⟨c, _, ho, _, hp⟩ := h
  intro k hk
  rcases hk with rfl | hk
  · omega
  · have := (ho.row hk).1; omega

theorem WrAt.keep {w w' : World} {B p : Nat} {A : Option Addr} {bs : List Bool} {S : Nat → Prop} (h : WrAt w B p A bs) (hk : Keep S w w') (hS : ∀ k, k < w.heap.size → ¬ S k) : WrAt w' B p A bs := by
  obtain ⟨c, hb, ho, hl, hp⟩ := h
  exact ⟨c, hb.keep hk (hS _ hb.lt), ho.keep hk (fun k hk => hS _ (ho.row hk).2), hl, hp⟩
theorem WrAt.keep_ {w w' : World} {B p : Nat} {A : Option Addr} {bs : List Bool} {S : Nat → Prop} (h : WrAt w B p A bs) (hk : Keep S w w') (hS : ∀ k, S k → k ≠ p ∧ ¬ InRow A k) : WrAt w' B p A bs := by
  obtain ⟨c, hb, ho, hl, hp⟩ := h
  exact ⟨c, hb.keep hk (fun e => (hS _ e).1 rfl), ho.keep hk (fun k hk e => (hS _ e).2 hk), hl, hp⟩
theorem WrAt.drew {w : World} {B p : Nat} {A : Option Addr} {bs : List Bool} (h : WrAt w B p A bs) : WrAt w.drew B p A bs := h.keep ((Keep.refl (fun _ => False) w).drew) (fun _ _ h => h)
theorem WrAt.rd {w : World} {B p : Nat} {A : Option Addr} {bs : List Bool} (h : WrAt w B p A bs) : p < w.heap.size := by
  obtain ⟨c, hb, ho, hl, hp⟩ := h
  exact hb.lt
theorem RdAt.lo {w : World} {B H p : Nat} {b : List Nat} {k : Nat} (h : RdAt w B H p b k) : B ≤ p ∧ p < w.heap.size := by
  obtain ⟨A, c, hb, ho, h8, hl, hn, hB, _, _⟩ := h
  exact ⟨hB, hb.lt⟩
theorem bytesOf_lt (l : List Bool) : ∀ x ∈ bytesOf l, x < 256 := bytesTo_lt _ _

set_option maxHeartbeats 1000000 in
theorem awake_any (w : World) : Calls Try.prog 10 #[] w fun e w' => e = .returned (.bool true) ∧ Keep Never w w' := by
  have HWR := Lib.hid (wr_new w)
  go_enter Try.func10, Try.ntmps10
  go_wp2_with fail
  refine (wput_eq (by decide) HWR.out (by simp) (show _ = 0 by decide) (show _ = [true, false, true] by decide)).mono ?_
  rintro e w1 ⟨A1, rfl, hw1, hk1, hr1⟩
  have hs1 := hk1.size
  go_wp2_with fail
  refine (wput_eq (by decide) hw1.out (by simp at hs1; omega) (show _ = 0 by decide) (show _ = [true, false, true, false, false, false, false, false, false, true] by decide)).mono ?_
  rintro e w2 ⟨A2, rfl, hw2, hk2, hr2⟩
  have hs2 := hk2.size
  go_wp2_with fail
  refine (read_any (some ⟨w2.heap.size, 0, none⟩) 2 2 _ [160, 64] rfl _ (Rd.of_blk (n := 2) (cs := [.int .u8 160, .int .u8 64]) (Blk.new _ _ _) rfl) (by decide) (by decide)).mono ?_
  rintro e w3 ⟨p, rfl, hrd3, hk3⟩
  have Hrd3 := Lib.hid hrd3
  clear hrd3
  have hs3 := hk3.size
  go_wp2_with fail
  refine (get_eq Hrd3.out hs3 (show _ = 5 by decide) (show _ = 0 by decide) (show _ = 3 by decide)).mono ?_
  rintro e w4 ⟨rfl, hrd4, hk4⟩
  have hs4 := hk4.size
  go_wp2_with fail
  refine (get_eq hrd4.out (by simp at *; omega) (show _ = 1 by decide) (show _ = 0 by decide) (show _ = 10 by decide)).mono ?_
  rintro e w5 ⟨rfl, hrd5, hk5⟩
  have hs5 := hk5.size
  go_wp2_with fail
  refine (get_eq hrd5.out (by simp at *; omega) (show _ = 0 by decide) (show _ = 10 by decide) (show _ = 10 by decide)).mono ?_
  rintro e w6 ⟨rfl, hrd6, hk6⟩
  have hs6 := hk6.size
  have hp3 := hrd6.out.lo
  have hk26 : Keep Never w2 w6 := (((((Keep.refl _ w2).alloc _).trans hk3).then_ hk4 (fun i hi e => by simp at hp3; omega)).then_ hk5 (fun i hi e => by simp at hp3; omega)).then_ hk6 (fun i hi e => by simp at hp3; omega)
  have hw6 := Lib.hid (hw2.out.keep hk26 (fun k _ h => h))
  have hk02 : Keep Never w w2 := (((Keep.refl _ w).alloc _).then_ hk1 (fun i hi e => by have := wr_base HWR.out (w0 := w) (Nat.le_refl _) i e; omega)).then_ hk2 (fun i hi e => by have := wr_base hw1.out (w0 := w) (Nat.le_refl _) i e; omega)
  clear hk1 hk2 hk3 hk4 hk5 hk6
  go_wp2_with fail
  refine (wlen_any w.heap.size w.heap.size A2 _ w6 hw6.out).mono ?_
  rintro e w7 ⟨rfl, rfl⟩
  go_wp2_with fail
  refine (wbytes_any w.heap.size w.heap.size A2 _ w6 hw6.out).mono ?_
  rintro e w7 ⟨A7, c7, rfl, hb7, hk7⟩
  have hcv := run_str (P := Try.prog) (src := 25) (dst := 9) Try.underlying25 Try.underlying5 Try.underlying9 hb7.rd (bytesOf_lt _) c7
  have hse : strOf (bytesOf [true, false, true, false, false, false, false, false, false, true]) = ⟨#[160, 64]⟩ := by decide
  rw [hse] at hcv
  have hrd7 := Lib.hid (hrd6.out.keep hk7 (fun q h => h.elim))
  clear hse hb7
  go_wp2_with fail
  refine (left_any _ _ p _ _ w7 hrd7.out).mono ?_
  rintro e w8 ⟨rfl, q, rfl⟩
  go_wp2_with fail
  go_ret
  exact ⟨rfl, ((hk02.trans hk26).trans hk7).drewN q⟩

end Go.Proofs.Ytfkmcohefppanaa
