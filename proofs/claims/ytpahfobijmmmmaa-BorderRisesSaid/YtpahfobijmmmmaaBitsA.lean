/- awake: the chapter's examples hold. -/
import Derived.Test.YtpahfobijmmmmaaBitsX
namespace Go.Proofs.Ytpahfobijmmmmaa
open Go.RowKit

theorem wr_new (w : World) : WrAt (w.alloc (.cells #[.slice none 0 0, .int .i64 0] 52)) w.heap.size w.heap.size none [] :=
  ⟨0, Blk.new _ _ _, Own.nil _ _ _ _, by simp, Nat.le_refl _⟩

theorem wput_eq {B p : Nat} {A : Option Addr} {bs l' : List Bool} {x width e0 : Int} (hx : x ≤ 9223372036854775807) {w : World} (hw : WrAt w B p A bs) (hB : B ≤ w.heap.size) (he : putE bs.length x width = e0) (hl : putL bs x width = l') :
    Calls Try.prog 47 #[.pointer (some ⟨p, 0, none⟩), .int .i64 x, .int .i64 width] w fun e w' => ∃ A', e = .returned (.int .i64 e0) ∧ Hid (WrAt w' B p A' l') ∧ Keep (WrS p A) w w' ∧ Hid (∀ k, InRow A' k → InRow A k ∨ w.heap.size ≤ k) := by
  subst he; subst hl
  exact wput_any B p A bs x width hx w hw hB
theorem get_eq {B H p : Nat} {b : List Nat} {k k' : Nat} {width n0 e0 : Int} {w : World} (hw : RdAt w B H p b k) (hB : B ≤ w.heap.size) (hn : getN (leftB b k) width = n0) (he : getE (leftB b k).length width = e0) (hk : (k + if getE (leftB b k).length width = 0 then width.toNat else 0) = k') :
    Calls Try.prog 38 #[.pointer (some ⟨p, 0, none⟩), .int .i64 width] w fun e w' => e = .returned (.tuple #[.int .i64 n0, .int .i64 e0]) ∧ Hid (RdAt w' B H p b k') ∧ Keep (fun q => q = p) w w' := by
  subst he; subst hn; subst hk
  exact get_any B H p b k width w hw hB
theorem left_eq {B H p : Nat} {b : List Nat} {k : Nat} {v : Int} {w : World} (hw : RdAt w B H p b k) (hv : ((8 * b.length - k : Nat) : Int) = v) :
    Calls Try.prog 61 #[.pointer (some ⟨p, 0, none⟩)] w fun e w' => e = .returned (.int .i64 v) ∧ ∃ q, w' = w.drewN q := by
  subst hv
  exact left_any B H p b k w hw
theorem wr_base {p : Nat} {A : Option Addr} {w w0 : World} {B : Nat} {bs : List Bool} (h : WrAt w B p A bs) (hB : w0.heap.size ≤ B) : ∀ k, WrS p A k → w0.heap.size ≤ k := by
  obtain ⟨c, _, ho, _, hp⟩ := h
  intro k hk
  rcases hk with rfl | hk
  · omega
  · have := (ho.row hk).1; omega

theorem WrAt.keep {w w' : World} {B p : Nat} {A : Option Addr} {bs : List Bool} {S : Nat → Prop} (h : WrAt w B p A bs) (hk : Keep S w w') (hS : ∀ k, k < w.heap.size → ¬ S k) : WrAt w' B p A bs := by
  obtain ⟨c, hb, ho, hl, hp⟩ := h
  exact ⟨c, hb.keep hk (hS _ hb.lt), ho.keep hk (fun k hk => hS _ (ho.row hk).2), hl, hp⟩
theorem WrAt.keep_ {w w' : World} {B p : Nat} {A : Option Addr} {bs : List Bool} {S : Nat → Prop} (h : WrAt w B p A bs) (hk : Keep S w w') (hS : ∀ k, S k → k ≠ p ∧ ¬ InRow A k) : WrAt w' B p A bs := by
  obtain ⟨c, hb, ho, hl, hp⟩ := h
  exact ⟨c, hb.keep hk (fun e => (hS _ e).1 rfl), ho.keep hk (fun k hk e => (hS _ e).2 hk), hl, hp⟩
theorem WrAt.drew {w : World} {B p : Nat} {A : Option Addr} {bs : List Bool} (h : WrAt w B p A bs) : WrAt w.drew B p A bs := h.keep ((Keep.refl (fun _ => False) w).drew) (fun _ _ h => h)
theorem WrAt.rd {w : World} {B p : Nat} {A : Option Addr} {bs : List Bool} (h : WrAt w B p A bs) : p < w.heap.size := by
  obtain ⟨c, hb, ho, hl, hp⟩ := h
  exact hb.lt
theorem RdAt.lo {w : World} {B H p : Nat} {b : List Nat} {k : Nat} (h : RdAt w B H p b k) : B ≤ p ∧ p < w.heap.size := by
  obtain ⟨A, c, hb, ho, h8, hl, hn, hB, _, _⟩ := h
  exact ⟨hB, hb.lt⟩
theorem bytesOf_lt (l : List Bool) : ∀ x ∈ bytesOf l, x < 256 := bytesTo_lt _ _

end Go.Proofs.Ytpahfobijmmmmaa
