/- The walk of BitsBack. -/
import Derived.Test.YtfkmcohefppanaaBitsB
import Derived.Deep.LoopGhost
namespace Go.Proofs.Ytfkmcohefppanaa
open Go.RowKit

def itemCells (x : Item) : List Value := [.int .i64 x.N, .int .i64 x.Width]
theorem elemI : Elem Try.prog 22 33 2 16 := ⟨Try.underlying22, _, _, rfl, rfl, rfl, rfl, rfl, by omega⟩
theorem len_itemCells (l : List Item) : (l.flatMap itemCells).length = l.length * 2 := by
  induction l with
  | nil => rfl
  | cons x l ih => simp only [List.flatMap_cons, List.length_append, List.length_cons, ih]; simp [itemCells]; omega
theorem itemCells_at (l : List Item) : ∀ {i : Nat} {x : Item}, l[i]? = some x → (l.flatMap itemCells)[i * 2]? = some (.int .i64 x.N) ∧ (l.flatMap itemCells)[i * 2 + 1]? = some (.int .i64 x.Width) := by
  induction l with
  | nil => intro i x h; simp at h
  | cons y l ih =>
    intro i x h
    cases i with
    | zero =>
      simp only [List.getElem?_cons_zero, Option.some.injEq] at h
      subst h
      exact ⟨rfl, rfl⟩
    | succ i =>
      rw [List.getElem?_cons_succ] at h
      obtain ⟨h1, h2⟩ := ih h
      have e : List.flatMap itemCells (y :: l) = .int .i64 y.N :: .int .i64 y.Width :: l.flatMap itemCells := rfl
      rw [e, show (i + 1) * 2 = i * 2 + 1 + 1 by omega]
      exact ⟨by simpa using h1, by rw [show i * 2 + 1 + 1 + 1 = (i * 2 + 1) + 1 + 1 by omega]; simpa using h2⟩

theorem own_item_at {w : World} {B m c : Nat} {A : Option Addr} {ins : List Item} (h : Own w B 33 2 A m c (ins.flatMap itemCells)) {i : Nat} (hi : i < m) :
    ∃ ad x, A = some ad ∧ ins[i]? = some x ∧ w.cell? (ad.add (i * 2)) = some (.int .i64 x.N) ∧ w.cell? ⟨(ad.add (i * 2)).block, (ad.add (i * 2)).off + 1, none⟩ = some (.int .i64 x.Width) := by
  obtain ⟨ad, hA, _, hc⟩ := h.rd.at_ hi
  have hl : i < ins.length := by
    have := h.len
    rw [len_itemCells] at this
    omega
  have hx : ins[i]? = some ins[i] := List.getElem?_eq_getElem hl
  obtain ⟨h1, h2⟩ := itemCells_at ins hx
  obtain ⟨u0, h3, h4⟩ := hc 0 (by omega)
  obtain ⟨u1, h5, h6⟩ := hc 1 (by omega)
  rw [Nat.add_zero] at h3 h4
  rw [h1] at h3
  rw [h2] at h5
  refine ⟨ad, _, hA, hx, by rw [h4, ← h3], by rw [← fld ad (i * 2) (by omega), h6, ← h5]⟩

set_option maxHeartbeats 2000000 in
theorem back_in (w : World) (A : Option Addr) (n c : Nat) (l : List Item) (hl : repItem.Sl w w.heap.size A n c l) (hn : n ≤ 400) :
    Calls Try.prog 8 #[.slice A n c] w fun e w' => e = .returned (.bool true) ∧ Keep Never w w' := by
  have hni : (n : Int) ≤ 400 := by omega
  have Hl := Lib.hid hl
  clear hl
  go_enter Try.func8, Try.ntmps8
  go_wp2_with (go_at_call 10; refine (awake_any _).mono ?_; rintro e w1 ⟨rfl, hk1⟩)
  have hs1 := hk1.size
  go_loopw [5, 6] (fun v i wr => ∃ (k m c2 : Nat) (A1 A2 : Option Addr), k ≤ n ∧ i = .int .i64 k ∧ v = .slice A2 m c2 ∧ Hid (WrAt wr w.heap.size w1.heap.size A1 (back (l.take k)).1) ∧
      Hid (Own wr w.heap.size 33 2 A2 m c2 ((back (l.take k)).2.flatMap itemCells)) ∧ Hid (m = (back (l.take k)).2.length) ∧ Keep Never w wr)
    (fun _ i _ => n - (intOf i).toNat)
  case atStart => exact ⟨0, 0, 0, none, none, by omega, rfl, rfl, put_new w1 w hs1, Own.nil _ _ _ _, rfl, hk1.alloc _⟩
  case round =>
    obtain ⟨k, m, c2, A1, A2, hk, rfl, rfl, hwr, hown, hm, hkr⟩ := hrel
    by_cases hkn : k < n
    · obtain ⟨ad, y, rfl, _, hy, hc0, hc1, hx63⟩ := item_at (Hl.out.keep hkr (by intro k h; cases h)) hkn
      have hps := back_snoc l hy
      have Hps := Lib.hid hps
      have hsr := hkr.size
      have hki : (k : Int) < (n : Int) := by omega
      have hbk := back_len (l.take k)
      have hmle : m ≤ 400 := by have := hm.out; simp at hbk; omega
      clear hps hy hbk
      generalize hst : back (l.take k) = st at *
      obtain ⟨bs, ins⟩ := st
      go_wp2
      go_still_tail 11, (by kernel_rfl)
      change wpList _ _ _ _ _ wr.drew
      go_wp2_with fail
      obtain ⟨e0, he0⟩ : ∃ e0, putE bs.length y.N y.Width = e0 := ⟨_, rfl⟩
      obtain ⟨l0, hl0⟩ : ∃ l0, putL bs y.N y.Width = l0 := ⟨_, rfl⟩
      refine (wput_eq hx63 (hwr.out.keep ((Keep.refl _ wr).drew) (fun _ _ h => h)) (by simp; omega) he0 hl0).mono ?_
      rintro e w3 ⟨A3, rfl, hw3, hk3, hr3⟩
      have hk03 : Keep Never w w3 := hkr.drew.then_ hk3 (fun i hi e => by have := wr_base hwr.out (w0 := w) (Nat.le_refl _) i e; omega)
      have hown3 := Lib.hid (hown.out.drew.keep hk3 (fun q hq h => by
        obtain ⟨c, hb, ho, _⟩ := hwr.out
        rcases h with h | h
        · exact hown.out.ne_blk hb (by decide) q hq h
        · exact hown.out.ne_own ho (by decide) q hq h))
      have hnS : ¬ WrS w1.heap.size A1 ad.block := fun e => by have := wr_base hwr.out (w0 := w) (Nat.le_refl _) _ e; omega
      have hc03 : w3.cell? (ad.add (k * 2)) = some (.int .i64 y.N) := (hk3.cell (p := ad.add (k * 2)) (by rw [block_add]; simp; omega) (by rw [block_add]; exact hnS)).trans hc0
      have hc13 : w3.cell? ⟨(ad.add (k * 2)).block, (ad.add (k * 2)).off + 1, none⟩ = some (.int .i64 y.Width) := (hk3.cell (p := ⟨(ad.add (k * 2)).block, (ad.add (k * 2)).off + 1, none⟩) (by rw [block_add]; simp; omega) (by rw [block_add]; exact hnS)).trans hc1
      clear hnS
      clear hc0 hc1
      by_cases h0 : e0 = 0
      · subst h0
        have HE := Lib.hid he0
        have HL := Lib.hid hl0
        clear he0 hl0
        have hs3 := hk3.size
        go_wp2_with (at_builtin; refine wpList_app _ rfl (.tmp 43) (.tmp 48) _ rfl elemI w.heap.size rfl (hown3.out.alloc _) _ rfl (Rd.of_blk (n := 1) (cs := [.int .i64 y.N, .int .i64 y.Width]) (Blk.new _ _ _) rfl) (by simp [Value.oneCell']) (by omega) (by unfold maxLen; omega) (by simp at *; omega) ?_; intro A5 c5 w5 hown5 hk5 hrow5)
        go_roundw
        case rel =>
          have hbs : backStep (bs, ins) y = (bs ++ bitsOf y.N.toNat y.Width.toNat, ins ++ [y]) := by rw [backStep]; exact if_pos HE.out
          have hl1 : l0 = bs ++ bitsOf y.N.toNat y.Width.toNat := by rw [← HL.out, putL, if_pos HE.out]
          refine ⟨k + 1, m + 1, c5, A3, A5, by omega, by go_num, rfl, ?_, ?_, ?_, (hk03.alloc _).then_ hk5 (fun q hq h => by have := (hown3.out.row h).1; omega)⟩
          · rw [Hps.out, hbs]
            rw [hl1] at hw3
            refine (hw3.out.keep ((Keep.refl _ w3).alloc _) (fun _ _ h => h)).keep_ hk5 (fun q h => ?_)
            obtain ⟨c, hb, ho, _⟩ := hw3.out
            exact ⟨fun e => hown3.out.ne_blk hb (by decide) q h e, fun e => hown3.out.ne_own ho (by decide) q h e⟩
          · rw [Hps.out, hbs]
            exact (by simpa [itemCells] using hown5 : Own w5 w.heap.size 33 2 A5 (m + 1) c5 ((ins ++ [y]).flatMap itemCells))
          · rw [Hps.out, hbs]
            have := hm.out
            simp only [List.length_append, List.length_singleton] at this ⊢
            show m + 1 = _; omega
        case measure => simp [intOf]; try omega
      · have hne : (e0 == 0) = false := by simpa using h0
        have hl1 : l0 = bs := by rw [← hl0, putL, if_neg (by rw [he0]; exact h0)]
        have hbs : backStep (bs, ins) y = (bs, ins) := by rw [backStep]; exact if_neg (by rw [he0]; exact h0)
        have Hbs := Lib.hid hbs
        subst hl1
        clear he0 hl0 hbs
        go_wp2_with fail
        go_roundw
        case rel => exact ⟨k + 1, m, c2, A3, A2, by omega, by go_num, rfl, by rw [Hps.out, Hbs.out]; exact hw3.out, by rw [Hps.out, Hbs.out]; exact hown3.out, by rw [Hps.out, Hbs.out]; exact hm.out, hk03⟩
        case measure => simp [intOf]; try omega
    · obtain rfl : k = n := by omega
      have htk : l.take k = l := List.take_of_length_le (by rw [← Hl.out.len]; omega)
      rw [htk] at hwr hown hm
      have hinv := Lib.hid (back_inv l)
      have hmle : (m : Int) ≤ 400 := by have h1 := hm.out; have h2 := back_len l; have h3 := Hl.out.len; omega
      generalize hst : back l = st at *
      obtain ⟨bs, ins⟩ := st
      simp only at hwr hown hm
      clear hst htk
      have hbl : bs.length ≤ 8184 := by obtain ⟨c, _, _, h, _⟩ := hwr.out; exact h
      have hsr := hkr.size
      have hlen : (bytesOf bs).length ≤ 1000000 := by rw [length_bytesOf]; omega
      have hbits : Hid (bs.length = (ins.flatMap itemBits).length) := by have := hinv.out.bits; simp only at this; rw [← this]; exact rfl
      go_wp2_with fail
      refine (wbytes_any w.heap.size w1.heap.size A1 _ wr hwr.out).mono ?_
      rintro e w3 ⟨A3, c3, rfl, hb3, hk3⟩
      have Hb3 := Lib.hid hb3
      clear hb3
      go_wp2_with fail
      refine (read_any A3 (bytesOf bs).length c3 _ (bytesOf bs) rfl w3 Hb3.out.rd (bytesOf_lt _) hlen).mono ?_
      rintro e w4 ⟨p, rfl, hrd4, hk4⟩
      have Hrd4 := Lib.hid hrd4
      have hk04 : Keep Never w w4 := (hkr.trans hk3).trans hk4
      have hwr4 := Lib.hid ((hwr.out.keep hk3 (fun _ _ h => h)).keep hk4 (fun _ _ h => h))
      have hown4 := Lib.hid ((hown.out.keep hk3 (fun _ _ h => h)).keep hk4 (fun _ _ h => h))
      have hs3 := hk3.size
      have hs4 := hk4.size
      have lo4 := hrd4.lo
      have hwp := hwr.out.rd
      have hwrow : Hid (∀ q, InRow A1 q → q < wr.heap.size) := by obtain ⟨c, _, ho, _⟩ := hwr.out; exact fun q hq => (ho.row hq).2
      have horow : Hid (∀ q, InRow A2 q → q < wr.heap.size) := fun q hq => (hown.out.row hq).2
      clear hrd4
      go_wp2_with fail
      go_loopw [8] (fun i wq => ∃ j : Nat, j ≤ m ∧ i = .int .i64 j ∧ Hid (RdAt wq w3.heap.size w4.heap.size p (bytesOf bs) ((ins.take j).flatMap itemBits).length) ∧ Hid (WrAt wq w.heap.size w1.heap.size A1 bs) ∧
          Hid (Own wq w.heap.size 33 2 A2 m c2 (ins.flatMap itemCells)) ∧ Keep Never w wq ∧ w4.heap.size ≤ wq.heap.size)
        (fun i _ => m - (intOf i).toNat)
      case atStart => exact ⟨0, by omega, rfl, Hrd4.out, hwr4.out, hown4.out, hk04, Nat.le_refl _⟩
      case round =>
        obtain ⟨j, hj, rfl, hrdq, hwrq, hownq, hkq, hsq⟩ := hrel
        by_cases hjm : j < m
        · obtain ⟨ad, x, rfl, hx, hc0, hc1⟩ := own_item_at hownq.out hjm
          obtain ⟨gN, gE, gK⟩ := back_get hinv.out hx
          have hnp : ¬ p = ad.block := fun e => by have := horow.out ad.block ⟨ad, rfl, rfl⟩; omega
          have GN := Lib.hid gN
          have GE := Lib.hid gE
          have GK := Lib.hid gK
          clear gN gE gK hx
          have hji : (j : Int) < (m : Int) := by omega
          go_wp2_with fail
          refine (get_eq (k' := ((ins.take (j + 1)).flatMap itemBits).length) hrdq.out (by omega) GN.out GE.out (by rw [GE.out, if_pos rfl, GK.out])).mono ?_
          rintro e w5 ⟨rfl, hrd5, hk5⟩
          have hc05 : w5.cell? (ad.add (j * 2)) = some (.int .i64 x.N) := (hk5.cell (p := ad.add (j * 2)) (cell_lt hc0) (by rw [block_add]; exact fun e => hnp e.symm)).trans hc0
          go_wp2_with fail
          go_roundw
          case rel =>
            refine ⟨j + 1, by omega, by go_num, hrd5, ?_, ?_, hkq.then_ hk5 (fun i hi e => by omega), by have := hk5.size; omega⟩
            · exact hwrq.out.keep_ hk5 (fun q e => by subst e; exact ⟨by omega, fun h => by have := hwrow.out _ h; omega⟩)
            · exact hownq.out.keep hk5 (fun q hq e => by have := horow.out q hq; omega)
          case measure => simp [intOf]; try omega
        · obtain rfl : j = m := by omega
          have htk2 : ins.take j = ins := List.take_of_length_le (by have := hm.out; omega)
          rw [htk2, ← hbits.out] at hrdq
          clear htk2
          have hlq : ((8 * (bytesOf bs).length - bs.length : Nat) : Int) ≤ 7 := by rw [length_bytesOf]; omega
          generalize hz : 8 * (bytesOf bs).length - bs.length = z at *
          have Hz := Lib.hid hz
          clear hz
          go_wp2_with (first
            | (go_at_call 21; refine (at_any _ _ p _ _ _ hrdq.out).mono ?_; rintro e w5 ⟨rfl, rfl⟩)
            | (go_at_call 13; refine (wlen_any _ _ A1 bs _ hwrq.out).mono ?_; rintro e w6 ⟨rfl, rfl⟩)
            | (go_at_call 18; refine (left_eq hrdq.out (by rw [Hz.out])).mono ?_; rintro e w7 ⟨rfl, z1, rfl⟩))
          go_loopg [] (8 * (bytesOf bs).length - bs.length) (fun g wx => ∃ kk : Nat, g = 8 * (bytesOf bs).length - kk ∧ bs.length ≤ kk ∧ Hid (RdAt wx w3.heap.size w4.heap.size p (bytesOf bs) kk) ∧ Keep Never w wx ∧ w4.heap.size ≤ wx.heap.size)
          case atStart => exact ⟨bs.length, rfl, Nat.le_refl _, hrdq.out.drewN z1, hkq.drewN z1, hsq⟩
          case round =>
            obtain ⟨kk, rfl, hkk, hrdx, hkx, hsx⟩ := hrel
            by_cases hmore : 0 < 8 * (bytesOf bs).length - kk
            · have hmi : (0 : Int) < ((8 * (bytesOf bs).length - kk : Nat) : Int) := by omega
              obtain ⟨pN, pE⟩ := back_pad hkk (show kk < 8 * (bytesOf bs).length by omega)
              have PN := Lib.hid pN
              have PE := Lib.hid pE
              clear pN pE
              generalize hy : 8 * (bytesOf bs).length - kk = y at *
              have Hy := Lib.hid hy
              clear hy
              go_wp2_with fail
              refine (left_eq hrdx.out (by rw [Hy.out])).mono ?_
              rintro e w5 ⟨rfl, z2, rfl⟩
              go_wp2_with fail
              refine (get_eq (k' := kk + 1) (hrdx.out.drewN z2) (by simp; omega) PN.out PE.out (by rw [PE.out]; rfl)).mono ?_
              rintro e w6 ⟨rfl, hrd6, hk6⟩
              go_wp2_with fail
              go_roundg (8 * (bytesOf bs).length - (kk + 1))
              case measure => have := Hy.out; omega
              case rel => exact ⟨kk + 1, rfl, by omega, hrd6, (hkx.drewN z2).then_ hk6 (fun i hi e => by omega), by have := hk6.size; simp at this; omega⟩
            · have hmi : ¬ (0 : Int) < ((8 * (bytesOf bs).length - kk : Nat) : Int) := by omega
              generalize hy : 8 * (bytesOf bs).length - kk = y at *
              have Hy := Lib.hid hy
              clear hy
              go_wp2_with fail
              refine (left_eq hrdx.out (by rw [Hy.out])).mono ?_
              rintro e w5 ⟨rfl, z2, rfl⟩
              go_wp2_with fail
              go_ret
              exact ⟨rfl, hkx.drewN z2⟩

set_option maxHeartbeats 400000 in
theorem back_out (w : World) (A : Option Addr) (n c : Nat) (hn : (400 : Int) < n) :
    Calls Try.prog 8 #[.slice A n c] w fun e w' => e = .returned (.bool true) ∧ Keep Never w w' := by
  go_enter Try.func8, Try.ntmps8
  go_wp2_with (go_at_call 10; refine (awake_any _).mono ?_; rintro e w1 ⟨rfl, hk1⟩)
  go_ret
  exact ⟨rfl, hk1⟩

theorem back_walk (w : World) (A : Option Addr) (n c : Nat) (l : List Item) (hl : repItem.Sl w w.heap.size A n c l) :
    Calls Try.prog 8 #[.slice A n c] w fun e w' => e = .returned (.bool true) ∧ Keep Never w w' := by
  by_cases hn : n ≤ 400
  · exact back_in w A n c l hl hn
  · exact back_out w A n c (by omega)

end Go.Proofs.Ytfkmcohefppanaa
