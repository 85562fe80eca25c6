/- Chapter 6: what a message that comes in is; Light; the chapter's examples (awake). -/
import Derived.Test.YtiebjnibmomcjaaDoorMsgI
import Derived.Test.YtiebjnibmomcjaaDoorMsgP
import Derived.Test.YtiebjnibmomcjaaDoorBdPackN
import Derived.Lib.SlBytesConst
import Derived.BigQuiet
import Derived.StillTailTactics
import Derived.Test.YtiebjnibmomcjaaDoorSld
namespace Go.Proofs.YtiebjnibmomcjaaDoor
open Go.RowKit

abbrev MsgT := Int × Int × Int × Int × List Int × List (Int × List Int)
def repMsg : Rep MsgT := Rep.int.pair (Rep.int.pair (Rep.int.pair (Rep.int.pair (Rep.int.list.pair repPack.list))))
theorem opens_msg : Rep.Opens Tryd.prog 25 repMsg :=
  Rep.opens_struct Tryd.underlying25 (by kernel_rfl)
    (Rep.fopens_cons rfl (by kernel_rfl) (Rep.opens_int Tryd.underlying3)
    (Rep.fopens_cons rfl (by kernel_rfl) (Rep.opens_int Tryd.underlying3)
    (Rep.fopens_cons rfl (by kernel_rfl) (Rep.opens_int Tryd.underlying3)
    (Rep.fopens_cons rfl (by kernel_rfl) (Rep.opens_int Tryd.underlying3)
    (Rep.fopens_cons rfl (by kernel_rfl) (Rep.opens_list Tryd.underlying22 (by kernel_rfl) (by decide) (Rep.opens_int Tryd.underlying3))
    (Rep.fopens_last rfl (by kernel_rfl) (Rep.opens_list Tryd.underlying23 (by kernel_rfl) (by decide) opens_pack)))))))
/-- a message that comes in -/
def MsgIn (W : World) (m : MsgT) (A : Option Addr) (n c : Nat) (A2 : Option Addr) (k d : Nat) : Prop :=
  MsgAt W W.heap.size A n c m.2.2.2.2.1 A2 k d m.2.2.2.2.2 ∧ repPack.Sl W W.heap.size A2 k d m.2.2.2.2.2 ∧ c ≤ maxLen ∧ i64 m.1 ∧ i64 m.2.1 ∧ i64 m.2.2.1 ∧ i64 m.2.2.2.1
theorem msg_in {W : World} {m : MsgT} {cs : Array Value} (h : repMsg.cells W W.heap.size m cs.toList) : ∃ A n c A2 k d, cs = msgCells m.1 m.2.1 m.2.2.1 m.2.2.2.1 A n c A2 k d ∧ MsgIn W m A n c A2 k d := by
  obtain ⟨a1, b1, he1, ⟨rfl, i1⟩, a2, b2, rfl, ⟨rfl, i2⟩, a3, b3, rfl, ⟨rfl, i3⟩, a4, b4, rfl, ⟨rfl, i4⟩, a5, b5, rfl, ⟨A, n, c, rfl, hs⟩, A2, k, d, rfl, hp⟩ := h
  obtain ⟨h1, h2, h3⟩ := ints_rd hs
  refine ⟨A, n, c, A2, k, d, ?_, ⟨h1, h2, hs.2.1, h3, repPk_of hp⟩, hp, hs.2.2.1, i1, i2, i3, i4⟩
  cases cs
  simp_all [msgCells]

/-- is a message light? -/
def lightM (V : List Int) (P : List (Int × List Int)) : Bool := decide (V.length ≤ 30) && decide (P.length ≤ 30) && P.all fun p => decide (p.2.length ≤ 3000)

set_option maxHeartbeats 2000000 in
set_option maxRecDepth 100000 in
theorem light_any (B : Nat) (id t ack of_ : Int) (A : Option Addr) (n c : Nat) (V : List Int) (A2 : Option Addr) (k d : Nat) (P : List (Int × List Int)) (w : World) (hm : MsgAt w B A n c V A2 k d P) (_hB : B ≤ w.heap.size) :
    Calls Tryd.prog 11 #[.agg (msgCells id t ack of_ A n c A2 k d)] w fun e w' => e = .returned (.bool (lightM V P)) ∧ Keep Never w w' := by
  have HM := Lib.hid hm
  have hVl := hm.2.1
  have hPl := hm.2.2.2.2.1
  have HVl := Lib.hid hVl
  have HPl := Lib.hid hPl
  have hb0 : Hid (Blk (w.alloc (.cells #[.int .i64 id, .int .i64 t, .int .i64 ack, .int .i64 of_, .slice A n c, .slice A2 k d] 25)) w.heap.size 25 #[.int .i64 id, .int .i64 t, .int .i64 ack, .int .i64 of_, .slice A n c, .slice A2 k d]) := Blk.new w 25 _
  have hk0 : Hid (Keep Never w (w.alloc (.cells #[.int .i64 id, .int .i64 t, .int .i64 ack, .int .i64 of_, .slice A n c, .slice A2 k d] 25))) := (Keep.refl Never w).alloc _
  have HS := Lib.hid hm.2.2.2.2
  unfold msgCells
  by_cases h30 : n ≤ 30 ∧ k ≤ 30
  · obtain ⟨h1, h2⟩ := h30
    have hL : lightM V P = P.all fun p => decide (p.2.length ≤ 3000) := by
      unfold lightM
      rw [hVl, ← hPl]
      simp [h1, h2]
    rw [hL]
    have h1' : (n : Int) ≤ 30 := by omega
    have h2' : (k : Int) ≤ 30 := by omega
    clear hL hm hVl hPl h1 h2
    go_enter Tryd.func11, Tryd.ntmps11
    go_wp2_with fail
    go_loopw [3] (fun i wr => ∃ j : Nat, j ≤ k ∧ i = .int .i64 j ∧ (P.drop j).all (fun p => decide (p.2.length ≤ 3000)) = P.all (fun p => decide (p.2.length ≤ 3000)) ∧ wr = w.alloc (.cells #[.int .i64 id, .int .i64 t, .int .i64 ack, .int .i64 of_, .slice A n c, .slice A2 k d] 25)) (fun i _ => k - (intOf i).toNat)
    case atStart => exact ⟨0, by omega, rfl, rfl, rfl⟩
    case round =>
      obtain ⟨j, hj, rfl, hall, rfl⟩ := hrel
      by_cases hjk : j < k
      · have hji : (j : Int) < (k : Int) := by omega
        obtain ⟨ad, pid, PV, A', n', c', hA2, hPj, d0, d1, r1, r2, r3, r4, r5⟩ := Sl_pack (HS.out.keep hk0.out (fun _ h => h.elim)) hjk
        subst hA2
        obtain ⟨h1, h2⟩ := List.getElem?_eq_some_iff.1 hPj
        rw [List.drop_eq_getElem_cons h1, h2, List.all_cons] at hall
        simp only at hall
        rw [r2] at hall
        have HA := Lib.hid hall
        clear hall hPj h1 h2 r1 r2 r3 r4 r5
        have q5 := hb0.out.cell 5
        by_cases h3 : n' ≤ 3000
        · have h3' : (n' : Int) ≤ 3000 := by omega
          have hR : Hid ((P.drop (j + 1)).all (fun p => decide (p.2.length ≤ 3000)) = P.all (fun p => decide (p.2.length ≤ 3000))) := Lib.hid (by rw [← HA.out]; simp [h3])
          go_wp2_with fail
          go_roundw
          case rel => exact ⟨j + 1, by omega, by go_num, hR.out, trivial⟩
          case measure => simp [intOf]; try omega
        · have h3' : ¬ (n' : Int) ≤ 3000 := by omega
          have h3'' : (3000 : Int) < (n' : Int) := by omega
          have hR : Hid (P.all (fun p => decide (p.2.length ≤ 3000)) = false) := Lib.hid (by rw [← HA.out]; simp [h3])
          go_wp2_with fail
          go_ret
          exact ⟨by rw [hR.out]; rfl, hk0.out⟩
      · obtain rfl : j = k := by omega
        have hji : ¬ (j : Int) < (j : Int) := by omega
        have hR : Hid (P.all (fun p => decide (p.2.length ≤ 3000)) = true) := Lib.hid (by rw [← hall, List.drop_eq_nil_of_le (by have := HPl.out; omega)]; rfl)
        have q5 := hb0.out.cell 5
        clear hall
        go_wp2_with fail
        go_ret
        exact ⟨by rw [hR.out]; rfl, hk0.out⟩
  · have hL : lightM V P = false := by
      unfold lightM
      rw [hVl, ← hPl]
      by_cases h1 : n ≤ 30
      · have h2 : ¬ k ≤ 30 := fun h => h30 ⟨h1, h⟩
        simp [h2]
      · simp [h1]
    rw [hL]
    have hc : (30 : Int) < (n : Int) ∨ ((n : Int) ≤ 30 ∧ (30 : Int) < (k : Int)) := by omega
    clear hL hm hVl hPl h30
    rcases hc with h1 | ⟨h1, h2⟩
    all_goals
      go_enter Tryd.func11, Tryd.ntmps11
      go_wp2_with fail
      go_ret
      exact ⟨rfl, hk0.out⟩

/-- Encode, at a message that is known -/
theorem encode_at {B : Nat} {id t ack of_ : Int} {V : List Int} {r : Except Int (List Nat)} (hr : EncodeM id t ack of_ V [] = r) {A : Option Addr} {n c : Nat} {w : World} (hV : Rd w B 1 A n (V.map (.int .i64))) (hn : V.length = n) (hc : n ≤ c) (hb : ∀ x ∈ V, i64 x)
    (hid : i64 id) (ht : i64 t) (hack : i64 ack) (hof : i64 of_) (h5 : V.length ≤ 5) (hW : Widths w) (hg : 0 < B) (hB : B ≤ w.heap.size) :
    Calls Tryd.prog 12 #[.agg (msgCells id t ack of_ A n c none 0 0)] w (EncRet w r) := by
  subst hr
  exact mencode_any B id t ack of_ A n c V none 0 0 [] w ⟨hV, hn, hc, hb, Rep.Sl.nil _ _ _⟩ hid ht hack hof (by omega) (by omega) (by simp) (by decide) hW hg hB
theorem decode_at {B : Nat} {b : List Nat} {r : Except Int MsgT} (hr : DecodeM b = r) {A : Option Addr} {n c : Nat} {w : World} (hb : Rd w B 1 A n (b.map u8v)) (hbl : b.length = n) (h8 : ∀ x ∈ b, x < 256) (hc : n ≤ c) (hcm : c ≤ maxLen) (hn : n ≤ 1000000) (hW : Widths w) (hg : 0 < B) (hB : B ≤ w.heap.size) :
    Calls Tryd.prog 18 #[.slice A n c] w (DecRet w r) := by
  subst hr
  exact mdecode_any B b A n c w hb hbl h8 hc hcm hn hW hg hB
theorem rd_marked (w : World) (l : List Nat) (e : TypeId) (fr : Nat × Nat) : Rd (w.alloc (.cells (l.map u8v).toArray e fr)) (w.heap.size + 1) 1 (some ⟨w.heap.size, 0, none⟩) l.length (l.map u8v) := by
  refine ⟨by simp, fun _ => ⟨_, rfl, by simp, fun j u hu => ?_⟩⟩
  have hadd : (⟨w.heap.size, 0, none⟩ : Addr).add j = ⟨w.heap.size, j, none⟩ := by unfold Addr.add; split <;> simp_all
  have h1 : (w.alloc (.cells (l.map u8v).toArray e fr)).heap[w.heap.size]? = some (.cells (l.map u8v).toArray e fr) := heap_alloc_new w _
  rw [hadd]
  unfold World.cell?
  rw [show (⟨w.heap.size, j, none⟩ : Addr).block = w.heap.size from rfl, h1]
  simpa using hu
theorem enc16 : EncodeM 16 256 1 77 [3] [] = .ok [16, 2, 128, 0, 0, 64, 32, 0, 9, 166] := by kernel_rfl
theorem enc3 : EncodeM 3 0 0 0 [] [] = .error 50 := by kernel_rfl
theorem enc16bad : EncodeM 16 0 0 0 [] [] = .error 20 := by kernel_rfl
theorem dec16 : DecodeM [16, 2, 128, 0, 0, 64, 32, 0, 9, 166] = .ok (16, 256, 1, 77, [3], []) := by
  obtain ⟨own, must, may, l1, l2, hk, hb⟩ := encode_inv enc16
  rw [hb]
  exact decode_of hk
theorem up132 : upM 132 = true := by decide +kernel
theorem known7 : (formM 7).isSome = false := by decide +kernel

set_option maxHeartbeats 8000000 in
set_option maxRecDepth 100000 in
theorem awake6_any (w : World) (hW : Widths w) : Calls Tryd.prog 10 #[] w fun e w' => e = .returned (.bool true) ∧ Keep Never w w' := by
  have kc := fun (w : World) (C : Array Value) (n c : Nat) => Lib.run_convert_bytes_const (P := Tryd.prog) w 28 5 C n c Tryd.underlying28 Tryd.underlying5
  have HW := Lib.hid hW
  have Hg : Hid (0 < w.heap.size) := hW.lt
  clear hW
  go_enter Tryd.func10, Tryd.ntmps10
  go_wp2_with fail
  have hk0 : Keep Never w (w.alloc (.cells #[.int .i64 3] 3)) := (Keep.refl Never w).alloc _
  refine (encode_at (B := w.heap.size + 1) enc16 (by have := Rd.of_blk (size := 1) (n := 1) (Blk.new w 3 #[.int .i64 3]) rfl; simpa using this) rfl (by decide) (by unfold i64; decide) (by unfold i64; decide) (by unfold i64; decide) (by unfold i64; decide) (by unfold i64; decide) (by decide) (HW.out.keep hk0 (fun h => h)) (by have := Hg.out; omega) (by simp)).mono ?_
  rintro e w1 ⟨A1, n1, c1, x1, rfl, hk1, hpo⟩
  rcases hpo with ⟨l, h, rfl, hn1, ho⟩ | ⟨h, _⟩
  rotate_left
  · cases h
  injection h with h
  subst h
  have Hk1 := Lib.hid (hk0.trans hk1)
  have Ho := Lib.hid ho
  have h10 : n1 = 10 := hn1
  subst h10
  clear hk0 hk1 ho hn1
  go_wp2_with fail
  refine (encode_at (B := w1.heap.size) enc3 (Rd.nil _ _ _ _) rfl (by decide) (by simp) (by unfold i64; decide) (by unfold i64; decide) (by unfold i64; decide) (by unfold i64; decide) (by decide) (HW.out.keep Hk1.out (fun h => h)) (by have := Hg.out; have := Hk1.out.size; omega) (Nat.le_refl _)).mono ?_
  rintro e w2 ⟨A2, n2, c2, x2, rfl, hk2, hpo⟩
  rcases hpo with ⟨l, h, _⟩ | ⟨h, _, rfl, rfl, rfl⟩
  · cases h
  injection h with h
  subst h
  have Hk2 := Lib.hid (Hk1.out.trans hk2)
  have Ho2 := Lib.hid (Ho.out.keep hk2 (fun _ _ h => h))
  clear hk2 Hk1 Ho
  go_wp2_with fail
  refine (encode_at (B := w2.heap.size) enc16bad (Rd.nil _ _ _ _) rfl (by decide) (by simp) (by unfold i64; decide) (by unfold i64; decide) (by unfold i64; decide) (by unfold i64; decide) (by decide) (HW.out.keep Hk2.out (fun h => h)) (by have := Hg.out; have := Hk2.out.size; omega) (Nat.le_refl _)).mono ?_
  rintro e w3 ⟨A3, n3, c3, x3, rfl, hk3, hpo⟩
  rcases hpo with ⟨l, h, _⟩ | ⟨h, _, rfl, rfl, rfl⟩
  · cases h
  injection h with h
  subst h
  have Hk3 := Lib.hid (Hk2.out.trans hk3)
  have Ho3 := Lib.hid (Ho2.out.keep hk3 (fun _ _ h => h))
  clear hk3 Hk2 Ho2
  have hal := (Keep.refl Never w3).alloc (.cells #[.int .u8 16, .int .u8 2, .int .u8 128, .int .u8 0, .int .u8 0, .int .u8 64, .int .u8 32, .int .u8 0, .int .u8 9, .int .u8 166] 5 (10, 11))
  go_wp2_with fail
  have hdc : Hid (Calls Tryd.prog 18 #[.slice (some ⟨w3.heap.size, 0, none⟩) 10 10] (w3.alloc (.cells #[.int .u8 16, .int .u8 2, .int .u8 128, .int .u8 0, .int .u8 0, .int .u8 64, .int .u8 32, .int .u8 0, .int .u8 9, .int .u8 166] 5 (10, 11))) (DecRet (w3.alloc (.cells #[.int .u8 16, .int .u8 2, .int .u8 128, .int .u8 0, .int .u8 0, .int .u8 64, .int .u8 32, .int .u8 0, .int .u8 9, .int .u8 166] 5 (10, 11))) (.ok (16, 256, 1, 77, [3], [])))) :=
    Lib.hid (decode_at (B := w3.heap.size + 1) dec16 (rd_marked w3 [16, 2, 128, 0, 0, 64, 32, 0, 9, 166] 5 (10, 11)) rfl (by decide) (by decide) (by unfold maxLen; omega) (by decide) (HW.out.keep (Hk3.out.trans hal) (fun h => h)) (by have := Hg.out; have := Hk3.out.size; omega) (by simp))
  refine hdc.out.mono ?_
  rintro e w4 ⟨i4, t4, a4, o4, A4, n4, c4, A5, k5, d5, x4, rfl, hk4, hpo⟩
  rcases hpo with ⟨V, P, h, rfl, hm4⟩ | ⟨h, _⟩
  rotate_left
  · cases h
  simp only [Except.ok.injEq, Prod.mk.injEq] at h
  obtain ⟨rfl, rfl, rfl, rfl, rfl, rfl⟩ := h
  have Hk4 := Lib.hid (Hk3.out.trans (hal.trans hk4))
  have Ho4 := Lib.hid (Ho3.out.keep (hal.trans hk4) (fun _ _ h => h))
  obtain ⟨hr4, hn4, hnc4, _, _⟩ := hm4
  obtain rfl : n4 = 1 := hn4.symm
  obtain ⟨ad, rfl, had, hcc⟩ := hr4.2 (by decide)
  have hcell : w4.cell? ad = some (.int .i64 3) := by have := hcc 0 _ rfl; simpa [Addr.add] using this
  have hlt4 : ad.block < w4.heap.size := had
  have hcell' : (w4.alloc (.cells (msgCells 16 256 1 77 (some ad) 1 c4 A5 k5 d5) 25)).cell? ad = some (.int .i64 3) := by rw [World.cell?_alloc_lt w4 _ _ hlt4]; exact hcell
  have hcv := run_str (P := Tryd.prog) (src := 28) (dst := 9) Tryd.underlying28 Tryd.underlying5 Tryd.underlying9 (Ho4.out.alloc (.cells (msgCells 16 256 1 77 (some ad) 1 c4 A5 k5 d5) 25)).rd (by decide) c1
  have hse : strOf [16, 2, 128, 0, 0, 64, 32, 0, 9, 166] = ⟨#[16, 2, 128, 0, 0, 64, 32, 0, 9, 166]⟩ := by decide
  rw [hse] at hcv
  have hbm : Hid (Blk (w4.alloc (.cells (msgCells 16 256 1 77 (some ad) 1 c4 A5 k5 d5) 25)) w4.heap.size 25 (msgCells 16 256 1 77 (some ad) 1 c4 A5 k5 d5)) := Lib.hid (Blk.new w4 _ _)
  have HKf := Lib.hid (Hk4.out.alloc (.cells (msgCells 16 256 1 77 (some ad) 1 c4 A5 k5 d5) 25))
  clear hcc hr4 hk4 hal Hk3 Ho3 hcell Hk4 Ho4
  unfold msgCells at *
  go_wp2_with fail
  have hu := mup_any 132 (w4.alloc (.cells #[.int .i64 16, .int .i64 256, .int .i64 1, .int .i64 77, .slice (some ad) 1 c4, .slice A5 k5 d5] 25))
  rw [up132] at hu
  refine hu.mono ?_
  rintro e w5 ⟨rfl, hk5⟩
  have HK5 := Lib.hid (HKf.out.trans hk5)
  clear hk5 hu HKf hbm hcv hcell' hdc kc
  go_wp2_with fail
  have hkn := mknown_any 7 w5
  rw [known7] at hkn
  refine hkn.mono ?_
  rintro e w6 ⟨rfl, hk6⟩
  have HK6 := Lib.hid (HK5.out.trans hk6)
  clear hk6 hkn
  go_wp2_with fail
  go_ret
  exact ⟨rfl, HK6.out⟩

end Go.Proofs.YtiebjnibmomcjaaDoor

namespace Go.Proofs.YtiebjnibmomcjaaDoor
open Go.RowKit

theorem keep_cell {w w' : World} {a : Addr} {u : Value} (hk : Keep Never w w') (h : w.cell? a = some u) : w'.cell? a = some u := (hk.cell (cell_lt h) (fun h => h)).trans h
theorem held3_next {W0 w w' : World} {a b c : Addr} {u v x : Value} (h : Keep Never W0 w ∧ w.cell? a = some u ∧ w.cell? b = some v ∧ w.cell? c = some x) (hk : Keep Never w w') : Keep Never W0 w' ∧ w'.cell? a = some u ∧ w'.cell? b = some v ∧ w'.cell? c = some x :=
  ⟨h.1.trans hk, keep_cell hk h.2.1, keep_cell hk h.2.2.1, keep_cell hk h.2.2.2⟩
theorem light_sum {V : List Int} {P : List (Int × List Int)} (h : lightM V P = true) : V.length ≤ 30 ∧ P.length ≤ 30 ∧ (∀ p ∈ P, p.2.length ≤ 3000) ∧ sumL P ≤ 500000 := by
  unfold lightM at h
  simp only [Bool.and_eq_true, decide_eq_true_eq, List.all_eq_true] at h
  obtain ⟨⟨h1, h2⟩, h3⟩ := h
  refine ⟨h1, h2, h3, ?_⟩
  have : ∀ (Q : List (Int × List Int)), (∀ p ∈ Q, p.2.length ≤ 3000) → sumL Q ≤ 3002 * Q.length := by
    intro Q
    induction Q with
    | nil => intro _; simp [sumL]
    | cons p Q ih =>
      intro h
      have h1 := ih (fun q hq => h q (by simp [hq]))
      have h2 := h p (by simp)
      simp only [sumL, List.map_cons, List.sum_cons, List.length_cons] at h1 ⊢
      omega
  have := this P h3
  omega
/-- Encode of a light message that came in -/
theorem enc_in {W w : World} {m : MsgT} {A : Option Addr} {n c : Nat} {A2 : Option Addr} {k d : Nat} (hm : MsgIn W m A n c A2 k d) (hl : lightM m.2.2.2.2.1 m.2.2.2.2.2 = true) (hW : Widths W) (hk : Keep Never W w) :
    Calls Tryd.prog 12 #[.agg (msgCells m.1 m.2.1 m.2.2.1 m.2.2.2.1 A n c A2 k d)] w (EncRet w (EncodeM m.1 m.2.1 m.2.2.1 m.2.2.2.1 m.2.2.2.2.1 m.2.2.2.2.2)) := by
  obtain ⟨h1, h2, h3, h4, h5, h6, h7⟩ := hm
  obtain ⟨l1, l2, l3, l4⟩ := light_sum hl
  have e1 := h1.2.1
  have e2 := h1.2.2.2.2.1
  exact mencode_any W.heap.size m.1 m.2.1 m.2.2.1 m.2.2.2.1 A n c _ A2 k d _ w (h1.keep hk (fun _ h => h.elim)) h4 h5 h6 h7 (by omega) (by omega) (fun p hp => by have := l3 p hp; omega) l4 (hW.keep hk (fun h => h)) hW.lt hk.size

set_option maxHeartbeats 4000000 in
set_option maxRecDepth 100000 in
theorem sides_walk (W : World) (hW : Widths W) (cs : Array Value) (m : MsgT) (hp : repMsg.cells W W.heap.size m cs.toList) :
    Calls Tryd.prog 9 #[.agg cs] W fun e w' => e = .returned (.bool true) ∧ Keep Never W w' := by
  obtain ⟨A, n, c, A2, k, d, rfl, hm⟩ := msg_in hp
  have hEn : Hid (lightM m.2.2.2.2.1 m.2.2.2.2.2 = true → ∀ w, Keep Never W w → _) := Lib.hid (fun hl w hk => enc_in hm hl hW hk)
  have hLi : Hid (∀ w, Keep Never W w → _) := Lib.hid (fun w hk => light_any W.heap.size m.1 m.2.1 m.2.2.1 m.2.2.2.1 A n c m.2.2.2.2.1 A2 k d m.2.2.2.2.2 w (hm.1.keep hk (fun _ h => h.elim)) hk.size)
  have hAw : Hid (∀ w, Keep Never W w → _) := Lib.hid (fun w hk => awake6_any w (hW.keep hk (fun h => h)))
  obtain ⟨id, t, ack, of_, V, P⟩ := m
  simp only at hEn hLi ⊢
  have HS : Hid (repPk.Sl W W.heap.size A2 k d P) := Lib.hid hm.1.2.2.2.2
  have hb0 : Hid (Blk (W.alloc (.cells #[.int .i64 id, .int .i64 t, .int .i64 ack, .int .i64 of_, .slice A n c, .slice A2 k d] 25)) W.heap.size 25 #[.int .i64 id, .int .i64 t, .int .i64 ack, .int .i64 of_, .slice A n c, .slice A2 k d]) := Blk.new W 25 _
  have hk0 : Hid (Keep Never W (W.alloc (.cells #[.int .i64 id, .int .i64 t, .int .i64 ack, .int .i64 of_, .slice A n c, .slice A2 k d] 25))) := (Keep.refl Never W).alloc _
  have HWi := Lib.hid hW
  clear hp hm hW
  unfold msgCells at *
  go_enter Tryd.func9, Tryd.ntmps9
  go_wp2_with fail
  refine (hAw.out _ hk0.out).mono ?_
  rintro e w1 ⟨rfl, hk1⟩
  have HK1 := Lib.hid (hk0.out.trans hk1)
  have HB1 := Lib.hid (hb0.out.keep hk1 (fun h => h))
  have m0 := HB1.out.cell 0
  have m1 := HB1.out.cell 1
  have m2 := HB1.out.cell 2
  have m3 := HB1.out.cell 3
  have m4 := HB1.out.cell 4
  have m5 := HB1.out.cell 5
  clear hk1
  go_wp2_with fail
  refine (hLi.out _ HK1.out).mono ?_
  rintro e w2 ⟨rfl, hk2⟩
  have HK2 := Lib.hid (HK1.out.trans hk2)
  have HB2 := Lib.hid (HB1.out.keep hk2 (fun h => h))
  clear hk2 m0 m1 m2 m3 m4 m5
  have m0 := HB2.out.cell 0
  have m1 := HB2.out.cell 1
  have m2 := HB2.out.cell 2
  have m3 := HB2.out.cell 3
  have m4 := HB2.out.cell 4
  have m5 := HB2.out.cell 5
  cases hl : lightM V P with
  | false =>
    go_wp2_with fail
    go_ret
    exact ⟨rfl, HK2.out⟩
  | true =>
    have hE := Lib.hid (hEn.out hl _ HK2.out)
    have hk30 : k ≤ 30 := by have h1 := (light_sum hl).2.1; have h2 := HS.out.1; omega
    clear hEn hl
    go_wp2_with fail
    refine hE.out.mono ?_
    rintro e w3 ⟨A3, n3, c3, x3, rfl, hk3, hpo⟩
    have HK3 := Lib.hid (HK2.out.trans hk3)
    have HB3 := Lib.hid (HB2.out.keep hk3 (fun h => h))
    clear hk3 m0 m1 m2 m3 m4 m5
    rcases hpo with ⟨l, hE3, rfl, hn3, ho3⟩ | ⟨hE3, hx3, rfl, rfl, rfl⟩
    rotate_left
    · have x0 : (x3 != 0) = true := by simpa using hx3
      clear hE3 hx3
      go_wp2_with fail
      go_ret
      exact ⟨rfl, HK3.out⟩
    · obtain ⟨s1, s2, s3⟩ := encode_side hE3
      have S1 := Lib.hid s1
      have S2 := Lib.hid s2
      have S3 := Lib.hid s3
      clear s1 s2 s3 hE3 hn3 ho3 hE
      go_wp2_with fail
      go_loopw [7] (fun i wr => ∃ j : Nat, j ≤ k ∧ i = .int .i64 j ∧ Hid (Keep Never w3 wr)) (fun i _ => k - (intOf i).toNat)
      case atStart => exact ⟨0, by omega, rfl, Lib.hid (Keep.refl _ _)⟩
      case round =>
        obtain ⟨j, hj, rfl, HKr⟩ := hrel
        have HKw := Lib.hid (HK3.out.trans HKr.out)
        have HBr := Lib.hid (HB3.out.keep HKr.out (fun h => h))
        have m0 := HBr.out.cell 0
        have m2 := HBr.out.cell 2
        have m5 := HBr.out.cell 5
        by_cases hjk : j < k
        · have hji : (j : Int) < (k : Int) := by omega
          obtain ⟨ad, pid, PV, A', n', c', hA2, hPj, d0, d1, r1, r2, r3, r4, r5⟩ := Sl_pack (HS.out.keep HKw.out (fun _ h => h.elim)) hjk
          subst hA2
          have hup : upP pid = upM id := S3.out (pid, PV) (List.mem_of_getElem? hPj)
          have HU1 : Hid (∀ w, Keep Never wr w → Calls Tryd.prog 21 #[.int .i64 pid] w fun e w' => e = .returned (.bool (upM id)) ∧ Keep Never w w') := Lib.hid (fun w _ => (up_at hup w).mono (by rintro e w' ⟨rfl, rfl⟩; exact ⟨rfl, Keep.refl _ _⟩))
          have HU2 : Hid (∀ w, Keep Never wr w → Calls Tryd.prog 16 #[.int .i64 id] w fun e w' => e = .returned (.bool (upM id)) ∧ Keep Never w w') := Lib.hid (fun w _ => mup_any id w)
          generalize upM id = ub at *
          clear hPj r1 r2 r3 r4 r5 hup d1 hAw hLi HB1 HB2
          cases ub
          all_goals
            go_wp2_with fail
            go_region_held3 (fun w' => Keep Never wr w' ∧ w'.cell? ⟨W.heap.size, 5, none⟩ = some (.slice (some ad) k d) ∧ w'.cell? (ad.add (j * 2)) = some (.int .i64 pid) ∧ w'.cell? ⟨W.heap.size, 0, none⟩ = some (.int .i64 id))
              (first | assumption | exact ⟨(Keep.refl Never wr).drew, m5, d0, m0⟩ | exact held3_next (by assumption) hk')
              (first
                | (go_at_call 21; refine (HU1.out _ (by first | exact (Keep.refl Never wr).drew | exact And.left (by assumption))).mono ?_; rintro e w' ⟨rfl, hk'⟩)
                | (go_at_call 16; refine (HU2.out _ (by first | exact (Keep.refl Never wr).drew | exact And.left (by assumption))).mono ?_; rintro e w' ⟨rfl, hk'⟩))
            rename_i hS
            have HKe := Lib.hid (HKr.out.trans (And.left hS))
            clear hS
            go_wp2_with fail
            go_roundw
            case rel => exact ⟨j + 1, by omega, by go_num, HKe⟩
            case measure => simp [intOf]; try omega
        · obtain rfl : j = k := by omega
          have hji : ¬ (j : Int) < (j : Int) := by omega
          have hKn : Hid (Calls Tryd.prog 14 #[.int .i64 id] wr fun e w' => e = .returned (.bool true) ∧ Keep Never wr w') := Lib.hid (by have := mknown_any id wr; rwa [S1.out] at this)
          have hU : Hid (∀ w, Calls Tryd.prog 16 #[.int .i64 id] w fun e w' => e = .returned (.bool (upM id)) ∧ Keep Never w w') := Lib.hid (fun w => mup_any id w)
          clear hAw hLi HB1 HB2
          go_wp2_with fail
          refine hKn.out.mono ?_
          rintro e w5 ⟨rfl, hk5⟩
          have HK5 := Lib.hid (HKw.out.trans hk5)
          have HB5 := Lib.hid (HBr.out.keep hk5 (fun h => h))
          clear m0 m2 m5 hk5
          have m0 := HB5.out.cell 0
          go_wp2_with fail
          refine (hU.out _).mono ?_
          rintro e w6 ⟨rfl, hk6⟩
          have HK6 := Lib.hid (HK5.out.trans hk6)
          have m2 := (HB5.out.keep hk6 (fun h => h)).cell 2
          clear hk6 m0
          cases hu : upM id with
          | true =>
            obtain rfl := S2.out hu
            clear hu
            go_wp2_with fail
            go_ret
            exact ⟨rfl, HK6.out⟩
          | false =>
            clear hu
            go_wp2_with fail
            go_ret
            exact ⟨rfl, HK6.out⟩

end Go.Proofs.YtiebjnibmomcjaaDoor

namespace Go.Proofs.YtiebjnibmomcjaaDoor
open Go.RowKit

set_option maxHeartbeats 4000000 in
set_option maxRecDepth 100000 in
theorem same6_any (B : Nat) (id t ack of_ : Int) (V : List Int) (P : List (Int × List Int)) (A : Option Addr) (n c : Nat) (A2 : Option Addr) (k d : Nat) (A' : Option Addr) (n' c' : Nat) (A2' : Option Addr) (k' d' : Nat) (w : World) (hm : MsgAt w B A n c V A2 k d P) (hm' : MsgAt w B A' n' c' V A2' k' d' P) (_hB : B ≤ w.heap.size) (hn : n ≤ 1000000) (hk : k ≤ 100000) (hP : ∀ p ∈ P, p.2.length ≤ 8200) :
    Calls Tryd.prog 20 #[.agg (msgCells id t ack of_ A n c A2 k d), .agg (msgCells id t ack of_ A' n' c' A2' k' d')] w fun e w' => e = .returned (.bool true) ∧ Keep Never w w' := by
  have HP := Lib.hid hP
  obtain rfl : k' = k := by have h1 := hm.2.2.2.2.1; have h2 := hm'.2.2.2.2.1; omega
  have HI : Hid (∀ W, Keep Never w W → Calls Tryd.prog 51 #[.slice A n c, .slice A' n' c'] W fun e w' => e = .returned (.bool true) ∧ Keep Never W w') := Lib.hid (fun W hk => by
    have h1 := hm.2.1
    have h2 := hm'.2.1
    have := ints_any V V A A' n n' c c' B W h1 h2 hn (by omega) (hm.1.keep hk (fun _ h => h.elim)) (hm'.1.keep hk (fun _ h => h.elim))
    rwa [decide_eq_true (rfl : V = V)] at this)
  have HS := Lib.hid (And.intro hm.2.2.2.2 hm'.2.2.2.2)
  clear hm hm'
  obtain ⟨w2, hw2⟩ : ∃ w2, (w.alloc (.cells #[.int .i64 id, .int .i64 t, .int .i64 ack, .int .i64 of_, .slice A n c, .slice A2 k' d] 25)).alloc (.cells #[.int .i64 id, .int .i64 t, .int .i64 ack, .int .i64 of_, .slice A' n' c', .slice A2' k' d'] 25) = w2 := ⟨_, rfl⟩
  have HB1 : Hid (Blk w2 w.heap.size 25 #[.int .i64 id, .int .i64 t, .int .i64 ack, .int .i64 of_, .slice A n c, .slice A2 k' d]) := Lib.hid (by rw [← hw2]; exact (Blk.new w 25 _).alloc _)
  have HB2 : Hid (Blk w2 (w.heap.size + 1) 25 #[.int .i64 id, .int .i64 t, .int .i64 ack, .int .i64 of_, .slice A' n' c', .slice A2' k' d']) := Lib.hid (by
    rw [← hw2]
    have := Blk.new (w.alloc (.cells #[.int .i64 id, .int .i64 t, .int .i64 ack, .int .i64 of_, .slice A n c, .slice A2 k' d] 25)) 25 #[.int .i64 id, .int .i64 t, .int .i64 ack, .int .i64 of_, .slice A' n' c', .slice A2' k' d']
    simpa using this)
  have HK2 : Hid (Keep Never w w2) := Lib.hid (by rw [← hw2]; exact ((Keep.refl Never w).alloc _).alloc _)
  have i1 : (id != id) = false := by simp
  have i2 : (t != t) = false := by simp
  have i3 : (ack != ack) = false := by simp
  have i4 : (of_ != of_) = false := by simp
  have i5 : ((k' : Int) != (k' : Int)) = false := by simp
  unfold msgCells
  go_enter Tryd.func20, Tryd.ntmps20
  have m4 : w2.cell? ⟨w.heap.size, 4, none⟩ = some (.slice A n c) := HB1.out.cell 4
  have p4 : w2.cell? ⟨w.heap.size + 1, 4, none⟩ = some (.slice A' n' c') := HB2.out.cell 4
  go_wp2_with fail
  refine (HI.out _ HK2.out).mono ?_
  rintro e w3 ⟨rfl, hk3⟩
  have HK3 := Lib.hid (HK2.out.trans hk3)
  have HB13 := Lib.hid (HB1.out.keep hk3 (fun h => h))
  have HB23 := Lib.hid (HB2.out.keep hk3 (fun h => h))
  clear hk3 m4 p4 hw2 HB1 HB2 HI
  have m0 := HB13.out.cell 0
  have m1 := HB13.out.cell 1
  have m2 := HB13.out.cell 2
  have m3 := HB13.out.cell 3
  have m5 := HB13.out.cell 5
  have p0 := HB23.out.cell 0
  have p1 := HB23.out.cell 1
  have p2 := HB23.out.cell 2
  have p3 := HB23.out.cell 3
  have p5 := HB23.out.cell 5
  go_wp2_with fail
  clear m0 m1 m2 m3 p0 p1 p2 p3 m5 p5
  go_loopw [6] (fun i wr => ∃ j : Nat, j ≤ k' ∧ i = .int .i64 j ∧ Hid (Keep Never w3 wr)) (fun i _ => k' - (intOf i).toNat)
  case atStart => exact ⟨0, by omega, rfl, Lib.hid (Keep.refl _ _)⟩
  case round =>
    obtain ⟨j, hj, rfl, HKr⟩ := hrel
    have HKw := Lib.hid (HK3.out.trans HKr.out)
    have m5 : wr.cell? ⟨w.heap.size, 5, none⟩ = some (.slice A2 k' d) := (HB13.out.keep HKr.out (fun h => h)).cell 5
    have p5 : wr.cell? ⟨w.heap.size + 1, 5, none⟩ = some (.slice A2' k' d') := (HB23.out.keep HKr.out (fun h => h)).cell 5
    by_cases hjk : j < k'
    · have hji : (j : Int) < (k' : Int) := by omega
      obtain ⟨ad, pid, PV, Aa, na, ca, hA2, hPj, d0, d1, r1, r2, r3, r4, r5⟩ := Sl_pack (HS.out.1.keep HKw.out (fun _ h => h.elim)) hjk
      obtain ⟨ad', pid', PV', Ab, nb, cb, hA2', hPj', e0, e1, s1, s2, s3, s4, s5⟩ := Sl_pack (HS.out.2.keep HKw.out (fun _ h => h.elim)) hjk
      rw [hPj] at hPj'
      simp only [Option.some.injEq, Prod.mk.injEq] at hPj'
      obtain ⟨rfl, rfl⟩ := hPj'
      subst hA2 hA2'
      have hPV := HP.out _ (List.mem_of_getElem? hPj)
      simp only at hPV
      have HSm : Hid (∀ W, Keep Never wr W → Calls Tryd.prog 52 #[.agg #[.int .i64 pid, .slice Aa na ca], .agg #[.int .i64 pid, .slice Ab nb cb]] W fun e w' => e = .returned (.bool true) ∧ Keep Never W w') := Lib.hid (fun W hk => by
        have := same_any pid pid PV PV Aa Ab na nb ca cb B W r2 s2 (by omega) (by omega) (r1.keep hk (fun _ h => h.elim)) (s1.keep hk (fun _ h => h.elim))
        simpa [packCells] using this)
      clear hPj hPV r1 r2 r3 r4 r5 s1 s2 s3 s4 s5
      go_wp2_with fail
      go_still_tail 10, (by kernel_rfl)
      change wpList _ _ _ _ _ wr.drew
      go_wp2_with fail
      refine (HSm.out _ (Keep.refl Never wr).drew).mono ?_
      rintro e w5 ⟨rfl, hk5⟩
      have HK5 := Lib.hid ((HKr.out.drew).trans hk5)
      clear hk5 m5 p5 d0 d1 e0 e1
      go_wp2_with fail
      go_roundw
      case rel => exact ⟨j + 1, by omega, by go_num, HK5⟩
      case measure => simp [intOf]; try omega
    · obtain rfl : j = k' := by omega
      have hji : ¬ (j : Int) < (j : Int) := by omega
      go_wp2_with fail
      go_ret
      exact ⟨rfl, HKw.out⟩

set_option maxHeartbeats 4000000 in
set_option maxRecDepth 100000 in
theorem back6_walk (W : World) (hW : Widths W) (cs : Array Value) (m : MsgT) (hp : repMsg.cells W W.heap.size m cs.toList) :
    Calls Tryd.prog 5 #[.agg cs] W fun e w' => e = .returned (.bool true) ∧ Keep Never W w' := by
  obtain ⟨A, n, c, A2, k, d, rfl, hm⟩ := msg_in hp
  have hEn : Hid (lightM m.2.2.2.2.1 m.2.2.2.2.2 = true → ∀ w, Keep Never W w → _) := Lib.hid (fun hl w hk => enc_in hm hl hW hk)
  have hLi : Hid (∀ w, Keep Never W w → _) := Lib.hid (fun w hk => light_any W.heap.size m.1 m.2.1 m.2.2.1 m.2.2.2.1 A n c m.2.2.2.2.1 A2 k d m.2.2.2.2.2 w (hm.1.keep hk (fun _ h => h.elim)) hk.size)
  have hAw : Hid (∀ w, Keep Never W w → _) := Lib.hid (fun w hk => awake6_any w (hW.keep hk (fun h => h)))
  obtain ⟨id, t, ack, of_, V, P⟩ := m
  simp only at hEn hLi ⊢
  have HM : Hid (MsgAt W W.heap.size A n c V A2 k d P) := Lib.hid hm.1
  have hb0 : Hid (Blk (W.alloc (.cells #[.int .i64 id, .int .i64 t, .int .i64 ack, .int .i64 of_, .slice A n c, .slice A2 k d] 25)) W.heap.size 25 #[.int .i64 id, .int .i64 t, .int .i64 ack, .int .i64 of_, .slice A n c, .slice A2 k d]) := Blk.new W 25 _
  have hk0 : Hid (Keep Never W (W.alloc (.cells #[.int .i64 id, .int .i64 t, .int .i64 ack, .int .i64 of_, .slice A n c, .slice A2 k d] 25))) := (Keep.refl Never W).alloc _
  have HWi := Lib.hid hW
  clear hp hm hW
  unfold msgCells at *
  go_enter Tryd.func5, Tryd.ntmps5
  go_wp2_with fail
  refine (hAw.out _ hk0.out).mono ?_
  rintro e w1 ⟨rfl, hk1⟩
  have HK1 := Lib.hid (hk0.out.trans hk1)
  have HB1 := Lib.hid (hb0.out.keep hk1 (fun h => h))
  have m0 := HB1.out.cell 0
  have m1 := HB1.out.cell 1
  have m2 := HB1.out.cell 2
  have m3 := HB1.out.cell 3
  have m4 := HB1.out.cell 4
  have m5 := HB1.out.cell 5
  clear hk1
  go_wp2_with fail
  refine (hLi.out _ HK1.out).mono ?_
  rintro e w2 ⟨rfl, hk2⟩
  have HK2 := Lib.hid (HK1.out.trans hk2)
  have HB2 := Lib.hid (HB1.out.keep hk2 (fun h => h))
  clear hk2 m0 m1 m2 m3 m4 m5
  have m0 := HB2.out.cell 0
  have m1 := HB2.out.cell 1
  have m2 := HB2.out.cell 2
  have m3 := HB2.out.cell 3
  have m4 := HB2.out.cell 4
  have m5 := HB2.out.cell 5
  cases hl : lightM V P with
  | false =>
    go_wp2_with fail
    go_ret
    exact ⟨rfl, HK2.out⟩
  | true =>
    have hE := Lib.hid (hEn.out hl _ HK2.out)
    have HL := Lib.hid (light_sum hl)
    clear hEn hl
    go_wp2_with fail
    refine hE.out.mono ?_
    rintro e w3 ⟨A3, n3, c3, x3, rfl, hk3, hpo⟩
    have HK3 := Lib.hid (HK2.out.trans hk3)
    have HB3 := Lib.hid (HB2.out.keep hk3 (fun h => h))
    clear hk3 m0 m1 m2 m3 m4 m5
    rcases hpo with ⟨l, hE3, rfl, hn3, ho3⟩ | ⟨hE3, hx3, rfl, rfl, rfl⟩
    rotate_left
    · have x0 : (x3 != 0) = true := by simpa using hx3
      clear hE3 hx3
      go_wp2_with fail
      go_ret
      exact ⟨rfl, HK3.out⟩
    · obtain ⟨own, must, may, l1, l2, hk, rfl⟩ := encode_inv hE3
      have hdec := decode_of hk
      have hlt := bytesOf_lt (layP ((id, 8) :: (bytesN ((id, 8) :: (0, 10) :: (l1 ++ l2)), 10) :: (l1 ++ l2)))
      obtain ⟨z, hz, hz0, hb, h1023, hused, hle, hN⟩ := enc_bits hk
      have h1023' : (n3 : Int) ≤ 1023 := by omega
      have hcm : c3 ≤ maxLen := by
        rcases ho3.form with ⟨_, _, h, _⟩ | ⟨_, _, _, _, _, _, h, _⟩
        · unfold maxLen; omega
        · exact h
      have hD : Hid (Calls Tryd.prog 18 #[.slice A3 n3 c3] w3 (DecRet w3 (.ok (id, t, ack, of_, V, P)))) := Lib.hid (by
        have := mdecode_any w3.heap.size _ A3 n3 c3 w3 ho3.rd hn3.symm hlt ho3.cap_le hcm (by omega) (HWi.out.keep HK3.out (fun h => h)) (HWi.out.keep HK3.out (fun h => h)).lt (Nat.le_refl _)
        rwa [show DecodeM _ = _ from hdec] at this)
      clear hk hdec hlt hb hused hle hN ho3 hE3 hn3 hz hz0 hE h1023 hcm hLi hAw HB1 HB2
      go_wp2_with fail
      refine hD.out.mono ?_
      rintro e w4 ⟨i4, t4, a4, o4, A4, n4, c4, A5, k5, d5, x4, rfl, hk4, hpo⟩
      rcases hpo with ⟨V', P', h, rfl, hm4⟩ | ⟨h, _⟩
      rotate_left
      · cases h
      simp only [Except.ok.injEq, Prod.mk.injEq] at h
      obtain ⟨rfl, rfl, rfl, rfl, rfl, rfl⟩ := h
      have HK4 := Lib.hid (HK3.out.trans hk4)
      have HB4 := Lib.hid ((HB3.out.keep hk4 (fun h => h)).alloc (.cells #[.int .i64 id, .int .i64 t, .int .i64 ack, .int .i64 of_, .slice A4 n4 c4, .slice A5 k5 d5] 25))
      have HB5 := Lib.hid (Blk.new w4 25 #[.int .i64 id, .int .i64 t, .int .i64 ack, .int .i64 of_, .slice A4 n4 c4, .slice A5 k5 d5])
      have hal := (Keep.refl Never w4).alloc (.cells #[.int .i64 id, .int .i64 t, .int .i64 ack, .int .i64 of_, .slice A4 n4 c4, .slice A5 k5 d5] 25)
      have HK5 := Lib.hid (HK4.out.trans hal)
      have hSm := Lib.hid (same6_any w4.heap.size id t ack of_ V P A n c A2 k d A4 n4 c4 A5 k5 d5 (w4.alloc (.cells #[.int .i64 id, .int .i64 t, .int .i64 ack, .int .i64 of_, .slice A4 n4 c4, .slice A5 k5 d5] 25))
        (by have h1 := HM.out.keep HK5.out (fun _ h => h.elim); exact ⟨h1.1.more HK4.out.size, h1.2.1, h1.2.2.1, h1.2.2.2.1, h1.2.2.2.2.more HK4.out.size⟩) (hm4.keep hal (fun _ h => h.elim)) hal.size (by have h1 := HL.out.1; have h2 := HM.out.2.1; omega) (by have h1 := HL.out.2.1; have h2 := HM.out.2.2.2.2.1; omega) (fun p hp => by have := HL.out.2.2.1 p hp; omega))
      unfold msgCells at hSm
      have m0 := HB4.out.cell 0
      have m1 := HB4.out.cell 1
      have m2 := HB4.out.cell 2
      have m3 := HB4.out.cell 3
      have m4 := HB4.out.cell 4
      have m5 := HB4.out.cell 5
      clear hk4 hm4 hal hD
      unfold msgCells
      go_wp2_with fail
      refine hSm.out.mono ?_
      rintro e w6 ⟨rfl, hk6⟩
      have HK6 := Lib.hid (HK5.out.trans hk6)
      clear hk6
      go_wp2_with fail
      go_ret
      exact ⟨rfl, HK6.out⟩

end Go.Proofs.YtiebjnibmomcjaaDoor

namespace Go.Proofs.YtiebjnibmomcjaaDoor
open Go.RowKit

theorem ItemsM_bits {id : Int} {V : List Int} {l : List (Int × Int)} (h : ItemsM id V = .ok l) : (V.length : Int) ≤ sumW l := by
  obtain ⟨T, tr, hT, hM, hm, hV, rfl, h7, hS⟩ := ItemsM_trace h
  have h1 := sumW_ge tr hm
  have h2 := nums_le tr
  have h3 := vWidth_range 5
  have e : sumW (itemsOf ((5, id) :: tr)) = vWidth 5 + sumW (itemsOf tr) := by simp [sumW, itemsOf]
  rw [hV] at h2
  omega
theorem packs_sum : ∀ {P : List (Int × List Int)} {l : List (Int × Int)}, packsM P = .ok l → (sumL P : Int) ≤ sumW l + 2 * (P.length : Int)
  | [], l, h => by injection h with h; subst h; simp [sumL, sumW]
  | p :: P, l, h => by
    obtain ⟨a, b, ha, hb, rfl⟩ := packsM_cons.1 h
    have h1 := packs_sum hb
    have h2 := ItemsM_bits ha
    have e : sumL (p :: P) = p.2.length + 2 + sumL P := by simp [sumL]
    rw [sumW_app, e, List.length_cons]
    omega
theorem packs_each : ∀ {P : List (Int × List Int)} {l : List (Int × Int)}, packsM P = .ok l → ∀ p ∈ P, p.2.length ≤ 8200
  | [], l, h => by simp
  | p :: P, l, h => by
    obtain ⟨a, b, ha, hb, rfl⟩ := packsM_cons.1 h
    intro q hq
    rcases List.mem_cons.1 hq with rfl | hq
    · have := (ItemsM_short ha).1; omega
    · exact packs_each hb q hq
/-- what a message that came up is like -/
theorem decode_small {b : List Nat} (h8 : ∀ x ∈ b, x < 256) {id t ack of_ : Int} {V : List Int} {P : List (Int × List Int)} (h : DecodeM b = .ok (id, t, ack, of_, V, P)) :
    i64 id ∧ i64 t ∧ i64 ack ∧ i64 of_ ∧ V.length ≤ 5 ∧ P.length ≤ 1023 ∧ (∀ p ∈ P, p.2.length ≤ 8200) ∧ sumL P ≤ 500000 ∧ b.length ≤ 1023 ∧ EncodeM id t ack of_ V P = .ok b ∧ id ≠ 0 := by
  obtain ⟨r1, r2, r3, r4, r5, r6⟩ := decode_range h8 h
  obtain ⟨own, must, may, l1, l2, hk, rfl⟩ := decode_inv h8 h
  obtain ⟨z, hz, hz0, hb, h1023, hused, hle, hN⟩ := enc_bits hk
  have hs := packs_sum hk.packs
  have h1 := length_layP (nums_width (numsM_may hk.nums))
  have h0 : id ≠ 0 := by
    rintro rfl
    have := hk.form
    have h0 : formM 0 = none := by decide +kernel
    rw [h0] at this
    cases this
  refine ⟨by unfold i64; omega, by unfold i64; omega, by unfold i64; omega, by unfold i64; omega, r5, by omega, packs_each hk.packs, by omega, h1023, encode_of hk, h0⟩

set_option maxHeartbeats 4000000 in
set_option maxRecDepth 100000 in
theorem only6_walk (W : World) (hW : Widths W) (A : Option Addr) (n c : Nat) (b : List Nat) (hs : Rep.byte.Sl W W.heap.size A n c b) :
    Calls Tryd.prog 6 #[.slice A n c] W fun e w' => e = .returned (.bool true) ∧ Keep Never W w' := by
  obtain ⟨hrd, hbl, h8⟩ := bytes_rd hs
  have hc := hs.2.1
  have hcm := hs.2.2.1
  have HBy := Lib.hid (And.intro hrd (And.intro hbl h8))
  have HC := Lib.hid (And.intro hc hcm)
  have HWi := Lib.hid hW
  have hAw : Hid (∀ w, Keep Never W w → _) := Lib.hid (fun w hk => awake6_any w (hW.keep hk (fun h => h)))
  clear hs hrd hbl h8 hc hcm hW
  by_cases h15 : n ≤ 1500
  rotate_left
  · have h15' : (1500 : Int) < (n : Int) := by omega
    clear h15
    go_enter Tryd.func6, Tryd.ntmps6
    go_wp2_with fail
    refine (hAw.out _ (Keep.refl _ _)).mono ?_
    rintro e w1 ⟨rfl, hk1⟩
    have HK1 := Lib.hid hk1
    clear hk1
    go_wp2_with fail
    go_ret
    exact ⟨rfl, HK1.out⟩
  have h15' : (n : Int) ≤ 1500 := by omega
  have hD : Hid (∀ w, Keep Never W w → Calls Tryd.prog 18 #[.slice A n c] w (DecRet w (DecodeM b))) := Lib.hid (fun w hk =>
    mdecode_any W.heap.size b A n c w (HBy.out.1.keep hk (fun _ h => h.elim)) HBy.out.2.1 HBy.out.2.2 HC.out.1 HC.out.2 (by omega) (HWi.out.keep hk (fun h => h)) HWi.out.lt hk.size)
  clear h15
  go_enter Tryd.func6, Tryd.ntmps6
  go_wp2_with fail
  refine (hAw.out _ (Keep.refl _ _)).mono ?_
  rintro e w1 ⟨rfl, hk1⟩
  have HK1 := Lib.hid hk1
  clear hk1 hAw
  go_wp2_with fail
  refine (hD.out _ HK1.out).mono ?_
  rintro e w2 ⟨id, t, ack, of_, A2, n2, c2, A3, k, d, x, rfl, hk2, hpo⟩
  have HK2 := Lib.hid (HK1.out.trans hk2)
  have HB2 := Lib.hid (Blk.new w2 25 #[.int .i64 id, .int .i64 t, .int .i64 ack, .int .i64 of_, .slice A2 n2 c2, .slice A3 k d])
  have hal := (Keep.refl Never w2).alloc (.cells #[.int .i64 id, .int .i64 t, .int .i64 ack, .int .i64 of_, .slice A2 n2 c2, .slice A3 k d] 25)
  have HK3 := Lib.hid (HK2.out.trans hal)
  have Hal := Lib.hid hal
  clear hk2 hal
  unfold msgCells
  rcases hpo with ⟨V, P, hE, rfl, hm⟩ | ⟨hE, hx, rfl, rfl, rfl, rfl, rfl, rfl, rfl, rfl, rfl, rfl⟩
  rotate_left
  · have x0 : (x != 0) = true := by simpa using hx
    clear hE hx hD
    go_wp2_with fail
    go_ret
    exact ⟨rfl, HK3.out⟩
  · obtain ⟨s1, s2, s3, s4, s5, s6, s7, s8, s9, s10, s11⟩ := decode_small HBy.out.2.2 hE
    have hV := hm.2.1
    have hP := hm.2.2.2.2.1
    have hEn : Hid (Calls Tryd.prog 12 #[.agg #[.int .i64 id, .int .i64 t, .int .i64 ack, .int .i64 of_, .slice A2 n2 c2, .slice A3 k d]] (w2.alloc (.cells #[.int .i64 id, .int .i64 t, .int .i64 ack, .int .i64 of_, .slice A2 n2 c2, .slice A3 k d] 25)) (EncRet (w2.alloc (.cells #[.int .i64 id, .int .i64 t, .int .i64 ack, .int .i64 of_, .slice A2 n2 c2, .slice A3 k d] 25)) (.ok b))) := Lib.hid (by
      have := mencode_any w2.heap.size id t ack of_ A2 n2 c2 V A3 k d P (w2.alloc (.cells #[.int .i64 id, .int .i64 t, .int .i64 ack, .int .i64 of_, .slice A2 n2 c2, .slice A3 k d] 25)) (hm.keep Hal.out (fun _ h => h.elim)) s1 s2 s3 s4 (by omega) (by omega) s7 s8 (HWi.out.keep HK3.out (fun h => h)) (HWi.out.keep HK2.out (fun h => h)).lt Hal.out.size
      rwa [s10] at this)
    clear hm s1 s2 s3 s4 s5 s6 s7 s8 s9 s10 s11 hE hV hP hD
    go_wp2_with fail
    refine hEn.out.mono ?_
    rintro e w4 ⟨A4, n4, c4, x4, rfl, hk4, hpo⟩
    rcases hpo with ⟨l, h, rfl, hn4, ho4⟩ | ⟨h, _⟩
    rotate_left
    · cases h
    injection h with h
    subst h
    have HK4 := Lib.hid (HK3.out.trans hk4)
    have hcv4 := run_str (P := Tryd.prog) (src := 28) (dst := 9) Tryd.underlying28 Tryd.underlying5 Tryd.underlying9 (hn4 ▸ ho4.rd : Rd w4 w4.heap.size 1 A4 n4 (b.map u8v)) HBy.out.2.2 c4
    have hcv1 := run_str (P := Tryd.prog) (src := 28) (dst := 9) Tryd.underlying28 Tryd.underlying5 Tryd.underlying9 (HBy.out.1.keep HK4.out (fun _ h => h.elim)) HBy.out.2.2 c
    clear hk4 ho4 hn4 hEn
    generalize strOf b = sb at *
    go_wp2_with fail
    go_ret
    exact ⟨rfl, HK4.out⟩

end Go.Proofs.YtiebjnibmomcjaaDoor

namespace Go.Proofs.YtiebjnibmomcjaaDoor
open Go.RowKit

set_option maxRecDepth 100000 in
theorem elemU8 : Elem Tryd.prog 28 5 1 1 := ⟨Tryd.underlying28, _, _, rfl, rfl, rfl, rfl, rfl, by omega⟩
theorem keep_none6 {w w' : World} (h : Keep (InRow none) w w') : Keep Never w w' := h.mono (by rintro i _ ⟨_, h, _⟩; cases h)
theorem one_u8 (l : List Nat) : ∀ u ∈ l.map u8v, u.oneCell' = true := by
  intro u hu
  obtain ⟨b, _, rfl⟩ := List.mem_map.1 hu
  rfl

set_option maxHeartbeats 8000000 in
set_option maxRecDepth 100000 in
theorem cut6_walk (W : World) (hW : Widths W) (cs : Array Value) (m : MsgT) (hp : repMsg.cells W W.heap.size m cs.toList) (cut : Int) (_ : -9223372036854775808 ≤ cut) (_ : cut ≤ 9223372036854775807) (A1 : Option Addr) (n1 c1 : Nat) (more : List Nat) (hs : Rep.byte.Sl W W.heap.size A1 n1 c1 more) :
    Calls Tryd.prog 7 #[.agg cs, .int .i64 cut, .slice A1 n1 c1] W fun e w' => e = .returned (.bool true) ∧ Keep Never W w' := by
  have H1 := Lib.hid (bytes_rd hs)
  obtain ⟨A, n, c, A2, k, d, rfl, hm⟩ := msg_in hp
  have hEn : Hid (lightM m.2.2.2.2.1 m.2.2.2.2.2 = true → ∀ w, Keep Never W w → _) := Lib.hid (fun hl w hk => enc_in hm hl hW hk)
  have hLi : Hid (∀ w, Keep Never W w → _) := Lib.hid (fun w hk => light_any W.heap.size m.1 m.2.1 m.2.2.1 m.2.2.2.1 A n c m.2.2.2.2.1 A2 k d m.2.2.2.2.2 w (hm.1.keep hk (fun _ h => h.elim)) hk.size)
  have hAw : Hid (∀ w, Keep Never W w → _) := Lib.hid (fun w hk => awake6_any w (hW.keep hk (fun h => h)))
  obtain ⟨id, t, ack, of_, V, P⟩ := m
  simp only at hEn hLi ⊢
  have HM : Hid (MsgAt W W.heap.size A n c V A2 k d P) := Lib.hid hm.1
  have hb0 : Hid (Blk (W.alloc (.cells #[.int .i64 id, .int .i64 t, .int .i64 ack, .int .i64 of_, .slice A n c, .slice A2 k d] 25)) W.heap.size 25 #[.int .i64 id, .int .i64 t, .int .i64 ack, .int .i64 of_, .slice A n c, .slice A2 k d]) := Blk.new W 25 _
  have hk0 : Hid (Keep Never W (W.alloc (.cells #[.int .i64 id, .int .i64 t, .int .i64 ack, .int .i64 of_, .slice A n c, .slice A2 k d] 25))) := (Keep.refl Never W).alloc _
  have HWi := Lib.hid hW
  clear hp hm hW hs
  unfold msgCells at *
  by_cases hgo : lightM V P = true ∧ n1 ≤ 100
  rotate_left
  · cases hl : lightM V P with
    | false =>
      go_enter Tryd.func7, Tryd.ntmps7
      go_wp2_with fail
      refine (hAw.out _ hk0.out).mono ?_
      rintro e w1 ⟨rfl, hk1⟩
      have HK1 := Lib.hid (hk0.out.trans hk1)
      have HB1 := Lib.hid (hb0.out.keep hk1 (fun h => h))
      have m0 := HB1.out.cell 0
      have m1 := HB1.out.cell 1
      have m2 := HB1.out.cell 2
      have m3 := HB1.out.cell 3
      have m4 := HB1.out.cell 4
      have m5 := HB1.out.cell 5
      clear hk1
      go_wp2_with fail
      refine (hLi.out _ HK1.out).mono ?_
      rintro e w2 ⟨rfl, hk2⟩
      have HK2 := Lib.hid (HK1.out.trans hk2)
      have HB2 := Lib.hid (HB1.out.keep hk2 (fun h => h))
      clear hk2 m0 m1 m2 m3 m4 m5
      have m0 := HB2.out.cell 0
      have m1 := HB2.out.cell 1
      have m2 := HB2.out.cell 2
      have m3 := HB2.out.cell 3
      have m4 := HB2.out.cell 4
      have m5 := HB2.out.cell 5
      rw [hl]
      go_wp2_with fail
      go_ret
      exact ⟨rfl, HK2.out⟩
    | true =>
      have h1' : (100 : Int) < (n1 : Int) := by have : ¬ n1 ≤ 100 := fun h => hgo ⟨hl, h⟩; omega
      clear hgo
      go_enter Tryd.func7, Tryd.ntmps7
      go_wp2_with fail
      refine (hAw.out _ hk0.out).mono ?_
      rintro e w1 ⟨rfl, hk1⟩
      have HK1 := Lib.hid (hk0.out.trans hk1)
      have HB1 := Lib.hid (hb0.out.keep hk1 (fun h => h))
      have m0 := HB1.out.cell 0
      have m1 := HB1.out.cell 1
      have m2 := HB1.out.cell 2
      have m3 := HB1.out.cell 3
      have m4 := HB1.out.cell 4
      have m5 := HB1.out.cell 5
      clear hk1
      go_wp2_with fail
      refine (hLi.out _ HK1.out).mono ?_
      rintro e w2 ⟨rfl, hk2⟩
      have HK2 := Lib.hid (HK1.out.trans hk2)
      have HB2 := Lib.hid (HB1.out.keep hk2 (fun h => h))
      clear hk2 m0 m1 m2 m3 m4 m5
      have m0 := HB2.out.cell 0
      have m1 := HB2.out.cell 1
      have m2 := HB2.out.cell 2
      have m3 := HB2.out.cell 3
      have m4 := HB2.out.cell 4
      have m5 := HB2.out.cell 5
      rw [hl]
      go_wp2_with fail
      go_ret
      exact ⟨rfl, HK2.out⟩
  obtain ⟨hl, h100⟩ := hgo
  have h1' : (n1 : Int) ≤ 100 := by omega
  go_enter Tryd.func7, Tryd.ntmps7
  go_wp2_with fail
  refine (hAw.out _ hk0.out).mono ?_
  rintro e w1 ⟨rfl, hk1⟩
  have HK1 := Lib.hid (hk0.out.trans hk1)
  have HB1 := Lib.hid (hb0.out.keep hk1 (fun h => h))
  have m0 := HB1.out.cell 0
  have m1 := HB1.out.cell 1
  have m2 := HB1.out.cell 2
  have m3 := HB1.out.cell 3
  have m4 := HB1.out.cell 4
  have m5 := HB1.out.cell 5
  clear hk1
  go_wp2_with fail
  refine (hLi.out _ HK1.out).mono ?_
  rintro e w2 ⟨rfl, hk2⟩
  have HK2 := Lib.hid (HK1.out.trans hk2)
  have HB2 := Lib.hid (HB1.out.keep hk2 (fun h => h))
  clear hk2 m0 m1 m2 m3 m4 m5
  have m0 := HB2.out.cell 0
  have m1 := HB2.out.cell 1
  have m2 := HB2.out.cell 2
  have m3 := HB2.out.cell 3
  have m4 := HB2.out.cell 4
  have m5 := HB2.out.cell 5
  rw [hl]
  have hE := Lib.hid (hEn.out hl _ HK2.out)
  clear hEn hl hLi hAw HB1
  go_wp2_with fail
  refine hE.out.mono ?_
  rintro e w3 ⟨A3, n3, c3, x3, rfl, hk3, hpo⟩
  have HK3 := Lib.hid (HK2.out.trans hk3)
  clear hk3 m0 m1 m2 m3 m4 m5 hE
  rcases hpo with ⟨l, hE3, rfl, hn3, ho3⟩ | ⟨hE3, hx3, rfl, rfl, rfl⟩
  rotate_left
  · have x0 : (x3 != 0) = true := by simpa using hx3
    clear hE3 hx3
    go_wp2_with fail
    go_ret
    exact ⟨rfl, HK3.out⟩
  by_cases hcu : 0 ≤ cut ∧ cut < n3
  rotate_left
  · have hcc : cut < 0 ∨ (0 ≤ cut ∧ (n3 : Int) ≤ cut) := by omega
    clear hcu hE3 hn3 ho3
    rcases hcc with hc | ⟨hc, hc'⟩
    all_goals
      go_wp2_with fail
      go_ret
      exact ⟨rfl, HK3.out⟩
  obtain ⟨hc0, hc1⟩ := hcu
  obtain ⟨j, rfl⟩ : ∃ j : Nat, cut = j := ⟨cut.toNat, by omega⟩
  obtain ⟨own, must, may, l1, l2, hk, rfl⟩ := encode_inv hE3
  have hjn : j < n3 := by omega
  have hdc := decode_cut hk (k := j) (by rw [← hn3]; exact hjn)
  have hdm := fun h => decode_more hk (more := more) h
  have hd0 := decode_of hk
  have hlt := bytesOf_lt (layP ((id, 8) :: (bytesN ((id, 8) :: (0, 10) :: (l1 ++ l2)), 10) :: (l1 ++ l2)))
  obtain ⟨z, hz, hz0, hb, h1023, hused, hle, hN⟩ := enc_bits hk
  have hlt' : ∀ x ∈ encB id l1 l2, x < 256 := hlt
  generalize encB id l1 l2 = b at *
  have h1023' : (n3 : Int) ≤ 1023 := by omega
  have hcm : c3 ≤ maxLen := by
    rcases ho3.form with ⟨_, _, h, _⟩ | ⟨_, _, _, _, _, _, h, _⟩
    · unfold maxLen; omega
    · exact h
  have Hn3 := Lib.hid hn3
  have Hb8 := Lib.hid hlt'
  have Ho3 := Lib.hid ho3
  have Hcm := Lib.hid (And.intro ho3.cap_le hcm)
  have Hdc := Lib.hid hdc
  have Hdm := Lib.hid hdm
  have Hd0 := Lib.hid hd0
  have Hj := Lib.hid (Nat.le_of_lt hjn)
  have hsz1 : Hid (∀ w, (sizeOf 5).run Tryd.prog w = .ok 1 w) := fun w => by kernel_rfl
  clear hk hdc hdm hd0 hlt hlt' hb hused hle hN ho3 hE3 hn3 hz hz0 h1023 hcm hjn h100
  go_wp2_with (refine wpList_upto rfl (.tmp 49) (.tmp 50) _ rfl Tryd.underlying28 hsz1.out A3 n3 c3 j (by go_simp) (j : Int) (by go_simp) rfl Hj.out Hcm.out.1 ?_; intro A5 c5 HS5)
  have hr5 := HS5.out.1 _ _ _ Ho3.out.rd
  rw [Nat.mul_one, ← List.map_take] at hr5
  have hcall := mdecode_any w3.heap.size (b.take j) A5 j c5 w3 hr5 (by rw [List.length_take]; have := Hn3.out; have := Hj.out; omega) (fun x hx => Hb8.out x (List.mem_of_mem_take hx)) HS5.out.2.1 (Nat.le_trans HS5.out.2.2.1 Hcm.out.2) (by omega) (HWi.out.keep HK3.out (fun h => h)) (HWi.out.keep HK3.out (fun h => h)).lt (Nat.le_refl _)
  refine hcall.mono ?_
  clear hcall hr5 HS5
  rintro e w4 ⟨i4, t4, a4, o4, A4, n4, c4, A6, k6, d6, x4, rfl, hk4, hpo⟩
  have hx4 : (x4 = 10 ∨ x4 = 8) ∧ i4 = 0 ∧ t4 = 0 ∧ a4 = 0 ∧ o4 = 0 ∧ A4 = none ∧ n4 = 0 ∧ c4 = 0 ∧ A6 = none ∧ k6 = 0 ∧ d6 = 0 := by
    rcases hpo with ⟨V', P', h, _⟩ | ⟨h, _, h2⟩
    · rcases Hdc.out with h' | h' <;> (rw [h'] at h; cases h)
    · refine ⟨?_, h2⟩
      rcases Hdc.out with h' | h'
      · rw [h'] at h; injection h with h; exact .inl h.symm
      · rw [h'] at h; injection h with h; exact .inr h.symm
  obtain ⟨hx4, rfl, rfl, rfl, rfl, rfl, rfl, rfl, rfl, rfl, rfl⟩ := hx4
  have HK4 := Lib.hid ((HK3.out.trans hk4).alloc (.cells #[.int .i64 0, .int .i64 0, .int .i64 0, .int .i64 0, .slice none 0 0, .slice none 0 0] 25))
  have hk34 := hk4.alloc (.cells #[.int .i64 0, .int .i64 0, .int .i64 0, .int .i64 0, .slice none 0 0, .slice none 0 0] 25)
  have Ho4 := Lib.hid (Ho3.out.keep hk34 (fun _ _ h => h))
  clear hpo hk4 hk34
  unfold msgCells
  have hsw : (w4.alloc (.cells #[.int .i64 0, .int .i64 0, .int .i64 0, .int .i64 0, .slice none 0 0, .slice none 0 0] 25)).heap.size = w4.heap.size + 1 := by simp
  have Hsw := Lib.hid hsw
  clear hsw
  go_wp2_with (first
    | (refine wpList_app _ rfl _ (.tmp 55) _ rfl elemU8 (w4.heap.size + 1) (A := none) (n := 0) (c := 0) (xs := []) (by go_simp) (Own.nil _ _ _ _) (w4.heap.size + 1) (A' := A3) (m := n3) (c' := c3) (by go_simp) (Hsw.out ▸ Ho4.out.rd) (one_u8 b) (by omega) (by unfold maxLen; omega) (by rw [Hsw.out]; exact Nat.le_refl _) ?_; intro A7 c7 w7 hown7 hk7 hrow7; have K7 := Lib.hid (HK4.out.trans (keep_none6 hk7)); have hown7' : Own w7 (w4.heap.size + 1) 5 1 A7 n3 c7 (b.map u8v) := (by simpa using hown7); have O7 := Lib.hid hown7'; have hs47 : Hid (w4.heap.size + 1 ≤ w7.heap.size) := Lib.hid (by have := hk7.size; rwa [Hsw.out] at this); have hr1 : Hid (Rd w7 W.heap.size 1 A1 n1 (more.map u8v)) := Lib.hid (H1.out.1.keep K7.out (fun _ h => h.elim)); clear hown7 hown7' hk7 hrow7)
    | (refine wpList_app _ rfl (.tmp 57) (.tmp 58) _ rfl elemU8 (w4.heap.size + 1) (A := A7) (n := n3) (c := c7) (by go_simp) O7.out W.heap.size (A' := A1) (m := n1) (c' := c1) (by go_simp) hr1.out (one_u8 more) (by omega) (by unfold maxLen; omega) hs47.out ?_; intro A8 c8 w8 hown8 hk8 hrow8))
  have hk48 : Keep Never W w8 := K7.out.then_ hk8 (fun i hi e => by have h1 := (O7.out.row e).1; have h2 := HK4.out.size; rw [Hsw.out] at h2; omega)
  have K8 := Lib.hid hk48
  have hcm8 : c8 ≤ maxLen := by
    rcases hown8.form with ⟨_, _, h, _⟩ | ⟨_, _, _, _, _, _, h, _⟩
    · unfold maxLen; omega
    · exact h
  have hrd8 : Rd w8 w8.heap.size 1 A8 (n3 + n1) ((b ++ more).map u8v) := by rw [List.map_append]; exact hown8.rd
  have hcall := mdecode_any w8.heap.size (b ++ more) A8 (n3 + n1) c8 w8 hrd8 (by rw [List.length_append, H1.out.2.1, Hn3.out]) (fun x hx => by rcases List.mem_append.1 hx with hx | hx; exact Hb8.out x hx; exact H1.out.2.2 x hx) hown8.cap_le hcm8 (by omega) (HWi.out.keep hk48 (fun h => h)) (HWi.out.keep hk48 (fun h => h)).lt (Nat.le_refl _)
  have Hcall := Lib.hid hcall
  clear hcall hrd8 hcm8 hown8 hk8 hrow8 hk48
  go_wp2_with fail
  refine Hcall.out.mono ?_
  rintro e w9 ⟨i9, t9, a9, o9, A9, n9, c9, A10, k9, d9, x9, rfl, hk9, hpo⟩
  have HK9 := Lib.hid ((K8.out.trans hk9).alloc (.cells #[.int .i64 i9, .int .i64 t9, .int .i64 a9, .int .i64 o9, .slice A9 n9 c9, .slice A10 k9 d9] 25))
  have hx9 : (x9 == 8) = decide ((0 : Int) < (n1 : Int)) := by
    by_cases h0 : n1 = 0
    · have : more = [] := List.eq_nil_of_length_eq_zero (by rw [H1.out.2.1]; exact h0)
      subst this
      rw [List.append_nil] at hpo
      rcases hpo with ⟨V', P', h, rfl, _⟩ | ⟨h, _⟩
      · rw [h0]; rfl
      · rw [Hd0.out] at h; cases h
    · have hne : more ≠ [] := fun h => h0 (by rw [← H1.out.2.1, h]; rfl)
      rcases hpo with ⟨V', P', h, _⟩ | ⟨h, _⟩
      · rw [Hdm.out hne] at h; cases h
      · rw [Hdm.out hne] at h
        injection h with h
        subst h
        rw [decide_eq_true (show (0 : Int) < (n1 : Int) by omega)]
        rfl
  have HX9 := Lib.hid hx9
  clear hpo hk9 hx9 Hcall
  unfold msgCells
  rcases hx4 with rfl | rfl
  all_goals
    by_cases h0 : n1 = 0
    · have x9f : (x9 == 8) = false := by rw [HX9.out, h0]; rfl
      have hz : ¬ (0 : Int) < (n1 : Int) := by omega
      have hz' : decide ((0 : Int) < (n1 : Int)) = false := by simp [h0]
      have hzn : decide (0 < n1) = false := by simp [h0]
      clear h0
      go_wp2_with fail
      go_ret
      exact ⟨by first | rfl | (simp only [hzn]; rfl) | (simp [hzn]), HK9.out⟩
    · have hz : (0 : Int) < (n1 : Int) := by omega
      have hz' : decide ((0 : Int) < (n1 : Int)) = true := by simpa using hz
      have x9f : (x9 == 8) = true := by rw [HX9.out]; exact hz'
      have hzn : decide (0 < n1) = true := by simp; omega
      clear h0
      go_wp2_with fail
      go_ret
      exact ⟨by first | rfl | (simp only [hzn]; rfl) | (simp [hzn]), HK9.out⟩

end Go.Proofs.YtiebjnibmomcjaaDoor
