/- Walks of package bits: Writer. -/
import Derived.Test.YtiebjnibmomcjaaDoorBitsG
import Derived.Deep.DeepCutAuto
import Derived.StillTailTactics
namespace Go.Proofs.YtiebjnibmomcjaaDoor
open Go.RowKit

/-- block p is a Writer that holds bs; A: its bytes' array -/
def WrAt (w : World) (B p : Nat) (A : Option Addr) (bs : List Bool) : Prop :=
  ∃ c, Blk w p 90 #[.slice A (bytesOf bs).length c, .int .i64 bs.length] ∧ Own w B 5 1 A (bytesOf bs).length c ((bytesOf bs).map u8v) ∧ bs.length ≤ 8184 ∧ B ≤ p

theorem wr_mk {w : World} {B p c : Nat} {A : Option Addr} {L : List Nat} {bs : List Bool} {m : Int} {n : Nat} (hb : Blk w p 90 #[.slice A n c, .int .i64 m]) (ho : Own w B 5 1 A n c (L.map u8v))
    (hL : bytesOf bs = L) (hn : L.length = n) (hm : (bs.length : Int) = m) (hl : bs.length ≤ 8184) (hp : B ≤ p) : WrAt w B p A bs := by
  subst hL; subst hm; subst hn
  exact ⟨c, hb, ho, hl, hp⟩

set_option maxHeartbeats 400000 in
theorem wput_bad (p : Option Addr) (x width : Int) (hx : x ≤ 9223372036854775807) (hm : mayB x width = false) (w : World) :
    Calls Tryd.prog 58 #[.pointer p, .int .i64 x, .int .i64 width] w fun e w' => e = .returned (.int .i64 1) ∧ w = w' := by
  by_cases h1 : width < 1
  · go_enter Tryd.func58, Tryd.ntmps58
    go_wp2
    go_ret
    exact ⟨rfl, rfl⟩
  by_cases h2 : 32 < width
  · go_enter Tryd.func58, Tryd.ntmps58
    go_wp2
    go_ret
    exact ⟨rfl, rfl⟩
  by_cases h3 : x < 0
  · go_enter Tryd.func58, Tryd.ntmps58
    go_wp2
    go_ret
    exact ⟨rfl, rfl⟩
  obtain ⟨k, rfl⟩ : ∃ k : Nat, width = k := ⟨width.toNat, by omega⟩
  obtain ⟨xn, rfl⟩ : ∃ k : Nat, x = k := ⟨x.toNat, by omega⟩
  have h4 : ((xn : Int) / 2 ^ k != 0) = true := by
    have h5 : ¬ (xn : Int) < ((2 ^ k : Nat) : Int) := fun h => by
      have := mayB_iff.2 ⟨show 1 ≤ (k : Int) by omega, by omega, show 0 ≤ (xn : Int) by omega, by simpa using h⟩
      rw [hm] at this; cases this
    exact shift_big (by omega)
  go_enter Tryd.func58, Tryd.ntmps58
  go_wp2
  go_ret
  exact ⟨rfl, rfl⟩

set_option maxHeartbeats 400000 in
theorem wput_nil (x width : Int) (hx : x ≤ 9223372036854775807) (hm : mayB x width = true) (w : World) :
    Calls Tryd.prog 58 #[.pointer none, .int .i64 x, .int .i64 width] w fun e w' => e = .returned (.int .i64 2) ∧ w = w' := by
  obtain ⟨h1, h2, h3, h4⟩ := mayB_iff.1 hm
  obtain ⟨k, rfl⟩ : ∃ k : Nat, width = k := ⟨width.toNat, by omega⟩
  obtain ⟨xn, rfl⟩ : ∃ k : Nat, x = k := ⟨x.toNat, by omega⟩
  have h5 : ((xn : Int) / 2 ^ k != 0) = false := shift_small (by rw [Int.toNat_natCast] at h4; omega)
  clear h4
  go_enter Tryd.func58, Tryd.ntmps58
  go_wp2
  go_ret
  exact ⟨rfl, rfl⟩

/-- what Put may turn: the Writer's own block, and its row -/
def WrS (p : Nat) (A : Option Addr) (k : Nat) : Prop := k = p ∨ InRow A k

set_option maxHeartbeats 1000000 in
set_option maxRecDepth 100000 in
theorem wput_ok (B p : Nat) (A : Option Addr) (bs : List Bool) (k xn : Nat) (hk1 : 1 ≤ k) (hk : k ≤ 32) (hx : xn < 2 ^ k) (hx63 : xn ≤ 9223372036854775807) (hf : bs.length + k ≤ 8184) (w : World) (hw : WrAt w B p A bs) (hB : B ≤ w.heap.size) :
    Calls Tryd.prog 58 #[.pointer (some ⟨p, 0, none⟩), .int .i64 xn, .int .i64 k] w fun e w' => ∃ A', e = .returned (.int .i64 0) ∧ WrAt w' B p A' (bs ++ bitsOf xn k) ∧ Keep (WrS p A) w w' ∧ (∀ k, InRow A' k → InRow A k ∨ w.heap.size ≤ k) := by
  obtain ⟨c, hb, ho, hl, hBp⟩ := hw
  have hsh := shift_small hx
  have Ho := Lib.hid ho
  have Hb := Lib.hid hb
  have hc0 : w.cell? ⟨p, 0, none⟩ = some (.slice A (bytesOf bs).length c) := hb.cell 0
  have hc1 : w.cell? ⟨p, 1, none⟩ = some (.int .i64 bs.length) := hb.cell 1
  have HX := Lib.hid hx
  have hpw := hb.lt
  clear hb ho hx
  go_enter Tryd.func58, Tryd.ntmps58
  go_wp2
  clear hc0 hc1 hsh
  go_loopw [7] (fun i wr => ∃ (j : Nat) (A1 : Option Addr), j ≤ k ∧ i = .int .i64 ((j : Int) - 1) ∧ Hid (WrAt wr B p A1 (bs ++ (bitsOf xn k).take (k - j))) ∧ Keep (WrS p A) w wr ∧ Hid (∀ k, InRow A1 k → InRow A k ∨ w.heap.size ≤ k))
    (fun i _ => (intOf i + 1).toNat)
  case atStart => exact ⟨k, A, Nat.le_refl _, rfl, by rw [show k - k = 0 by omega]; simpa using ⟨c, Hb.out, Ho.out, hl, hBp⟩, Keep.refl _ _, fun k hk => .inl hk⟩
  case round =>
    obtain ⟨j, A1, hj, rfl, hw, hkp, hrow⟩ := hrel
    by_cases h0 : 1 ≤ j
    · obtain ⟨i, rfl⟩ : ∃ i, j = i + 1 := ⟨j - 1, by omega⟩
      have htk := bitsOf_take xn k i (by omega)
      have Htk := Lib.hid htk
      clear htk
      generalize hbs : bs ++ (bitsOf xn k).take (k - (i + 1)) = bb at hw
      have hbl : bb.length = bs.length + (k - (i + 1)) := by rw [← hbs, List.length_append, List.length_take, length_bitsOf]; omega
      have Hbs := Lib.hid hbs
      have Hbl := Lib.hid hbl
      have hb8 : bb.length ≤ 8183 := by omega
      clear hbs hbl
      obtain ⟨c1, hb, ho, _, _⟩ := hw.out
      have Ho1 := Lib.hid ho
      have Hb1 := Lib.hid hb
      have hc0 : wr.cell? ⟨p, 0, none⟩ = some (.slice A1 (bytesOf bb).length c1) := hb.cell 0
      have hc1 : wr.cell? ⟨p, 1, none⟩ = some (.int .i64 bb.length) := hb.cell 1
      have hf0 : wr.frozen? ⟨p, 0, none⟩ = false := hb.frozen 0
      have hf1 : wr.frozen? ⟨p, 1, none⟩ = false := hb.frozen 1
      have hws := hkp.size
      clear ho hb
      rw [show (((i + 1 : Nat) : Int) - 1) = (i : Int) by omega]
      go_upto_if 46 with fail
      go_cut [] (fun wx => ∃ (A2 : Option Addr) (c2 : Nat), Hid (Blk wx p 90 #[.slice A2 (padL bb).length c2, .int .i64 bb.length]) ∧ Hid (Own wx B 5 1 A2 (padL bb).length c2 ((padL bb).map u8v)) ∧ Hid (Keep (WrS p A) w wx) ∧ Hid (∀ k, InRow A2 k → InRow A k ∨ w.heap.size ≤ k))
      case first =>
        by_cases h8 : bb.length % 8 = 0
        · have h8i : ((bb.length : Int) % 8 == 0) = true := by rw [beq_iff_eq]; omega
          clear h8
          go_wp2_with (at_builtin; refine wpList_app _ rfl (.tmp 51) (.tmp 52) _ rfl elemU B rfl (Ho1.out.alloc _) _ rfl (Rd.of_blk (n := 1) (cs := [.int .u8 0]) (Blk.new _ _ _) rfl) (by simp [Value.oneCell']) (by rw [length_bytesOf]; omega) (by rw [length_bytesOf]; unfold maxLen; omega) (by simp; omega) ?_; intro A4 c4 w4 hown4 hk4 hrow4; have hb4 := (Hb1.out.alloc _).keep hk4 (fun h => Ho1.out.ne_blk Hb1.out (by decide) _ h rfl); have hc4 : w4.cell? ⟨p, 0, none⟩ = _ := hb4.cell 0; have hf4 := hb4.frozen 0; have Hb4 := Lib.hid hb4; have Ho4 := Lib.hid hown4; clear hb4 hown4)
          go_meet
          have e1 : padL bb = bytesOf bb ++ [0] := by rw [padL, if_pos (by simp only [beq_iff_eq] at h8i; omega)]
          refine ⟨A4, c4, ?_, ?_, ?_, ?_⟩
          · have := Hb4.out.set_ 0 (.slice A4 ((bytesOf bb).length + 1) c4)
            rw [e1, List.length_append, List.length_singleton]; exact this
          · have := Ho4.out.far (p := ⟨p, 0, none⟩) (fun k hk => Ho4.out.ne_blk Hb4.out (by decide) k hk) (.slice A4 ((bytesOf bb).length + 1) c4)
            rw [e1, List.length_append, List.length_singleton, List.map_append]; exact this
          · exact ((hkp.alloc _).then_ hk4 (fun q hq hr => by rcases hrow.out q hr with h | h; exact .inr h; omega)).set_ (.inl (.inl rfl)) _
          · intro q hq
            rcases hrow4.out q hq with h | h
            · exact hrow.out q h
            · right; rw [h]; simp; omega
        · have h8i : ((bb.length : Int) % 8 == 0) = false := by rw [beq_eq_false_iff_ne]; omega
          go_wp2
          go_meet
          have e1 : padL bb = bytesOf bb := by rw [padL, if_neg h8]
          exact ⟨A1, c1, by rw [e1]; exact Hb1.out, by rw [e1]; exact Ho1.out, hkp, hrow.out⟩
      case rest =>
        obtain ⟨A2, c2, hb2, ho2, hk2, hrow2⟩ := hcut
        have hc0 : wc.cell? ⟨p, 0, none⟩ = some (.slice A2 (padL bb).length c2) := hb2.out.cell 0
        have hc1 : wc.cell? ⟨p, 1, none⟩ = some (.int .i64 bb.length) := hb2.out.cell 1
        have hf1 : wc.frozen? ⟨p, 1, none⟩ = false := hb2.out.frozen 1
        have hq : bb.length / 8 < (padL bb).length := by rw [length_padL]; omega
        obtain ⟨ad, x, rfl, _, hx, hcell⟩ := ho2.out.rd.at1 hq
        have hxe : x = chunk bb (8 * (bb.length / 8)) 8 := by rw [padL_get bb (by omega)] at hx; exact (Option.some.inj hx).symm
        subst hxe
        simp only [u8v] at hcell
        have hfr : wc.frozen? (ad.add (bb.length / 8)) = false := ho2.out.frozen rfl _
        have hch := chunk_le bb (8 * (bb.length / 8)) (Nat.le_refl 8)
        have htb := test_bit xn i hx63
        have Htb := Lib.hid htb
        clear hx
        cases hbit : bitOf xn i
        · rw [hbit] at htb
          have Hbit := Lib.hid hbit
          clear hbit
          go_wp2
          go_roundw
          case rel =>
            have hbk := hb2.out.set_ 1 (.int .i64 ((bb.length : Int) + 1))
            have hok := ho2.out.far (p := ⟨p, 1, none⟩) (fun z hz => ho2.out.ne_blk hb2.out (by decide) z hz) (.int .i64 ((bb.length : Int) + 1))
            refine ⟨i, some ad, by omega, rfl, ?_, hk2.out.set_ (.inl (.inl rfl)) _, hrow2⟩
            rw [Htk.out, ← List.append_assoc, Hbs.out, Hbit.out]
            exact wr_mk hbk hok (bytesOf_snoc_false bb) rfl (by simp) (by simp; omega) hBp
          case measure => simp [intOf]; try omega
        · rw [hbit] at htb
          have Hbit := Lib.hid hbit
          clear hbit
          go_wp2
          obtain ⟨q, hqe⟩ : ∃ q, q = bb.length / 8 := ⟨_, rfl⟩
          obtain ⟨r, hre⟩ : ∃ r, r = bb.length % 8 := ⟨_, rfl⟩
          rw [← hqe] at hcell hfr hch hq
          have g1 : IntKind.i64.wrap ((bb.length : Int) / 8) = (q : Int) := by rw [IntWalk.i64_in _ ⟨by omega, by omega⟩]; omega
          have g2 : (bb.length : Int).tmod 8 = (r : Int) := by rw [Int.tmod_eq_emod_of_nonneg (by omega)]; omega
          have g3 : (bb.length : Int) % 8 = (r : Int) := by omega
          have g4 : (0 : Int) ≤ (r : Int) := by omega
          have g5 : (q : Int) < ((padL bb).length : Int) := by omega
          have Hq := Lib.hid hqe
          have Hr := Lib.hid hre
          clear hqe hre
          have hsb := fun v => ho2.out.stored_blk (ad := ad) rfl q v hb2.out (by decide)
          have hs1 : ∀ v, (wc.setCell (ad.add q) v).cell? ⟨p, 1, none⟩ = some (.int .i64 bb.length) := fun v => (hsb v).cell 1
          have hs2 : ∀ v, (wc.setCell (ad.add q) v).frozen? ⟨p, 1, none⟩ = false := fun v => (hsb v).frozen 1
          have Hsb := Lib.hid hsb
          clear hsb
          go_still_tail 19, (by kernel_rfl)
          change wpList _ _ _ _ _ wc.drew
          go_wp2
          go_roundw
          case rel =>
            have hv : bits BinOp.or IntKind.u8 ((chunk bb (8 * q) 8 : Nat) : Int) ((128 : Int) / 2 ^ r) = ((chunk bb (8 * q) 8 + 2 ^ (7 - r) : Nat) : Int) := by
              have e0 := Hr.out
              have e1 := Hq.out
              rw [shr128 (by omega), u8_or_nat _ _ (by omega) (Nat.lt_of_lt_of_le (Nat.pow_lt_pow_right (by omega) (show 7 - r < 8 by omega)) (by decide)), e0, e1, chunk_or]
            rw [hv]
            have hbk := (Hsb.out (.int .u8 ((chunk bb (8 * q) 8 + 2 ^ (7 - r) : Nat) : Int))).set_ 1 (.int .i64 ((bb.length : Int) + 1))
            have hok := (ho2.out.stored rfl q (.int .u8 ((chunk bb (8 * q) 8 + 2 ^ (7 - r) : Nat) : Int))).far (p := ⟨p, 1, none⟩) (fun z hz => ho2.out.ne_blk hb2.out (by decide) z hz) (.int .i64 ((bb.length : Int) + 1))
            refine ⟨i, some ad, by omega, rfl, ?_, ((hk2.out.then_ (ho2.out.stored_keep rfl q _) (fun z hz hr => by rcases hrow2.out z hr with h | h; exact .inr h; omega)).set_ (.inl (.inl rfl)) _).drew, hrow2⟩
            rw [Htk.out, ← List.append_assoc, Hbs.out, Hbit.out]
            refine wr_mk (L := (padL bb).set q (chunk bb (8 * q) 8 + 2 ^ (7 - r))) hbk.drew ?_ ?_ (by simp) (by simp) (by simp; omega) hBp
            · rw [List.map_set]; exact hok.drew
            · rw [bytesOf_snoc, ← Hq.out, ← Hr.out]; simp
          case measure => simp [intOf]; try omega
    · obtain rfl : j = 0 := by omega
      go_wp2
      go_ret
      refine ⟨A1, rfl, ?_, hkp, hrow.out⟩
      have e1 : (bitsOf xn k).take (k - 0) = bitsOf xn k := List.take_of_length_le (by rw [length_bitsOf]; omega)
      have := hw.out
      rwa [e1] at this


set_option maxHeartbeats 400000 in
theorem wput_full (B p : Nat) (A : Option Addr) (bs : List Bool) (k xn : Nat) (hk1 : 1 ≤ k) (hk : k ≤ 32) (hx : xn < 2 ^ k) (hx63 : xn ≤ 9223372036854775807) (hf : 8184 < bs.length + k) (w : World) (hw : WrAt w B p A bs) :
    Calls Tryd.prog 58 #[.pointer (some ⟨p, 0, none⟩), .int .i64 xn, .int .i64 k] w fun e w' => e = .returned (.int .i64 2) ∧ w = w' := by
  obtain ⟨c, hb, ho, hl, hBp⟩ := hw
  have hsh := shift_small hx
  have hc1 : w.cell? ⟨p, 1, none⟩ = some (.int .i64 bs.length) := hb.cell 1
  clear hb ho hx
  go_enter Tryd.func58, Tryd.ntmps58
  go_wp2
  go_ret
  exact ⟨rfl, rfl⟩

/-- what Put leaves -/
def WPut (w : World) (B p : Nat) (A : Option Addr) (bs : List Bool) (x width : Int) (e : Ending) (w' : World) : Prop :=
  ∃ A', e = .returned (.int .i64 (putE bs.length x width)) ∧ WrAt w' B p A' (putL bs x width) ∧ Keep (WrS p A) w w' ∧ (∀ k, InRow A' k → InRow A k ∨ w.heap.size ≤ k)

theorem wput_any (B p : Nat) (A : Option Addr) (bs : List Bool) (x width : Int) (hx : x ≤ 9223372036854775807) (w : World) (hw : WrAt w B p A bs) (hB : B ≤ w.heap.size) :
    Calls Tryd.prog 58 #[.pointer (some ⟨p, 0, none⟩), .int .i64 x, .int .i64 width] w (WPut w B p A bs x width) := by
  by_cases hm : mayB x width = false
  · refine (wput_bad (some ⟨p, 0, none⟩) x width hx hm w).mono ?_
    rintro e w' ⟨rfl, rfl⟩
    have he : putE bs.length x width = 1 := by simp [putE, hm]
    exact ⟨A, by rw [he], by rw [putL, he]; exact hw, Keep.refl _ _, fun k hk => .inl hk⟩
  · have hm : mayB x width = true := by simpa using hm
    obtain ⟨h1, h2, h3, h4⟩ := mayB_iff.1 hm
    obtain ⟨k, rfl⟩ : ∃ k : Nat, width = k := ⟨width.toNat, by omega⟩
    obtain ⟨xn, rfl⟩ : ∃ k : Nat, x = k := ⟨x.toNat, by omega⟩
    rw [Int.toNat_natCast] at h4
    by_cases hf : 8184 < bs.length + k
    · refine (wput_full B p A bs k xn (by omega) (by omega) (by omega) (by omega) hf w hw).mono ?_
      rintro e w' ⟨rfl, rfl⟩
      have he : putE bs.length xn k = 2 := by rw [putE, if_neg (by simp [hm]), if_pos (by omega)]
      exact ⟨A, by rw [he], by rw [putL, he]; exact hw, Keep.refl _ _, fun k hk => .inl hk⟩
    · refine (wput_ok B p A bs k xn (by omega) (by omega) (by omega) (by omega) (by omega) w hw hB).mono ?_
      rintro e w' ⟨A', rfl, h5, h6, h7⟩
      have he : putE bs.length xn k = 0 := by rw [putE, if_neg (by simp [hm]), if_neg (by omega)]
      exact ⟨A', by rw [he], by rw [putL, if_pos he]; exact h5, h6, h7⟩

theorem mk_u8 (n : Nat) (hn : n ≤ 140737488355328) : ∀ w : World, (Instr.makeSlice 28 (.int .i64 n) (.int .i64 n)).run Tryd.prog w = .ok (.slice (some ⟨w.heap.size, 0, none⟩) n n) (w.alloc (.cells (zerosU8 n) 5)) := by
  intro w
  obtain ⟨i, z, hi, hz, hsize, hby, hzs, hsz⟩ := elemU.hi
  have hz0 : z = .int .u8 0 := by
    have h1 : (Tryd.prog.info? 5).map (·.zero) = some (some (.int .u8 0)) := by kernel_rfl
    rw [hi] at h1
    simp only [Option.map_some, Option.some.injEq] at h1
    rw [hz] at h1
    exact Option.some.inj h1
  subst hz0
  have hr := run_make (P := Tryd.prog) w 28 5 i _ elemU.ht hi hz .i64 .i64 n n (by omega) (Int.le_refl _) (by rw [hby]; omega) (by omega)
  simp only [Int.toNat_natCast, hsize, Nat.mul_one] at hr
  exact hr

/-- what Bytes leaves: new memory -/
def WBytes (w : World) (l : List Nat) (e : Ending) (w' : World) : Prop :=
  ∃ A' c', e = .returned (.slice A' l.length c') ∧ Own w' w.heap.size 5 1 A' l.length c' (l.map u8v) ∧ Keep Never w w'

theorem ones_u8 (l : List Nat) : ∀ u ∈ l.map u8v, u.oneCell' = true := by
  intro u hu
  obtain ⟨x, _, rfl⟩ := List.mem_map.1 hu
  rfl

/-- a block that holds xs whole is a row of the call's own -/
theorem Own.of_blk {w : World} {g e n B : Nat} {xs : List Value} (h : Blk w g e xs.toArray) (hl : xs.length = n) (hm : n ≤ maxLen) (hB : B ≤ g) : Own w B e 1 (some ⟨g, 0, none⟩) n n xs :=
  ⟨by omega, .inr ⟨g, n, xs.toArray, rfl, hB, h, Nat.le_refl _, hm, by simp [hl], by rw [List.take_of_length_le (by simp; omega)]⟩⟩

set_option maxHeartbeats 400000 in
theorem wbytes_nil (w : World) :
    Calls Tryd.prog 59 #[.pointer none] w fun e w' => e = .returned (.slice none 0 0) ∧ w = w' := by
  go_enter Tryd.func59, Tryd.ntmps59
  go_wp2
  go_ret
  exact ⟨rfl, rfl⟩

set_option maxHeartbeats 400000 in
theorem wbytes_any (B p : Nat) (A : Option Addr) (bs : List Bool) (w : World) (hw : WrAt w B p A bs) :
    Calls Tryd.prog 59 #[.pointer (some ⟨p, 0, none⟩)] w (WBytes w (bytesOf bs)) := by
  obtain ⟨c, hb, ho, hl, hBp⟩ := hw
  have hn : (bytesOf bs).length ≤ 140737488355328 := by rw [length_bytesOf]; omega
  have hmk := mk_u8 (bytesOf bs).length hn
  have hpl := hb.lt
  have hc0 : w.cell? ⟨p, 0, none⟩ = some (.slice A (bytesOf bs).length c) := hb.cell 0
  have Hb := Lib.hid hb
  have Ho := Lib.hid ho
  have h1s := Lib.hid (ones_u8 (bytesOf bs))
  have hsz := Lib.hid (size_zerosU8 (bytesOf bs).length)
  have Hn := Lib.hid hn
  clear hb ho hn
  go_enter Tryd.func59, Tryd.ntmps59
  go_wp2_with (with_reducible refine wpList_cpy rfl (.tmp 12) (.tmp 16) _ rfl elemU rfl (Blk.new _ _ _) hsz.out rfl w.heap.size (Ho.out.rd.alloc _) h1s.out ?_; intro w2 hb2 hk2)
  go_ret
  exact ⟨_, _, rfl, Own.of_blk hb2.out (by simp) (by have := Hn.out; unfold maxLen; omega) (Nat.le_refl _), ((Keep.refl _ _).alloc _).then_ hk2 (fun i hi e => by omega)⟩

end Go.Proofs.YtiebjnibmomcjaaDoor
