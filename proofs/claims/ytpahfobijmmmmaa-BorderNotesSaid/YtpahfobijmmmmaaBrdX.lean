/- Chapter 20 (border), the document: Laid. -/
import Derived.Test.YtpahfobijmmmmaaBdBrdA
import Derived.Test.YtpahfobijmmmmaaBitsG
import Derived.Deep.DeepCutAuto
namespace Go.Proofs.Ytpahfobijmmmmaa
open Go.RowKit

set_option maxRecDepth 100000 in
theorem elemBits20 : Elem Try.prog 60 59 2 16 := ⟨Try.underlying60, _, _, rfl, rfl, rfl, rfl, rfl, by omega⟩
/-- the cells of numbers and widths -/
def bitC20 (l : List (Int × Int)) : List Value := l.flatMap fun x => [.int .i64 x.1, .int .i64 x.2]
theorem Own.of_blk20 {w : World} {g e n B size : Nat} {xs : List Value} (h : Blk w g e xs.toArray) (hl : xs.length = n * size) (hm : n ≤ maxLen) (hB : B ≤ g) : Own w B e size (some ⟨g, 0, none⟩) n n xs :=
  ⟨hl, .inr ⟨g, n, xs.toArray, rfl, hB, h, Nat.le_refl _, hm, by simp [hl], by rw [List.take_of_length_le (by simp [hl])]⟩⟩
theorem bitC20_at : ∀ (l : List (Int × Int)) {i : Nat} {x : Int × Int}, l[i]? = some x → (bitC20 l)[i * 2]? = some (.int .i64 x.1) ∧ (bitC20 l)[i * 2 + 1]? = some (.int .i64 x.2) := by
  intro l
  induction l with
  | nil => intro i x h; simp at h
  | cons y l ih =>
    intro i x h
    have e : bitC20 (y :: l) = .int .i64 y.1 :: .int .i64 y.2 :: bitC20 l := rfl
    rw [e]
    cases i with
    | zero => simp only [List.getElem?_cons_zero, Option.some.injEq] at h; subst h; exact ⟨rfl, rfl⟩
    | succ i =>
      simp only [List.getElem?_cons_succ] at h
      rw [show (i + 1) * 2 = i * 2 + 1 + 1 by omega, List.getElem?_cons_succ, List.getElem?_cons_succ, List.getElem?_cons_succ, List.getElem?_cons_succ]
      exact ih h
theorem layW20_take {l : List (Int × Int)} {k : Nat} {x : Int × Int} (h : l[k]? = some x) : layW (l.take (k + 1)) = layW (l.take k) ++ bitsOf x.1.toNat x.2.toNat := by
  obtain ⟨h2, h3⟩ := List.getElem?_eq_some_iff.1 h
  rw [List.take_succ_eq_append_getElem h2, h3]
  simp [layW]
theorem layW20_le {l : List (Int × Int)} (hw : ∀ y ∈ l, 0 ≤ y.2 ∧ y.2 ≤ 32) : (layW l).length ≤ 32 * l.length := by
  induction l with
  | nil => simp [layW]
  | cons y l ih =>
    have h1 := hw y (by simp)
    have h2 := ih (fun z hz => hw z (by simp [hz]))
    simp only [layW, List.flatMap_cons, List.length_append, length_bitsOf, List.length_cons] at h2 ⊢
    omega
theorem layW20_take_len {l : List (Int × Int)} (hw : ∀ y ∈ l, 0 ≤ y.2 ∧ y.2 ≤ 32) (k : Nat) : (layW (l.take k)).length ≤ 32 * l.length := by
  have h1 := layW20_le (l := l.take k) (fun y hy => hw y (List.mem_of_mem_take hy))
  have h2 : (l.take k).length ≤ l.length := by simp; omega
  omega

/-- what Laid leaves -/
def LRet20 (w : World) (l : List (Int × Int)) (e : Ending) (w' : World) : Prop :=
  ∃ A' n' c', e = .returned (.slice A' n' c') ∧ n' = (layW l).length ∧ Own w' w.heap.size 4 1 A' n' c' ((layW l).map .bool) ∧ Keep Never w w'

set_option maxHeartbeats 2000000 in
theorem laid20_any (l : List (Int × Int)) (hw : ∀ y ∈ l, 0 ≤ y.2 ∧ y.2 ≤ 32) (hN : ∀ y ∈ l, 0 ≤ y.1 ∧ y.1 ≤ 9223372036854775807) (A : Option Addr) (n c B : Nat) (w : World) (hn : l.length = n) (h5 : n ≤ 10000) (hr : Rd w B 2 A n (bitC20 l)) (hB : B ≤ w.heap.size) :
    Calls Try.prog 23 #[.slice A n c] w (LRet20 w l) := by
  have Hw := Lib.hid hw
  have HN := Lib.hid hN
  have Hn := Lib.hid hn
  have hRd := Lib.hid hr
  clear hw hN hn hr
  go_enter Try.func23, Try.ntmps23
  go_wp2_with fail
  go_loopw [3, 4, 5] (fun v i _ wr => ∃ (q m c3 : Nat) (A3 : Option Addr), q ≤ n ∧ i = .int .i64 q ∧ v = .slice A3 m c3 ∧ Hid (m = (layW (l.take q)).length ∧ Own wr w.heap.size 4 1 A3 m c3 ((layW (l.take q)).map .bool) ∧ Keep Never w wr))
    (fun _ i _ _ => n - (intOf i).toNat)
  case atStart => exact ⟨0, 0, 0, none, by omega, rfl, rfl, ⟨rfl, by simpa [layW] using Own.nil _ _ _ _, Keep.refl _ _⟩⟩
  case round =>
    obtain ⟨q, m, c3, A3, hq, rfl, rfl, HH⟩ := hrel
    by_cases h0 : q < n
    · have hx : l[q]? = some (l[q]'(by have := Hn.out; omega)) := List.getElem?_eq_getElem _
      have hy2 := Hw.out _ (List.mem_of_getElem? hx)
      have hy1 := HN.out _ (List.mem_of_getElem? hx)
      generalize l[q]'(by have := Hn.out; omega) = y at hx hy2 hy1
      obtain ⟨y1, y2⟩ := y
      simp only at hy2 hy1
      obtain ⟨xn, rfl⟩ : ∃ xn : Nat, y1 = xn := ⟨y1.toNat, by omega⟩
      obtain ⟨wd, rfl⟩ : ∃ wd : Nat, y2 = wd := ⟨y2.toNat, by omega⟩
      obtain ⟨hat1, hat2⟩ := bitC20_at _ hx
      have hcc := hRd.out.2 (by omega)
      obtain ⟨ad, hA, hadB, hcc⟩ := hcc
      subst hA
      have d0 : wr.cell? (ad.add (q * 2)) = some (.int .i64 xn) := (HH.out.2.2.cell (cell_lt (hcc _ _ hat1)) (fun h => h)).trans (hcc _ _ hat1)
      have d1 : wr.cell? (ad.add (q * 2 + 1)) = some (.int .i64 wd) := (HH.out.2.2.cell (cell_lt (hcc _ _ hat2)) (fun h => h)).trans (hcc _ _ hat2)
      rw [fld _ _ (by omega)] at d1
      have HD0 : Hid (w.cell? (ad.add (q * 2)) = some (.int .i64 xn)) := hcc _ _ hat1
      have HX := Lib.hid hx
      have hwd : wd ≤ 32 := by omega
      have hxn : xn ≤ 9223372036854775807 := by omega
      have HadB : Hid (ad.block < B) := hadB
      have hle := layW20_take_len Hw.out (q + 1)
      have hle2 : (layW (l.take (q + 1))).length ≤ 320000 := by have := Hn.out; omega
      rw [layW20_take hx, List.length_append] at hle2
      simp only [Int.toNat_natCast, length_bitsOf] at hle2
      have Hle2 := Lib.hid hle2
      clear hx hat1 hat2 hcc hy1 hy2 hle hle2
      go_wp2_with fail
      obtain ⟨wo, rfl⟩ : ∃ wo : World, wo = wr := ⟨_, rfl⟩
      go_loopw [3, 5] (fun v i wi => ∃ (j m3 c3 : Nat) (A3 : Option Addr), j ≤ wd ∧ i = .int .i64 ((j : Int) - 1) ∧ v = .slice A3 m3 c3 ∧ Hid (m3 = (layW (l.take q)).length + (wd - j) ∧ Own wi w.heap.size 4 1 A3 m3 c3 ((layW (l.take q) ++ (bitsOf xn wd).take (wd - j)).map .bool) ∧ Keep Never w wi))
        (fun _ i _ => (intOf i + 1).toNat)
      case atStart => exact ⟨wd, m, c3, A3, by omega, rfl, rfl, ⟨by have := HH.out.1; omega, by simpa using HH.out.2.1, HH.out.2.2⟩⟩
      case round =>
        obtain ⟨j, m3, c4, A4, hj, rfl, rfl, HJ⟩ := hrel
        by_cases hj0 : 1 ≤ j
        · obtain ⟨i, rfl⟩ : ∃ i, j = i + 1 := ⟨j - 1, by omega⟩
          have hp1 := pow_pos' i
          have hb := bit_int xn i
          have htk := bitsOf_take xn wd i (by omega)
          have Hb := Lib.hid hb
          have Htk := Lib.hid htk
          have hcell : wr.cell? (ad.add (q * 2)) = some (.int .i64 xn) := (HJ.out.2.2.cell (cell_lt HD0.out) (fun h => h)).trans HD0.out
          have hm3 : m3 ≤ 320000 := by have := HJ.out.1; have := Hle2.out; omega
          generalize hp : ((2 ^ i : Nat) : Int) = p at *
          have HP := Lib.hid hp
          have hq1 : 0 ≤ (xn : Int) / p := Int.ediv_nonneg (by omega) (by omega)
          have hq2 : (xn : Int) / p ≤ 9223372036854775807 := Int.le_trans (Int.ediv_le_self _ (by omega)) (by omega)
          clear hb htk hp
          go_wp2_with fail
          have hs0 := HJ.out.2.2.size
          have hnr : ¬ InRow A4 ad.block := fun e => by have := (HJ.out.2.1.row e).1; have := HadB.out; omega
          have Hnr := Lib.hid hnr
          clear hnr
          have hq0 : ¬ p = 0 := by omega
          have hq3 := wrap_tdiv (x := (xn : Int)) (p := p) (by omega) hp1 (by omega)
          have hq4 : ((xn : Int) / p).tmod 2 = (xn : Int) / p % 2 := Int.tmod_eq_emod_of_nonneg hq1
          have hq6 : IntKind.i64.wrap ((xn : Int) / p) = (xn : Int) / p := IntWalk.i64_in _ ⟨by omega, by omega⟩
          go_region_held3 (fun w' => w'.cell? (ad.add (q * 2)) = some (.int .i64 xn)) (first | go_keep | (rw [hk5.cell (by simp [block_add]; omega) (by rw [block_add]; exact Hnr.out)]; go_keep))
            (first
              | (go_at_call 48; refine (power_any' i (by omega) p HP.out _).mono ?_; rintro e w' ⟨rfl, rfl⟩)
              | (refine step_app _ rfl (.tmp 22) (.tmp 33) _ rfl elemB w.heap.size rfl (HJ.out.2.1.alloc _) _ rfl (Rd.of_blk (n := 1) (cs := [.bool _]) (Blk.new _ _ _) rfl) (by simp [Value.oneCell']) (by omega) (by unfold maxLen; omega) (by simp; omega) ?_; intro A5 c5 w5 hown5 hk5 hrow5))
          go_wp2_with fail
          have hr5 := Lib.hid hrow5
          go_roundw
          case rel =>
            refine ⟨i, m3 + 1, c5, A5, by omega, rfl, rfl, by have := HJ.out.1; omega, ?_, ?_⟩
            · rw [Htk.out]
              simpa [Hb.out] using hown5
            · exact (HJ.out.2.2.drew.alloc _).then_ hk5 (fun z hz hr => by have := (HJ.out.2.1.row hr).1; omega)
          case measure => simp [intOf]; try omega
        · obtain rfl : j = 0 := by omega
          have e1 : (bitsOf xn wd).take (wd - 0) = bitsOf xn wd := List.take_of_length_le (by rw [length_bitsOf]; omega)
          have HE : Hid (layW (l.take (q + 1)) = layW (l.take q) ++ bitsOf xn wd) := by show _ = _; have := layW20_take HX.out; simpa using this
          have HE1 := Lib.hid e1
          clear e1
          go_wp2_with fail
          go_roundw
          case rel =>
            obtain ⟨g1, g2, g3⟩ := HJ.out
            rw [HE1.out] at g2
            refine ⟨q + 1, m3, c4, A4, by omega, by go_num, rfl, by rw [HE.out, List.length_append, length_bitsOf]; omega, by rw [HE.out]; exact g2, g3⟩
          case measure => simp [intOf]; try omega
    · obtain rfl : q = n := by omega
      go_wp2_with fail
      go_ret
      obtain ⟨e1, o1, k1⟩ := HH.out
      rw [List.take_of_length_le (by rw [Hn.out]; exact Nat.le_refl _)] at e1 o1
      exact ⟨A3, m, c3, rfl, e1, o1, k1⟩

end Go.Proofs.Ytpahfobijmmmmaa
