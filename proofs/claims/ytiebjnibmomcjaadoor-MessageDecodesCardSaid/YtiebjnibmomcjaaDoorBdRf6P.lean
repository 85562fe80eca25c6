/- Chapter 6, the document's, plainly: words of rows, numbers as texts. No program. -/
import Derived.Test.YtiebjnibmomcjaaDoorRefA
import Derived.Test.YtiebjnibmomcjaaDoorMsgP
import Derived.Test.YtiebjnibmomcjaaDoorRf6A
import Derived.Deep.RegionHeld3
import Derived.BigQuiet
import Derived.Test.YtiebjnibmomcjaaDoorMsgE
namespace Go.Proofs.YtiebjnibmomcjaaDoor
open Go.RowKit

/-- a number from 0 to 99 as a text -/
def digL (n : Nat) : List Nat := if 9 < n then [48 + n / 10, 48 + n % 10] else [48 + n]
def digB (n : Nat) : ByteArray := strOf (digL n)
theorem digB_inj : ∀ a < 100, ∀ b < 100, digB a = digB b → a = b := by decide +kernel
/-- is a number one of a text's words? -/
def amongM (id : Int) (s : ByteArray) : Bool := decide (0 ≤ id ∧ id < 100) && (wordsL s.data.toList).any (fun x => decide (x = digB id.toNat))
def wREP : ByteArray := ⟨#[82, 69, 80, 79, 82, 84]⟩
def w15 : ByteArray := ⟨#[49, 53]⟩
def chkRow (id : Int) : Bool := match formM id with
  | some f => decide (wordsL (rowS id).1.data.toList = f.1.map (fun v => vName v.toNat)) && f.1.all (fun v => decide (0 ≤ v ∧ v < 96)) &&
      decide (wordsL (rowS id).2.2.data.toList = f.2.2.map (fun v => digB v.toNat)) && f.2.2.all (fun v => decide (0 ≤ v ∧ v < 100)) &&
      (decide (f.2.1 = 0 ∧ (rowS id).2.1 = wREP) || decide (f.2.1 = -1 ∧ (rowS id).2.1 = ⟨#[]⟩) || decide (f.2.1 = 15 ∧ (rowS id).2.1 = w15)) &&
      decide ((rowS id).1.data.toList.length ≤ 1000 ∧ (rowS id).2.1.data.toList.length ≤ 1000 ∧ (rowS id).2.2.data.toList.length ≤ 1000)
  | none => true
theorem chkRow_all : mids.all chkRow = true := by decide +kernel
theorem row_of {id must : Int} {own may : List Int} (h : formM id = some (own, must, may)) :
    wordsL (rowS id).1.data.toList = own.map (fun v => vName v.toNat) ∧ (∀ v ∈ own, 0 ≤ v ∧ v < 96) ∧ (∀ x, amongM x (rowS id).2.2 = decide (x ∈ may)) ∧
      ((must = 0 ∧ (rowS id).2.1 = wREP) ∨ (must = -1 ∧ (rowS id).2.1 = ⟨#[]⟩) ∨ (must = 15 ∧ (rowS id).2.1 = w15)) ∧
      (rowS id).1.data.toList.length ≤ 1000 ∧ (rowS id).2.1.data.toList.length ≤ 1000 ∧ (rowS id).2.2.data.toList.length ≤ 1000 := by
  have hc := List.all_eq_true.1 chkRow_all id (formM_id h)
  unfold chkRow at hc
  rw [h] at hc
  simp only [Bool.and_eq_true, Bool.or_eq_true, decide_eq_true_eq, List.all_eq_true] at hc
  obtain ⟨⟨⟨⟨⟨c1, c2⟩, c3⟩, c4⟩, c5⟩, c6⟩ := hc
  refine ⟨c1, c2, fun x => ?_, ?_, c6⟩
  · unfold amongM
    rw [c3]
    by_cases hx : 0 ≤ x ∧ x < 100
    · rw [decide_eq_true hx, Bool.true_and, Bool.eq_iff_iff, List.any_eq_true, decide_eq_true_eq]
      constructor
      · rintro ⟨y, h', he'⟩
        obtain ⟨v, hv, he⟩ := List.mem_map.1 h'
        have hv' := c4 v hv
        have := digB_inj v.toNat (by omega) x.toNat (by omega) (he.trans (of_decide_eq_true he'))
        have e : v = x := by omega
        rw [← e]; exact hv
      · intro h'; exact ⟨_, List.mem_map.2 ⟨x, h', rfl⟩, decide_eq_true rfl⟩
    · rw [decide_eq_false hx, Bool.false_and]
      symm
      rw [decide_eq_false_iff_not]
      intro h'
      exact hx (c4 x h')
  · rcases c5 with (h | h) | h
    · exact .inl h
    · exact .inr (.inl h)
    · exact .inr (.inr h)
theorem among_15 (x : Int) : amongM x w15 = decide (x = 15) := by
  unfold amongM
  have hw : wordsL w15.data.toList = [digB 15] := by decide +kernel
  rw [hw]
  by_cases hx : 0 ≤ x ∧ x < 100
  · rw [decide_eq_true hx, Bool.true_and, List.any_cons, List.any_nil, Bool.or_false, decide_eq_decide]
    constructor
    · intro h
      have := digB_inj 15 (by omega) x.toNat (by omega) h
      omega
    · rintro rfl; rfl
  · rw [decide_eq_false hx, Bool.false_and]
    symm
    rw [decide_eq_false_iff_not]
    rintro rfl
    exact hx (by decide)

end Go.Proofs.YtiebjnibmomcjaaDoor

namespace Go.Proofs.YtiebjnibmomcjaaDoor
open Go.RowKit

theorem held1_next {W0 w w' : World} {a : Addr} {u : Value} (h : Keep Never W0 w ∧ w.cell? a = some u) (hk : Keep Never w w') : Keep Never W0 w' ∧ w'.cell? a = some u :=
  ⟨h.1.trans hk, (hk.cell (cell_lt h.2) (fun h => h)).trans h.2⟩
/-- words are no more than the text's bytes, and one -/
theorem wF_len : ∀ (s c : List UInt8), (wF s c).length ≤ s.length + 1
  | [], c => by unfold wF; split <;> simp
  | b :: l, c => by
    unfold wF
    split
    · split
      · have := wF_len l []; simp; omega
      · have := wF_len l []; simp; omega
    · have := wF_len l (c ++ [b]); simp; omega
set_option maxHeartbeats 1000000 in
set_option maxRecDepth 100000 in
theorem digits6_any (id : Int) (h0 : 0 ≤ id) (h1 : id < 100) (w : World) : Calls Tryd.prog 81 #[.int .i64 id] w fun e w' => e = .returned (.string (digB id.toNat)) ∧ Keep Never w w' := by
  obtain ⟨n, rfl⟩ : ∃ n : Nat, id = n := ⟨id.toNat, by omega⟩
  rw [Int.toNat_natCast]
  have hs1 : ∀ (l : List Nat), (∀ x ∈ l, x < 256) → ∀ c, Hid ((convert 28 9 (.slice (some ⟨w.heap.size, 0, none⟩) l.length c)).run Tryd.prog (w.alloc (.cells (l.map u8v).toArray 5)) = .ok (.string (strOf l)) (w.alloc (.cells (l.map u8v).toArray 5))) := fun l h8 c =>
    Lib.hid (run_str (P := Tryd.prog) (src := 28) (dst := 9) Tryd.underlying28 Tryd.underlying5 Tryd.underlying9 (Rd.of_blk (n := l.length) (cs := l.map u8v) (Blk.new w 5 _) (by simp)) h8 c)
  by_cases h9 : 9 < n
  · have hd : digB n = strOf [48 + n / 10, 48 + n % 10] := by unfold digB digL; rw [if_pos h9]
    rw [hd]
    have hr := (hs1 [48 + n / 10, 48 + n % 10] (by intro x hx; simp at hx; omega) 2).out
    have h9' : (9 : Int) < (n : Int) := by omega
    clear hd hs1 h9
    obtain ⟨q, hq⟩ : ∃ q : Nat, n / 10 = q := ⟨_, rfl⟩
    obtain ⟨r, hr'⟩ : ∃ r : Nat, n % 10 = r := ⟨_, rfl⟩
    rw [hq, hr'] at hr
    have hq' : (n : Int) / 10 = (q : Int) := by omega
    have hm' : (n : Int) % 10 = (r : Int) := by omega
    have hq9 : q ≤ 9 := by omega
    have hr9 : r ≤ 9 := by omega
    have hqq : n / 10 = q := hq
    have hrr : n % 10 = r := hr'
    clear hq hr'
    have hr2 : (convert 28 9 (.slice (some ⟨w.heap.size, 0, none⟩) 2 2)).run Tryd.prog (w.alloc (.cells #[.int .u8 (48 + (q : Int)), .int .u8 (48 + (r : Int))] 5)) = .ok (.string (strOf [48 + q, 48 + r])) (w.alloc (.cells #[.int .u8 (48 + (q : Int)), .int .u8 (48 + (r : Int))] 5)) := by simpa [u8v] using hr
    clear hr
    rw [hqq, hrr]
    generalize strOf [48 + q, 48 + r] = st at *
    clear hqq hrr
    go_enter Tryd.func81, Tryd.ntmps81
    go_wp2_with fail
    go_ret
    exact ⟨rfl, (Keep.refl Never w).alloc _⟩
  · have hd : digB n = strOf [48 + n] := by unfold digB digL; rw [if_neg h9]
    rw [hd]
    have hr := (hs1 [48 + n] (by intro x hx; simp at hx; omega) 1).out
    have h9' : ¬ (9 : Int) < (n : Int) := by omega
    have hr2 : (convert 28 9 (.slice (some ⟨w.heap.size, 0, none⟩) 1 1)).run Tryd.prog (w.alloc (.cells #[.int .u8 (48 + (n : Int))] 5)) = .ok (.string (strOf [48 + n])) (w.alloc (.cells #[.int .u8 (48 + (n : Int))] 5)) := by simpa [u8v] using hr
    clear hr hd hs1 h9
    generalize strOf [48 + n] = st at *
    go_enter Tryd.func81, Tryd.ntmps81
    go_wp2_with fail
    go_ret
    exact ⟨rfl, (Keep.refl Never w).alloc _⟩

set_option maxHeartbeats 4000000 in
set_option maxRecDepth 100000 in
theorem among6_any (id : Int) (s : ByteArray) (hs : s.data.toList.length ≤ 90000) (w : World) : Calls Tryd.prog 67 #[.int .i64 id, .string s] w fun e w' => e = .returned (.bool (amongM id s)) ∧ Keep Never w w' := by
  have HW : Hid (∀ W, Calls Tryd.prog 60 #[.string s] W (WWords W (wordsL s.data.toList))) := Lib.hid (fun W => words_any s (by omega) W)
  have HLen : Hid ((wordsL s.data.toList).length ≤ 100000) := Lib.hid (by have := wF_len s.data.toList []; unfold wordsL; omega)
  have hAM : amongM id s = (decide (0 ≤ id ∧ id < 100) && (wordsL s.data.toList).any (fun x => decide (x = digB id.toNat))) := rfl
  rw [hAM]
  clear hAM hs
  generalize wordsL s.data.toList = l at *
  by_cases hid : 0 ≤ id ∧ id < 100
  · obtain ⟨i0, i1⟩ := hid
    have hD : Hid (∀ W, Calls Tryd.prog 81 #[.int .i64 id] W fun e w' => e = .returned (.string (digB id.toNat)) ∧ Keep Never W w') := Lib.hid (fun W => digits6_any id i0 i1 W)
    rw [decide_eq_true (show 0 ≤ id ∧ id < 100 from ⟨i0, i1⟩), Bool.true_and]
    generalize digB id.toNat = dg at *
    have d0 : decide (0 ≤ id) = true := by simpa using i0
    have d1 : decide (id < 100) = true := by simpa using i1
    go_enter Tryd.func67, Tryd.ntmps67
    go_wp2_with fail
    refine (HW.out _).mono ?_
    rintro e w1 ⟨A, n, c, rfl, hn, ho, hk1⟩
    have HN := Lib.hid hn
    have HO := Lib.hid ho.rd
    have HK1 := Lib.hid hk1
    have hn5 : n ≤ 100000 := by have := HLen.out; omega
    clear hn ho hk1
    go_wp2_with fail
    go_loopw [6] (fun i wr => ∃ j : Nat, j ≤ n ∧ i = .int .i64 j ∧ Hid (Keep Never w1 wr ∧ (l.drop j).any (fun x => decide (x = dg)) = l.any (fun x => decide (x = dg)))) (fun i _ => n - (intOf i).toNat)
    case atStart => exact ⟨0, by omega, rfl, Lib.hid ⟨Keep.refl _ _, rfl⟩⟩
    case round =>
      obtain ⟨j, hj, rfl, HJ⟩ := hrel
      by_cases hjn : j < n
      · have hji : (j : Int) < (n : Int) := by omega
        obtain ⟨ad, x, hA, _, hx, hcx⟩ := (HO.out.keep HJ.out.1 (fun q h => h.elim)).at1 hjn
        subst hA
        obtain ⟨e1, e2⟩ := List.getElem?_eq_some_iff.1 hx
        have hany := HJ.out.2
        rw [List.drop_eq_getElem_cons e1, e2, List.any_cons] at hany
        by_cases hxd : x = dg
        · have hx1 : (x.toList == dg.toList) = true := by rw [bytes_beq]; simpa using hxd
          have HR : Hid (l.any (fun x => decide (x = dg)) = true) := Lib.hid (by rw [← hany, decide_eq_true hxd]; rfl)
          clear hany e1 e2 hx hxd
          go_wp2_with fail
          go_region_held3 (fun w' => Keep Never wr w' ∧ w'.cell? (ad.add j) = some (.string x))
            (first | assumption | exact ⟨(Keep.refl Never wr).drew, hcx⟩ | exact held1_next (by assumption) hk')
            (first | (go_at_call 81; refine (hD.out _).mono ?_; rintro e w' ⟨rfl, hk'⟩))
          rename_i hS
          have HKe := Lib.hid (HJ.out.1.trans (And.left hS))
          clear hS hcx
          go_wp2_with fail
          go_ret
          exact ⟨by rw [HR.out]; rfl, HK1.out.trans HKe.out⟩
        · have hx1 : (x.toList == dg.toList) = false := by rw [bytes_beq]; simpa using hxd
          have HR : Hid ((l.drop (j + 1)).any (fun x => decide (x = dg)) = l.any (fun x => decide (x = dg))) := Lib.hid (by rw [← hany, decide_eq_false hxd]; rfl)
          clear hany e1 e2 hx hxd
          go_wp2_with fail
          go_region_held3 (fun w' => Keep Never wr w' ∧ w'.cell? (ad.add j) = some (.string x))
            (first | assumption | exact ⟨(Keep.refl Never wr).drew, hcx⟩ | exact held1_next (by assumption) hk')
            (first | (go_at_call 81; refine (hD.out _).mono ?_; rintro e w' ⟨rfl, hk'⟩))
          rename_i hS
          have HKe := Lib.hid (HJ.out.1.trans (And.left hS))
          clear hS hcx
          go_wp2_with fail
          go_roundw
          case rel => exact ⟨j + 1, by omega, by go_num, Lib.hid ⟨HKe.out, HR.out⟩⟩
          case measure => simp [intOf]; try omega
      · obtain rfl : j = n := by omega
        have hji : ¬ (j : Int) < (j : Int) := by omega
        have HR : Hid (l.any (fun x => decide (x = dg)) = false) := Lib.hid (by rw [← HJ.out.2, List.drop_eq_nil_of_le (by have := HN.out; omega)]; rfl)
        go_wp2_with fail
        go_ret
        exact ⟨by rw [HR.out]; rfl, HK1.out.trans HJ.out.1⟩
  · have hF : (decide (0 ≤ id ∧ id < 100) && l.any (fun x => decide (x = digB id.toNat))) = false := by rw [decide_eq_false hid]; rfl
    rw [hF]
    have hcase : (decide (0 ≤ id) = false) ∨ (decide (0 ≤ id) = true ∧ decide (id < 100) = false) := by
      by_cases h0 : 0 ≤ id
      · right
        have h1 : ¬ id < 100 := fun h => hid ⟨h0, h⟩
        exact ⟨by simpa using h0, by simpa using h1⟩
      · left; simpa using h0
    clear hF hid
    rcases hcase with d0 | ⟨d0, d1⟩
    all_goals
      go_enter Tryd.func67, Tryd.ntmps67
      go_wp2_with fail
      refine (HW.out _).mono ?_
      rintro e w1 ⟨A, n, c, rfl, hn, ho, hk1⟩
      have HN := Lib.hid hn
      have HO := Lib.hid ho.rd
      have HK1 := Lib.hid hk1
      have hn5 : n ≤ 100000 := by have := HLen.out; omega
      clear hn ho hk1
      go_wp2_with fail
      go_loopw [6] (fun i wr => ∃ j : Nat, j ≤ n ∧ i = .int .i64 j ∧ Hid (Keep Never w1 wr)) (fun i _ => n - (intOf i).toNat)
      case atStart => exact ⟨0, by omega, rfl, Lib.hid (Keep.refl _ _)⟩
      case round =>
        obtain ⟨j, hj, rfl, HJ⟩ := hrel
        by_cases hjn : j < n
        · have hji : (j : Int) < (n : Int) := by omega
          go_wp2_with fail
          go_quiet (fail)
          go_wp2_with fail
          go_roundw
          case rel => exact ⟨j + 1, by omega, by go_num, Lib.hid (HJ.out.drewN _)⟩
          case measure => simp [intOf]; try omega
        · obtain rfl : j = n := by omega
          have hji : ¬ (j : Int) < (j : Int) := by omega
          go_wp2_with fail
          go_ret
          exact ⟨rfl, HK1.out.trans HJ.out⟩

end Go.Proofs.YtiebjnibmomcjaaDoor

namespace Go.Proofs.YtiebjnibmomcjaaDoor
open Go.RowKit

theorem name2 : vName 2 = ⟨#[84, 95, 84, 82, 65, 73, 78]⟩ := by decide +kernel
theorem name3 : vName 3 = ⟨#[77, 95, 65, 67, 75]⟩ := by decide +kernel
theorem name4 : vName 4 = ⟨#[78, 73, 68, 95, 76, 82, 66, 71]⟩ := by decide +kernel
theorem name9 : vName 9 = ⟨#[78, 73, 68, 95, 69, 78, 71, 73, 78, 69]⟩ := by decide +kernel
theorem one_ints (l : List Int) : ∀ u ∈ l.map (Value.int .i64), u.oneCell' = true := by
  intro u hu
  obtain ⟨b, _, rfl⟩ := List.mem_map.1 hu
  rfl
/-- the names of variables -/
def namesS (l : List Int) : List ByteArray := l.map fun v => vName v.toNat
theorem one_strs (l : List ByteArray) : ∀ u ∈ l.map Value.string, u.oneCell' = true := by
  intro u hu
  obtain ⟨b, _, rfl⟩ := List.mem_map.1 hu
  rfl

set_option maxHeartbeats 4000000 in
set_option maxRecDepth 100000 in
theorem names6_any (id : Int) (s1 s2 s3 : ByteArray) (own : List Int) (hw : wordsL s1.data.toList = namesS own) (hl : own.length ≤ 5) (hs : s1.data.toList.length ≤ 1000) (w : World) :
    Calls Tryd.prog 32 #[.int .i64 id, .agg #[.string s1, .string s2, .string s3]] w (WWords w (namesS (headM id ++ own))) := by
  have HU : Hid (∀ W, Calls Tryd.prog 17 #[.int .i64 id] W fun e w' => e = .returned (.bool (upM id)) ∧ Keep Never W w') := Lib.hid (fun W => rup6_any id W)
  have HW : Hid (∀ W, Calls Tryd.prog 60 #[.string s1] W (WWords W (namesS own))) := Lib.hid (fun W => by have := words_any s1 (by omega) W; rwa [hw] at this)
  have hb0 : Hid (Blk (w.alloc (.cells #[.string s1, .string s2, .string s3] 58)) w.heap.size 58 #[.string s1, .string s2, .string s3]) := Blk.new w _ _
  have hk0 : Hid (Keep Never w (w.alloc (.cells #[.string s1, .string s2, .string s3] 58))) := (Keep.refl Never w).alloc _
  have HL : Hid ((namesS own).length ≤ 5) := Lib.hid (by unfold namesS; simpa using hl)
  clear hw hs
  cases hu : upM id with
  | true =>
    have hH : namesS (headM id ++ own) = [vName 2, vName 9] ++ namesS own := by unfold namesS headM; rw [hu]; rfl
    rw [hu] at HU
    rw [hH, name2, name9]
    clear hH hu
    generalize namesS own = ns at *
    go_enter Tryd.func32, Tryd.ntmps32
    go_wp2_with fail
    refine (HU.out _).mono ?_
    rintro e w1 ⟨rfl, hk1⟩
    have HK1 := Lib.hid (hk0.out.trans hk1)
    have HB1 := Lib.hid (hb0.out.keep hk1 (fun h => h))
    clear hk1
    have hx : ∀ o, (w1.alloc o).cell? ⟨w.heap.size, 0, none⟩ = some (.string s1) := fun o => (HB1.out.alloc o).cell 0
    have hx2 : ∀ o o', ((w1.alloc o).alloc o').cell? ⟨w.heap.size, 0, none⟩ = some (.string s1) := fun o o' => ((HB1.out.alloc o).alloc o').cell 0
    go_wp2_with fail
    refine (HW.out _).mono ?_
    rintro e w2 ⟨A2, n2, c2, rfl, hn2, ho2, hk2⟩
    have hO : Own w2 w.heap.size 9 1 (some ⟨w1.heap.size + 1, 0, none⟩) 2 2 [.string ⟨#[84, 95, 84, 82, 65, 73, 78]⟩, .string ⟨#[78, 73, 68, 95, 69, 78, 71, 73, 78, 69]⟩] := by
      have h := Own.lit (w1.alloc (.cells #[.string ⟨#[84, 95, 84, 82, 65, 73, 78]⟩, .string ⟨#[77, 95, 65, 67, 75]⟩, .string ⟨#[78, 73, 68, 95, 76, 82, 66, 71]⟩] 9)) 9 #[.string ⟨#[84, 95, 84, 82, 65, 73, 78]⟩, .string ⟨#[78, 73, 68, 95, 69, 78, 71, 73, 78, 69]⟩] 2 1 (by unfold maxLen; omega) rfl
      have h2 := (h.keep ((Keep.refl Never ((w1.alloc (.cells #[.string ⟨#[84, 95, 84, 82, 65, 73, 78]⟩, .string ⟨#[77, 95, 65, 67, 75]⟩, .string ⟨#[78, 73, 68, 95, 76, 82, 66, 71]⟩] 9)).alloc (.cells #[.string ⟨#[84, 95, 84, 82, 65, 73, 78]⟩, .string ⟨#[78, 73, 68, 95, 69, 78, 71, 73, 78, 69]⟩] 9)))) (fun _ _ h => h)).keep hk2 (fun _ _ h => h)
      have hs := HK1.out.size
      have h3 := h2.less (b := w.heap.size) (by first | omega | (simp; omega))
      simpa using h3
    have HO := Lib.hid hO
    have HN := Lib.hid hn2
    have HR := Lib.hid ho2.rd
    have HK2 := Lib.hid (((HK1.out.alloc (.cells #[.string ⟨#[84, 95, 84, 82, 65, 73, 78]⟩, .string ⟨#[77, 95, 65, 67, 75]⟩, .string ⟨#[78, 73, 68, 95, 76, 82, 66, 71]⟩] 9)).alloc (.cells #[.string ⟨#[84, 95, 84, 82, 65, 73, 78]⟩, .string ⟨#[78, 73, 68, 95, 69, 78, 71, 73, 78, 69]⟩] 9)).trans hk2)
    have hn5 : n2 ≤ 5 := by have := HL.out; omega
    have hsz : Hid (w.heap.size ≤ w2.heap.size) := Lib.hid HK2.out.size
    clear hO hn2 ho2 hk2
    go_wp2_with (refine wpList_app _ rfl (.tmp 12) (.tmp 15) _ rfl elemStr w.heap.size (A := some ⟨w1.heap.size + 1, 0, none⟩) (n := 2) (c := 2) (by go_simp) HO.out w2.heap.size (A' := A2) (m := n2) (c' := c2) (by go_simp) HR.out (one_strs _) (by omega) (by unfold maxLen; omega) hsz.out ?_; intro A5 c5 w5 hown5 hk5 hrow5)
    go_ret
    refine ⟨A5, 2 + n2, c5, rfl, by have := HN.out; simp; omega, by simpa using hown5, HK2.out.then_ hk5 (fun i hi e => by have := (HO.out.row e).1; omega)⟩
  | false =>
    have hH : namesS (headM id ++ own) = [vName 2, vName 3, vName 4] ++ namesS own := by unfold namesS headM; rw [hu]; rfl
    rw [hu] at HU
    rw [hH, name2, name3, name4]
    clear hH hu
    generalize namesS own = ns at *
    go_enter Tryd.func32, Tryd.ntmps32
    go_wp2_with fail
    refine (HU.out _).mono ?_
    rintro e w1 ⟨rfl, hk1⟩
    have HK1 := Lib.hid (hk0.out.trans hk1)
    have HB1 := Lib.hid (hb0.out.keep hk1 (fun h => h))
    clear hk1
    have hx : ∀ o, (w1.alloc o).cell? ⟨w.heap.size, 0, none⟩ = some (.string s1) := fun o => (HB1.out.alloc o).cell 0
    go_wp2_with fail
    refine (HW.out _).mono ?_
    rintro e w2 ⟨A2, n2, c2, rfl, hn2, ho2, hk2⟩
    have hO : Own w2 w.heap.size 9 1 (some ⟨w1.heap.size, 0, none⟩) 3 3 [.string ⟨#[84, 95, 84, 82, 65, 73, 78]⟩, .string ⟨#[77, 95, 65, 67, 75]⟩, .string ⟨#[78, 73, 68, 95, 76, 82, 66, 71]⟩] := by
      have h := Own.lit w1 9 #[.string ⟨#[84, 95, 84, 82, 65, 73, 78]⟩, .string ⟨#[77, 95, 65, 67, 75]⟩, .string ⟨#[78, 73, 68, 95, 76, 82, 66, 71]⟩] 3 1 (by unfold maxLen; omega) rfl
      have h2 := (h.keep ((Keep.refl Never (w1.alloc (.cells #[.string ⟨#[84, 95, 84, 82, 65, 73, 78]⟩, .string ⟨#[77, 95, 65, 67, 75]⟩, .string ⟨#[78, 73, 68, 95, 76, 82, 66, 71]⟩] 9)))) (fun _ _ h => h)).keep hk2 (fun _ _ h => h)
      have hs := HK1.out.size
      have h3 := h2.less (b := w.heap.size) (by first | omega | (simp; omega))
      simpa using h3
    have HO := Lib.hid hO
    have HN := Lib.hid hn2
    have HR := Lib.hid ho2.rd
    have HK2 := Lib.hid ((HK1.out.alloc (.cells #[.string ⟨#[84, 95, 84, 82, 65, 73, 78]⟩, .string ⟨#[77, 95, 65, 67, 75]⟩, .string ⟨#[78, 73, 68, 95, 76, 82, 66, 71]⟩] 9)).trans hk2)
    have hn5 : n2 ≤ 5 := by have := HL.out; omega
    have hsz : Hid (w.heap.size ≤ w2.heap.size) := Lib.hid HK2.out.size
    clear hO hn2 ho2 hk2
    go_wp2_with (refine wpList_app _ rfl (.tmp 12) (.tmp 15) _ rfl elemStr w.heap.size (A := some ⟨w1.heap.size, 0, none⟩) (n := 3) (c := 3) (by go_simp) HO.out w2.heap.size (A' := A2) (m := n2) (c' := c2) (by go_simp) HR.out (one_strs _) (by omega) (by unfold maxLen; omega) hsz.out ?_; intro A5 c5 w5 hown5 hk5 hrow5)
    go_ret
    refine ⟨A5, 3 + n2, c5, rfl, by have := HN.out; simp; omega, by simpa using hown5, HK2.out.then_ hk5 (fun i hi e => by have := (HO.out.row e).1; omega)⟩

set_option maxHeartbeats 4000000 in
set_option maxRecDepth 100000 in
theorem values6_any (B : Nat) (id t ack of_ : Int) (A : Option Addr) (n c : Nat) (V : List Int) (A2 : Option Addr) (k d : Nat) (w : World) (hV : Rd w B 1 A n (V.map (.int .i64))) (hn : V.length = n) (hn5 : n ≤ 10000) :
    Calls Tryd.prog 33 #[.agg (msgCells id t ack of_ A n c A2 k d)] w fun e w' => ∃ A' m c', e = .returned (.slice A' m c') ∧ m = (valuesM id t ack of_ ++ V).length ∧ Own w' w.heap.size 3 1 A' m c' ((valuesM id t ack of_ ++ V).map (.int .i64)) ∧ Keep Never w w' := by
  have HU : Hid (∀ W, Calls Tryd.prog 17 #[.int .i64 id] W fun e w' => e = .returned (.bool (upM id)) ∧ Keep Never W w') := Lib.hid (fun W => rup6_any id W)
  have HV := Lib.hid (And.intro hV hn)
  have hb0 : Hid (Blk (w.alloc (.cells #[.int .i64 id, .int .i64 t, .int .i64 ack, .int .i64 of_, .slice A n c, .slice A2 k d] 25)) w.heap.size 25 #[.int .i64 id, .int .i64 t, .int .i64 ack, .int .i64 of_, .slice A n c, .slice A2 k d]) := Blk.new w 25 _
  have hk0 : Hid (Keep Never w (w.alloc (.cells #[.int .i64 id, .int .i64 t, .int .i64 ack, .int .i64 of_, .slice A n c, .slice A2 k d] 25))) := (Keep.refl Never w).alloc _
  clear hV hn
  unfold valuesM msgCells
  generalize upM id = b at *
  cases b
  · go_enter Tryd.func33, Tryd.ntmps33
    go_wp2_with fail
    refine (HU.out _).mono ?_
    rintro e w1 ⟨rfl, hk⟩
    have HK1 := Lib.hid (hk0.out.trans hk)
    have hb1 := hb0.out.keep hk (fun h => h)
    have q1 := hb1.cell 1
    have q2 := hb1.cell 2
    have q3 := hb1.cell 3
    have hx : ∀ o, (w1.alloc o).cell? ⟨w.heap.size, 1, none⟩ = some (.int .i64 t) := fun o => (hb1.alloc o).cell 1
    have hx3 : ∀ o, (w1.alloc o).cell? ⟨w.heap.size, 3, none⟩ = some (.int .i64 of_) := fun o => (hb1.alloc o).cell 3
    have hx4 : ∀ o, (w1.alloc o).cell? ⟨w.heap.size, 4, none⟩ = some (.slice A n c) := fun o => (hb1.alloc o).cell 4
    have hx5 : ∀ o o', ((w1.alloc o).alloc o').cell? ⟨w.heap.size, 4, none⟩ = some (.slice A n c) := fun o o' => ((hb1.alloc o).alloc o').cell 4
    have hO : Own (w1.alloc (.cells #[.int .i64 t, .int .i64 ack, .int .i64 of_] 3)) w.heap.size 3 1 (some ⟨w1.heap.size, 0, none⟩) 3 3 [.int .i64 t, .int .i64 ack, .int .i64 of_] := by
      have h := Own.lit w1 3 #[.int .i64 t, .int .i64 ack, .int .i64 of_] 3 1 (by unfold maxLen; omega) rfl
      have hs := HK1.out.size
      have h3 := h.less (b := w.heap.size) (by first | omega | (simp; omega))
      simpa using h3
    have HO := Lib.hid hO
    have HK2 : Hid (Keep Never w (w1.alloc (.cells #[.int .i64 t, .int .i64 ack, .int .i64 of_] 3))) := Lib.hid (HK1.out.alloc (.cells #[.int .i64 t, .int .i64 ack, .int .i64 of_] 3))
    have HR := Lib.hid (HV.out.1.keep HK2.out (fun _ h => h.elim))
    have hsz : Hid (w.heap.size ≤ (w1.alloc (.cells #[.int .i64 t, .int .i64 ack, .int .i64 of_] 3)).heap.size) := Lib.hid HK2.out.size
    clear hk hb1 hO
    go_wp2_with (refine wpList_app _ rfl (.tmp 21) (.tmp 23) _ rfl elemInt w.heap.size (A := some ⟨w1.heap.size, 0, none⟩) (n := 3) (c := 3) (by go_simp) HO.out B (A' := A) (m := n) (c' := c) (by go_simp) HR.out (one_ints _) (by omega) (by unfold maxLen; omega) hsz.out ?_; intro A5 c5 w5 hown5 hk5 hrow5)
    go_ret
    refine ⟨A5, 3 + n, c5, rfl, by have := HV.out.2; (first | omega | (simp; omega) | (simp only [List.length_append, List.length_cons, List.length_nil]; omega) | (show _ = V.length + _; omega)), by simpa using hown5, HK2.out.then_ hk5 (fun i hi e => by have := (HO.out.row e).1; omega)⟩
  · go_enter Tryd.func33, Tryd.ntmps33
    go_wp2_with fail
    refine (HU.out _).mono ?_
    rintro e w1 ⟨rfl, hk⟩
    have HK1 := Lib.hid (hk0.out.trans hk)
    have hb1 := hb0.out.keep hk (fun h => h)
    have q1 := hb1.cell 1
    have q2 := hb1.cell 2
    have q3 := hb1.cell 3
    have hx : ∀ o, (w1.alloc o).cell? ⟨w.heap.size, 1, none⟩ = some (.int .i64 t) := fun o => (hb1.alloc o).cell 1
    have hx3 : ∀ o, (w1.alloc o).cell? ⟨w.heap.size, 3, none⟩ = some (.int .i64 of_) := fun o => (hb1.alloc o).cell 3
    have hx4 : ∀ o, (w1.alloc o).cell? ⟨w.heap.size, 4, none⟩ = some (.slice A n c) := fun o => (hb1.alloc o).cell 4
    have hx5 : ∀ o o', ((w1.alloc o).alloc o').cell? ⟨w.heap.size, 4, none⟩ = some (.slice A n c) := fun o o' => ((hb1.alloc o).alloc o').cell 4
    have hO : Own ((w1.alloc (.cells #[.int .i64 t, .int .i64 ack, .int .i64 of_] 3)).alloc (.cells #[.int .i64 t, .int .i64 of_] 3)) w.heap.size 3 1 (some ⟨w1.heap.size + 1, 0, none⟩) 2 2 [.int .i64 t, .int .i64 of_] := by
      have h := Own.lit (w1.alloc (.cells #[.int .i64 t, .int .i64 ack, .int .i64 of_] 3)) 3 #[.int .i64 t, .int .i64 of_] 2 1 (by unfold maxLen; omega) rfl
      have hs := HK1.out.size
      have h3 := h.less (b := w.heap.size) (by first | omega | (simp; omega))
      simpa using h3
    have HO := Lib.hid hO
    have HK2 : Hid (Keep Never w ((w1.alloc (.cells #[.int .i64 t, .int .i64 ack, .int .i64 of_] 3)).alloc (.cells #[.int .i64 t, .int .i64 of_] 3))) := Lib.hid ((HK1.out.alloc (.cells #[.int .i64 t, .int .i64 ack, .int .i64 of_] 3)).alloc (.cells #[.int .i64 t, .int .i64 of_] 3))
    have HR := Lib.hid (HV.out.1.keep HK2.out (fun _ h => h.elim))
    have hsz : Hid (w.heap.size ≤ ((w1.alloc (.cells #[.int .i64 t, .int .i64 ack, .int .i64 of_] 3)).alloc (.cells #[.int .i64 t, .int .i64 of_] 3)).heap.size) := Lib.hid HK2.out.size
    clear hk hb1 hO
    go_wp2_with (refine wpList_app _ rfl (.tmp 21) (.tmp 23) _ rfl elemInt w.heap.size (A := some ⟨w1.heap.size + 1, 0, none⟩) (n := 2) (c := 2) (by go_simp) HO.out B (A' := A) (m := n) (c' := c) (by go_simp) HR.out (one_ints _) (by omega) (by unfold maxLen; omega) hsz.out ?_; intro A5 c5 w5 hown5 hk5 hrow5)
    go_ret
    refine ⟨A5, 2 + n, c5, rfl, by have := HV.out.2; (first | omega | (simp; omega) | (simp only [List.length_append, List.length_cons, List.length_nil]; omega) | (show _ = V.length + _; omega)), by simpa using hown5, HK2.out.then_ hk5 (fun i hi e => by have := (HO.out.row e).1; omega)⟩

end Go.Proofs.YtiebjnibmomcjaaDoor
