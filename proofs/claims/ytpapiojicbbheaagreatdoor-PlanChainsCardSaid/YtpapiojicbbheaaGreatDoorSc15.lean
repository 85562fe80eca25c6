/- Texts of this claim, together: Law, TopR, LckB, PmO, VarsK. -/
import Derived.Test.YtpapiojicbbheaaGreatDoorSh00
import Derived.Test.YtpapiojicbbheaaGreatDoorSh01
import Derived.Test.YtpapiojicbbheaaGreatDoorSh02
import Derived.Test.YtpapiojicbbheaaGreatDoorSh03
import Derived.Test.YtpapiojicbbheaaGreatDoorSh04
import Derived.Test.YtpapiojicbbheaaGreatDoorSh05
import Derived.Test.YtpapiojicbbheaaGreatDoorSh06
import Derived.Test.YtpapiojicbbheaaGreatDoorSh07
import Derived.Test.YtpapiojicbbheaaGreatDoorSh08
import Derived.Test.YtpapiojicbbheaaGreatDoorSh09
import Derived.Test.YtpapiojicbbheaaGreatDoorSh10
import Derived.Test.YtpapiojicbbheaaGreatDoorSh11
import Derived.Test.YtpapiojicbbheaaGreatDoorSh12
import Derived.Test.YtpapiojicbbheaaGreatDoorSh13
import Derived.Test.YtpapiojicbbheaaGreatDoorSh14
import Derived.Test.YtpapiojicbbheaaGreatDoorRows
import Derived.WalkKit
import Derived.WalkSpells
import Derived.WalkLawsBesides
import Derived.Lib.Hide
import Derived.Deep.QuietTactic
import Derived.BigQuiet
import Derived.Maps.AppendAt
import Derived.Deep.AppendLies
import Derived.Deep.Draws
import Derived.Laws.CopyOwn
import Derived.ProofKit
import Derived.Deep.Slices
import Derived.Deep.RegionHeld3
import Derived.StillTailTactics
import Derived.IntWalk
import Derived.Maps.RangeWalk
import Derived.DeepKeys4
import Derived.Shelf.SlSortCmp.WholeK
import Derived.Shelf.GgClosure.Gives
import Derived.Lib.SliceRun
import Derived.Lib.AppendZerosOnto
import Derived.RangeFuncNested
import Derived.RangeFuncBound
import Derived.RangeFuncCalls
import Derived.RangeFuncLeaves
import Derived.OwnWalkIn
import Derived.TacticsInMore
import Derived.LoopNIn
import Derived.LoopIn
import Derived.Laws.EntriesVeiled
import Derived.WalkMore
import Derived.Deep.DeepCutAuto
import Derived.Deep.RegionLawGrows
import Derived.Great.Walk
import Derived.Lib.Walk
import Derived.Lib.Bytealg
import Derived.Lib.IndexBytes
import Derived.Lib.CutLaws
import Derived.Recover
import Derived.Deep.RegionLaw
import Derived.Defers
import Derived.Deep.LoopGhost
import Derived.Lib.LaidTab
namespace Go.Proofs.YtpapiojicbbheaaGreatDoor
open Go.RowKit Go.ChangeShapes Go.WideShapes Go.ChangeAt
section
variable {H : Type} {enc : TypeId × Value → H} {P : Program} {W : World} {b : Nat} {q : Reach} {spare : Nat → Bool} {held : Bool} {t : TypeId} {v : Value} {d : DataW H} {p : List MemPlace} {α : Type}
theorem arg_slice {r : Rep α} (ho : Rep.Opens P t r.list) {e : TypeId} (ht : P.underlying t = some (.slice e)) (hv : Value.okWide P W q b t v) (h : DataW.Trod enc P W 0 spare held t v d p) :
  ∃ A n c l, v = .slice A n c ∧ r.Sl W W.heap.size A n c l := by
 obtain ⟨A, n, c, rfl⟩ := okWide_slice ht hv
 obtain ⟨fuel, hf⟩ := h
 obtain ⟨l, A', n', c', hcs, hsl⟩ := ho enc W _ _ _ _ _ hf
 have : Value.slice A n c = .slice A' n' c' := by simpa [Value.cells] using hcs
 injection this with h1 h2 h3
 subst h1; subst h2; subst h3
 exact ⟨A, n, c, l, rfl, hsl⟩
end
end Go.Proofs.YtpapiojicbbheaaGreatDoor

namespace Go.Proofs.YtpapiojicbbheaaGreatDoor
open Go.RowKit
theorem stp_in {W : World} {s : Stp} {cs : Array Value} (h : repStp.cells W W.heap.size s cs.toList) : cs = #[.int .i64 s.1, .bool s.2] ∧ in64 s := by
 obtain ⟨c1, d1, e, ⟨rfl, h1⟩, rfl⟩ := h
 exact ⟨by apply Array.ext'; rw [e]; rfl, h1⟩
end Go.Proofs.YtpapiojicbbheaaGreatDoor

namespace Go.Proofs.YtpapiojicbbheaaGreatDoor
open Go.RowKit
def repLk : Rep Lk := Rep.int.pair (Rep.int.pair Rep.int)
theorem opens_lk : Rep.Opens Tryz.prog 62 repLk :=
 Rep.opens_struct Tryz.underlying62 (by kernel_rfl)
  (Rep.fopens_cons rfl (by kernel_rfl) (Rep.opens_int Tryz.underlying3) (Rep.fopens_cons rfl (by kernel_rfl) (Rep.opens_int Tryz.underlying3) (Rep.fopens_last rfl (by kernel_rfl) (Rep.opens_int Tryz.underlying3))))
theorem opens_lks : Rep.Opens Tryz.prog 28 repLk.list := Rep.opens_list Tryz.underlying28 (by kernel_rfl) (by decide) opens_lk
theorem lks_at {w : World} {B n c : Nat} {A : Option Addr} {l : List Lk} (h : repLk.Sl w B A n c l) : SpAt w B A n c l := by
 obtain ⟨h1, h2, h3, h4, h5, _⟩ := sps_rd (show repSp.Sl w B A n c l from h)
 exact ⟨h1, h5, h3⟩
end Go.Proofs.YtpapiojicbbheaaGreatDoor

namespace Go.Proofs.YtpapiojicbbheaaGreatDoor
open Go.RowKit
theorem run_ne_lk17 (w : World) (a b c d e f : Int) : (binOp .neq 62 (.agg #[.int .i64 a, .int .i64 b, .int .i64 c]) (.agg #[.int .i64 d, .int .i64 e, .int .i64 f])).run Tryz.prog w = .ok (.bool (!sameLk a b c d e f)) w := by
 by_cases h1 : a = d
 ·have t1 : (a == d) = true := by simpa using h1
  by_cases h2 : b = e
  ·have t2 : (b == e) = true := by simpa using h2
   by_cases h3 : c = f
   ·have t3 : (c == f) = true := by simpa using h3
    have hd : sameLk a b c d e f = true := decide_eq_true (by rw [h1, h2, h3])
    rw [hd]
    clear h1 h2 h3 hd
    go_simp
    (try simp [t1, t2, t3])
   ·have t3 : (c == f) = false := by simpa using h3
    have hd : sameLk a b c d e f = false := decide_eq_false (by intro h; injection h with _ h; injection h with _ h; exact h3 h)
    rw [hd]
    clear h1 h2 h3 hd
    go_simp
    (try simp [t1, t2, t3])
  ·have t2 : (b == e) = false := by simpa using h2
   have hd : sameLk a b c d e f = false := decide_eq_false (by intro h; injection h with _ h; injection h with h _; exact h2 h)
   rw [hd]
   clear h1 h2 hd
   go_simp
   (try simp [t1, t2])
 ·have t1 : (a == d) = false := by simpa using h1
  have hd : sameLk a b c d e f = false := decide_eq_false (by intro h; injection h with h _; exact h1 h)
  rw [hd]
  clear h1 hd
  go_simp
  (try simp [t1])
def goneC (t : Tp) (c : List Lk) (k : Nat) : List Stp := (c.take k).flatMap fun x => ((rtM t.2.2.2 x.1).map (·.2.1)).getD []
theorem goneC_next {t : Tp} {c : List Lk} {k : Nat} {x : Lk} {r : Rt} (h : c[k]? = some x) (hr : rtM t.2.2.2 x.1 = some r) : goneC t c (k + 1) = goneC t c k ++ r.2.1 := by
 unfold goneC
 rw [List.take_add_one, h, List.flatMap_append]
 simp [hr]
theorem goneC_len {t : Tp} (hc : checkM t = 0) {c : List Lk} : ∀ k, (goneC t c k).length ≤ 8 * k
 | 0 => by simp [goneC]
 | k + 1 => by
  have ih := goneC_len hc (c := c) k
  cases h : c[k]? with
  | none =>
   have : goneC t c (k + 1) = goneC t c k := by unfold goneC; rw [List.take_of_length_le (by have := List.getElem?_eq_none_iff.1 h; omega), List.take_of_length_le (List.getElem?_eq_none_iff.1 h)]
   rw [this]; omega
  | some x =>
   cases hr : rtM t.2.2.2 x.1 with
   | none =>
    have : goneC t c (k + 1) = goneC t c k := by unfold goneC; rw [List.take_add_one, h, List.flatMap_append]; simp [hr]
    rw [this]; omega
   | some r =>
    rw [goneC_next h hr, List.length_append]
    have := (chain_path hc (List.mem_of_find?_eq_some hr)).2
    omega
structure ChK (t : Tp) (l : List Lk) (train : Int) (s : Stp) (c : List Lk) (k : Nat) (x : Lk) (r : Rt) : Prop where
 rt : rtM t.2.2.2 x.1 = some r
 mem : x ∈ l
 train_ : x.2.1 = train
 fresh : x ∉ c.take k
 ne : r.2.1 ≠ []
 few : r.2.1.length ≤ 8
 first : k = 0 → s ∈ r.2.1
 aft : ∀ m, k = m + 1 → ∃ g h, (goneC t c k).getLast? = some g ∧ r.2.1.head? = some h ∧ h ∈ afterM t g
 dis : ∀ u ∈ goneC t c k, ∀ v ∈ r.2.1, u.1 ≠ v.1
theorem chk_of {t : Tp} {l : List Lk} {train : Int} {s : Stp} {k : Nat} {x : Lk} (hx : (chainM t l train s)[k]? = some x) : checkM t = 0 ∧ ∃ r, ChK t l train s (chainM t l train s) k x r := by
 obtain ⟨gone, hI, h8, hc⟩ := chain_good (t := t) (l := l) (train := train) (s := s)
 have hc0 := hc (by intro e; rw [e] at hx; simp at hx)
 obtain ⟨r, h1, h2, h3, h4, h5, h6⟩ := hI.way k x hx
 obtain ⟨p1, p2⟩ := chain_path hc0 (List.mem_of_find?_eq_some h1)
 refine ⟨hc0, r, h1, h2, h3, h4, p1, p2, fun h => ?_, fun m hm => ?_, ?_⟩
 ·have := h5 h; unfold hasB at this; simpa using this
 ·have h7 := h6 (by omega)
  unfold followsB at h7
  unfold goneC
  cases hg : ((chainM t l train s).take k |>.flatMap fun k => ((rtM t.2.2.2 k.1).map (·.2.1)).getD []).getLast? with
  | none => rw [hg] at h7; cases h7
  | some g =>
   rw [hg] at h7
   cases hh : r.2.1.head? with
   | none => rw [hh] at h7; cases h7
   | some h =>
    rw [hh] at h7
    simp only [Bool.and_eq_true] at h7
    exact ⟨g, h, rfl, rfl, by simpa using h7.1⟩
 ·intro u hu v hv
  by_cases hk : k = 0
  ·subst hk; simp [goneC] at hu
  ·have h7 := h6 (by omega)
   unfold followsB at h7
   unfold goneC at hu
   cases hg : ((chainM t l train s).take k |>.flatMap fun k => ((rtM t.2.2.2 k.1).map (·.2.1)).getD []).getLast? with
   | none => rw [hg] at h7; cases h7
   | some g =>
    rw [hg] at h7
    cases hh : r.2.1.head? with
    | none => rw [hh] at h7; cases h7
    | some h =>
     rw [hh] at h7
     simp only [Bool.and_eq_true, Bool.not_eq_true', List.any_eq_false] at h7
     intro e
     exact h7.2 v hv (over_iff.2 ⟨u, hu, e⟩)
set_option maxHeartbeats 1000000 in
set_option maxRecDepth 100000 in
theorem has17_any (A : Option Addr) (n c B : Nat) (l : List Stp) (s : Stp) (w : World) (hr : Rd w B 2 A n (stpCells l)) (hn : n ≤ 100000000) :
  Calls Tryz.prog 29 #[.slice A n c, .agg #[.int .i64 s.1, .bool s.2]] w fun e w' => e = .returned (.bool (decide (s ∈ l))) ∧ Keep Never w w' := by
 have qe : ∀ (w : World) (x1 : Int) (x2 : Bool) (y1 : Int) (y2 : Bool), (binOp .eql 30 (.agg #[.int .i64 x1, .bool x2]) (.agg #[.int .i64 y1, .bool y2])).run Tryz.prog w = .ok (.bool (sameS x1 x2 y1 y2)) w := run_eq_stp
 obtain ⟨s1, s2⟩ := s
 simp only
 obtain ⟨w1, hw1⟩ : ∃ W : World, w.alloc (.cells #[.int .i64 s1, .bool s2] 30) = W := ⟨_, rfl⟩
 have k1 : Keep Never w w1 := by rw [← hw1]; exact (Keep.refl _ _).alloc _
 have b1 := Blk.new w 30 #[.int .i64 s1, .bool s2]
 rw [hw1] at b1
 have HB := Lib.hid b1
 have HK := Lib.hid k1
 have HR := Lib.hid (hr.keep k1 (fun _ h => h.elim))
 clear k1 b1 hr
 go_enter Tryz.func29, Tryz.ntmps29
 go_wp2_with fail
 go_loopw [5] (fun i wr => ∃ k : Nat, k ≤ n ∧ i = .int .i64 k ∧ Hid (Keep Never w1 wr ∧ (s1, s2) ∉ l.take k)) (fun i _ => n - (intOf i).toNat)
 case atStart => exact ⟨0, by omega, rfl, Lib.hid ⟨Keep.refl _ _, by simp⟩⟩
 case round =>
  obtain ⟨k, hk, rfl, HH⟩ := hrel
  by_cases h0 : k < n
  ·have hkz : (k : Int) < (n : Int) := by omega
   obtain ⟨ad, u, hA, _, hu, c0, c1⟩ := (HR.out.keep HH.out.1 (fun _ h => h.elim)).stp h0
   subst hA
   obtain ⟨u1, u2⟩ := u
   simp only at c0 c1
   have hb := HB.out.keep HH.out.1 (fun h => h)
   have v0 : wr.cell? ⟨w.heap.size, 0, none⟩ = some (.int .i64 s1) := hb.cell 0
   have v1 : wr.cell? ⟨w.heap.size, 1, none⟩ = some (.bool s2) := hb.cell 1
   have HT : Hid (l.take (k + 1) = l.take k ++ [(u1, u2)]) := Lib.hid (by
    obtain ⟨h2, h3⟩ := List.getElem?_eq_some_iff.1 hu
    rw [List.take_succ_eq_append_getElem h2, h3])
   have Hu := Lib.hid hu
   clear hu hb
   go_wp2_with fail
   rcases Bool.eq_false_or_eq_true (sameS u1 u2 s1 s2) with t1 | t1
   ·have HF : Hid (decide (((s1, s2) : Stp) ∈ l) = true) := Lib.hid (decide_eq_true (by rw [← of_decide_eq_true t1]; exact List.mem_of_getElem? Hu.out))
    go_quiet (fail)
    go_wp2_with fail
    go_ret
    exact ⟨by rw [HF.out]; rfl, (HK.out.trans HH.out.1).drewN _⟩
   ·have HN : Hid ((s1, s2) ∉ l.take (k + 1)) := Lib.hid (by
     rw [HT.out, List.mem_append, List.mem_singleton]
     rintro (h | h)
     ·exact HH.out.2 h
     ·exact (of_decide_eq_false t1) h.symm)
    go_quiet (fail)
    go_wp2_with fail
    refine ⟨⟨k + 1, by omega, by go_num, Lib.hid ⟨HH.out.1.drewN _, HN.out⟩⟩, ?_⟩
    simp [intOf]; try omega
  ·obtain rfl : k = n := by omega
   have hkz : ¬ (k : Int) < (k : Int) := by omega
   have HF : Hid (decide (((s1, s2) : Stp) ∈ l) = false) := Lib.hid (decide_eq_false (by have := HH.out.2; rwa [List.take_of_length_le (by rw [HR.out.stp_len]; exact Nat.le_refl _)] at this))
   go_wp2_with fail
   go_ret
   exact ⟨by rw [HF.out]; rfl, HK.out.trans HH.out.1⟩
set_option maxHeartbeats 4000000 in
set_option maxRecDepth 100000 in
theorem planChains_walk (w : World) (hW : Widths w) (cs0 : Array Value) (t : Tp) (s0 : repTp.cells w w.heap.size t cs0.toList) (Al : Option Addr) (nl cl : Nat) (l : List Lk) (hl : repLk.Sl w w.heap.size Al nl cl l) (train : Int) (cs3 : Array Value) (s : Stp) (s3 : repStp.cells w w.heap.size s cs3.toList) :
   Calls Tryz.prog 6 #[.agg cs0, .slice Al nl cl, .int .i64 train, .agg cs3] w fun e w' => e = .returned (.bool true) ∧ Keep Never w w' := by
 obtain ⟨x, hx, ht⟩ := TpAt.of s0
 obtain rfl : cs0 = x.cs := by apply Array.ext'; exact hx
 obtain ⟨rfl, _⟩ := stp_in s3
 clear hx s0 s3
 have hgv : 0 < w.heap.size := cell_lt (hW 0 (by decide))
 have HLl := Lib.hid (lks_at hl)
 have HAw := Lib.hid (fun (V : World) (hk : Keep Never w V) => awake17_any V (hW.keep hk (fun h => h)) (Nat.lt_of_lt_of_le hgv hk.size))
 have HLi := Lib.hid (fun (V : World) (hk : Keep Never w V) => light13r_any x t w.heap.size V (ht.keep hk))
 have HCh := Lib.hid (fun (V : World) (hk : Keep Never w V) (hL : TpLight x t) (hn : nl ≤ 100) => chain_any x t w.heap.size Al nl cl l train s V (ht.keep hk) hL.small hk.size (HLl.out.keep hk) (by omega))
 have HRo := Lib.hid (fun (hL : TpLight x t) (V : World) (hk : Keep Never w V) (id : Int) => route_own x t w.heap.size id V (ht.keep hk) hL.small.r hL.small.p hk.size)
 have HAf := Lib.hid (fun (hL : TpLight x t) (V : World) (hk : Keep Never w V) (g : Stp) => after_any x t w.heap.size g V (ht.keep hk) hL.small.j hL.small.e)
 have HLe : Hid (t.1.length = x.ne) := Lib.hid ht.e.len.symm
 obtain ⟨Ae, ne, ce, Aj, nj, cj, Ab, nb, cb, Aq, nq, cq⟩ := x
 obtain ⟨s1, s2⟩ := s
 simp only [TA.cs] at HLi HCh HRo HAf HLe ⊢
 clear ht hgv hW hl
 obtain ⟨w1, hw1⟩ : ∃ V : World, w.alloc (.cells #[.slice Ae ne ce, .slice Aj nj cj, .slice Ab nb cb, .slice Aq nq cq] 27) = V := ⟨_, rfl⟩
 have zw1 : w1.heap.size = w.heap.size + 1 := by rw [← hw1]; simp
 have kw1 : Keep Never w w1 := by rw [← hw1]; exact (Keep.refl _ _).alloc _
 have bw1 := Blk.new w 27 #[.slice Ae ne ce, .slice Aj nj cj, .slice Ab nb cb, .slice Aq nq cq]
 rw [hw1] at bw1
 obtain ⟨w2, hw2⟩ : ∃ V : World, w1.alloc (.cells #[.int .i64 s1, .bool s2] 30) = V := ⟨_, rfl⟩
 have kw2 : Keep Never w1 w2 := by rw [← hw2]; exact (Keep.refl _ _).alloc _
 have bw2 := Blk.new w1 30 #[.int .i64 s1, .bool s2]
 rw [hw2, zw1] at bw2
 have HB1 := Lib.hid (bw1.keep kw2 (fun h => h))
 have HB2 := Lib.hid bw2
 have HK := Lib.hid (kw1.trans kw2)
 clear kw1 kw2 bw1 bw2
 have HT2 := HB1
 have HS2 := HB2
 have HK2 := HK
 have HC := Lib.hid (HAw.out w2 HK.out)
 clear HB1 HB2 HK HAw
 go_enter Tryz.func6, Tryz.ntmps6
 go_wp2_with fail
 refine HC.out.mono ?_
 rintro en w3 ⟨rfl, hk⟩
 have HK3 := Lib.hid (HK2.out.trans hk)
 have HT3 := Lib.hid (HT2.out.keep hk (fun h => h))
 have HS3 := Lib.hid (HS2.out.keep hk (fun h => h))
 clear hk HC HT2 HS2 HK2 hw1 hw2 zw1
 have HC := Lib.hid (HLi.out w3 HK3.out)
 have y0 : w3.cell? ⟨w.heap.size, 0, none⟩ = some (.slice Ae ne ce) := HT3.out.cell 0
 have y1 : w3.cell? ⟨w.heap.size, 1, none⟩ = some (.slice Aj nj cj) := HT3.out.cell 1
 have y2 : w3.cell? ⟨w.heap.size, 2, none⟩ = some (.slice Ab nb cb) := HT3.out.cell 2
 have y3 : w3.cell? ⟨w.heap.size, 3, none⟩ = some (.slice Aq nq cq) := HT3.out.cell 3
 clear HLi
 go_wp2_with fail
 refine HC.out.mono ?_
 rintro en w4 ⟨lt, rfl, hlt, hk⟩
 have HK4 := Lib.hid (HK3.out.trans hk)
 have HT4 := Lib.hid (HT3.out.keep hk (fun h => h))
 have HS4 := Lib.hid (HS3.out.keep hk (fun h => h))
 clear hk HC HT3 HS3 HK3 y0 y1 y2 y3
 cases lt with
 | false =>
   go_wp2_with fail
   go_ret
   exact ⟨rfl, HK4.out⟩
 | true =>
 have HLi := Lib.hid (hlt.out rfl)
 clear hlt
 by_cases g0 : nl ≤ 100
 case neg =>
   have t0 : decide ((nl : Int) > 100) = true := by simp; omega
   clear g0
   go_wp2_with fail
   go_ret
   exact ⟨rfl, HK4.out⟩
 have t0 : decide ((nl : Int) > 100) = false := by simp; omega
 have hw := HCh.out w4 HK4.out HLi.out g0
 obtain ⟨c, hc⟩ : ∃ z, chainM t l train (s1, s2) = z := ⟨_, rfl⟩
 rw [hc] at hw
 unfold LksRet at hw
 have HC := Lib.hid hw
 have H8 : Hid (c.length ≤ 8) := Lib.hid (by rw [← hc]; obtain ⟨_, _, h, _⟩ := chain_good (t := t) (l := l) (train := train) (s := (s1, s2)); exact h)
 have HCk : Hid (∀ k x, c[k]? = some x → checkM t = 0 ∧ ∃ r, ChK t l train (s1, s2) c k x r) := Lib.hid (fun k x hx => by rw [← hc] at hx ⊢; exact chk_of hx)
 have y0 : w4.cell? ⟨w.heap.size, 0, none⟩ = some (.slice Ae ne ce) := HT4.out.cell 0
 have y1 : w4.cell? ⟨w.heap.size, 1, none⟩ = some (.slice Aj nj cj) := HT4.out.cell 1
 have y2 : w4.cell? ⟨w.heap.size, 2, none⟩ = some (.slice Ab nb cb) := HT4.out.cell 2
 have y3 : w4.cell? ⟨w.heap.size, 3, none⟩ = some (.slice Aq nq cq) := HT4.out.cell 3
 have e0 : w4.cell? ⟨w.heap.size + 1, 0, none⟩ = some (.int .i64 s1) := HS4.out.cell 0
 have e1 : w4.cell? ⟨w.heap.size + 1, 1, none⟩ = some (.bool s2) := HS4.out.cell 1
 clear hw hc HCh
 go_wp2_with fail
 refine HC.out.mono ?_
 rintro en w5 ⟨Ac, nc, cc, rfl, hnc, hoc, hk⟩
 have HK5 := Lib.hid (HK4.out.trans hk)
 have HT5 := Lib.hid (HT4.out.keep hk (fun h => h))
 have HS5 := Lib.hid (HS4.out.keep hk (fun h => h))
 have HOc5 := Lib.hid (hoc.less HK4.out.size)
 have HNc : Hid (nc = c.length) := hnc
 have hnc8 : nc ≤ 8 := by have := H8.out; have := HNc.out; omega
 clear hk HC HT4 HS4 HK4 hoc hnc y0 y1 y2 y3 e0 e1 t0
 go_upto_region 8 with (fail)
 go_loopw [12, 13] (fun s12 s13 wr => ∃ (k : Nat) (Ag : Option Addr) (ng cg : Nat), k ≤ nc ∧ s12 = .slice Ag ng cg ∧ s13 = .int .i64 k ∧ Hid (Own wr (w.heap.size + 2) 30 2 Ag ng cg (stpCells (goneC t c k)) ∧ Own wr w.heap.size 62 3 Ac nc cc (spCells c) ∧ Blk wr w.heap.size 27 #[.slice Ae ne ce, .slice Aj nj cj, .slice Ab nb cb, .slice Aq nq cq] ∧ Blk wr (w.heap.size + 1) 30 #[.int .i64 s1, .bool s2] ∧ Keep Never w wr)) (fun _ si _ => nc - (intOf si).toNat)
 case atStart => exact ⟨0, none, 0, 0, by omega, rfl, rfl, Lib.hid ⟨Own.nil _ _ _ _, HOc5.out, HT5.out, HS5.out, HK5.out⟩⟩
 case round =>
   clear HOc5 HT5 HS5 HK5
   rename World => wz
   obtain ⟨k, Ag, ng, cg, hk, rfl, rfl, HH⟩ := hrel
   have HOgz := Lib.hid HH.out.1
   have HOcz := Lib.hid HH.out.2.1
   have HTz := Lib.hid HH.out.2.2.1
   have HSz := Lib.hid HH.out.2.2.2.1
   have HKz := Lib.hid HH.out.2.2.2.2
   clear HH
   by_cases h0 : k < nc
   case neg =>
     obtain rfl : k = nc := by omega
     have hki : ¬ (k : Int) < (k : Int) := by omega
     have t8 : decide ((k : Int) ≤ 8) = true := by simp; omega
     go_wp2_with fail
     go_ret
     exact ⟨rfl, HKz.out⟩
   have hki : (k : Int) < (nc : Int) := by omega
   obtain ⟨ad, x, hA, _, hs, c0, c1, c2⟩ := HOcz.out.rd.sp h0
   subst hA
   obtain ⟨hc0, r, hr⟩ := HCk.out k x hs
   have HC0 := Lib.hid hc0
   have HX := Lib.hid hr
   have HXs := Lib.hid hs
   obtain ⟨q1, q2, q3⟩ := x
   obtain ⟨ri, rp, rg, rm⟩ := r
   simp only at c0 c1 c2
   have htr : q2 = train := hr.train_
   subst htr
   have HGl : Hid (ng = (goneC t c k).length ∧ ng ≤ 64) := Lib.hid (by have h1 := HOgz.out.rd.stp_len; have h2 := goneC_len hc0 (c := c) k; omega)
   clear hc0 hr hs
   go_upto_region 12 with (fail)
   clear c0 c1 c2
   go_loopw [14, 15] (fun s14 s15 wr => ∃ j : Nat, j ≤ nl ∧ s15 = .int .i64 j ∧ s14 = .bool ((l.take j).contains (q1, q2, q3)) ∧ Hid (Keep Never wz wr)) (fun _ si _ => nl - (intOf si).toNat)
   case atStart => exact ⟨0, by omega, rfl, by simp, Lib.hid (Keep.refl _ _)⟩
   case round =>
     obtain ⟨j, hj, rfl, rfl, HH⟩ := hrel
     obtain ⟨ad', x', hA', _, hs', c0, c1, c2⟩ := (HOcz.out.keep HH.out (fun _ _ h => h)).rd.sp h0
     injection hA' with hA'
     subst hA'
     rw [HXs.out] at hs'
     injection hs' with hs'
     subst hs'
     simp only at c0 c1 c2
     by_cases h1 : j < nl
     · have hji : (j : Int) < (nl : Int) := by omega
       obtain ⟨ae, y, hAe, _, hsy, d0, d1, d2⟩ := ((HLl.out.keep (HKz.out.trans HH.out)).rd).sp h1
       subst hAe
       obtain ⟨v1, v2, v3⟩ := y
       simp only at d0 d1 d2
       have HNx : Hid ((l.take (j + 1)).contains ((q1, q2, q3) : Lk) = ((l.take j).contains (q1, q2, q3) || sameLk v1 v2 v3 q1 q2 q3)) := Lib.hid (by
         rw [List.take_add_one, hsy, List.contains_append]
         congr 1
         unfold sameLk
         simp [eq_comm])
       have qe := fun (w : World) => run_eq_lk17 w v1 v2 v3 q1 q2 q3
       obtain ⟨bb, hbb⟩ : ∃ z, sameLk v1 v2 v3 q1 q2 q3 = z := ⟨_, rfl⟩
       obtain ⟨ba, hba⟩ : ∃ z, (l.take j).contains ((q1, q2, q3) : Lk) = z := ⟨_, rfl⟩
       rw [hbb] at qe HNx
       rw [hba] at HNx ⊢
       clear hsy hbb hba
       cases ba <;>
       · go_wp2_with fail
         go_quiet (fail)
         go_wp2_with fail
         refine ⟨⟨j + 1, by omega, by go_num, by rw [HNx.out]; first | rfl | simp, Lib.hid (HH.out.drewN _)⟩, ?_⟩
         simp [intOf]; try omega
     · obtain rfl : j = nl := by omega
       have hji : ¬ (j : Int) < (j : Int) := by omega
       have hct : (l.take j).contains ((q1, q2, q3) : Lk) = true := by
         rw [List.take_of_length_le (by have h1 := HLl.out.rd.sp_len; omega)]; simpa using HX.out.mem
       rw [hct]
       have hk' := HH.out
       have HK6 := Lib.hid (HKz.out.trans hk')
       have HT6 := Lib.hid (HTz.out.keep hk' (fun h => h))
       have HS6 := Lib.hid (HSz.out.keep hk' (fun h => h))
       have HOc6 := Lib.hid (HOcz.out.keep hk' (fun _ _ h => h))
       have HOg6 := Lib.hid (HOgz.out.keep hk' (fun _ _ h => h))
       clear hct hk' HH HTz HSz HOcz HOgz HKz c0 c1 c2
       go_upto_region 16 with (fail)
       rename World => w6
       go_loopw [14, 16] (fun s14 s16 wr => ∃ j : Nat, j ≤ k ∧ s16 = .int .i64 j ∧ s14 = .bool true ∧ Hid (Keep Never w6 wr)) (fun _ si _ => k - (intOf si).toNat)
       case atStart => exact ⟨0, by omega, rfl, rfl, Lib.hid (Keep.refl _ _)⟩
       case round =>
         rename World => wy
         obtain ⟨j, hj, rfl, rfl, HH⟩ := hrel
         obtain ⟨ad', x', hA', _, hs', c0, c1, c2⟩ := (HOc6.out.keep HH.out (fun _ _ h => h)).rd.sp h0
         injection hA' with hA'
         subst hA'
         rw [HXs.out] at hs'
         injection hs' with hs'
         subst hs'
         simp only at c0 c1 c2
         by_cases h1 : j < k
         · have hji : (j : Int) < (k : Int) := by omega
           have hjn : (j : Int) < (nc : Int) := by omega
           obtain ⟨ae, y, hAe, _, hsy, d0, d1, d2⟩ := (HOc6.out.keep HH.out (fun _ _ h => h)).rd.sp (show j < nc by omega)
           injection hAe with hAe
           subst hAe
           have hne : ((q1, q2, q3) : Lk) ≠ y := fun e => HX.out.fresh (by rw [e]; exact List.mem_of_getElem? (by rw [List.getElem?_take, if_pos h1]; exact hsy))
           obtain ⟨v1, v2, v3⟩ := y
           simp only at d0 d1 d2
           have qn := fun (w : World) => run_ne_lk17 w v1 v2 v3 q1 q2 q3
           have hsm : sameLk v1 v2 v3 q1 q2 q3 = false := decide_eq_false (fun e => hne e.symm)
           rw [hsm] at qn
           simp only [Bool.not_false] at qn
           clear hsy hne hsm
           go_wp2_with fail
           go_quiet (fail)
           go_wp2_with fail
           refine ⟨⟨j + 1, by omega, by go_num, rfl, Lib.hid (HH.out.drewN _)⟩, ?_⟩
           simp [intOf]; try omega
         · obtain rfl : j = k := by omega
           have hji : ¬ (j : Int) < (j : Int) := by omega
           have hk' := HH.out
           have HK7 := Lib.hid (HK6.out.trans hk')
           have HT7 := Lib.hid (HT6.out.keep hk' (fun h => h))
           have HS7 := Lib.hid (HS6.out.keep hk' (fun h => h))
           have HOc7 := Lib.hid (HOc6.out.keep hk' (fun _ _ h => h))
           have HOg7 := Lib.hid (HOg6.out.keep hk' (fun _ _ h => h))
           clear hk' HH HT6 HS6 HOc6 HOg6 HK6 c1 c2
           obtain ⟨w7, hw7⟩ : ∃ V : World, wy = V := ⟨_, rfl⟩
           subst hw7
           have HRr : Hid (∀ V, Keep Never wy V → Calls Tryz.prog 28 #[.agg #[.slice Ae ne ce, .slice Aj nj cj, .slice Ab nb cb, .slice Aq nq cq], .int .i64 q1] V fun e w'' => ∃ Ar nr cr, e = .returned (.tuple #[.agg #[.int .i64 ri, .slice Ar nr cr, .int .i64 rg, .int .i64 rm], .bool true]) ∧ Own w'' wy.heap.size 30 2 Ar nr cr (stpCells rp) ∧ Keep Never V w'') := Lib.hid (fun V hV => by
             have h := HRo.out HLi.out V (HK7.out.trans hV) q1
             have hrt := HX.out.rt
             simp only at hrt
             rw [hrt] at h
             unfold RtRet3 at h
             simp only [Option.getD, Option.isSome] at h
             refine h.mono ?_
             rintro e w'' ⟨Ar, nr, cr, he, _, ho, _, hk⟩
             exact ⟨Ar, nr, cr, he, ho.less hV.size, hk⟩)
           have y0 : wy.cell? ⟨w.heap.size, 0, none⟩ = some (.slice Ae ne ce) := HT7.out.cell 0
           have y1 : wy.cell? ⟨w.heap.size, 1, none⟩ = some (.slice Aj nj cj) := HT7.out.cell 1
           have y2 : wy.cell? ⟨w.heap.size, 2, none⟩ = some (.slice Ab nb cb) := HT7.out.cell 2
           have y3 : wy.cell? ⟨w.heap.size, 3, none⟩ = some (.slice Aq nq cq) := HT7.out.cell 3
           have HS27 : Hid (∀ W', Keep Never wy W' → Keep Never wy W' ∧ W'.cell? ⟨w.heap.size, 0, none⟩ = some (.slice Ae ne ce) ∧ W'.cell? ⟨w.heap.size, 1, none⟩ = some (.slice Aj nj cj) ∧ W'.cell? ⟨w.heap.size, 2, none⟩ = some (.slice Ab nb cb) ∧ W'.cell? ⟨w.heap.size, 3, none⟩ = some (.slice Aq nq cq) ∧ W'.cell? (ad.add (j * 3)) = some (.int .i64 q1)) := Lib.hid (fun W' h => ⟨h, keepT h y0, keepT h y1, keepT h y2, keepT h y3, keepT h c0⟩)
           clear y0 y1 y2 y3
           go_upto_region 19 with (fail)
           clear c0
           go_region_held3 (fun W' => Keep Never wy W' ∧ W'.cell? ⟨w.heap.size, 0, none⟩ = some (.slice Ae ne ce) ∧ W'.cell? ⟨w.heap.size, 1, none⟩ = some (.slice Aj nj cj) ∧ W'.cell? ⟨w.heap.size, 2, none⟩ = some (.slice Ab nb cb) ∧ W'.cell? ⟨w.heap.size, 3, none⟩ = some (.slice Aq nq cq) ∧ W'.cell? (ad.add (j * 3)) = some (.int .i64 q1))
             (first | assumption | exact HS27.out _ ((Keep.refl Never wy).drew) | exact HS27.out _ (Keep.trans (And.left (by assumption)) hk9) | exact HS27.out _ (Keep.trans ((Keep.refl Never wy).drew) hk9) | exact HS27.out _ (Keep.alloc (And.left (by assumption)) _) | exact HS27.out _ (Keep.alloc (Keep.trans ((Keep.refl Never wy).drew) hk9) _) | exact HS27.out _ (put4_keep (And.left (by assumption)) (.inr (by first | exact Nat.le_refl _ | exact (Keep.size (And.left (by assumption))) | omega)) _ _ _ _))
             (first
               | (go_at_call 28; refine (HRr.out _ (by first | exact And.left (by assumption) | exact (Keep.refl Never wy).drew | exact Keep.refl Never wy | exact Keep.alloc (And.left (by assumption)) _)).mono ?_; rintro en w9 ⟨Ar, nr, cr, rfl, ho9, hk9⟩; have HK9 : Hid (Keep Never wy w9) := Lib.hid (by first | exact Keep.trans (And.left (by assumption)) hk9 | exact Keep.trans ((Keep.refl Never wy).drew) hk9); have HO9 := Lib.hid ho9; have nb9 : Hid (Blk w9 wy.heap.size 64 #[.int .i64 0, .slice none 0 0, .int .i64 0, .int .i64 0]) := Lib.hid (by first | exact Blk.keep (Blk.new wy 64 #[.int .i64 0, .slice none 0 0, .int .i64 0, .int .i64 0]) hk9 (fun h => h) | exact Blk.keep (Blk.drew (Blk.new wy 64 #[.int .i64 0, .slice none 0 0, .int .i64 0, .int .i64 0])) hk9 (fun h => h) | exact Blk.keep (Blk.new wy.drew 64 #[.int .i64 0, .slice none 0 0, .int .i64 0, .int .i64 0]) hk9 (fun h => h)); have n0 : w9.cell? ⟨wy.heap.size, 0, none⟩ = some (.int .i64 0) := nb9.out.cell 0; have m0 := nb9.out.frozen 0; have n1 : w9.cell? ⟨wy.heap.size, 1, none⟩ = some (.slice none 0 0) := nb9.out.cell 1; have m1 := nb9.out.frozen 1; have n2 : w9.cell? ⟨wy.heap.size, 2, none⟩ = some (.int .i64 0) := nb9.out.cell 2; have m2 := nb9.out.frozen 2; have n3 : w9.cell? ⟨wy.heap.size, 3, none⟩ = some (.int .i64 0) := nb9.out.cell 3; have m3 := nb9.out.frozen 3)
               | (go_at_call 28; refine (HRr.out _ (by first | exact And.left (by assumption) | exact (Keep.refl Never wy).drew | exact Keep.refl Never wy | exact Keep.alloc (And.left (by assumption)) _)).mono ?_; rintro en w9 ⟨Ar, nr, cr, rfl, ho9, hk9⟩; have HK9 : Hid (Keep Never wy w9) := Lib.hid (by first | exact Keep.trans (And.left (by assumption)) hk9 | exact Keep.trans ((Keep.refl Never wy).drew) hk9); have HO9 := Lib.hid ho9; have n0 : (w9.alloc (.cells #[.int .i64 0, .slice none 0 0, .int .i64 0, .int .i64 0] 64)).cell? ⟨w9.heap.size, 0, none⟩ = some (.int .i64 0) := (Blk.new w9 64 #[.int .i64 0, .slice none 0 0, .int .i64 0, .int .i64 0]).cell 0; have m0 := (Blk.new w9 64 #[.int .i64 0, .slice none 0 0, .int .i64 0, .int .i64 0]).frozen 0; have n1 : (w9.alloc (.cells #[.int .i64 0, .slice none 0 0, .int .i64 0, .int .i64 0] 64)).cell? ⟨w9.heap.size, 1, none⟩ = some (.slice none 0 0) := (Blk.new w9 64 #[.int .i64 0, .slice none 0 0, .int .i64 0, .int .i64 0]).cell 1; have m1 := (Blk.new w9 64 #[.int .i64 0, .slice none 0 0, .int .i64 0, .int .i64 0]).frozen 1; have n2 : (w9.alloc (.cells #[.int .i64 0, .slice none 0 0, .int .i64 0, .int .i64 0] 64)).cell? ⟨w9.heap.size, 2, none⟩ = some (.int .i64 0) := (Blk.new w9 64 #[.int .i64 0, .slice none 0 0, .int .i64 0, .int .i64 0]).cell 2; have m2 := (Blk.new w9 64 #[.int .i64 0, .slice none 0 0, .int .i64 0, .int .i64 0]).frozen 2; have n3 : (w9.alloc (.cells #[.int .i64 0, .slice none 0 0, .int .i64 0, .int .i64 0] 64)).cell? ⟨w9.heap.size, 3, none⟩ = some (.int .i64 0) := (Blk.new w9 64 #[.int .i64 0, .slice none 0 0, .int .i64 0, .int .i64 0]).cell 3; have m3 := (Blk.new w9 64 #[.int .i64 0, .slice none 0 0, .int .i64 0, .int .i64 0]).frozen 3))
           all_goals
             rename_i hS
             clear hS
             (try clear n0 n1 n2 n3 m0 m1 m2 m3)
             first
             | (obtain ⟨w8, hw8⟩ : ∃ V : World, (((w9.setCell ⟨wy.heap.size, 0, none⟩ (.int .i64 ri)).setCell ⟨wy.heap.size, 1, none⟩ (.slice Ar nr cr)).setCell ⟨wy.heap.size, 2, none⟩ (.int .i64 rg)).setCell ⟨wy.heap.size, 3, none⟩ (.int .i64 rm) = V := ⟨_, rfl⟩
                rw [hw8]
                obtain ⟨b8, hb8⟩ : ∃ q, wy.heap.size = q := ⟨_, rfl⟩
                rw [hb8] at nb9 hw8 ⊢
                have HB8 : Hid (Blk w8 b8 64 #[.int .i64 ri, .slice Ar nr cr, .int .i64 rg, .int .i64 rm]) := Lib.hid (by rw [← hw8]; exact put4_blk nb9.out _ _ _ _)
                have HK8 : Hid (Keep Never wy w8) := Lib.hid (by rw [← hw8]; exact put4_keep HK9.out (.inr (by omega)) _ _ _ _)
                have HO8 := Lib.hid (HO9.out.keep (show Keep (fun i => i = b8) w9 w8 from by rw [← hw8]; exact put4_keep (Keep.refl (fun i => i = b8) w9) (.inl rfl) _ _ _ _) (HO9.out.ne_blk nb9.out (by decide)))
                have HN8 : Hid (wy.heap.size ≤ b8) := Lib.hid (by omega)
                clear hw8 hb8 nb9 HO9 HK9 hk9)
             | (obtain ⟨w8, hw8⟩ : ∃ V : World, w9.alloc (.cells #[.int .i64 ri, .slice Ar nr cr, .int .i64 rg, .int .i64 rm] 64) = V := ⟨_, rfl⟩
                rw [hw8]
                obtain ⟨b8, hb8⟩ : ∃ q, w9.heap.size = q := ⟨_, rfl⟩
                rw [hb8]
                have HB8 : Hid (Blk w8 b8 64 #[.int .i64 ri, .slice Ar nr cr, .int .i64 rg, .int .i64 rm]) := Lib.hid (by rw [← hw8, ← hb8]; exact Blk.new _ _ _)
                have HK8 : Hid (Keep Never wy w8) := Lib.hid (by rw [← hw8]; exact HK9.out.alloc _)
                have HO8 := Lib.hid (HO9.out.keep (show Keep Never w9 w8 from by rw [← hw8]; exact (Keep.refl _ _).alloc _) (fun _ _ h => h))
                have HN8 : Hid (wy.heap.size ≤ b8) := Lib.hid (by rw [← hb8]; exact HK9.out.size)
                clear hw8 hb8 HO9 HK9 hk9)
           all_goals
             have HK8w := Lib.hid (HK7.out.trans HK8.out)
             have HT8 := Lib.hid (HT7.out.keep HK8.out (fun h => h))
             have HS8 := Lib.hid (HS7.out.keep HK8.out (fun h => h))
             have HOc8 := Lib.hid (HOc7.out.keep HK8.out (fun _ _ h => h))
             have HOg8 := Lib.hid (HOg7.out.keep HK8.out (fun _ _ h => h))
             have HNr : Hid (nr = rp.length ∧ nr ≤ 8 ∧ 1 ≤ nr) := Lib.hid (by
               have h1 := HO8.out.rd.stp_len
               have h2 := HX.out.few
               have h3 := HX.out.ne
               simp only at h2 h3
               have h4 : 0 < rp.length := List.length_pos_iff.2 h3
               omega)
             clear HT7 HS7 HOc7 HOg7 HK7 HS27
             obtain ⟨ad', x', hA', _, hs', c0, c1, c2⟩ := HOc8.out.rd.sp h0
             injection hA' with hA'
             subst hA'
             rw [HXs.out] at hs'
             injection hs' with hs'
             subst hs'
             simp only at c0 c1 c2
             have r1 : w8.cell? ⟨b8, 1, none⟩ = some (.slice Ar nr cr) := HB8.out.cell 1
             have t20 : ((nr : Int) == 0) = false := by have := HNr.out; simp; omega
             have e0 : w8.cell? ⟨w.heap.size + 1, 0, none⟩ = some (.int .i64 s1) := HS8.out.cell 0
             have e1 : w8.cell? ⟨w.heap.size + 1, 1, none⟩ = some (.bool s2) := HS8.out.cell 1
             have hw := has17_any Ar nr cr _ rp (s1, s2) w8 HO8.out.rd (by have := HNr.out; omega)
             obtain ⟨hb, hhb⟩ : ∃ z, decide (((s1, s2) : Stp) ∈ rp) = z := ⟨_, rfl⟩
             rw [hhb] at hw
             have HHb := Lib.hid hhb
             have HC := Lib.hid hw
             clear hw hhb
             go_wp2_with fail
             refine HC.out.mono ?_
             rintro en w9 ⟨rfl, hk⟩
             have HK9 := Lib.hid (HK8w.out.trans hk)
             have HT9 := Lib.hid (HT8.out.keep hk (fun h => h))
             have HS9 := Lib.hid (HS8.out.keep hk (fun h => h))
             have HB9 := Lib.hid (HB8.out.keep hk (fun h => h))
             have HOc9 := Lib.hid (HOc8.out.keep hk (fun _ _ h => h))
             have HOg9 := Lib.hid (HOg8.out.keep hk (fun _ _ h => h))
             have HO9 := Lib.hid (HO8.out.keep hk (fun _ _ h => h))
             clear hk HC c0 c1 c2 r1 t20 e0 e1 HT8 HS8 HOc8 HOg8 HK8w HO8 HB8
             go_upto_region 23 with (fail)
             by_cases g3 : j = 0
             · have t3 : decide ((j : Int) > 0) = false := by simp; omega
               have t3b : decide (0 < j) = false := by simp; omega
               have hb1 : hb = true := by rw [← HHb.out]; exact decide_eq_true (HX.out.first g3)
               subst hb1
               clear g3
               go_upto_region 28 with (fail)
               clear t3 t3b
               go_loopw [20] (fun s20 wr => ∃ i : Nat, i ≤ nr ∧ s20 = .int .i64 i ∧ Hid (Keep Never w9 wr)) (fun si _ => nr - (intOf si).toNat)
               case atStart => exact ⟨0, by omega, rfl, Lib.hid (Keep.refl _ _)⟩
               case round =>
                 rename World => wi
                 obtain ⟨i, hi, rfl, HH⟩ := hrel
                 have HKi := Lib.hid HH.out
                 have r1 : wi.cell? ⟨b8, 1, none⟩ = some (.slice Ar nr cr) := (HB9.out.keep HH.out (fun h => h)).cell 1
                 clear HH
                 by_cases h2 : i < nr
                 · have hii : (i : Int) < (nr : Int) := by omega
                   go_upto_region 31 with (fail)
                   clear r1
                   go_loopw [21] (fun s21 wr => ∃ u : Nat, u ≤ ng ∧ s21 = .int .i64 u ∧ Hid (Keep Never wi wr)) (fun si _ => ng - (intOf si).toNat)
                   case atStart => exact ⟨0, by omega, rfl, Lib.hid (Keep.refl _ _)⟩
                   case round =>
                     obtain ⟨u, hu, rfl, HH⟩ := hrel
                     have hkw := HKi.out.trans HH.out
                     have hng64 := HGl.out.2
                     have hnr8 := HNr.out.2.1
                     by_cases h3 : u < ng
                     · have hui : (u : Int) < (ng : Int) := by omega
                       obtain ⟨ax, gx, hAx, _, hgx, g0, g1⟩ := (HOg9.out.keep hkw (fun _ _ h => h)).rd.stp h3
                       obtain ⟨ay, px, hAy, _, hpx, p0, p1⟩ := (HO9.out.keep hkw (fun _ _ h => h)).rd.stp h2
                       have hds := HX.out.dis gx (List.mem_of_getElem? hgx) px (List.mem_of_getElem? hpx)
                       subst hAx hAy
                       obtain ⟨g1v, g2v⟩ := gx
                       obtain ⟨p1v, p2v⟩ := px
                       simp only at g0 g1 p0 p1 hds
                       have t5 : (g1v == p1v) = false := by simpa using hds
                       have r1 : wr.cell? ⟨b8, 1, none⟩ = some (.slice (some ay) nr cr) := (HB9.out.keep hkw (fun h => h)).cell 1
                       clear hgx hpx hds hkw
                       go_wp2_with fail
                       go_quiet (fail)
                       go_wp2_with fail
                       refine ⟨⟨u + 1, by omega, by go_num, Lib.hid (HH.out.drewN _)⟩, ?_⟩
                       simp [intOf]; try omega
                     · have hue : u = ng := by omega
                       have hui : ¬ (u : Int) < (ng : Int) := by omega
                       have hui2 : ¬ u < ng := by omega
                       clear hue
                       go_wp2_with fail
                       refine ⟨⟨i + 1, by omega, by go_num, Lib.hid hkw⟩, ?_⟩
                       simp [intOf]; try omega
                 · have hie : i = nr := by omega
                   have hii : ¬ (i : Int) < (nr : Int) := by omega
                   have hii2 : ¬ i < nr := by omega
                   have hkx := HKi.out
                   have HKcc := Lib.hid (HK9.out.trans hkx)
                   have HTcc := Lib.hid (HT9.out.keep hkx (fun h => h))
                   have HScc := Lib.hid (HS9.out.keep hkx (fun h => h))
                   have HBcc := Lib.hid (HB9.out.keep hkx (fun h => h))
                   have HOccc := Lib.hid (HOc9.out.keep hkx (fun _ _ h => h))
                   have HOgcc := Lib.hid (HOg9.out.keep hkx (fun _ _ h => h))
                   have HOcc := Lib.hid (HO9.out.keep hkx (fun _ _ h => h))
                   have hz2 : w.heap.size + 2 ≤ wi.heap.size := HScc.out.lt
                   have hng64 := HGl.out.2
                   have hnr8 := HNr.out.2.1
                   have r1 : wi.cell? ⟨b8, 1, none⟩ = some (.slice Ar nr cr) := HBcc.out.cell 1
                   clear hkx hie
                   go_wp2_with (at_builtin; refine wpList_app _ rfl (.tmp 160) (.tmp 162) _ rfl elemStp (w.heap.size + 2) (A := Ag) (n := ng) (c := cg) (by go_simp) HOgcc.out _ (A' := Ar) (m := nr) (c' := cr) (by go_simp) HOcc.out.rd (stpCells_one _) (by omega) (by unfold maxLen; omega) hz2 ?_; intro A30 c30 w30 hown hkr hrow; have HO30 := Lib.hid hown; have HK30 := Lib.hid hkr; clear hown hkr hrow)
                   have hk := HK30.out
                   refine ⟨⟨j + 1, A30, ng + nr, c30, by omega, rfl, by go_num, Lib.hid ⟨by rw [goneC_next HXs.out HX.out.rt, stpCells_app]; exact HO30.out, HOccc.out.keep hk (fun q h => HOccc.out.ne_own HOgcc.out (by decide) q h), HTcc.out.keep hk (fun h => HOgcc.out.ne_blk HTcc.out (by decide) _ h rfl), HScc.out.keep hk (fun h => by have := (HOgcc.out.row h).1; omega), HKcc.out.then_ hk (fun i hi h => by have := (HOgcc.out.row h).1; omega)⟩⟩, ?_⟩
                   simp [intOf]; try omega
             · have t3 : decide ((j : Int) > 0) = true := by simp; omega
               have t3b : decide (0 < j) = true := by simp; omega
               obtain ⟨jm, hjm⟩ : ∃ z, j = z + 1 := ⟨j - 1, by omega⟩
               obtain ⟨gl, hd, hgl, hhd, haf⟩ := HX.out.aft jm hjm
               clear g3 hjm
               simp only at hhd
               have hng : ng ≠ 0 := by
                 intro e
                 have h1 := HGl.out.1
                 rw [e] at h1
                 rw [List.eq_nil_of_length_eq_zero h1.symm] at hgl
                 cases hgl
               obtain ⟨m, rfl⟩ : ∃ m, ng = m + 1 := ⟨ng - 1, by omega⟩
               obtain ⟨ag, g9, hAg, _, hg9, g0, g1⟩ := HOg9.out.rd.stp (show m < m + 1 by omega)
               have hgg : g9 = gl := by
                 rw [List.getLast?_eq_getElem?, ← HGl.out.1] at hgl
                 rw [show m + 1 - 1 = m by omega, hg9] at hgl
                 injection hgl
               subst hAg hgg
               obtain ⟨ah, h9, hAh, _, hh9, p0, p1⟩ := HO9.out.rd.stp (show 0 < nr by have := HNr.out; omega)
               have hhh : h9 = hd := by
                 rw [List.head?_eq_getElem?, hh9] at hhd
                 injection hhd
               subst hAh hhh
               have ea : ah.add (0 * 2) = ah := by rw [Nat.zero_mul]; unfold Addr.add; split <;> simp_all
               rw [ea] at p0 p1
               obtain ⟨g1v, g2v⟩ := g9
               obtain ⟨h1v, h2v⟩ := h9
               simp only at g0 g1 p0 p1
               have HAc : Hid (∀ w', Keep Never w9 w' → Calls Tryz.prog 30 #[.agg #[.slice Ae ne ce, .slice Aj nj cj, .slice Ab nb cb, .slice Aq nq cq], .agg #[.int .i64 g1v, .bool g2v]] w' (AftRet (afterM t (g1v, g2v)) w')) := Lib.hid (fun w' h => HAf.out HLi.out w' (HK9.out.trans h) (g1v, g2v))
               have HAl : Hid ((afterM t (g1v, g2v)).length ≤ 100000000) := Lib.hid (by have h5 := after_len t (g1v, g2v); have h6 : ne ≤ 100 := HLi.out.e; have := HLe.out; omega)
               have HMm : Hid (decide (((h1v, h2v) : Stp) ∈ afterM t (g1v, g2v)) = true) := Lib.hid (decide_eq_true haf)
               have hnr0 : 0 < nr := by have := HNr.out; omega
               have hz1 : (m : Int) < (m : Int) + 1 := by omega
               have hz3 : (0 : Int) ≤ (m : Int) + 1 := by omega
               have hz4 : ((m : Int) + 1).toNat = m + 1 := by omega
               have hz5 : IntKind.i64.wrap ((m : Int) + 1 - 1) = (m : Int) := by rw [show (m : Int) + 1 - 1 = m by omega]; exact IntWalk.i64_in _ (by have := HGl.out.2; omega)
               have hz6 : IntKind.i64.wrap (m : Int) = (m : Int) := IntWalk.i64_in _ (by have := HGl.out.2; omega)
               have r1 : w9.cell? ⟨b8, 1, none⟩ = some (.slice (some ah) nr cr) := HB9.out.cell 1
               have y0 : w9.cell? ⟨w.heap.size, 0, none⟩ = some (.slice Ae ne ce) := HT9.out.cell 0
               have y1 : w9.cell? ⟨w.heap.size, 1, none⟩ = some (.slice Aj nj cj) := HT9.out.cell 1
               have y2 : w9.cell? ⟨w.heap.size, 2, none⟩ = some (.slice Ab nb cb) := HT9.out.cell 2
               have y3 : w9.cell? ⟨w.heap.size, 3, none⟩ = some (.slice Aq nq cq) := HT9.out.cell 3
               have HS29 : Hid (∀ W', Keep Never w9 W' → Keep Never w9 W' ∧ W'.cell? ⟨w.heap.size, 0, none⟩ = some (.slice Ae ne ce) ∧ W'.cell? ⟨w.heap.size, 1, none⟩ = some (.slice Aj nj cj) ∧ W'.cell? ⟨w.heap.size, 2, none⟩ = some (.slice Ab nb cb) ∧ W'.cell? ⟨w.heap.size, 3, none⟩ = some (.slice Aq nq cq) ∧ W'.cell? ⟨b8, 1, none⟩ = some (.slice (some ah) nr cr) ∧ W'.cell? (ag.add (m * 2)) = some (.int .i64 g1v) ∧ W'.cell? ⟨(ag.add (m * 2)).block, (ag.add (m * 2)).off + 1, none⟩ = some (.bool g2v) ∧ W'.cell? ah = some (.int .i64 h1v) ∧ W'.cell? ⟨ah.block, ah.off + 1, none⟩ = some (.bool h2v)) := Lib.hid (fun W' h => ⟨h, keepT h y0, keepT h y1, keepT h y2, keepT h y3, keepT h r1, keepT h g0, keepT h g1, keepT h p0, keepT h p1⟩)
               clear hgl hhd haf hng hg9 hh9 ea
               go_wp2_with fail
               clear y0 y1 y2 y3 r1 g0 g1 p0 p1
               go_region_held3 (fun W' => Keep Never w9 W' ∧ W'.cell? ⟨w.heap.size, 0, none⟩ = some (.slice Ae ne ce) ∧ W'.cell? ⟨w.heap.size, 1, none⟩ = some (.slice Aj nj cj) ∧ W'.cell? ⟨w.heap.size, 2, none⟩ = some (.slice Ab nb cb) ∧ W'.cell? ⟨w.heap.size, 3, none⟩ = some (.slice Aq nq cq) ∧ W'.cell? ⟨b8, 1, none⟩ = some (.slice (some ah) nr cr) ∧ W'.cell? (ag.add (m * 2)) = some (.int .i64 g1v) ∧ W'.cell? ⟨(ag.add (m * 2)).block, (ag.add (m * 2)).off + 1, none⟩ = some (.bool g2v) ∧ W'.cell? ah = some (.int .i64 h1v) ∧ W'.cell? ⟨ah.block, ah.off + 1, none⟩ = some (.bool h2v))
                 (first | assumption | exact HS29.out _ ((Keep.refl Never w9).drew) | exact HS29.out _ (Keep.trans (And.left (by assumption)) hk21) | exact HS29.out _ (Keep.trans ((Keep.refl Never w9).drew) hk21) | exact HS29.out _ (Keep.trans (And.left (by assumption)) hk22))
                 (first
                   | (go_at_call 30; refine (HAc.out _ (by first | exact And.left (by assumption) | exact (Keep.refl Never w9).drew | exact Keep.refl Never w9)).mono ?_; rintro e w21 ⟨A8, n8, c8, rfl, hn8, ho8, hk21⟩; have HAm : Hid (∀ w', Keep Never w21 w' → Calls Tryz.prog 29 #[.slice A8 n8 c8, .agg #[.int .i64 h1v, .bool h2v]] w' fun e w'' => e = .returned (.bool true) ∧ Keep Never w' w'') := Lib.hid (fun w' h => by have h5 := has17_any A8 n8 c8 _ (afterM t (g1v, g2v)) (h1v, h2v) w' (ho8.rd.keep h (fun _ h => h.elim)) (by rw [hn8.out]; exact HAl.out); rw [HMm.out] at h5; exact h5))
                   | (go_at_call 29; refine (HAm.out _ (by first | exact Keep.refl Never _ | exact (Keep.refl Never _).drew)).mono ?_; rintro e w22 ⟨rfl, hk22⟩))
               all_goals
                 rename_i hS
                 have hk := hS.1
                 have hk9' := hk
                 clear hS
                 (try clear hk21)
                 (try clear hk22)
                 have hkx := hk9'
                 have HK10 := Lib.hid (HK9.out.trans hkx)
                 have HT10 := Lib.hid (HT9.out.keep hkx (fun h => h))
                 have HS10 := Lib.hid (HS9.out.keep hkx (fun h => h))
                 have HB10 := Lib.hid (HB9.out.keep hkx (fun h => h))
                 have HOc10 := Lib.hid (HOc9.out.keep hkx (fun _ _ h => h))
                 have HOg10 := Lib.hid (HOg9.out.keep hkx (fun _ _ h => h))
                 have HO10 := Lib.hid (HO9.out.keep hkx (fun _ _ h => h))
                 clear hkx HT9 HS9 HOc9 HOg9 HO9 HB9 HK9 t3 t3b
                 go_upto_region 28 with (fail)
                 go_loopw [20] (fun s20 wr => ∃ i : Nat, i ≤ nr ∧ s20 = .int .i64 i ∧ Hid (Keep Never w22 wr)) (fun si _ => nr - (intOf si).toNat)
                 case atStart => exact ⟨0, by omega, rfl, Lib.hid (Keep.refl _ _)⟩
                 case round =>
                   rename World => wi
                   obtain ⟨i, hi, rfl, HH⟩ := hrel
                   have HKi := Lib.hid HH.out
                   have r1 : wi.cell? ⟨b8, 1, none⟩ = some (.slice (some ah) nr cr) := (HB10.out.keep HH.out (fun h => h)).cell 1
                   clear HH
                   by_cases h2 : i < nr
                   · have hii : (i : Int) < (nr : Int) := by omega
                     go_upto_region 31 with (fail)
                     clear r1
                     go_loopw [21] (fun s21 wr => ∃ u : Nat, u ≤ (m + 1) ∧ s21 = .int .i64 u ∧ Hid (Keep Never wi wr)) (fun si _ => (m + 1) - (intOf si).toNat)
                     case atStart => exact ⟨0, by omega, rfl, Lib.hid (Keep.refl _ _)⟩
                     case round =>
                       obtain ⟨u, hu, rfl, HH⟩ := hrel
                       have hkw := HKi.out.trans HH.out
                       have hng64 := HGl.out.2
                       have hnr8 := HNr.out.2.1
                       by_cases h3 : u < (m + 1)
                       · have hui : (u : Int) < ((m + 1) : Int) := by omega
                         obtain ⟨ax, gx, hAx, _, hgx, g0, g1⟩ := (HOg10.out.keep hkw (fun _ _ h => h)).rd.stp h3
                         obtain ⟨ay, px, hAy, _, hpx, p0, p1⟩ := (HO10.out.keep hkw (fun _ _ h => h)).rd.stp h2
                         have hds := HX.out.dis gx (List.mem_of_getElem? hgx) px (List.mem_of_getElem? hpx)
                         injection hAx with hAx; injection hAy with hAy; subst hAx hAy
                         obtain ⟨g1v, g2v⟩ := gx
                         obtain ⟨p1v, p2v⟩ := px
                         simp only at g0 g1 p0 p1 hds
                         have t5 : (g1v == p1v) = false := by simpa using hds
                         have r1 : wr.cell? ⟨b8, 1, none⟩ = some (.slice (some ah) nr cr) := (HB10.out.keep hkw (fun h => h)).cell 1
                         clear hgx hpx hds hkw
                         go_wp2_with fail
                         go_quiet (fail)
                         go_wp2_with fail
                         refine ⟨⟨u + 1, by omega, by go_num, Lib.hid (HH.out.drewN _)⟩, ?_⟩
                         simp [intOf]; try omega
                       · have hue : u = (m + 1) := by omega
                         have hui : ¬ (u : Int) < ((m + 1) : Int) := by omega
                         have hui2 : ¬ u < (m + 1) := by omega
                         clear hue
                         go_wp2_with fail
                         refine ⟨⟨i + 1, by omega, by go_num, Lib.hid hkw⟩, ?_⟩
                         simp [intOf]; try omega
                   · have hie : i = nr := by omega
                     have hii : ¬ (i : Int) < (nr : Int) := by omega
                     have hii2 : ¬ i < nr := by omega
                     have hkx := HKi.out
                     have HKcc := Lib.hid (HK10.out.trans hkx)
                     have HTcc := Lib.hid (HT10.out.keep hkx (fun h => h))
                     have HScc := Lib.hid (HS10.out.keep hkx (fun h => h))
                     have HBcc := Lib.hid (HB10.out.keep hkx (fun h => h))
                     have HOccc := Lib.hid (HOc10.out.keep hkx (fun _ _ h => h))
                     have HOgcc := Lib.hid (HOg10.out.keep hkx (fun _ _ h => h))
                     have HOcc := Lib.hid (HO10.out.keep hkx (fun _ _ h => h))
                     have hz2 : w.heap.size + 2 ≤ wi.heap.size := HScc.out.lt
                     have hng64 := HGl.out.2
                     have hnr8 := HNr.out.2.1
                     have r1 : wi.cell? ⟨b8, 1, none⟩ = some (.slice (some ah) nr cr) := HBcc.out.cell 1
                     clear hkx hie
                     go_wp2_with (at_builtin; refine wpList_app _ rfl (.tmp 160) (.tmp 162) _ rfl elemStp (w.heap.size + 2) (A := (some ag)) (n := (m + 1)) (c := cg) (by go_simp) HOgcc.out _ (A' := (some ah)) (m := nr) (c' := cr) (by go_simp) HOcc.out.rd (stpCells_one _) (by omega) (by unfold maxLen; omega) hz2 ?_; intro A30 c30 w30 hown hkr hrow; have HO30 := Lib.hid hown; have HK30 := Lib.hid hkr; clear hown hkr hrow)
                     have hk := HK30.out
                     refine ⟨⟨j + 1, A30, (m + 1) + nr, c30, by omega, rfl, by go_num, Lib.hid ⟨by rw [goneC_next HXs.out HX.out.rt, stpCells_app]; exact HO30.out, HOccc.out.keep hk (fun q h => HOccc.out.ne_own HOgcc.out (by decide) q h), HTcc.out.keep hk (fun h => HOgcc.out.ne_blk HTcc.out (by decide) _ h rfl), HScc.out.keep hk (fun h => by have := (HOgcc.out.row h).1; omega), HKcc.out.then_ hk (fun i hi h => by have := (HOgcc.out.row h).1; omega)⟩⟩, ?_⟩
                     simp [intOf]; try omega
end Go.Proofs.YtpapiojicbbheaaGreatDoor

namespace Go.Proofs.YtpapiojicbbheaaGreatDoor
open Go.RowKit Go.ChangeShapes Go.WideShapes Go.ChangeAt
theorem gTab : Tryz.prog.globalNamed "lineside/vars.widths" = some 0 := by kernel_rfl
theorem gTabType : (Tryz.prog.globals[0]?).map (·.type) = some 238 := by kernel_rfl
theorem cellsTab : Tryz.prog.cellsOf 238 = 96 := by kernel_rfl
theorem laid_gives {W : World} (h : laidMetH Tryz.prog [("lineside/vars.widths", Rows.laid_lineside_vars_widths)] W) : Widths W := by
 have hT : Lib.TabIs Tryz.prog W "lineside/vars.widths" .i64 wtab := Lib.tabIs_of_head (rest := []) gTab gTabType Tryz.underlying238 Tryz.underlying3 cellsInt cellsTab h
 intro i hi
 have := hT.cell gTab i (by show i < 96; exact hi)
 rw [this]
noncomputable def laidWorld (os : Os) : World :=
 { World.holding Tryz.prog os ⟨#[], #[], []⟩ with heap := (World.holding Tryz.prog os ⟨#[], #[], []⟩).heap.modify 0 fun
   | .cells _ t frozen => .cells (wtab.map (Value.int .i64)).toArray t frozen
   | o => o }
end Go.Proofs.YtpapiojicbbheaaGreatDoor
