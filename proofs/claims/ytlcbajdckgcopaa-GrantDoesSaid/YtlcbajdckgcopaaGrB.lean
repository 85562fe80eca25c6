/- Chapter 18 (grant): entries and ledgers in the program's memory; which ledgers may be. -/
import Derived.Test.YtlcbajdckgcopaaGrA
import Derived.Test.YtlcbajdckgcopaaSpnO
import Derived.Test.YtlcbajdckgcopaaTopA
namespace Go.Proofs.Ytlcbajdckgcopaa
open Go.RowKit

set_option maxHeartbeats 2000000 in
set_option maxRecDepth 100000 in
theorem equal_any (l m : List Sp) (A A' : Option Addr) (n n' c c' B B' : Nat) (w : World) (hr : Rd w B 3 A n (spCells l)) (hr' : Rd w B' 3 A' n' (spCells m)) (hn : n ≤ 100000000000) (hn' : n' ≤ 100000000000) :
    Calls Try.prog 124 #[.slice A n c, .slice A' n' c'] w fun e w' => e = .returned (.bool (decide (l = m))) ∧ Keep Never w w' := by
  have Hl := Lib.hid hr.sp_len
  have Hm := Lib.hid hr'.sp_len
  have Hr := Lib.hid hr
  have Hr' := Lib.hid hr'
  clear hr hr'
  by_cases hne : n = n'
  · subst hne
    go_enter Try.func124, Try.ntmps124
    go_wp2_with fail
    go_loopw [13] (fun i wr => ∃ k : Nat, k ≤ n ∧ i = .int .i64 k ∧ Hid (Keep Never w wr ∧ l.take k = m.take k)) (fun i _ => n - (intOf i).toNat)
    case atStart => exact ⟨0, by omega, rfl, Keep.refl _ _, by simp⟩
    case round =>
      obtain ⟨k, hk, rfl, HH⟩ := hrel
      by_cases h0 : k < n
      · obtain ⟨ad, x, hA, _, hx, c0, c1, c2⟩ := (Hr.out.keep HH.out.1 (fun _ h => h.elim)).sp h0
        obtain ⟨ad', y, hA', _, hy, d0, d1, d2⟩ := (Hr'.out.keep HH.out.1 (fun _ h => h.elim)).sp h0
        subst hA
        subst hA'
        obtain ⟨x1, x2, x3⟩ := x
        obtain ⟨y1, y2, y3⟩ := y
        simp only at c0 c1 c2 d0 d1 d2
        have HX := Lib.hid hx
        have HY := Lib.hid hy
        have hki : (k : Int) < (n : Int) := by omega
        have hk00 : (0 : Int) ≤ (k : Int) := by omega
        clear hx hy
        have htx : Hid (l.take (k + 1) = l.take k ++ [(x1, x2, x3)]) := by
          obtain ⟨h2, h3⟩ := List.getElem?_eq_some_iff.1 HX.out
          show _ = _
          rw [List.take_succ_eq_append_getElem h2, h3]
        have hty : Hid (m.take (k + 1) = m.take k ++ [(y1, y2, y3)]) := by
          obtain ⟨h2, h3⟩ := List.getElem?_eq_some_iff.1 HY.out
          show _ = _
          rw [List.take_succ_eq_append_getElem h2, h3]
        by_cases hxy : x1 = y1 ∧ x2 = y2 ∧ x3 = y3
        · obtain ⟨rfl, rfl, rfl⟩ := hxy
          go_wp2_with fail
          go_quiet (fail)
          go_wp2_with fail
          go_roundw
          case rel => exact ⟨k + 1, by omega, by go_num, HH.out.1.drewN _, by rw [htx.out, hty.out, HH.out.2]⟩
          case measure => simp [intOf]; try omega
        · have hb : (x1 == y1) = false ∨ ((x1 == y1) = true ∧ (x2 == y2) = false) ∨ ((x1 == y1) = true ∧ (x2 == y2) = true ∧ (x3 == y3) = false) := by
            by_cases h : x1 = y1
            · right
              by_cases h2 : x2 = y2
              · right; exact ⟨by simpa using h, by simpa using h2, by simp; exact fun h' => hxy ⟨h, h2, h'⟩⟩
              · left; exact ⟨by simpa using h, by simpa using h2⟩
            · exact .inl (by simpa using h)
          have hne : Hid (decide (l = m) = false) := by
            show _ = _
            rw [decide_eq_false_iff_not]
            intro e
            have h1 := HX.out
            rw [e, HY.out] at h1
            injection h1 with h1
            injection h1 with h1 h2
            injection h2 with h2 h3
            exact hxy ⟨h1.symm, h2.symm, h3.symm⟩
          clear hxy
          rcases hb with hb | ⟨hb, hb2⟩ | ⟨hb, hb2, hb3⟩
          all_goals
            go_wp2_with fail
            go_quiet (fail)
            go_wp2_with fail
            go_ret
            exact ⟨by rw [hne.out]; rfl, HH.out.1.drewN _⟩
      · obtain rfl : k = n := by omega
        have he : Hid (decide (l = m) = true) := by
          show _ = _
          rw [decide_eq_true_iff]
          have := HH.out.2
          rwa [List.take_of_length_le (by rw [Hl.out]; exact Nat.le_refl _), List.take_of_length_le (by rw [Hm.out]; exact Nat.le_refl _)] at this
        go_wp2_with fail
        go_ret
        exact ⟨by rw [he.out]; rfl, HH.out.1⟩
  · have he : Hid (decide (l = m) = false) := by
      show _ = _
      rw [decide_eq_false_iff_not]
      intro e
      have h1 := Hl.out
      rw [e, Hm.out] at h1
      exact hne h1.symm
    have hb : ((n : Int) == (n' : Int)) = false := by simp; omega
    clear hne
    go_enter Try.func124, Try.ntmps124
    go_wp2_with fail
    go_ret
    exact ⟨by rw [he.out]; rfl, Keep.refl _ _⟩


theorem SpAt.keep_ {w w' : World} {B n c : Nat} {A : Option Addr} {l : List Sp} (h : SpAt w B A n c l) (hk : ∀ p : Addr, p.block < B → p.block < w.heap.size → w'.cell? p = w.cell? p) : SpAt w' B A n c l := ⟨h.rd.keep_ hk, h.nil, h.cap⟩
/-- an entry in its cells -/
def repE : Rep Ent where
  size := 4
  cells w B e cs := ∃ A n c, cs = [.int .i64 e.1, .int .i64 e.2.1, .slice A n c, .bool e.2.2.2] ∧ SpAt w B A n c e.2.2.1
  len := by rintro w B a cs ⟨A, n, c, rfl, _⟩; rfl
  one := by rintro w B a cs ⟨A, n, c, rfl, _⟩ u hu; simp at hu; rcases hu with rfl | rfl | rfl | rfl <;> rfl
  keep_ := by rintro w w' B a cs ⟨A, n, c, rfl, h⟩ hk; exact ⟨A, n, c, rfl, h.keep_ hk⟩
  more := by rintro w B B' a cs ⟨A, n, c, rfl, h⟩ hk; exact ⟨A, n, c, rfl, h.more hk⟩
def repEnt : Rep Ent := Rep.int.pair (Rep.int.pair (repSp.list.pair Rep.bool))
def repLdg : Rep Ldg := repEnt.list.pair (repSp.list.pair Rep.bool)
theorem opens_ent : Rep.Opens Try.prog 77 repEnt :=
  Rep.opens_struct Try.underlying77 (by kernel_rfl) (Rep.fopens_cons rfl (by kernel_rfl) (Rep.opens_int Try.underlying3) (Rep.fopens_cons rfl (by kernel_rfl) (Rep.opens_int Try.underlying3) (Rep.fopens_cons rfl (by kernel_rfl) opens_sps (Rep.fopens_last rfl (by kernel_rfl) (Rep.opens_bool Try.underlying4)))))
theorem opens_ents : Rep.Opens Try.prog 50 repEnt.list := Rep.opens_list Try.underlying50 (by kernel_rfl) (by decide) opens_ent
theorem opens_ldg : Rep.Opens Try.prog 53 repLdg :=
  Rep.opens_struct Try.underlying53 (by kernel_rfl) (Rep.fopens_cons rfl (by kernel_rfl) opens_ents (Rep.fopens_cons rfl (by kernel_rfl) opens_sps (Rep.fopens_last rfl (by kernel_rfl) (Rep.opens_bool Try.underlying4))))
theorem sps_at {w : World} {B n c : Nat} {A : Option Addr} {l : List Sp} (s : repSp.Sl w B A n c l) : SpAt w B A n c l := by
  obtain ⟨h1, h2, h3, h4, h5, h6⟩ := sps_rd s
  exact ⟨h1, h5, h3⟩
theorem ent_cells {w : World} {B : Nat} {e : Ent} {cs : List Value} (h : repEnt.cells w B e cs) : repE.cells w B e cs := by
  obtain ⟨c1, d1, rfl, ⟨rfl, _⟩, c2, d2, rfl, ⟨rfl, _⟩, c3, d3, rfl, ⟨A, n, c, rfl, hs⟩, rfl⟩ := h
  exact ⟨A, n, c, rfl, sps_at hs⟩
theorem ents_at {w : World} {B n c : Nat} {A : Option Addr} {l : List Ent} (h : repEnt.Sl w B A n c l) : repE.Sl w B A n c l := by
  obtain ⟨h1, h2, h3, h4, css, h5, h6⟩ := h
  exact ⟨h1, h2, h3, h4, css, h5, h6.imp fun _ _ h => ent_cells h⟩
/-- where a ledger's parts lie -/
structure LA where
  A : Option Addr
  n : Nat
  c : Nat
  A2 : Option Addr
  n2 : Nat
  c2 : Nat
  k : Bool
abbrev LA.cs (x : LA) : Array Value := #[.slice x.A x.n x.c, .slice x.A2 x.n2 x.c2, .bool x.k]
structure LdAt (w : World) (B : Nat) (x : LA) (l : Ldg) : Prop where
  e : repE.Sl w B x.A x.n x.c l.1
  h : SpAt w B x.A2 x.n2 x.c2 l.2.1
  k : x.k = l.2.2
theorem LdAt.of {w : World} {B : Nat} {l : Ldg} {cs : List Value} (h : repLdg.cells w B l cs) : ∃ x : LA, cs = x.cs.toList ∧ LdAt w B x l := by
  obtain ⟨c1, d1, rfl, ⟨A, n, c, rfl, he⟩, c2, d2, rfl, ⟨A2, n2, c2, rfl, hs⟩, rfl⟩ := h
  exact ⟨⟨A, n, c, A2, n2, c2, l.2.2⟩, rfl, ents_at he, sps_at hs, rfl⟩
theorem LdAt.keep {w w' : World} {B : Nat} {x : LA} {l : Ldg} (h : LdAt w B x l) (hk : Keep Never w w') : LdAt w' B x l := ⟨h.e.keep hk (fun _ h => h.elim), h.h.keep hk, h.k⟩
theorem LdAt.more {w : World} {B B' : Nat} {x : LA} {l : Ldg} (h : LdAt w B x l) (hB : B ≤ B') : LdAt w B' x l := ⟨h.e.more hB, h.h.more hB, h.k⟩
theorem ent_at {w : World} {B n c i : Nat} {A : Option Addr} {l : List Ent} (h : repE.Sl w B A n c l) (hi : i < n) : ∃ ad e A2 n2 c2, A = some ad ∧ ad.block < B ∧ l[i]? = some e ∧ w.cell? (ad.add (i * 4)) = some (.int .i64 e.1) ∧ w.cell? ⟨(ad.add (i * 4)).block, (ad.add (i * 4)).off + 1, none⟩ = some (.int .i64 e.2.1) ∧
    w.cell? ⟨(ad.add (i * 4)).block, (ad.add (i * 4)).off + 2, none⟩ = some (.slice A2 n2 c2) ∧ w.cell? ⟨(ad.add (i * 4)).block, (ad.add (i * 4)).off + 3, none⟩ = some (.bool e.2.2.2) ∧ SpAt w B A2 n2 c2 e.2.2.1 := by
  obtain ⟨ad, s, cs, e, hb, hs, ⟨A2, n2, c2, rfl, hx⟩, hc⟩ := h.at_ hi
  have c0 := hc 0 (by decide)
  have c1 := hc 1 (by decide)
  have c2' := hc 2 (by decide)
  have c3 := hc 3 (by decide)
  have hsz : repE.size = 4 := rfl
  rw [hsz] at c0 c1 c2' c3
  rw [fld _ _ (by omega)] at c1 c2' c3
  exact ⟨ad, s, A2, n2, c2, e, hb, hs, c0, c1, c2', c3, hx⟩
theorem take_ent {l : List Ent} {k : Nat} {e : Ent} (h : l[k]? = some e) : l.take (k + 1) = l.take k ++ [e] := by
  obtain ⟨h2, h3⟩ := List.getElem?_eq_some_iff.1 h
  rw [List.take_succ_eq_append_getElem h2, h3]
theorem lastT_app : ∀ (a b : List Ent) (t : Int), lastT t (a ++ b) = lastT (lastT t a) b
  | [], b, t => rfl
  | e :: a, b, t => by simp only [List.cons_append, lastT, lastT_app a b]
theorem listB_take {t : Int} {l : List Ent} {k : Nat} {e : Ent} (h : l[k]? = some e) : listB t (l.take (k + 1)) = (listB t (l.take k) && (entB e && decide (lastT t (l.take k) ≤ e.1))) := by
  rw [take_ent h, listB_app]; simp [listB]
theorem listB_cut {t : Int} {l : List Ent} {k : Nat} (h : listB t (l.take k) = false) : listB t l = false := by
  rw [← List.take_append_drop k l, listB_app, h]; rfl

set_option maxHeartbeats 4000000 in
set_option maxRecDepth 100000 in
theorem gnormal_any (A : Option Addr) (n c B : Nat) (l : List Sp) (w : World) (h : SpAt w B A n c l) (hn : n ≤ 100000000) (hB : B ≤ w.heap.size) :
    Calls Try.prog 85 #[.slice A n c] w fun e w' => e = .returned (.bool (normB l)) ∧ Keep Never w w' := by
  have HC := Lib.hid (norm_any A n c B l w h.rd h.nil h.cap (by omega) hB)
  have HS := Lib.hid h
  have HLl := Lib.hid h.len
  clear h hB
  go_enter Try.func85, Try.ntmps85
  go_wp2_with fail
  refine HC.out.mono ?_
  rintro e w1 ⟨m, A1, n1, c1, rfl, hn1, ho1, hk1, hp1, hl1⟩
  obtain rfl := normM_eq hp1
  have hn1' : n1 ≤ 100000000 := by have := HLl.out; omega
  have HE := Lib.hid (equal_any (normM l) l A1 A n1 n c1 c w1.heap.size B w1 ho1.rd (HS.out.keep hk1).rd (by omega) (by omega))
  have HK := Lib.hid hk1
  clear hn1 ho1 hk1 hp1 hl1 HC hn1'
  go_wp2_with fail
  refine HE.out.mono ?_
  rintro e w2 ⟨rfl, hk2⟩
  go_wp2_with fail
  go_ret
  exact ⟨rfl, HK.out.trans hk2⟩

set_option maxHeartbeats 4000000 in
set_option maxRecDepth 100000 in
theorem gmay_any (t u : Int) (b : Bool) (A : Option Addr) (n c B : Nat) (x : List Sp) (w : World) (h : SpAt w B A n c x) (hn : n ≤ 100000000) (hB : B ≤ w.heap.size) :
    Calls Try.prog 123 #[.agg #[.int .i64 t, .int .i64 u, .slice A n c, .bool b]] w fun e w' => e = .returned (.bool (entB (t, u, x, b))) ∧ Keep Never w w' := by
  have HN := Lib.hid (fun (W : World) (hk : Keep Never w W) => gnormal_any A n c B x W (h.keep hk) hn (Nat.le_trans hB hk.size))
  have HLl := Lib.hid h.len
  clear h hB
  obtain ⟨w1, hw1⟩ : ∃ W : World, w.alloc (.cells #[.int .i64 t, .int .i64 u, .slice A n c, .bool b] 77) = W := ⟨_, rfl⟩
  have kw1 : Keep Never w w1 := by rw [← hw1]; exact (Keep.refl _ _).alloc _
  have bw1 := Blk.new w 77 #[.int .i64 t, .int .i64 u, .slice A n c, .bool b]
  rw [hw1] at bw1
  have HB1 := Lib.hid bw1
  have HK := Lib.hid kw1
  have y0 : w1.cell? ⟨w.heap.size, 0, none⟩ = some (.int .i64 t) := HB1.out.cell 0
  have y1 : w1.cell? ⟨w.heap.size, 1, none⟩ = some (.int .i64 u) := HB1.out.cell 1
  have y2 : w1.cell? ⟨w.heap.size, 2, none⟩ = some (.slice A n c) := HB1.out.cell 2
  clear kw1 bw1
  by_cases g0 : 0 ≤ t
  case neg =>
    have t0 : decide (t ≥ 0) = false := by simpa using g0
    have HF : Hid (entB (t, u, x, b) = false) := Lib.hid (by unfold entB; simp [g0])
    clear g0
    go_enter Try.func123, Try.ntmps123
    go_wp2_with fail
    go_ret
    exact ⟨by rw [HF.out]; rfl, HK.out⟩
  have t0 : decide (t ≥ 0) = true := by simpa using g0
  by_cases g1 : t ≤ 4294967294
  case neg =>
    have t1 : decide (t ≤ 4294967294) = false := by simpa using g1
    have HF : Hid (entB (t, u, x, b) = false) := Lib.hid (by unfold entB; simp [g1])
    clear g0 g1
    go_enter Try.func123, Try.ntmps123
    go_wp2_with fail
    go_ret
    exact ⟨by rw [HF.out]; rfl, HK.out⟩
  have t1 : decide (t ≤ 4294967294) = true := by simpa using g1
  by_cases g2 : 0 ≤ u
  case neg =>
    have t2 : decide (u ≥ 0) = false := by simpa using g2
    have HF : Hid (entB (t, u, x, b) = false) := Lib.hid (by unfold entB; simp [g2])
    clear g0 g1 g2
    go_enter Try.func123, Try.ntmps123
    go_wp2_with fail
    go_ret
    exact ⟨by rw [HF.out]; rfl, HK.out⟩
  have t2 : decide (u ≥ 0) = true := by simpa using g2
  by_cases g3 : u ≤ 1099511627776
  case neg =>
    have t3 : decide (u ≤ 1099511627776) = false := by simpa using g3
    have HF : Hid (entB (t, u, x, b) = false) := Lib.hid (by unfold entB; simp [g3])
    clear g0 g1 g2 g3
    go_enter Try.func123, Try.ntmps123
    go_wp2_with fail
    go_ret
    exact ⟨by rw [HF.out]; rfl, HK.out⟩
  have t3 : decide (u ≤ 1099511627776) = true := by simpa using g3
  by_cases g4 : 0 < n
  case neg =>
    have t4 : decide (0 < n) = false := by simp; omega
    have HF : Hid (entB (t, u, x, b) = false) := Lib.hid (by unfold entB; simp; intros; have := HLl.out; omega)
    clear g0 g1 g2 g3
    go_enter Try.func123, Try.ntmps123
    go_wp2_with fail
    go_ret
    exact ⟨by rw [HF.out]; rfl, HK.out⟩
  have t4 : decide (0 < n) = true := by simp; omega
  have HF : Hid (entB (t, u, x, b) = normB x) := Lib.hid (by have := HLl.out; unfold entB; simp only [decide_eq_true g0, decide_eq_true g1, decide_eq_true g2, decide_eq_true g3, Bool.true_and]; rw [decide_eq_true (by omega), Bool.true_and])
  have HC := Lib.hid (HN.out w1 HK.out)
  clear g0 g1 g2 g3 HN
  go_enter Try.func123, Try.ntmps123
  go_wp2_with fail
  refine HC.out.mono ?_
  rintro e w2 ⟨rfl, hk2⟩
  go_wp2_with fail
  go_ret
  exact ⟨by rw [HF.out]; rfl, HK.out.trans hk2⟩

set_option maxHeartbeats 4000000 in
set_option maxRecDepth 100000 in
theorem gentries_any (A : Option Addr) (n c B : Nat) (l : List Ent) (t : Int) (w : World) (h : repE.Sl w B A n c l) (hn : n ≤ 100000000) (hx : ∀ e ∈ l, e.2.2.1.length ≤ 100000000) (hB : B ≤ w.heap.size) :
    Calls Try.prog 84 #[.slice A n c, .int .i64 t] w fun e w' => e = .returned (.bool (listB t l)) ∧ Keep Never w w' := by
  have HE := Lib.hid h
  have HLl := Lib.hid h.len
  have Hx := Lib.hid hx
  have HBw := Lib.hid hB
  clear h hx hB
  go_enter Try.func84, Try.ntmps84
  go_wp2_with fail
  go_loopw [1, 9] (fun f i wr => ∃ k : Nat, k ≤ n ∧ f = .int .i64 (lastT t (l.take k)) ∧ i = .int .i64 k ∧ Hid (Keep Never w wr ∧ listB t (l.take k) = true)) (fun _ i _ => n - (intOf i).toNat)
  case atStart => exact ⟨0, by omega, by simp [lastT], rfl, Lib.hid ⟨Keep.refl _ _, rfl⟩⟩
  case round =>
    obtain ⟨k, hk, rfl, rfl, HH⟩ := hrel
    obtain ⟨fr, hfr⟩ : ∃ z, lastT t (l.take k) = z := ⟨_, rfl⟩
    rw [hfr]
    have HFr := Lib.hid hfr
    clear hfr
    by_cases h0 : k < n
    · have hkz : (k : Int) < (n : Int) := by omega
      obtain ⟨ad, e, A2, n2, c2, hA, _, he, c0, c1, c2', c3, hsp⟩ := ent_at (HE.out.keep HH.out.1 (fun _ h => h.elim)) h0
      subst hA
      obtain ⟨e0, e1, x, e3⟩ := e
      simp only at c0 c1 c2' c3 hsp
      have Hee := Lib.hid he
      have hn2 : n2 ≤ 100000000 := by have := Hx.out _ (List.mem_of_getElem? he); have := hsp.len; simp only at *; omega
      obtain ⟨W1, hW1⟩ : ∃ W : World, wr.alloc (.cells #[.int .i64 e0, .int .i64 e1, .slice A2 n2 c2, .bool e3] 77) = W := ⟨_, rfl⟩
      have K1 : Keep Never wr W1 := by rw [← hW1]; exact (Keep.refl _ _).alloc _
      have B1 := Blk.new wr 77 #[.int .i64 e0, .int .i64 e1, .slice A2 n2 c2, .bool e3]
      rw [hW1] at B1
      have HB1 := Lib.hid B1
      have HK1 := Lib.hid (HH.out.1.trans K1)
      have d0 : W1.cell? ⟨wr.heap.size, 0, none⟩ = some (.int .i64 e0) := B1.cell 0
      have d1 : W1.cell? ⟨wr.heap.size, 1, none⟩ = some (.int .i64 e1) := B1.cell 1
      have d2 : W1.cell? ⟨wr.heap.size, 2, none⟩ = some (.slice A2 n2 c2) := B1.cell 2
      have d3 : W1.cell? ⟨wr.heap.size, 3, none⟩ = some (.bool e3) := B1.cell 3
      have HC := Lib.hid (gmay_any e0 e1 e3 A2 n2 c2 B x W1 (hsp.keep K1) hn2 (Nat.le_trans HBw.out HK1.out.size))
      clear he K1 B1 hsp hn2
      go_wp2_with fail
      refine HC.out.mono ?_
      rintro e w2 ⟨rfl, hk2⟩
      have HK2 := Lib.hid (HK1.out.trans hk2)
      have f0 : w2.cell? ⟨wr.heap.size, 0, none⟩ = some (.int .i64 e0) := (HB1.out.keep hk2 (fun h => h)).cell 0
      clear hk2 HC d0 d1 d2 d3 c0 c1 c2' c3 hW1
      have HT := Lib.hid (listB_take (t := t) Hee.out)
      cases hb : entB (e0, e1, x, e3) with
      | false =>
        have HF : Hid (listB t l = false) := Lib.hid (listB_cut (k := k + 1) (by rw [HT.out, hb]; simp))
        clear hb
        go_wp2_with fail
        go_ret
        exact ⟨by rw [HF.out]; rfl, HK2.out⟩
      | true =>
        by_cases hf : e0 < fr
        · have t1 : decide (e0 < fr) = true := by simpa using hf
          have HF : Hid (listB t l = false) := Lib.hid (listB_cut (k := k + 1) (by rw [HT.out, HFr.out]; simp; intros; omega))
          clear hb hf
          go_wp2_with fail
          go_ret
          exact ⟨by rw [HF.out]; rfl, HK2.out⟩
        · have t1 : decide (e0 < fr) = false := by simpa using hf
          have HN : Hid (listB t (l.take (k + 1)) = true) := Lib.hid (by rw [HT.out, HFr.out, hb, HH.out.2]; simp; omega)
          have HL2 : Hid (lastT t (l.take (k + 1)) = e0) := Lib.hid (by rw [take_ent Hee.out, lastT_app]; rfl)
          clear hb hf
          go_wp2_with fail
          refine ⟨⟨k + 1, by omega, by rw [HL2.out], by go_num, Lib.hid ⟨HK2.out, HN.out⟩⟩, ?_⟩
          simp [intOf]; try omega
    · obtain rfl : k = n := by omega
      have hkz : ¬ (k : Int) < (k : Int) := by omega
      have HF : Hid (listB t l = true) := Lib.hid (by have := HH.out.2; rwa [List.take_of_length_le (by rw [HLl.out]; exact Nat.le_refl _)] at this)
      go_wp2_with fail
      go_ret
      exact ⟨by rw [HF.out]; rfl, HH.out.1⟩

/-- what is asked of a ledger's size -/
structure LdSmall (x : LA) (l : Ldg) : Prop where
  n : x.n ≤ 100000000
  e : ∀ e ∈ l.1, e.2.2.1.length ≤ 100000000
  h : x.n2 ≤ 100000000
set_option maxHeartbeats 4000000 in
set_option maxRecDepth 100000 in
theorem gMay_any (x : LA) (l : Ldg) (B : Nat) (w : World) (h : LdAt w B x l) (hs : LdSmall x l) (hB : B ≤ w.heap.size) :
    Calls Try.prog 31 #[.agg x.cs] w fun e w' => e = .returned (.bool (mayL l)) ∧ Keep Never w w' := by
  have HE := Lib.hid (fun (W : World) (hk : Keep Never w W) => gentries_any x.A x.n x.c B l.1 0 W ((h.keep hk).e) hs.n hs.e (Nat.le_trans hB hk.size))
  have HN := Lib.hid (fun (W : World) (hk : Keep Never w W) => gnormal_any x.A2 x.n2 x.c2 B l.2.1 W ((h.keep hk).h) hs.h (Nat.le_trans hB hk.size))
  have HLl := Lib.hid (And.intro h.e.len h.h.len)
  have HKn := Lib.hid h.k
  obtain ⟨A, n, c, A2, n2, c2, k⟩ := x
  obtain ⟨es, hr, kn⟩ := l
  simp only [LA.cs] at HE HN HLl HKn ⊢
  obtain rfl := HKn.out
  clear h hB hs HKn
  obtain ⟨w1, hw1⟩ : ∃ W : World, w.alloc (.cells #[.slice A n c, .slice A2 n2 c2, .bool k] 53) = W := ⟨_, rfl⟩
  have kw1 : Keep Never w w1 := by rw [← hw1]; exact (Keep.refl _ _).alloc _
  have bw1 := Blk.new w 53 #[.slice A n c, .slice A2 n2 c2, .bool k]
  rw [hw1] at bw1
  have HB1 := Lib.hid bw1
  have HK := Lib.hid kw1
  have y0 : w1.cell? ⟨w.heap.size, 0, none⟩ = some (.slice A n c) := HB1.out.cell 0
  have y1 : w1.cell? ⟨w.heap.size, 1, none⟩ = some (.slice A2 n2 c2) := HB1.out.cell 1
  have y2 : w1.cell? ⟨w.heap.size, 2, none⟩ = some (.bool k) := HB1.out.cell 2
  clear kw1 bw1
  by_cases g0 : n ≤ 32
  case neg =>
    have t0 : decide ((n : Int) ≤ 32) = false := by simp; omega
    have HF : Hid (mayL (es, hr, k) = false) := Lib.hid (by have := HLl.out.1; unfold mayL; rw [decide_eq_false (by simp only; omega)]; rfl)
    clear g0
    go_enter Try.func31, Try.ntmps31
    go_wp2_with fail
    go_ret
    exact ⟨by rw [HF.out]; rfl, HK.out⟩
  have t0 : decide ((n : Int) ≤ 32) = true := by simp; omega
  have HF0 : Hid (mayL (es, hr, k) = (listB 0 es && normB hr && (k || decide (hr.length = 0)))) := Lib.hid (by have := HLl.out.1; unfold mayL; rw [decide_eq_true (by simp only; omega), Bool.true_and])
  have HC := Lib.hid (HE.out w1 HK.out)
  clear g0 HE
  go_enter Try.func31, Try.ntmps31
  go_wp2_with fail
  refine HC.out.mono ?_
  rintro e w2 ⟨rfl, hk2⟩
  have HK2 := Lib.hid (HK.out.trans hk2)
  have hb2 := HB1.out.keep hk2 (fun h => h)
  have v1 : w2.cell? ⟨w.heap.size, 1, none⟩ = some (.slice A2 n2 c2) := hb2.cell 1
  have HB2 := Lib.hid hb2
  clear hk2 HC y0 y1 y2 hw1 hb2
  cases hb : listB 0 es with
  | false =>
    have HF : Hid (mayL (es, hr, k) = false) := Lib.hid (by rw [HF0.out, hb]; rfl)
    clear hb
    go_wp2_with fail
    go_ret
    exact ⟨by rw [HF.out]; rfl, HK2.out⟩
  | true =>
    have HF1 : Hid (mayL (es, hr, k) = (normB hr && (k || decide (hr.length = 0)))) := Lib.hid (by rw [HF0.out, hb, Bool.true_and])
    have HC := Lib.hid (HN.out w2 HK2.out)
    clear hb HF0 HN
    go_wp2_with fail
    refine HC.out.mono ?_
    rintro e w3 ⟨rfl, hk3⟩
    have HK3 := Lib.hid (HK2.out.trans hk3)
    have hb3 := HB2.out.keep hk3 (fun h => h)
    have u1 : w3.cell? ⟨w.heap.size, 1, none⟩ = some (.slice A2 n2 c2) := hb3.cell 1
    have u2 : w3.cell? ⟨w.heap.size, 2, none⟩ = some (.bool k) := hb3.cell 2
    clear hk3 HC v1 hb3
    cases hb : normB hr with
    | false =>
      have HF : Hid (mayL (es, hr, k) = false) := Lib.hid (by rw [HF1.out, hb]; rfl)
      clear hb
      go_wp2_with fail
      go_ret
      exact ⟨by rw [HF.out]; rfl, HK3.out⟩
    | true =>
      cases k with
      | true =>
        have HF : Hid (mayL (es, hr, true) = true) := Lib.hid (by rw [HF1.out, hb]; rfl)
        clear hb
        go_wp2_with fail
        go_ret
        exact ⟨by rw [HF.out]; rfl, HK3.out⟩
      | false =>
        by_cases g1 : n2 = 0
        · have t1 : ((n2 : Int) == 0) = true := by simp; omega
          have HF : Hid (mayL (es, hr, false) = true) := Lib.hid (by rw [HF1.out, hb]; have := HLl.out.2; rw [decide_eq_true (by omega)]; rfl)
          clear hb g1
          go_wp2_with fail
          go_ret
          exact ⟨by rw [HF.out]; rfl, HK3.out⟩
        · have t1 : ((n2 : Int) == 0) = false := by simp; omega
          have HF : Hid (mayL (es, hr, false) = false) := Lib.hid (by rw [HF1.out, hb]; have := HLl.out.2; rw [decide_eq_false (by omega)]; rfl)
          clear hb g1
          go_wp2_with fail
          go_ret
          exact ⟨by rw [HF.out]; rfl, HK3.out⟩

end Go.Proofs.Ytlcbajdckgcopaa
