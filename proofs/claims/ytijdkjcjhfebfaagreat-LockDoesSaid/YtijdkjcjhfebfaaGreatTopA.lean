/- Chapter 13's shapes (topo): steps, ends, joints, tracks; there, enters, leaves and the document's edge, In, Out. -/
import Derived.Test.YtijdkjcjhfebfaaGreatRep
import Derived.Deep.RegionHeld3
import Derived.StillTailTactics
import Derived.IntWalk
namespace Go.Proofs.YtijdkjcjhfebfaaGreat
open Go.RowKit

abbrev Stp := Int × Bool
abbrev En := Int × Int
abbrev Jt := En × En
abbrev Bl := Int × Int × Int
abbrev Rt := Int × List Stp × Int × Int
abbrev Tp := List Int × List Jt × List Bl × List Rt
def repStp : Rep Stp := Rep.int.pair Rep.bool
def repEn : Rep En := Rep.int.pair Rep.int
def repJt : Rep Jt := repEn.pair repEn
def repBl : Rep Bl := Rep.int.pair (Rep.int.pair Rep.int)
def repRt : Rep Rt := Rep.int.pair (repStp.list.pair (Rep.int.pair Rep.int))
def repTp : Rep Tp := Rep.int.list.pair (repJt.list.pair (repBl.list.pair repRt.list))
theorem opens_stp : Rep.Opens Tryz.prog 81 repStp :=
  Rep.opens_struct Tryz.underlying81 (by kernel_rfl) (Rep.fopens_cons rfl (by kernel_rfl) (Rep.opens_int Tryz.underlying3) (Rep.fopens_last rfl (by kernel_rfl) (Rep.opens_bool Tryz.underlying4)))
theorem opens_stps : Rep.Opens Tryz.prog 55 repStp.list := Rep.opens_list Tryz.underlying55 (by kernel_rfl) (by decide) opens_stp
theorem opens_en : Rep.Opens Tryz.prog 75 repEn :=
  Rep.opens_struct Tryz.underlying75 (by kernel_rfl) (Rep.fopens_cons rfl (by kernel_rfl) (Rep.opens_int Tryz.underlying3) (Rep.fopens_last rfl (by kernel_rfl) (Rep.opens_int Tryz.underlying3)))
theorem opens_jt : Rep.Opens Tryz.prog 77 repJt :=
  Rep.opens_struct Tryz.underlying77 (by kernel_rfl) (Rep.fopens_cons rfl (by kernel_rfl) opens_en (Rep.fopens_last rfl (by kernel_rfl) opens_en))
theorem opens_bl : Rep.Opens Tryz.prog 79 repBl :=
  Rep.opens_struct Tryz.underlying79 (by kernel_rfl) (Rep.fopens_cons rfl (by kernel_rfl) (Rep.opens_int Tryz.underlying3) (Rep.fopens_cons rfl (by kernel_rfl) (Rep.opens_int Tryz.underlying3) (Rep.fopens_last rfl (by kernel_rfl) (Rep.opens_int Tryz.underlying3))))
theorem opens_rt : Rep.Opens Tryz.prog 57 repRt :=
  Rep.opens_struct Tryz.underlying57 (by kernel_rfl) (Rep.fopens_cons rfl (by kernel_rfl) (Rep.opens_int Tryz.underlying3) (Rep.fopens_cons rfl (by kernel_rfl) opens_stps (Rep.fopens_cons rfl (by kernel_rfl) (Rep.opens_int Tryz.underlying3) (Rep.fopens_last rfl (by kernel_rfl) (Rep.opens_int Tryz.underlying3)))))
theorem opens_tp : Rep.Opens Tryz.prog 27 repTp :=
  Rep.opens_struct Tryz.underlying27 (by kernel_rfl)
    (Rep.fopens_cons rfl (by kernel_rfl) (Rep.opens_list Tryz.underlying22 (by kernel_rfl) (by decide) (Rep.opens_int Tryz.underlying3))
      (Rep.fopens_cons rfl (by kernel_rfl) (Rep.opens_list Tryz.underlying23 (by kernel_rfl) (by decide) opens_jt)
        (Rep.fopens_cons rfl (by kernel_rfl) (Rep.opens_list Tryz.underlying24 (by kernel_rfl) (by decide) opens_bl)
          (Rep.fopens_last rfl (by kernel_rfl) (Rep.opens_list Tryz.underlying25 (by kernel_rfl) (by decide) opens_rt)))))

/-- where a track's four lists lie -/
structure TA where
  Ae : Option Addr
  ne : Nat
  ce : Nat
  Aj : Option Addr
  nj : Nat
  cj : Nat
  Ab : Option Addr
  nb : Nat
  cb : Nat
  Ar : Option Addr
  nr : Nat
  cr : Nat
abbrev TA.cs (x : TA) : Array Value := #[.slice x.Ae x.ne x.ce, .slice x.Aj x.nj x.cj, .slice x.Ab x.nb x.cb, .slice x.Ar x.nr x.cr]
/-- a track in the program's memory -/
structure TpAt (w : World) (B : Nat) (x : TA) (t : Tp) : Prop where
  e : Rep.int.Sl w B x.Ae x.ne x.ce t.1
  j : repJt.Sl w B x.Aj x.nj x.cj t.2.1
  b : repBl.Sl w B x.Ab x.nb x.cb t.2.2.1
  r : repRt.Sl w B x.Ar x.nr x.cr t.2.2.2
theorem TpAt.of {w : World} {B : Nat} {t : Tp} {cs : List Value} (h : repTp.cells w B t cs) : ∃ x : TA, cs = x.cs.toList ∧ TpAt w B x t := by
  obtain ⟨c1, d1, rfl, ⟨Ae, ne, ce, rfl, he⟩, c2, d2, rfl, ⟨Aj, nj, cj, rfl, hj⟩, c3, d3, rfl, ⟨Ab, nb, cb, rfl, hb⟩, ⟨Ar, nr, cr, rfl, hr⟩⟩ := h
  exact ⟨⟨Ae, ne, ce, Aj, nj, cj, Ab, nb, cb, Ar, nr, cr⟩, rfl, he, hj, hb, hr⟩
theorem TpAt.keep {w w' : World} {B : Nat} {x : TA} {t : Tp} (h : TpAt w B x t) (hk : Keep Never w w') : TpAt w' B x t :=
  ⟨h.e.keep hk (fun _ h => h.elim), h.j.keep hk (fun _ h => h.elim), h.b.keep hk (fun _ h => h.elim), h.r.keep hk (fun _ h => h.elim)⟩
theorem int_rd {w : World} {B n c : Nat} {A : Option Addr} {l : List Int} (h : Rep.int.Sl w B A n c l) : Rd w B 1 A n (l.map (.int .i64)) := by
  obtain ⟨hn, _, _, _, css, h5, h6⟩ := h
  have : css.flatten = l.map (.int .i64) := by
    clear h5 hn
    induction l generalizing css with
    | nil => cases css with
      | nil => rfl
      | cons b m => exact h6.elim
    | cons a l ih => cases css with
      | nil => exact h6.elim
      | cons b m => rw [List.flatten_cons, ih m h6.2, h6.1.1]; rfl
  rw [this] at h5
  exact h5
theorem stp_at {w : World} {B n c i : Nat} {A : Option Addr} {l : List Stp} (h : repStp.Sl w B A n c l) (hi : i < n) : ∃ ad s, A = some ad ∧ ad.block < B ∧ l[i]? = some s ∧ w.cell? (ad.add (i * 2)) = some (.int .i64 s.1) ∧ w.cell? ⟨(ad.add (i * 2)).block, (ad.add (i * 2)).off + 1, none⟩ = some (.bool s.2) ∧ (-9223372036854775808 ≤ s.1 ∧ s.1 ≤ 9223372036854775807) := by
  obtain ⟨ad, s, cs, e, hb, hs, ⟨c1, d1, rfl, ⟨rfl, h1⟩, rfl⟩, hc⟩ := h.at_ hi
  have c0 := hc 0 (by decide)
  have c1 := hc 1 (by decide)
  have hsz : repStp.size = 2 := rfl
  rw [hsz] at c0 c1
  rw [fld _ _ (by omega)] at c1
  exact ⟨ad, s, e, hb, hs, c0, c1, h1⟩
theorem jt_at {w : World} {B n c i : Nat} {A : Option Addr} {l : List Jt} (h : repJt.Sl w B A n c l) (hi : i < n) : ∃ ad s, A = some ad ∧ ad.block < B ∧ l[i]? = some s ∧ w.cell? (ad.add (i * 4)) = some (.int .i64 s.1.1) ∧ w.cell? ⟨(ad.add (i * 4)).block, (ad.add (i * 4)).off + 1, none⟩ = some (.int .i64 s.1.2) ∧
    w.cell? ⟨(ad.add (i * 4)).block, (ad.add (i * 4)).off + 2, none⟩ = some (.int .i64 s.2.1) ∧ w.cell? ⟨(ad.add (i * 4)).block, (ad.add (i * 4)).off + 3, none⟩ = some (.int .i64 s.2.2) := by
  obtain ⟨ad, s, cs, e, hb, hs, ⟨c1, d1, rfl, ⟨c2, d2, rfl, ⟨rfl, _⟩, ⟨rfl, _⟩⟩, ⟨c3, d3, rfl, ⟨rfl, _⟩, ⟨rfl, _⟩⟩⟩, hc⟩ := h.at_ hi
  have c0 := hc 0 (by decide)
  have c1 := hc 1 (by decide)
  have c2 := hc 2 (by decide)
  have c3 := hc 3 (by decide)
  have hsz : repJt.size = 4 := rfl
  rw [hsz] at c0 c1 c2 c3
  rw [fld _ _ (by omega)] at c1 c2 c3
  exact ⟨ad, s, e, hb, hs, c0, c1, c2, c3⟩

def inE (s : Stp) : En := (s.1, if s.2 = true then 1 else 0)
def outE (s : Stp) : En := (s.1, if s.2 = true then 0 else 1)
def thereB (ne : Nat) (x : Int) : Bool := decide (0 ≤ x) && decide (x < (ne : Int))
set_option maxHeartbeats 1000000 in
set_option maxRecDepth 100000 in
theorem there_any (x : TA) (i : Int) (w : World) :
    Calls Tryz.prog 58 #[.agg x.cs, .int .i64 i] w fun e w' => e = .returned (.bool (thereB x.ne i)) ∧ Keep Never w w' := by
  obtain ⟨Ae, ne, ce, Aj, nj, cj, Ab, nb, cb, Ar, nr, cr⟩ := x
  simp only [TA.cs]
  obtain ⟨wb, hwb⟩ : ∃ wb : World, w.alloc (.cells #[.slice Ae ne ce, .slice Aj nj cj, .slice Ab nb cb, .slice Ar nr cr] 27) = wb := ⟨_, rfl⟩
  have hkb : Keep Never w wb := by rw [← hwb]; exact (Keep.refl _ _).alloc _
  have hbb := Blk.new w 27 #[.slice Ae ne ce, .slice Aj nj cj, .slice Ab nb cb, .slice Ar nr cr]
  rw [hwb] at hbb
  have y0 : wb.cell? ⟨w.heap.size, 0, none⟩ = some (.slice Ae ne ce) := hbb.cell 0
  have HK := Lib.hid hkb
  clear hkb hbb
  by_cases h0 : 0 ≤ i
  · have t0 : decide (i ≥ 0) = true := by simpa using h0
    by_cases h1 : i < (ne : Int)
    · have t1 : decide (i < (ne : Int)) = true := by simpa using h1
      have hB : Hid (thereB ne i = true) := Lib.hid (by unfold thereB; simp [h0, h1])
      clear h0 h1
      go_enter Tryz.func58, Tryz.ntmps58
      go_wp2_with fail
      go_ret
      exact ⟨by rw [hB.out]; rfl, HK.out⟩
    · have t1 : decide (i < (ne : Int)) = false := by simpa using h1
      have hB : Hid (thereB ne i = false) := Lib.hid (by unfold thereB; simp [h1])
      clear h0 h1
      go_enter Tryz.func58, Tryz.ntmps58
      go_wp2_with fail
      go_ret
      exact ⟨by rw [hB.out]; rfl, HK.out⟩
  · have t0 : decide (i ≥ 0) = false := by simpa using h0
    have hB : Hid (thereB ne i = false) := Lib.hid (by unfold thereB; simp [h0])
    clear h0
    go_enter Tryz.func58, Tryz.ntmps58
    go_wp2_with fail
    go_ret
    exact ⟨by rw [hB.out]; rfl, HK.out⟩
set_option maxHeartbeats 1000000 in
set_option maxRecDepth 100000 in
theorem redge_any (x : TA) (i : Int) (w : World) :
    Calls Tryz.prog 63 #[.agg x.cs, .int .i64 i] w fun e w' => e = .returned (.bool (thereB x.ne i)) ∧ Keep Never w w' := by
  obtain ⟨Ae, ne, ce, Aj, nj, cj, Ab, nb, cb, Ar, nr, cr⟩ := x
  simp only [TA.cs]
  obtain ⟨wb, hwb⟩ : ∃ wb : World, w.alloc (.cells #[.slice Ae ne ce, .slice Aj nj cj, .slice Ab nb cb, .slice Ar nr cr] 27) = wb := ⟨_, rfl⟩
  have hkb : Keep Never w wb := by rw [← hwb]; exact (Keep.refl _ _).alloc _
  have hbb := Blk.new w 27 #[.slice Ae ne ce, .slice Aj nj cj, .slice Ab nb cb, .slice Ar nr cr]
  rw [hwb] at hbb
  have y0 : wb.cell? ⟨w.heap.size, 0, none⟩ = some (.slice Ae ne ce) := hbb.cell 0
  have HK := Lib.hid hkb
  clear hkb hbb
  by_cases h0 : 0 ≤ i
  · have t0 : decide (i ≥ 0) = true := by simpa using h0
    by_cases h1 : i < (ne : Int)
    · have t1 : decide (i < (ne : Int)) = true := by simpa using h1
      have hB : Hid (thereB ne i = true) := Lib.hid (by unfold thereB; simp [h0, h1])
      clear h0 h1
      go_enter Tryz.func63, Tryz.ntmps63
      go_wp2_with fail
      go_ret
      exact ⟨by rw [hB.out]; rfl, HK.out⟩
    · have t1 : decide (i < (ne : Int)) = false := by simpa using h1
      have hB : Hid (thereB ne i = false) := Lib.hid (by unfold thereB; simp [h1])
      clear h0 h1
      go_enter Tryz.func63, Tryz.ntmps63
      go_wp2_with fail
      go_ret
      exact ⟨by rw [hB.out]; rfl, HK.out⟩
  · have t0 : decide (i ≥ 0) = false := by simpa using h0
    have hB : Hid (thereB ne i = false) := Lib.hid (by unfold thereB; simp [h0])
    clear h0
    go_enter Tryz.func63, Tryz.ntmps63
    go_wp2_with fail
    go_ret
    exact ⟨by rw [hB.out]; rfl, HK.out⟩
set_option maxRecDepth 100000 in
theorem end_results {fn : Func} (h : fn.results = #[.cell 2 75]) {w : World} {b : Nat} {v0 v1 : Value} (hb : Blk w b 75 #[v0, v1]) (tmps : Array Value) (ht : tmps.getD 2 undef = .pointer (some ⟨b, 0, none⟩)) :
    (results fn tmps).run Tryz.prog w = .ok (.agg #[v0, v1]) w := by
  have q0 : w.cell? ⟨b, 0, none⟩ = some v0 := hb.cell 0
  have q1 : w.cell? ⟨b, 1, none⟩ = some v1 := hb.cell 1
  have ht' : tmps[2]?.getD undef = .pointer (some ⟨b, 0, none⟩) := by rw [← Array.getD_eq_getD_getElem?]; exact ht
  simp [results, h, ht', go_sem, q0, q1]
set_option maxHeartbeats 1000000 in
set_option maxRecDepth 100000 in
theorem enters_any (s : Stp) (w : World) :
    Calls Tryz.prog 102 #[.agg #[.int .i64 s.1, .bool s.2]] w fun e w' => e = .returned (.agg #[.int .i64 (inE s).1, .int .i64 (inE s).2]) ∧ Keep Never w w' := by
  obtain ⟨a, b⟩ := s
  simp only
  cases b
  all_goals
    go_enter Tryz.func102, Tryz.ntmps102
    go_wp2_with fail
    refine bodyPost_ret (end_results rfl (Blk.new _ _ _) _ (by simp)) rfl ⟨rfl, ?_⟩
    exact ((Keep.refl Never w).alloc _).alloc _
set_option maxHeartbeats 1000000 in
set_option maxRecDepth 100000 in
theorem rin_any (s : Stp) (w : World) :
    Calls Tryz.prog 90 #[.agg #[.int .i64 s.1, .bool s.2]] w fun e w' => e = .returned (.agg #[.int .i64 (inE s).1, .int .i64 (inE s).2]) ∧ Keep Never w w' := by
  obtain ⟨a, b⟩ := s
  simp only
  cases b
  all_goals
    go_enter Tryz.func90, Tryz.ntmps90
    go_wp2_with fail
    refine bodyPost_ret (end_results rfl (Blk.new _ _ _) _ (by simp)) rfl ⟨rfl, ?_⟩
    exact ((Keep.refl Never w).alloc _).alloc _
set_option maxHeartbeats 1000000 in
set_option maxRecDepth 100000 in
theorem rout_any (s : Stp) (w : World) :
    Calls Tryz.prog 89 #[.agg #[.int .i64 s.1, .bool s.2]] w fun e w' => e = .returned (.agg #[.int .i64 (outE s).1, .int .i64 (outE s).2]) ∧ Keep Never w w' := by
  obtain ⟨a, b⟩ := s
  simp only
  cases b
  all_goals
    go_enter Tryz.func89, Tryz.ntmps89
    go_wp2_with fail
    refine bodyPost_ret (end_results rfl (Blk.new _ _ _) _ (by simp)) rfl ⟨rfl, ?_⟩
    exact ((Keep.refl Never w).alloc _).alloc _
set_option maxHeartbeats 1000000 in
set_option maxRecDepth 100000 in
theorem leaves_any (s : Stp) (w : World) :
    Calls Tryz.prog 101 #[.agg #[.int .i64 s.1, .bool s.2]] w fun e w' => e = .returned (.agg #[.int .i64 (outE s).1, .int .i64 (outE s).2]) ∧ Keep Never w w' := by
  obtain ⟨a, b⟩ := s
  simp only
  have hio : inE (a, !b) = outE (a, b) := by cases b <;> rfl
  have HC := Lib.hid (fun W => enters_any (a, !b) W)
  rw [hio] at HC
  generalize outE (a, b) = o at HC hio ⊢
  obtain ⟨o1, o2⟩ := o
  simp only at HC ⊢
  obtain ⟨w2, hw2⟩ : ∃ w2 : World, (w.alloc (.cells #[.int .i64 a, .bool !b] 81)).alloc (.cells #[.int .i64 0, .int .i64 0] 75) = w2 := ⟨_, rfl⟩
  have hk2 : Keep Never w w2 := by rw [← hw2]; exact ((Keep.refl _ _).alloc _).alloc _
  have hb2 : Blk w2 (w.heap.size + 1) 75 #[.int .i64 0, .int .i64 0] := by
    have h := Blk.new (w.alloc (.cells #[.int .i64 a, .bool !b] 81)) 75 #[.int .i64 0, .int .i64 0]
    have hs : (w.alloc (.cells #[.int .i64 a, .bool !b] 81)).heap.size = w.heap.size + 1 := by simp
    rwa [hs, hw2] at h
  have HK2 := Lib.hid hk2
  have HB2 := Lib.hid hb2
  have HW2 := Lib.hid hw2
  clear hk2 hb2 hio hw2
  go_enter Tryz.func101, Tryz.ntmps101
  go_wp2_with fail
  rw [HW2.out]
  refine (HC.out _).mono ?_
  rintro e w3 ⟨rfl, hk3⟩
  have hb3 := HB2.out.keep hk3 (fun h => h)
  have q0 := hb3.cell 0
  have q1 := hb3.cell 1
  have f0 := hb3.frozen 0
  have f1 := hb3.frozen 1
  have HB3 := Lib.hid hb3
  have HK3 := Lib.hid (HK2.out.trans hk3)
  clear hb3 hk3 HC
  go_wp2_with fail
  refine bodyPost_ret (end_results rfl (v0 := .int .i64 o1) (v1 := .int .i64 o2) (b := w.heap.size + 1) ?_ _ (by simp)) rfl ⟨rfl, ?_⟩
  · have h := (HB3.out.set_ 0 (.int .i64 o1)).set_ 1 (.int .i64 o2)
    simpa using h
  · exact ((HK3.out.set_ (p := ⟨w.heap.size + 1, 0, none⟩) (.inr (by show w.heap.size ≤ w.heap.size + 1; omega)) _).set_ (p := ⟨w.heap.size + 1, 1, none⟩) (.inr (by show w.heap.size ≤ w.heap.size + 1; omega)) _)

/-- do two ends lie at one place? -/
def joinB (l : List Jt) (a b : En) : Bool := l.any fun j => decide (j = (a, b)) || decide (j = (b, a))
def mayJ (l : List Jt) (s t : Stp) : Bool := joinB l (outE s) (inE t)

end Go.Proofs.YtijdkjcjhfebfaaGreat
