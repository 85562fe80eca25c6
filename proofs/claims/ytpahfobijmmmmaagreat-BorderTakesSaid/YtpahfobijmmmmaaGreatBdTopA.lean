/- Chapter 13's shapes (topo): steps, ends, joints, tracks; there, enters, leaves and the document's edge, In, Out. -/
import Derived.Test.YtpahfobijmmmmaaGreatRep
import Derived.Deep.RegionHeld3
import Derived.StillTailTactics
import Derived.IntWalk
namespace Go.Proofs.YtpahfobijmmmmaaGreat
open Go.RowKit

abbrev Stp := Int × Bool
abbrev En := Int × Int
abbrev Jt := En × En
abbrev Bl := Int × Int × Int
abbrev Rt := Int × List Stp × Int × Int
abbrev Tp := List Int × List Jt × List Bl × List Rt
def repStp : Rep Stp := Rep.int.pair Rep.bool
def repEn : Rep En := Rep.int.pair Rep.int
def repJt : Rep Jt := repEn.pair repEn
def repBl : Rep Bl := Rep.int.pair (Rep.int.pair Rep.int)
def repRt : Rep Rt := Rep.int.pair (repStp.list.pair (Rep.int.pair Rep.int))
def repTp : Rep Tp := Rep.int.list.pair (repJt.list.pair (repBl.list.pair repRt.list))
theorem opens_stp : Rep.Opens Tryz.prog 106 repStp :=
  Rep.opens_struct Tryz.underlying106 (by kernel_rfl) (Rep.fopens_cons rfl (by kernel_rfl) (Rep.opens_int Tryz.underlying3) (Rep.fopens_last rfl (by kernel_rfl) (Rep.opens_bool Tryz.underlying4)))
theorem opens_stps : Rep.Opens Tryz.prog 51 repStp.list := Rep.opens_list Tryz.underlying51 (by kernel_rfl) (by decide) opens_stp
theorem opens_en : Rep.Opens Tryz.prog 91 repEn :=
  Rep.opens_struct Tryz.underlying91 (by kernel_rfl) (Rep.fopens_cons rfl (by kernel_rfl) (Rep.opens_int Tryz.underlying3) (Rep.fopens_last rfl (by kernel_rfl) (Rep.opens_int Tryz.underlying3)))
theorem opens_jt : Rep.Opens Tryz.prog 93 repJt :=
  Rep.opens_struct Tryz.underlying93 (by kernel_rfl) (Rep.fopens_cons rfl (by kernel_rfl) opens_en (Rep.fopens_last rfl (by kernel_rfl) opens_en))
theorem opens_bl : Rep.Opens Tryz.prog 97 repBl :=
  Rep.opens_struct Tryz.underlying97 (by kernel_rfl) (Rep.fopens_cons rfl (by kernel_rfl) (Rep.opens_int Tryz.underlying3) (Rep.fopens_cons rfl (by kernel_rfl) (Rep.opens_int Tryz.underlying3) (Rep.fopens_last rfl (by kernel_rfl) (Rep.opens_int Tryz.underlying3))))
theorem opens_rt : Rep.Opens Tryz.prog 53 repRt :=
  Rep.opens_struct Tryz.underlying53 (by kernel_rfl) (Rep.fopens_cons rfl (by kernel_rfl) (Rep.opens_int Tryz.underlying3) (Rep.fopens_cons rfl (by kernel_rfl) opens_stps (Rep.fopens_cons rfl (by kernel_rfl) (Rep.opens_int Tryz.underlying3) (Rep.fopens_last rfl (by kernel_rfl) (Rep.opens_int Tryz.underlying3)))))
theorem opens_tp : Rep.Opens Tryz.prog 27 repTp :=
  Rep.opens_struct Tryz.underlying27 (by kernel_rfl)
    (Rep.fopens_cons rfl (by kernel_rfl) (Rep.opens_list Tryz.underlying22 (by kernel_rfl) (by decide) (Rep.opens_int Tryz.underlying3))
      (Rep.fopens_cons rfl (by kernel_rfl) (Rep.opens_list Tryz.underlying23 (by kernel_rfl) (by decide) opens_jt)
        (Rep.fopens_cons rfl (by kernel_rfl) (Rep.opens_list Tryz.underlying24 (by kernel_rfl) (by decide) opens_bl)
          (Rep.fopens_last rfl (by kernel_rfl) (Rep.opens_list Tryz.underlying25 (by kernel_rfl) (by decide) opens_rt)))))

/-- where a track's four lists lie -/
structure TA where
  Ae : Option Addr
  ne : Nat
  ce : Nat
  Aj : Option Addr
  nj : Nat
  cj : Nat
  Ab : Option Addr
  nb : Nat
  cb : Nat
  Ar : Option Addr
  nr : Nat
  cr : Nat
abbrev TA.cs (x : TA) : Array Value := #[.slice x.Ae x.ne x.ce, .slice x.Aj x.nj x.cj, .slice x.Ab x.nb x.cb, .slice x.Ar x.nr x.cr]
/-- a track in the program's memory -/
structure TpAt (w : World) (B : Nat) (x : TA) (t : Tp) : Prop where
  e : Rep.int.Sl w B x.Ae x.ne x.ce t.1
  j : repJt.Sl w B x.Aj x.nj x.cj t.2.1
  b : repBl.Sl w B x.Ab x.nb x.cb t.2.2.1
  r : repRt.Sl w B x.Ar x.nr x.cr t.2.2.2
theorem TpAt.of {w : World} {B : Nat} {t : Tp} {cs : List Value} (h : repTp.cells w B t cs) : ∃ x : TA, cs = x.cs.toList ∧ TpAt w B x t := by
  obtain ⟨c1, d1, rfl, ⟨Ae, ne, ce, rfl, he⟩, c2, d2, rfl, ⟨Aj, nj, cj, rfl, hj⟩, c3, d3, rfl, ⟨Ab, nb, cb, rfl, hb⟩, ⟨Ar, nr, cr, rfl, hr⟩⟩ := h
  exact ⟨⟨Ae, ne, ce, Aj, nj, cj, Ab, nb, cb, Ar, nr, cr⟩, rfl, he, hj, hb, hr⟩
theorem TpAt.keep {w w' : World} {B : Nat} {x : TA} {t : Tp} (h : TpAt w B x t) (hk : Keep Never w w') : TpAt w' B x t :=
  ⟨h.e.keep hk (fun _ h => h.elim), h.j.keep hk (fun _ h => h.elim), h.b.keep hk (fun _ h => h.elim), h.r.keep hk (fun _ h => h.elim)⟩
theorem int_rd {w : World} {B n c : Nat} {A : Option Addr} {l : List Int} (h : Rep.int.Sl w B A n c l) : Rd w B 1 A n (l.map (.int .i64)) := by
  obtain ⟨hn, _, _, _, css, h5, h6⟩ := h
  have : css.flatten = l.map (.int .i64) := by
    clear h5 hn
    induction l generalizing css with
    | nil => cases css with
      | nil => rfl
      | cons b m => exact h6.elim
    | cons a l ih => cases css with
      | nil => exact h6.elim
      | cons b m => rw [List.flatten_cons, ih m h6.2, h6.1.1]; rfl
  rw [this] at h5
  exact h5
theorem stp_at {w : World} {B n c i : Nat} {A : Option Addr} {l : List Stp} (h : repStp.Sl w B A n c l) (hi : i < n) : ∃ ad s, A = some ad ∧ ad.block < B ∧ l[i]? = some s ∧ w.cell? (ad.add (i * 2)) = some (.int .i64 s.1) ∧ w.cell? ⟨(ad.add (i * 2)).block, (ad.add (i * 2)).off + 1, none⟩ = some (.bool s.2) ∧ (-9223372036854775808 ≤ s.1 ∧ s.1 ≤ 9223372036854775807) := by
  obtain ⟨ad, s, cs, e, hb, hs, ⟨c1, d1, rfl, ⟨rfl, h1⟩, rfl⟩, hc⟩ := h.at_ hi
  have c0 := hc 0 (by decide)
  have c1 := hc 1 (by decide)
  have hsz : repStp.size = 2 := rfl
  rw [hsz] at c0 c1
  rw [fld _ _ (by omega)] at c1
  exact ⟨ad, s, e, hb, hs, c0, c1, h1⟩
theorem jt_at {w : World} {B n c i : Nat} {A : Option Addr} {l : List Jt} (h : repJt.Sl w B A n c l) (hi : i < n) : ∃ ad s, A = some ad ∧ ad.block < B ∧ l[i]? = some s ∧ w.cell? (ad.add (i * 4)) = some (.int .i64 s.1.1) ∧ w.cell? ⟨(ad.add (i * 4)).block, (ad.add (i * 4)).off + 1, none⟩ = some (.int .i64 s.1.2) ∧
    w.cell? ⟨(ad.add (i * 4)).block, (ad.add (i * 4)).off + 2, none⟩ = some (.int .i64 s.2.1) ∧ w.cell? ⟨(ad.add (i * 4)).block, (ad.add (i * 4)).off + 3, none⟩ = some (.int .i64 s.2.2) := by
  obtain ⟨ad, s, cs, e, hb, hs, ⟨c1, d1, rfl, ⟨c2, d2, rfl, ⟨rfl, _⟩, ⟨rfl, _⟩⟩, ⟨c3, d3, rfl, ⟨rfl, _⟩, ⟨rfl, _⟩⟩⟩, hc⟩ := h.at_ hi
  have c0 := hc 0 (by decide)
  have c1 := hc 1 (by decide)
  have c2 := hc 2 (by decide)
  have c3 := hc 3 (by decide)
  have hsz : repJt.size = 4 := rfl
  rw [hsz] at c0 c1 c2 c3
  rw [fld _ _ (by omega)] at c1 c2 c3
  exact ⟨ad, s, e, hb, hs, c0, c1, c2, c3⟩

def inE (s : Stp) : En := (s.1, if s.2 = true then 1 else 0)
def outE (s : Stp) : En := (s.1, if s.2 = true then 0 else 1)
def thereB (ne : Nat) (x : Int) : Bool := decide (0 ≤ x) && decide (x < (ne : Int))
set_option maxHeartbeats 1000000 in
set_option maxRecDepth 100000 in
theorem there_any (x : TA) (i : Int) (w : World) :
    Calls Tryz.prog 55 #[.agg x.cs, .int .i64 i] w fun e w' => e = .returned (.bool (thereB x.ne i)) ∧ Keep Never w w' := by
  obtain ⟨Ae, ne, ce, Aj, nj, cj, Ab, nb, cb, Ar, nr, cr⟩ := x
  simp only [TA.cs]
  obtain ⟨wb, hwb⟩ : ∃ wb : World, w.alloc (.cells #[.slice Ae ne ce, .slice Aj nj cj, .slice Ab nb cb, .slice Ar nr cr] 27) = wb := ⟨_, rfl⟩
  have hkb : Keep Never w wb := by rw [← hwb]; exact (Keep.refl _ _).alloc _
  have hbb := Blk.new w 27 #[.slice Ae ne ce, .slice Aj nj cj, .slice Ab nb cb, .slice Ar nr cr]
  rw [hwb] at hbb
  have y0 : wb.cell? ⟨w.heap.size, 0, none⟩ = some (.slice Ae ne ce) := hbb.cell 0
  have HK := Lib.hid hkb
  clear hkb hbb
  by_cases h0 : 0 ≤ i
  · have t0 : decide (i ≥ 0) = true := by simpa using h0
    by_cases h1 : i < (ne : Int)
    · have t1 : decide (i < (ne : Int)) = true := by simpa using h1
      have hB : Hid (thereB ne i = true) := Lib.hid (by unfold thereB; simp [h0, h1])
      clear h0 h1
      go_enter Tryz.func55, Tryz.ntmps55
      go_wp2_with fail
      go_ret
      exact ⟨by rw [hB.out]; rfl, HK.out⟩
    · have t1 : decide (i < (ne : Int)) = false := by simpa using h1
      have hB : Hid (thereB ne i = false) := Lib.hid (by unfold thereB; simp [h1])
      clear h0 h1
      go_enter Tryz.func55, Tryz.ntmps55
      go_wp2_with fail
      go_ret
      exact ⟨by rw [hB.out]; rfl, HK.out⟩
  · have t0 : decide (i ≥ 0) = false := by simpa using h0
    have hB : Hid (thereB ne i = false) := Lib.hid (by unfold thereB; simp [h0])
    clear h0
    go_enter Tryz.func55, Tryz.ntmps55
    go_wp2_with fail
    go_ret
    exact ⟨by rw [hB.out]; rfl, HK.out⟩
set_option maxHeartbeats 1000000 in
set_option maxRecDepth 100000 in
theorem redge_any (x : TA) (i : Int) (w : World) :
    Calls Tryz.prog 63 #[.agg x.cs, .int .i64 i] w fun e w' => e = .returned (.bool (thereB x.ne i)) ∧ Keep Never w w' := by
  obtain ⟨Ae, ne, ce, Aj, nj, cj, Ab, nb, cb, Ar, nr, cr⟩ := x
  simp only [TA.cs]
  obtain ⟨wb, hwb⟩ : ∃ wb : World, w.alloc (.cells #[.slice Ae ne ce, .slice Aj nj cj, .slice Ab nb cb, .slice Ar nr cr] 27) = wb := ⟨_, rfl⟩
  have hkb : Keep Never w wb := by rw [← hwb]; exact (Keep.refl _ _).alloc _
  have hbb := Blk.new w 27 #[.slice Ae ne ce, .slice Aj nj cj, .slice Ab nb cb, .slice Ar nr cr]
  rw [hwb] at hbb
  have y0 : wb.cell? ⟨w.heap.size, 0, none⟩ = some (.slice Ae ne ce) := hbb.cell 0
  have HK := Lib.hid hkb
  clear hkb hbb
  by_cases h0 : 0 ≤ i
  · have t0 : decide (i ≥ 0) = true := by simpa using h0
    by_cases h1 : i < (ne : Int)
    · have t1 : decide (i < (ne : Int)) = true := by simpa using h1
      have hB : Hid (thereB ne i = true) := Lib.hid (by unfold thereB; simp [h0, h1])
      clear h0 h1
      go_enter Tryz.func63, Tryz.ntmps63
      go_wp2_with fail
      go_ret
      exact ⟨by rw [hB.out]; rfl, HK.out⟩
    · have t1 : decide (i < (ne : Int)) = false := by simpa using h1
      have hB : Hid (thereB ne i = false) := Lib.hid (by unfold thereB; simp [h1])
      clear h0 h1
      go_enter Tryz.func63, Tryz.ntmps63
      go_wp2_with fail
      go_ret
      exact ⟨by rw [hB.out]; rfl, HK.out⟩
  · have t0 : decide (i ≥ 0) = false := by simpa using h0
    have hB : Hid (thereB ne i = false) := Lib.hid (by unfold thereB; simp [h0])
    clear h0
    go_enter Tryz.func63, Tryz.ntmps63
    go_wp2_with fail
    go_ret
    exact ⟨by rw [hB.out]; rfl, HK.out⟩
set_option maxRecDepth 100000 in
theorem end_results {fn : Func} (h : fn.results = #[.cell 2 91]) {w : World} {b : Nat} {v0 v1 : Value} (hb : Blk w b 91 #[v0, v1]) (tmps : Array Value) (ht : tmps.getD 2 undef = .pointer (some ⟨b, 0, none⟩)) :
    (results fn tmps).run Tryz.prog w = .ok (.agg #[v0, v1]) w := by
  have q0 : w.cell? ⟨b, 0, none⟩ = some v0 := hb.cell 0
  have q1 : w.cell? ⟨b, 1, none⟩ = some v1 := hb.cell 1
  have ht' : tmps[2]?.getD undef = .pointer (some ⟨b, 0, none⟩) := by rw [← Array.getD_eq_getD_getElem?]; exact ht
  simp [results, h, ht', go_sem, q0, q1]
set_option maxHeartbeats 1000000 in
set_option maxRecDepth 100000 in
theorem enters_any (s : Stp) (w : World) :
    Calls Tryz.prog 119 #[.agg #[.int .i64 s.1, .bool s.2]] w fun e w' => e = .returned (.agg #[.int .i64 (inE s).1, .int .i64 (inE s).2]) ∧ Keep Never w w' := by
  obtain ⟨a, b⟩ := s
  simp only
  cases b
  all_goals
    go_enter Tryz.func119, Tryz.ntmps119
    go_wp2_with fail
    refine bodyPost_ret (end_results rfl (Blk.new _ _ _) _ (by simp)) rfl ⟨rfl, ?_⟩
    exact ((Keep.refl Never w).alloc _).alloc _
set_option maxHeartbeats 1000000 in
set_option maxRecDepth 100000 in
theorem rin_any (s : Stp) (w : World) :
    Calls Tryz.prog 112 #[.agg #[.int .i64 s.1, .bool s.2]] w fun e w' => e = .returned (.agg #[.int .i64 (inE s).1, .int .i64 (inE s).2]) ∧ Keep Never w w' := by
  obtain ⟨a, b⟩ := s
  simp only
  cases b
  all_goals
    go_enter Tryz.func112, Tryz.ntmps112
    go_wp2_with fail
    refine bodyPost_ret (end_results rfl (Blk.new _ _ _) _ (by simp)) rfl ⟨rfl, ?_⟩
    exact ((Keep.refl Never w).alloc _).alloc _
set_option maxHeartbeats 1000000 in
set_option maxRecDepth 100000 in
theorem rout_any (s : Stp) (w : World) :
    Calls Tryz.prog 111 #[.agg #[.int .i64 s.1, .bool s.2]] w fun e w' => e = .returned (.agg #[.int .i64 (outE s).1, .int .i64 (outE s).2]) ∧ Keep Never w w' := by
  obtain ⟨a, b⟩ := s
  simp only
  cases b
  all_goals
    go_enter Tryz.func111, Tryz.ntmps111
    go_wp2_with fail
    refine bodyPost_ret (end_results rfl (Blk.new _ _ _) _ (by simp)) rfl ⟨rfl, ?_⟩
    exact ((Keep.refl Never w).alloc _).alloc _
set_option maxHeartbeats 1000000 in
set_option maxRecDepth 100000 in
theorem leaves_any (s : Stp) (w : World) :
    Calls Tryz.prog 118 #[.agg #[.int .i64 s.1, .bool s.2]] w fun e w' => e = .returned (.agg #[.int .i64 (outE s).1, .int .i64 (outE s).2]) ∧ Keep Never w w' := by
  obtain ⟨a, b⟩ := s
  simp only
  have hio : inE (a, !b) = outE (a, b) := by cases b <;> rfl
  have HC := Lib.hid (fun W => enters_any (a, !b) W)
  rw [hio] at HC
  generalize outE (a, b) = o at HC hio ⊢
  obtain ⟨o1, o2⟩ := o
  simp only at HC ⊢
  obtain ⟨w2, hw2⟩ : ∃ w2 : World, (w.alloc (.cells #[.int .i64 a, .bool !b] 106)).alloc (.cells #[.int .i64 0, .int .i64 0] 91) = w2 := ⟨_, rfl⟩
  have hk2 : Keep Never w w2 := by rw [← hw2]; exact ((Keep.refl _ _).alloc _).alloc _
  have hb2 : Blk w2 (w.heap.size + 1) 91 #[.int .i64 0, .int .i64 0] := by
    have h := Blk.new (w.alloc (.cells #[.int .i64 a, .bool !b] 106)) 91 #[.int .i64 0, .int .i64 0]
    have hs : (w.alloc (.cells #[.int .i64 a, .bool !b] 106)).heap.size = w.heap.size + 1 := by simp
    rwa [hs, hw2] at h
  have HK2 := Lib.hid hk2
  have HB2 := Lib.hid hb2
  have HW2 := Lib.hid hw2
  clear hk2 hb2 hio hw2
  go_enter Tryz.func118, Tryz.ntmps118
  go_wp2_with fail
  rw [HW2.out]
  refine (HC.out _).mono ?_
  rintro e w3 ⟨rfl, hk3⟩
  have hb3 := HB2.out.keep hk3 (fun h => h)
  have q0 := hb3.cell 0
  have q1 := hb3.cell 1
  have f0 := hb3.frozen 0
  have f1 := hb3.frozen 1
  have HB3 := Lib.hid hb3
  have HK3 := Lib.hid (HK2.out.trans hk3)
  clear hb3 hk3 HC
  go_wp2_with fail
  refine bodyPost_ret (end_results rfl (v0 := .int .i64 o1) (v1 := .int .i64 o2) (b := w.heap.size + 1) ?_ _ (by simp)) rfl ⟨rfl, ?_⟩
  · have h := (HB3.out.set_ 0 (.int .i64 o1)).set_ 1 (.int .i64 o2)
    simpa using h
  · exact ((HK3.out.set_ (p := ⟨w.heap.size + 1, 0, none⟩) (.inr (by show w.heap.size ≤ w.heap.size + 1; omega)) _).set_ (p := ⟨w.heap.size + 1, 1, none⟩) (.inr (by show w.heap.size ≤ w.heap.size + 1; omega)) _)

/-- do two ends lie at one place? -/
def joinB (l : List Jt) (a b : En) : Bool := l.any fun j => decide (j = (a, b)) || decide (j = (b, a))
def mayJ (l : List Jt) (s t : Stp) : Bool := joinB l (outE s) (inE t)

end Go.Proofs.YtpahfobijmmmmaaGreat

namespace Go.Proofs.YtpahfobijmmmmaaGreat
open Go.RowKit

theorem four (p1 p2 p3 p4 : Bool) : p1 = false ∨ (p1 = true ∧ p2 = false) ∨ (p1 = true ∧ p2 = true ∧ p3 = false) ∨ (p1 = true ∧ p2 = true ∧ p3 = true ∧ p4 = false) ∨ (p1 = true ∧ p2 = true ∧ p3 = true ∧ p4 = true) := by
  cases p1 <;> cases p2 <;> cases p3 <;> cases p4 <;> simp
set_option maxHeartbeats 1000000 in
set_option maxRecDepth 100000 in
theorem jindex_any (A : Option Addr) (n c B : Nat) (l : List Jt) (v : Jt) (w : World) (hs : repJt.Sl w B A n c l) (hn : n ≤ 100000000) :
    Calls Tryz.prog 96 #[.slice A n c, .agg #[.int .i64 v.1.1, .int .i64 v.1.2, .int .i64 v.2.1, .int .i64 v.2.2]] w fun e w' => ∃ r : Int, e = .returned (.int .i64 r) ∧ Hid (0 ≤ r ↔ v ∈ l) ∧ Keep Never w w' := by
  obtain ⟨⟨v1, v2⟩, v3, v4⟩ := v
  simp only
  obtain ⟨wb, hwb⟩ : ∃ wb : World, w.alloc (.cells #[.int .i64 v1, .int .i64 v2, .int .i64 v3, .int .i64 v4] 93) = wb := ⟨_, rfl⟩
  have hkb : Keep Never w wb := by rw [← hwb]; exact (Keep.refl _ _).alloc _
  have hbb := Blk.new w 93 #[.int .i64 v1, .int .i64 v2, .int .i64 v3, .int .i64 v4]
  rw [hwb] at hbb
  have HS := Lib.hid (hs.keep hkb (fun _ h => h.elim))
  have HB := Lib.hid hbb
  have HK := Lib.hid hkb
  have HLn : Hid (n = l.length) := Lib.hid hs.len
  clear hkb hbb hs
  go_enter Tryz.func96, Tryz.ntmps96
  go_wp2_with fail
  go_loopw [5, 8] (fun _ i wr => ∃ k : Nat, k ≤ n ∧ i = .int .i64 k ∧ Hid (Keep Never wb wr ∧ (((v1, v2), (v3, v4)) : Jt) ∉ l.take k)) (fun _ i _ => n - (intOf i).toNat)
  case atStart => exact ⟨0, by omega, rfl, Lib.hid ⟨Keep.refl _ _, by simp⟩⟩
  case round =>
    obtain ⟨k, hk, rfl, HH⟩ := hrel
    by_cases h0 : k < n
    · have hkz : (k : Int) < (n : Int) := by omega
      obtain ⟨ad, s, hA, hab, hs, c0, c1, c2, c3⟩ := jt_at (HS.out.keep HH.out.1 (fun _ h => h.elim)) h0
      subst hA
      obtain ⟨⟨s1, s2⟩, s3, s4⟩ := s
      simp only at c0 c1 c2 c3
      have hbb := HB.out.keep HH.out.1 (fun h => h)
      have y0 := hbb.cell 0
      have y1 := hbb.cell 1
      have y2 := hbb.cell 2
      have y3 := hbb.cell 3
      have hT : l.take (k + 1) = l.take k ++ [((s1, s2), (s3, s4))] := by
        obtain ⟨h2, h3⟩ := List.getElem?_eq_some_iff.1 hs
        rw [List.take_succ_eq_append_getElem h2, h3]
      have HT := Lib.hid hT
      have HSk := Lib.hid hs
      clear hbb hs hT hab
      go_wp2_with fail
      rcases four (v1 == s1) (v2 == s2) (v3 == s3) (v4 == s4) with g1 | ⟨g1, g2⟩ | ⟨g1, g2, g3⟩ | ⟨g1, g2, g3, g4⟩ | ⟨g1, g2, g3, g4⟩
      case inr.inr.inr.inr =>
        have HE : Hid ((((v1, v2), (v3, v4)) : Jt) ∈ l) := Lib.hid (by
          have e1 : v1 = s1 := by simpa using g1
          have e2 : v2 = s2 := by simpa using g2
          have e3 : v3 = s3 := by simpa using g3
          have e4 : v4 = s4 := by simpa using g4
          rw [e1, e2, e3, e4]
          exact List.mem_of_getElem? HSk.out)
        go_quiet (fail)
        go_wp2_with fail
        go_ret
        exact ⟨_, rfl, Lib.hid ⟨fun _ => HE.out, fun _ => by omega⟩, (HK.out.trans HH.out.1).drewN _⟩
      all_goals
        have HE : Hid ((((v1, v2), (v3, v4)) : Jt) ∉ l.take (k + 1)) := Lib.hid (by
          rw [HT.out, List.mem_append, List.mem_singleton]
          rintro (h | h)
          · exact HH.out.2 h
          · injection h with h h'
            injection h with h1 h2
            injection h' with h3 h4
            subst h1 h2 h3 h4
            simp_all)
        go_quiet (fail)
        go_wp2_with fail
        refine ⟨⟨k + 1, by omega, by go_num, Lib.hid ⟨HH.out.1.drewN _, HE.out⟩⟩, ?_⟩
        simp [intOf]; try omega
    · obtain rfl : k = n := by omega
      have hkz : ¬ (k : Int) < (k : Int) := by omega
      have HE : Hid ((((v1, v2), (v3, v4)) : Jt) ∉ l) := Lib.hid (by have := HH.out.2; rwa [List.take_of_length_le (by rw [HLn.out]; exact Nat.le_refl _)] at this)
      go_wp2_with fail
      go_ret
      exact ⟨-1, rfl, Lib.hid ⟨fun h => absurd h (by omega), fun h => absurd h HE.out⟩, HK.out.trans HH.out.1⟩

set_option maxHeartbeats 1000000 in
set_option maxRecDepth 100000 in
theorem jcontains_any (A : Option Addr) (n c B : Nat) (l : List Jt) (v : Jt) (w : World) (hs : repJt.Sl w B A n c l) (hn : n ≤ 100000000) :
    Calls Tryz.prog 80 #[.slice A n c, .agg #[.int .i64 v.1.1, .int .i64 v.1.2, .int .i64 v.2.1, .int .i64 v.2.2]] w fun e w' => e = .returned (.bool (decide (v ∈ l))) ∧ Keep Never w w' := by
  obtain ⟨⟨v1, v2⟩, v3, v4⟩ := v
  simp only
  obtain ⟨wb, hwb⟩ : ∃ wb : World, w.alloc (.cells #[.int .i64 v1, .int .i64 v2, .int .i64 v3, .int .i64 v4] 93) = wb := ⟨_, rfl⟩
  have hkb : Keep Never w wb := by rw [← hwb]; exact (Keep.refl _ _).alloc _
  have hbb := Blk.new w 93 #[.int .i64 v1, .int .i64 v2, .int .i64 v3, .int .i64 v4]
  rw [hwb] at hbb
  have y0 := hbb.cell 0
  have y1 := hbb.cell 1
  have y2 := hbb.cell 2
  have y3 := hbb.cell 3
  have HC := Lib.hid (jindex_any A n c B l ((v1, v2), (v3, v4)) wb (hs.keep hkb (fun _ h => h.elim)) hn)
  have HK := Lib.hid hkb
  clear hkb hbb hs
  go_enter Tryz.func80, Tryz.ntmps80
  go_wp2_with fail
  refine HC.out.mono ?_
  rintro e w2 ⟨r, rfl, hr, hk⟩
  have HK2 := Lib.hid (HK.out.trans hk)
  clear hk HC
  by_cases h0 : 0 ≤ r
  · have t0 : decide (r ≥ 0) = true := by simpa using h0
    have HD : Hid (decide ((((v1, v2), (v3, v4)) : Jt) ∈ l) = true) := Lib.hid (decide_eq_true (hr.out.1 h0))
    clear h0 hr
    go_wp2_with fail
    go_ret
    exact ⟨by rw [HD.out]; rfl, HK2.out⟩
  · have t0 : decide (r ≥ 0) = false := by simpa using h0
    have HD : Hid (decide ((((v1, v2), (v3, v4)) : Jt) ∈ l) = false) := Lib.hid (decide_eq_false (fun h => h0 (hr.out.2 h)))
    clear h0 hr
    go_wp2_with fail
    go_ret
    exact ⟨by rw [HD.out]; rfl, HK2.out⟩
theorem joinB_eq (l : List Jt) (a b : En) : joinB l a b = (decide ((a, b) ∈ l) || decide ((b, a) ∈ l)) := by
  rw [Bool.eq_iff_iff]
  simp only [joinB, List.any_eq_true, Bool.or_eq_true, decide_eq_true_eq]
  constructor
  · rintro ⟨j, h, rfl | rfl⟩
    · exact .inl h
    · exact .inr h
  · rintro (h | h)
    · exact ⟨_, h, .inl rfl⟩
    · exact ⟨_, h, .inr rfl⟩
set_option maxHeartbeats 1000000 in
set_option maxRecDepth 100000 in
theorem joins_any (x : TA) (t : Tp) (B : Nat) (a b : En) (w : World) (ht : TpAt w B x t) (hn : x.nj ≤ 100000000) :
    Calls Tryz.prog 54 #[.agg x.cs, .agg #[.int .i64 a.1, .int .i64 a.2], .agg #[.int .i64 b.1, .int .i64 b.2]] w fun e w' => e = .returned (.bool (joinB t.2.1 a b)) ∧ Keep Never w w' := by
  obtain ⟨Ae, ne, ce, Aj, nj, cj, Ab, nb, cb, Ar, nr, cr⟩ := x
  have hj := ht.j
  simp only [TA.cs] at hj hn ⊢
  obtain ⟨a1, a2⟩ := a
  obtain ⟨b1, b2⟩ := b
  simp only
  obtain ⟨w1, hw1⟩ : ∃ wb : World, w.alloc (.cells #[.slice Ae ne ce, .slice Aj nj cj, .slice Ab nb cb, .slice Ar nr cr] 27) = wb := ⟨_, rfl⟩
  obtain ⟨w2, hw2⟩ : ∃ wb : World, w1.alloc (.cells #[.int .i64 a1, .int .i64 a2] 91) = wb := ⟨_, rfl⟩
  obtain ⟨w3, hw3⟩ : ∃ wb : World, w2.alloc (.cells #[.int .i64 b1, .int .i64 b2] 91) = wb := ⟨_, rfl⟩
  have s1 : w1.heap.size = w.heap.size + 1 := by rw [← hw1]; simp
  have s2 : w2.heap.size = w.heap.size + 1 + 1 := by rw [← hw2, ← s1]; simp
  have k1 : Keep Never w w1 := by rw [← hw1]; exact (Keep.refl _ _).alloc _
  have k2 : Keep Never w1 w2 := by rw [← hw2]; exact (Keep.refl _ _).alloc _
  have k3 : Keep Never w2 w3 := by rw [← hw3]; exact (Keep.refl _ _).alloc _
  have b1' := Blk.new w 27 #[.slice Ae ne ce, .slice Aj nj cj, .slice Ab nb cb, .slice Ar nr cr]
  rw [hw1] at b1'
  have b2' := Blk.new w1 91 #[.int .i64 a1, .int .i64 a2]
  rw [hw2, s1] at b2'
  have b3' := Blk.new w2 91 #[.int .i64 b1, .int .i64 b2]
  rw [hw3, s2] at b3'
  have HB : Hid (Blk w3 w.heap.size 27 #[.slice Ae ne ce, .slice Aj nj cj, .slice Ab nb cb, .slice Ar nr cr] ∧ Blk w3 (w.heap.size + 1) 91 #[.int .i64 a1, .int .i64 a2] ∧ Blk w3 (w.heap.size + 1 + 1) 91 #[.int .i64 b1, .int .i64 b2]) :=
    Lib.hid ⟨(b1'.keep k2 (fun h => h)).keep k3 (fun h => h), b2'.keep k3 (fun h => h), b3'⟩
  have HK := Lib.hid ((k1.trans k2).trans k3)
  have HJ : Hid (∀ w', Keep Never w w' → repJt.Sl w' B Aj nj cj t.2.1) := Lib.hid (fun w' h => hj.keep h (fun _ h => h.elim))
  have HC := Lib.hid (jcontains_any Aj nj cj B t.2.1 ((a1, a2), (b1, b2)) w3 (HJ.out _ HK.out) hn)
  have HE := Lib.hid (joinB_eq t.2.1 (a1, a2) (b1, b2))
  have hw1' := hw1
  have y1 : w3.cell? ⟨w.heap.size, 1, none⟩ = some (.slice Aj nj cj) := HB.out.1.cell 1
  have y2 : w3.cell? ⟨w.heap.size + 1, 0, none⟩ = some (.int .i64 a1) := HB.out.2.1.cell 0
  have y3 : w3.cell? ⟨w.heap.size + 1, 1, none⟩ = some (.int .i64 a2) := HB.out.2.1.cell 1
  have y4 : w3.cell? ⟨w.heap.size + 1 + 1, 0, none⟩ = some (.int .i64 b1) := HB.out.2.2.cell 0
  have y5 : w3.cell? ⟨w.heap.size + 1 + 1, 1, none⟩ = some (.int .i64 b2) := HB.out.2.2.cell 1
  clear k1 k2 k3 b1' b2' b3' hj ht hw1'
  go_enter Tryz.func54, Tryz.ntmps54
  go_wp2_with fail
  refine HC.out.mono ?_
  rintro e w4 ⟨rfl, hk4⟩
  have HK4 := Lib.hid (HK.out.trans hk4)
  have z1 := (HB.out.1.keep hk4 (fun h => h)).cell 1
  have z2 := (HB.out.2.1.keep hk4 (fun h => h)).cell 0
  have z3 := (HB.out.2.1.keep hk4 (fun h => h)).cell 1
  have z4 := (HB.out.2.2.keep hk4 (fun h => h)).cell 0
  have z5 := (HB.out.2.2.keep hk4 (fun h => h)).cell 1
  have HC2 := Lib.hid (jcontains_any Aj nj cj B t.2.1 ((b1, b2), (a1, a2)) w4 (HJ.out _ HK4.out) hn)
  clear hk4 HC y1 y2 y3 y4 y5
  cases hd : decide ((((a1, a2), (b1, b2)) : Jt) ∈ t.2.1) with
  | true =>
    have HD := Lib.hid hd
    clear hd
    go_wp2_with fail
    go_ret
    exact ⟨by rw [HE.out, HD.out]; rfl, HK4.out⟩
  | false =>
    have HD := Lib.hid hd
    clear hd
    go_wp2_with fail
    refine HC2.out.mono ?_
    rintro e w5 ⟨rfl, hk5⟩
    have HK5 := Lib.hid (HK4.out.trans hk5)
    clear hk5 HC2
    go_wp2_with fail
    go_ret
    exact ⟨by rw [HE.out, HD.out]; rfl, HK5.out⟩

end Go.Proofs.YtpahfobijmmmmaaGreat

namespace Go.Proofs.YtpahfobijmmmmaaGreat
open Go.RowKit

theorem keepT {w w' : World} {a : Addr} {u : Value} (hk : Keep Never w w') (h : w.cell? a = some u) : w'.cell? a = some u := (hk.cell (cell_lt h) (fun h => h)).trans h
/-- == at two ends -/
def sameE (x1 x2 y1 y2 : Int) : Bool := decide (((x1, x2) : En) = (y1, y2))
theorem run_eq_end (w : World) (x1 x2 y1 y2 : Int) : (binOp .eql 91 (.agg #[.int .i64 x1, .int .i64 x2]) (.agg #[.int .i64 y1, .int .i64 y2])).run Tryz.prog w = .ok (.bool (sameE x1 x2 y1 y2)) w := by
  by_cases h1 : x1 = y1
  · have t1 : (x1 == y1) = true := by simpa using h1
    by_cases h2 : x2 = y2
    · have t2 : (x2 == y2) = true := by simpa using h2
      have hd : sameE x1 x2 y1 y2 = true := decide_eq_true (by rw [h1, h2])
      rw [hd]
      clear h1 h2 hd
      go_simp
    · have t2 : (x2 == y2) = false := by simpa using h2
      have hd : sameE x1 x2 y1 y2 = false := decide_eq_false (by simp [h2])
      rw [hd]
      clear h1 h2 hd
      go_simp
  · have t1 : (x1 == y1) = false := by simpa using h1
    have hd : sameE x1 x2 y1 y2 = false := decide_eq_false (by simp [h1])
    rw [hd]
    clear h1 hd
    go_simp

theorem joinB_le {l : List Jt} {k : Nat} {a b : En} (h : joinB (l.take k) a b = true) : joinB l a b = true := by
  unfold joinB at h ⊢
  rw [List.any_eq_true] at h ⊢
  obtain ⟨j, h1, h2⟩ := h
  exact ⟨j, List.mem_of_mem_take h1, h2⟩
theorem joinB_snoc_t {l : List Jt} {x1 x2 x3 x4 a1 a2 b1 b2 : Int} (h : (sameE x1 x2 a1 a2 = true ∧ sameE x3 x4 b1 b2 = true) ∨ (sameE x1 x2 b1 b2 = true ∧ sameE x3 x4 a1 a2 = true)) : joinB (l ++ [((x1, x2), (x3, x4))]) (a1, a2) (b1, b2) = true := by
  unfold joinB sameE at *
  simp only [decide_eq_true_eq] at h
  rw [List.any_append]
  rcases h with ⟨h1, h2⟩ | ⟨h1, h2⟩ <;> rw [h1, h2] <;> simp
theorem joinB_snoc_f {l : List Jt} {x1 x2 x3 x4 a1 a2 b1 b2 : Int} (h0 : joinB l (a1, a2) (b1, b2) = false) (h : sameE x1 x2 a1 a2 = false ∨ sameE x3 x4 b1 b2 = false) (h' : sameE x1 x2 b1 b2 = false ∨ sameE x3 x4 a1 a2 = false) : joinB (l ++ [((x1, x2), (x3, x4))]) (a1, a2) (b1, b2) = false := by
  unfold joinB sameE at *
  simp only [decide_eq_false_iff_not] at h h'
  rw [List.any_append, h0]
  simp only [List.any_cons, List.any_nil, Bool.or_false, Bool.false_or, Bool.or_eq_false_iff, decide_eq_false_iff_not, Prod.mk.injEq, not_and] at *
  omega

set_option maxHeartbeats 40000000 in
set_option maxRecDepth 100000 in
theorem rjoined_any (A : Option Addr) (n c B : Nat) (l : List Jt) (a b : En) (w : World) (hs : repJt.Sl w B A n c l) (hn : n ≤ 100000000) :
    Calls Tryz.prog 62 #[.slice A n c, .agg #[.int .i64 a.1, .int .i64 a.2], .agg #[.int .i64 b.1, .int .i64 b.2]] w fun e w' => e = .returned (.bool (joinB l a b)) ∧ Keep Never w w' := by
  obtain ⟨a1, a2⟩ := a
  obtain ⟨b1, b2⟩ := b
  simp only
  have qe : ∀ (w : World) (x1 x2 y1 y2 : Int), (binOp .eql 91 (.agg #[.int .i64 x1, .int .i64 x2]) (.agg #[.int .i64 y1, .int .i64 y2])).run Tryz.prog w = .ok (.bool (sameE x1 x2 y1 y2)) w := run_eq_end
  obtain ⟨w1, hw1⟩ : ∃ wb : World, w.alloc (.cells #[.int .i64 a1, .int .i64 a2] 91) = wb := ⟨_, rfl⟩
  obtain ⟨w2, hw2⟩ : ∃ wb : World, w1.alloc (.cells #[.int .i64 b1, .int .i64 b2] 91) = wb := ⟨_, rfl⟩
  have s1 : w1.heap.size = w.heap.size + 1 := by rw [← hw1]; simp
  have k1 : Keep Never w w1 := by rw [← hw1]; exact (Keep.refl _ _).alloc _
  have k2 : Keep Never w1 w2 := by rw [← hw2]; exact (Keep.refl _ _).alloc _
  have b1' := Blk.new w 91 #[.int .i64 a1, .int .i64 a2]
  rw [hw1] at b1'
  have b2' := Blk.new w1 91 #[.int .i64 b1, .int .i64 b2]
  rw [hw2, s1] at b2'
  have HB : Hid (Blk w2 w.heap.size 91 #[.int .i64 a1, .int .i64 a2] ∧ Blk w2 (w.heap.size + 1) 91 #[.int .i64 b1, .int .i64 b2]) := Lib.hid ⟨b1'.keep k2 (fun h => h), b2'⟩
  have HK := Lib.hid (k1.trans k2)
  have HS := Lib.hid (hs.keep HK.out (fun _ h => h.elim))
  have HLn : Hid (n = l.length) := Lib.hid hs.len
  clear k1 k2 b1' b2' hs
  go_enter Tryz.func62, Tryz.ntmps62
  go_wp2_with fail
  go_loopw [7] (fun i wr => ∃ k : Nat, k ≤ n ∧ i = .int .i64 k ∧ Hid (Keep Never w2 wr ∧ joinB (l.take k) (a1, a2) (b1, b2) = false)) (fun i _ => n - (intOf i).toNat)
  case atStart => exact ⟨0, by omega, rfl, Lib.hid ⟨Keep.refl _ _, rfl⟩⟩
  case round =>
    obtain ⟨k, hk, rfl, HH⟩ := hrel
    by_cases h0 : k < n
    · have hkz : (k : Int) < (n : Int) := by omega
      obtain ⟨ad, s, hA, hab, hs, c0, c1, c2, c3⟩ := jt_at (HS.out.keep HH.out.1 (fun _ h => h.elim)) h0
      subst hA
      obtain ⟨⟨x1, x2⟩, x3, x4⟩ := s
      simp only at c0 c1 c2 c3
      have y0 := (HB.out.1.keep HH.out.1 (fun h => h)).cell 0
      have y1 := (HB.out.1.keep HH.out.1 (fun h => h)).cell 1
      have y2 := (HB.out.2.keep HH.out.1 (fun h => h)).cell 0
      have y3 := (HB.out.2.keep HH.out.1 (fun h => h)).cell 1
      have HT : Hid (l.take (k + 1) = l.take k ++ [((x1, x2), (x3, x4))]) := Lib.hid (by
        obtain ⟨h2, h3⟩ := List.getElem?_eq_some_iff.1 hs
        rw [List.take_succ_eq_append_getElem h2, h3])
      have HSk := Lib.hid hs
      clear hs hab
      go_wp2_with fail
      rcases Bool.eq_false_or_eq_true (sameE x1 x2 a1 a2) with t1 | t1
      · rcases Bool.eq_false_or_eq_true (sameE x3 x4 b1 b2) with t2 | t2
        · have HF : Hid (joinB l (a1, a2) (b1, b2) = true) := Lib.hid (joinB_le (k := k + 1) (by rw [HT.out]; exact joinB_snoc_t (.inl ⟨t1, t2⟩)))
          go_quiet (fail)
          go_wp2_with fail
          go_ret
          exact ⟨by rw [HF.out]; rfl, (HK.out.trans HH.out.1).drewN _⟩
        · rcases Bool.eq_false_or_eq_true (sameE x1 x2 b1 b2) with t3 | t3
          · rcases Bool.eq_false_or_eq_true (sameE x3 x4 a1 a2) with t4 | t4
            · have HF : Hid (joinB l (a1, a2) (b1, b2) = true) := Lib.hid (joinB_le (k := k + 1) (by rw [HT.out]; exact joinB_snoc_t (.inr ⟨t3, t4⟩)))
              go_quiet (fail)
              go_wp2_with fail
              go_ret
              exact ⟨by rw [HF.out]; rfl, (HK.out.trans HH.out.1).drewN _⟩
            · have HF : Hid (joinB (l.take (k + 1)) (a1, a2) (b1, b2) = false) := Lib.hid (by rw [HT.out]; exact joinB_snoc_f HH.out.2 (.inr t2) (.inr t4))
              go_quiet (fail)
              go_wp2_with fail
              refine ⟨⟨k + 1, by omega, by go_num, Lib.hid ⟨HH.out.1.drewN _, HF.out⟩⟩, ?_⟩
              simp [intOf]; try omega
          · have HF : Hid (joinB (l.take (k + 1)) (a1, a2) (b1, b2) = false) := Lib.hid (by rw [HT.out]; exact joinB_snoc_f HH.out.2 (.inr t2) (.inl t3))
            go_quiet (fail)
            go_wp2_with fail
            refine ⟨⟨k + 1, by omega, by go_num, Lib.hid ⟨HH.out.1.drewN _, HF.out⟩⟩, ?_⟩
            simp [intOf]; try omega
      · rcases Bool.eq_false_or_eq_true (sameE x1 x2 b1 b2) with t3 | t3
        · rcases Bool.eq_false_or_eq_true (sameE x3 x4 a1 a2) with t4 | t4
          · have HF : Hid (joinB l (a1, a2) (b1, b2) = true) := Lib.hid (joinB_le (k := k + 1) (by rw [HT.out]; exact joinB_snoc_t (.inr ⟨t3, t4⟩)))
            go_quiet (fail)
            go_wp2_with fail
            go_ret
            exact ⟨by rw [HF.out]; rfl, (HK.out.trans HH.out.1).drewN _⟩
          · have HF : Hid (joinB (l.take (k + 1)) (a1, a2) (b1, b2) = false) := Lib.hid (by rw [HT.out]; exact joinB_snoc_f HH.out.2 (.inl t1) (.inr t4))
            go_quiet (fail)
            go_wp2_with fail
            refine ⟨⟨k + 1, by omega, by go_num, Lib.hid ⟨HH.out.1.drewN _, HF.out⟩⟩, ?_⟩
            simp [intOf]; try omega
        · have HF : Hid (joinB (l.take (k + 1)) (a1, a2) (b1, b2) = false) := Lib.hid (by rw [HT.out]; exact joinB_snoc_f HH.out.2 (.inl t1) (.inl t3))
          go_quiet (fail)
          go_wp2_with fail
          refine ⟨⟨k + 1, by omega, by go_num, Lib.hid ⟨HH.out.1.drewN _, HF.out⟩⟩, ?_⟩
          simp [intOf]; try omega
    · obtain rfl : k = n := by omega
      have hkz : ¬ (k : Int) < (k : Int) := by omega
      have HE : Hid (joinB l (a1, a2) (b1, b2) = false) := Lib.hid (by have := HH.out.2; rwa [List.take_of_length_le (by rw [HLn.out]; exact Nat.le_refl _)] at this)
      go_wp2_with fail
      go_ret
      exact ⟨by rw [HE.out]; rfl, HK.out.trans HH.out.1⟩

end Go.Proofs.YtpahfobijmmmmaaGreat
