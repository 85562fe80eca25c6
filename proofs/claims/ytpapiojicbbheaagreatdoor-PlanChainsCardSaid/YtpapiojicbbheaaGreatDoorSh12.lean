/- Texts of this claim, together: PlnJ, PmH. -/
import Derived.Test.YtpapiojicbbheaaGreatDoorSh11
import Derived.Test.YtpapiojicbbheaaGreatDoorSh08
namespace Go.Proofs.YtpapiojicbbheaaGreatDoor
open Go.RowKit
theorem may_no {t : Tp} {m : Ma} (h : ∀ z, MayA t m z → False) : mayMA t m = false := by
 cases hm : mayMA t m with
 | false => rfl
 | true => obtain ⟨z, hz⟩ := may_iff.1 hm; exact (h z hz).elim
def fitO (o : Option (Int × Int)) (n : Int) : Bool := match o with | some z => decide (n ≤ z.1) | none => false
theorem fits_eq (t : Tp) (m : Ma) : fitsB t m = fitO (leftA t m) (endS m.2.2.2.1 + m.2.2.2.2) := rfl
theorem may_last {t : Tp} {m : Ma} (h0 : checkM t = 0) (h1 : m.2.2.1.length ≤ 24) (h2 : twiceB m.2.2.1 = false) (h3 : 1 ≤ m.2.2.2.1.length) (h4 : m.2.2.2.1.length ≤ 8) (h5 : 0 ≤ m.2.2.2.2) (h6 : m.2.2.2.2 ≤ 1099511627776) (h7 : sectsB m.2.2.2.1 = true) : mayMA t m = fitsB t m := by
 unfold mayMA
 simp [h0, h1, h2, h3, h4, h5, h6, h7]
theorem sects_no {l : List Sc} {k : Nat} (hk : k < l.length) (h : sectAt l k = false) : sectsB l = false := by
 unfold sectsB
 rw [List.all_eq_false]
 exact ⟨k, List.mem_range.2 hk, by rw [h]; simp⟩
theorem sects_yes {l : List Sc} (h : ∀ k, k < l.length → sectAt l k = true) : sectsB l = true := by
 unfold sectsB
 rw [List.all_eq_true]
 intro k hk
 exact h k (List.mem_range.1 hk)
theorem sectAt_eq {l : List Sc} {k : Nat} {s : Sc} (h : l[k]? = some s) : sectAt l k = (decide (endS (l.take k) < s.1) && decide (s.1 ≤ 1099511627776) && decide (1 ≤ s.2) && decide (s.2 ≤ 1000)) := by unfold sectAt; rw [h]
theorem sects_end {l : List Sc} {k : Nat} (hk : k ≤ l.length) (h : ∀ j, j < k → sectAt l j = true) : 0 ≤ endS (l.take k) ∧ endS (l.take k) ≤ 1099511627776 := by
 induction k with
 | zero => simp [endS_nil]
 | succ k ih =>
  obtain ⟨h1, h2⟩ := ih (by omega) (fun j hj => h j (by omega))
  have hs : l[k]? = some l[k] := List.getElem?_eq_getElem (by omega)
  have h3 := h k (by omega)
  rw [sectAt_eq hs] at h3
  simp only [Bool.and_eq_true, decide_eq_true_eq] at h3
  rw [endS_take hs]
  omega
set_option maxHeartbeats 8000000 in
set_option maxRecDepth 100000 in
theorem may17_any (x : TA) (t : Tp) (B : Nat) (ref : Int) (rv : Bool) (P : List Stp) (S : List Sc) (g : Int) (Ap : Option Addr) (np cp : Nat) (As : Option Addr) (ns cs : Nat) (w : World) (h : TpAt w B x t) (hs : TpSmall x t) (hB : B ≤ w.heap.size) (hp : repStp.Sl w B Ap np cp P) (hS : ScAt w B As ns cs S) (hnp : np ≤ 1000000) (hns : ns ≤ 1000000) :
  Calls Tryz.prog 22 #[.agg x.cs, .agg #[.int .i64 ref, .bool rv, .slice Ap np cp, .slice As ns cs, .int .i64 g]] w fun en w' => en = .returned (.bool (mayMA t (ref, rv, P, S, g))) ∧ Keep Never w w' := by
 have HCh := Lib.hid (fun (W : World) (hk : Keep Never w W) => check_any x t B W (h.keep hk) hs (Nat.le_trans hB hk.size))
 have HTw := Lib.hid (fun (W : World) (hk : Keep Never w W) => twice_any Ap np cp B P W ((stps_rd hp).1.keep hk (fun _ h => h.elim)) hp.cap hnp)
 have HLf := Lib.hid (fun (W : World) (hk : Keep Never w W) (hck : checkM t = 0) => pleft_any x t B ref rv P S g Ap np cp As ns cs W (h.keep hk) hs (hp.keep hk (fun _ h => h.elim)) hck (by omega))
 have HPl : Hid (np = P.length) := Lib.hid hp.len
 have HS := Lib.hid hS
 have HSl : Hid (S.length = ns) := Lib.hid hS.len
 obtain ⟨Ae, ne, ce, Aj, nj, cj, Ab, nb, cb, Ar, nr, cr⟩ := x
 simp only [TA.cs] at HCh HLf ⊢
 clear h hs hp hS hB
 obtain ⟨w1, hw1⟩ : ∃ V : World, w.alloc (.cells #[.slice Ae ne ce, .slice Aj nj cj, .slice Ab nb cb, .slice Ar nr cr] 27) = V := ⟨_, rfl⟩
 have zw1 : w1.heap.size = w.heap.size + 1 := by rw [← hw1]; simp
 have kw1 : Keep Never w w1 := by rw [← hw1]; exact (Keep.refl _ _).alloc _
 have bw1 := Blk.new w 27 #[.slice Ae ne ce, .slice Aj nj cj, .slice Ab nb cb, .slice Ar nr cr]
 rw [hw1] at bw1
 obtain ⟨w2, hw2⟩ : ∃ V : World, w1.alloc (.cells #[.int .i64 ref, .bool rv, .slice Ap np cp, .slice As ns cs, .int .i64 g] 38) = V := ⟨_, rfl⟩
 have kw2 : Keep Never w1 w2 := by rw [← hw2]; exact (Keep.refl _ _).alloc _
 have bw2 := Blk.new w1 38 #[.int .i64 ref, .bool rv, .slice Ap np cp, .slice As ns cs, .int .i64 g]
 rw [hw2, zw1] at bw2
 have HB1 := Lib.hid (bw1.keep kw2 (fun h => h))
 have HB2 := Lib.hid bw2
 have HK := Lib.hid (kw1.trans kw2)
 clear kw1 kw2 bw1 bw2
 obtain ⟨ck, hck⟩ : ∃ z, checkM t = z := ⟨_, rfl⟩
 have HC := Lib.hid (HCh.out w2 HK.out)
 rw [hck] at HC
 have HCk := Lib.hid hck
 clear hck HCh
 by_cases g0 : ck = 0
 case neg =>
  have t0 : (ck != 0) = true := by simpa using g0
  have HF : Hid (mayMA t (ref, rv, P, S, g) = false) := Lib.hid (may_no (fun z hz => by exact g0 (HCk.out.symm.trans hz.chk)))
  clear g0
  have y0 : w2.cell? ⟨w.heap.size, 0, none⟩ = some (.slice Ae ne ce) := HB1.out.cell 0
  have y1 : w2.cell? ⟨w.heap.size, 1, none⟩ = some (.slice Aj nj cj) := HB1.out.cell 1
  have y2 : w2.cell? ⟨w.heap.size, 2, none⟩ = some (.slice Ab nb cb) := HB1.out.cell 2
  have y3 : w2.cell? ⟨w.heap.size, 3, none⟩ = some (.slice Ar nr cr) := HB1.out.cell 3
  have q0 : w2.cell? ⟨w.heap.size + 1, 0, none⟩ = some (.int .i64 ref) := HB2.out.cell 0
  have q1 : w2.cell? ⟨w.heap.size + 1, 1, none⟩ = some (.bool rv) := HB2.out.cell 1
  have q2 : w2.cell? ⟨w.heap.size + 1, 2, none⟩ = some (.slice Ap np cp) := HB2.out.cell 2
  have q3 : w2.cell? ⟨w.heap.size + 1, 3, none⟩ = some (.slice As ns cs) := HB2.out.cell 3
  have q4 : w2.cell? ⟨w.heap.size + 1, 4, none⟩ = some (.int .i64 g) := HB2.out.cell 4
  go_enter Tryz.func22, Tryz.ntmps22
  go_wp2_with fail
  refine HC.out.mono ?_
  rintro en w4 ⟨rfl, hk4⟩
  have HK1 := Lib.hid (HK.out.trans hk4)
  have Hy1 := Lib.hid (HB1.out.keep hk4 (fun h => h))
  have Hq1 := Lib.hid (HB2.out.keep hk4 (fun h => h))
  clear y0 y1 y2 y3 q0 q1 q2 q3 q4 hk4 HC hw1 hw2 zw1
  have y0 : w4.cell? ⟨w.heap.size, 0, none⟩ = some (.slice Ae ne ce) := Hy1.out.cell 0
  have y1 : w4.cell? ⟨w.heap.size, 1, none⟩ = some (.slice Aj nj cj) := Hy1.out.cell 1
  have y2 : w4.cell? ⟨w.heap.size, 2, none⟩ = some (.slice Ab nb cb) := Hy1.out.cell 2
  have y3 : w4.cell? ⟨w.heap.size, 3, none⟩ = some (.slice Ar nr cr) := Hy1.out.cell 3
  have q0 : w4.cell? ⟨w.heap.size + 1, 0, none⟩ = some (.int .i64 ref) := Hq1.out.cell 0
  have q1 : w4.cell? ⟨w.heap.size + 1, 1, none⟩ = some (.bool rv) := Hq1.out.cell 1
  have q2 : w4.cell? ⟨w.heap.size + 1, 2, none⟩ = some (.slice Ap np cp) := Hq1.out.cell 2
  have q3 : w4.cell? ⟨w.heap.size + 1, 3, none⟩ = some (.slice As ns cs) := Hq1.out.cell 3
  have q4 : w4.cell? ⟨w.heap.size + 1, 4, none⟩ = some (.int .i64 g) := Hq1.out.cell 4
  go_wp2_with fail
  go_ret
  exact ⟨by rw [HF.out]; rfl, HK1.out⟩
 have t0 : (ck != 0) = false := by simpa using g0
 have HC0 : Hid (checkM t = 0) := Lib.hid (HCk.out.trans g0)
 clear g0
 by_cases g1 : np ≤ 24
 case neg =>
  have t1 : decide ((np : Int) > 24) = true := by simp; omega
  have t1b : decide (24 < np) = true := by simp; omega
  have HF : Hid (mayMA t (ref, rv, P, S, g) = false) := Lib.hid (may_no (fun z hz => by have h1 := hz.few; have h2 := HPl.out; simp only at h1; omega))
  clear g1
  have y0 : w2.cell? ⟨w.heap.size, 0, none⟩ = some (.slice Ae ne ce) := HB1.out.cell 0
  have y1 : w2.cell? ⟨w.heap.size, 1, none⟩ = some (.slice Aj nj cj) := HB1.out.cell 1
  have y2 : w2.cell? ⟨w.heap.size, 2, none⟩ = some (.slice Ab nb cb) := HB1.out.cell 2
  have y3 : w2.cell? ⟨w.heap.size, 3, none⟩ = some (.slice Ar nr cr) := HB1.out.cell 3
  have q0 : w2.cell? ⟨w.heap.size + 1, 0, none⟩ = some (.int .i64 ref) := HB2.out.cell 0
  have q1 : w2.cell? ⟨w.heap.size + 1, 1, none⟩ = some (.bool rv) := HB2.out.cell 1
  have q2 : w2.cell? ⟨w.heap.size + 1, 2, none⟩ = some (.slice Ap np cp) := HB2.out.cell 2
  have q3 : w2.cell? ⟨w.heap.size + 1, 3, none⟩ = some (.slice As ns cs) := HB2.out.cell 3
  have q4 : w2.cell? ⟨w.heap.size + 1, 4, none⟩ = some (.int .i64 g) := HB2.out.cell 4
  go_enter Tryz.func22, Tryz.ntmps22
  go_wp2_with fail
  refine HC.out.mono ?_
  rintro en w4 ⟨rfl, hk4⟩
  have HK1 := Lib.hid (HK.out.trans hk4)
  have Hy1 := Lib.hid (HB1.out.keep hk4 (fun h => h))
  have Hq1 := Lib.hid (HB2.out.keep hk4 (fun h => h))
  clear y0 y1 y2 y3 q0 q1 q2 q3 q4 hk4 HC hw1 hw2 zw1
  have y0 : w4.cell? ⟨w.heap.size, 0, none⟩ = some (.slice Ae ne ce) := Hy1.out.cell 0
  have y1 : w4.cell? ⟨w.heap.size, 1, none⟩ = some (.slice Aj nj cj) := Hy1.out.cell 1
  have y2 : w4.cell? ⟨w.heap.size, 2, none⟩ = some (.slice Ab nb cb) := Hy1.out.cell 2
  have y3 : w4.cell? ⟨w.heap.size, 3, none⟩ = some (.slice Ar nr cr) := Hy1.out.cell 3
  have q0 : w4.cell? ⟨w.heap.size + 1, 0, none⟩ = some (.int .i64 ref) := Hq1.out.cell 0
  have q1 : w4.cell? ⟨w.heap.size + 1, 1, none⟩ = some (.bool rv) := Hq1.out.cell 1
  have q2 : w4.cell? ⟨w.heap.size + 1, 2, none⟩ = some (.slice Ap np cp) := Hq1.out.cell 2
  have q3 : w4.cell? ⟨w.heap.size + 1, 3, none⟩ = some (.slice As ns cs) := Hq1.out.cell 3
  have q4 : w4.cell? ⟨w.heap.size + 1, 4, none⟩ = some (.int .i64 g) := Hq1.out.cell 4
  go_wp2_with fail
  go_ret
  exact ⟨by rw [HF.out]; rfl, HK1.out⟩
 have t1 : decide ((np : Int) > 24) = false := by simp; omega
 have t1b : decide (24 < np) = false := by simp; omega
 have HG1 := Lib.hid g1
 clear g1
 have y0 : w2.cell? ⟨w.heap.size, 0, none⟩ = some (.slice Ae ne ce) := HB1.out.cell 0
 have y1 : w2.cell? ⟨w.heap.size, 1, none⟩ = some (.slice Aj nj cj) := HB1.out.cell 1
 have y2 : w2.cell? ⟨w.heap.size, 2, none⟩ = some (.slice Ab nb cb) := HB1.out.cell 2
 have y3 : w2.cell? ⟨w.heap.size, 3, none⟩ = some (.slice Ar nr cr) := HB1.out.cell 3
 have q0 : w2.cell? ⟨w.heap.size + 1, 0, none⟩ = some (.int .i64 ref) := HB2.out.cell 0
 have q1 : w2.cell? ⟨w.heap.size + 1, 1, none⟩ = some (.bool rv) := HB2.out.cell 1
 have q2 : w2.cell? ⟨w.heap.size + 1, 2, none⟩ = some (.slice Ap np cp) := HB2.out.cell 2
 have q3 : w2.cell? ⟨w.heap.size + 1, 3, none⟩ = some (.slice As ns cs) := HB2.out.cell 3
 have q4 : w2.cell? ⟨w.heap.size + 1, 4, none⟩ = some (.int .i64 g) := HB2.out.cell 4
 go_enter Tryz.func22, Tryz.ntmps22
 go_wp2_with fail
 refine HC.out.mono ?_
 rintro en w4 ⟨rfl, hk4⟩
 have HK1 := Lib.hid (HK.out.trans hk4)
 have Hy1 := Lib.hid (HB1.out.keep hk4 (fun h => h))
 have Hq1 := Lib.hid (HB2.out.keep hk4 (fun h => h))
 clear y0 y1 y2 y3 q0 q1 q2 q3 q4 hk4 HC hw1 hw2 zw1
 have y0 : w4.cell? ⟨w.heap.size, 0, none⟩ = some (.slice Ae ne ce) := Hy1.out.cell 0
 have y1 : w4.cell? ⟨w.heap.size, 1, none⟩ = some (.slice Aj nj cj) := Hy1.out.cell 1
 have y2 : w4.cell? ⟨w.heap.size, 2, none⟩ = some (.slice Ab nb cb) := Hy1.out.cell 2
 have y3 : w4.cell? ⟨w.heap.size, 3, none⟩ = some (.slice Ar nr cr) := Hy1.out.cell 3
 have q0 : w4.cell? ⟨w.heap.size + 1, 0, none⟩ = some (.int .i64 ref) := Hq1.out.cell 0
 have q1 : w4.cell? ⟨w.heap.size + 1, 1, none⟩ = some (.bool rv) := Hq1.out.cell 1
 have q2 : w4.cell? ⟨w.heap.size + 1, 2, none⟩ = some (.slice Ap np cp) := Hq1.out.cell 2
 have q3 : w4.cell? ⟨w.heap.size + 1, 3, none⟩ = some (.slice As ns cs) := Hq1.out.cell 3
 have q4 : w4.cell? ⟨w.heap.size + 1, 4, none⟩ = some (.int .i64 g) := Hq1.out.cell 4
 go_wp2_with fail
 obtain ⟨tb, htb⟩ : ∃ z, twiceB P = z := ⟨_, rfl⟩
 have hT := HTw.out w4 HK1.out
 rw [htb] at hT
 have HT := Lib.hid hT
 have HTb := Lib.hid htb
 clear hT htb HTw
 refine HT.out.mono ?_
 rintro en w5 ⟨rfl, hk5⟩
 have HK2 := Lib.hid (HK1.out.trans hk5)
 have Hy2 := Lib.hid (Hy1.out.keep hk5 (fun h => h))
 have Hq2 := Lib.hid (Hq1.out.keep hk5 (fun h => h))
 clear y0 y1 y2 y3 q0 q1 q2 q3 q4 hk5 HT
 cases tb with
 | true =>
  have HF : Hid (mayMA t (ref, rv, P, S, g) = false) := Lib.hid (may_no (fun z hz => by have h1 := twice_no.2 hz.once; simp only at h1; rw [HTb.out] at h1; exact absurd h1 (by decide)))
  have y0 : w5.cell? ⟨w.heap.size, 0, none⟩ = some (.slice Ae ne ce) := Hy2.out.cell 0
  have y1 : w5.cell? ⟨w.heap.size, 1, none⟩ = some (.slice Aj nj cj) := Hy2.out.cell 1
  have y2 : w5.cell? ⟨w.heap.size, 2, none⟩ = some (.slice Ab nb cb) := Hy2.out.cell 2
  have y3 : w5.cell? ⟨w.heap.size, 3, none⟩ = some (.slice Ar nr cr) := Hy2.out.cell 3
  have q0 : w5.cell? ⟨w.heap.size + 1, 0, none⟩ = some (.int .i64 ref) := Hq2.out.cell 0
  have q1 : w5.cell? ⟨w.heap.size + 1, 1, none⟩ = some (.bool rv) := Hq2.out.cell 1
  have q2 : w5.cell? ⟨w.heap.size + 1, 2, none⟩ = some (.slice Ap np cp) := Hq2.out.cell 2
  have q3 : w5.cell? ⟨w.heap.size + 1, 3, none⟩ = some (.slice As ns cs) := Hq2.out.cell 3
  have q4 : w5.cell? ⟨w.heap.size + 1, 4, none⟩ = some (.int .i64 g) := Hq2.out.cell 4
  go_wp2_with fail
  go_ret
  exact ⟨by rw [HF.out]; rfl, HK2.out⟩
 | false =>
  by_cases g2 : 1 ≤ ns
  case neg =>
   have t2a : decide ((ns : Int) < 1) = true := by simp; omega
   have t2b : decide (ns < 1) = true := by simp; omega
   have t2c : decide (ns = 0) = true := by simp; omega
   have HF : Hid (mayMA t (ref, rv, P, S, g) = false) := Lib.hid (may_no (fun z hz => by have h1 := hz.some_; have h2 := HSl.out; simp only at h1; omega))
   clear g2
   have y0 : w5.cell? ⟨w.heap.size, 0, none⟩ = some (.slice Ae ne ce) := Hy2.out.cell 0
   have y1 : w5.cell? ⟨w.heap.size, 1, none⟩ = some (.slice Aj nj cj) := Hy2.out.cell 1
   have y2 : w5.cell? ⟨w.heap.size, 2, none⟩ = some (.slice Ab nb cb) := Hy2.out.cell 2
   have y3 : w5.cell? ⟨w.heap.size, 3, none⟩ = some (.slice Ar nr cr) := Hy2.out.cell 3
   have q0 : w5.cell? ⟨w.heap.size + 1, 0, none⟩ = some (.int .i64 ref) := Hq2.out.cell 0
   have q1 : w5.cell? ⟨w.heap.size + 1, 1, none⟩ = some (.bool rv) := Hq2.out.cell 1
   have q2 : w5.cell? ⟨w.heap.size + 1, 2, none⟩ = some (.slice Ap np cp) := Hq2.out.cell 2
   have q3 : w5.cell? ⟨w.heap.size + 1, 3, none⟩ = some (.slice As ns cs) := Hq2.out.cell 3
   have q4 : w5.cell? ⟨w.heap.size + 1, 4, none⟩ = some (.int .i64 g) := Hq2.out.cell 4
   go_wp2_with fail
   go_ret
   exact ⟨by rw [HF.out]; rfl, HK2.out⟩
  have t2a : decide ((ns : Int) < 1) = false := by simp; omega
  have t2b : decide (ns < 1) = false := by simp; omega
  have t2c : decide (ns = 0) = false := by simp; omega
  have HG2 := Lib.hid g2
  clear g2
  by_cases g3 : ns ≤ 8
  case neg =>
   have t3a : decide ((ns : Int) > 8) = true := by simp; omega
   have t3b : decide (8 < ns) = true := by simp; omega
   have HF : Hid (mayMA t (ref, rv, P, S, g) = false) := Lib.hid (may_no (fun z hz => by have h1 := hz.eight; have h2 := HSl.out; simp only at h1; omega))
   clear g3
   have y0 : w5.cell? ⟨w.heap.size, 0, none⟩ = some (.slice Ae ne ce) := Hy2.out.cell 0
   have y1 : w5.cell? ⟨w.heap.size, 1, none⟩ = some (.slice Aj nj cj) := Hy2.out.cell 1
   have y2 : w5.cell? ⟨w.heap.size, 2, none⟩ = some (.slice Ab nb cb) := Hy2.out.cell 2
   have y3 : w5.cell? ⟨w.heap.size, 3, none⟩ = some (.slice Ar nr cr) := Hy2.out.cell 3
   have q0 : w5.cell? ⟨w.heap.size + 1, 0, none⟩ = some (.int .i64 ref) := Hq2.out.cell 0
   have q1 : w5.cell? ⟨w.heap.size + 1, 1, none⟩ = some (.bool rv) := Hq2.out.cell 1
   have q2 : w5.cell? ⟨w.heap.size + 1, 2, none⟩ = some (.slice Ap np cp) := Hq2.out.cell 2
   have q3 : w5.cell? ⟨w.heap.size + 1, 3, none⟩ = some (.slice As ns cs) := Hq2.out.cell 3
   have q4 : w5.cell? ⟨w.heap.size + 1, 4, none⟩ = some (.int .i64 g) := Hq2.out.cell 4
   go_wp2_with fail
   go_ret
   exact ⟨by rw [HF.out]; rfl, HK2.out⟩
  have t3a : decide ((ns : Int) > 8) = false := by simp; omega
  have t3b : decide (8 < ns) = false := by simp; omega
  have HG3 := Lib.hid g3
  clear g3
  by_cases g4 : 0 ≤ g
  case neg =>
   have t4a : decide (g < 0) = true := by simp; omega
   have HF : Hid (mayMA t (ref, rv, P, S, g) = false) := Lib.hid (may_no (fun z hz => by have h1 := hz.gap0; simp only at h1; omega))
   clear g4
   have y0 : w5.cell? ⟨w.heap.size, 0, none⟩ = some (.slice Ae ne ce) := Hy2.out.cell 0
   have y1 : w5.cell? ⟨w.heap.size, 1, none⟩ = some (.slice Aj nj cj) := Hy2.out.cell 1
   have y2 : w5.cell? ⟨w.heap.size, 2, none⟩ = some (.slice Ab nb cb) := Hy2.out.cell 2
   have y3 : w5.cell? ⟨w.heap.size, 3, none⟩ = some (.slice Ar nr cr) := Hy2.out.cell 3
   have q0 : w5.cell? ⟨w.heap.size + 1, 0, none⟩ = some (.int .i64 ref) := Hq2.out.cell 0
   have q1 : w5.cell? ⟨w.heap.size + 1, 1, none⟩ = some (.bool rv) := Hq2.out.cell 1
   have q2 : w5.cell? ⟨w.heap.size + 1, 2, none⟩ = some (.slice Ap np cp) := Hq2.out.cell 2
   have q3 : w5.cell? ⟨w.heap.size + 1, 3, none⟩ = some (.slice As ns cs) := Hq2.out.cell 3
   have q4 : w5.cell? ⟨w.heap.size + 1, 4, none⟩ = some (.int .i64 g) := Hq2.out.cell 4
   go_wp2_with fail
   go_ret
   exact ⟨by rw [HF.out]; rfl, HK2.out⟩
  have t4a : decide (g < 0) = false := by simp; omega
  have HG4 := Lib.hid g4
  clear g4
  by_cases g5 : g ≤ 1099511627776
  case neg =>
   have t5a : decide (g > 1099511627776) = true := by simp; omega
   have HF : Hid (mayMA t (ref, rv, P, S, g) = false) := Lib.hid (may_no (fun z hz => by have h1 := hz.gap1; simp only at h1; omega))
   clear g5
   have y0 : w5.cell? ⟨w.heap.size, 0, none⟩ = some (.slice Ae ne ce) := Hy2.out.cell 0
   have y1 : w5.cell? ⟨w.heap.size, 1, none⟩ = some (.slice Aj nj cj) := Hy2.out.cell 1
   have y2 : w5.cell? ⟨w.heap.size, 2, none⟩ = some (.slice Ab nb cb) := Hy2.out.cell 2
   have y3 : w5.cell? ⟨w.heap.size, 3, none⟩ = some (.slice Ar nr cr) := Hy2.out.cell 3
   have q0 : w5.cell? ⟨w.heap.size + 1, 0, none⟩ = some (.int .i64 ref) := Hq2.out.cell 0
   have q1 : w5.cell? ⟨w.heap.size + 1, 1, none⟩ = some (.bool rv) := Hq2.out.cell 1
   have q2 : w5.cell? ⟨w.heap.size + 1, 2, none⟩ = some (.slice Ap np cp) := Hq2.out.cell 2
   have q3 : w5.cell? ⟨w.heap.size + 1, 3, none⟩ = some (.slice As ns cs) := Hq2.out.cell 3
   have q4 : w5.cell? ⟨w.heap.size + 1, 4, none⟩ = some (.int .i64 g) := Hq2.out.cell 4
   go_wp2_with fail
   go_ret
   exact ⟨by rw [HF.out]; rfl, HK2.out⟩
  have t5a : decide (g > 1099511627776) = false := by simp; omega
  have HG5 := Lib.hid g5
  clear g5
  have y0 : w5.cell? ⟨w.heap.size, 0, none⟩ = some (.slice Ae ne ce) := Hy2.out.cell 0
  have y1 : w5.cell? ⟨w.heap.size, 1, none⟩ = some (.slice Aj nj cj) := Hy2.out.cell 1
  have y2 : w5.cell? ⟨w.heap.size, 2, none⟩ = some (.slice Ab nb cb) := Hy2.out.cell 2
  have y3 : w5.cell? ⟨w.heap.size, 3, none⟩ = some (.slice Ar nr cr) := Hy2.out.cell 3
  have q0 : w5.cell? ⟨w.heap.size + 1, 0, none⟩ = some (.int .i64 ref) := Hq2.out.cell 0
  have q1 : w5.cell? ⟨w.heap.size + 1, 1, none⟩ = some (.bool rv) := Hq2.out.cell 1
  have q2 : w5.cell? ⟨w.heap.size + 1, 2, none⟩ = some (.slice Ap np cp) := Hq2.out.cell 2
  have q3 : w5.cell? ⟨w.heap.size + 1, 3, none⟩ = some (.slice As ns cs) := Hq2.out.cell 3
  have q4 : w5.cell? ⟨w.heap.size + 1, 4, none⟩ = some (.int .i64 g) := Hq2.out.cell 4
  go_wp2_with fail
  clear y0 y1 y2 y3 q0 q1 q2 q3 q4 t0 t1 t1b t2a t2b t2c t3a t3b t4a t5a
  go_loopw [5, 50] (fun la si wr => ∃ k : Nat, k ≤ ns ∧ si = .int .i64 k ∧ la = .int .i64 (endS (S.take k)) ∧ Hid (Keep Never w5 wr ∧ ∀ j, j < k → sectAt S j = true)) (fun _ si _ => ns - (intOf si).toNat)
  case atStart => exact ⟨0, by omega, rfl, rfl, Lib.hid ⟨Keep.refl _ _, fun j hj => absurd hj (by omega)⟩⟩
  case round =>
   obtain ⟨k, hk, rfl, rfl, HH⟩ := hrel
   have hkr := HH.out.1
   have HK3 := Lib.hid (HK2.out.trans hkr)
   have Hy3 := Lib.hid (Hy2.out.keep hkr (fun h => h))
   have Hq3 := Lib.hid (Hq2.out.keep hkr (fun h => h))
   clear hkr
   by_cases h0 : k < ns
   ·have hki : (k : Int) < (ns : Int) := by omega
    obtain ⟨ad, s, hA, _, hs, c0, c1⟩ := (HS.out.keep HK3.out).rd.sc h0
    have HSa := Lib.hid (sectAt_eq hs)
    have HSn := Lib.hid (endS_take hs)
    obtain ⟨s1, s2⟩ := s
    simp only at c0 c1 HSa HSn
    subst hA
    obtain ⟨la, hla⟩ : ∃ z, endS (S.take k) = z := ⟨_, rfl⟩
    rw [hla] at HSa ⊢
    clear hs hla
    obtain ⟨w8, hw8⟩ : ∃ V : World, wr.alloc (.cells #[.int .i64 s1, .int .i64 s2] 58) = V := ⟨_, rfl⟩
    have k8 : Keep Never wr w8 := by rw [← hw8]; exact (Keep.refl _ _).alloc _
    have B8 := Blk.new wr 58 #[.int .i64 s1, .int .i64 s2]
    rw [hw8] at B8
    obtain ⟨br, hbr⟩ : ∃ q, wr.heap.size = q := ⟨_, rfl⟩
    rw [hbr] at B8
    have HB8 := Lib.hid B8
    have HK4 := Lib.hid (HK3.out.trans k8)
    have Hy4 := Lib.hid (Hy3.out.keep k8 (fun h => h))
    have Hq4 := Lib.hid (Hq3.out.keep k8 (fun h => h))
    clear k8 B8
    have b0 : w8.cell? ⟨br, 0, none⟩ = some (.int .i64 s1) := HB8.out.cell 0
    have b1 : w8.cell? ⟨br, 1, none⟩ = some (.int .i64 s2) := HB8.out.cell 1
    by_cases e0 : s1 ≤ la
    ·have u0 : decide (s1 ≤ la) = true := by simpa using e0
     have HF : Hid (mayMA t (ref, rv, P, S, g) = false) := Lib.hid (may_no (fun z hz => by have h1 := sects_iff.2 hz.sects; simp only at h1; rw [sects_no (k := k) (by rw [HSl.out]; exact h0) (by rw [HSa.out]; simp; omega)] at h1; exact absurd h1 (by decide)))
     clear e0
     go_wp2_with fail
     go_ret
     exact ⟨by rw [HF.out]; rfl, HK4.out⟩
    have u0 : decide (s1 ≤ la) = false := by simpa using e0
    by_cases e1 : s1 > 1099511627776
    ·have u1 : decide (s1 > 1099511627776) = true := by simpa using e1
     have HF : Hid (mayMA t (ref, rv, P, S, g) = false) := Lib.hid (may_no (fun z hz => by have h1 := sects_iff.2 hz.sects; simp only at h1; rw [sects_no (k := k) (by rw [HSl.out]; exact h0) (by rw [HSa.out]; simp; omega)] at h1; exact absurd h1 (by decide)))
     clear e0 e1
     go_wp2_with fail
     go_ret
     exact ⟨by rw [HF.out]; rfl, HK4.out⟩
    have u1 : decide (s1 > 1099511627776) = false := by simpa using e1
    by_cases e2 : s2 < 1
    ·have u2 : decide (s2 < 1) = true := by simpa using e2
     have HF : Hid (mayMA t (ref, rv, P, S, g) = false) := Lib.hid (may_no (fun z hz => by have h1 := sects_iff.2 hz.sects; simp only at h1; rw [sects_no (k := k) (by rw [HSl.out]; exact h0) (by rw [HSa.out]; simp; omega)] at h1; exact absurd h1 (by decide)))
     clear e0 e1 e2
     go_wp2_with fail
     go_ret
     exact ⟨by rw [HF.out]; rfl, HK4.out⟩
    have u2 : decide (s2 < 1) = false := by simpa using e2
    by_cases e3 : s2 > 1000
    ·have u3 : decide (s2 > 1000) = true := by simpa using e3
     have HF : Hid (mayMA t (ref, rv, P, S, g) = false) := Lib.hid (may_no (fun z hz => by have h1 := sects_iff.2 hz.sects; simp only at h1; rw [sects_no (k := k) (by rw [HSl.out]; exact h0) (by rw [HSa.out]; simp; omega)] at h1; exact absurd h1 (by decide)))
     clear e0 e1 e2 e3
     go_wp2_with fail
     go_ret
     exact ⟨by rw [HF.out]; rfl, HK4.out⟩
    have u3 : decide (s2 > 1000) = false := by simpa using e3
    have HOk : Hid (sectAt S k = true) := Lib.hid (by rw [HSa.out]; simp; omega)
    clear e0 e1 e2 e3
    go_wp2_with fail
    refine ⟨⟨k + 1, by omega, by go_num, by rw [HSn.out], Lib.hid ⟨HH.out.1.trans (show Keep Never wr w8 from by rw [← hw8]; exact (Keep.refl _ _).alloc _), fun j hj => ?_⟩⟩, ?_⟩
    ·rcases Nat.lt_or_ge j k with h | h
     ·exact HH.out.2 j h
     ·obtain rfl : j = k := by omega
      exact HOk.out
    ·simp [intOf]; try omega
   ·obtain rfl : k = ns := by omega
    have hki : ¬ (k : Int) < (k : Int) := by omega
    have HSt : Hid (S.take k = S) := Lib.hid (by rw [List.take_of_length_le (by rw [HSl.out]; exact Nat.le_refl _)])
    have HSy : Hid (sectsB S = true) := Lib.hid (sects_yes (fun j hj => HH.out.2 j (by rw [← HSl.out]; exact hj)))
    have hen := sects_end (l := S) (k := k) (by rw [HSl.out]; exact Nat.le_refl _) HH.out.2
    rw [HSt.out] at hen ⊢
    have HML : Hid (mayMA t (ref, rv, P, S, g) = fitsB t (ref, rv, P, S, g)) := Lib.hid (may_last HC0.out (by simp only; have := HG1.out; have := HPl.out; omega) HTb.out (by simp only; have := HG2.out; have := HSl.out; omega) (by simp only; have := HG3.out; have := HSl.out; omega) HG4.out HG5.out HSy.out)
    have hL0 := HLf.out wr HK3.out HC0.out
    unfold LeftRet at hL0
    obtain ⟨o, ho⟩ : ∃ z, leftA t (ref, rv, P, S, g) = z := ⟨_, rfl⟩
    rw [ho] at hL0
    have HL := Lib.hid hL0
    obtain ⟨la, hla⟩ : ∃ z, endS S = z := ⟨_, rfl⟩
    have HFi : Hid (fitsB t (ref, rv, P, S, g) = fitO o (la + g)) := Lib.hid (by rw [fits_eq, ho]; simp only; rw [hla])
    rw [hla] at hen ⊢
    have hw : IntKind.i64.wrap (la + g) = la + g := IntWalk.i64_in _ (by have := HG4.out; have := HG5.out; omega)
    have hw' : wrap64 (la + g) = la + g := by have := hw; rwa [IntWalk.i64_left] at this
    clear hla ho hL0 HLf
    have y0 : wr.cell? ⟨w.heap.size, 0, none⟩ = some (.slice Ae ne ce) := Hy3.out.cell 0
    have y1 : wr.cell? ⟨w.heap.size, 1, none⟩ = some (.slice Aj nj cj) := Hy3.out.cell 1
    have y2 : wr.cell? ⟨w.heap.size, 2, none⟩ = some (.slice Ab nb cb) := Hy3.out.cell 2
    have y3 : wr.cell? ⟨w.heap.size, 3, none⟩ = some (.slice Ar nr cr) := Hy3.out.cell 3
    have q0 : wr.cell? ⟨w.heap.size + 1, 0, none⟩ = some (.int .i64 ref) := Hq3.out.cell 0
    have q1 : wr.cell? ⟨w.heap.size + 1, 1, none⟩ = some (.bool rv) := Hq3.out.cell 1
    have q2 : wr.cell? ⟨w.heap.size + 1, 2, none⟩ = some (.slice Ap np cp) := Hq3.out.cell 2
    have q3 : wr.cell? ⟨w.heap.size + 1, 3, none⟩ = some (.slice As k cs) := Hq3.out.cell 3
    have q4 : wr.cell? ⟨w.heap.size + 1, 4, none⟩ = some (.int .i64 g) := Hq3.out.cell 4
    go_wp2_with fail
    refine HL.out.mono ?_
    rintro en w9 ⟨rfl, hk9⟩
    have HK4 := Lib.hid (HK3.out.trans hk9)
    have Hy4 := Lib.hid (Hy3.out.keep hk9 (fun h => h))
    have Hq4 := Lib.hid (Hq3.out.keep hk9 (fun h => h))
    clear y0 y1 y2 y3 q0 q1 q2 q3 q4 hk9 HL
    cases o with
    | none =>
     have HF : Hid (mayMA t (ref, rv, P, S, g) = false) := Lib.hid (by rw [HML.out, HFi.out]; rfl)
     simp only [Option.getD, Option.isSome]
     have y0 : w9.cell? ⟨w.heap.size, 0, none⟩ = some (.slice Ae ne ce) := Hy4.out.cell 0
     have y1 : w9.cell? ⟨w.heap.size, 1, none⟩ = some (.slice Aj nj cj) := Hy4.out.cell 1
     have y2 : w9.cell? ⟨w.heap.size, 2, none⟩ = some (.slice Ab nb cb) := Hy4.out.cell 2
     have y3 : w9.cell? ⟨w.heap.size, 3, none⟩ = some (.slice Ar nr cr) := Hy4.out.cell 3
     have q0 : w9.cell? ⟨w.heap.size + 1, 0, none⟩ = some (.int .i64 ref) := Hq4.out.cell 0
     have q1 : w9.cell? ⟨w.heap.size + 1, 1, none⟩ = some (.bool rv) := Hq4.out.cell 1
     have q2 : w9.cell? ⟨w.heap.size + 1, 2, none⟩ = some (.slice Ap np cp) := Hq4.out.cell 2
     have q3 : w9.cell? ⟨w.heap.size + 1, 3, none⟩ = some (.slice As k cs) := Hq4.out.cell 3
     have q4 : w9.cell? ⟨w.heap.size + 1, 4, none⟩ = some (.int .i64 g) := Hq4.out.cell 4
     go_wp2_with fail
     go_ret
     exact ⟨by rw [HF.out]; rfl, HK4.out⟩
    | some z =>
     obtain ⟨z1, z2⟩ := z
     simp only [Option.getD, Option.isSome]
     by_cases e : la + g ≤ z1
     ·have u0 : decide (la + g ≤ z1) = true := by simpa using e
      have HF : Hid (mayMA t (ref, rv, P, S, g) = true) := Lib.hid (by rw [HML.out, HFi.out]; exact u0)
      clear e
      have y0 : w9.cell? ⟨w.heap.size, 0, none⟩ = some (.slice Ae ne ce) := Hy4.out.cell 0
      have y1 : w9.cell? ⟨w.heap.size, 1, none⟩ = some (.slice Aj nj cj) := Hy4.out.cell 1
      have y2 : w9.cell? ⟨w.heap.size, 2, none⟩ = some (.slice Ab nb cb) := Hy4.out.cell 2
      have y3 : w9.cell? ⟨w.heap.size, 3, none⟩ = some (.slice Ar nr cr) := Hy4.out.cell 3
      have q0 : w9.cell? ⟨w.heap.size + 1, 0, none⟩ = some (.int .i64 ref) := Hq4.out.cell 0
      have q1 : w9.cell? ⟨w.heap.size + 1, 1, none⟩ = some (.bool rv) := Hq4.out.cell 1
      have q2 : w9.cell? ⟨w.heap.size + 1, 2, none⟩ = some (.slice Ap np cp) := Hq4.out.cell 2
      have q3 : w9.cell? ⟨w.heap.size + 1, 3, none⟩ = some (.slice As k cs) := Hq4.out.cell 3
      have q4 : w9.cell? ⟨w.heap.size + 1, 4, none⟩ = some (.int .i64 g) := Hq4.out.cell 4
      go_wp2_with fail
      (try rw [hw'])
      (try rw [u0])
      go_ret
      exact ⟨by rw [HF.out]; rfl, HK4.out⟩
     ·have u0 : decide (la + g ≤ z1) = false := by simpa using e
      have HF : Hid (mayMA t (ref, rv, P, S, g) = false) := Lib.hid (by rw [HML.out, HFi.out]; exact u0)
      clear e
      have y0 : w9.cell? ⟨w.heap.size, 0, none⟩ = some (.slice Ae ne ce) := Hy4.out.cell 0
      have y1 : w9.cell? ⟨w.heap.size, 1, none⟩ = some (.slice Aj nj cj) := Hy4.out.cell 1
      have y2 : w9.cell? ⟨w.heap.size, 2, none⟩ = some (.slice Ab nb cb) := Hy4.out.cell 2
      have y3 : w9.cell? ⟨w.heap.size, 3, none⟩ = some (.slice Ar nr cr) := Hy4.out.cell 3
      have q0 : w9.cell? ⟨w.heap.size + 1, 0, none⟩ = some (.int .i64 ref) := Hq4.out.cell 0
      have q1 : w9.cell? ⟨w.heap.size + 1, 1, none⟩ = some (.bool rv) := Hq4.out.cell 1
      have q2 : w9.cell? ⟨w.heap.size + 1, 2, none⟩ = some (.slice Ap np cp) := Hq4.out.cell 2
      have q3 : w9.cell? ⟨w.heap.size + 1, 3, none⟩ = some (.slice As k cs) := Hq4.out.cell 3
      have q4 : w9.cell? ⟨w.heap.size + 1, 4, none⟩ = some (.int .i64 g) := Hq4.out.cell 4
      go_wp2_with fail
      (try rw [hw'])
      (try rw [u0])
      go_ret
      exact ⟨by rw [HF.out]; rfl, HK4.out⟩
theorem reach_stop {l : List Sc} {k : Nat} {s : Sc} {age : Int} (h : ∀ j x, j < k → l[j]? = some x → age < x.2) (hs : l[k]? = some s) (hage : s.2 ≤ age) : reachM l age = endS (l.take k) := by
 rw [reach_take, while_is (j := k) (fun j x hj hx => by simpa using h j x hj hx) (fun x hx => by rw [hs] at hx; injection hx with hx; subst hx; simpa using hage) (by have := (List.getElem?_eq_some_iff.1 hs).1; omega)]
theorem reach_end {l : List Sc} {age : Int} (h : ∀ j x, j < l.length → l[j]? = some x → age < x.2) : reachM l age = endS l := by
 rw [reach_take, while_is (j := l.length) (fun j x hj hx => by simpa using h j x hj hx) (fun x hx => by simp at hx) (Nat.le_refl _), List.take_length]
set_option maxHeartbeats 8000000 in
set_option maxRecDepth 100000 in
theorem reach_any (B : Nat) (ref : Int) (rv : Bool) (S : List Sc) (g age : Int) (Ap : Option Addr) (np cp : Nat) (As : Option Addr) (ns cs : Nat) (w : World) (hS : ScAt w B As ns cs S) (hns : ns ≤ 1000000) :
  Calls Tryz.prog 27 #[.agg #[.int .i64 ref, .bool rv, .slice Ap np cp, .slice As ns cs, .int .i64 g], .int .i64 age] w fun en w' => en = .returned (.int .i64 (reachM S age)) ∧ Keep Never w w' := by
 have HS := Lib.hid hS
 have HSl : Hid (S.length = ns) := Lib.hid hS.len
 clear hS
 obtain ⟨w1, hw1⟩ : ∃ V : World, w.alloc (.cells #[.int .i64 ref, .bool rv, .slice Ap np cp, .slice As ns cs, .int .i64 g] 38) = V := ⟨_, rfl⟩
 have kw1 : Keep Never w w1 := by rw [← hw1]; exact (Keep.refl _ _).alloc _
 have bw1 := Blk.new w 38 #[.int .i64 ref, .bool rv, .slice Ap np cp, .slice As ns cs, .int .i64 g]
 rw [hw1] at bw1
 have HB1 := Lib.hid bw1
 have HK := Lib.hid kw1
 clear kw1 bw1
 have q0 : w1.cell? ⟨w.heap.size, 0, none⟩ = some (.int .i64 ref) := HB1.out.cell 0
 have q1 : w1.cell? ⟨w.heap.size, 1, none⟩ = some (.bool rv) := HB1.out.cell 1
 have q2 : w1.cell? ⟨w.heap.size, 2, none⟩ = some (.slice Ap np cp) := HB1.out.cell 2
 have q3 : w1.cell? ⟨w.heap.size, 3, none⟩ = some (.slice As ns cs) := HB1.out.cell 3
 have q4 : w1.cell? ⟨w.heap.size, 4, none⟩ = some (.int .i64 g) := HB1.out.cell 4
 go_enter Tryz.func27, Tryz.ntmps27
 go_wp2_with fail
 clear q0 q1 q2 q3 q4 hw1
 go_loopw [5, 11] (fun la si wr => ∃ k : Nat, k ≤ ns ∧ si = .int .i64 k ∧ la = .int .i64 (endS (S.take k)) ∧ Hid (Keep Never w wr ∧ ∀ j x, j < k → S[j]? = some x → age < x.2)) (fun _ si _ => ns - (intOf si).toNat)
 case atStart => exact ⟨0, by omega, rfl, rfl, Lib.hid ⟨HK.out, fun j x hj => absurd hj (by omega)⟩⟩
 case round =>
  obtain ⟨k, hk, rfl, rfl, HH⟩ := hrel
  by_cases h0 : k < ns
  ·have hki : (k : Int) < (ns : Int) := by omega
   obtain ⟨ad, s, hA, _, hs, c0, c1⟩ := (HS.out.keep HH.out.1).rd.sc h0
   have HSn := Lib.hid (endS_take hs)
   have HSs := Lib.hid hs
   obtain ⟨s1, s2⟩ := s
   simp only at c0 c1 HSn
   subst hA
   clear hs
   obtain ⟨la, hla⟩ : ∃ z, endS (S.take k) = z := ⟨_, rfl⟩
   have HLa := Lib.hid hla
   rw [hla]
   clear hla
   obtain ⟨w8, hw8⟩ : ∃ V : World, wr.alloc (.cells #[.int .i64 s1, .int .i64 s2] 58) = V := ⟨_, rfl⟩
   have k8 : Keep Never wr w8 := by rw [← hw8]; exact (Keep.refl _ _).alloc _
   have B8 := Blk.new wr 58 #[.int .i64 s1, .int .i64 s2]
   rw [hw8] at B8
   obtain ⟨br, hbr⟩ : ∃ q, wr.heap.size = q := ⟨_, rfl⟩
   rw [hbr] at B8
   have HB8 := Lib.hid B8
   have HK8 := Lib.hid (HH.out.1.trans k8)
   have b0 : w8.cell? ⟨br, 0, none⟩ = some (.int .i64 s1) := HB8.out.cell 0
   have b1 : w8.cell? ⟨br, 1, none⟩ = some (.int .i64 s2) := HB8.out.cell 1
   clear B8 k8
   by_cases e : s2 ≤ age
   ·have u0 : decide (s2 ≤ age) = true := by simpa using e
    have HF : Hid (reachM S age = la) := Lib.hid (by rw [reach_stop HH.out.2 HSs.out e, HLa.out])
    clear e
    go_wp2_with fail
    go_ret
    exact ⟨by rw [HF.out]; rfl, HK8.out⟩
   ·have u0 : decide (s2 ≤ age) = false := by simpa using e
    have HN : Hid (age < s2) := Lib.hid (by omega)
    clear e
    go_wp2_with fail
    refine ⟨⟨k + 1, by omega, by go_num, by rw [HSn.out], Lib.hid ⟨HK8.out, fun j x hj hx => ?_⟩⟩, ?_⟩
    ·rcases Nat.lt_or_ge j k with h | h
     ·exact HH.out.2 j x h hx
     ·obtain rfl : j = k := by omega
      rw [HSs.out] at hx
      injection hx with hx
      subst hx
      exact HN.out
    ·simp [intOf]; try omega
  ·obtain rfl : k = ns := by omega
   have hki : ¬ (k : Int) < (k : Int) := by omega
   have HF : Hid (reachM S age = endS (S.take k)) := Lib.hid (by rw [List.take_of_length_le (by rw [HSl.out]; exact Nat.le_refl _)]; exact reach_end (fun j x hj hx => HH.out.2 j x (by rw [← HSl.out]; exact hj) hx))
   go_wp2_with fail
   go_ret
   exact ⟨by rw [HF.out]; rfl, HH.out.1⟩
end Go.Proofs.YtpapiojicbbheaaGreatDoor

namespace Go.Proofs.YtpapiojicbbheaaGreatDoor
open Go.RowKit
theorem nums_in : ∀ {tr : List (Int × Int)} {x : Int}, x ∈ nums tr → ∃ v, (v, x) ∈ tr ∧ v ≠ 7
 | [], x, h => by simp [nums] at h
 | (v, m) :: tr, x, h => by
  unfold nums at h
  by_cases h7 : v = 7
  ·rw [if_pos h7] at h
   obtain ⟨a, h1, h2⟩ := nums_in h
   exact ⟨a, List.mem_cons_of_mem _ h1, h2⟩
  ·rw [if_neg h7] at h
   rcases List.mem_cons.1 h with h | h
   ·exact ⟨v, by rw [h]; simp, h7⟩
   ·obtain ⟨a, h1, h2⟩ := nums_in h
    exact ⟨a, List.mem_cons_of_mem _ h1, h2⟩
theorem items_num {id : Int} {V : List Int} (h : badP (id, V) = false) : (∃ l, ItemsM id V = .ok l) ∧ ∀ x ∈ V, 0 ≤ x ∧ x < 4294967296 := by
 unfold badP at h
 simp only at h
 cases hi : ItemsM id V with
 | error e => rw [hi] at h; cases h
 | ok l =>
  refine ⟨⟨l, rfl⟩, fun x hx => ?_⟩
  unfold ItemsM at hi
  cases hj : itemsM id V with
  | error e => rw [hj] at hi; cases hi
  | ok out =>
   obtain ⟨T, tr, _, _, _, hV, hm⟩ := itemsM_ok hj
   rw [← hV] at hx
   obtain ⟨v, h1, h2⟩ := nums_in hx
   rcases hm _ h1 with h3 | h3
   ·exact absurd h3.1 h2
   ·have hr : _ := vMay_range (v := v) h3.2
    have hp : (2 : Nat) ^ (vWidth v).toNat ≤ 2 ^ 32 := Nat.pow_le_pow_right (by omega) (by omega)
    have e32 : (2 : Nat) ^ 32 = 4294967296 := rfl
    exact ⟨hr.2.2.1, by have := hr.2.2.2; simp only at this; omega⟩
def MaRet (r : Ma × Int) (w : World) (e : Ending) (w' : World) : Prop := ∃ y : MX, e = .returned (.tuple #[.agg (y.vs r.1), .int .i64 r.2]) ∧ MaAt w' w'.heap.size y r.1 ∧ Keep Never w w'
set_option maxRecDepth 100000 in
theorem ma_results2 {fn : Func} {r s : Nat} (h : fn.results = #[.cell r 38, .tmp s]) {w : World} {b : Nat} {v0 v1 v2 v3 v4 : Value} (hb : Blk w b 38 #[v0, v1, v2, v3, v4]) (tmps : Array Value) (ht : tmps.getD r undef = .pointer (some ⟨b, 0, none⟩)) :
  (results fn tmps).run Tryz.prog w = .ok (.tuple #[.agg #[v0, v1, v2, v3, v4], tmps.getD s undef]) w := by
 have q0 : w.cell? ⟨b, 0, none⟩ = some v0 := hb.cell 0
 have q1 : w.cell? ⟨b, 1, none⟩ = some v1 := hb.cell 1
 have q2 : w.cell? ⟨b, 2, none⟩ = some v2 := hb.cell 2
 have q3 : w.cell? ⟨b, 3, none⟩ = some v3 := hb.cell 3
 have q4 : w.cell? ⟨b, 4, none⟩ = some v4 := hb.cell 4
 have ht' : tmps[r]?.getD undef = .pointer (some ⟨b, 0, none⟩) := by rw [← Array.getD_eq_getD_getElem?]; exact ht
 simp [results, h, ht', go_sem, q0, q1, q2, q3, q4]
abbrev put5 (w : World) (b : Nat) (v0 v1 v2 v3 v4 : Value) : World := ((((w.setCell ⟨b, 0, none⟩ v0).setCell ⟨b, 1, none⟩ v1).setCell ⟨b, 2, none⟩ v2).setCell ⟨b, 3, none⟩ v3).setCell ⟨b, 4, none⟩ v4
theorem put5_blk {w : World} {b t : Nat} {u0 u1 u2 u3 u4 : Value} (h : Blk w b t #[u0, u1, u2, u3, u4]) (v0 v1 v2 v3 v4 : Value) : Blk (put5 w b v0 v1 v2 v3 v4) b t #[v0, v1, v2, v3, v4] := by
 have := ((((h.set_ 0 v0).set_ 1 v1).set_ 2 v2).set_ 3 v3).set_ 4 v4
 simpa using this
theorem put5_own {S : Nat → Prop} {w0 w : World} {b : Nat} (h : Keep S w0 w) (hb : S b ∨ w0.heap.size ≤ b) (v0 v1 v2 v3 v4 : Value) : Keep S w0 (put5 w b v0 v1 v2 v3 v4) :=
 ((((h.set_ (p := ⟨b, 0, none⟩) hb v0).set_ (p := ⟨b, 1, none⟩) hb v1).set_ (p := ⟨b, 2, none⟩) hb v2).set_ (p := ⟨b, 3, none⟩) hb v3).set_ (p := ⟨b, 4, none⟩) hb v4
theorem ma_nil {w : World} : MaAt w w.heap.size ⟨none, 0, 0, none, 0, 0⟩ noMa := ⟨Rep.Sl.nil _ _ _, ScAt.nil_ _ _⟩
theorem head_id {l : List Pk} {p : Pk} (h : l[0]? = some p) : headId l = p.1 ∧ headV l = p.2 := by
 cases l with
 | nil => cases h
 | cons x l => simp at h; subst h; exact ⟨rfl, rfl⟩
theorem read_chk {t : Tp} {ref : Int} {rv : Bool} {l : List Pk} (h : checkM t ≠ 0) : readM badP t ref rv l = (noMa, 1) := by unfold readM; rw [if_pos h]
def readT (t : Tp) (ref : Int) (rv : Bool) (r : Except Int (List Sc × Int)) (y : Except Int (List Stp)) : Ma × Int := match r with
 | .error e => (noMa, e)
 | .ok z => match y with
  | .error e => (noMa, e)
  | .ok P => if mayMA t (ref, rv, P, z.1, z.2) = true then ((ref, rv, P, z.1, z.2), 0) else (noMa, 7)
theorem read_bal {t : Tp} {ref : Int} {rv : Bool} {l : List Pk} (h : checkM t = 0) : readM badP t ref rv l = match balM t.2.2.1 ref with
 | none => (noMa, 4)
 | some b => if headId l ≠ 15 ∨ l.any badP = true then (noMa, 50) else readT t ref rv (secsM rv (headV l)) (wayR t (b.2.1, rv) l) := by
 unfold readM
 rw [if_neg (by simpa using h)]
 cases balM t.2.2.1 ref <;> rfl
theorem way_none {t : Tp} {s : Stp} {l : List Pk} (h : ∀ x ∈ l, (x.1 == 5) = false) : wayR t s l = .ok [s] := by
 unfold wayR
 rw [List.find?_eq_none.2 (fun x hx => by simpa using h x hx)]
theorem way_some {t : Tp} {s : Stp} {l : List Pk} {i : Nat} {p : Pk} (h : l[i]? = some p) (h5 : (p.1 == 5) = true) (hb : ∀ x ∈ l.take i, (x.1 == 5) = false) : wayR t s l = linkedR t [s] p.2 := by
 unfold wayR
 have : l.find? (fun p => p.1 == 5) = some p := by
  obtain ⟨h1, h2⟩ := List.getElem?_eq_some_iff.1 h
  rw [← List.take_append_drop i l, List.find?_append, List.find?_eq_none.2 (fun x hx => by simpa using hb x hx), List.drop_eq_getElem_cons h1, h2]
  simp [List.find?_cons, h5]
 rw [this]
theorem readT_bad {t : Tp} {ref : Int} {rv : Bool} {e : Int} {y : Except Int (List Stp)} : readT t ref rv (.error e) y = (noMa, e) := rfl
theorem readT_way {t : Tp} {ref : Int} {rv : Bool} {z : List Sc × Int} {e : Int} : readT t ref rv (.ok z) (.error e) = (noMa, e) := rfl
theorem readT_ok {t : Tp} {ref : Int} {rv : Bool} {z : List Sc × Int} {P : List Stp} : readT t ref rv (.ok z) (.ok P) = if mayMA t (ref, rv, P, z.1, z.2) = true then ((ref, rv, P, z.1, z.2), 0) else (noMa, 7) := rfl
theorem sectsR_len {u : Int} : ∀ {k : Nat} {a : Int} {v : List Int} {z : List Sc × List Int}, sectsR u k a v = .ok z → z.1.length = k
 | 0, a, v, z, h => by unfold sectsR at h; cases h; rfl
 | k + 1, a, v, z, h => by
  unfold sectsR at h
  by_cases h0 : (sectR u a v 0).e ≠ 0
  ·rw [if_pos h0] at h; cases h
  ·rw [if_neg h0] at h
   cases hs : sectsR u k (sectR u a v 0).s.1 (sectR u a v 0).v with
   | error e => rw [hs] at h; cases h
   | ok q =>
    rw [hs] at h
    have h1 := sectsR_len hs
    obtain ⟨l, x⟩ := q
    simp only at h h1
    cases h
    simp [h1]
theorem secs_len {rv : Bool} {v : List Int} {z : List Sc × Int} (h : secsM rv v = .ok z) : z.1.length ≤ 8 := by
 unfold secsM at h
 split at h
 ·cases h
 ·unfold secs2 at h
  split at h
  ·cases h
  ·rename_i h8
   unfold secs4 at h
   split at h
   ·cases h
   ·rename_i q hq
    have h1 := sectsR_len hq
    unfold secs3 at h
    split at h
    ·cases h
    ·cases h; simp only; omega
theorem LinkRet.drewL {r : Except Int (List Stp)} {bm base : Nat} {Ap : Option Addr} {v0 v1 v3 v4 : Value} {w w' : World} {e : Ending} (h : LinkRet r bm base Ap v0 v1 v3 v4 w.drew e w') : LinkRet r bm base Ap v0 v1 v3 v4 w e w' := ⟨h.1.drewL, h.2⟩
theorem LinkRet.int {r : Except Int (List Stp)} {bm base : Nat} {Ap : Option Addr} {v0 v1 v3 v4 : Value} {w w' : World} {e : Ending} (h : LinkRet r bm base Ap v0 v1 v3 v4 w e w') : ∃ z : Int, e = .returned (.int .i64 z) := by
 cases r with
 | ok P => exact ⟨0, h.2.1⟩
 | error x => exact ⟨x, h.2.2.1⟩
theorem any_not {l : List Pk} (h : l.any badP = false) {i : Nat} {p : Pk} (hi : l[i]? = some p) : badP p = false := by
 cases hb : badP p with
 | false => rfl
 | true => rw [List.any_eq_true.2 ⟨p, List.mem_of_getElem? hi, hb⟩] at h; cases h
set_option maxHeartbeats 8000000 in
set_option maxRecDepth 100000 in
theorem read_any (x : TA) (t : Tp) (B : Nat) (ref : Int) (rv : Bool) (A : Option Addr) (n c : Nat) (l : List Pk) (w : World) (h : TpAt w B x t) (hs : TpSmall x t) (hB : B ≤ w.heap.size) (hl : PksAt w B A n c l) (hn : n ≤ 1000000) (hW : Widths w) (hg : 0 < B) :
  Calls Tryz.prog 18 #[.agg x.cs, .int .i64 ref, .bool rv, .slice A n c] w (MaRet (readM badP t ref rv l) w) := by
 have HCh := Lib.hid (fun (W : World) (hk : Keep Never w W) => check_any x t B W (h.keep hk) hs (Nat.le_trans hB hk.size))
 have HBa := Lib.hid (fun (W : World) (hk : Keep Never w W) => bal_any x t B ref W (h.keep hk) hs.b)
 have HCf := Lib.hid (fun (W : World) (hk : Keep Never w W) => containsfp_any 64 #[] badP (enters_of Tryz.func64 (by kernel_rfl) rfl) A n c B l W (hl.keep hk) (fun V p A2 n2 c2 hV q1 q2 q3 q4 q5 => rd1_any B p.1 p.2 A2 n2 c2 V q1 (by have := q1.1; simpa using this) q2 q3 q4 q5 (hW.keep (hk.trans hV) (fun h => h)) hg (Nat.le_trans hB (hk.trans hV).size)) (by omega))
 have HIf := Lib.hid (fun (W : World) (hk : Keep Never w W) => indexfp_any 69 #[] (fun p => p.1 == 5) (enters_of Tryz.func69 (by kernel_rfl) rfl) A n c B l W (hl.keep hk) (fun V p A2 n2 c2 hV q1 q2 q3 q4 q5 => rd2_any p.1 A2 n2 c2 V) (by omega))
 have HLk := Lib.hid (fun (W : World) (hk : Keep Never w W) (bm base : Nat) (v0 v1 v3 v4 : Value) (path : List Stp) (Ap : Option Addr) (np cp : Nat) (A : Option Addr) (n c : Nat) (V : List Int) (hck : checkM t = 0) (hr : Rd W B 1 A n (V.map (.int .i64))) (hc : n ≤ c) (hBm : B ≤ bm) (hbB : B ≤ base) (hbw : base ≤ W.heap.size) (hV : ∀ x ∈ V, 0 ≤ x ∧ x < 4294967296) (hm : Blk W bm 38 #[v0, v1, .slice Ap np cp, v3, v4]) (hnp : np = path.length) (ho : Own W base 30 2 Ap np cp (stpCells path)) (hp0 : path ≠ []) (hp24 : path.length ≤ 24) (hin : ∀ s ∈ path, in64 s) => linked_any B bm base v0 v1 v3 v4 x t path Ap np cp A n c V W (h.keep hk) hs hck hr hc (Nat.le_trans hB hk.size) hBm hbB hbw hV hm hnp ho hp0 hp24 hin)
 have HMy := Lib.hid (fun (W : World) (hk : Keep Never w W) (rv : Bool) (P : List Stp) (S : List Sc) (g : Int) (Ap : Option Addr) (np cp : Nat) (As : Option Addr) (ns cs : Nat) (hp : repStp.Sl W W.heap.size Ap np cp P) (hS : ScAt W W.heap.size As ns cs S) (hnp : np ≤ 1000000) (hns : ns ≤ 1000000) => may17_any x t W.heap.size ref rv P S g Ap np cp As ns cs W ((h.keep hk).wide (Nat.le_trans hB hk.size)) hs (Nat.le_refl _) hp hS hnp hns)
 have HPk := Lib.hid hl
 have HBw := Lib.hid hB
 have HNe : Hid (t.1.length ≤ 100000000) := Lib.hid (by rw [← h.e.len]; exact hs.e)
 obtain ⟨Ae, ne, ce, Aj, nj, cj, Ab, nb, cb, Ar, nr, cr⟩ := x
 simp only [TA.cs] at HCh HBa HLk HMy ⊢
 clear h hs hl hW hg
 obtain ⟨w1, hw1⟩ : ∃ V : World, w.alloc (.cells #[.slice Ae ne ce, .slice Aj nj cj, .slice Ab nb cb, .slice Ar nr cr] 27) = V := ⟨_, rfl⟩
 have zw1 : w1.heap.size = w.heap.size + 1 := by rw [← hw1]; simp
 have kw1 : Keep Never w w1 := by rw [← hw1]; exact (Keep.refl _ _).alloc _
 have bw1 := Blk.new w 27 #[.slice Ae ne ce, .slice Aj nj cj, .slice Ab nb cb, .slice Ar nr cr]
 rw [hw1] at bw1
 obtain ⟨w2, hw2⟩ : ∃ V : World, w1.alloc (.cells #[.int .i64 0, .bool false, .slice none 0 0, .slice none 0 0, .int .i64 0] 38) = V := ⟨_, rfl⟩
 have kw2 : Keep Never w1 w2 := by rw [← hw2]; exact (Keep.refl _ _).alloc _
 have bw2 := Blk.new w1 38 #[.int .i64 0, .bool false, .slice none 0 0, .slice none 0 0, .int .i64 0]
 rw [hw2, zw1] at bw2
 have HB1 := Lib.hid (bw1.keep kw2 (fun h => h))
 have HB2 := Lib.hid bw2
 have HK := Lib.hid (kw1.trans kw2)
 clear kw1 kw2 bw1 bw2
 obtain ⟨ck, hck⟩ : ∃ z, checkM t = z := ⟨_, rfl⟩
 have HC := Lib.hid (HCh.out w2 HK.out)
 rw [hck] at HC
 have HCk := Lib.hid hck
 clear hck HCh
 have y0 : w2.cell? ⟨w.heap.size, 0, none⟩ = some (.slice Ae ne ce) := HB1.out.cell 0
 have y1 : w2.cell? ⟨w.heap.size, 1, none⟩ = some (.slice Aj nj cj) := HB1.out.cell 1
 have y2 : w2.cell? ⟨w.heap.size, 2, none⟩ = some (.slice Ab nb cb) := HB1.out.cell 2
 have y3 : w2.cell? ⟨w.heap.size, 3, none⟩ = some (.slice Ar nr cr) := HB1.out.cell 3
 go_enter Tryz.func18, Tryz.ntmps18
 go_wp2_with fail
 refine HC.out.mono ?_
 rintro en w3 ⟨rfl, hk⟩
 have HK3 := Lib.hid (HK.out.trans hk)
 have HT3 := Lib.hid (HB1.out.keep hk (fun h => h))
 have HR3 := Lib.hid (HB2.out.keep hk (fun h => h))
 clear hk HC HB1 HB2 y0 y1 y2 y3 hw1 hw2 zw1
 by_cases g0 : ck = 0
 case neg =>
  have t0 : (ck != 0) = true := by simpa using g0
  have HF : Hid (readM badP t ref rv l = (noMa, 1)) := Lib.hid (read_chk (by rw [HCk.out]; exact g0))
  clear g0
  have r0 : w3.cell? ⟨w.heap.size + 1, 0, none⟩ = some (.int .i64 0) := HR3.out.cell 0
  have rf0 := HR3.out.frozen 0
  have r1 : w3.cell? ⟨w.heap.size + 1, 1, none⟩ = some (.bool false) := HR3.out.cell 1
  have rf1 := HR3.out.frozen 1
  have r2 : w3.cell? ⟨w.heap.size + 1, 2, none⟩ = some (.slice none 0 0) := HR3.out.cell 2
  have rf2 := HR3.out.frozen 2
  have r3 : w3.cell? ⟨w.heap.size + 1, 3, none⟩ = some (.slice none 0 0) := HR3.out.cell 3
  have rf3 := HR3.out.frozen 3
  have r4 : w3.cell? ⟨w.heap.size + 1, 4, none⟩ = some (.int .i64 0) := HR3.out.cell 4
  have rf4 := HR3.out.frozen 4
  go_wp2_with fail
  (try simp only [Exit.inBlock, Exit.then])
  refine bodyPost_ret (ma_results2 (fn := Tryz.f18) (r := 8) (s := 9) rfl (put5_blk HR3.out (.int .i64 0) (.bool false) (.slice none 0 0) (.slice none 0 0) (.int .i64 0)) _ rfl) rfl ?_
  rw [HF.out]
  exact ⟨⟨none, 0, 0, none, 0, 0⟩, rfl, ma_nil, put5_own HK3.out (.inr (by omega)) _ _ _ _ _⟩
 have t0 : (ck != 0) = false := by simpa using g0
 have HC0 : Hid (checkM t = 0) := Lib.hid (HCk.out.trans g0)
 have HD0 := Lib.hid (read_bal (ref := ref) (rv := rv) (l := l) HC0.out)
 have hw := HBa.out w3 HK3.out
 unfold BalRet at hw
 obtain ⟨ob, hob⟩ : ∃ z, balM t.2.2.1 ref = z := ⟨_, rfl⟩
 rw [hob] at hw HD0
 have HC := Lib.hid hw
 have HOb := Lib.hid hob
 clear g0 HCk hw hob HBa
 have y0 : w3.cell? ⟨w.heap.size, 0, none⟩ = some (.slice Ae ne ce) := HT3.out.cell 0
 have y1 : w3.cell? ⟨w.heap.size, 1, none⟩ = some (.slice Aj nj cj) := HT3.out.cell 1
 have y2 : w3.cell? ⟨w.heap.size, 2, none⟩ = some (.slice Ab nb cb) := HT3.out.cell 2
 have y3 : w3.cell? ⟨w.heap.size, 3, none⟩ = some (.slice Ar nr cr) := HT3.out.cell 3
 go_wp2_with fail
 refine HC.out.mono ?_
 rintro en w4 ⟨rfl, hk⟩
 have HK4 := Lib.hid (HK3.out.trans hk)
 have HT4 := Lib.hid (HT3.out.keep hk (fun h => h))
 have HR4 := Lib.hid (HR3.out.keep hk (fun h => h))
 clear hk HC HT3 HR3 y0 y1 y2 y3 t0
 cases ob with
 | none =>
  have HF : Hid (readM badP t ref rv l = (noMa, 4)) := Lib.hid HD0.out
  simp only [Option.getD, Option.isSome]
  have HKz := Lib.hid (HK4.out.alloc (.cells #[.int .i64 0, .int .i64 0, .int .i64 0] 94))
  have HRz := Lib.hid (HR4.out.alloc (.cells #[.int .i64 0, .int .i64 0, .int .i64 0] 94))
  have r0 : (w4.alloc (.cells #[.int .i64 0, .int .i64 0, .int .i64 0] 94)).cell? ⟨w.heap.size + 1, 0, none⟩ = some (.int .i64 0) := HRz.out.cell 0
  have rf0 := HRz.out.frozen 0
  have r1 : (w4.alloc (.cells #[.int .i64 0, .int .i64 0, .int .i64 0] 94)).cell? ⟨w.heap.size + 1, 1, none⟩ = some (.bool false) := HRz.out.cell 1
  have rf1 := HRz.out.frozen 1
  have r2 : (w4.alloc (.cells #[.int .i64 0, .int .i64 0, .int .i64 0] 94)).cell? ⟨w.heap.size + 1, 2, none⟩ = some (.slice none 0 0) := HRz.out.cell 2
  have rf2 := HRz.out.frozen 2
  have r3 : (w4.alloc (.cells #[.int .i64 0, .int .i64 0, .int .i64 0] 94)).cell? ⟨w.heap.size + 1, 3, none⟩ = some (.slice none 0 0) := HRz.out.cell 3
  have rf3 := HRz.out.frozen 3
  have r4 : (w4.alloc (.cells #[.int .i64 0, .int .i64 0, .int .i64 0] 94)).cell? ⟨w.heap.size + 1, 4, none⟩ = some (.int .i64 0) := HRz.out.cell 4
  have rf4 := HRz.out.frozen 4
  go_wp2_with fail
  (try simp only [Exit.inBlock, Exit.then])
  refine bodyPost_ret (ma_results2 (fn := Tryz.f18) (r := 8) (s := 9) rfl (put5_blk HRz.out (.int .i64 0) (.bool false) (.slice none 0 0) (.slice none 0 0) (.int .i64 0)) _ rfl) rfl ?_
  rw [HF.out]
  exact ⟨⟨none, 0, 0, none, 0, 0⟩, rfl, ma_nil, put5_own HKz.out (.inr (by omega)) _ _ _ _ _⟩
 | some b =>
  obtain ⟨b1, b2, b3⟩ := b
  simp only [Option.getD, Option.isSome] at HD0 ⊢
  obtain ⟨w5, hw5⟩ : ∃ V : World, w4.alloc (.cells #[.int .i64 b1, .int .i64 b2, .int .i64 b3] 94) = V := ⟨_, rfl⟩
  have hk : Keep Never w4 w5 := by rw [← hw5]; exact (Keep.refl _ _).alloc _
  have B5 := Blk.new w4 94 #[.int .i64 b1, .int .i64 b2, .int .i64 b3]
  rw [hw5] at B5
  obtain ⟨bb, hbb⟩ : ∃ q, w4.heap.size = q := ⟨_, rfl⟩
  rw [hbb] at B5
  have HK5 := Lib.hid (HK4.out.trans hk)
  have HT5 := Lib.hid (HT4.out.keep hk (fun h => h))
  have HR5 := Lib.hid (HR4.out.keep hk (fun h => h))
  have HD5 := Lib.hid B5
  have d1 : w5.cell? ⟨bb, 1, none⟩ = some (.int .i64 b2) := HD5.out.cell 1
  clear hk B5 HT4 HR4
  by_cases g1 : 0 < n
  case neg =>
   obtain rfl : n = 0 := by omega
   have HF : Hid (readM badP t ref rv l = (noMa, 50)) := Lib.hid (by
    have : l = [] := List.length_eq_zero_iff.1 HPk.out.len
    rw [HD0.out, this, if_pos (.inl (by decide))])
   have r0 : w5.cell? ⟨w.heap.size + 1, 0, none⟩ = some (.int .i64 0) := HR5.out.cell 0
   have rf0 := HR5.out.frozen 0
   have r1 : w5.cell? ⟨w.heap.size + 1, 1, none⟩ = some (.bool false) := HR5.out.cell 1
   have rf1 := HR5.out.frozen 1
   have r2 : w5.cell? ⟨w.heap.size + 1, 2, none⟩ = some (.slice none 0 0) := HR5.out.cell 2
   have rf2 := HR5.out.frozen 2
   have r3 : w5.cell? ⟨w.heap.size + 1, 3, none⟩ = some (.slice none 0 0) := HR5.out.cell 3
   have rf3 := HR5.out.frozen 3
   have r4 : w5.cell? ⟨w.heap.size + 1, 4, none⟩ = some (.int .i64 0) := HR5.out.cell 4
   have rf4 := HR5.out.frozen 4
   go_wp2_with fail
   (try simp only [Exit.inBlock, Exit.then])
   refine bodyPost_ret (ma_results2 (fn := Tryz.f18) (r := 8) (s := 9) rfl (put5_blk HR5.out (.int .i64 0) (.bool false) (.slice none 0 0) (.slice none 0 0) (.int .i64 0)) _ rfl) rfl ?_
   rw [HF.out]
   exact ⟨⟨none, 0, 0, none, 0, 0⟩, rfl, ma_nil, put5_own HK5.out (.inr (by omega)) _ _ _ _ _⟩
  have t1 : ((n : Int) == 0) = false := by simp; omega
  obtain ⟨p0, hp0⟩ : ∃ p0, l[0]? = some p0 := ⟨_, List.getElem?_eq_getElem (by have := HPk.out.len; omega)⟩
  obtain ⟨ad, A1, n1, c1, hA, hab, _, e0, e1, q1, q2, q3, q4, q5⟩ := (HPk.out.keep HK5.out).one 0 p0 hp0
  subst hA
  have ea : ad.add (0 * 2) = ad := by rw [Nat.zero_mul]; unfold Addr.add; split <;> simp_all
  rw [ea] at e0 e1
  have HHd := Lib.hid (head_id hp0)
  have HP0 := Lib.hid hp0
  have HQ := Lib.hid (⟨q1, q2, q4⟩ : Rd w5 B 1 A1 n1 (p0.2.map (.int .i64)) ∧ n1 ≤ c1 ∧ ∀ x ∈ p0.2, i64_ x)
  obtain ⟨id0, V0⟩ := p0
  simp only at e0 e1 HHd HQ
  rw [HHd.out.1, HHd.out.2] at HD0
  have HAb := Lib.hid hab
  clear hp0 ea q1 q2 q3 q4 q5 hab
  by_cases g2 : id0 = 15
  case neg =>
   have t2 : (id0 != 15) = true := by simpa using g2
   have HF : Hid (readM badP t ref rv l = (noMa, 50)) := Lib.hid (by rw [HD0.out, if_pos (.inl g2)])
   clear g2
   have r0 : w5.cell? ⟨w.heap.size + 1, 0, none⟩ = some (.int .i64 0) := HR5.out.cell 0
   have rf0 := HR5.out.frozen 0
   have r1 : w5.cell? ⟨w.heap.size + 1, 1, none⟩ = some (.bool false) := HR5.out.cell 1
   have rf1 := HR5.out.frozen 1
   have r2 : w5.cell? ⟨w.heap.size + 1, 2, none⟩ = some (.slice none 0 0) := HR5.out.cell 2
   have rf2 := HR5.out.frozen 2
   have r3 : w5.cell? ⟨w.heap.size + 1, 3, none⟩ = some (.slice none 0 0) := HR5.out.cell 3
   have rf3 := HR5.out.frozen 3
   have r4 : w5.cell? ⟨w.heap.size + 1, 4, none⟩ = some (.int .i64 0) := HR5.out.cell 4
   have rf4 := HR5.out.frozen 4
   go_wp2_with fail
   (try simp only [Exit.inBlock, Exit.then])
   refine bodyPost_ret (ma_results2 (fn := Tryz.f18) (r := 8) (s := 9) rfl (put5_blk HR5.out (.int .i64 0) (.bool false) (.slice none 0 0) (.slice none 0 0) (.int .i64 0)) _ rfl) rfl ?_
   rw [HF.out]
   exact ⟨⟨none, 0, 0, none, 0, 0⟩, rfl, ma_nil, put5_own HK5.out (.inr (by omega)) _ _ _ _ _⟩
  subst g2
  have hw := HCf.out w5 HK5.out
  obtain ⟨ab, hab⟩ : ∃ z, l.any badP = z := ⟨_, rfl⟩
  rw [hab] at hw HD0
  have HAny := Lib.hid hab
  have HC := Lib.hid hw
  clear hw hab HCf
  go_wp2_with fail
  refine HC.out.mono ?_
  rintro en w6 ⟨rfl, hk⟩
  have HK6 := Lib.hid (HK5.out.trans hk)
  have HT6 := Lib.hid (HT5.out.keep hk (fun h => h))
  have HR6 := Lib.hid (HR5.out.keep hk (fun h => h))
  have HD6 := Lib.hid (HD5.out.keep hk (fun h => h))
  have HE1 := Lib.hid (keepT hk e1)
  have HQ6 := Lib.hid (HQ.out.1.keep hk (fun _ h => h.elim))
  clear hk HC HT5 HR5 HD5 e0 e1 d1 t1
  cases ab with
  | true =>
   have HF : Hid (readM badP t ref rv l = (noMa, 50)) := Lib.hid (by rw [HD0.out, if_pos (.inr rfl)])
   have r0 : w6.cell? ⟨w.heap.size + 1, 0, none⟩ = some (.int .i64 0) := HR6.out.cell 0
   have rf0 := HR6.out.frozen 0
   have r1 : w6.cell? ⟨w.heap.size + 1, 1, none⟩ = some (.bool false) := HR6.out.cell 1
   have rf1 := HR6.out.frozen 1
   have r2 : w6.cell? ⟨w.heap.size + 1, 2, none⟩ = some (.slice none 0 0) := HR6.out.cell 2
   have rf2 := HR6.out.frozen 2
   have r3 : w6.cell? ⟨w.heap.size + 1, 3, none⟩ = some (.slice none 0 0) := HR6.out.cell 3
   have rf3 := HR6.out.frozen 3
   have r4 : w6.cell? ⟨w.heap.size + 1, 4, none⟩ = some (.int .i64 0) := HR6.out.cell 4
   have rf4 := HR6.out.frozen 4
   go_wp2_with fail
   (try simp only [Exit.inBlock, Exit.then])
   refine bodyPost_ret (ma_results2 (fn := Tryz.f18) (r := 8) (s := 9) rfl (put5_blk HR6.out (.int .i64 0) (.bool false) (.slice none 0 0) (.slice none 0 0) (.int .i64 0)) _ rfl) rfl ?_
   rw [HF.out]
   exact ⟨⟨none, 0, 0, none, 0, 0⟩, rfl, ma_nil, put5_own HK6.out (.inr (by omega)) _ _ _ _ _⟩
  | false =>
  have HD7 : Hid (readM badP t ref rv l = readT t ref rv (secsM rv V0) (wayR t (b2, rv) l)) := Lib.hid (by rw [HD0.out, if_neg (by simp)])
  have d1 : w6.cell? ⟨bb, 1, none⟩ = some (.int .i64 b2) := HD6.out.cell 1
  clear HD0
  go_upto_region 10 with (fail)
  obtain ⟨w7, hw7⟩ : ∃ V : World, (w6.alloc (.cells #[.int .i64 b2, .bool rv] 30)).alloc (.cells #[.int .i64 ref, .bool rv, .slice (some ⟨w6.heap.size, 0, none⟩) 1 1, .slice none 0 0, .int .i64 0] 38) = V := ⟨_, rfl⟩
  rw [hw7]
  have hk : Keep Never w6 w7 := by rw [← hw7]; exact ((Keep.refl _ _).alloc _).alloc _
  have R7 := (Blk.new w6 30 #[.int .i64 b2, .bool rv]).alloc (.cells #[.int .i64 ref, .bool rv, .slice (some ⟨w6.heap.size, 0, none⟩) 1 1, .slice none 0 0, .int .i64 0] 38)
  have M7 := Blk.new (w6.alloc (.cells #[.int .i64 b2, .bool rv] 30)) 38 #[.int .i64 ref, .bool rv, .slice (some ⟨w6.heap.size, 0, none⟩) 1 1, .slice none 0 0, .int .i64 0]
  rw [hw7] at R7 M7
  have ez : (w6.alloc (.cells #[.int .i64 b2, .bool rv] 30)).heap.size = w6.heap.size + 1 := by simp
  rw [ez] at M7
  have hz7 : w7.heap.size = w6.heap.size + 2 := by rw [← hw7]; simp
  obtain ⟨br, hbr⟩ : ∃ q, w6.heap.size = q := ⟨_, rfl⟩
  have hbrw : w.heap.size + 1 < br := by rw [← hbr]; exact HR6.out.lt
  rw [hbr] at R7 M7 hz7 ⊢
  obtain ⟨bm, hbm⟩ : ∃ q, br + 1 = q := ⟨_, rfl⟩
  rw [hbm] at M7 ⊢
  have HBm : Hid (w.heap.size + 1 < br ∧ br < bm ∧ bm < w7.heap.size) := Lib.hid (by omega)
  have HK7 := Lib.hid (HK6.out.trans hk)
  have HT7 := Lib.hid (HT6.out.keep hk (fun h => h))
  have HR7 := Lib.hid (HR6.out.keep hk (fun h => h))
  have HM7 := Lib.hid M7
  have HO7 : Hid (Own w7 w.heap.size 30 2 (some ⟨br, 0, none⟩) 1 1 (stpCells [((b2, rv) : Stp)])) := Lib.hid (Own.of_blk2 (xs := [.int .i64 b2, .bool rv]) R7 rfl (by unfold maxLen; omega) (by omega))
  have HE7 := keepT hk HE1.out
  have HB2 : Hid (in64 ((b2, rv) : Stp)) := Lib.hid (in64_there (check_bal HC0.out (bal_mem HOb.out).1).2.2.1 HNe.out)
  have hw := secs_any B bm ref rv (.slice (some ⟨br, 0, none⟩) 1 1) A1 n1 c1 V0 w7 (HQ6.out.keep hk (fun _ h => h.elim)) HQ.out.2.1 (Nat.le_trans HBw.out HK7.out.size) (by have := HBm.out; have := HBw.out; omega) HQ.out.2.2 M7
  obtain ⟨sr, hsr⟩ : ∃ z, secsM rv V0 = z := ⟨_, rfl⟩
  rw [hsr] at hw HD7
  have HSl := Lib.hid hsr
  have HC := Lib.hid hw
  clear hk R7 M7 hz7 hbr hbrw hbm hw7 hw hsr HT6 HR6 HD6 HE1 HQ6 d1 ez
  go_wp2_with fail
  refine HC.out.mono ?_
  rintro en w8 ⟨hk, hm⟩
  have HK8 := Lib.hid (HK7.out.then_ hk (fun i hi (h : i = bm) => by have := HBm.out; omega))
  have HT8 := Lib.hid (HT7.out.keep hk (fun (h : w.heap.size = bm) => by have := HBm.out; omega))
  have HR8 := Lib.hid (HR7.out.keep hk (fun (h : w.heap.size + 1 = bm) => by have := HBm.out; omega))
  have HO8 := Lib.hid (HO7.out.keep hk (fun q hq (h : q = bm) => by obtain ⟨_, he, rfl⟩ := hq; cases he; have := HBm.out; simp only at h; omega))
  have HB8 : Hid (bm < w8.heap.size) := Lib.hid (Nat.lt_of_lt_of_le HBm.out.2.2 hk.size)
  have HI8 := Lib.hid (HIf.out w8 HK8.out)
  clear hk HC HT7 HR7 HO7 HE7 HIf
  cases sr with
  | error x =>
   obtain ⟨hx0, rfl, _⟩ := hm
   have te : (x == 0) = false := by simpa using hx0
   have te2 : (x != 0) = true := by simpa using hx0
   have HF : Hid (readM badP t ref rv l = (noMa, x)) := Lib.hid (by rw [HD7.out, readT_bad])
   clear hx0
   go_wp2_with fail
   refine HI8.out.mono ?_
   rintro en w9 ⟨hc, hk⟩
   have HK9 := Lib.hid (HK8.out.trans hk)
   have HR9 := Lib.hid (HR8.out.keep hk (fun h => h))
   clear hk
   rcases hc with ⟨i, s, rfl, _⟩ | ⟨rfl, _⟩
   ·have r0 : w9.cell? ⟨w.heap.size + 1, 0, none⟩ = some (.int .i64 0) := HR9.out.cell 0
    have rf0 := HR9.out.frozen 0
    have r1 : w9.cell? ⟨w.heap.size + 1, 1, none⟩ = some (.bool false) := HR9.out.cell 1
    have rf1 := HR9.out.frozen 1
    have r2 : w9.cell? ⟨w.heap.size + 1, 2, none⟩ = some (.slice none 0 0) := HR9.out.cell 2
    have rf2 := HR9.out.frozen 2
    have r3 : w9.cell? ⟨w.heap.size + 1, 3, none⟩ = some (.slice none 0 0) := HR9.out.cell 3
    have rf3 := HR9.out.frozen 3
    have r4 : w9.cell? ⟨w.heap.size + 1, 4, none⟩ = some (.int .i64 0) := HR9.out.cell 4
    have rf4 := HR9.out.frozen 4
    go_wp2_with fail
    (try simp only [Exit.inBlock, Exit.then])
    refine bodyPost_ret (ma_results2 (fn := Tryz.f18) (r := 8) (s := 9) rfl (put5_blk HR9.out (.int .i64 0) (.bool false) (.slice none 0 0) (.slice none 0 0) (.int .i64 0)) _ rfl) rfl ?_
    rw [HF.out]
    exact ⟨⟨none, 0, 0, none, 0, 0⟩, rfl, ma_nil, put5_own HK9.out (.inr (by omega)) _ _ _ _ _⟩
   ·have r0 : w9.cell? ⟨w.heap.size + 1, 0, none⟩ = some (.int .i64 0) := HR9.out.cell 0
    have rf0 := HR9.out.frozen 0
    have r1 : w9.cell? ⟨w.heap.size + 1, 1, none⟩ = some (.bool false) := HR9.out.cell 1
    have rf1 := HR9.out.frozen 1
    have r2 : w9.cell? ⟨w.heap.size + 1, 2, none⟩ = some (.slice none 0 0) := HR9.out.cell 2
    have rf2 := HR9.out.frozen 2
    have r3 : w9.cell? ⟨w.heap.size + 1, 3, none⟩ = some (.slice none 0 0) := HR9.out.cell 3
    have rf3 := HR9.out.frozen 3
    have r4 : w9.cell? ⟨w.heap.size + 1, 4, none⟩ = some (.int .i64 0) := HR9.out.cell 4
    have rf4 := HR9.out.frozen 4
    go_wp2_with fail
    (try simp only [Exit.inBlock, Exit.then])
    refine bodyPost_ret (ma_results2 (fn := Tryz.f18) (r := 8) (s := 9) rfl (put5_blk HR9.out (.int .i64 0) (.bool false) (.slice none 0 0) (.slice none 0 0) (.int .i64 0)) _ rfl) rfl ?_
    rw [HF.out]
    exact ⟨⟨none, 0, 0, none, 0, 0⟩, rfl, ma_nil, put5_own HK9.out (.inr (by omega)) _ _ _ _ _⟩
  | ok z =>
  obtain ⟨zs, zg⟩ := z
  obtain ⟨rfl, As, ns, cs, hm8, hns, hos⟩ := hm
  have HNs : Hid (ns ≤ 8) := Lib.hid (by rw [hns]; exact secs_len HSl.out)
  have HM8 := Lib.hid hm8
  have HS8 := Lib.hid hos
  clear hm8 hns hos
  go_wp2_with fail
  refine HI8.out.mono ?_
  rintro en w9 ⟨hc, hk⟩
  have HK9 := Lib.hid (HK8.out.trans hk)
  have HT9 := Lib.hid (HT8.out.keep hk (fun h => h))
  have HR9 := Lib.hid (HR8.out.keep hk (fun h => h))
  have HM9 := Lib.hid (HM8.out.keep hk (fun h => h))
  have HO9 := Lib.hid (HO8.out.keep hk (fun _ _ h => h))
  have HS9 := Lib.hid (HS8.out.keep hk (fun _ _ h => h))
  clear hk HT8 HR8 HM8 HO8 HS8 HI8
  rcases hc with ⟨i, s, rfl, hi, h5, hbf⟩ | ⟨rfl, hall⟩
  case inr =>
   have HF : Hid (readM badP t ref rv l = if mayMA t (ref, rv, [((b2, rv) : Stp)], zs, zg) = true then ((ref, rv, [((b2, rv) : Stp)], zs, zg), 0) else (noMa, 7)) := Lib.hid (by rw [HD7.out, way_none hall, readT_ok])
   clear hall
   have y0 : w9.cell? ⟨w.heap.size, 0, none⟩ = some (.slice Ae ne ce) := HT9.out.cell 0
   have y1 : w9.cell? ⟨w.heap.size, 1, none⟩ = some (.slice Aj nj cj) := HT9.out.cell 1
   have y2 : w9.cell? ⟨w.heap.size, 2, none⟩ = some (.slice Ab nb cb) := HT9.out.cell 2
   have y3 : w9.cell? ⟨w.heap.size, 3, none⟩ = some (.slice Ar nr cr) := HT9.out.cell 3
   have m0 : w9.cell? ⟨bm, 0, none⟩ = some (.int .i64 ref) := HM9.out.cell 0
   have m1 : w9.cell? ⟨bm, 1, none⟩ = some (.bool rv) := HM9.out.cell 1
   have m2 : w9.cell? ⟨bm, 2, none⟩ = some (.slice (some ⟨br, 0, none⟩) 1 1) := HM9.out.cell 2
   have m3 : w9.cell? ⟨bm, 3, none⟩ = some (.slice As ns cs) := HM9.out.cell 3
   have m4 : w9.cell? ⟨bm, 4, none⟩ = some (.int .i64 zg) := HM9.out.cell 4
   have hw := HMy.out w9 HK9.out rv ([((b2, rv) : Stp)]) zs zg (some ⟨br, 0, none⟩) 1 1 As ns cs (stps_own HO9.out ((fun s hs => by rw [List.mem_singleton.1 hs]; exact HB2.out))) (scAt_own HS9.out) (by omega) (by have := HNs.out; omega)
   obtain ⟨my, hmy⟩ : ∃ z, mayMA t (ref, rv, [((b2, rv) : Stp)], zs, zg) = z := ⟨_, rfl⟩
   rw [hmy] at hw HF
   have HC := Lib.hid hw
   clear hw hmy
   go_wp2_with fail
   refine HC.out.mono ?_
   rintro en w12 ⟨rfl, hk⟩
   have HK12 := Lib.hid (HK9.out.trans hk)
   have HR12 := Lib.hid (HR9.out.keep hk (fun h => h))
   have HM12 := Lib.hid (HM9.out.keep hk (fun h => h))
   have HO12 := Lib.hid (HO9.out.keep hk (fun _ _ h => h))
   have HS12 := Lib.hid (HS9.out.keep hk (fun _ _ h => h))
   clear hk HC y0 y1 y2 y3 m0 m1 m2 m3 m4
   cases my with
   | false =>
    have HG : Hid (readM badP t ref rv l = (noMa, 7)) := Lib.hid (by rw [HF.out, if_neg (by decide)])
    have r0 : w12.cell? ⟨w.heap.size + 1, 0, none⟩ = some (.int .i64 0) := HR12.out.cell 0
    have rf0 := HR12.out.frozen 0
    have r1 : w12.cell? ⟨w.heap.size + 1, 1, none⟩ = some (.bool false) := HR12.out.cell 1
    have rf1 := HR12.out.frozen 1
    have r2 : w12.cell? ⟨w.heap.size + 1, 2, none⟩ = some (.slice none 0 0) := HR12.out.cell 2
    have rf2 := HR12.out.frozen 2
    have r3 : w12.cell? ⟨w.heap.size + 1, 3, none⟩ = some (.slice none 0 0) := HR12.out.cell 3
    have rf3 := HR12.out.frozen 3
    have r4 : w12.cell? ⟨w.heap.size + 1, 4, none⟩ = some (.int .i64 0) := HR12.out.cell 4
    have rf4 := HR12.out.frozen 4
    go_wp2_with fail
    (try simp only [Exit.inBlock, Exit.then])
    refine bodyPost_ret (ma_results2 (fn := Tryz.f18) (r := 8) (s := 9) rfl (put5_blk HR12.out (.int .i64 0) (.bool false) (.slice none 0 0) (.slice none 0 0) (.int .i64 0)) _ rfl) rfl ?_
    rw [HG.out]
    exact ⟨⟨none, 0, 0, none, 0, 0⟩, rfl, ma_nil, put5_own HK12.out (.inr (by omega)) _ _ _ _ _⟩
   | true =>
    have HG : Hid (readM badP t ref rv l = ((ref, rv, [((b2, rv) : Stp)], zs, zg), 0)) := Lib.hid (by rw [HF.out, if_pos rfl])
    have m0 : w12.cell? ⟨bm, 0, none⟩ = some (.int .i64 ref) := HM12.out.cell 0
    have m1 : w12.cell? ⟨bm, 1, none⟩ = some (.bool rv) := HM12.out.cell 1
    have m2 : w12.cell? ⟨bm, 2, none⟩ = some (.slice (some ⟨br, 0, none⟩) 1 1) := HM12.out.cell 2
    have m3 : w12.cell? ⟨bm, 3, none⟩ = some (.slice As ns cs) := HM12.out.cell 3
    have m4 : w12.cell? ⟨bm, 4, none⟩ = some (.int .i64 zg) := HM12.out.cell 4
    have r0 : w12.cell? ⟨w.heap.size + 1, 0, none⟩ = some (.int .i64 0) := HR12.out.cell 0
    have rf0 := HR12.out.frozen 0
    have r1 : w12.cell? ⟨w.heap.size + 1, 1, none⟩ = some (.bool false) := HR12.out.cell 1
    have rf1 := HR12.out.frozen 1
    have r2 : w12.cell? ⟨w.heap.size + 1, 2, none⟩ = some (.slice none 0 0) := HR12.out.cell 2
    have rf2 := HR12.out.frozen 2
    have r3 : w12.cell? ⟨w.heap.size + 1, 3, none⟩ = some (.slice none 0 0) := HR12.out.cell 3
    have rf3 := HR12.out.frozen 3
    have r4 : w12.cell? ⟨w.heap.size + 1, 4, none⟩ = some (.int .i64 0) := HR12.out.cell 4
    have rf4 := HR12.out.frozen 4
    go_wp2_with fail
    (try simp only [Exit.inBlock, Exit.then])
    refine bodyPost_ret (ma_results2 (fn := Tryz.f18) (r := 8) (s := 9) rfl (put5_blk HR12.out (.int .i64 ref) (.bool rv) (.slice (some ⟨br, 0, none⟩) 1 1) (.slice As ns cs) (.int .i64 zg)) _ rfl) rfl ?_
    have hk5 := put5_own (Keep.refl (fun q => q = w.heap.size + 1) w12) (b := w.heap.size + 1) (.inl rfl) (.int .i64 ref) (.bool rv) (.slice (some ⟨br, 0, none⟩) 1 1) (.slice As ns cs) (.int .i64 zg)
    rw [HG.out]
    exact ⟨⟨(some ⟨br, 0, none⟩), 1, 1, As, ns, cs⟩, rfl, ⟨stps_own (HO12.out.keep hk5 (HO12.out.ne_blk HR12.out (by decide))) ((fun s hs => by rw [List.mem_singleton.1 hs]; exact HB2.out)), scAt_own (HS12.out.keep hk5 (HS12.out.ne_blk HR12.out (by decide)))⟩, put5_own HK12.out (.inr (by omega)) _ _ _ _ _⟩
  case inl =>
  have HD8 : Hid (readM badP t ref rv l = readT t ref rv (.ok (zs, zg)) (linkedR t [((b2, rv) : Stp)] s.2)) := Lib.hid (by rw [HD7.out, way_some hi h5 hbf])
  have hki : (i : Int) < (n : Int) := by obtain ⟨h1, _⟩ := List.getElem?_eq_some_iff.1 hi; have := HPk.out.len; omega
  obtain ⟨ad2, A2, n2, c2, hA2, hab2, _, e0, e1, q1, q2, q3, q4, q5⟩ := (HPk.out.keep HK9.out).one i s hi
  cases hA2
  have HNum := Lib.hid (items_num (any_not HAny.out hi)).2
  have y0 : w9.cell? ⟨w.heap.size, 0, none⟩ = some (.slice Ae ne ce) := HT9.out.cell 0
  have y1 : w9.cell? ⟨w.heap.size, 1, none⟩ = some (.slice Aj nj cj) := HT9.out.cell 1
  have y2 : w9.cell? ⟨w.heap.size, 2, none⟩ = some (.slice Ab nb cb) := HT9.out.cell 2
  have y3 : w9.cell? ⟨w.heap.size, 3, none⟩ = some (.slice Ar nr cr) := HT9.out.cell 3
  have HC := Lib.hid (fun (W : World) (hk : Keep Never w9 W) => HLk.out W (HK9.out.trans hk) bm w.heap.size (.int .i64 ref) (.bool rv) (.slice As ns cs) (.int .i64 zg) [((b2, rv) : Stp)] (some ⟨br, 0, none⟩) 1 1 A2 n2 c2 s.2 HC0.out (q1.keep hk (fun _ h => h.elim)) q2 (by have := HBm.out; have := HBw.out; omega) HBw.out (Nat.le_trans HK9.out.size hk.size) HNum.out (HM9.out.keep hk (fun h => h)) rfl (HO9.out.keep hk (fun _ _ h => h)) (by simp) (by simp) (fun s hs => by rw [List.mem_singleton.1 hs]; exact HB2.out))
  obtain ⟨s1, s2⟩ := s
  simp only at e0 e1 HC HD8
  clear hi h5 hbf q1 q2 q3 q4 q5 e0 hab2 HLk HNum
  go_wp2_with fail
  go_cut [14] (fun s14 wc => ∃ z : Int, s14 = .int .i64 z ∧ Hid (LinkRet (linkedR t [((b2, rv) : Stp)] s2) bm w.heap.size (some ⟨br, 0, none⟩) (.int .i64 ref) (.bool rv) (.slice As ns cs) (.int .i64 zg) w9 (.returned (.int .i64 z)) wc))
  case first =>
   go_region_law (go_simp; go_at_call 70; refine (HC.out _ (by first | exact Keep.refl Never w9 | exact (Keep.refl Never w9).drew)).mono ?_; rintro en w10 hr; obtain ⟨ez, rfl⟩ := hr.int; have HX : Hid (LinkRet (linkedR t [((b2, rv) : Stp)] s2) bm w.heap.size (some ⟨br, 0, none⟩) (.int .i64 ref) (.bool rv) (.slice As ns cs) (.int .i64 zg) w9 (.returned (.int .i64 ez)) w10) := Lib.hid (by first | exact hr | exact hr.drewL); clear hr)
   all_goals
    go_wp2_with fail
    go_meet
    exact ⟨_, rfl, HX⟩
  case rest =>
  obtain ⟨z14, rfl, hR⟩ := hcut
  rename World => w10
  obtain ⟨hk, hm⟩ := hR.out
  clear y0 y1 y2 y3 e1 HC hR
  have HK10 := Lib.hid (HK9.out.then_ hk (fun i hi (h : i = bm ∨ InRow (some ⟨br, 0, none⟩) i) => by have := HBm.out; rcases h with h | ⟨_, h, h2⟩ <;> first | omega | (cases h; simp only at h2; omega)))
  have HT10 := Lib.hid (HT9.out.keep hk (fun (h : w.heap.size = bm ∨ InRow (some ⟨br, 0, none⟩) w.heap.size) => by have := HBm.out; rcases h with h | ⟨_, h, h2⟩ <;> first | omega | (cases h; simp only at h2; omega)))
  have HR10 := Lib.hid (HR9.out.keep hk (fun (h : w.heap.size + 1 = bm ∨ InRow (some ⟨br, 0, none⟩) (w.heap.size + 1)) => by have := HBm.out; rcases h with h | ⟨_, h, h2⟩ <;> first | omega | (cases h; simp only at h2; omega)))
  have HS10 := Lib.hid (HS9.out.keep hk (fun q hq (h : q = bm ∨ InRow (some ⟨br, 0, none⟩) q) => by have := HBm.out; have := (HS9.out.row hq).1; rcases h with h | ⟨_, h, h2⟩ <;> first | omega | (cases h; simp only at h2; omega)))
  clear hk HT9 HR9 HS9 HO9 HM9
  obtain ⟨lr, hlr⟩ : ∃ z, linkedR t [((b2, rv) : Stp)] s2 = z := ⟨_, rfl⟩
  rw [hlr] at hm HD8
  clear hlr
  cases lr with
  | error x =>
   obtain ⟨hx0, hxe, _⟩ := hm
   cases hxe
   have te : (z14 == 0) = false := by simpa using hx0
   have te2 : (z14 != 0) = true := by simpa using hx0
   have HF : Hid (readM badP t ref rv l = (noMa, z14)) := Lib.hid (by rw [HD8.out, readT_way])
   clear hx0
   ·have r0 : w10.cell? ⟨w.heap.size + 1, 0, none⟩ = some (.int .i64 0) := HR10.out.cell 0
    have rf0 := HR10.out.frozen 0
    have r1 : w10.cell? ⟨w.heap.size + 1, 1, none⟩ = some (.bool false) := HR10.out.cell 1
    have rf1 := HR10.out.frozen 1
    have r2 : w10.cell? ⟨w.heap.size + 1, 2, none⟩ = some (.slice none 0 0) := HR10.out.cell 2
    have rf2 := HR10.out.frozen 2
    have r3 : w10.cell? ⟨w.heap.size + 1, 3, none⟩ = some (.slice none 0 0) := HR10.out.cell 3
    have rf3 := HR10.out.frozen 3
    have r4 : w10.cell? ⟨w.heap.size + 1, 4, none⟩ = some (.int .i64 0) := HR10.out.cell 4
    have rf4 := HR10.out.frozen 4
    go_wp2_with fail
    (try simp only [Exit.inBlock, Exit.then])
    refine bodyPost_ret (ma_results2 (fn := Tryz.f18) (r := 8) (s := 9) rfl (put5_blk HR10.out (.int .i64 0) (.bool false) (.slice none 0 0) (.slice none 0 0) (.int .i64 0)) _ rfl) rfl ?_
    rw [HF.out]
    exact ⟨⟨none, 0, 0, none, 0, 0⟩, rfl, ma_nil, put5_own HK10.out (.inr (by omega)) _ _ _ _ _⟩
  | ok P =>
  obtain ⟨hxe, Ap, np, cp, hmm, hnp, hoo, hin, h24⟩ := hm
  cases hxe
  have HM10 := Lib.hid hmm
  have HO10 := Lib.hid hoo
  have HN10 := Lib.hid hin
  have hnp24 : np ≤ 24 := by omega
  have HF : Hid (readM badP t ref rv l = if mayMA t (ref, rv, P, zs, zg) = true then ((ref, rv, P, zs, zg), 0) else (noMa, 7)) := Lib.hid (by rw [HD8.out, readT_ok])
  clear hmm hoo hin hnp h24
  have y0 : w10.cell? ⟨w.heap.size, 0, none⟩ = some (.slice Ae ne ce) := HT10.out.cell 0
  have y1 : w10.cell? ⟨w.heap.size, 1, none⟩ = some (.slice Aj nj cj) := HT10.out.cell 1
  have y2 : w10.cell? ⟨w.heap.size, 2, none⟩ = some (.slice Ab nb cb) := HT10.out.cell 2
  have y3 : w10.cell? ⟨w.heap.size, 3, none⟩ = some (.slice Ar nr cr) := HT10.out.cell 3
  have m0 : w10.cell? ⟨bm, 0, none⟩ = some (.int .i64 ref) := HM10.out.cell 0
  have m1 : w10.cell? ⟨bm, 1, none⟩ = some (.bool rv) := HM10.out.cell 1
  have m2 : w10.cell? ⟨bm, 2, none⟩ = some (.slice Ap np cp) := HM10.out.cell 2
  have m3 : w10.cell? ⟨bm, 3, none⟩ = some (.slice As ns cs) := HM10.out.cell 3
  have m4 : w10.cell? ⟨bm, 4, none⟩ = some (.int .i64 zg) := HM10.out.cell 4
  have hw := HMy.out w10 HK10.out rv (P) zs zg Ap np cp As ns cs (stps_own HO10.out (HN10.out)) (scAt_own HS10.out) (by omega) (by have := HNs.out; omega)
  obtain ⟨my, hmy⟩ : ∃ z, mayMA t (ref, rv, P, zs, zg) = z := ⟨_, rfl⟩
  rw [hmy] at hw HF
  have HC := Lib.hid hw
  clear hw hmy
  go_wp2_with fail
  refine HC.out.mono ?_
  rintro en w12 ⟨rfl, hk⟩
  have HK12 := Lib.hid (HK10.out.trans hk)
  have HR12 := Lib.hid (HR10.out.keep hk (fun h => h))
  have HM12 := Lib.hid (HM10.out.keep hk (fun h => h))
  have HO12 := Lib.hid (HO10.out.keep hk (fun _ _ h => h))
  have HS12 := Lib.hid (HS10.out.keep hk (fun _ _ h => h))
  clear hk HC y0 y1 y2 y3 m0 m1 m2 m3 m4
  cases my with
  | false =>
   have HG : Hid (readM badP t ref rv l = (noMa, 7)) := Lib.hid (by rw [HF.out, if_neg (by decide)])
   have r0 : w12.cell? ⟨w.heap.size + 1, 0, none⟩ = some (.int .i64 0) := HR12.out.cell 0
   have rf0 := HR12.out.frozen 0
   have r1 : w12.cell? ⟨w.heap.size + 1, 1, none⟩ = some (.bool false) := HR12.out.cell 1
   have rf1 := HR12.out.frozen 1
   have r2 : w12.cell? ⟨w.heap.size + 1, 2, none⟩ = some (.slice none 0 0) := HR12.out.cell 2
   have rf2 := HR12.out.frozen 2
   have r3 : w12.cell? ⟨w.heap.size + 1, 3, none⟩ = some (.slice none 0 0) := HR12.out.cell 3
   have rf3 := HR12.out.frozen 3
   have r4 : w12.cell? ⟨w.heap.size + 1, 4, none⟩ = some (.int .i64 0) := HR12.out.cell 4
   have rf4 := HR12.out.frozen 4
   go_wp2_with fail
   (try simp only [Exit.inBlock, Exit.then])
   refine bodyPost_ret (ma_results2 (fn := Tryz.f18) (r := 8) (s := 9) rfl (put5_blk HR12.out (.int .i64 0) (.bool false) (.slice none 0 0) (.slice none 0 0) (.int .i64 0)) _ rfl) rfl ?_
   rw [HG.out]
   exact ⟨⟨none, 0, 0, none, 0, 0⟩, rfl, ma_nil, put5_own HK12.out (.inr (by omega)) _ _ _ _ _⟩
  | true =>
   have HG : Hid (readM badP t ref rv l = ((ref, rv, P, zs, zg), 0)) := Lib.hid (by rw [HF.out, if_pos rfl])
   have m0 : w12.cell? ⟨bm, 0, none⟩ = some (.int .i64 ref) := HM12.out.cell 0
   have m1 : w12.cell? ⟨bm, 1, none⟩ = some (.bool rv) := HM12.out.cell 1
   have m2 : w12.cell? ⟨bm, 2, none⟩ = some (.slice Ap np cp) := HM12.out.cell 2
   have m3 : w12.cell? ⟨bm, 3, none⟩ = some (.slice As ns cs) := HM12.out.cell 3
   have m4 : w12.cell? ⟨bm, 4, none⟩ = some (.int .i64 zg) := HM12.out.cell 4
   have r0 : w12.cell? ⟨w.heap.size + 1, 0, none⟩ = some (.int .i64 0) := HR12.out.cell 0
   have rf0 := HR12.out.frozen 0
   have r1 : w12.cell? ⟨w.heap.size + 1, 1, none⟩ = some (.bool false) := HR12.out.cell 1
   have rf1 := HR12.out.frozen 1
   have r2 : w12.cell? ⟨w.heap.size + 1, 2, none⟩ = some (.slice none 0 0) := HR12.out.cell 2
   have rf2 := HR12.out.frozen 2
   have r3 : w12.cell? ⟨w.heap.size + 1, 3, none⟩ = some (.slice none 0 0) := HR12.out.cell 3
   have rf3 := HR12.out.frozen 3
   have r4 : w12.cell? ⟨w.heap.size + 1, 4, none⟩ = some (.int .i64 0) := HR12.out.cell 4
   have rf4 := HR12.out.frozen 4
   go_wp2_with fail
   (try simp only [Exit.inBlock, Exit.then])
   refine bodyPost_ret (ma_results2 (fn := Tryz.f18) (r := 8) (s := 9) rfl (put5_blk HR12.out (.int .i64 ref) (.bool rv) (.slice Ap np cp) (.slice As ns cs) (.int .i64 zg)) _ rfl) rfl ?_
   have hk5 := put5_own (Keep.refl (fun q => q = w.heap.size + 1) w12) (b := w.heap.size + 1) (.inl rfl) (.int .i64 ref) (.bool rv) (.slice Ap np cp) (.slice As ns cs) (.int .i64 zg)
   rw [HG.out]
   exact ⟨⟨Ap, np, cp, As, ns, cs⟩, rfl, ⟨stps_own (HO12.out.keep hk5 (HO12.out.ne_blk HR12.out (by decide))) (HN10.out), scAt_own (HS12.out.keep hk5 (HS12.out.ne_blk HR12.out (by decide)))⟩, put5_own HK12.out (.inr (by omega)) _ _ _ _ _⟩
end Go.Proofs.YtpapiojicbbheaaGreatDoor
