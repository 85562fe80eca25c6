/- Chapter 13: the laws' own functions: small, awake, among. -/
import Derived.Test.YtpahfobijmmmmaaGreatTopO
import Derived.Test.YtpahfobijmmmmaaGreatBdTopF
import Derived.Test.YtpahfobijmmmmaaGreatBdTopA
namespace Go.Proofs.YtpahfobijmmmmaaGreat
open Go.RowKit

/-- == at two steps -/
def sameS (x1 : Int) (x2 : Bool) (y1 : Int) (y2 : Bool) : Bool := decide (((x1, x2) : Stp) = (y1, y2))
theorem run_eq_stp (w : World) (x1 : Int) (x2 : Bool) (y1 : Int) (y2 : Bool) : (binOp .eql 106 (.agg #[.int .i64 x1, .bool x2]) (.agg #[.int .i64 y1, .bool y2])).run Tryz.prog w = .ok (.bool (sameS x1 x2 y1 y2)) w := by
  by_cases h1 : x1 = y1
  · have t1 : (x1 == y1) = true := by simpa using h1
    by_cases h2 : x2 = y2
    · have t2 : (x2 == y2) = true := by simpa using h2
      have hd : sameS x1 x2 y1 y2 = true := decide_eq_true (by rw [h1, h2])
      rw [hd]
      clear h1 h2 hd
      go_simp
    · have t2 : (x2 == y2) = false := by simpa using h2
      have hd : sameS x1 x2 y1 y2 = false := decide_eq_false (by simp [h2])
      rw [hd]
      clear h1 h2 hd
      go_simp
  · have t1 : (x1 == y1) = false := by simpa using h1
    have hd : sameS x1 x2 y1 y2 = false := decide_eq_false (by simp [h1])
    rw [hd]
    clear h1 hd
    go_simp
def smallT : Tp := ([100, 200, 300], [((0, 1), (1, 0)), ((0, 1), (2, 1))], [], [])
theorem small_after : afterM smallT (0, false) = [(1, false), (2, true)] ∧ afterM smallT (1, true) = [(0, true)] := by decide +kernel
theorem small_check : checkM smallT = 0 := by decide +kernel
theorem small_len : lenM smallT [(0, false), (1, false)] = (300, 0) := by decide +kernel
end Go.Proofs.YtpahfobijmmmmaaGreat

namespace Go.Proofs.YtpahfobijmmmmaaGreat
open Go.RowKit

structure TpLight (x : TA) (t : Tp) : Prop where
  e : x.ne ≤ 100
  j : x.nj ≤ 100
  b : x.nb ≤ 100
  r : x.nr ≤ 100
  p : ∀ r ∈ t.2.2.2, r.2.1.length ≤ 100
theorem TpLight.small {x : TA} {t : Tp} (h : TpLight x t) : TpSmall x t := ⟨by have := h.e; omega, by have := h.j; omega, by have := h.b; omega, by have := h.r; omega, fun r hr => by have := h.p r hr; omega⟩
set_option maxHeartbeats 4000000 in
set_option maxRecDepth 100000 in
theorem light13r_any (x : TA) (t : Tp) (B : Nat) (w : World) (ht : TpAt w B x t) :
    Calls Tryz.prog 5 #[.agg x.cs] w fun e w' => ∃ b, e = .returned (.bool b) ∧ Hid (b = true → TpLight x t) ∧ Keep Never w w' := by
  have HR := Lib.hid ht.r
  obtain ⟨Ae, ne, ce, Aj, nj, cj, Ab, nb, cb, Ar, nr, cr⟩ := x
  simp only [TA.cs] at HR ⊢
  obtain ⟨wb, hwb⟩ : ∃ wb : World, w.alloc (.cells #[.slice Ae ne ce, .slice Aj nj cj, .slice Ab nb cb, .slice Ar nr cr] 27) = wb := ⟨_, rfl⟩
  have k1 : Keep Never w wb := by rw [← hwb]; exact (Keep.refl _ _).alloc _
  have b1' := Blk.new w 27 #[.slice Ae ne ce, .slice Aj nj cj, .slice Ab nb cb, .slice Ar nr cr]
  rw [hwb] at b1'
  have y0 : wb.cell? ⟨w.heap.size, 0, none⟩ = some (.slice Ae ne ce) := b1'.cell 0
  have y1 : wb.cell? ⟨w.heap.size, 1, none⟩ = some (.slice Aj nj cj) := b1'.cell 1
  have y2 : wb.cell? ⟨w.heap.size, 2, none⟩ = some (.slice Ab nb cb) := b1'.cell 2
  have y3 : wb.cell? ⟨w.heap.size, 3, none⟩ = some (.slice Ar nr cr) := b1'.cell 3
  have HB := Lib.hid b1'
  have HK := Lib.hid k1
  have HRb := Lib.hid (HR.out.keep k1 (fun _ h => h.elim))
  clear k1 b1' ht HR
  by_cases g1 : ne ≤ 100
  case neg =>
    have t1 : decide ((ne : Int) > 100) = true := by simp; omega
    clear g1
    go_enter Tryz.func5, Tryz.ntmps5
    go_wp2_with fail
    go_ret
    exact ⟨false, rfl, Lib.hid (fun h => (by cases h)), HK.out⟩
  have t1 : decide ((ne : Int) > 100) = false := by simp; omega
  by_cases g2 : nj ≤ 100
  case neg =>
    have t2 : decide ((nj : Int) > 100) = true := by simp; omega
    clear g1 g2
    go_enter Tryz.func5, Tryz.ntmps5
    go_wp2_with fail
    go_ret
    exact ⟨false, rfl, Lib.hid (fun h => (by cases h)), HK.out⟩
  have t2 : decide ((nj : Int) > 100) = false := by simp; omega
  by_cases g3 : nb ≤ 100
  case neg =>
    have t3 : decide ((nb : Int) > 100) = true := by simp; omega
    clear g1 g2 g3
    go_enter Tryz.func5, Tryz.ntmps5
    go_wp2_with fail
    go_ret
    exact ⟨false, rfl, Lib.hid (fun h => (by cases h)), HK.out⟩
  have t3 : decide ((nb : Int) > 100) = false := by simp; omega
  by_cases g4 : nr ≤ 100
  case neg =>
    have t4 : decide ((nr : Int) > 100) = true := by simp; omega
    clear g1 g2 g3 g4
    go_enter Tryz.func5, Tryz.ntmps5
    go_wp2_with fail
    go_ret
    exact ⟨false, rfl, Lib.hid (fun h => (by cases h)), HK.out⟩
  have t4 : decide ((nr : Int) > 100) = false := by simp; omega
  have HG : Hid (ne ≤ 100 ∧ nj ≤ 100 ∧ nb ≤ 100 ∧ nr ≤ 100) := Lib.hid ⟨g1, g2, g3, g4⟩
  clear g1 g2 g3
  go_enter Tryz.func5, Tryz.ntmps5
  go_wp2_with fail
  clear y0 y1 y2 y3
  go_loopw [3] (fun i wr => ∃ k : Nat, k ≤ nr ∧ i = .int .i64 k ∧ Hid (Keep Never wb wr ∧ ∀ r ∈ t.2.2.2.take k, r.2.1.length ≤ 100)) (fun i _ => nr - (intOf i).toNat)
  case atStart => exact ⟨0, by omega, rfl, Lib.hid ⟨Keep.refl _ _, by simp⟩⟩
  case round =>
    obtain ⟨k, hk, rfl, HH⟩ := hrel
    have hbb := HB.out.keep HH.out.1 (fun h => h)
    have y3 : wr.cell? ⟨w.heap.size, 3, none⟩ = some (.slice Ar nr cr) := hbb.cell 3
    clear hbb
    by_cases h0 : k < nr
    · have hkz : (k : Int) < (nr : Int) := by omega
      obtain ⟨ad, r, A2, n2, d2, hA, _, hr, _, hc, _, _, hsl⟩ := rt_at2 (HRb.out.keep HH.out.1 (fun _ h => h.elim)) h0
      subst hA
      have hn2 : n2 = r.2.1.length := hsl.len
      have HTk : Hid (t.2.2.2.take (k + 1) = t.2.2.2.take k ++ [r]) := Lib.hid (by
        obtain ⟨h2, h3⟩ := List.getElem?_eq_some_iff.1 hr
        rw [List.take_succ_eq_append_getElem h2, h3])
      have HRl := Lib.hid hn2
      clear hr hsl hn2
      by_cases g5 : n2 ≤ 100
      · have t5 : decide ((n2 : Int) > 100) = false := by simp; omega
        have HN2 := Lib.hid g5
        clear g5
        go_wp2_with fail
        refine ⟨⟨k + 1, by omega, by go_num, Lib.hid ⟨HH.out.1, fun u hu => ?_⟩⟩, ?_⟩
        · rw [HTk.out] at hu
          rcases List.mem_append.1 hu with hu | hu
          · exact HH.out.2 u hu
          · simp at hu; subst hu; rw [← HRl.out]; exact HN2.out
        simp [intOf]; try omega
      · have t5 : decide ((n2 : Int) > 100) = true := by simp; omega
        clear g5
        go_wp2_with fail
        go_ret
        exact ⟨false, rfl, Lib.hid (fun h => (by cases h)), HK.out.trans HH.out.1⟩
    · obtain rfl : k = nr := by omega
      have hkz : ¬ (k : Int) < (k : Int) := by omega
      go_wp2_with fail
      go_ret
      have HTL := Lib.hid (TpLight.mk (x := ⟨Ae, ne, ce, Aj, nj, cj, Ab, nb, cb, Ar, k, cr⟩) (t := t) HG.out.1 HG.out.2.1 HG.out.2.2.1 HG.out.2.2.2 (fun r hr => HH.out.2 r (by rw [List.take_of_length_le (by rw [HRb.out.len]; exact Nat.le_refl _)]; exact hr)))
      first
        | exact .inr ⟨rfl, Lib.hid HTL.out, HK.out.trans HH.out.1⟩
        | exact ⟨true, rfl, Lib.hid (fun _ => HTL.out), HK.out.trans HH.out.1⟩
        | exact .inr ⟨rfl, HTL, HK.out.trans HH.out.1⟩

end Go.Proofs.YtpahfobijmmmmaaGreat

namespace Go.Proofs.YtpahfobijmmmmaaGreat
open Go.RowKit

/-- the way back -/
def flipM (s : Stp) : Stp := (s.1, !s.2)
theorem inE_flip (s : Stp) : inE (flipM s) = outE s := by obtain ⟨a, b⟩ := s; cases b <;> rfl
theorem outE_flip (s : Stp) : outE (flipM s) = inE s := by obtain ⟨a, b⟩ := s; cases b <;> rfl
theorem joinB_swap (l : List Jt) (a b : En) : joinB l a b = joinB l b a := by
  unfold joinB
  congr 1
  funext j
  exact Bool.or_comm _ _
theorem mayB_flip (J : List Jt) (s u : Stp) : mayJ J (flipM u) (flipM s) = mayJ J s u := by
  unfold mayJ
  rw [outE_flip, inE_flip, joinB_swap]

end Go.Proofs.YtpahfobijmmmmaaGreat

namespace Go.Proofs.YtpahfobijmmmmaaGreat
open Go.RowKit

theorem stp_in {W : World} {s : Stp} {cs : Array Value} (h : repStp.cells W W.heap.size s cs.toList) : cs = #[.int .i64 s.1, .bool s.2] ∧ in64 s := by
  obtain ⟨c1, d1, e, ⟨rfl, h1⟩, rfl⟩ := h
  exact ⟨by apply Array.ext'; rw [e]; rfl, h1⟩
theorem back_law (t : Tp) (a b : Stp) : (decide (b ∈ afterM t a) == decide (flipM a ∈ afterM t (flipM b))) = true := by
  rw [beq_iff_eq, decide_eq_decide, afterM_mem, afterM_mem, mayB_flip]
  show thereB t.1.length a.1 = true ∧ thereB t.1.length b.1 = true ∧ _ ↔ thereB t.1.length b.1 = true ∧ thereB t.1.length a.1 = true ∧ _
  constructor <;> rintro ⟨h1, h2, h3⟩ <;> exact ⟨h2, h1, h3⟩

end Go.Proofs.YtpahfobijmmmmaaGreat

namespace Go.Proofs.YtpahfobijmmmmaaGreat
open Go.RowKit

theorem run_neq_stp (w : World) (x1 : Int) (x2 : Bool) (y1 : Int) (y2 : Bool) : (binOp .neq 106 (.agg #[.int .i64 x1, .bool x2]) (.agg #[.int .i64 y1, .bool y2])).run Tryz.prog w = .ok (.bool (!sameS x1 x2 y1 y2)) w := by
  by_cases h1 : x1 = y1
  · have t1 : (x1 == y1) = true := by simpa using h1
    by_cases h2 : x2 = y2
    · have t2 : (x2 == y2) = true := by simpa using h2
      have hd : sameS x1 x2 y1 y2 = true := decide_eq_true (by rw [h1, h2])
      rw [hd]
      clear h1 h2 hd
      go_simp
    · have t2 : (x2 == y2) = false := by simpa using h2
      have hd : sameS x1 x2 y1 y2 = false := decide_eq_false (by simp [h2])
      rw [hd]
      clear h1 h2 hd
      go_simp
  · have t1 : (x1 == y1) = false := by simpa using h1
    have hd : sameS x1 x2 y1 y2 = false := decide_eq_false (by simp [h1])
    rw [hd]
    clear h1 hd
    go_simp
/-- the values of a route -/
abbrev rtV (i g m : Int) (A : Option Addr) (n c : Nat) : Value := .agg #[.int .i64 i, .slice A n c, .int .i64 g, .int .i64 m]
end Go.Proofs.YtpahfobijmmmmaaGreat

namespace Go.Proofs.YtpahfobijmmmmaaGreat
open Go.RowKit

theorem run_neq_bal (w : World) (a b c : Int) : (binOp .neq 97 (.agg #[.int .i64 a, .int .i64 b, .int .i64 c]) (.agg #[.int .i64 a, .int .i64 b, .int .i64 c])).run Tryz.prog w = .ok (.bool false) w := by
  have t1 : (a == a) = true := by simp
  have t2 : (b == b) = true := by simp
  have t3 : (c == c) = true := by simp
  go_simp
theorem bal_hit {l : List Bl} {id : Int} {k : Nat} {b : Bl} (h : l[k]? = some b) (hb : b.1 = id) (ha : ∀ x ∈ l.take k, x.1 ≠ id) : balM l id = some b := find_idx h (by simpa using hb) (fun x hx => by simpa using ha x hx)
theorem bal_miss {l : List Bl} {id : Int} (ha : ∀ x ∈ l, x.1 ≠ id) : balM l id = none := find_no (fun x hx => by simpa using ha x hx)
theorem rt_hit {l : List Rt} {id : Int} {k : Nat} {b : Rt} (h : l[k]? = some b) (hb : b.1 = id) (ha : ∀ x ∈ l.take k, x.1 ≠ id) : rtM l id = some b := find_idx h (by simpa using hb) (fun x hx => by simpa using ha x hx)
theorem rt_miss {l : List Rt} {id : Int} (ha : ∀ x ∈ l, x.1 ≠ id) : rtM l id = none := find_no (fun x hx => by simpa using ha x hx)
theorem all_take {α : Type} {l : List α} {k : Nat} {b : α} {p : α → Prop} (h : l[k]? = some b) (ha : ∀ x ∈ l.take k, p x) (hb : p b) : ∀ x ∈ l.take (k + 1), p x := by
  obtain ⟨h2, h3⟩ := List.getElem?_eq_some_iff.1 h
  rw [List.take_succ_eq_append_getElem h2, h3]
  intro x hx
  rcases List.mem_append.1 hx with hx | hx
  · exact ha x hx
  · simp at hx; subst hx; exact hb

end Go.Proofs.YtpahfobijmmmmaaGreat
