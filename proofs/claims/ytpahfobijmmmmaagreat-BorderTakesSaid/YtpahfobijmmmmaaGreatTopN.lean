/- Chapter 13: what is wrong with a route (topo.end, topo.routed). -/
import Derived.Test.YtpahfobijmmmmaaGreatBdTopL
import Derived.Test.YtpahfobijmmmmaaGreatTopE
import Derived.Test.YtpahfobijmmmmaaGreatBdSpnA
namespace Go.Proofs.YtpahfobijmmmmaaGreat
open Go.RowKit

def endB (ne : Nat) (e : En) : Bool := thereB ne e.1 && (decide (e.2 = 0) || decide (e.2 = 1))
set_option maxHeartbeats 1000000 in
set_option maxRecDepth 100000 in
theorem end_any (x : TA) (a : En) (w : World) :
    Calls Tryz.prog 53 #[.agg x.cs, .agg #[.int .i64 a.1, .int .i64 a.2]] w fun e w' => e = .returned (.bool (endB x.ne a)) ∧ Keep Never w w' := by
  have HT := Lib.hid (fun W => there_any x a.1 W)
  obtain ⟨Ae, ne, ce, Aj, nj, cj, Ab, nb, cb, Ar, nr, cr⟩ := x
  obtain ⟨a1, a2⟩ := a
  simp only [TA.cs] at HT ⊢
  obtain ⟨w1, hw1⟩ : ∃ wb : World, w.alloc (.cells #[.slice Ae ne ce, .slice Aj nj cj, .slice Ab nb cb, .slice Ar nr cr] 27) = wb := ⟨_, rfl⟩
  obtain ⟨w2, hw2⟩ : ∃ wb : World, w1.alloc (.cells #[.int .i64 a1, .int .i64 a2] 91) = wb := ⟨_, rfl⟩
  have z1 : w1.heap.size = w.heap.size + 1 := by rw [← hw1]; simp
  have k1 : Keep Never w w1 := by rw [← hw1]; exact (Keep.refl _ _).alloc _
  have k2 : Keep Never w1 w2 := by rw [← hw2]; exact (Keep.refl _ _).alloc _
  have b1 := Blk.new w 27 #[.slice Ae ne ce, .slice Aj nj cj, .slice Ab nb cb, .slice Ar nr cr]
  rw [hw1] at b1
  have b2 := Blk.new w1 91 #[.int .i64 a1, .int .i64 a2]
  rw [hw2, z1] at b2
  have hb1 := b1.keep k2 (fun h => h)
  have HB2 := Lib.hid b2
  have HK := Lib.hid (k1.trans k2)
  have y0 : w2.cell? ⟨w.heap.size, 0, none⟩ = some (.slice Ae ne ce) := hb1.cell 0
  have y1 : w2.cell? ⟨w.heap.size, 1, none⟩ = some (.slice Aj nj cj) := hb1.cell 1
  have y2 : w2.cell? ⟨w.heap.size, 2, none⟩ = some (.slice Ab nb cb) := hb1.cell 2
  have y3 : w2.cell? ⟨w.heap.size, 3, none⟩ = some (.slice Ar nr cr) := hb1.cell 3
  have v0 : w2.cell? ⟨w.heap.size + 1, 0, none⟩ = some (.int .i64 a1) := HB2.out.cell 0
  have v1 : w2.cell? ⟨w.heap.size + 1, 1, none⟩ = some (.int .i64 a2) := HB2.out.cell 1
  clear k1 k2 b1 b2 hb1
  go_enter Tryz.func53, Tryz.ntmps53
  go_wp2_with fail
  refine (HT.out w2).mono ?_
  rintro e w3 ⟨rfl, hk3⟩
  have HK3 := Lib.hid (HK.out.trans hk3)
  have u1 : w3.cell? ⟨w.heap.size + 1, 1, none⟩ = some (.int .i64 a2) := keepT hk3 v1
  clear y0 y1 y2 y3 v0 v1 hk3
  cases htb : thereB ne a1 with
  | false =>
    have HF : Hid (endB ne (a1, a2) = false) := Lib.hid (by unfold endB; rw [htb]; rfl)
    clear htb
    go_wp2_with fail
    go_ret
    exact ⟨by rw [HF.out]; rfl, HK3.out⟩
  | true =>
    by_cases q0 : a2 = 0
    · have t0 : (a2 == 0) = true := by simpa using q0
      have HF : Hid (endB ne (a1, a2) = true) := Lib.hid (by unfold endB; rw [htb]; simp [q0])
      clear htb q0
      go_wp2_with fail
      go_ret
      exact ⟨by rw [HF.out]; rfl, HK3.out⟩
    · have t0 : (a2 == 0) = false := by simpa using q0
      by_cases q1 : a2 = 1
      · have t1 : (a2 == 1) = true := by simpa using q1
        have HF : Hid (endB ne (a1, a2) = true) := Lib.hid (by unfold endB; rw [htb]; simp [q1])
        clear htb q0 q1
        go_wp2_with fail
        go_ret
        exact ⟨by rw [HF.out]; rfl, HK3.out⟩
      · have t1 : (a2 == 1) = false := by simpa using q1
        have HF : Hid (endB ne (a1, a2) = false) := Lib.hid (by unfold endB; rw [htb]; simp [q0, q1])
        clear htb q0 q1
        go_wp2_with fail
        go_ret
        exact ⟨by rw [HF.out]; rfl, HK3.out⟩

/-- is step k of a path one that may not be: of no edge, or of an edge that it has gone over? -/
def badAt (ne : Nat) (p : List Stp) (k : Nat) : Bool := match p[k]? with | some s => !thereB ne s.1 || (p.take k).any (fun u => u.1 == s.1) | none => false
def pathBad (ne : Nat) (p : List Stp) : Bool := (List.range p.length).any (badAt ne p)
theorem pathBad_t {ne : Nat} {p : List Stp} {k : Nat} (h : k < p.length) (hb : badAt ne p k = true) : pathBad ne p = true := List.any_eq_true.2 ⟨k, List.mem_range.2 h, hb⟩
theorem pathBad_f {ne : Nat} {p : List Stp} (h : ∀ k, k < p.length → badAt ne p k = false) : pathBad ne p = false := by
  unfold pathBad; rw [List.any_eq_false]; intro k hk; rw [h k (List.mem_range.1 hk)]; simp
/-- has no balise group an edge of the path? -/
def noBal (bs : List Bl) (s : Stp) : Bool := !bs.any (fun b => b.2.1 == s.1)
/-- what is wrong with a route -/
def routedM (t : Tp) (r : Rt) : Int :=
  if r.1 < 1 ∨ r.2.1.length < 1 ∨ 8 < r.2.1.length then 1
  else if pathBad t.1.length r.2.1 = true then 1
  else if (lenM t r.2.1).2 ≠ 0 then (lenM t r.2.1).2
  else if r.2.2.1 < 0 ∨ (lenM t r.2.1).1 ≤ r.2.2.1 ∨ r.2.2.2 < 1 ∨ 1000 < r.2.2.2 then 1
  else if r.2.1.any (noBal t.2.2.1) = true then 4
  else 0
theorem lenM_le (t : Tp) (p : List Stp) : (lenM t p).2 = 0 ∨ (lenM t p).2 = 1 ∨ (lenM t p).2 = 141 := by
  unfold lenM; split
  · simp
  · split
    · split <;> simp
    · simp
theorem flat_take {α : Type} {r : Rep α} {w : World} {B : Nat} : ∀ {l : List α} {css : List (List Value)}, All2 (r.cells w B) l css → ∀ k, css.flatten.take (k * r.size) = (css.take k).flatten
  | [], [], _, k => by simp
  | [], _ :: _, h, _ => h.elim
  | _ :: _, [], h, _ => h.elim
  | a :: l, b :: m, h, 0 => by simp
  | a :: l, b :: m, h, k + 1 => by
    have hb := r.len h.1
    rw [List.flatten_cons, List.take_succ_cons, List.flatten_cons, ← flat_take h.2 k, show (k + 1) * r.size = b.length + k * r.size by rw [Nat.succ_mul, hb]; omega, List.take_append]
    rw [List.take_of_length_le (by omega), show b.length + k * r.size - b.length = k * r.size by omega]
theorem Sl.front {α : Type} {r : Rep α} {w : World} {B n c k : Nat} {A : Option Addr} {l : List α} (h : r.Sl w B A n c l) (hk : k ≤ n) : r.Sl w B A k c (l.take k) := by
  obtain ⟨h1, h2, h3, h4, css, h5, h6⟩ := h
  refine ⟨by rw [List.length_take]; omega, by omega, h3, h4, css.take k, ?_, h6.take_ k⟩
  rw [← flat_take h6 k]
  exact h5.front hk
theorem add_zero (a : Addr) : a.add 0 = a := by unfold Addr.add; split <;> simp_all
/-- 's[:k]' -/
theorem run_front {P : Program} {t e size : Nat} (ht : P.underlying t = some (.slice e)) (hsz : ∀ w, (sizeOf e).run P w = .ok size w) (A : Option Addr) (n c k : Nat) (hj : k ≤ n) (hc : n ≤ c) (w : World) :
    (Instr.slice t (.slice A n c) none (some (.int .i64 k)) none).run P w = .ok (.slice A k c) w := by
  have hjc : k ≤ c := by omega
  have e0 : (if c = 0 then A else A.map (·.add (0 * size))) = A := by
    split
    · rfl
    · cases A <;> simp [add_zero]
  have : (Instr.slice t (.slice A n c) none (some (.int .i64 k)) none).run P w = .ok (.slice (if c = 0 then A else A.map (·.add (0 * size))) (k - 0) (c - 0)) w := by
    simp [Instr.slice, run_underlying ht, Instr.sliceBounds, Instr.sliceBound, asIntOf, hsz, hjc, Result.andThen]
  rw [this, e0]; simp

set_option maxHeartbeats 4000000 in
set_option maxRecDepth 100000 in
theorem routed_any (x : TA) (t : Tp) (B : Nat) (r : Rt) (A : Option Addr) (n c : Nat) (w : World) (ht : TpAt w B x t) (hp : repStp.Sl w B A n c r.2.1) (hn : x.nj ≤ 100000000) (hn1 : x.nb ≤ 100000000) (hn2 : n ≤ 100000000) :
    Calls Tryz.prog 57 #[.agg x.cs, .agg #[.int .i64 r.1, .slice A n c, .int .i64 r.2.2.1, .int .i64 r.2.2.2]] w fun e w' => e = .returned (.int .i64 (routedM t r)) ∧ Keep Never w w' := by
  have HLn : Hid (∀ (w' : World), Keep Never w w' → Calls Tryz.prog 85 #[.agg x.cs, .slice A n c] w' fun e w'' => e = .returned (.tuple #[.int .i64 (lenM t r.2.1).1, .int .i64 (lenM t r.2.1).2]) ∧ Keep Never w' w'') := Lib.hid (fun w' h => length_any x t B A n c r.2.1 w' (ht.keep h) (hp.keep h (fun _ h => h.elim)) hn hn2)
  have HT := Lib.hid (fun i W => there_any x i W)
  have HEl : Hid (x.ne = t.1.length) := Lib.hid ht.e.len
  have HBl := Lib.hid (bl_rd ht.b)
  have HP := Lib.hid hp
  have HPl : Hid (n = r.2.1.length) := Lib.hid hp.len
  obtain ⟨Ae, ne, ce, Aj, nj, cj, Ab, nb, cb, Ar, nr, cr⟩ := x
  obtain ⟨r1, p, r3, r4⟩ := r
  simp only [TA.cs] at HLn HT HEl HBl HP HPl hn1 ⊢
  have hq : ∀ (k : Nat) (w : World), k ≤ n → (Instr.slice 51 (.slice A n c) none (some (.int .i64 k)) none).run Tryz.prog w = .ok (.slice A k c) w := fun k w hk => run_front Tryz.underlying51 Tryz.sizeOf106 A n c k hk HP.out.cap w
  have HQ := Lib.hid hq
  obtain ⟨w1, hw1⟩ : ∃ wb : World, w.alloc (.cells #[.slice Ae ne ce, .slice Aj nj cj, .slice Ab nb cb, .slice Ar nr cr] 27) = wb := ⟨_, rfl⟩
  obtain ⟨w2, hw2⟩ : ∃ wb : World, w1.alloc (.cells #[.int .i64 r1, .slice A n c, .int .i64 r3, .int .i64 r4] 53) = wb := ⟨_, rfl⟩
  have z1 : w1.heap.size = w.heap.size + 1 := by rw [← hw1]; simp
  have k1 : Keep Never w w1 := by rw [← hw1]; exact (Keep.refl _ _).alloc _
  have k2 : Keep Never w1 w2 := by rw [← hw2]; exact (Keep.refl _ _).alloc _
  have b1 := Blk.new w 27 #[.slice Ae ne ce, .slice Aj nj cj, .slice Ab nb cb, .slice Ar nr cr]
  rw [hw1] at b1
  have b2 := Blk.new w1 53 #[.int .i64 r1, .slice A n c, .int .i64 r3, .int .i64 r4]
  rw [hw2, z1] at b2
  have HB1 := Lib.hid (b1.keep k2 (fun h => h))
  have HB2 := Lib.hid b2
  have HK := Lib.hid (k1.trans k2)
  have v0 : w2.cell? ⟨w.heap.size + 1, 0, none⟩ = some (.int .i64 r1) := HB2.out.cell 0
  have v1 : w2.cell? ⟨w.heap.size + 1, 1, none⟩ = some (.slice A n c) := HB2.out.cell 1
  clear k1 k2 b1 b2 ht hp hq
  by_cases g1 : r1 < 1
  · have t1 : decide (r1 < 1) = true := by simpa using g1
    have HF : Hid (routedM t (r1, p, r3, r4) = 1) := Lib.hid (by unfold routedM; rw [if_pos (.inl g1)])
    clear g1
    go_enter Tryz.func57, Tryz.ntmps57
    go_wp2_with fail
    go_ret
    exact ⟨by rw [HF.out]; rfl, HK.out⟩
  have t1 : decide (r1 < 1) = false := by simpa using g1
  by_cases g2 : n < 1
  · have t2 : decide ((n : Int) < 1) = true := by simp; omega
    have HF : Hid (routedM t (r1, p, r3, r4) = 1) := Lib.hid (by unfold routedM; rw [if_pos (.inr (.inl (by rw [← HPl.out]; exact g2)))])
    clear g1 g2
    go_enter Tryz.func57, Tryz.ntmps57
    go_wp2_with fail
    go_ret
    exact ⟨by rw [HF.out]; rfl, HK.out⟩
  have t2 : decide ((n : Int) < 1) = false := by simp; omega
  by_cases g3 : 8 < n
  · have t3 : decide ((n : Int) > 8) = true := by simp; omega
    have HF : Hid (routedM t (r1, p, r3, r4) = 1) := Lib.hid (by unfold routedM; rw [if_pos (.inr (.inr (by rw [← HPl.out]; exact g3)))])
    clear g1 g2 g3
    go_enter Tryz.func57, Tryz.ntmps57
    go_wp2_with fail
    go_ret
    exact ⟨by rw [HF.out]; rfl, HK.out⟩
  have t3 : decide ((n : Int) > 8) = false := by simp; omega
  have HN1 : Hid (¬ (r1 < 1 ∨ p.length < 1 ∨ 8 < p.length)) := Lib.hid (by have := HPl.out; omega)
  have hn8 : n ≤ 8 := by omega
  clear g1 g2 g3
  go_enter Tryz.func57, Tryz.ntmps57
  go_wp2_with fail
  clear t1 t2 t3 v0 v1
  go_loopw [5, 6, 7, 30] (fun _ _ _ i wr => ∃ k : Nat, k ≤ n ∧ i = .int .i64 k ∧ Hid (Keep Never w2 wr ∧ ∀ j, j < k → badAt ne p j = false)) (fun _ _ _ i _ => n - (intOf i).toNat)
  case atStart => exact ⟨0, by omega, rfl, Lib.hid ⟨Keep.refl _ _, fun j h => by omega⟩⟩
  case round =>
    obtain ⟨k, hk, rfl, HH⟩ := hrel
    by_cases h0 : k < n
    · have hkz : (k : Int) < (n : Int) := by omega
      obtain ⟨ad, s, hA, _, hs, c0, c1, _⟩ := stp_at (HP.out.keep (HK.out.trans HH.out.1) (fun _ h => h.elim)) h0
      subst hA
      obtain ⟨s1, s2⟩ := s
      simp only at c0 c1 hs
      obtain ⟨W1, hW1⟩ : ∃ W : World, wr.alloc (.cells #[.int .i64 s1, .bool s2] 106) = W := ⟨_, rfl⟩
      have K1 : Keep Never wr W1 := by rw [← hW1]; exact (Keep.refl _ _).alloc _
      have B1 := Blk.new wr 106 #[.int .i64 s1, .bool s2]
      rw [hW1] at B1
      have d0 : W1.cell? ⟨wr.heap.size, 0, none⟩ = some (.int .i64 s1) := B1.cell 0
      have hb1 := HB1.out.keep (HH.out.1.trans K1) (fun h => h)
      have HB2r := Lib.hid (HB2.out.keep (HH.out.1.trans K1) (fun h => h))
      have y0 : W1.cell? ⟨w.heap.size, 0, none⟩ = some (.slice Ae ne ce) := hb1.cell 0
      have y1 : W1.cell? ⟨w.heap.size, 1, none⟩ = some (.slice Aj nj cj) := hb1.cell 1
      have y2 : W1.cell? ⟨w.heap.size, 2, none⟩ = some (.slice Ab nb cb) := hb1.cell 2
      have y3 : W1.cell? ⟨w.heap.size, 3, none⟩ = some (.slice Ar nr cr) := hb1.cell 3
      have HKW := Lib.hid (HH.out.1.trans K1)
      have HBs := Lib.hid B1
      have HCt := Lib.hid (HT.out s1 W1)
      have Hs := Lib.hid hs
      clear hs K1 B1 hb1
      go_wp2_with fail
      refine HCt.out.mono ?_
      rintro e w3 ⟨rfl, hk3⟩
      have HK3 := Lib.hid (HKW.out.trans hk3)
      have v1 : w3.cell? ⟨w.heap.size + 1, 1, none⟩ = some (.slice (some ad) n c) := (HB2r.out.keep hk3 (fun h => h)).cell 1
      have d3 : w3.cell? ⟨wr.heap.size, 0, none⟩ = some (.int .i64 s1) := keepT hk3 d0
      clear hk3 HCt d0 y0 y1 y2 y3 c0 c1
      cases htb : thereB ne s1 with
      | false =>
        have HBd : Hid (badAt ne p k = true) := Lib.hid (by unfold badAt; rw [Hs.out]; simp [htb])
        have HF : Hid (routedM t (r1, p, r3, r4) = 1) := Lib.hid (by unfold routedM; rw [if_neg HN1.out, if_pos (pathBad_t (k := k) (by show k < p.length; have := HPl.out; omega) (by rw [← HEl.out]; exact HBd.out))])
        clear htb
        go_wp2_with fail
        go_ret
        exact ⟨by rw [HF.out]; rfl, HK.out.trans HK3.out⟩
      | true =>
        have hq := HQ.out k w3 hk
        have HCf := Lib.hid (containsfs_any 83 #[.pointer (some ⟨wr.heap.size, 0, none⟩)] (fun u => u.1 == s1) (enters_of Tryz.func83 (by kernel_rfl) rfl) (some ad) k c B (p.take k) w3 (stps_rd (Sl.front (HP.out.keep (HK.out.trans HK3.out) (fun _ h => h.elim)) hk)).1 (fun W u hk => rdF1_any u.1 u.2 s1 _ W (keepT hk d3)) (by omega))
        have HTb := Lib.hid htb
        clear htb
        go_wp2_with fail
        refine HCf.out.mono ?_
        rintro e w4 ⟨rfl, hk4⟩
        have HK4 := Lib.hid (HK3.out.trans hk4)
        clear hk4 HCf hq v1 d3
        cases hany : (p.take k).any (fun u => u.1 == s1) with
        | true =>
          have HBd : Hid (badAt ne p k = true) := Lib.hid (by unfold badAt; rw [Hs.out]; simp only; rw [hany, Bool.or_true])
          have HF : Hid (routedM t (r1, p, r3, r4) = 1) := Lib.hid (by unfold routedM; rw [if_neg HN1.out, if_pos (pathBad_t (k := k) (by show k < p.length; have := HPl.out; omega) (by rw [← HEl.out]; exact HBd.out))])
          clear hany
          go_wp2_with fail
          go_ret
          exact ⟨by rw [HF.out]; rfl, HK.out.trans HK4.out⟩
        | false =>
          have HBd : Hid (badAt ne p k = false) := Lib.hid (by unfold badAt; rw [Hs.out]; simp only; rw [hany, HTb.out]; rfl)
          clear hany
          go_wp2_with fail
          refine ⟨⟨k + 1, by omega, by go_num, Lib.hid ⟨HK4.out, fun j hj => ?_⟩⟩, ?_⟩
          · by_cases e : j = k
            · rw [e]; exact HBd.out
            · exact HH.out.2 j (by omega)
          · simp [intOf]; try omega
    · obtain rfl : k = n := by omega
      have hkz : ¬ (k : Int) < (k : Int) := by omega
      have HN2 : Hid (¬ pathBad t.1.length p = true) := Lib.hid (by
        rw [pathBad_f (fun j hj => by rw [← HEl.out]; exact HH.out.2 j (by have := HPl.out; omega))]; simp)
      have HKr := Lib.hid HH.out.1
      have hb1 := HB1.out.keep HH.out.1 (fun h => h)
      have hb2 := HB2.out.keep HH.out.1 (fun h => h)
      have y0 : wr.cell? ⟨w.heap.size, 0, none⟩ = some (.slice Ae ne ce) := hb1.cell 0
      have y1 : wr.cell? ⟨w.heap.size, 1, none⟩ = some (.slice Aj nj cj) := hb1.cell 1
      have y2 : wr.cell? ⟨w.heap.size, 2, none⟩ = some (.slice Ab nb cb) := hb1.cell 2
      have y3 : wr.cell? ⟨w.heap.size, 3, none⟩ = some (.slice Ar nr cr) := hb1.cell 3
      have v1 : wr.cell? ⟨w.heap.size + 1, 1, none⟩ = some (.slice A k c) := hb2.cell 1
      have HC := Lib.hid (HLn.out wr (HK.out.trans HH.out.1))
      clear HH hb1 hb2 HT HQ HLn
      obtain ⟨all, hall⟩ : ∃ z, (lenM t p).1 = z := ⟨_, rfl⟩
      obtain ⟨er, her⟩ : ∃ z, (lenM t p).2 = z := ⟨_, rfl⟩
      have HAl := Lib.hid hall
      have HEr := Lib.hid her
      rw [hall, her] at HC
      clear hall her
      go_wp2_with fail
      refine HC.out.mono ?_
      rintro e w3 ⟨rfl, hk3⟩
      have HK3 := Lib.hid (HKr.out.trans hk3)
      have HB2r := Lib.hid ((HB2.out.keep HKr.out (fun h => h)).keep hk3 (fun h => h))
      have HB1r := Lib.hid ((HB1.out.keep HKr.out (fun h => h)).keep hk3 (fun h => h))
      clear hk3 y0 y1 y2 y3 v1 HC
      by_cases g0 : er = 0
      case neg =>
        have t0 : (er != 0) = true := by simpa using g0
        have t0' : (er == 0) = false := by simpa using g0
        have HF : Hid (routedM t (r1, p, r3, r4) = er) := Lib.hid (by unfold routedM; rw [if_neg HN1.out, if_neg HN2.out, if_pos (by simp only; rw [HEr.out]; exact g0)]; exact HEr.out)
        clear g0
        go_wp2_with fail
        go_ret
        exact ⟨by rw [HF.out]; rfl, HK.out.trans HK3.out⟩
      subst g0
      have HN3 : Hid (¬ (lenM t p).2 ≠ 0) := Lib.hid (by rw [HEr.out]; simp)
      have v1 : w3.cell? ⟨w.heap.size + 1, 1, none⟩ = some (.slice A k c) := HB2r.out.cell 1
      have v2 : w3.cell? ⟨w.heap.size + 1, 2, none⟩ = some (.int .i64 r3) := HB2r.out.cell 2
      have v3 : w3.cell? ⟨w.heap.size + 1, 3, none⟩ = some (.int .i64 r4) := HB2r.out.cell 3
      have hF1 : (r3 < 0 ∨ all ≤ r3 ∨ r4 < 1 ∨ 1000 < r4) → routedM t (r1, p, r3, r4) = 1 := fun h => by
        unfold routedM; rw [if_neg HN1.out, if_neg HN2.out, if_neg HN3.out, if_pos (by simp only; rw [HAl.out]; exact h)]
      have HF1 := Lib.hid hF1
      clear hF1
      by_cases g1 : r3 < 0
      · have t1 : decide (r3 < 0) = true := by simpa using g1
        have HF := Lib.hid (HF1.out (.inl g1))
        clear g1
        go_wp2_with fail
        go_ret
        exact ⟨by rw [HF.out]; rfl, HK.out.trans HK3.out⟩
      have t1 : decide (r3 < 0) = false := by simpa using g1
      by_cases g2 : all ≤ r3
      · have t2 : decide (r3 ≥ all) = true := by simpa using g2
        have HF := Lib.hid (HF1.out (.inr (.inl g2)))
        clear g1 g2
        go_wp2_with fail
        go_ret
        exact ⟨by rw [HF.out]; rfl, HK.out.trans HK3.out⟩
      have t2 : decide (r3 ≥ all) = false := by simpa using g2
      by_cases g3 : r4 < 1
      · have t3 : decide (r4 < 1) = true := by simpa using g3
        have HF := Lib.hid (HF1.out (.inr (.inr (.inl g3))))
        clear g1 g2 g3
        go_wp2_with fail
        go_ret
        exact ⟨by rw [HF.out]; rfl, HK.out.trans HK3.out⟩
      have t3 : decide (r4 < 1) = false := by simpa using g3
      by_cases g4 : 1000 < r4
      · have t4 : decide (r4 > 1000) = true := by simpa using g4
        have HF := Lib.hid (HF1.out (.inr (.inr (.inr g4))))
        clear g1 g2 g3 g4
        go_wp2_with fail
        go_ret
        exact ⟨by rw [HF.out]; rfl, HK.out.trans HK3.out⟩
      have t4 : decide (r4 > 1000) = false := by simpa using g4
      have HN4 : Hid (¬ (r3 < 0 ∨ (lenM t p).1 ≤ r3 ∨ r4 < 1 ∨ 1000 < r4)) := Lib.hid (by rw [HAl.out]; omega)
      clear g1 g2 g3 g4 HF1
      go_wp2_with fail
      clear t1 t2 t3 t4 v1 v2 v3
      rename World => w3
      go_loopw [11, 82] (fun _ i wr => ∃ j : Nat, j ≤ k ∧ i = .int .i64 j ∧ Hid (Keep Never w2 wr ∧ ∀ s ∈ p.take j, noBal t.2.2.1 s = false)) (fun _ i _ => k - (intOf i).toNat)
      case atStart => exact ⟨0, by omega, rfl, Lib.hid ⟨HK3.out, by simp⟩⟩
      case round =>
        obtain ⟨j, hj, rfl, HH⟩ := hrel
        by_cases h0 : j < k
        · have hjz : (j : Int) < (k : Int) := by omega
          obtain ⟨ad, s, hA, _, hs, c0, c1, _⟩ := stp_at (HP.out.keep (HK.out.trans HH.out.1) (fun _ h => h.elim)) h0
          subst hA
          obtain ⟨s1, s2⟩ := s
          simp only at c0 c1
          have HTk : Hid (p.take (j + 1) = p.take j ++ [(s1, s2)]) := Lib.hid (by
            obtain ⟨h2, h3⟩ := List.getElem?_eq_some_iff.1 hs
            rw [List.take_succ_eq_append_getElem h2, h3])
          have Hs := Lib.hid hs
          obtain ⟨W1, hW1⟩ : ∃ W : World, wr.alloc (.cells #[.int .i64 s1, .bool s2] 106) = W := ⟨_, rfl⟩
          have K1 : Keep Never wr W1 := by rw [← hW1]; exact (Keep.refl _ _).alloc _
          have B1 := Blk.new wr 106 #[.int .i64 s1, .bool s2]
          rw [hW1] at B1
          have d0 : W1.cell? ⟨wr.heap.size, 0, none⟩ = some (.int .i64 s1) := B1.cell 0
          have y2 : W1.cell? ⟨w.heap.size, 2, none⟩ = some (.slice Ab nb cb) := (HB1.out.keep (HH.out.1.trans K1) (fun h => h)).cell 2
          have HKW := Lib.hid (HH.out.1.trans K1)
          have HCf := Lib.hid (containsfb_any 87 #[.pointer (some ⟨wr.heap.size, 0, none⟩)] (fun b => b.2.1 == s1) (enters_of Tryz.func87 (by kernel_rfl) rfl) Ab nb cb B t.2.2.1 W1 (HBl.out.keep (HK.out.trans HKW.out) (fun _ h => h.elim)) (fun W b hk => rdF2_any b.1 b.2.1 b.2.2 s1 _ W (keepT hk d0)) (by omega))
          clear hs K1 B1 d0
          go_wp2_with fail
          refine HCf.out.mono ?_
          rintro e w4 ⟨rfl, hk4⟩
          have HK4 := Lib.hid (HKW.out.trans hk4)
          clear hk4 HCf c0 c1 y2
          cases hany : t.2.2.1.any (fun b => b.2.1 == s1) with
          | false =>
            have HF : Hid (routedM t (r1, p, r3, r4) = 4) := Lib.hid (by
              unfold routedM
              rw [if_neg HN1.out, if_neg HN2.out, if_neg HN3.out, if_neg HN4.out, if_pos]
              exact List.any_eq_true.2 ⟨_, List.mem_of_getElem? Hs.out, by unfold noBal; simp only; rw [hany]; rfl⟩)
            clear hany
            go_wp2_with fail
            go_ret
            exact ⟨by rw [HF.out]; rfl, HK.out.trans HK4.out⟩
          | true =>
            have HNb : Hid (noBal t.2.2.1 (s1, s2) = false) := Lib.hid (by unfold noBal; simp only; rw [hany]; rfl)
            clear hany
            go_wp2_with fail
            refine ⟨⟨j + 1, by omega, by go_num, Lib.hid ⟨HK4.out, fun u hu => ?_⟩⟩, ?_⟩
            · rw [HTk.out] at hu
              rcases List.mem_append.1 hu with hu | hu
              · exact HH.out.2 u hu
              · simp at hu; subst hu; exact HNb.out
            · simp [intOf]; try omega
        · obtain rfl : j = k := by omega
          have hjz : ¬ (j : Int) < (j : Int) := by omega
          have HF : Hid (routedM t (r1, p, r3, r4) = 0) := Lib.hid (by
            unfold routedM
            rw [if_neg HN1.out, if_neg HN2.out, if_neg HN3.out, if_neg HN4.out, if_neg]
            rw [List.any_eq_true]
            rintro ⟨s, hs, h⟩
            have := HH.out.2 s (by rw [List.take_of_length_le (by rw [HPl.out]; exact Nat.le_refl _)]; exact hs)
            rw [this] at h; cases h)
          have HKe := Lib.hid (HK.out.trans HH.out.1)
          go_wp2_with fail
          go_ret
          exact ⟨by rw [HF.out]; rfl, HKe.out⟩

end Go.Proofs.YtpahfobijmmmmaaGreat
