/- Package packet: Get. -/
import Derived.Test.YtiebjnibmomcjaaDoorPackK
import Derived.Test.YtiebjnibmomcjaaDoorSlc
namespace Go.Proofs.YtiebjnibmomcjaaDoor
open Go.RowKit

set_option maxHeartbeats 1000000 in
theorem get1_zero (pe bp bend : Nat) (u : FrameMode) (w : World) (he : Blk w pe 29 #[.int .i64 0]) :
    CallsD Tryd.prog 69 #[.pointer (some ⟨pe, 0, none⟩), .pointer (some ⟨bp, 0, none⟩), .pointer (some ⟨bend, 0, none⟩)] u w fun e u' w' => u' = u ∧ (e = .returned (.tuple #[]) ∧ w = w') := by
  have c1 : w.cell? ⟨pe, 0, none⟩ = some (.int .i64 0) := he.cell 0
  clear he
  go_enter_d Tryd.func69, Tryd.ntmps69
  go_wp2
  go_end0
  exact ⟨rfl, rfl⟩
set_option maxHeartbeats 1000000 in
theorem get1_err (pe bp bend : Nat) (x : Int) (i z : Value) (v2 : Value) (hx : x ≠ 0) (u : FrameMode) (w : World) (he : Blk w pe 29 #[.int .i64 x]) (hp : Blk w bp 39 #[i, v2]) (hd : Blk w bend 3 #[z]) :
    CallsD Tryd.prog 69 #[.pointer (some ⟨pe, 0, none⟩), .pointer (some ⟨bp, 0, none⟩), .pointer (some ⟨bend, 0, none⟩)] u w fun e u' w' => u' = u ∧ (e = .returned (.tuple #[]) ∧
      Blk w' bp 39 #[.int .i64 0, .slice none 0 0] ∧ Blk w' bend 3 #[.int .i64 0] ∧ Keep (fun k => k = bp ∨ k = bend) w w') := by
  have c1 : w.cell? ⟨pe, 0, none⟩ = some (.int .i64 x) := he.cell 0
  have hb0 : (x == 0) = false := by simpa using hx
  have p0 : w.cell? ⟨bp, 0, none⟩ = some i := hp.cell 0
  have p1 : w.cell? ⟨bp, 1, none⟩ = some v2 := hp.cell 1
  have d0 : w.cell? ⟨bend, 0, none⟩ = some z := hd.cell 0
  have q0 : w.frozen? ⟨bp, 0, none⟩ = false := hp.frozen 0
  have q1 : w.frozen? ⟨bp, 1, none⟩ = false := hp.frozen 1
  have q2 : w.frozen? ⟨bend, 0, none⟩ = false := hd.frozen 0
  have hne : bp ≠ bend := hp.ne_ hd (by decide)
  have d0' : ∀ v v', ((w.setCell ⟨bp, 0, none⟩ v).setCell ⟨bp, 1, none⟩ v').cell? ⟨bend, 0, none⟩ = some z := fun v v' => ((hd.far (p := ⟨bp, 0, none⟩) (fun e => hne e.symm) v).far (p := ⟨bp, 1, none⟩) (fun e => hne e.symm) v').cell 0
  have HP := Lib.hid hp
  have HD := Lib.hid hd
  have Hne := Lib.hid hne
  clear he hp hd hne hx
  go_enter_d Tryd.func69, Tryd.ntmps69
  go_wp2
  go_end0
  refine ⟨rfl, ?_, ?_, ?_⟩
  · have := ((HP.out.set_ 0 (.int .i64 0)).set_ 1 (.slice none 0 0)).far (p := ⟨bend, 0, none⟩) Hne.out (.int .i64 0)
    simpa using this
  · have := ((HD.out.far (p := ⟨bp, 0, none⟩) (fun e => Hne.out e.symm) (.int .i64 0)).far (p := ⟨bp, 1, none⟩) (fun e => Hne.out e.symm) (.slice none 0 0)).set_ 0 (.int .i64 0)
    simpa using this
  · exact (((Keep.refl (fun k => k = bp ∨ k = bend) w).set_ (p := ⟨bp, 0, none⟩) (.inl (.inl rfl)) _).set_ (p := ⟨bp, 1, none⟩) (.inl (.inl rfl)) _).set_ (p := ⟨bend, 0, none⟩) (.inl (.inr rfl)) _

/-- Get, plainly -/
def GetM (b : List Nat) (at_ : Int) : Except Int (Int × List Int × Int) :=
  if at_ < 0 ∨ 8 * (b.length : Int) < at_ then .error 1
  else match valG 5 ⟨leftB b at_.toNat, 0, []⟩ with
    | .error e => .error e
    | .ok (id, s1) => match ptree id with
      | none => .error 50
      | some T => match walkL valG T 0 ⟨s1.bits, 0, []⟩ with
        | .error e => .error e
        | .ok s2 =>
          if s2.size ≠ ((leftB b at_.toNat).length : Int) - s2.bits.length then .error 20
          else if 8184 < ((leftB b at_.toNat).length : Int) - s2.bits.length then .error 2
          else .ok (id, s2.V, at_ + (((leftB b at_.toNat).length : Int) - s2.bits.length))
/-- what Get leaves -/
def GRet (w : World) (r : Except Int (Int × List Int × Int)) (e : Ending) (w' : World) : Prop :=
  ∃ (id : Int) (A : Option Addr) (n c : Nat) (d x : Int), e = .returned (.tuple #[.agg (packCells id A n c), .int .i64 d, .int .i64 x]) ∧ Keep Never w w' ∧
    ((∃ V, r = .ok (id, V, d) ∧ x = 0 ∧ n = V.length ∧ Rd w' w'.heap.size 1 A n (V.map (.int .i64)) ∧ n ≤ c ∧ c ≤ maxLen ∧ (∀ k, InRow A k → w.heap.size ≤ k)) ∨ (r = .error x ∧ x ≠ 0 ∧ id = 0 ∧ A = none ∧ n = 0 ∧ c = 0 ∧ d = 0))

theorem bitsB_drop (b : List Nat) (q : Nat) : bitsB (b.drop q) = (bitsB b).drop (8 * q) := by
  induction q generalizing b with
  | zero => rfl
  | succ q ih =>
    cases b with
    | nil => simp [bitsB]
    | cons x b =>
      rw [List.drop_succ_cons, ih]
      have e : bitsB (x :: b) = bitsOf x 8 ++ bitsB b := rfl
      rw [e, show 8 * (q + 1) = 8 + 8 * q by omega, ← List.drop_drop, List.drop_left' (length_bitsOf _ _)]
theorem leftB_drop (b : List Nat) (a : Nat) : leftB (b.drop (a / 8)) (a % 8) = leftB b a := by
  unfold leftB
  rw [bitsB_drop, List.drop_drop]
  congr 1
  omega

theorem alloc3 (w : World) (c1 c2 c3 : Array Value) (t1 t2 t3 : Nat) :
    Blk (((w.alloc (.cells c1 t1)).alloc (.cells c2 t2)).alloc (.cells c3 t3)) w.heap.size t1 c1 ∧ Blk (((w.alloc (.cells c1 t1)).alloc (.cells c2 t2)).alloc (.cells c3 t3)) (w.heap.size + 1) t2 c2 ∧
    Blk (((w.alloc (.cells c1 t1)).alloc (.cells c2 t2)).alloc (.cells c3 t3)) (w.heap.size + 1 + 1) t3 c3 ∧ Keep Never w (((w.alloc (.cells c1 t1)).alloc (.cells c2 t2)).alloc (.cells c3 t3)) := by
  refine ⟨((Blk.new _ _ _).alloc _).alloc _, ?_, ?_, (((Keep.refl Never w).alloc _).alloc _).alloc _⟩
  · have := Blk.new (w.alloc (.cells c1 t1)) t2 c2
    rw [World.size_alloc] at this
    exact this.alloc _
  · have := Blk.new ((w.alloc (.cells c1 t1)).alloc (.cells c2 t2)) t3 c3
    rw [World.size_alloc, World.size_alloc] at this
    exact this

set_option maxHeartbeats 8000000 in
set_option maxRecDepth 100000 in
theorem Get_far (b : List Nat) (at_ : Int) (A : Option Addr) (n c : Nat) (w : World) (hl : b.length = n) (hn : n ≤ 1500) (hat : at_ < 0 ∨ 8 * (n : Int) < at_) :
    Calls Tryd.prog 46 #[.slice A n c, .int .i64 at_] w (GRet w (GetM b at_)) := by
  have hres : GetM b at_ = .error 1 := by unfold GetM; rw [if_pos (by rw [hl]; exact hat)]
  have HR := Lib.hid hres
  have hmf : ∀ (fn : Fn) (first cap : Array Value) (w : World), (Instr.makeFunc fn first cap).run Tryd.prog w = .ok (.func fn first cap) w := fun _ _ _ _ => rfl
  have hcase : at_ < 0 ∨ (0 ≤ at_ ∧ 8 * (n : Int) < at_) := by omega
  clear hl hres hat
  rcases hcase with h | ⟨h, h'⟩
  all_goals
    go_enter_defers Tryd.func46, Tryd.ntmps46
    go_wp2_with fail
    obtain ⟨hp, hd, he, hk⟩ := alloc3 w #[.int .i64 0, .slice none 0 0] #[.int .i64 0] #[.int .i64 1] 39 3 29
    refine leaves_cons (f := 70) (args := #[.pointer (some ⟨w.heap.size + 1 + 1, 0, none⟩)]) (by simp) (by simp [go_sem]) ?_
    refine (caught_idle _ _).mono ?_
    rintro e u' wc ⟨rfl, rfl, rfl⟩
    have hec := he
    have hpc := hp
    have hdc := hd
    have hkw := hk
    refine leaves_cons (f := 69) (args := #[.pointer (some ⟨w.heap.size + 1 + 1, 0, none⟩), .pointer (some ⟨w.heap.size, 0, none⟩), .pointer (some ⟨w.heap.size + 1, 0, none⟩)]) (by simp [settle]) (by simp [go_sem]) ?_
    refine (get1_err (w.heap.size + 1 + 1) w.heap.size (w.heap.size + 1) 1 _ _ _ (by decide) _ _ hec hpc hdc).mono ?_
    rintro e u' wd ⟨rfl, rfl, hp2, hd2, hk2⟩
    have he2 := hec.keep hk2 (by omega)
    have q1 : wd.cell? ⟨w.heap.size + 1 + 1, 0, none⟩ = some (.int .i64 1) := he2.cell 0
    have q2 : wd.cell? ⟨w.heap.size, 0, none⟩ = some (.int .i64 0) := hp2.cell 0
    have q3 : wd.cell? ⟨w.heap.size, 1, none⟩ = some (.slice none 0 0) := hp2.cell 1
    have q4 : wd.cell? ⟨w.heap.size + 1, 0, none⟩ = some (.int .i64 0) := hd2.cell 0
    have hfin : Hid (GRet w (GetM b at_) (.returned (.tuple #[.agg (packCells 0 none 0 0), .int .i64 0, .int .i64 1])) wd) := ⟨0, none, 0, 0, 0, 1, rfl, hkw.then_ hk2 (fun i hi h => by omega), .inr ⟨HR.out, (by decide), rfl, rfl, rfl, rfl, rfl⟩⟩
    clear hp2 hd2 hk2 he2 hkw hec hpc hdc he hp hd
    simp [Leaves, settle, results, Tryd.results46, go_sem, q1, q2, q3, q4]
    exact hfin.out

set_option maxHeartbeats 400000 in
theorem clip_any (A : Option Addr) (n c : Nat) (w : World) (hc : n ≤ c) (hm : n ≤ 100000) : Calls Tryd.prog 75 #[.slice A n c] w fun e w' => e = .returned (.slice A n n) ∧ w = w' := by
  rcases Nat.eq_zero_or_pos n with rfl | h
  · go_enter Tryd.func75, Tryd.ntmps75
    go_wp2
    go_ret
    exact ⟨rfl, rfl⟩
  · have hne : ¬ n = 0 := by omega
    have e : ∀ A : Option Addr, A.map (fun x => x.add 0) = A := fun A => by cases A <;> simp [Addr.add]
    have E := Lib.hid e
    clear e
    go_enter Tryd.func75, Tryd.ntmps75
    go_wp2
    go_ret
    exact ⟨rfl, rfl⟩

theorem alloc2 (w : World) (c1 c2 : Array Value) (t1 t2 : Nat) :
    Blk ((w.alloc (.cells c1 t1)).alloc (.cells c2 t2)) w.heap.size t1 c1 ∧ Blk ((w.alloc (.cells c1 t1)).alloc (.cells c2 t2)) (w.heap.size + 1) t2 c2 ∧
    Keep Never w ((w.alloc (.cells c1 t1)).alloc (.cells c2 t2)) ∧ ((w.alloc (.cells c1 t1)).alloc (.cells c2 t2)).heap.size = w.heap.size + 1 + 1 := by
  refine ⟨(Blk.new _ _ _).alloc _, ?_, ((Keep.refl Never w).alloc _).alloc _, by simp⟩
  have := Blk.new (w.alloc (.cells c1 t1)) t2 c2
  rw [World.size_alloc] at this
  exact this
theorem valG_err {v : Int} {s : SG} {e : Int} (h : valG v s = .error e) : e ≠ 0 := by
  unfold valG at h
  by_cases h1 : getE s.bits.length (vWidth v) ≠ 0
  · rw [if_pos h1] at h; injection h with h; omega
  · rw [if_neg h1] at h
    split at h
    · cases h
    · injection h with h; omega
theorem valG_ok (v : Int) (s : SG) : valG v s ≠ .error 999 := by
  intro h
  unfold valG at h
  by_cases h1 : getE s.bits.length (vWidth v) ≠ 0
  · rw [if_pos h1] at h
    injection h with h
    unfold getE at h
    (repeat' split at h) <;> omega
  · rw [if_neg h1] at h
    split at h
    · cases h
    · injection h with h; omega

theorem stores4 {W : World} {b0 b1 b2 t0 t1 t2 : Nat} {i v z y : Value} (hp : Blk W b0 t0 #[i, v]) (hd : Blk W b1 t1 #[z]) (he : Blk W b2 t2 #[y]) (h01 : b0 ≠ b1) (h02 : b0 ≠ b2) (h12 : b1 ≠ b2) (x0 x1 x2 x3 : Value) :
    Blk ((((W.setCell ⟨b0, 0, none⟩ x0).setCell ⟨b0, 1, none⟩ x1).setCell ⟨b1, 0, none⟩ x2).setCell ⟨b2, 0, none⟩ x3) b0 t0 #[x0, x1] ∧ Blk ((((W.setCell ⟨b0, 0, none⟩ x0).setCell ⟨b0, 1, none⟩ x1).setCell ⟨b1, 0, none⟩ x2).setCell ⟨b2, 0, none⟩ x3) b1 t1 #[x2] ∧
    Blk ((((W.setCell ⟨b0, 0, none⟩ x0).setCell ⟨b0, 1, none⟩ x1).setCell ⟨b1, 0, none⟩ x2).setCell ⟨b2, 0, none⟩ x3) b2 t2 #[x3] ∧ Keep (fun k => k = b0 ∨ k = b1 ∨ k = b2) W ((((W.setCell ⟨b0, 0, none⟩ x0).setCell ⟨b0, 1, none⟩ x1).setCell ⟨b1, 0, none⟩ x2).setCell ⟨b2, 0, none⟩ x3) := by
  refine ⟨?_, ?_, ?_, ?_⟩
  · have := (((hp.set_ 0 x0).set_ 1 x1).far (p := ⟨b1, 0, none⟩) h01 x2).far (p := ⟨b2, 0, none⟩) h02 x3
    simpa using this
  · have := (((hd.far (p := ⟨b0, 0, none⟩) (Ne.symm h01) x0).far (p := ⟨b0, 1, none⟩) (Ne.symm h01) x1).set_ 0 x2).far (p := ⟨b2, 0, none⟩) h12 x3
    simpa using this
  · have := (((he.far (p := ⟨b0, 0, none⟩) (Ne.symm h02) x0).far (p := ⟨b0, 1, none⟩) (Ne.symm h02) x1).far (p := ⟨b1, 0, none⟩) (Ne.symm h12) x2).set_ 0 x3
    simpa using this
  · exact ((((Keep.refl (fun k => k = b0 ∨ k = b1 ∨ k = b2) W).set_ (p := ⟨b0, 0, none⟩) (.inl (.inl rfl)) _).set_ (p := ⟨b0, 1, none⟩) (.inl (.inl rfl)) _).set_ (p := ⟨b1, 0, none⟩) (.inl (.inr (.inl rfl))) _).set_ (p := ⟨b2, 0, none⟩) (.inl (.inr (.inr rfl))) _
theorem valG5 {s : SG} {n : Int} {s' : SG} (h : valG 5 s = .ok (n, s')) : s'.size = s.size := by
  unfold valG at h
  by_cases h1 : getE s.bits.length (vWidth 5) ≠ 0
  · rw [if_pos h1] at h; cases h
  · rw [if_neg h1] at h
    split at h
    · simp only [Except.ok.injEq, Prod.mk.injEq] at h
      rw [← h.2]; rfl
    · cases h

set_option maxHeartbeats 8000000 in
set_option maxRecDepth 100000 in
theorem Get_near (B : Nat) (b : List Nat) (a : Nat) (A : Option Addr) (n c : Nat) (w : World) (hr : Rd w B 1 A n (b.map u8v)) (hl : b.length = n) (h8 : ∀ x ∈ b, x < 256) (hc : n ≤ c) (_hcm : c ≤ maxLen) (hn : n ≤ 1500) (hat : a ≤ 8 * n) (hW : Widths w) (hg : 0 < B) (hB : B ≤ w.heap.size) :
    Calls Tryd.prog 46 #[.slice A n c, .int .i64 a] w (GRet w (GetM b a)) := by
  have hmf : ∀ (fn : Fn) (first cap : Array Value) (w : World), (Instr.makeFunc fn first cap).run Tryd.prog w = .ok (.func fn first cap) w := fun _ _ _ _ => rfl
  have Hr := Lib.hid hr
  have Hl := Lib.hid hl
  have H8 := Lib.hid h8
  have HW := Lib.hid hW
  have Hc := Lib.hid hc
  have ha0 : 0 ≤ (a : Int) := by omega
  have ha1 : (a : Int) ≤ 8 * (n : Int) := by omega
  have hq0 : (0 : Int) ≤ (a : Int) / 8 := by omega
  have hq1 : (a : Int) / 8 ≤ (n : Int) := by omega
  have hszu : Hid (∀ w, (sizeOf 5).run Tryd.prog w = .ok 1 w) := fun w => by kernel_rfl
  clear hr hl h8 hW _hcm hc
  go_enter_defers Tryd.func46, Tryd.ntmps46
  go_wp2_with (with_reducible refine wpList_from rfl (.tmp 23) (.tmp 25) _ rfl Tryd.underlying28 hszu.out A n c (a / 8) rfl _ rfl (by omega) (by omega) ?_; intro A' c' HS)
  have hb' := HS.out.1 _ B _ Hc.out (((Hr.out.alloc (.cells #[.int .i64 0, .slice none 0 0] 39)).alloc (.cells #[.int .i64 0] 3)).alloc (.cells #[.int .i64 0] 29))
  rw [Nat.mul_one, ← List.map_drop] at hb'
  have hbl : (b.drop (a / 8)).length = n - a / 8 := by rw [List.length_drop, Hl.out]
  have Hbl := Lib.hid hbl
  obtain ⟨hpk, hen, her, hk0⟩ := alloc3 w #[.int .i64 0, .slice none 0 0] #[.int .i64 0] #[.int .i64 0] 39 3 29
  refine (read_any A' (n - a / 8) c' B (b.drop (a / 8)) hbl _ hb' (fun x hx => H8.out x (List.mem_of_mem_drop hx)) (by omega)).mono ?_
  rintro e w1 ⟨p, rfl, hrd, hk1⟩
  have hs0 : (((w.alloc (.cells #[.int .i64 0, .slice none 0 0] 39)).alloc (.cells #[.int .i64 0] 3)).alloc (.cells #[.int .i64 0] 29)).heap.size = w.heap.size + 1 + 1 + 1 := by simp
  rw [hs0] at hrd
  have hk01 : Keep Never w w1 := hk0.trans hk1
  have hpk1 := hpk.keep hk1 (fun h => h)
  have hen1 := hen.keep hk1 (fun h => h)
  have her1 := her.keep hk1 (fun h => h)
  have hs1 : w.heap.size + 1 + 1 + 1 ≤ w1.heap.size := by rw [← hs0]; exact hk1.size
  have Hs1 := Lib.hid hs1
  have Hrd := Lib.hid hrd
  have Hk01 := Lib.hid hk01
  have Hpk1 := Lib.hid hpk1
  have Hen1 := Lib.hid hen1
  have Her1 := Lib.hid her1
  clear hb' hbl hpk hen her hk0 hrd hk1 hs0 hk01 hpk1 hen1 her1 hs1
  have hmm : a % 8 = 0 ∨ 0 < a % 8 := by omega
  -- behind the bits that are passed over
  have hAt : Hid (∀ W, RdAt W (w.heap.size + 1 + 1 + 1) w1.heap.size p (b.drop (a / 8)) (a % 8) → Keep (fun q => q = p) (w1.alloc (.cells #[.pointer (some ⟨p, 0, none⟩)] 70)) W → Calls Tryd.prog 45 #[.pointer (some ⟨p, 0, none⟩)] W fun e w' => e = .returned (.int .i64 ((a : Int) % 8)) ∧ Keep Never w1 w1 ∧
      (RdAt w' (w.heap.size + 1 + 1 + 1) w1.heap.size p (b.drop (a / 8)) (a % 8) ∧ Blk w' w1.heap.size 70 #[.pointer (some ⟨p, 0, none⟩)] ∧ Blk w' w.heap.size 39 #[.int .i64 0, .slice none 0 0] ∧ Blk w' (w.heap.size + 1) 3 #[.int .i64 0] ∧ Blk w' (w.heap.size + 1 + 1) 29 #[.int .i64 0] ∧ Keep Never w w' ∧ w1.heap.size + 1 ≤ w'.heap.size)) := by
    intro W hrd hk
    refine (at_any _ _ p _ (a % 8) W hrd).mono ?_
    rintro e w' ⟨rfl, rfl⟩
    have hrd' := hrd
    obtain ⟨_, _, _, _, _, _, _, hp1, hp2, _⟩ := hrd'
    have ha : Keep Never w1 (w1.alloc (.cells #[.pointer (some ⟨p, 0, none⟩)] 70)) := (Keep.refl Never w1).alloc _
    refine ⟨by rw [show ((a % 8 : Nat) : Int) = (a : Int) % 8 by omega], Keep.refl _ _, hrd, (Blk.new _ _ _).keep hk (by omega), (Hpk1.out.keep ha (fun h => h)).keep hk (by omega), (Hen1.out.keep ha (fun h => h)).keep hk (by omega), (Her1.out.keep ha (fun h => h)).keep hk (by omega), (Hk01.out.trans ha).then_ hk (fun i hi h => by omega), ?_⟩
    have := hk.size
    simpa using this
  rcases hmm with hm | hm
  · have hd : decide ((0 : Int) < (a : Int) % 8) = false := by simp; omega
    have hcall := hAt.out _ (by have := Hrd.out.keep ((Keep.refl Never w1).alloc (.cells #[.pointer (some ⟨p, 0, none⟩)] 70)) (fun _ h => h.elim); rw [hm]; exact this) (Keep.refl _ _)
    have Hcall := Lib.hid hcall
    have Hm := Lib.hid hm
    clear hcall hm
    go_wp2_with fail
    refine Hcall.out.mono ?_
    rintro e w2 ⟨rfl, _, hrd2, hbr2, hpk2, hen2, her2, hk2, hs2⟩
    have Hrd2 := Lib.hid hrd2
    have Hbr2 := Lib.hid hbr2
    have Hpk2 := Lib.hid hpk2
    have Hen2 := Lib.hid hen2
    have Her2 := Lib.hid her2
    have Hk2 := Lib.hid hk2
    have Hs2 := Lib.hid hs2
    clear hrd2 hbr2 hpk2 hen2 her2 hk2 hs2
    obtain ⟨n1, n2, hk4, hs4⟩ := alloc2 w2 #[.int .i64 0] #[.func (.func 71) #[] #[.pointer (some ⟨w1.heap.size, 0, none⟩), .pointer (some ⟨w2.heap.size, 0, none⟩), .pointer (some ⟨w.heap.size, 0, none⟩)]] 3 116
    have hinv4 : InvG (w.heap.size + 1 + 1 + 1) w1.heap.size (w2.heap.size + 1 + 1) p w1.heap.size w2.heap.size w.heap.size (b.drop (a / 8)) 0 ⟨leftB b a, 0, []⟩ (fun _ => False) ((w2.alloc (.cells #[.int .i64 0] 3)).alloc (.cells #[.func (.func 71) #[] #[.pointer (some ⟨w1.heap.size, 0, none⟩), .pointer (some ⟨w2.heap.size, 0, none⟩), .pointer (some ⟨w.heap.size, 0, none⟩)]] 116)) := by
      have hrd := Hrd2.out
      obtain ⟨_, _, _, _, _, _, _, hp1, hp2, _⟩ := hrd
      have h1 := Hs1.out
      have h2 := Hs2.out
      exact ⟨a % 8, none, 0, Hrd2.out.keep hk4 (fun _ h => h.elim), (leftB_drop b a).symm, Hbr2.out.keep hk4 (fun h => h), n1, Hpk2.out.keep hk4 (fun h => h), Own.nil _ _ _ _, fun q => ⟨fun h => h.elim, fun ⟨_, h, _⟩ => by cases h⟩, Nat.zero_le _, HW.out.keep (Hk2.out.trans hk4) (fun h => h), by omega, by omega, hp1, hp2, Nat.le_refl _, by omega, by omega, by omega, by omega, by omega, by rw [hs4]; exact Nat.le_refl _, by omega⟩
    have hdo1 := get2_does (w.heap.size + 1 + 1 + 1) w1.heap.size (w2.heap.size + 1 + 1) p w1.heap.size w2.heap.size w.heap.size (b.drop (a / 8)) 0 (by rw [Hbl.out]; omega) 5 _ _ _ hinv4 (valG_ok _ _)
    have Hdo1 := Lib.hid hdo1
    have Hn2 := Lib.hid n2
    have Hk4 := Lib.hid hk4
    have Hs4 := Lib.hid hs4
    clear n1 n2 hk4 hs4 hinv4 hdo1
    go_wp2_with fail
    refine Hdo1.out.mono ?_
    rintro e w5 ⟨hk5, Q5, hq5, hq5', hpo⟩
    have Hq5 := Lib.hid hq5
    have Hq5' := Lib.hid hq5'
    have hlt : Hid (w.heap.size + 1 + 1 + 1 ≤ p ∧ p < w1.heap.size) := by obtain ⟨_, _, _, _, _, _, _, hp1, hp2, _⟩ := Hrd2.out; exact ⟨hp1, hp2⟩
    have hen5 := (Hen2.out.keep Hk4.out (fun h => h)).keep hk5 (fun h => by have := hlt.out; have := Hs1.out; have := Hs2.out; rcases h with (h | h | h) | h <;> first | omega | exact h)
    have her5 := (Her2.out.keep Hk4.out (fun h => h)).keep hk5 (fun h => by have := hlt.out; have := Hs1.out; have := Hs2.out; rcases h with (h | h | h) | h <;> first | omega | exact h)
    have hwk5 := Hn2.out.keep hk5 (fun h => by have := hlt.out; have := Hs1.out; have := Hs2.out; rcases h with (h | h | h) | h <;> first | omega | exact h)
    have hkw5 : Keep Never w w5 := (Hk2.out.trans Hk4.out).then_ hk5 (fun i hi h => by have := hlt.out; have := Hs1.out; have := Hs2.out; rcases h with (h | h | h) | h <;> first | omega | exact h.elim)
    have hs5 : w2.heap.size + 1 + 1 ≤ w5.heap.size := by have := hk5.size; rw [Hs4.out] at this; exact this
    have Hen5 := Lib.hid hen5
    have Her5 := Lib.hid her5
    have Hwk5 := Lib.hid hwk5
    have Hkw5 := Lib.hid hkw5
    have Hs5 := Lib.hid hs5
    clear hk5 hq5 hq5' hen5 her5 hwk5 hkw5 hs5
    rcases hpo with ⟨id, s1, hv1, rfl, hi5, b1, b2⟩ | ⟨x, s1, hv1, rfl, hi5⟩
    rotate_left
    · have HR : Hid (GetM b (a : Int) = .error x) := by show _ = _; unfold GetM; rw [if_neg (by rw [Hl.out]; omega), Int.toNat_natCast]; simp only [hv1]
      have hx := valG_err hv1
      obtain ⟨_, A5, c5, _, _, _, _, hp5, _⟩ := hi5
      have Hx := Lib.hid hx
      have Hp5 := Lib.hid hp5
      clear hv1 hx hp5 Hdo1
      go_wp2_with fail
      have hp := Hp5.out
      have hd := Hen5.out
      have he := Her5.out
      refine leaves_cons (f := 70) (args := #[.pointer (some ⟨w.heap.size + 1 + 1, 0, none⟩)]) (by simp) (by simp [go_sem]) ?_
      refine (caught_panicking (w.heap.size + 1 + 1) x 0 _ he).mono ?_
      rintro e u' wc ⟨rfl, rfl, hec, hkc⟩
      have hpc := hp.keep hkc (by omega)
      have hdc := hd.keep hkc (by omega)
      have hkw : Keep Never w wc := Hkw5.out.then_ hkc (fun i hi h => by omega)
      refine leaves_cons (f := 69) (args := #[.pointer (some ⟨w.heap.size + 1 + 1, 0, none⟩), .pointer (some ⟨w.heap.size, 0, none⟩), .pointer (some ⟨w.heap.size + 1, 0, none⟩)]) (by simp [settle, faultR]) (by simp [go_sem]) ?_
      refine (get1_err (w.heap.size + 1 + 1) w.heap.size (w.heap.size + 1) x _ _ _ Hx.out _ _ hec hpc hdc).mono ?_
      rintro e u' wd ⟨rfl, rfl, hp2, hd2, hk2⟩
      have he2 := hec.keep hk2 (by omega)
      have q1 : wd.cell? ⟨w.heap.size + 1 + 1, 0, none⟩ = some (.int .i64 x) := he2.cell 0
      have q2 : wd.cell? ⟨w.heap.size, 0, none⟩ = some (.int .i64 0) := hp2.cell 0
      have q3 : wd.cell? ⟨w.heap.size, 1, none⟩ = some (.slice none 0 0) := hp2.cell 1
      have q4 : wd.cell? ⟨w.heap.size + 1, 0, none⟩ = some (.int .i64 0) := hd2.cell 0
      have hfin : Hid (GRet w (GetM b (a : Int)) (.returned (.tuple #[.agg (packCells 0 none 0 0), .int .i64 0, .int .i64 x])) wd) := ⟨0, none, 0, 0, 0, x, rfl, hkw.then_ hk2 (fun i hi h => by omega), .inr ⟨HR.out, Hx.out, rfl, rfl, rfl, rfl, rfl⟩⟩
      clear hp2 hd2 hk2 he2 hkw hec hpc hdc he hp hd
      simp [Leaves, settle, results, Tryd.results46, go_sem, faultR, q1, q2, q3, q4]
      exact hfin.out
    · have Hv1 := Lib.hid hv1
      have Hi5 := Lib.hid hi5
      obtain ⟨k5, A5, c5, _, _, _, hsz5, hp5, _⟩ := hi5
      have p0 : w5.cell? ⟨w.heap.size, 0, none⟩ = some (.int .i64 0) := hp5.cell 0
      have p1 : w5.cell? ⟨w.heap.size, 1, none⟩ = some (.slice A5 s1.V.length c5) := hp5.cell 1
      have f0 : w5.frozen? ⟨w.heap.size, 0, none⟩ = false := hp5.frozen 0
      have f1 : w5.frozen? ⟨w.heap.size, 1, none⟩ = false := hp5.frozen 1
      have Hp5 := Lib.hid hp5
      have hz1 := valG5 hv1
      have Hz1 := Lib.hid hz1
      clear hv1 hp5 hsz5 Hdo1 hz1
      go_wp2_with fail
      obtain ⟨W6, hW6⟩ : ∃ W6, (w5.setCell ⟨w.heap.size, 0, none⟩ (.int .i64 id)).setCell ⟨w.heap.size, 1, none⟩ (.slice none 0 0) = W6 := ⟨_, rfl⟩
      rw [hW6]
      have hk6 : Keep (fun k => k = w.heap.size) w5 W6 := by rw [← hW6]; exact ((Keep.refl (fun k => k = w.heap.size) w5).set_ (p := ⟨w.heap.size, 0, none⟩) (.inl rfl) _).set_ (p := ⟨w.heap.size, 1, none⟩) (.inl rfl) _
      have hp6 : Blk W6 w.heap.size 39 #[.int .i64 id, .slice none 0 0] := by rw [← hW6]; have := (Hp5.out.set_ 0 (.int .i64 id)).set_ 1 (.slice none 0 0); simpa using this
      have hlt := hlt.out
      have hs1 := Hs1.out
      have hs2 := Hs2.out
      have hinv6 : InvG (w.heap.size + 1 + 1 + 1) w1.heap.size (w2.heap.size + 1 + 1) p w1.heap.size w2.heap.size w.heap.size (b.drop (a / 8)) id ⟨s1.bits, 0, []⟩ (fun _ => False) W6 := by
        obtain ⟨k, A, c, h1, h2, h3, h4, h5, h6, h7, h8, h9, g1, g2, g3, g4, g5, g6, g7, g8, g9, g10, g11, g12⟩ := Hi5.out
        refine ⟨k, none, 0, h1.keep hk6 (fun q e => by omega), h2, h3.keep hk6 (by omega), ?_, hp6, Own.nil _ _ _ _, fun q => ⟨fun h => h.elim, fun ⟨_, h, _⟩ => by cases h⟩, Nat.zero_le _, h9.keep hk6 g12, g1, g2, g3, g4, g5, g6, g7, g8, g9, g10, by have := hk6.size; omega, g12⟩
        have := h4.keep hk6 (by omega)
        rw [Hz1.out] at this
        exact this
      have hen6 := Hen5.out.keep hk6 (by omega)
      have her6 := Her5.out.keep hk6 (by omega)
      have hwk6 := Hwk5.out.keep hk6 (by omega)
      have hkw6 : Keep Never w W6 := Hkw5.out.then_ hk6 (fun i hi h => by omega)
      have hs6 := hk6.size
      have hs5 := Hs5.out
      have Hinv6 := Lib.hid hinv6
      have Hen6 := Lib.hid hen6
      have Her6 := Lib.hid her6
      have Hwk6 := Lib.hid hwk6
      have Hkw6 := Lib.hid hkw6
      have Hp6 := Lib.hid hp6
      have HS6 : Hid (w.heap.size + 1 + 1 + 1 ≤ p ∧ p < w1.heap.size ∧ w1.heap.size + 1 ≤ w2.heap.size ∧ w2.heap.size + 1 + 1 ≤ W6.heap.size) := ⟨hlt.1, hlt.2, hs2, Nat.le_trans hs5 hs6⟩
      clear hinv6 hen6 her6 hwk6 hkw6 hp6 hW6 hk6 hs6 hs5 hs1 hs2 hlt p0 p1 f0 f1
      refine (known_any id W6).mono ?_
      rintro e w7 ⟨rfl, hk7⟩
      have Hk7 := Lib.hid hk7
      have hp7 := Hp6.out.keep hk7 (fun h => h)
      have hen7 := Hen6.out.keep hk7 (fun h => h)
      have her7 := Her6.out.keep hk7 (fun h => h)
      have p0 : w7.cell? ⟨w.heap.size, 0, none⟩ = some (.int .i64 id) := hp7.cell 0
      have p1 : w7.cell? ⟨w.heap.size, 1, none⟩ = some (.slice none 0 0) := hp7.cell 1
      have Hp7 := Lib.hid hp7
      have Hen7 := Lib.hid hen7
      have Her7 := Lib.hid her7
      cases hT : ptree id with
      | none =>
        have HR : Hid (GetM b (a : Int) = .error 50) := by show _ = _; unfold GetM; rw [if_neg (by rw [Hl.out]; omega), Int.toNat_natCast]; simp only [Hv1.out, hT]
        have f0 : w7.frozen? ⟨w.heap.size, 0, none⟩ = false := hp7.frozen 0
        have f1 : w7.frozen? ⟨w.heap.size, 1, none⟩ = false := hp7.frozen 1
        have d0 : w7.cell? ⟨w.heap.size + 1, 0, none⟩ = some (.int .i64 0) := hen7.cell 0
        have d1 : w7.frozen? ⟨w.heap.size + 1, 0, none⟩ = false := hen7.frozen 0
        have e0 : w7.cell? ⟨w.heap.size + 1 + 1, 0, none⟩ = some (.int .i64 0) := her7.cell 0
        have e1 : w7.frozen? ⟨w.heap.size + 1 + 1, 0, none⟩ = false := her7.frozen 0
        have Hkw7 := Lib.hid (Hkw6.out.trans hk7)
        clear hk7 hp7 hen7 her7 hT
        simp only [Option.isSome_none]
        go_wp2_with fail
        obtain ⟨hp, hd, he, hk⟩ := stores4 Hp7.out Hen7.out Her7.out (by omega) (by omega) (by omega) (.int .i64 id) (.slice none 0 0) (.int .i64 0) (.int .i64 50)
        have hkk := Hkw7.out.then_ hk (fun i hi h => by omega)
        refine leaves_cons (f := 70) (args := #[.pointer (some ⟨w.heap.size + 1 + 1, 0, none⟩)]) (by simp) (by simp [go_sem]) ?_
        refine (caught_idle _ _).mono ?_
        rintro e u' wc ⟨rfl, rfl, rfl⟩
        have hec := he
        have hpc := hp
        have hdc := hd
        have hkw := hkk
        refine leaves_cons (f := 69) (args := #[.pointer (some ⟨w.heap.size + 1 + 1, 0, none⟩), .pointer (some ⟨w.heap.size, 0, none⟩), .pointer (some ⟨w.heap.size + 1, 0, none⟩)]) (by simp [settle]) (by simp [go_sem]) ?_
        refine (get1_err (w.heap.size + 1 + 1) w.heap.size (w.heap.size + 1) 50 _ _ _ (by decide) _ _ hec hpc hdc).mono ?_
        rintro e u' wd ⟨rfl, rfl, hp2, hd2, hk2⟩
        have he2 := hec.keep hk2 (by omega)
        have q1 : wd.cell? ⟨w.heap.size + 1 + 1, 0, none⟩ = some (.int .i64 50) := he2.cell 0
        have q2 : wd.cell? ⟨w.heap.size, 0, none⟩ = some (.int .i64 0) := hp2.cell 0
        have q3 : wd.cell? ⟨w.heap.size, 1, none⟩ = some (.slice none 0 0) := hp2.cell 1
        have q4 : wd.cell? ⟨w.heap.size + 1, 0, none⟩ = some (.int .i64 0) := hd2.cell 0
        have hfin : Hid (GRet w (GetM b (a : Int)) (.returned (.tuple #[.agg (packCells 0 none 0 0), .int .i64 0, .int .i64 50])) wd) := ⟨0, none, 0, 0, 0, 50, rfl, hkw.then_ hk2 (fun i hi h => by omega), .inr ⟨HR.out, (by decide), rfl, rfl, rfl, rfl, rfl⟩⟩
        clear hp2 hd2 hk2 he2 hkw hec hpc hdc he hp hd
        simp [Leaves, settle, results, Tryd.results46, go_sem, q1, q2, q3, q4]
        exact hfin.out
      | some T =>
        have HT := Lib.hid hT
        simp only [Option.isSome_some]
        clear hk7 hp7 hen7 her7 hT
        go_wp2_with fail
        have hsome := parts_some id T HT.out w7
        refine hsome.mono ?_
        rintro e w8 ⟨A2, n2, C2, rfl, h1, hk8⟩
        have hk68 := Hk7.out.trans hk8
        have hinv8 := Hinv6.out.keep hk68
        have hwk8 := Hwk6.out.keep hk68 (fun h => h)
        have hs8 := hk8.size
        have hs7 := Hk7.out.size
        have hS6 := HS6.out
        have hlead := ptree_chk HT.out
        have hne9 : walkL valG T 0 ⟨s1.bits, 0, []⟩ ≠ .error 999 := fun h => walk_err (E := fun e => e ≠ 999) (fun v s e h e9 => by subst e9; exact valG_ok v s h) T 0 _ 999 h rfl
        have hwalk := walk_any valG (InvG (w.heap.size + 1 + 1 + 1) w1.heap.size (w2.heap.size + 1 + 1) p w1.heap.size w2.heap.size w.heap.size (b.drop (a / 8)) id) (SG3 p w2.heap.size w.heap.size) 71 #[.pointer (some ⟨w1.heap.size, 0, none⟩), .pointer (some ⟨w2.heap.size, 0, none⟩), .pointer (some ⟨w.heap.size, 0, none⟩)]
          (fun args w => by kernel_rfl) (get2_does _ _ _ _ _ _ _ _ _ (by rw [Hbl.out]; omega)) (fun s Q W W' h hk => h.keep hk)
          (w2.heap.size + 1) w8.heap.size (Frw w7.heap.size w8) (fun k hk => ⟨fun h => by have := hk.1; rcases h with h | h | h <;> omega, hk.2⟩) ⟨fun h => by rcases h with h | h | h <;> omega, by omega⟩ (fun k h => by rcases h with h | h | h <;> omega)
          T.sz T (Nat.le_refl _) A2 n2 C2 ⟨s1.bits, 0, []⟩ (fun _ => False) w8 (h1.keep (Keep.refl Never w8) (fun k hk h => ⟨fun h => h.elim, h, hk⟩)) hwk8 (Nat.le_refl _) hinv8 (fun k hk h => h) (fun h => h) (fun k h => h.elim) hne9
        have hp8 := Hp7.out.keep hk8 (fun h => h)
        have hen8 := Hen7.out.keep hk8 (fun h => h)
        have her8 := Her7.out.keep hk8 (fun h => h)
        have hkw8 := (Hkw6.out.trans Hk7.out).trans hk8
        have Hwalk := Lib.hid hwalk
        have Hen8 := Lib.hid hen8
        have Her8 := Lib.hid her8
        have Hkw8 := Lib.hid hkw8
        clear h1 hk8 hk68 hinv8 hwk8 hs8 hs7 hS6 hlead hne9 hwalk hp8 hen8 her8 hkw8 hsome p0 p1
        go_wp2_with fail
        refine Hwalk.out.mono ?_
        rintro e w9 ⟨hk9, Q9, hq9, hq9', hpo⟩
        have hS6 := HS6.out
        have hen9 := Hen8.out.keep hk9 (fun h => by rcases h with (h | h | h) | h <;> first | omega | exact h)
        have her9 := Her8.out.keep hk9 (fun h => by rcases h with (h | h | h) | h <;> first | omega | exact h)
        have hkw9 : Keep Never w w9 := Hkw8.out.then_ hk9 (fun i hi h => by rcases h with (h | h | h) | h <;> first | omega | exact h.elim)
        have Hen9 := Lib.hid hen9
        have Her9 := Lib.hid her9
        have Hkw9 := Lib.hid hkw9
        clear hk9 hq9 hq9' hen9 her9 hkw9 hS6
        rcases hpo with ⟨s2, hr2, rfl, hi9⟩ | ⟨x, s2, hr2, rfl, hi9⟩
        rotate_left
        · have HR : Hid (GetM b (a : Int) = .error x) := by show _ = _; unfold GetM; rw [if_neg (by rw [Hl.out]; omega), Int.toNat_natCast]; simp only [Hv1.out, HT.out, hr2]
          have hx := walk_err (E := fun e => e ≠ 0) (fun v s e h => valG_err h) T 0 _ x hr2
          obtain ⟨_, A9, c9, _, _, _, _, hp9, _⟩ := hi9
          have Hx := Lib.hid hx
          have Hp9 := Lib.hid hp9
          clear hr2 hx hp9
          go_wp2_with fail
          have hp := Hp9.out
          have hd := Hen9.out
          have he := Her9.out
          refine leaves_cons (f := 70) (args := #[.pointer (some ⟨w.heap.size + 1 + 1, 0, none⟩)]) (by simp) (by simp [go_sem]) ?_
          refine (caught_panicking (w.heap.size + 1 + 1) x 0 _ he).mono ?_
          rintro e u' wc ⟨rfl, rfl, hec, hkc⟩
          have hpc := hp.keep hkc (by omega)
          have hdc := hd.keep hkc (by omega)
          have hkw : Keep Never w wc := Hkw9.out.then_ hkc (fun i hi h => by omega)
          refine leaves_cons (f := 69) (args := #[.pointer (some ⟨w.heap.size + 1 + 1, 0, none⟩), .pointer (some ⟨w.heap.size, 0, none⟩), .pointer (some ⟨w.heap.size + 1, 0, none⟩)]) (by simp [settle, faultR]) (by simp [go_sem]) ?_
          refine (get1_err (w.heap.size + 1 + 1) w.heap.size (w.heap.size + 1) x _ _ _ Hx.out _ _ hec hpc hdc).mono ?_
          rintro e u' wd ⟨rfl, rfl, hp2, hd2, hk2⟩
          have he2 := hec.keep hk2 (by omega)
          have q1 : wd.cell? ⟨w.heap.size + 1 + 1, 0, none⟩ = some (.int .i64 x) := he2.cell 0
          have q2 : wd.cell? ⟨w.heap.size, 0, none⟩ = some (.int .i64 0) := hp2.cell 0
          have q3 : wd.cell? ⟨w.heap.size, 1, none⟩ = some (.slice none 0 0) := hp2.cell 1
          have q4 : wd.cell? ⟨w.heap.size + 1, 0, none⟩ = some (.int .i64 0) := hd2.cell 0
          have hfin : Hid (GRet w (GetM b (a : Int)) (.returned (.tuple #[.agg (packCells 0 none 0 0), .int .i64 0, .int .i64 x])) wd) := ⟨0, none, 0, 0, 0, x, rfl, hkw.then_ hk2 (fun i hi h => by omega), .inr ⟨HR.out, Hx.out, rfl, rfl, rfl, rfl, rfl⟩⟩
          clear hp2 hd2 hk2 he2 hkw hec hpc hdc he hp hd
          simp [Leaves, settle, results, Tryd.results46, go_sem, faultR, q1, q2, q3, q4]
          exact hfin.out
        · obtain ⟨k9, A9, c9, hrd9, hbits9, hbr9, hbs9, hp9, hown9, _, hlen9, _⟩ := hi9
          obtain ⟨U, hU⟩ : ∃ U : Int, (k9 : Int) - (a : Int) % 8 = U := ⟨_, rfl⟩
          have hk9le : k9 ≤ 8 * (n - a / 8) := by obtain ⟨_, _, _, _, _, hl9, _⟩ := hrd9; rwa [Hbl.out] at hl9
          have hdiff : ((leftB b a).length : Int) - s2.bits.length = U := by
            rw [hbits9, ← hU, length_leftB, length_leftB, Hbl.out, Hl.out]
            omega
          have hres : GetM b (a : Int) = (if s2.size ≠ U then .error 20 else if 8184 < U then .error 2 else .ok (id, s2.V, (a : Int) + U)) := by
            unfold GetM; rw [if_neg (by rw [Hl.out]; omega), Int.toNat_natCast]; simp only [Hv1.out, HT.out, hr2, hdiff]
          have cr : w9.cell? ⟨w1.heap.size, 0, none⟩ = some (.pointer (some ⟨p, 0, none⟩)) := hbr9.cell 0
          have cs : w9.cell? ⟨w2.heap.size, 0, none⟩ = some (.int .i64 s2.size) := hbs9.cell 0
          have p0 : w9.cell? ⟨w.heap.size, 0, none⟩ = some (.int .i64 id) := hp9.cell 0
          have p1 : w9.cell? ⟨w.heap.size, 1, none⟩ = some (.slice A9 s2.V.length c9) := hp9.cell 1
          have f0 : w9.frozen? ⟨w.heap.size, 0, none⟩ = false := hp9.frozen 0
          have f1 : w9.frozen? ⟨w.heap.size, 1, none⟩ = false := hp9.frozen 1
          have d0 : w9.cell? ⟨w.heap.size + 1, 0, none⟩ = some (.int .i64 0) := Hen9.out.cell 0
          have d1 : w9.frozen? ⟨w.heap.size + 1, 0, none⟩ = false := Hen9.out.frozen 0
          have e0 : w9.cell? ⟨w.heap.size + 1 + 1, 0, none⟩ = some (.int .i64 0) := Her9.out.cell 0
          have e1 : w9.frozen? ⟨w.heap.size + 1 + 1, 0, none⟩ = false := Her9.out.frozen 0
          have hAt9 : Hid (Calls Tryd.prog 45 #[.pointer (some ⟨p, 0, none⟩)] w9 fun e w' => e = .returned (.int .i64 k9) ∧ w9 = w') := at_any _ _ p _ k9 w9 hrd9
          have hm9 : k9 ≤ 100000 := by omega
          have hm0 : (0 : Int) ≤ (a : Int) % 8 ∧ (a : Int) % 8 ≤ 7 := by omega
          obtain ⟨hm1, hm2⟩ := hm0
          have Hres := Lib.hid hres
          have Hp9 := Lib.hid hp9
          have Hown9 := Lib.hid hown9
          have HU := Lib.hid hU
          have hVn : s2.V.length ≤ 100000 := by omega
          clear hrd9 hbits9 hbr9 hbs9 hp9 hown9 hU hk9le hdiff hres hr2 hlen9
          by_cases hsz : s2.size = U
          · have hb1 : (s2.size == (k9 : Int) - (a : Int) % 8) = true := by rw [HU.out]; simpa using hsz
            have Hsz := Lib.hid hsz
            clear hsz
            by_cases hbig : 8184 < U
            · have HR : Hid (GetM b (a : Int) = .error 2) := by show _ = _; rw [Hres.out, if_neg (by simpa using Hsz.out), if_pos hbig]
              have hb2 : decide ((8184 : Int) < (k9 : Int) - (a : Int) % 8) = true := by rw [HU.out]; simpa using hbig
              clear hbig
              go_wp2_with (go_at_call 45; refine hAt9.out.mono ?_; rintro e w' ⟨rfl, rfl⟩)
              obtain ⟨hp, hd, he, hk⟩ := stores4 Hp9.out Hen9.out Her9.out (by omega) (by omega) (by omega) (.int .i64 id) (.slice A9 s2.V.length c9) (.int .i64 0) (.int .i64 2)
              have hkk := Hkw9.out.then_ hk (fun i hi h => by omega)
              refine leaves_cons (f := 70) (args := #[.pointer (some ⟨w.heap.size + 1 + 1, 0, none⟩)]) (by simp) (by simp [go_sem]) ?_
              refine (caught_idle _ _).mono ?_
              rintro e u' wc ⟨rfl, rfl, rfl⟩
              have hec := he
              have hpc := hp
              have hdc := hd
              have hkw := hkk
              refine leaves_cons (f := 69) (args := #[.pointer (some ⟨w.heap.size + 1 + 1, 0, none⟩), .pointer (some ⟨w.heap.size, 0, none⟩), .pointer (some ⟨w.heap.size + 1, 0, none⟩)]) (by simp [settle]) (by simp [go_sem]) ?_
              refine (get1_err (w.heap.size + 1 + 1) w.heap.size (w.heap.size + 1) 2 _ _ _ (by decide) _ _ hec hpc hdc).mono ?_
              rintro e u' wd ⟨rfl, rfl, hp2, hd2, hk2⟩
              have he2 := hec.keep hk2 (by omega)
              have q1 : wd.cell? ⟨w.heap.size + 1 + 1, 0, none⟩ = some (.int .i64 2) := he2.cell 0
              have q2 : wd.cell? ⟨w.heap.size, 0, none⟩ = some (.int .i64 0) := hp2.cell 0
              have q3 : wd.cell? ⟨w.heap.size, 1, none⟩ = some (.slice none 0 0) := hp2.cell 1
              have q4 : wd.cell? ⟨w.heap.size + 1, 0, none⟩ = some (.int .i64 0) := hd2.cell 0
              have hfin : Hid (GRet w (GetM b (a : Int)) (.returned (.tuple #[.agg (packCells 0 none 0 0), .int .i64 0, .int .i64 2])) wd) := ⟨0, none, 0, 0, 0, 2, rfl, hkw.then_ hk2 (fun i hi h => by omega), .inr ⟨HR.out, (by decide), rfl, rfl, rfl, rfl, rfl⟩⟩
              clear hp2 hd2 hk2 he2 hkw hec hpc hdc he hp hd
              simp [Leaves, settle, results, Tryd.results46, go_sem, q1, q2, q3, q4]
              exact hfin.out
            · have HR : Hid (GetM b (a : Int) = .ok (id, s2.V, (a : Int) + U)) := by show _ = _; rw [Hres.out, if_neg (by simpa using Hsz.out), if_neg hbig]
              have hb2 : decide ((8184 : Int) < (k9 : Int) - (a : Int) % 8) = false := by rw [HU.out]; simpa using hbig
              clear hbig
              have hcap := Hown9.out.cap_le
              have p1a : ∀ v, (w9.setCell ⟨w.heap.size, 1, none⟩ v).cell? ⟨w.heap.size, 0, none⟩ = some (.int .i64 id) := fun v => by have := (Hp9.out.set_ 1 v).cell 0; simpa using this
              go_wp2_with (first
                | (go_at_call 45; refine hAt9.out.mono ?_; rintro e w' ⟨rfl, rfl⟩)
                | (go_at_call 75; refine (clip_any A9 s2.V.length c9 _ hcap hVn).mono ?_; rintro e w' ⟨rfl, rfl⟩))
              have hpC : Blk (w9.setCell ⟨w.heap.size, 1, none⟩ (.slice A9 s2.V.length s2.V.length)) w.heap.size 39 #[.int .i64 id, .slice A9 s2.V.length s2.V.length] := by have := Hp9.out.set_ 1 (.slice A9 s2.V.length s2.V.length); simpa using this
              have hdC := Hen9.out.far (p := ⟨w.heap.size, 1, none⟩) (by simp) (.slice A9 s2.V.length s2.V.length)
              have heC := Her9.out.far (p := ⟨w.heap.size, 1, none⟩) (by simp; omega) (.slice A9 s2.V.length s2.V.length)
              obtain ⟨hp, hd, he, hk⟩ := stores4 hpC hdC heC (by omega) (by omega) (by omega) (.int .i64 id) (.slice A9 s2.V.length s2.V.length) (.int .i64 ((a : Int) + ((k9 : Int) - (a : Int) % 8))) (.int .i64 0)
              have hkC : Keep (fun k => k = w.heap.size) w9 (w9.setCell ⟨w.heap.size, 1, none⟩ (.slice A9 s2.V.length s2.V.length)) := (Keep.refl (fun k => k = w.heap.size) w9).set_ (p := ⟨w.heap.size, 1, none⟩) (.inl rfl) _
              have hkk := (Hkw9.out.then_ hkC (fun i hi h => by omega)).then_ hk (fun i hi h => by omega)
              refine leaves_cons (f := 70) (args := #[.pointer (some ⟨w.heap.size + 1 + 1, 0, none⟩)]) (by simp) (by simp [go_sem]) ?_
              refine (caught_idle _ _).mono ?_
              rintro e u' wc ⟨rfl, rfl, rfl⟩
              refine leaves_cons (f := 69) (args := #[.pointer (some ⟨w.heap.size + 1 + 1, 0, none⟩), .pointer (some ⟨w.heap.size, 0, none⟩), .pointer (some ⟨w.heap.size + 1, 0, none⟩)]) (by simp [settle]) (by simp [go_sem]) ?_
              refine (get1_zero (w.heap.size + 1 + 1) w.heap.size (w.heap.size + 1) _ _ he).mono ?_
              rintro e u' wd ⟨rfl, rfl, rfl⟩
              have q1 := he.cell 0
              have q2 := hp.cell 0
              have q3 := hp.cell 1
              have q4 := hd.cell 0
              simp only [List.getElem?_toArray, List.getElem?_cons_zero, List.getElem?_cons_succ] at q1 q2 q3 q4
              have hkA := (hkC.mono (S' := fun k => k = w.heap.size ∨ k = w.heap.size + 1 ∨ k = w.heap.size + 1 + 1) (fun _ _ h => .inl h)).trans hk
              have hownC := (Hown9.out.rd.keep_far hkA (fun ad hA h0 h => by have := (Hown9.out.row (k := ad.block) ⟨ad, hA, rfl⟩).1; have := HS6.out; omega)).more hkA.size
              have hfresh : ∀ k, InRow A9 k → w.heap.size ≤ k := fun k h => by have := (Hown9.out.row h).1; have := HS6.out; omega
              have hfin : Hid (GRet w (GetM b (a : Int)) (.returned (.tuple #[.agg (packCells id A9 s2.V.length s2.V.length), .int .i64 ((a : Int) + ((k9 : Int) - (a : Int) % 8)), .int .i64 0])) _) := ⟨id, A9, s2.V.length, s2.V.length, (a : Int) + ((k9 : Int) - (a : Int) % 8), 0, rfl, hkk, .inl ⟨s2.V, by rw [HR.out, HU.out], rfl, rfl, hownC, Nat.le_refl _, by unfold maxLen; omega, hfresh⟩⟩
              clear hp hd he hk hkC hpC hdC heC hkk hownC hkA
              simp [Leaves, settle, results, Tryd.results46, go_sem, q1, q2, q3, q4]
              exact hfin.out
          · have HR : Hid (GetM b (a : Int) = .error 20) := by show _ = _; rw [Hres.out, if_pos hsz]
            have hb1 : (s2.size == (k9 : Int) - (a : Int) % 8) = false := by rw [HU.out]; simpa using hsz
            clear hsz
            go_wp2_with (go_at_call 45; refine hAt9.out.mono ?_; rintro e w' ⟨rfl, rfl⟩)
            obtain ⟨hp, hd, he, hk⟩ := stores4 Hp9.out Hen9.out Her9.out (by omega) (by omega) (by omega) (.int .i64 id) (.slice A9 s2.V.length c9) (.int .i64 0) (.int .i64 20)
            have hkk := Hkw9.out.then_ hk (fun i hi h => by omega)
            refine leaves_cons (f := 70) (args := #[.pointer (some ⟨w.heap.size + 1 + 1, 0, none⟩)]) (by simp) (by simp [go_sem]) ?_
            refine (caught_idle _ _).mono ?_
            rintro e u' wc ⟨rfl, rfl, rfl⟩
            have hec := he
            have hpc := hp
            have hdc := hd
            have hkw := hkk
            refine leaves_cons (f := 69) (args := #[.pointer (some ⟨w.heap.size + 1 + 1, 0, none⟩), .pointer (some ⟨w.heap.size, 0, none⟩), .pointer (some ⟨w.heap.size + 1, 0, none⟩)]) (by simp [settle]) (by simp [go_sem]) ?_
            refine (get1_err (w.heap.size + 1 + 1) w.heap.size (w.heap.size + 1) 20 _ _ _ (by decide) _ _ hec hpc hdc).mono ?_
            rintro e u' wd ⟨rfl, rfl, hp2, hd2, hk2⟩
            have he2 := hec.keep hk2 (by omega)
            have q1 : wd.cell? ⟨w.heap.size + 1 + 1, 0, none⟩ = some (.int .i64 20) := he2.cell 0
            have q2 : wd.cell? ⟨w.heap.size, 0, none⟩ = some (.int .i64 0) := hp2.cell 0
            have q3 : wd.cell? ⟨w.heap.size, 1, none⟩ = some (.slice none 0 0) := hp2.cell 1
            have q4 : wd.cell? ⟨w.heap.size + 1, 0, none⟩ = some (.int .i64 0) := hd2.cell 0
            have hfin : Hid (GRet w (GetM b (a : Int)) (.returned (.tuple #[.agg (packCells 0 none 0 0), .int .i64 0, .int .i64 20])) wd) := ⟨0, none, 0, 0, 0, 20, rfl, hkw.then_ hk2 (fun i hi h => by omega), .inr ⟨HR.out, (by decide), rfl, rfl, rfl, rfl, rfl⟩⟩
            clear hp2 hd2 hk2 he2 hkw hec hpc hdc he hp hd
            simp [Leaves, settle, results, Tryd.results46, go_sem, q1, q2, q3, q4]
            exact hfin.out
  · have hd : decide ((0 : Int) < (a : Int) % 8) = true := by simp; omega
    have hget := get_ok (w.heap.size + 1 + 1 + 1) w1.heap.size p (b.drop (a / 8)) 0 (a % 8) hm (by omega) (by rw [Hbl.out]; omega) _ (Hrd.out.keep ((Keep.refl Never w1).alloc (.cells #[.pointer (some ⟨p, 0, none⟩)] 70)) (fun _ h => h.elim)) (by have := Hs1.out; simp; omega)
    rw [show ((a % 8 : Nat) : Int) = (a : Int) % 8 by omega] at hget
    have Hget := Lib.hid hget
    have Hm := Lib.hid hm
    clear hget hm
    go_wp2_with fail
    refine Hget.out.mono ?_
    rintro e wg ⟨rfl, hrdg, hkg⟩
    rw [Nat.zero_add] at hrdg
    have hcall := hAt.out _ hrdg hkg
    have Hcall := Lib.hid hcall
    have hbg : wg.cell? ⟨w1.heap.size, 0, none⟩ = some (.pointer (some ⟨p, 0, none⟩)) := ((Blk.new w1 70 #[.pointer (some ⟨p, 0, none⟩)]).keep hkg (fun e => by obtain ⟨_, _, _, _, _, _, _, hp1, hp2, _⟩ := hrdg; omega)).cell 0
    clear hcall hrdg hkg
    go_wp2_with fail
    refine Hcall.out.mono ?_
    rintro e w2 ⟨rfl, _, hrd2, hbr2, hpk2, hen2, her2, hk2, hs2⟩
    have Hrd2 := Lib.hid hrd2
    have Hbr2 := Lib.hid hbr2
    have Hpk2 := Lib.hid hpk2
    have Hen2 := Lib.hid hen2
    have Her2 := Lib.hid her2
    have Hk2 := Lib.hid hk2
    have Hs2 := Lib.hid hs2
    clear hrd2 hbr2 hpk2 hen2 her2 hk2 hs2
    obtain ⟨n1, n2, hk4, hs4⟩ := alloc2 w2 #[.int .i64 0] #[.func (.func 71) #[] #[.pointer (some ⟨w1.heap.size, 0, none⟩), .pointer (some ⟨w2.heap.size, 0, none⟩), .pointer (some ⟨w.heap.size, 0, none⟩)]] 3 116
    have hinv4 : InvG (w.heap.size + 1 + 1 + 1) w1.heap.size (w2.heap.size + 1 + 1) p w1.heap.size w2.heap.size w.heap.size (b.drop (a / 8)) 0 ⟨leftB b a, 0, []⟩ (fun _ => False) ((w2.alloc (.cells #[.int .i64 0] 3)).alloc (.cells #[.func (.func 71) #[] #[.pointer (some ⟨w1.heap.size, 0, none⟩), .pointer (some ⟨w2.heap.size, 0, none⟩), .pointer (some ⟨w.heap.size, 0, none⟩)]] 116)) := by
      have hrd := Hrd2.out
      obtain ⟨_, _, _, _, _, _, _, hp1, hp2, _⟩ := hrd
      have h1 := Hs1.out
      have h2 := Hs2.out
      exact ⟨a % 8, none, 0, Hrd2.out.keep hk4 (fun _ h => h.elim), (leftB_drop b a).symm, Hbr2.out.keep hk4 (fun h => h), n1, Hpk2.out.keep hk4 (fun h => h), Own.nil _ _ _ _, fun q => ⟨fun h => h.elim, fun ⟨_, h, _⟩ => by cases h⟩, Nat.zero_le _, HW.out.keep (Hk2.out.trans hk4) (fun h => h), by omega, by omega, hp1, hp2, Nat.le_refl _, by omega, by omega, by omega, by omega, by omega, by rw [hs4]; exact Nat.le_refl _, by omega⟩
    have hdo1 := get2_does (w.heap.size + 1 + 1 + 1) w1.heap.size (w2.heap.size + 1 + 1) p w1.heap.size w2.heap.size w.heap.size (b.drop (a / 8)) 0 (by rw [Hbl.out]; omega) 5 _ _ _ hinv4 (valG_ok _ _)
    have Hdo1 := Lib.hid hdo1
    have Hn2 := Lib.hid n2
    have Hk4 := Lib.hid hk4
    have Hs4 := Lib.hid hs4
    clear n1 n2 hk4 hs4 hinv4 hdo1
    go_wp2_with fail
    refine Hdo1.out.mono ?_
    rintro e w5 ⟨hk5, Q5, hq5, hq5', hpo⟩
    have Hq5 := Lib.hid hq5
    have Hq5' := Lib.hid hq5'
    have hlt : Hid (w.heap.size + 1 + 1 + 1 ≤ p ∧ p < w1.heap.size) := by obtain ⟨_, _, _, _, _, _, _, hp1, hp2, _⟩ := Hrd2.out; exact ⟨hp1, hp2⟩
    have hen5 := (Hen2.out.keep Hk4.out (fun h => h)).keep hk5 (fun h => by have := hlt.out; have := Hs1.out; have := Hs2.out; rcases h with (h | h | h) | h <;> first | omega | exact h)
    have her5 := (Her2.out.keep Hk4.out (fun h => h)).keep hk5 (fun h => by have := hlt.out; have := Hs1.out; have := Hs2.out; rcases h with (h | h | h) | h <;> first | omega | exact h)
    have hwk5 := Hn2.out.keep hk5 (fun h => by have := hlt.out; have := Hs1.out; have := Hs2.out; rcases h with (h | h | h) | h <;> first | omega | exact h)
    have hkw5 : Keep Never w w5 := (Hk2.out.trans Hk4.out).then_ hk5 (fun i hi h => by have := hlt.out; have := Hs1.out; have := Hs2.out; rcases h with (h | h | h) | h <;> first | omega | exact h.elim)
    have hs5 : w2.heap.size + 1 + 1 ≤ w5.heap.size := by have := hk5.size; rw [Hs4.out] at this; exact this
    have Hen5 := Lib.hid hen5
    have Her5 := Lib.hid her5
    have Hwk5 := Lib.hid hwk5
    have Hkw5 := Lib.hid hkw5
    have Hs5 := Lib.hid hs5
    clear hk5 hq5 hq5' hen5 her5 hwk5 hkw5 hs5
    rcases hpo with ⟨id, s1, hv1, rfl, hi5, b1, b2⟩ | ⟨x, s1, hv1, rfl, hi5⟩
    rotate_left
    · have HR : Hid (GetM b (a : Int) = .error x) := by show _ = _; unfold GetM; rw [if_neg (by rw [Hl.out]; omega), Int.toNat_natCast]; simp only [hv1]
      have hx := valG_err hv1
      obtain ⟨_, A5, c5, _, _, _, _, hp5, _⟩ := hi5
      have Hx := Lib.hid hx
      have Hp5 := Lib.hid hp5
      clear hv1 hx hp5 Hdo1
      go_wp2_with fail
      have hp := Hp5.out
      have hd := Hen5.out
      have he := Her5.out
      refine leaves_cons (f := 70) (args := #[.pointer (some ⟨w.heap.size + 1 + 1, 0, none⟩)]) (by simp) (by simp [go_sem]) ?_
      refine (caught_panicking (w.heap.size + 1 + 1) x 0 _ he).mono ?_
      rintro e u' wc ⟨rfl, rfl, hec, hkc⟩
      have hpc := hp.keep hkc (by omega)
      have hdc := hd.keep hkc (by omega)
      have hkw : Keep Never w wc := Hkw5.out.then_ hkc (fun i hi h => by omega)
      refine leaves_cons (f := 69) (args := #[.pointer (some ⟨w.heap.size + 1 + 1, 0, none⟩), .pointer (some ⟨w.heap.size, 0, none⟩), .pointer (some ⟨w.heap.size + 1, 0, none⟩)]) (by simp [settle, faultR]) (by simp [go_sem]) ?_
      refine (get1_err (w.heap.size + 1 + 1) w.heap.size (w.heap.size + 1) x _ _ _ Hx.out _ _ hec hpc hdc).mono ?_
      rintro e u' wd ⟨rfl, rfl, hp2, hd2, hk2⟩
      have he2 := hec.keep hk2 (by omega)
      have q1 : wd.cell? ⟨w.heap.size + 1 + 1, 0, none⟩ = some (.int .i64 x) := he2.cell 0
      have q2 : wd.cell? ⟨w.heap.size, 0, none⟩ = some (.int .i64 0) := hp2.cell 0
      have q3 : wd.cell? ⟨w.heap.size, 1, none⟩ = some (.slice none 0 0) := hp2.cell 1
      have q4 : wd.cell? ⟨w.heap.size + 1, 0, none⟩ = some (.int .i64 0) := hd2.cell 0
      have hfin : Hid (GRet w (GetM b (a : Int)) (.returned (.tuple #[.agg (packCells 0 none 0 0), .int .i64 0, .int .i64 x])) wd) := ⟨0, none, 0, 0, 0, x, rfl, hkw.then_ hk2 (fun i hi h => by omega), .inr ⟨HR.out, Hx.out, rfl, rfl, rfl, rfl, rfl⟩⟩
      clear hp2 hd2 hk2 he2 hkw hec hpc hdc he hp hd
      simp [Leaves, settle, results, Tryd.results46, go_sem, faultR, q1, q2, q3, q4]
      exact hfin.out
    · have Hv1 := Lib.hid hv1
      have Hi5 := Lib.hid hi5
      obtain ⟨k5, A5, c5, _, _, _, hsz5, hp5, _⟩ := hi5
      have p0 : w5.cell? ⟨w.heap.size, 0, none⟩ = some (.int .i64 0) := hp5.cell 0
      have p1 : w5.cell? ⟨w.heap.size, 1, none⟩ = some (.slice A5 s1.V.length c5) := hp5.cell 1
      have f0 : w5.frozen? ⟨w.heap.size, 0, none⟩ = false := hp5.frozen 0
      have f1 : w5.frozen? ⟨w.heap.size, 1, none⟩ = false := hp5.frozen 1
      have Hp5 := Lib.hid hp5
      have hz1 := valG5 hv1
      have Hz1 := Lib.hid hz1
      clear hv1 hp5 hsz5 Hdo1 hz1
      go_wp2_with fail
      obtain ⟨W6, hW6⟩ : ∃ W6, (w5.setCell ⟨w.heap.size, 0, none⟩ (.int .i64 id)).setCell ⟨w.heap.size, 1, none⟩ (.slice none 0 0) = W6 := ⟨_, rfl⟩
      rw [hW6]
      have hk6 : Keep (fun k => k = w.heap.size) w5 W6 := by rw [← hW6]; exact ((Keep.refl (fun k => k = w.heap.size) w5).set_ (p := ⟨w.heap.size, 0, none⟩) (.inl rfl) _).set_ (p := ⟨w.heap.size, 1, none⟩) (.inl rfl) _
      have hp6 : Blk W6 w.heap.size 39 #[.int .i64 id, .slice none 0 0] := by rw [← hW6]; have := (Hp5.out.set_ 0 (.int .i64 id)).set_ 1 (.slice none 0 0); simpa using this
      have hlt := hlt.out
      have hs1 := Hs1.out
      have hs2 := Hs2.out
      have hinv6 : InvG (w.heap.size + 1 + 1 + 1) w1.heap.size (w2.heap.size + 1 + 1) p w1.heap.size w2.heap.size w.heap.size (b.drop (a / 8)) id ⟨s1.bits, 0, []⟩ (fun _ => False) W6 := by
        obtain ⟨k, A, c, h1, h2, h3, h4, h5, h6, h7, h8, h9, g1, g2, g3, g4, g5, g6, g7, g8, g9, g10, g11, g12⟩ := Hi5.out
        refine ⟨k, none, 0, h1.keep hk6 (fun q e => by omega), h2, h3.keep hk6 (by omega), ?_, hp6, Own.nil _ _ _ _, fun q => ⟨fun h => h.elim, fun ⟨_, h, _⟩ => by cases h⟩, Nat.zero_le _, h9.keep hk6 g12, g1, g2, g3, g4, g5, g6, g7, g8, g9, g10, by have := hk6.size; omega, g12⟩
        have := h4.keep hk6 (by omega)
        rw [Hz1.out] at this
        exact this
      have hen6 := Hen5.out.keep hk6 (by omega)
      have her6 := Her5.out.keep hk6 (by omega)
      have hwk6 := Hwk5.out.keep hk6 (by omega)
      have hkw6 : Keep Never w W6 := Hkw5.out.then_ hk6 (fun i hi h => by omega)
      have hs6 := hk6.size
      have hs5 := Hs5.out
      have Hinv6 := Lib.hid hinv6
      have Hen6 := Lib.hid hen6
      have Her6 := Lib.hid her6
      have Hwk6 := Lib.hid hwk6
      have Hkw6 := Lib.hid hkw6
      have Hp6 := Lib.hid hp6
      have HS6 : Hid (w.heap.size + 1 + 1 + 1 ≤ p ∧ p < w1.heap.size ∧ w1.heap.size + 1 ≤ w2.heap.size ∧ w2.heap.size + 1 + 1 ≤ W6.heap.size) := ⟨hlt.1, hlt.2, hs2, Nat.le_trans hs5 hs6⟩
      clear hinv6 hen6 her6 hwk6 hkw6 hp6 hW6 hk6 hs6 hs5 hs1 hs2 hlt p0 p1 f0 f1
      refine (known_any id W6).mono ?_
      rintro e w7 ⟨rfl, hk7⟩
      have Hk7 := Lib.hid hk7
      have hp7 := Hp6.out.keep hk7 (fun h => h)
      have hen7 := Hen6.out.keep hk7 (fun h => h)
      have her7 := Her6.out.keep hk7 (fun h => h)
      have p0 : w7.cell? ⟨w.heap.size, 0, none⟩ = some (.int .i64 id) := hp7.cell 0
      have p1 : w7.cell? ⟨w.heap.size, 1, none⟩ = some (.slice none 0 0) := hp7.cell 1
      have Hp7 := Lib.hid hp7
      have Hen7 := Lib.hid hen7
      have Her7 := Lib.hid her7
      cases hT : ptree id with
      | none =>
        have HR : Hid (GetM b (a : Int) = .error 50) := by show _ = _; unfold GetM; rw [if_neg (by rw [Hl.out]; omega), Int.toNat_natCast]; simp only [Hv1.out, hT]
        have f0 : w7.frozen? ⟨w.heap.size, 0, none⟩ = false := hp7.frozen 0
        have f1 : w7.frozen? ⟨w.heap.size, 1, none⟩ = false := hp7.frozen 1
        have d0 : w7.cell? ⟨w.heap.size + 1, 0, none⟩ = some (.int .i64 0) := hen7.cell 0
        have d1 : w7.frozen? ⟨w.heap.size + 1, 0, none⟩ = false := hen7.frozen 0
        have e0 : w7.cell? ⟨w.heap.size + 1 + 1, 0, none⟩ = some (.int .i64 0) := her7.cell 0
        have e1 : w7.frozen? ⟨w.heap.size + 1 + 1, 0, none⟩ = false := her7.frozen 0
        have Hkw7 := Lib.hid (Hkw6.out.trans hk7)
        clear hk7 hp7 hen7 her7 hT
        simp only [Option.isSome_none]
        go_wp2_with fail
        obtain ⟨hp, hd, he, hk⟩ := stores4 Hp7.out Hen7.out Her7.out (by omega) (by omega) (by omega) (.int .i64 id) (.slice none 0 0) (.int .i64 0) (.int .i64 50)
        have hkk := Hkw7.out.then_ hk (fun i hi h => by omega)
        refine leaves_cons (f := 70) (args := #[.pointer (some ⟨w.heap.size + 1 + 1, 0, none⟩)]) (by simp) (by simp [go_sem]) ?_
        refine (caught_idle _ _).mono ?_
        rintro e u' wc ⟨rfl, rfl, rfl⟩
        have hec := he
        have hpc := hp
        have hdc := hd
        have hkw := hkk
        refine leaves_cons (f := 69) (args := #[.pointer (some ⟨w.heap.size + 1 + 1, 0, none⟩), .pointer (some ⟨w.heap.size, 0, none⟩), .pointer (some ⟨w.heap.size + 1, 0, none⟩)]) (by simp [settle]) (by simp [go_sem]) ?_
        refine (get1_err (w.heap.size + 1 + 1) w.heap.size (w.heap.size + 1) 50 _ _ _ (by decide) _ _ hec hpc hdc).mono ?_
        rintro e u' wd ⟨rfl, rfl, hp2, hd2, hk2⟩
        have he2 := hec.keep hk2 (by omega)
        have q1 : wd.cell? ⟨w.heap.size + 1 + 1, 0, none⟩ = some (.int .i64 50) := he2.cell 0
        have q2 : wd.cell? ⟨w.heap.size, 0, none⟩ = some (.int .i64 0) := hp2.cell 0
        have q3 : wd.cell? ⟨w.heap.size, 1, none⟩ = some (.slice none 0 0) := hp2.cell 1
        have q4 : wd.cell? ⟨w.heap.size + 1, 0, none⟩ = some (.int .i64 0) := hd2.cell 0
        have hfin : Hid (GRet w (GetM b (a : Int)) (.returned (.tuple #[.agg (packCells 0 none 0 0), .int .i64 0, .int .i64 50])) wd) := ⟨0, none, 0, 0, 0, 50, rfl, hkw.then_ hk2 (fun i hi h => by omega), .inr ⟨HR.out, (by decide), rfl, rfl, rfl, rfl, rfl⟩⟩
        clear hp2 hd2 hk2 he2 hkw hec hpc hdc he hp hd
        simp [Leaves, settle, results, Tryd.results46, go_sem, q1, q2, q3, q4]
        exact hfin.out
      | some T =>
        have HT := Lib.hid hT
        simp only [Option.isSome_some]
        clear hk7 hp7 hen7 her7 hT
        go_wp2_with fail
        have hsome := parts_some id T HT.out w7
        refine hsome.mono ?_
        rintro e w8 ⟨A2, n2, C2, rfl, h1, hk8⟩
        have hk68 := Hk7.out.trans hk8
        have hinv8 := Hinv6.out.keep hk68
        have hwk8 := Hwk6.out.keep hk68 (fun h => h)
        have hs8 := hk8.size
        have hs7 := Hk7.out.size
        have hS6 := HS6.out
        have hlead := ptree_chk HT.out
        have hne9 : walkL valG T 0 ⟨s1.bits, 0, []⟩ ≠ .error 999 := fun h => walk_err (E := fun e => e ≠ 999) (fun v s e h e9 => by subst e9; exact valG_ok v s h) T 0 _ 999 h rfl
        have hwalk := walk_any valG (InvG (w.heap.size + 1 + 1 + 1) w1.heap.size (w2.heap.size + 1 + 1) p w1.heap.size w2.heap.size w.heap.size (b.drop (a / 8)) id) (SG3 p w2.heap.size w.heap.size) 71 #[.pointer (some ⟨w1.heap.size, 0, none⟩), .pointer (some ⟨w2.heap.size, 0, none⟩), .pointer (some ⟨w.heap.size, 0, none⟩)]
          (fun args w => by kernel_rfl) (get2_does _ _ _ _ _ _ _ _ _ (by rw [Hbl.out]; omega)) (fun s Q W W' h hk => h.keep hk)
          (w2.heap.size + 1) w8.heap.size (Frw w7.heap.size w8) (fun k hk => ⟨fun h => by have := hk.1; rcases h with h | h | h <;> omega, hk.2⟩) ⟨fun h => by rcases h with h | h | h <;> omega, by omega⟩ (fun k h => by rcases h with h | h | h <;> omega)
          T.sz T (Nat.le_refl _) A2 n2 C2 ⟨s1.bits, 0, []⟩ (fun _ => False) w8 (h1.keep (Keep.refl Never w8) (fun k hk h => ⟨fun h => h.elim, h, hk⟩)) hwk8 (Nat.le_refl _) hinv8 (fun k hk h => h) (fun h => h) (fun k h => h.elim) hne9
        have hp8 := Hp7.out.keep hk8 (fun h => h)
        have hen8 := Hen7.out.keep hk8 (fun h => h)
        have her8 := Her7.out.keep hk8 (fun h => h)
        have hkw8 := (Hkw6.out.trans Hk7.out).trans hk8
        have Hwalk := Lib.hid hwalk
        have Hen8 := Lib.hid hen8
        have Her8 := Lib.hid her8
        have Hkw8 := Lib.hid hkw8
        clear h1 hk8 hk68 hinv8 hwk8 hs8 hs7 hS6 hlead hne9 hwalk hp8 hen8 her8 hkw8 hsome p0 p1
        go_wp2_with fail
        refine Hwalk.out.mono ?_
        rintro e w9 ⟨hk9, Q9, hq9, hq9', hpo⟩
        have hS6 := HS6.out
        have hen9 := Hen8.out.keep hk9 (fun h => by rcases h with (h | h | h) | h <;> first | omega | exact h)
        have her9 := Her8.out.keep hk9 (fun h => by rcases h with (h | h | h) | h <;> first | omega | exact h)
        have hkw9 : Keep Never w w9 := Hkw8.out.then_ hk9 (fun i hi h => by rcases h with (h | h | h) | h <;> first | omega | exact h.elim)
        have Hen9 := Lib.hid hen9
        have Her9 := Lib.hid her9
        have Hkw9 := Lib.hid hkw9
        clear hk9 hq9 hq9' hen9 her9 hkw9 hS6
        rcases hpo with ⟨s2, hr2, rfl, hi9⟩ | ⟨x, s2, hr2, rfl, hi9⟩
        rotate_left
        · have HR : Hid (GetM b (a : Int) = .error x) := by show _ = _; unfold GetM; rw [if_neg (by rw [Hl.out]; omega), Int.toNat_natCast]; simp only [Hv1.out, HT.out, hr2]
          have hx := walk_err (E := fun e => e ≠ 0) (fun v s e h => valG_err h) T 0 _ x hr2
          obtain ⟨_, A9, c9, _, _, _, _, hp9, _⟩ := hi9
          have Hx := Lib.hid hx
          have Hp9 := Lib.hid hp9
          clear hr2 hx hp9
          go_wp2_with fail
          have hp := Hp9.out
          have hd := Hen9.out
          have he := Her9.out
          refine leaves_cons (f := 70) (args := #[.pointer (some ⟨w.heap.size + 1 + 1, 0, none⟩)]) (by simp) (by simp [go_sem]) ?_
          refine (caught_panicking (w.heap.size + 1 + 1) x 0 _ he).mono ?_
          rintro e u' wc ⟨rfl, rfl, hec, hkc⟩
          have hpc := hp.keep hkc (by omega)
          have hdc := hd.keep hkc (by omega)
          have hkw : Keep Never w wc := Hkw9.out.then_ hkc (fun i hi h => by omega)
          refine leaves_cons (f := 69) (args := #[.pointer (some ⟨w.heap.size + 1 + 1, 0, none⟩), .pointer (some ⟨w.heap.size, 0, none⟩), .pointer (some ⟨w.heap.size + 1, 0, none⟩)]) (by simp [settle, faultR]) (by simp [go_sem]) ?_
          refine (get1_err (w.heap.size + 1 + 1) w.heap.size (w.heap.size + 1) x _ _ _ Hx.out _ _ hec hpc hdc).mono ?_
          rintro e u' wd ⟨rfl, rfl, hp2, hd2, hk2⟩
          have he2 := hec.keep hk2 (by omega)
          have q1 : wd.cell? ⟨w.heap.size + 1 + 1, 0, none⟩ = some (.int .i64 x) := he2.cell 0
          have q2 : wd.cell? ⟨w.heap.size, 0, none⟩ = some (.int .i64 0) := hp2.cell 0
          have q3 : wd.cell? ⟨w.heap.size, 1, none⟩ = some (.slice none 0 0) := hp2.cell 1
          have q4 : wd.cell? ⟨w.heap.size + 1, 0, none⟩ = some (.int .i64 0) := hd2.cell 0
          have hfin : Hid (GRet w (GetM b (a : Int)) (.returned (.tuple #[.agg (packCells 0 none 0 0), .int .i64 0, .int .i64 x])) wd) := ⟨0, none, 0, 0, 0, x, rfl, hkw.then_ hk2 (fun i hi h => by omega), .inr ⟨HR.out, Hx.out, rfl, rfl, rfl, rfl, rfl⟩⟩
          clear hp2 hd2 hk2 he2 hkw hec hpc hdc he hp hd
          simp [Leaves, settle, results, Tryd.results46, go_sem, faultR, q1, q2, q3, q4]
          exact hfin.out
        · obtain ⟨k9, A9, c9, hrd9, hbits9, hbr9, hbs9, hp9, hown9, _, hlen9, _⟩ := hi9
          obtain ⟨U, hU⟩ : ∃ U : Int, (k9 : Int) - (a : Int) % 8 = U := ⟨_, rfl⟩
          have hk9le : k9 ≤ 8 * (n - a / 8) := by obtain ⟨_, _, _, _, _, hl9, _⟩ := hrd9; rwa [Hbl.out] at hl9
          have hdiff : ((leftB b a).length : Int) - s2.bits.length = U := by
            rw [hbits9, ← hU, length_leftB, length_leftB, Hbl.out, Hl.out]
            omega
          have hres : GetM b (a : Int) = (if s2.size ≠ U then .error 20 else if 8184 < U then .error 2 else .ok (id, s2.V, (a : Int) + U)) := by
            unfold GetM; rw [if_neg (by rw [Hl.out]; omega), Int.toNat_natCast]; simp only [Hv1.out, HT.out, hr2, hdiff]
          have cr : w9.cell? ⟨w1.heap.size, 0, none⟩ = some (.pointer (some ⟨p, 0, none⟩)) := hbr9.cell 0
          have cs : w9.cell? ⟨w2.heap.size, 0, none⟩ = some (.int .i64 s2.size) := hbs9.cell 0
          have p0 : w9.cell? ⟨w.heap.size, 0, none⟩ = some (.int .i64 id) := hp9.cell 0
          have p1 : w9.cell? ⟨w.heap.size, 1, none⟩ = some (.slice A9 s2.V.length c9) := hp9.cell 1
          have f0 : w9.frozen? ⟨w.heap.size, 0, none⟩ = false := hp9.frozen 0
          have f1 : w9.frozen? ⟨w.heap.size, 1, none⟩ = false := hp9.frozen 1
          have d0 : w9.cell? ⟨w.heap.size + 1, 0, none⟩ = some (.int .i64 0) := Hen9.out.cell 0
          have d1 : w9.frozen? ⟨w.heap.size + 1, 0, none⟩ = false := Hen9.out.frozen 0
          have e0 : w9.cell? ⟨w.heap.size + 1 + 1, 0, none⟩ = some (.int .i64 0) := Her9.out.cell 0
          have e1 : w9.frozen? ⟨w.heap.size + 1 + 1, 0, none⟩ = false := Her9.out.frozen 0
          have hAt9 : Hid (Calls Tryd.prog 45 #[.pointer (some ⟨p, 0, none⟩)] w9 fun e w' => e = .returned (.int .i64 k9) ∧ w9 = w') := at_any _ _ p _ k9 w9 hrd9
          have hm9 : k9 ≤ 100000 := by omega
          have hm0 : (0 : Int) ≤ (a : Int) % 8 ∧ (a : Int) % 8 ≤ 7 := by omega
          obtain ⟨hm1, hm2⟩ := hm0
          have Hres := Lib.hid hres
          have Hp9 := Lib.hid hp9
          have Hown9 := Lib.hid hown9
          have HU := Lib.hid hU
          have hVn : s2.V.length ≤ 100000 := by omega
          clear hrd9 hbits9 hbr9 hbs9 hp9 hown9 hU hk9le hdiff hres hr2 hlen9
          by_cases hsz : s2.size = U
          · have hb1 : (s2.size == (k9 : Int) - (a : Int) % 8) = true := by rw [HU.out]; simpa using hsz
            have Hsz := Lib.hid hsz
            clear hsz
            by_cases hbig : 8184 < U
            · have HR : Hid (GetM b (a : Int) = .error 2) := by show _ = _; rw [Hres.out, if_neg (by simpa using Hsz.out), if_pos hbig]
              have hb2 : decide ((8184 : Int) < (k9 : Int) - (a : Int) % 8) = true := by rw [HU.out]; simpa using hbig
              clear hbig
              go_wp2_with (go_at_call 45; refine hAt9.out.mono ?_; rintro e w' ⟨rfl, rfl⟩)
              obtain ⟨hp, hd, he, hk⟩ := stores4 Hp9.out Hen9.out Her9.out (by omega) (by omega) (by omega) (.int .i64 id) (.slice A9 s2.V.length c9) (.int .i64 0) (.int .i64 2)
              have hkk := Hkw9.out.then_ hk (fun i hi h => by omega)
              refine leaves_cons (f := 70) (args := #[.pointer (some ⟨w.heap.size + 1 + 1, 0, none⟩)]) (by simp) (by simp [go_sem]) ?_
              refine (caught_idle _ _).mono ?_
              rintro e u' wc ⟨rfl, rfl, rfl⟩
              have hec := he
              have hpc := hp
              have hdc := hd
              have hkw := hkk
              refine leaves_cons (f := 69) (args := #[.pointer (some ⟨w.heap.size + 1 + 1, 0, none⟩), .pointer (some ⟨w.heap.size, 0, none⟩), .pointer (some ⟨w.heap.size + 1, 0, none⟩)]) (by simp [settle]) (by simp [go_sem]) ?_
              refine (get1_err (w.heap.size + 1 + 1) w.heap.size (w.heap.size + 1) 2 _ _ _ (by decide) _ _ hec hpc hdc).mono ?_
              rintro e u' wd ⟨rfl, rfl, hp2, hd2, hk2⟩
              have he2 := hec.keep hk2 (by omega)
              have q1 : wd.cell? ⟨w.heap.size + 1 + 1, 0, none⟩ = some (.int .i64 2) := he2.cell 0
              have q2 : wd.cell? ⟨w.heap.size, 0, none⟩ = some (.int .i64 0) := hp2.cell 0
              have q3 : wd.cell? ⟨w.heap.size, 1, none⟩ = some (.slice none 0 0) := hp2.cell 1
              have q4 : wd.cell? ⟨w.heap.size + 1, 0, none⟩ = some (.int .i64 0) := hd2.cell 0
              have hfin : Hid (GRet w (GetM b (a : Int)) (.returned (.tuple #[.agg (packCells 0 none 0 0), .int .i64 0, .int .i64 2])) wd) := ⟨0, none, 0, 0, 0, 2, rfl, hkw.then_ hk2 (fun i hi h => by omega), .inr ⟨HR.out, (by decide), rfl, rfl, rfl, rfl, rfl⟩⟩
              clear hp2 hd2 hk2 he2 hkw hec hpc hdc he hp hd
              simp [Leaves, settle, results, Tryd.results46, go_sem, q1, q2, q3, q4]
              exact hfin.out
            · have HR : Hid (GetM b (a : Int) = .ok (id, s2.V, (a : Int) + U)) := by show _ = _; rw [Hres.out, if_neg (by simpa using Hsz.out), if_neg hbig]
              have hb2 : decide ((8184 : Int) < (k9 : Int) - (a : Int) % 8) = false := by rw [HU.out]; simpa using hbig
              clear hbig
              have hcap := Hown9.out.cap_le
              have p1a : ∀ v, (w9.setCell ⟨w.heap.size, 1, none⟩ v).cell? ⟨w.heap.size, 0, none⟩ = some (.int .i64 id) := fun v => by have := (Hp9.out.set_ 1 v).cell 0; simpa using this
              go_wp2_with (first
                | (go_at_call 45; refine hAt9.out.mono ?_; rintro e w' ⟨rfl, rfl⟩)
                | (go_at_call 75; refine (clip_any A9 s2.V.length c9 _ hcap hVn).mono ?_; rintro e w' ⟨rfl, rfl⟩))
              have hpC : Blk (w9.setCell ⟨w.heap.size, 1, none⟩ (.slice A9 s2.V.length s2.V.length)) w.heap.size 39 #[.int .i64 id, .slice A9 s2.V.length s2.V.length] := by have := Hp9.out.set_ 1 (.slice A9 s2.V.length s2.V.length); simpa using this
              have hdC := Hen9.out.far (p := ⟨w.heap.size, 1, none⟩) (by simp) (.slice A9 s2.V.length s2.V.length)
              have heC := Her9.out.far (p := ⟨w.heap.size, 1, none⟩) (by simp; omega) (.slice A9 s2.V.length s2.V.length)
              obtain ⟨hp, hd, he, hk⟩ := stores4 hpC hdC heC (by omega) (by omega) (by omega) (.int .i64 id) (.slice A9 s2.V.length s2.V.length) (.int .i64 ((a : Int) + ((k9 : Int) - (a : Int) % 8))) (.int .i64 0)
              have hkC : Keep (fun k => k = w.heap.size) w9 (w9.setCell ⟨w.heap.size, 1, none⟩ (.slice A9 s2.V.length s2.V.length)) := (Keep.refl (fun k => k = w.heap.size) w9).set_ (p := ⟨w.heap.size, 1, none⟩) (.inl rfl) _
              have hkk := (Hkw9.out.then_ hkC (fun i hi h => by omega)).then_ hk (fun i hi h => by omega)
              refine leaves_cons (f := 70) (args := #[.pointer (some ⟨w.heap.size + 1 + 1, 0, none⟩)]) (by simp) (by simp [go_sem]) ?_
              refine (caught_idle _ _).mono ?_
              rintro e u' wc ⟨rfl, rfl, rfl⟩
              refine leaves_cons (f := 69) (args := #[.pointer (some ⟨w.heap.size + 1 + 1, 0, none⟩), .pointer (some ⟨w.heap.size, 0, none⟩), .pointer (some ⟨w.heap.size + 1, 0, none⟩)]) (by simp [settle]) (by simp [go_sem]) ?_
              refine (get1_zero (w.heap.size + 1 + 1) w.heap.size (w.heap.size + 1) _ _ he).mono ?_
              rintro e u' wd ⟨rfl, rfl, rfl⟩
              have q1 := he.cell 0
              have q2 := hp.cell 0
              have q3 := hp.cell 1
              have q4 := hd.cell 0
              simp only [List.getElem?_toArray, List.getElem?_cons_zero, List.getElem?_cons_succ] at q1 q2 q3 q4
              have hkA := (hkC.mono (S' := fun k => k = w.heap.size ∨ k = w.heap.size + 1 ∨ k = w.heap.size + 1 + 1) (fun _ _ h => .inl h)).trans hk
              have hownC := (Hown9.out.rd.keep_far hkA (fun ad hA h0 h => by have := (Hown9.out.row (k := ad.block) ⟨ad, hA, rfl⟩).1; have := HS6.out; omega)).more hkA.size
              have hfresh : ∀ k, InRow A9 k → w.heap.size ≤ k := fun k h => by have := (Hown9.out.row h).1; have := HS6.out; omega
              have hfin : Hid (GRet w (GetM b (a : Int)) (.returned (.tuple #[.agg (packCells id A9 s2.V.length s2.V.length), .int .i64 ((a : Int) + ((k9 : Int) - (a : Int) % 8)), .int .i64 0])) _) := ⟨id, A9, s2.V.length, s2.V.length, (a : Int) + ((k9 : Int) - (a : Int) % 8), 0, rfl, hkk, .inl ⟨s2.V, by rw [HR.out, HU.out], rfl, rfl, hownC, Nat.le_refl _, by unfold maxLen; omega, hfresh⟩⟩
              clear hp hd he hk hkC hpC hdC heC hkk hownC hkA
              simp [Leaves, settle, results, Tryd.results46, go_sem, q1, q2, q3, q4]
              exact hfin.out
          · have HR : Hid (GetM b (a : Int) = .error 20) := by show _ = _; rw [Hres.out, if_pos hsz]
            have hb1 : (s2.size == (k9 : Int) - (a : Int) % 8) = false := by rw [HU.out]; simpa using hsz
            clear hsz
            go_wp2_with (go_at_call 45; refine hAt9.out.mono ?_; rintro e w' ⟨rfl, rfl⟩)
            obtain ⟨hp, hd, he, hk⟩ := stores4 Hp9.out Hen9.out Her9.out (by omega) (by omega) (by omega) (.int .i64 id) (.slice A9 s2.V.length c9) (.int .i64 0) (.int .i64 20)
            have hkk := Hkw9.out.then_ hk (fun i hi h => by omega)
            refine leaves_cons (f := 70) (args := #[.pointer (some ⟨w.heap.size + 1 + 1, 0, none⟩)]) (by simp) (by simp [go_sem]) ?_
            refine (caught_idle _ _).mono ?_
            rintro e u' wc ⟨rfl, rfl, rfl⟩
            have hec := he
            have hpc := hp
            have hdc := hd
            have hkw := hkk
            refine leaves_cons (f := 69) (args := #[.pointer (some ⟨w.heap.size + 1 + 1, 0, none⟩), .pointer (some ⟨w.heap.size, 0, none⟩), .pointer (some ⟨w.heap.size + 1, 0, none⟩)]) (by simp [settle]) (by simp [go_sem]) ?_
            refine (get1_err (w.heap.size + 1 + 1) w.heap.size (w.heap.size + 1) 20 _ _ _ (by decide) _ _ hec hpc hdc).mono ?_
            rintro e u' wd ⟨rfl, rfl, hp2, hd2, hk2⟩
            have he2 := hec.keep hk2 (by omega)
            have q1 : wd.cell? ⟨w.heap.size + 1 + 1, 0, none⟩ = some (.int .i64 20) := he2.cell 0
            have q2 : wd.cell? ⟨w.heap.size, 0, none⟩ = some (.int .i64 0) := hp2.cell 0
            have q3 : wd.cell? ⟨w.heap.size, 1, none⟩ = some (.slice none 0 0) := hp2.cell 1
            have q4 : wd.cell? ⟨w.heap.size + 1, 0, none⟩ = some (.int .i64 0) := hd2.cell 0
            have hfin : Hid (GRet w (GetM b (a : Int)) (.returned (.tuple #[.agg (packCells 0 none 0 0), .int .i64 0, .int .i64 20])) wd) := ⟨0, none, 0, 0, 0, 20, rfl, hkw.then_ hk2 (fun i hi h => by omega), .inr ⟨HR.out, (by decide), rfl, rfl, rfl, rfl, rfl⟩⟩
            clear hp2 hd2 hk2 he2 hkw hec hpc hdc he hp hd
            simp [Leaves, settle, results, Tryd.results46, go_sem, q1, q2, q3, q4]
            exact hfin.out

end Go.Proofs.YtiebjnibmomcjaaDoor
