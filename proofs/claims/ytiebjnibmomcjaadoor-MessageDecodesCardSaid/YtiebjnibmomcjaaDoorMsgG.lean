/- Chapter 6: blank. -/
import Derived.Test.YtiebjnibmomcjaaDoorMsgE
import Derived.BigQuiet
import Derived.Deep.RegionHeld3
namespace Go.Proofs.YtiebjnibmomcjaaDoor
open Go.RowKit

/-- how many bits variables take -/
def wsum (l : List Int) : Int := (l.map vWidth).sum
/-- .. and packets -/
def psum (P : List (Int × List Int)) : Int := (P.map fun p => SizeM p.1 p.2).sum
/-- how many bits a message of these packets takes -/
def usedM (id : Int) (P : List (Int × List Int)) : Int := 18 + wsum (headM id ++ ((formM id).getD ([], 0, [])).1) + psum P
/-- are the bits behind the last taken off? -/
def blankM (b : List Nat) (u : Int) : Bool := decide (8 * (b.length : Int) = u) || decide (b.getD (b.length - 1) 0 % 2 ^ (8 * (b.length : Int) - u).toNat = 0)

theorem wsum_take {l : List Int} {k : Nat} {x : Int} (h : l[k]? = some x) : wsum (l.take (k + 1)) = wsum (l.take k) + vWidth x := by
  obtain ⟨h1, h2⟩ := List.getElem?_eq_some_iff.1 h
  rw [List.take_add_one, h]
  simp [wsum]
theorem psum_take {l : List (Int × List Int)} {k : Nat} {x : Int × List Int} (h : l[k]? = some x) : psum (l.take (k + 1)) = psum (l.take k) + SizeM x.1 x.2 := by
  obtain ⟨h1, h2⟩ := List.getElem?_eq_some_iff.1 h
  rw [List.take_add_one, h]
  simp [psum]
theorem wsum_range : ∀ (l : List Int), 0 ≤ wsum l ∧ wsum l ≤ 32 * l.length
  | [] => by simp [wsum]
  | x :: l => by
    have h := wsum_range l
    have h2 := vWidth_range x
    have h3 : wsum (x :: l) = vWidth x + wsum l := by simp [wsum]
    rw [h3, List.length_cons]
    omega
theorem SizeM_range (id : Int) (V : List Int) : 0 ≤ SizeM id V ∧ SizeM id V ≤ 8184 := by
  unfold SizeM
  cases h : ItemsM id V with
  | error e => simp
  | ok l =>
    simp only
    exact (ItemsM_short h).2.2.2
theorem psum_range : ∀ (l : List (Int × List Int)), 0 ≤ psum l ∧ psum l ≤ 8184 * l.length
  | [] => by simp [psum]
  | x :: l => by
    have h := psum_range l
    have h2 := SizeM_range x.1 x.2
    have h3 : psum (x :: l) = SizeM x.1 x.2 + psum l := by simp [psum]
    rw [h3, List.length_cons]
    omega
theorem mask_byte : ∀ k < 8, ∀ x < 256, (bits .and .i64 ((x : Nat) : Int) ((2 ^ k : Nat) - 1 : Int) == 0) = decide (x % 2 ^ k = 0) := by decide +kernel
theorem byte_wrap {p : Int} (h1 : 1 ≤ p) (h2 : p ≤ 256) : wrap64 (p - 1) = p - 1 := IntWalk.wrap64_in _ ⟨by omega, by omega⟩
theorem wid0 : vWidth 0 = 8 := by kernel_rfl
theorem wid1 : vWidth 1 = 10 := by kernel_rfl

set_option maxHeartbeats 8000000 in
set_option maxRecDepth 100000 in
theorem mblank_any (B : Nat) (b : List Nat) (Ab : Option Addr) (nb cb : Nat) (id t ack of_ : Int) (A : Option Addr) (n c : Nat) (A2 : Option Addr) (k d : Nat) (P : List (Int × List Int)) (w : World)
    (hb : Rd w B 1 Ab nb (b.map u8v)) (hbl : b.length = nb) (h8 : ∀ x ∈ b, x < 256) (hs : repPk.Sl w B A2 k d P) (hP : ∀ p ∈ P, p.2.length ≤ 8200) (hk : k ≤ 10000) (hnb : nb ≤ 1000000) (hu1 : usedM id P ≤ 8 * nb) (hu2 : 8 * nb < usedM id P + 8)
    (hW : Widths w) (hg : 0 < B) (hB : B ≤ w.heap.size) :
    Calls Tryd.prog 47 #[.slice Ab nb cb, .agg (msgCells id t ack of_ A n c A2 k d)] w fun e w' => e = .returned (.bool (blankM b (usedM id P))) ∧ Keep Never w w' := by
  have HBy := Lib.hid (And.intro hb (And.intro hbl h8))
  have HS := Lib.hid hs
  have HP := Lib.hid hP
  have HU := Lib.hid (And.intro hu1 hu2)
  have HW := Lib.hid hW
  have HG := Lib.hid (And.intro hg hB)
  have hb0 : Hid (Blk (w.alloc (.cells #[.int .i64 id, .int .i64 t, .int .i64 ack, .int .i64 of_, .slice A n c, .slice A2 k d] 25)) w.heap.size 25 #[.int .i64 id, .int .i64 t, .int .i64 ack, .int .i64 of_, .slice A n c, .slice A2 k d]) := Blk.new w 25 _
  have hk0 : Hid (Keep Never w (w.alloc (.cells #[.int .i64 id, .int .i64 t, .int .i64 ack, .int .i64 of_, .slice A n c, .slice A2 k d] 25))) := (Keep.refl Never w).alloc _
  have HO : Hid (∀ W, Calls Tryd.prog 22 #[.int .i64 id] W (OfRet id W)) := fun W => of_any id W
  have HWi : Hid (∀ W, Keep Never w W → ∀ v, Calls Tryd.prog 23 #[.int .i64 v] W fun e w' => e = .returned (.int .i64 (vWidth v)) ∧ W = w') := Lib.hid (fun W hk v => vwidth_any v W (hW.keep hk (fun h => h)))
  have HFl : Hid (((formM id).getD ([], 0, [])).1.length ≤ 5) := by
    refine Lib.hid ?_
    cases h : formM id with
    | none => simp
    | some f => obtain ⟨a, b, c⟩ := f; simpa using form_own h
  have HUd : Hid (usedM id P = 18 + wsum (headM id ++ ((formM id).getD ([], 0, [])).1) + psum P) := Lib.hid rfl
  clear hb hbl h8 hs hP hu1 hu2 hW hg hB
  unfold OfRet at HO
  unfold msgCells
  generalize (formM id).getD ([], 0, []) = f at *
  generalize (formM id).isSome = fs at *
  obtain ⟨own, must, may⟩ := f
  simp only at HFl HUd HO
  go_enter Tryd.func47, Tryd.ntmps47
  go_wp2_with fail
  refine (HO.out _).mono ?_
  rintro e w1 ⟨A1, n1, c1, A3, n3, c3, rfl, hk1, hn1, hr1, hc1, hn3, hr3, hc3⟩
  have HK1 := Lib.hid ((hk0.out.trans hk1).alloc (.cells #[.slice A1 n1 c1, .int .i64 must, .slice A3 n3 c3] 42))
  have HB1 := Lib.hid ((hb0.out.keep hk1 (fun h => h)).alloc (.cells #[.slice A1 n1 c1, .int .i64 must, .slice A3 n3 c3] 42))
  have HF1 := Lib.hid (Blk.new w1 42 #[.slice A1 n1 c1, .int .i64 must, .slice A3 n3 c3])
  have HR1 := Lib.hid (And.intro hn1 (And.intro hr1 hc1))
  have HS1 : Hid (w.heap.size < w1.heap.size) := Lib.hid (by have := hk1.size; simp at this; omega)
  clear hk1 hn1 hr1 hc1 hn3 hr3 hc3 HO hk0 hb0
  obtain ⟨W2, hW2⟩ : ∃ W2, w1.alloc (.cells #[.slice A1 n1 c1, .int .i64 must, .slice A3 n3 c3] 42) = W2 := ⟨_, rfl⟩
  rw [hW2] at HK1 HB1 HF1
  have hW2s : W2.heap.size = w1.heap.size + 1 := by rw [← hW2]; simp
  obtain ⟨q, hq⟩ : ∃ q, w1.heap.size = q := ⟨_, rfl⟩
  have HKq2 : Hid (Keep Never w1 W2) := by rw [← hW2]; exact Lib.hid ((Keep.refl Never w1).alloc _)
  rw [hq] at HF1 HS1
  have HSq : Hid (q < W2.heap.size) := Lib.hid (by omega)
  have HW0 : Hid (Calls Tryd.prog 23 #[.int .i64 0] W2 fun e w' => e = .returned (.int .i64 8) ∧ W2 = w') := Lib.hid (by have := HWi.out _ HK1.out 0; rwa [wid0] at this)
  have HW1 : Hid (Calls Tryd.prog 23 #[.int .i64 1] W2 fun e w' => e = .returned (.int .i64 10) ∧ W2 = w') := Lib.hid (by have := HWi.out _ HK1.out 1; rwa [wid1] at this)
  go_wp2_with fail
  clear hW2 hW2s
  refine HW0.out.mono ?_
  rintro e w5 ⟨rfl, rfl⟩
  go_wp2_with fail
  refine HW1.out.mono ?_
  rintro e w5 ⟨rfl, rfl⟩
  have g18 : IntKind.i64.wrap (8 + 10) = 18 := by decide
  go_wp2_with fail
  clear g18
  have m0 := HB1.out.cell 0
  have f0 := HF1.out.cell 0
  have hltw := HB1.out.lt
  have hltq := HF1.out.lt
  have HH : Hid (∀ W, Calls Tryd.prog 26 #[.int .i64 id] W (NumsRet W (headM id))) := Lib.hid (fun W => mhead_any id W)
  go_region_held3 (fun w' => w'.cell? ⟨w.heap.size, 0, none⟩ = some (.int .i64 id) ∧ w'.cell? ⟨q, 0, none⟩ = some (.slice A1 n1 c1))
    (refine ⟨?_, ?_⟩ <;> first | go_keep | (rw [hk7.cell (by simp; omega) (fun h => h)]; go_keep) | (rw [hk8.cell (by have := hk7.size; simp at this ⊢; omega) (fun h => h)]; go_keep))
    (first
      | (go_at_call 26; refine (HH.out _).mono ?_; rintro e w7 ⟨A7, n7, c7, rfl, hn7, hnc7, hr7, hk7⟩; have Hn7 := Lib.hid hn7; have Hr7 := Lib.hid hr7; clear hn7 hr7 hnc7)
      | (go_at_call 24; refine (concat2_any w7.heap.size 22 A7 A1 n7 c7 n1 c1 w7.heap.size (headM id) own _ (Blk.new _ _ _) Hn7.out.symm HR1.out.1.symm (Hr7.out.alloc _) (((HR1.out.2.1.keep (HKq2.out.drew.trans hk7) (fun _ h => h.elim)).alloc _).more (by have := HKq2.out.size; have := hk7.size; simp at *; omega)) (by have := Hn7.out; have := headM_len id; omega) (by have := HR1.out.1; have := HFl.out; omega) (by simp)).mono ?_; rintro e w8 ⟨A8, c8, rfl, ho8, hk8⟩))
  have hk68 : Keep Never W2 w8 := (((Keep.refl Never W2).drew.trans hk7).alloc _).trans hk8
  have HK8 := Lib.hid (HK1.out.trans hk68)
  have HB8 := Lib.hid (HB1.out.keep hk68 (fun h => h))
  obtain ⟨names, hnames⟩ : ∃ l, headM id ++ own = l := ⟨_, rfl⟩
  obtain ⟨nn, hnn⟩ : ∃ m, (headM id).length + n1 = m := ⟨_, rfl⟩
  have hnn' : (headM id).length + own.length = nn := by rw [← hnn, HR1.out.1]
  have hnnL : names.length = nn := by rw [← hnames, List.length_append, ← hnn, HR1.out.1]
  have HNm : Hid (Rd w8 w8.heap.size 1 A8 nn (names.map (.int .i64)) ∧ names.length = nn) := Lib.hid ⟨by
    have h := ho8.rd
    rw [hnn', hnames] at h
    exact h, hnnL⟩
  have Hnn : Hid (nn ≤ 8) := Lib.hid (by have := headM_len id; have := HFl.out; omega)
  rw [hnames] at HUd
  have hnni : ((headM id).length : Int) + (own.length : Int) = (nn : Int) := by omega
  rw [hnn', hnni]
  clear hnni hk68 hk7 hk8 ho8 hnnL hnn hnn' hnames m0 f0 hltw hltq Hn7 Hr7
  go_wp2_with fail
  go_loopw [7, 9, 30] (fun sz _ i wr => ∃ k : Nat, k ≤ nn ∧ i = .int .i64 k ∧ sz = .int .i64 (18 + wsum (names.take k)) ∧ Hid (Keep Never w8 wr)) (fun _ _ i _ => nn - (intOf i).toNat)
  case atStart => exact ⟨0, by omega, rfl, rfl, Keep.refl _ _⟩
  case round =>
    obtain ⟨j, hj, rfl, rfl, HKr⟩ := hrel
    have hnn8 := Hnn.out
    by_cases h0 : j < nn
    · obtain ⟨ad, x, hA, _, hx, hcx⟩ := (HNm.out.1.keep HKr.out (fun _ h => h.elim)).at1 h0
      subst hA
      have HT : Hid (wsum (names.take (j + 1)) = wsum (names.take j) + vWidth x) := Lib.hid (wsum_take hx)
      have hr1 := wsum_range (names.take j)
      have hr2 : ((names.take j).length : Int) ≤ 8 := by have := HNm.out.2; simp; omega
      have hr3 := vWidth_range x
      have HWx : Hid (∀ W, Keep Never wr W → Calls Tryd.prog 23 #[.int .i64 x] W fun e w' => e = .returned (.int .i64 (vWidth x)) ∧ W = w') := Lib.hid (fun W hk => HWi.out W ((HK8.out.trans HKr.out).trans hk) x)
      obtain ⟨S, hS⟩ : ∃ S, wsum (names.take j) = S := ⟨_, rfl⟩
      obtain ⟨wd, hwd⟩ : ∃ z, vWidth x = z := ⟨_, rfl⟩
      rw [hS] at hr1 HT ⊢
      rw [hwd] at hr3 HT HWx
      have hS0 : 0 ≤ S ∧ S ≤ 256 := by omega
      have hji : (j : Int) < (nn : Int) := by omega
      clear hx hS hwd hr1 hr2
      obtain ⟨hS1, hS2⟩ := hS0
      obtain ⟨hr1, hr2⟩ := hr3
      go_wp2_with fail
      refine (HWx.out _ (Keep.refl _ _)).mono ?_
      rintro e w5 ⟨rfl, rfl⟩
      go_wp2_with fail
      go_roundw
      case rel => exact ⟨j + 1, by omega, by go_num, by rw [HT.out, Int.add_assoc], HKr⟩
      case measure => simp [intOf]; omega
    · obtain rfl : j = nn := by omega
      have hte : names.take j = names := List.take_of_length_le (by have := HNm.out.2; omega)
      rw [hte]
      obtain ⟨S, hS⟩ : ∃ S, wsum names = S := ⟨_, rfl⟩
      have hS0 : 0 ≤ S ∧ S ≤ 256 := by have := wsum_range names; have := HNm.out.2; have := Hnn.out; omega
      rw [hS] at HUd ⊢
      obtain ⟨hS1, hS2⟩ := hS0
      have hB8 := HB8.out.keep HKr.out (fun h => h)
      have m5 := hB8.cell 5
      have HKr2 := Lib.hid (HK8.out.trans HKr.out)
      have hji : ¬ (j : Int) < (j : Int) := by omega
      clear hte hS hB8
      go_wp2_with fail
      obtain ⟨wo, rfl⟩ : ∃ wo : World, wo = wr := ⟨_, rfl⟩
      go_loopw [7, 11, 42] (fun sz _ i wi => ∃ y : Nat, y ≤ k ∧ i = .int .i64 y ∧ sz = .int .i64 (18 + S + psum (P.take y)) ∧ Hid (Keep Never w wi)) (fun _ _ i _ => k - (intOf i).toNat)
      case atStart => exact ⟨0, by omega, rfl, by simp [psum], HKr2⟩
      case round =>
        obtain ⟨y, hy, rfl, rfl, HKi⟩ := hrel
        have hs := HS.out.keep HKi.out (fun _ h => h.elim)
        by_cases hyk : y < k
        · have hyi : (y : Int) < (k : Int) := by omega
          obtain ⟨ad, pid, PV, A', n', c', hA2, hPy, d0, d1, r1, r2, r3, r4, r5⟩ := Sl_pack hs hyk
          subst hA2
          have HT : Hid (psum (P.take (y + 1)) = psum (P.take y) + SizeM pid PV) := Lib.hid (psum_take hPy)
          have hr1 := psum_range (P.take y)
          have hr2 : ((P.take y).length : Int) ≤ 10000 := by simp; omega
          have hr3 := SizeM_range pid PV
          have hPV := HP.out _ (List.mem_of_getElem? hPy)
          simp only at hPV
          have HSz : Hid (∀ W, Keep Never wr W → Calls Tryd.prog 76 #[.agg #[.int .i64 pid, .slice A' n' c']] W fun e w' => e = .returned (.int .i64 (SizeM pid PV)) ∧ Keep Never W w') :=
            Lib.hid (fun W hkW => Size_any B pid PV A' n' c' W (r1.keep hkW (fun _ h => h.elim)) r2 r3 r4 r5 hPV (HW.out.keep (HKi.out.trans hkW) (fun h => h)) HG.out.1 (by have := HG.out.2; have := HKi.out.size; have := hkW.size; omega))
          have HKc := Lib.hid ((Keep.refl Never wr).alloc (.cells #[.int .i64 pid, .slice A' n' c'] 39))
          obtain ⟨T, hT⟩ : ∃ S, psum (P.take y) = S := ⟨_, rfl⟩
          obtain ⟨wd, hwd⟩ : ∃ z, SizeM pid PV = z := ⟨_, rfl⟩
          rw [hT] at hr1 HT ⊢
          rw [hwd] at hr3 HT HSz
          have hT0 : 0 ≤ T ∧ T ≤ 81840000 := by omega
          clear hT hwd hr1 hr2 r1 r2 r3 r4 r5 hPy hPV hs
          obtain ⟨hT1, hT2⟩ := hT0
          obtain ⟨hr1, hr2⟩ := hr3
          go_wp2_with fail
          refine (HSz.out _ HKc.out).mono ?_
          rintro e w5 ⟨rfl, hk5⟩
          have HK5 := Lib.hid ((HKi.out.trans HKc.out).trans hk5)
          clear hk5
          go_wp2_with fail
          go_roundw
          case rel => exact ⟨y + 1, by omega, by go_num, by rw [HT.out, Int.add_assoc], HK5⟩
          case measure => simp [intOf]; omega
        · obtain rfl : y = k := by omega
          have hte : P.take y = P := List.take_of_length_le (by have := hs.1; omega)
          rw [hte]
          obtain ⟨hu1, hu2⟩ := HU.out
          obtain ⟨L, hL⟩ : ∃ L : Nat, 8 * (nb : Int) - usedM id P = L := ⟨(8 * (nb : Int) - usedM id P).toNat, by omega⟩
          have hLt : L < 8 := by omega
          have hbm : blankM b (usedM id P) = (decide (L = 0) || decide (b.getD (b.length - 1) 0 % 2 ^ L = 0)) := by
            unfold blankM
            rw [HBy.out.2.1, hL, Int.toNat_natCast]
            congr 1
            rw [decide_eq_decide]
            omega
          have hu0 : 18 ≤ usedM id P := by have h1 := HUd.out; have h2 := psum_range P; omega
          have HBM := Lib.hid hbm
          rw [← HUd.out]
          obtain ⟨u, hu⟩ : ∃ u, usedM id P = u := ⟨_, rfl⟩
          rw [hu] at hu0 hL hu1 hu2 ⊢
          have g1 : IntKind.i64.wrap (8 * (nb : Int)) = 8 * (nb : Int) := IntWalk.i64_in _ ⟨by omega, by omega⟩
          have g2 : IntKind.i64.wrap (8 * (nb : Int) - u) = (L : Int) := by rw [hL]; exact IntWalk.i64_in _ ⟨by omega, by omega⟩
          have hrd := HBy.out.1.keep HKi.out (fun _ h => h.elim)
          have hyi : ¬ (y : Int) < (y : Int) := by omega
          obtain ⟨m, hm⟩ : ∃ m, nb = m + 1 := ⟨nb - 1, by omega⟩
          obtain ⟨ad, x, hA, _, hx, hcx⟩ := hrd.at1 (k := m) (by omega)
          subst hA
          have g3 : IntKind.i64.wrap ((nb : Int) - 1) = (m : Int) := by rw [hm, IntWalk.i64_in _ ⟨by omega, by omega⟩]; omega
          clear hbm hu hs hrd hte
          by_cases hL0 : L = 0
          · subst hL0
            have gz : 8 * (nb : Int) - u = 0 := by omega
            clear g2 hm
            go_wp2_with fail
            go_quiet (fail)
            go_wp2_with fail
            go_ret
            exact ⟨by rw [HBM.out]; simp, HKi.out.drewN _⟩
          · have h8x : x < 256 := HBy.out.2.2 _ (List.mem_of_getElem? hx)
            have hgx : b.getD (b.length - 1) 0 = x := by rw [HBy.out.2.1, hm, Nat.add_sub_cancel, List.getD_eq_getElem?_getD, hx]; rfl
            rw [hgx] at HBM
            obtain ⟨p, hp⟩ : ∃ p : Int, ((2 ^ L : Nat) : Int) = p := ⟨_, rfl⟩
            have hp1 := pow_pos' L
            have hp2 : (2 ^ L : Nat) ≤ 2 ^ 8 := Nat.pow_le_pow_right (by omega) (by omega)
            have hp3 : 1 ≤ p ∧ p ≤ 256 := by omega
            obtain ⟨hp4, hp5⟩ := hp3
            have hw1 : Hid (wrap64 (p - 1) = p - 1) := Lib.hid (byte_wrap hp4 hp5)
            have hsh : wrap64 ((2 : Int) ^ L) = p := by rw [show (2 : Int) ^ L = ((2 ^ L : Nat) : Int) from (Int.natCast_pow 2 L).symm, hp, IntWalk.wrap64_in _ ⟨by omega, by omega⟩]
            have hmk := mask_byte L hLt x h8x
            rw [hp] at hmk
            have e0 : ((L : Int) == 0) = false := by simp; omega
            unfold u8v at hcx
            have hL1 : decide (L = 0) = false := by simpa using hL0
            rw [hL1, ← hmk] at HBM
            have hix : (nb : Int) - 1 = (m : Int) := by omega
            have hlm : (m : Int) < (nb : Int) := by omega
            clear hL hgx hp hp1 hp2 hx hmk hL1 g3 hm
            go_wp2_with fail
            go_quiet (fail)
            go_wp2_with fail
            go_ret
            exact ⟨by rw [HBM.out]; simp; rw [hw1.out], HKi.out.drewN _⟩

end Go.Proofs.YtiebjnibmomcjaaDoor
