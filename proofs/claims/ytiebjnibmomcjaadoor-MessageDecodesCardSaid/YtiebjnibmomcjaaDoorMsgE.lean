/- Chapter 6: Encode. -/
import Derived.Test.YtiebjnibmomcjaaDoorMsgC
import Derived.Test.YtiebjnibmomcjaaDoorMsgD
import Derived.Test.YtiebjnibmomcjaaDoorBdPackN
namespace Go.Proofs.YtiebjnibmomcjaaDoor
open Go.RowKit Go.Maps

/-- numbers of variables, with their widths, or what is wrong -/
def numsM : List Int → List Int → Except Int (List (Int × Int))
  | v :: names, x :: all => if vMay v x = true then (match numsM names all with | .error e => .error e | .ok l => .ok ((x, vWidth v) :: l)) else .error 20
  | _, _ => .ok []
def okPre (l : List (Int × Int)) (r : Except Int (List (Int × Int))) : Except Int (List (Int × Int)) := match r with | .error e => .error e | .ok m => .ok (l ++ m)
theorem okPre_nil (r : Except Int (List (Int × Int))) : okPre [] r = r := by cases r <;> rfl
theorem okPre_pre (a b : List (Int × Int)) (r : Except Int (List (Int × Int))) : okPre a (okPre b r) = okPre (a ++ b) r := by cases r <;> simp [okPre]
theorem numsM_step {names all : List Int} {j : Nat} {v x : Int} (h : names[j]? = some v) (h' : all[j]? = some x) : numsM (names.drop j) (all.drop j) = if vMay v x = true then okPre [(x, vWidth v)] (numsM (names.drop (j + 1)) (all.drop (j + 1))) else .error 20 := by
  obtain ⟨h1, h2⟩ := List.getElem?_eq_some_iff.1 h
  obtain ⟨h3, h4⟩ := List.getElem?_eq_some_iff.1 h'
  rw [List.drop_eq_getElem_cons h1, List.drop_eq_getElem_cons h3, h2, h4]
  simp only [numsM]
  split
  · cases numsM (names.drop (j + 1)) (all.drop (j + 1)) <;> rfl
  · rfl
theorem numsM_end {names all : List Int} {n : Nat} (h : names.length = n) (_h' : all.length = n) : numsM (names.drop n) (all.drop n) = .ok [] := by
  rw [List.drop_eq_nil_of_le (by omega)]; rfl
/-- the items of packets -/
def packsM : List (Int × List Int) → Except Int (List (Int × Int))
  | [] => .ok []
  | p :: P => match ItemsM p.1 p.2 with | .error e => .error e | .ok l => match packsM P with | .error e => .error e | .ok m => .ok (l ++ m)
theorem packsM_step {P : List (Int × List Int)} {j : Nat} {p : Int × List Int} (h : P[j]? = some p) : packsM (P.drop j) = match ItemsM p.1 p.2 with | .error e => .error e | .ok l => okPre l (packsM (P.drop (j + 1))) := by
  obtain ⟨h1, h2⟩ := List.getElem?_eq_some_iff.1 h
  rw [List.drop_eq_getElem_cons h1, h2]
  simp only [packsM]
  cases ItemsM p.1 p.2 with
  | error e => rfl
  | ok l => cases packsM (P.drop (j + 1)) <;> rfl
/-- a message's bytes, or what is wrong -/
def EncodeM (id t ack of_ : Int) (V : List Int) (P : List (Int × List Int)) : Except Int (List Nat) :=
  match formM id with
  | none => .error 4
  | some (own, must, may) =>
    if (valuesM id t ack of_ ++ V).length ≠ (headM id ++ own).length ∨ (upM id = true ∧ ack ≠ 0) then .error 20
    else match numsM (headM id ++ own) (valuesM id t ack of_ ++ V) with
      | .error e => .error e
      | .ok l1 => match packsM P with
        | .error e => .error e
        | .ok l2 =>
          if fitsM must may (P.map (·.1)) = false then .error 50
          else if 1023 < bytesN ((id, 8) :: (0, 10) :: (l1 ++ l2)) then .error 2
          else .ok (bytesOf (layP (((id, 8) :: (0, 10) :: (l1 ++ l2)).set 1 (bytesN ((id, 8) :: (0, 10) :: (l1 ++ l2)), 10))))

theorem Sl_pack {w : World} {B n c i : Nat} {A : Option Addr} {P : List (Int × List Int)} (h : repPk.Sl w B A n c P) (hi : i < n) :
    ∃ ad pid V A' n' c', A = some ad ∧ P[i]? = some (pid, V) ∧ w.cell? (ad.add (i * 2)) = some (.int .i64 pid) ∧ w.cell? ⟨(ad.add (i * 2)).block, (ad.add (i * 2)).off + 1, none⟩ = some (.slice A' n' c') ∧
      Rd w B 1 A' n' (V.map (.int .i64)) ∧ V.length = n' ∧ n' ≤ c' ∧ c' ≤ maxLen ∧ (∀ x ∈ V, i64 x) := by
  obtain ⟨ad, ⟨pid, V⟩, cs, hA, _, hP, hc, hcell⟩ := h.at_ hi
  obtain ⟨A', n', c', rfl, _, r1, r2, r4, r5, r3⟩ := hc
  have f0 := hcell 0 (by decide)
  have f1 := hcell 1 (by decide)
  have e2 : i * repPk.size = i * 2 := rfl
  rw [e2] at f0 f1
  rw [Nat.add_zero] at f0
  rw [fld _ _ (by omega)] at f1
  exact ⟨ad, pid, V, A', n', c', hA, hP, f0, f1, r1, r2, r4, r5, r3⟩

def chkOwn (id : Int) : Bool := match formM id with | some f => decide (f.1.length ≤ 5) && decide (f.2.2.length ≤ 7) && decide (0 ≤ id ∧ id < 256) && f.1.all (fun v => decide (0 ≤ v ∧ v < 96)) | none => true
theorem chkOwn_all : mids.all chkOwn = true := by decide +kernel
theorem form_chk {id must : Int} {own may : List Int} (h : formM id = some (own, must, may)) : own.length ≤ 5 ∧ may.length ≤ 7 ∧ (0 ≤ id ∧ id < 256) := by
  have := List.all_eq_true.1 chkOwn_all id (formM_id h)
  unfold chkOwn at this
  rw [h] at this
  simp only [Bool.and_eq_true, decide_eq_true_eq] at this
  exact ⟨this.1.1.1, this.1.1.2, this.1.2⟩
theorem form_own {id must : Int} {own may : List Int} (h : formM id = some (own, must, may)) : own.length ≤ 5 := (form_chk h).1
theorem valuesM_len (id t ack of_ : Int) : (valuesM id t ack of_).length ≤ 3 := by unfold valuesM; split <;> simp
theorem headM_len (id : Int) : (headM id).length ≤ 3 := by unfold headM; split <;> simp
theorem may_mayB {v n : Int} (h : vMay v n = true) : mayB n (vWidth v) = true := by
  have := vMay_range h
  rw [mayB_iff]
  exact ⟨this.1, this.2.1, this.2.2.1, this.2.2.2⟩
theorem numsM_may : ∀ {names all : List Int} {l : List (Int × Int)}, numsM names all = .ok l → ∀ y ∈ l, mayB y.1 y.2 = true
  | [], _, l, h => by cases all_ : (‹List Int› : List Int) <;> (simp [numsM] at h; subst h; simp)
  | _ :: _, [], l, h => by simp [numsM] at h; subst h; simp
  | v :: names, x :: all, l, h => by
    simp only [numsM] at h
    split at h
    · rename_i hv
      cases hn : numsM names all with
      | error e => rw [hn] at h; cases h
      | ok m =>
        rw [hn] at h
        injection h with h
        subst h
        intro y hy
        rcases List.mem_cons.1 hy with rfl | hy
        · exact may_mayB hv
        · exact numsM_may hn y hy
    · cases h
theorem ItemsM_may {id : Int} {V : List Int} {l : List (Int × Int)} (h : ItemsM id V = .ok l) : ∀ y ∈ l, mayB y.1 y.2 = true := by
  obtain ⟨T, tr, hT, _, hm, _, rfl, _, _⟩ := ItemsM_trace h
  intro y hy
  simp only [itemsOf, List.map_cons, List.mem_cons, List.mem_map] at hy
  rcases hy with rfl | ⟨x, hx, rfl⟩
  · exact may_mayB (pids_may _ (ptree_id hT))
  · exact may_mayB (hm x hx)
theorem packsM_may : ∀ {P : List (Int × List Int)} {l : List (Int × Int)}, packsM P = .ok l → ∀ y ∈ l, mayB y.1 y.2 = true
  | [], l, h => by injection h with h; subst h; simp
  | p :: P, l, h => by
    simp only [packsM] at h
    cases hI : ItemsM p.1 p.2 with
    | error e => rw [hI] at h; cases h
    | ok a =>
      rw [hI] at h
      cases hP : packsM P with
      | error e => rw [hP] at h; cases h
      | ok m =>
        rw [hP] at h
        injection h with h
        subst h
        intro y hy
        rcases List.mem_append.1 hy with hy | hy
        · exact ItemsM_may hI y hy
        · exact packsM_may hP y hy
theorem bitCells_one (l : List (Int × Int)) : ∀ u ∈ bitCells l, u.oneCell' = true := by
  intro u hu
  simp only [bitCells, List.mem_flatMap] at hu
  obtain ⟨x, _, hx⟩ := hu
  simp at hx
  rcases hx with rfl | rfl <;> rfl
/-- how many numbers and widths packets have, at most -/
def sumL (P : List (Int × List Int)) : Nat := (P.map fun p => p.2.length + 2).sum
theorem sumL_step {P : List (Int × List Int)} {j : Nat} {p : Int × List Int} (h : P[j]? = some p) : sumL (P.drop j) = p.2.length + 2 + sumL (P.drop (j + 1)) := by
  obtain ⟨h1, h2⟩ := List.getElem?_eq_some_iff.1 h
  rw [List.drop_eq_getElem_cons h1, h2]
  simp [sumL]
/-- a message that lies in memory, all it leads to below B -/
def MsgAt (w : World) (B : Nat) (A : Option Addr) (n c : Nat) (V : List Int) (A2 : Option Addr) (k d : Nat) (P : List (Int × List Int)) : Prop :=
  Rd w B 1 A n (V.map (.int .i64)) ∧ V.length = n ∧ n ≤ c ∧ (∀ x ∈ V, i64 x) ∧ repPk.Sl w B A2 k d P
theorem MsgAt.keep {w w' : World} {B : Nat} {A : Option Addr} {n c : Nat} {V : List Int} {A2 : Option Addr} {k d : Nat} {P : List (Int × List Int)} (h : MsgAt w B A n c V A2 k d P) {S : Nat → Prop} (hk : Keep S w w') (hS : ∀ q, S q → B ≤ q) : MsgAt w' B A n c V A2 k d P :=
  ⟨h.1.keep hk hS, h.2.1, h.2.2.1, h.2.2.2.1, h.2.2.2.2.keep hk hS⟩
/-- what Encode leaves -/
def EncRet (w : World) (r : Except Int (List Nat)) (e : Ending) (w' : World) : Prop :=
  ∃ (A : Option Addr) (n c : Nat) (x : Int), e = .returned (.tuple #[.slice A n c, .int .i64 x]) ∧ Keep Never w w' ∧
    ((∃ l, r = .ok l ∧ x = 0 ∧ n = l.length ∧ Own w' w.heap.size 5 1 A n c (l.map u8v)) ∨ (r = .error x ∧ x ≠ 0 ∧ A = none ∧ n = 0 ∧ c = 0))

set_option maxHeartbeats 8000000 in
set_option maxRecDepth 100000 in
theorem mencode_any (B : Nat) (id t ack of_ : Int) (A : Option Addr) (n c : Nat) (V : List Int) (A2 : Option Addr) (k d : Nat) (P : List (Int × List Int)) (w : World) (hm : MsgAt w B A n c V A2 k d P) (hid : i64 id) (ht : i64 t) (hack : i64 ack) (hof : i64 of_) (hn : n ≤ 10000) (hkk : k ≤ 100000) (hP : ∀ p ∈ P, p.2.length ≤ 8200) (hsl : sumL P ≤ 500000)
    (hW : Widths w) (hg : 0 < B) (hB : B ≤ w.heap.size) :
    Calls Tryd.prog 12 #[.agg (msgCells id t ack of_ A n c A2 k d)] w (EncRet w (EncodeM id t ack of_ V P)) := by
  have HM := Lib.hid hm
  have HP := Lib.hid hP
  have HW := Lib.hid hW
  have HG := Lib.hid (And.intro hg hB)
  have Hi := Lib.hid (And.intro hid (And.intro ht (And.intro hack hof)))
  have hb0 : Hid (Blk (w.alloc (.cells #[.int .i64 id, .int .i64 t, .int .i64 ack, .int .i64 of_, .slice A n c, .slice A2 k d] 25)) w.heap.size 25 #[.int .i64 id, .int .i64 t, .int .i64 ack, .int .i64 of_, .slice A n c, .slice A2 k d]) := Blk.new w 25 _
  have hk0 : Hid (Keep Never w (w.alloc (.cells #[.int .i64 id, .int .i64 t, .int .i64 ack, .int .i64 of_, .slice A n c, .slice A2 k d] 25))) := (Keep.refl Never w).alloc _
  have HO : Hid (∀ W, Calls Tryd.prog 22 #[.int .i64 id] W (OfRet id W)) := fun W => of_any id W
  clear hm hP hW hg hB hid ht hack hof
  unfold msgCells
  cases hF : formM id with
  | none =>
    have HE : Hid (EncodeM id t ack of_ V P = .error 4) := Lib.hid (by unfold EncodeM; rw [hF])
    unfold OfRet at HO
    rw [hF] at HO
    clear hF
    go_enter Tryd.func12, Tryd.ntmps12
    go_wp2_with fail
    refine (HO.out _).mono ?_
    rintro e w1 ⟨A1, n1, c1, A3, n3, c3, rfl, hk1, hrest⟩
    have HK1 := Lib.hid ((hk0.out.trans hk1).alloc (.cells #[.slice A1 n1 c1, .int .i64 0, .slice A3 n3 c3] 42))
    clear hrest hk1
    go_wp2_with fail
    go_ret2
    exact ⟨none, 0, 0, 4, rfl, HK1.out, .inr ⟨HE.out, by decide, rfl, rfl, rfl⟩⟩
  | some f =>
    obtain ⟨own, must, may⟩ := f
    have hEM : EncodeM id t ack of_ V P = if (valuesM id t ack of_ ++ V).length ≠ (headM id ++ own).length ∨ (upM id = true ∧ ack ≠ 0) then .error 20
      else match numsM (headM id ++ own) (valuesM id t ack of_ ++ V) with
      | .error e => .error e
      | .ok l1 => match packsM P with
        | .error e => .error e
        | .ok l2 =>
          if fitsM must may (P.map (·.1)) = false then .error 50
          else if 1023 < bytesN ((id, 8) :: (0, 10) :: (l1 ++ l2)) then .error 2
          else .ok (bytesOf (layP (((id, 8) :: (0, 10) :: (l1 ++ l2)).set 1 (bytesN ((id, 8) :: (0, 10) :: (l1 ++ l2)), 10)))) := by unfold EncodeM; rw [hF]
    have HEM := Lib.hid hEM
    have HOw : Hid (own.length ≤ 5) := Lib.hid (form_own hF)
    have HFc : Hid (may.length ≤ 7 ∧ 0 ≤ id ∧ id < 256) := Lib.hid (form_chk hF).2
    unfold OfRet at HO
    rw [hF] at HO
    simp only [Option.getD_some, Option.isSome_some] at HO
    clear hF hEM
    go_enter Tryd.func12, Tryd.ntmps12
    go_wp2_with fail
    refine (HO.out _).mono ?_
    rintro e w1 ⟨A1, n1, c1, A3, n3, c3, rfl, hk1, hn1, hr1, hc1, hn3, hr3, hc3⟩
    have HK1 := Lib.hid ((hk0.out.trans hk1).alloc (.cells #[.slice A1 n1 c1, .int .i64 must, .slice A3 n3 c3] 42))
    have HB1 := Lib.hid ((hb0.out.keep hk1 (fun h => h)).alloc (.cells #[.slice A1 n1 c1, .int .i64 must, .slice A3 n3 c3] 42))
    have HF1 := Lib.hid (Blk.new w1 42 #[.slice A1 n1 c1, .int .i64 must, .slice A3 n3 c3])
    have HR1 := Lib.hid (And.intro hn1 (And.intro hr1 (And.intro hc1 (And.intro hn3 (And.intro hr3 hc3)))))
    have HS1 : Hid (w.heap.size < w1.heap.size) := Lib.hid (by have := hk1.size; simp at this; omega)
    clear hk1 hn1 hr1 hc1 hn3 hr3 hc3
    go_wp2_with fail
    obtain ⟨W2, hW2⟩ : ∃ W2, w1.alloc (.cells #[.slice A1 n1 c1, .int .i64 must, .slice A3 n3 c3] 42) = W2 := ⟨_, rfl⟩
    rw [hW2] at HK1 HB1 HF1 ⊢
    obtain ⟨q, hq⟩ : ∃ q, w1.heap.size = q := ⟨_, rfl⟩
    rw [hq] at HF1 HS1 ⊢
    have HSq : Hid (q < W2.heap.size) := Lib.hid HF1.out.lt
    have HKq2 : Hid (Keep Never w1 W2) := by rw [← hW2]; exact Lib.hid ((Keep.refl Never w1).alloc _)
    clear hW2
    have m0 := HB1.out.cell 0
    have HWi : Hid (∀ W, Keep Never W2 W → ∀ v, Calls Tryd.prog 23 #[.int .i64 v] W fun e w' => e = .returned (.int .i64 (vWidth v)) ∧ W = w') := Lib.hid (fun W hk v => vwidth_any v W (HW.out.keep (HK1.out.trans hk) (fun h => h)))
    go_region_held3 (fun w' => w'.cell? ⟨w.heap.size, 0, none⟩ = some (.int .i64 id)) (go_keep)
      (first
        | (go_at_call 23; refine (HWi.out _ (Keep.refl Never W2).drew _).mono ?_; rintro e w5 ⟨rfl, rfl⟩))
    obtain ⟨W3, hW3⟩ : ∃ W3, (W2.alloc (.cells #[.int .i64 id, .int .i64 (vWidth 0), .int .i64 0, .int .i64 (vWidth 1)] 47)).drew = W3 := ⟨_, rfl⟩
    rw [hW3]
    obtain ⟨g3, hg3⟩ : ∃ g3, W2.heap.size = g3 := ⟨_, rfl⟩
    have Hg3q : Hid (q < g3) := Lib.hid (by rw [← hg3]; exact HSq.out)
    have hk23 : Keep Never W2 W3 := by rw [← hW3]; exact ((Keep.refl Never W2).alloc _).drew
    have HL3 : Hid (Own W3 w.heap.size 47 2 (some ⟨g3, 0, none⟩) 2 2 (bitCells [(id, 8), (0, 10)])) := by
      have hb := (Blk.new W2 47 #[.int .i64 id, .int .i64 (vWidth 0), .int .i64 0, .int .i64 (vWidth 1)]).drew
      rw [hW3, hg3] at hb
      exact Lib.hid (Own.of_blk2 (n := 2) (xs := bitCells [(id, 8), (0, 10)]) hb rfl (by unfold maxLen; omega) (by have := HK1.out.size; omega))
    have HK3 := Lib.hid (HK1.out.trans hk23)
    have HB3 := Lib.hid (HB1.out.keep hk23 (fun h => h))
    have HF3 := Lib.hid (HF1.out.keep hk23 (fun h => h))
    have HS3 := Lib.hid hk23.size
    have HKq3 := Lib.hid (HKq2.out.trans hk23)
    rw [hg3]
    clear hW3 hg3 hk23 m0
    go_wp2_with fail
    have m0 := HB3.out.cell 0
    have m1 := HB3.out.cell 1
    have m2 := HB3.out.cell 2
    have m3 := HB3.out.cell 3
    have m4 := HB3.out.cell 4
    have m5 := HB3.out.cell 5
    have hltw := HB3.out.lt
    have HV : Hid (∀ W, Calls Tryd.prog 25 #[.agg #[.int .i64 id, .int .i64 t, .int .i64 ack, .int .i64 of_, .slice A n c, .slice A2 k d]] W (NumsRet W (valuesM id t ack of_))) := Lib.hid (fun W => mvalues_any id t ack of_ A n c A2 k d W)
    have HCt : Hid (∀ g t A5 n5 c5 W, Blk W g t #[.slice A5 n5 c5, .slice A n c] → n5 = (valuesM id t ack of_).length → True) := fun _ _ _ _ _ _ _ _ => trivial
    clear HCt
    go_region_held3 (fun w' => w'.cell? ⟨w.heap.size, 0, none⟩ = some (.int .i64 id) ∧ w'.cell? ⟨w.heap.size, 1, none⟩ = some (.int .i64 t) ∧ w'.cell? ⟨w.heap.size, 2, none⟩ = some (.int .i64 ack) ∧ w'.cell? ⟨w.heap.size, 3, none⟩ = some (.int .i64 of_) ∧ w'.cell? ⟨w.heap.size, 4, none⟩ = some (.slice A n c) ∧ w'.cell? ⟨w.heap.size, 5, none⟩ = some (.slice A2 k d))
      (refine ⟨?_, ?_, ?_, ?_, ?_, ?_⟩ <;> first | go_keep | (rw [hk5.cell (by simp; omega) (fun h => h)]; go_keep) | (rw [hk6.cell (by have := hk5.size; simp at this ⊢; omega) (fun h => h)]; go_keep))
      (first
        | (go_at_call 25; refine (HV.out _).mono ?_; rintro e w5 ⟨A5, n5, c5, rfl, hn5, hnc5, hr5, hk5⟩; have Hn5 := Lib.hid hn5; have Hr5 := Lib.hid hr5; clear hn5 hr5 hnc5)
        | (go_at_call 24; refine (concat2_any w5.heap.size 22 A5 A n5 c5 n c w5.heap.size (valuesM id t ack of_) V _ (Blk.new _ _ _) Hn5.out.symm HM.out.2.1 (Hr5.out.alloc _) (((HM.out.keep (HK3.out.drew.trans hk5) (fun _ h => h.elim)).1.alloc _).more (by have := HG.out.2; have := HK3.out.size; have := hk5.size; simp at *; omega)) (by have := Hn5.out; have := valuesM_len id t ack of_; omega) (by omega) (by simp)).mono ?_; rintro e w6 ⟨A6, c6, rfl, ho6, hk6⟩))
    have hk36 : Keep Never W3 w6 := (((Keep.refl Never W3).drew.trans hk5).alloc _).trans hk6
    have HK6 := Lib.hid (HK3.out.trans hk36)
    have HKq := Lib.hid (HKq3.out.trans hk36)
    have HB6 := Lib.hid (HB3.out.keep hk36 (fun h => h))
    have HF6 := Lib.hid (HF3.out.keep hk36 (fun h => h))
    have HL6 := Lib.hid (HL3.out.keep hk36 (fun _ _ h => h))
    obtain ⟨all, hall⟩ : ∃ l, valuesM id t ack of_ ++ V = l := ⟨_, rfl⟩
    obtain ⟨na, hna⟩ : ∃ m, (valuesM id t ack of_).length + V.length = m := ⟨_, rfl⟩
    have hnaL : all.length = na := by rw [← hall, List.length_append, hna]
    have HAll : Hid (Own w6 w.heap.size 3 1 A6 na c6 (all.map (.int .i64)) ∧ all.length = na) := Lib.hid ⟨by rw [← hall, ← hna]; exact Own.less ho6 (by have := HK3.out.size; have := hk5.size; simp at *; omega), hnaL⟩
    have Hall := Lib.hid hall
    have Hna : Hid (na ≤ 10003) := Lib.hid (by have := valuesM_len id t ack of_; have := HM.out.2.1; omega)
    rw [hna]
    have HSq6 : Hid (q < w6.heap.size) := Lib.hid (by have := HSq.out; have := HS3.out; have := hk36.size; omega)
    clear hk36 hk5 hk6 ho6 hnaL hall hna m0 m1 m2 m3 m4 m5 hltw Hn5 Hr5
    go_wp2_with fail
    have m0 := HB6.out.cell 0
    have f0 := HF6.out.cell 0
    have hltw := HB6.out.lt
    have hltq := HF6.out.lt
    have HH : Hid (∀ W, Calls Tryd.prog 26 #[.int .i64 id] W (NumsRet W (headM id))) := Lib.hid (fun W => mhead_any id W)
    go_region_held3 (fun w' => w'.cell? ⟨w.heap.size, 0, none⟩ = some (.int .i64 id) ∧ w'.cell? ⟨q, 0, none⟩ = some (.slice A1 n1 c1))
      (refine ⟨?_, ?_⟩ <;> first | go_keep | (rw [hk7.cell (by simp; omega) (fun h => h)]; go_keep) | (rw [hk8.cell (by have := hk7.size; simp at this ⊢; omega) (fun h => h)]; go_keep))
      (first
        | (go_at_call 26; refine (HH.out _).mono ?_; rintro e w7 ⟨A7, n7, c7, rfl, hn7, hnc7, hr7, hk7⟩; have Hn7 := Lib.hid hn7; have Hr7 := Lib.hid hr7; clear hn7 hr7 hnc7)
        | (go_at_call 24; refine (concat2_any w7.heap.size 22 A7 A1 n7 c7 n1 c1 w7.heap.size (headM id) own _ (Blk.new _ _ _) Hn7.out.symm HR1.out.1.symm (Hr7.out.alloc _) (((HR1.out.2.1.keep (HKq.out.drew.trans hk7) (fun _ h => h.elim)).alloc _).more (by have := HKq.out.size; have := hk7.size; simp at *; omega)) (by have := Hn7.out; have := headM_len id; omega) (by have := HR1.out.1; have := HOw.out; omega) (by simp)).mono ?_; rintro e w8 ⟨A8, c8, rfl, ho8, hk8⟩))
    have hk68 : Keep Never w6 w8 := (((Keep.refl Never w6).drew.trans hk7).alloc _).trans hk8
    have HK8 := Lib.hid (HK6.out.trans hk68)
    have HB8 := Lib.hid (HB6.out.keep hk68 (fun h => h))
    have HF8 := Lib.hid (HF6.out.keep hk68 (fun h => h))
    have HL8 := Lib.hid (HL6.out.keep hk68 (fun _ _ h => h))
    have HAll8 : Hid (Own w8 w.heap.size 3 1 A6 na c6 (all.map (.int .i64))) := Lib.hid (HAll.out.1.keep hk68 (fun _ _ h => h))
    have HallL : Hid (all.length = na) := Lib.hid HAll.out.2
    obtain ⟨names, hnames⟩ : ∃ l, headM id ++ own = l := ⟨_, rfl⟩
    obtain ⟨nn, hnn⟩ : ∃ m, (headM id).length + n1 = m := ⟨_, rfl⟩
    have hnnL : names.length = nn := by rw [← hnames, List.length_append, ← hnn, HR1.out.1]
    have HNm : Hid (Own w8 w.heap.size 3 1 A8 nn c8 (names.map (.int .i64)) ∧ names.length = nn) := Lib.hid ⟨by
      have h := ho8
      have e : (headM id).length + own.length = nn := by rw [← hnn, HR1.out.1]
      rw [e, hnames] at h
      exact Own.less h (by have := HK6.out.size; have := hk7.size; simp at *; omega), hnnL⟩
    have hnn' : (headM id).length + own.length = nn := by rw [← hnn, HR1.out.1]
    have Hnames := Lib.hid hnames
    have Hnn : Hid (nn ≤ 10) := Lib.hid (by have := headM_len id; have := HOw.out; omega)
    have hEM2 : EncodeM id t ack of_ V P = if na ≠ nn ∨ (upM id = true ∧ ack ≠ 0) then .error 20
      else match numsM names all with
      | .error e => .error e
      | .ok l1 => match packsM P with
        | .error e => .error e
        | .ok l2 =>
          if fitsM must may (P.map (·.1)) = false then .error 50
          else if 1023 < bytesN ((id, 8) :: (0, 10) :: (l1 ++ l2)) then .error 2
          else .ok (bytesOf (layP (((id, 8) :: (0, 10) :: (l1 ++ l2)).set 1 (bytesN ((id, 8) :: (0, 10) :: (l1 ++ l2)), 10)))) := by
      rw [HEM.out, Hall.out, Hnames.out, hnnL, HallL.out]
    have HEM2 := Lib.hid hEM2
    rw [hnn']
    have HKq8 := Lib.hid (HKq.out.trans hk68)
    clear hk68 hk7 hk8 ho8 hnnL hnn hnn' hnames m0 f0 hltw hltq Hn7 Hr7 hEM2 HEM
    by_cases hne : na = nn
    rotate_left
    · have hb0 : ((na : Int) == (nn : Int)) = false := by simp; omega
      have hb1 : ((na : Int) != (nn : Int)) = true := by simp; omega
      have HE : Hid (EncodeM id t ack of_ V P = .error 20) := Lib.hid (by rw [HEM2.out, if_pos (.inl hne)])
      go_wp2_with fail
      go_ret2
      exact ⟨none, 0, 0, 20, rfl, HK8.out, .inr ⟨HE.out, by decide, rfl, rfl, rfl⟩⟩
    subst hne
    have hb0 : ((na : Int) == (na : Int)) = true := by simp
    have hb1 : ((na : Int) != (na : Int)) = false := by simp
    have m0 := HB8.out.cell 0
    go_wp2_with fail
    refine (mup_any id _).mono ?_
    rintro e w9 ⟨rfl, hk9⟩
    have HK9 := Lib.hid (HK8.out.trans hk9)
    have HB9 := Lib.hid (HB8.out.keep hk9 (fun h => h))
    have HF9 := Lib.hid (HF8.out.keep hk9 (fun h => h))
    have HL9 := Lib.hid (HL8.out.keep hk9 (fun _ _ h => h))
    have HAll9 := Lib.hid (HAll8.out.keep hk9 (fun _ _ h => h))
    have HNm9 := Lib.hid (HNm.out.1.keep hk9 (fun _ _ h => h))
    have HNmL : Hid (names.length = na) := Lib.hid HNm.out.2
    have HKq9 := Lib.hid (HKq8.out.trans hk9)
    have m2 := HB9.out.cell 2
    clear hk9 m0
    by_cases hbad : upM id = true ∧ ack ≠ 0
    · obtain ⟨hu, ha⟩ := hbad
      have HE : Hid (EncodeM id t ack of_ V P = .error 20) := Lib.hid (by rw [HEM2.out, if_pos (.inr ⟨hu, ha⟩)])
      rw [hu]
      have ha1 : (ack != 0) = true := by simpa using ha
      clear hu ha
      go_wp2_with fail
      go_ret2
      exact ⟨none, 0, 0, 20, rfl, HK9.out, .inr ⟨HE.out, by decide, rfl, rfl, rfl⟩⟩
    have HEM3 := Lib.hid (HEM2.out.trans (if_neg (by rintro (h | h); exact h rfl; exact hbad h)))
    have hcase : (upM id = true ∧ (ack != 0) = false) ∨ upM id = false := by
      cases hu : upM id
      · exact .inr rfl
      · left; exact ⟨rfl, by simp; apply Classical.byContradiction; intro h; exact hbad ⟨hu, h⟩⟩
    clear hbad HEM2
    have HNum : Hid (∀ x ∈ all, x ≤ 9223372036854775807) := Lib.hid (by
      intro x hx
      rw [← Hall.out] at hx
      rcases List.mem_append.1 hx with hx | hx
      · obtain ⟨⟨_, _⟩, ⟨_, _⟩, ⟨_, _⟩, ⟨_, _⟩⟩ := Hi.out
        unfold valuesM at hx
        split at hx <;> simp at hx <;> omega
      · exact (HM.out.2.2.2.1 x hx).2)
    have hbase : w.heap.size ≤ w9.heap.size := HK9.out.size
    rcases hcase with ⟨hu, ha⟩ | hu
    all_goals
      rw [hu]
      clear hu
      go_wp2_with fail
      go_loopw [6, 60] (fun v i wr => ∃ (j c9 : Nat) (A9 : Option Addr), j ≤ na ∧ i = .int .i64 j ∧ v = .slice A9 (2 + j) c9 ∧ Hid (∃ l1, l1.length = j ∧ Own wr w.heap.size 47 2 A9 (2 + j) c9 (bitCells ((id, 8) :: (0, 10) :: l1)) ∧ Keep (InRow (some ⟨g3, 0, none⟩)) w9 wr ∧ (∀ b, InRow A9 b → InRow (some ⟨g3, 0, none⟩) b ∨ w9.heap.size ≤ b) ∧ numsM names all = okPre l1 (numsM (names.drop j) (all.drop j))))
        (fun _ i _ => na - (intOf i).toNat)
      case atStart => exact ⟨0, 2, _, by omega, rfl, rfl, Lib.hid ⟨[], rfl, HL9.out, Keep.refl _ _, fun b h => .inl h, by rw [okPre_nil]; rfl⟩⟩
      case round =>
        obtain ⟨j, c9, A9, hj, rfl, rfl, HH9⟩ := hrel
        obtain ⟨l1, hl1, ho9, hk9, hin9, hnm9⟩ := HH9.out
        have hAllr := HAll9.out.keep hk9 (fun b h h' => HAll9.out.ne_own HL9.out (by decide) b h h')
        have hNmr := HNm9.out.keep hk9 (fun b h h' => HNm9.out.ne_own HL9.out (by decide) b h h')
        have HWd : Hid (Widths wr) := Lib.hid ((HW.out.keep HK9.out (fun h => h)).keep hk9 (by rintro ⟨ad, h1, h2⟩; injection h1 with h1; subst h1; simp only at h2; have := HG.out; have h3 := HL9.out.row ⟨_, rfl, rfl⟩; simp only at h3; omega))
        by_cases hjn : j < na
        · have hji : (j : Int) < (na : Int) := by omega
          obtain ⟨ad1, v, hA8, _, hv, hcv⟩ := hNmr.rd.at1 hjn
          obtain ⟨ad2, x, hA6, _, hx, hcx⟩ := hAllr.rd.at1 hjn
          subst hA8
          subst hA6
          rw [numsM_step hv hx] at hnm9
          have hx63 := HNum.out x (List.mem_of_getElem? hx)
          have HMay : Hid (∀ W, Keep Never wr W → Calls Tryd.prog 27 #[.int .i64 v, .int .i64 x] W fun e w' => e = .returned (.bool (vMay v x)) ∧ W = w') := Lib.hid (fun W hk => vmay_any v x hx63 W (HWd.out.keep hk (fun h => h)))
          have HWi9 : Hid (∀ W, Keep Never wr W → Calls Tryd.prog 23 #[.int .i64 v] W fun e w' => e = .returned (.int .i64 (vWidth v)) ∧ W = w') := Lib.hid (fun W hk => vwidth_any v W (HWd.out.keep hk (fun h => h)))
          have HO9 := Lib.hid ho9
          have Hk9 := Lib.hid hk9
          have Hin9 := Lib.hid hin9
          have Hl1 := Lib.hid hl1
          have hlr : w.heap.size ≤ wr.heap.size := Nat.le_trans hbase hk9.size
          have hna9 : na ≤ 10003 := Hna.out
          have hnr2 : ¬ InRow A9 (ad2.add j).block := by rw [block_add]; exact hAllr.ne_own ho9 (by decide) _ ⟨ad2, rfl, rfl⟩
          have hlt2 : (ad2.add j).block < wr.heap.size := cell_lt hcx
          by_cases hmay : vMay v x = true
          · rw [hmay] at HMay
            rw [if_pos hmay, okPre_pre] at hnm9
            have Hnm9 := Lib.hid hnm9
            obtain ⟨wd, hwd⟩ : ∃ z, vWidth v = z := ⟨_, rfl⟩
            rw [hwd] at Hnm9 HWi9
            clear hnm9 hv hx hAllr hNmr ho9 hk9 hin9 hl1 HH9 hmay hwd
            go_wp2_with fail
            refine (HMay.out _ (Keep.refl _ _)).mono ?_
            rintro e w5 ⟨rfl, rfl⟩
            go_wp2_with fail
            go_region_held3 (fun w' => w'.cell? (ad2.add j) = some (.int .i64 x)) (first | go_keep | (rw [hk5.cell (by simp; omega) hnr2]; go_keep))
              (first
                | (go_at_call 23; refine (HWi9.out _ (Keep.refl Never wr).drew).mono ?_; rintro e w5 ⟨rfl, rfl⟩)
                | (refine step_app _ rfl (.tmp 72) (.tmp 80) _ rfl elemBits w.heap.size rfl (HO9.out.alloc _) _ rfl (Rd.of_blk (n := 1) (cs := [.int .i64 x, .int .i64 wd]) (Blk.new _ _ _) rfl) (by simp [Value.oneCell']) (by omega) (by unfold maxLen; omega) (by simp; (try omega)) ?_; intro A5 c5 w5 hown5 hk5 hrow5))
            have HF : Hid (∃ l2, l2.length = j + 1 ∧ Own w5 w.heap.size 47 2 A5 (2 + (j + 1)) c5 (bitCells ((id, 8) :: (0, 10) :: l2)) ∧ Keep (InRow (some ⟨g3, 0, none⟩)) w9 w5 ∧ (∀ b, InRow A5 b → InRow (some ⟨g3, 0, none⟩) b ∨ w9.heap.size ≤ b) ∧ numsM names all = okPre l2 (numsM (names.drop (j + 1)) (all.drop (j + 1)))) := by
              refine Lib.hid ⟨l1 ++ [(x, wd)], by simp [Hl1.out], ?_, (Hk9.out.alloc _).drew.then_ hk5 (fun b hb h => ?_), fun b h => ?_, Hnm9.out⟩
              · have := (show Own w5 w.heap.size 47 2 A5 (2 + (j + 1)) c5 _ from hown5)
                simpa [bitCells] using this
              · rcases Hin9.out b h with h | h
                · exact h
                · omega
              · rcases hrow5 b h with h | h
                · exact Hin9.out b h
                · right; have := Hk9.out.size; simp at h; omega
            clear hown5 hk5 hrow5
            go_wp2_with fail
            go_roundw
            case rel => exact ⟨j + 1, c5, A5, by omega, by go_num, rfl, HF⟩
            case measure => simp [intOf]; try omega
          · have hmf : vMay v x = false := by simpa using hmay
            rw [hmf] at HMay
            rw [if_neg hmay] at hnm9
            have HE : Hid (EncodeM id t ack of_ V P = .error 20) := Lib.hid (by rw [HEM3.out, hnm9]; rfl)
            have HKf : Hid (Keep Never w wr) := Lib.hid (HK9.out.then_ hk9 (fun b hb h => by have := HL9.out.row h; omega))
            clear hnm9 hv hx hAllr hNmr ho9 hk9 hin9 hl1 HH9 hmay hmf
            go_wp2_with fail
            refine (HMay.out _ (Keep.refl _ _)).mono ?_
            rintro e w5 ⟨rfl, rfl⟩
            go_wp2_with fail
            go_ret2
            exact ⟨none, 0, 0, 20, rfl, HKf.out, .inr ⟨HE.out, by decide, rfl, rfl, rfl⟩⟩
        · obtain rfl : j = na := by omega
          rw [numsM_end HNmL.out HallL.out] at hnm9
          have hnm : numsM names all = .ok l1 := by rw [hnm9]; simp [okPre]
          have HEM4 : Hid (EncodeM id t ack of_ V P = match packsM P with
            | .error e => .error e
            | .ok l2 =>
              if fitsM must may (P.map (·.1)) = false then .error 50
              else if 1023 < bytesN ((id, 8) :: (0, 10) :: (l1 ++ l2)) then .error 2
              else .ok (bytesOf (layP (((id, 8) :: (0, 10) :: (l1 ++ l2)).set 1 (bytesN ((id, 8) :: (0, 10) :: (l1 ++ l2)), 10))))) := Lib.hid (by rw [HEM3.out, hnm])
          have Hnm := Lib.hid hnm
          have HO9 := Lib.hid ho9
          have Hk9 := Lib.hid hk9
          have Hin9 := Lib.hid hin9
          have Hl1 := Lib.hid hl1
          have hnw : ¬ InRow (some ⟨g3, 0, none⟩) w.heap.size := fun h => HL9.out.ne_blk HB9.out (by decide) _ h rfl
          have hnq : ¬ InRow (some ⟨g3, 0, none⟩) q := fun h => HL9.out.ne_blk HF9.out (by decide) _ h rfl
          have Hnw := Lib.hid hnw
          have Hnq := Lib.hid hnq
          have m5 := (HB9.out.keep hk9 hnw).cell 5
          have hji : ¬ (j : Int) < (j : Int) := by omega
          clear hAllr hNmr ho9 hk9 hin9 hl1 hnm9 hnm HH9 HEM3 hnw hnq
          obtain ⟨m9, hm9⟩ : ∃ m, 2 + j = m := ⟨_, rfl⟩
          rw [hm9] at HO9 ⊢
          have Hm9 : Hid (m9 = 2 + l1.length ∧ l1.length ≤ 10003) := Lib.hid ⟨by have := Hl1.out; omega, by have := Hl1.out; have := Hna.out; omega⟩
          have HWr : Hid (Keep Never w wr) := Lib.hid (HK9.out.then_ Hk9.out (fun b hb h => by have := HL9.out.row h; omega))
          clear hm9
          go_wp2_with fail
          obtain ⟨wo, rfl⟩ : ∃ wo : World, wo = wr := ⟨_, rfl⟩
          go_loopw [6, 86] (fun v i wi => ∃ (y c7 mm : Nat) (A7 : Option Addr), y ≤ k ∧ i = .int .i64 y ∧ v = .slice A7 mm c7 ∧ Hid (∃ l2, mm = 2 + l1.length + l2.length ∧ l2.length + sumL (P.drop y) ≤ sumL P ∧ Own wi w.heap.size 47 2 A7 mm c7 (bitCells ((id, 8) :: (0, 10) :: (l1 ++ l2))) ∧ Keep (InRow (some ⟨g3, 0, none⟩)) w9 wi ∧ (∀ b, InRow A7 b → InRow (some ⟨g3, 0, none⟩) b ∨ w9.heap.size ≤ b) ∧ packsM P = okPre l2 (packsM (P.drop y))))
            (fun _ i _ => k - (intOf i).toNat)
          case atStart => exact ⟨0, c9, m9, A9, by omega, rfl, rfl, Lib.hid ⟨[], by have := Hm9.out.1; simpa using this, by simp, by simpa using HO9.out, Hk9.out, Hin9.out, by rw [okPre_nil]; rfl⟩⟩
          case round =>
            obtain ⟨y, c7, mm, A7, hy, rfl, rfl, HJ⟩ := hrel
            obtain ⟨l2, hmm, hsl2, ho, hk, hin, hpm⟩ := HJ.out
            have hmsg := (HM.out.keep HK9.out (fun _ h => h.elim)).keep hk (fun b h => by have := (HL9.out.row h).1; have := HG.out.2; omega)
            have hlr : w.heap.size ≤ wr.heap.size := Nat.le_trans hbase hk.size
            by_cases hyk : y < k
            · have hyi : (y : Int) < (k : Int) := by omega
              obtain ⟨ad, pid, PV, A', n', c', hA2, hPy, d0, d1, r1, r2, r3, r4, r5⟩ := Sl_pack hmsg.2.2.2.2 hyk
              subst hA2
              rw [packsM_step hPy] at hpm
              simp only at hpm
              rw [sumL_step hPy] at hsl2
              simp only at hsl2
              have hPV := HP.out _ (List.mem_of_getElem? hPy)
              simp only at hPV
              have hWd : Widths wr := (HW.out.keep HK9.out (fun h => h)).keep hk (fun h => by have := (HL9.out.row h).1; have := HG.out; omega)
              have HIt : Hid (∀ W, Keep Never wr W → Calls Tryd.prog 28 #[.agg #[.int .i64 pid, .slice A' n' c']] W (ItRet W (ItemsM pid PV))) :=
                Lib.hid (fun W hkW => Items_any B pid PV A' n' c' W (r1.keep hkW (fun _ h => h.elim)) r2 r3 r4 r5 hPV (hWd.keep hkW (fun h => h)) HG.out.1 (by have := HG.out.2; have := hkW.size; omega))
              have HO := Lib.hid ho
              have Hk := Lib.hid hk
              have Hin := Lib.hid hin
              have Hsl2 := Lib.hid hsl2
              have Hmm := Lib.hid hmm
              have HKf : Hid (Keep Never w wr) := Lib.hid (HK9.out.then_ hk (fun b hb h => by have := HL9.out.row h; omega))
              have hkc : Keep Never wr (wr.alloc (.cells #[.int .i64 pid, .slice A' n' c'] 39)) := (Keep.refl Never wr).alloc _
              have Hkc := Lib.hid hkc
              cases hI : ItemsM pid PV with
              | error er =>
                rw [hI] at hpm HIt
                simp only at hpm
                have HE : Hid (EncodeM id t ack of_ V P = .error er) := Lib.hid (by rw [HEM4.out, hpm]; rfl)
                clear hpm hPy r1 r2 r3 r4 r5 hI ho hk hin hsl2 hmm hmsg HJ hWd hkc hPV
                go_wp2_with fail
                refine (HIt.out _ Hkc.out).mono ?_
                rintro e w5 ⟨A8, n8, c8', x8, rfl, hk5, hpo⟩
                rcases hpo with ⟨_, h, _⟩ | ⟨h, hx, rfl, rfl, rfl⟩
                · cases h
                injection h with h
                subst h
                have e0 : (er == 0) = false := by simpa using hx
                have e1 : (er != 0) = true := by simpa using hx
                have HK5 := Lib.hid ((HKf.out.trans Hkc.out).trans hk5)
                have Hx := Lib.hid hx
                clear hx hk5
                go_wp2_with fail
                go_ret2
                exact ⟨none, 0, 0, er, rfl, HK5.out, .inr ⟨HE.out, Hx.out, rfl, rfl, rfl⟩⟩
              | ok l =>
                rw [hI] at hpm HIt
                simp only at hpm
                rw [okPre_pre] at hpm
                have hlen : l.length = PV.length + 2 := by
                  obtain ⟨_, _, _, _, _, h, _⟩ := ItemsM_at hI
                  exact h
                have Hpm := Lib.hid hpm
                have Hlen := Lib.hid hlen
                clear hpm hPy r1 r2 r3 r4 r5 hI ho hk hin hsl2 hmm hmsg HJ hWd hkc hPV hlen
                go_wp2_with fail
                refine (HIt.out _ Hkc.out).mono ?_
                rintro e w5 ⟨A8, n8, c8', x8, rfl, hk5, hpo⟩
                rcases hpo with ⟨l', h, rfl, hn8, ho8⟩ | ⟨h, _⟩
                rotate_left
                · cases h
                injection h with h
                subst h
                have hk5' : Keep Never wr w5 := Hkc.out.trans hk5
                have HO5 := Lib.hid (HO.out.keep hk5' (fun _ _ h => h))
                have HK5 := Lib.hid hk5'
                have HR8 := Lib.hid ho8.rd
                have Hn8 := Lib.hid hn8
                have hb8 : mm ≤ 600000 ∧ n8 ≤ 600000 := by
                  have h1 := Hmm.out
                  have h2 := Hsl2.out
                  have h3 := Hm9.out.2
                  have h4 := Hlen.out
                  have h5 := Hn8.out
                  omega
                obtain ⟨hb8a, hb8b⟩ := hb8
                have hbs5 : w.heap.size ≤ w5.heap.size := Nat.le_trans hlr hk5'.size
                clear hk5 hn8 ho8 hk5'
                go_wp2_with (at_builtin; refine wpList_app _ rfl (.tmp 98) (.tmp 99) _ rfl elemBits w.heap.size rfl HO5.out w5.heap.size rfl HR8.out (bitCells_one _) (by omega) (by unfold maxLen; omega) hbs5 ?_; intro A9' c9' w6 hown hk6 hrow)
                have HF : Hid (∃ l2, mm + n8 = 2 + l1.length + l2.length ∧ l2.length + sumL (P.drop (y + 1)) ≤ sumL P ∧ Own w6 w.heap.size 47 2 A9' (mm + n8) c9' (bitCells ((id, 8) :: (0, 10) :: (l1 ++ l2))) ∧ Keep (InRow (some ⟨g3, 0, none⟩)) w9 w6 ∧ (∀ b, InRow A9' b → InRow (some ⟨g3, 0, none⟩) b ∨ w9.heap.size ≤ b) ∧ packsM P = okPre l2 (packsM (P.drop (y + 1)))) := by
                  refine Lib.hid ⟨l2 ++ l, ?_, ?_, ?_, (Hk.out.trans (HK5.out.mono (fun _ _ h => h.elim))).then_ hk6 (fun b hb h => ?_), fun b h => ?_, Hpm.out⟩
                  · have h1 := Hmm.out; have h2 := Hn8.out; simp only [List.length_append]; omega
                  · have h1 := Hsl2.out; have h2 := Hlen.out; simp only [List.length_append]; omega
                  · simpa [bitCells] using hown
                  · rcases Hin.out b h with h | h
                    · exact h
                    · omega
                  · rcases hrow b h with h | h
                    · exact Hin.out b h
                    · right; have := Hk.out.size; have := HK5.out.size; omega
                clear hown hk6 hrow
                go_wp2_with fail
                go_roundw
                case rel => exact ⟨y + 1, c9', mm + n8, A9', by omega, by go_num, rfl, HF⟩
                case measure => simp [intOf]; try omega
            · obtain rfl : y = k := by omega
              have hPe : P.drop y = [] := List.drop_eq_nil_of_le (by have := HM.out.2.2.2.2.1; omega)
              rw [hPe] at hpm
              have hpk : packsM P = .ok l2 := by rw [hpm]; simp [okPre, packsM]
              have HEM5 : Hid (EncodeM id t ack of_ V P = if fitsM must may (P.map (·.1)) = false then .error 50
                  else if 1023 < bytesN ((id, 8) :: (0, 10) :: (l1 ++ l2)) then .error 2
                  else .ok (bytesOf (layP (((id, 8) :: (0, 10) :: (l1 ++ l2)).set 1 (bytesN ((id, 8) :: (0, 10) :: (l1 ++ l2)), 10))))) := Lib.hid (by rw [HEM4.out, hpk])
              have hfm := HF9.out.keep hk Hnq.out
              have p0 := hfm.cell 0
              have p1 := hfm.cell 1
              have p2 := hfm.cell 2
              have m5 := (HB9.out.keep hk Hnw.out).cell 5
              have HFt : Hid (∀ W, Keep Never wr W → Calls Tryd.prog 29 #[.agg #[.slice A1 n1 c1, .int .i64 must, .slice A3 n3 c3], .slice A2 y d] W fun e w' => e = .returned (.bool (fitsM must may (P.map (·.1)))) ∧ Keep Never W w') := by
                refine Lib.hid (fun W hkW => fits_any w1.heap.size A1 n1 c1 must A3 n3 c3 may A2 y d (P.map (·.1)) W ?_ HR1.out.2.2.2.1.symm (by have := HR1.out.2.2.2.1; have := HFc.out.1; omega) ?_ hkk hmsg.2.2.2.2.2.1 ?_)
                · refine ((HR1.out.2.2.2.2.1.keep HKq9.out (fun _ h => h.elim)).keep hk (fun b h => ?_)).keep hkW (fun _ h => h.elim)
                  obtain ⟨ad, h1, h2⟩ := h
                  injection h1 with h1
                  subst h1
                  simp only at h2
                  have := Hg3q.out
                  omega
                · exact IdsAt.of_sl ((hmsg.2.2.2.2.keep hkW (fun _ h => h.elim)).more (by have := HG.out.2; have := HS1.out; omega))
                · have := HKq9.out.size; have := hk.size; have := hkW.size; omega
              have HKf : Hid (Keep Never w wr) := Lib.hid (HK9.out.then_ hk (fun b hb h => by have := HL9.out.row h; omega))
              have HO := Lib.hid ho
              have Hin := Lib.hid hin
              have Hmm := Lib.hid hmm
              have Hsz : Hid (mm ≤ 600000) := Lib.hid (by have h1 := hmm; have h2 := hsl2; have h3 := Hm9.out.2; omega)
              have Hk := Lib.hid hk
              have Hpk := Lib.hid hpk
              have hyi : ¬ (y : Int) < (y : Int) := by omega
              clear hpm hpk hfm ho hin hmm hsl2 hk hmsg HJ hPe
              go_wp2_with fail
              refine (HFt.out _ (Keep.refl _ _)).mono ?_
              rintro e w6 ⟨rfl, hk6⟩
              have HK6' := Lib.hid (HKf.out.trans hk6)
              have HO6 := Lib.hid (HO.out.keep hk6 (fun _ _ h => h))
              have Hk6 := Lib.hid hk6
              clear hk6 p0 p1 p2 m5
              cases hfit : fitsM must may (P.map (·.1)) with
              | false =>
                have HE : Hid (EncodeM id t ack of_ V P = .error 50) := Lib.hid (by rw [HEM5.out, if_pos hfit])
                clear hfit
                go_wp2_with fail
                go_ret2
                exact ⟨none, 0, 0, 50, rfl, HK6'.out, .inr ⟨HE.out, by decide, rfl, rfl, rfl⟩⟩
              | true =>
                have HE : Hid (EncodeM id t ack of_ V P = if 1023 < bytesN ((id, 8) :: (0, 10) :: (l1 ++ l2)) then .error 2
                  else .ok (bytesOf (layP (((id, 8) :: (0, 10) :: (l1 ++ l2)).set 1 (bytesN ((id, 8) :: (0, 10) :: (l1 ++ l2)), 10))))) := Lib.hid (by rw [HEM5.out, if_neg (by rw [hfit]; simp)])
                have hmay2 : ∀ z ∈ l1 ++ l2, mayB z.1 z.2 = true := by
                  intro z hz
                  rcases List.mem_append.1 hz with hz | hz
                  · exact numsM_may Hnm.out z hz
                  · exact packsM_may Hpk.out z hz
                have hid8 : mayB id 8 = true := by rw [mayB_iff]; have := HFc.out.2; simp; omega
                have HLd : Hid (Calls Tryd.prog 30 #[.slice A7 mm c7] w6 (LaidRet w6 A7 ((id, 8) :: (0, 10) :: (l1 ++ l2)))) := by
                  refine Lib.hid (mlaid_any w.heap.size A7 mm c7 _ 0 w6 HO6.out (by have := Hmm.out; simp; omega) rfl ?_ ?_ (by have := Hsz.out; omega))
                  · intro z hz
                    rcases List.mem_cons.1 hz with rfl | hz
                    · simp
                    rcases List.mem_cons.1 hz with rfl | hz
                    · simp
                    · have := (mayB_iff.1 (hmay2 z hz)); omega
                  · intro z hz
                    simp only [List.set_cons_succ, List.set_cons_zero] at hz
                    rcases List.mem_cons.1 hz with rfl | hz
                    · exact hid8
                    rcases List.mem_cons.1 hz with rfl | hz
                    · decide
                    · exact hmay2 z hz
                have HrowA : Hid (∀ b, InRow A7 b → w.heap.size ≤ b) := Lib.hid (fun b h => (HO6.out.row h).1)
                have Hsz6 := Lib.hid HK6'.out.size
                clear hmay2 hid8 hfit
                go_wp2_with fail
                refine HLd.out.mono ?_
                rintro e w7 ⟨hk7, hpo⟩
                have HK7 : Hid (Keep Never w w7) := Lib.hid (HK6'.out.then_ hk7 (fun b hb h => by have := HrowA.out b h; omega))
                clear hk7
                rcases hpo with ⟨hbig, rfl⟩ | ⟨hbig, A8, c8', rfl, ho8⟩
                · have HE2 : Hid (EncodeM id t ack of_ V P = .error 2) := Lib.hid (by rw [HE.out, if_pos hbig])
                  clear hbig
                  go_wp2_with fail
                  go_ret2
                  exact ⟨none, 0, 0, 2, rfl, HK7.out, .inr ⟨HE2.out, by decide, rfl, rfl, rfl⟩⟩
                · have HE2 := Lib.hid (HE.out.trans (if_neg (by omega)))
                  have HO8 := Lib.hid (Own.less ho8 Hsz6.out)
                  clear hbig ho8
                  generalize bytesOf (layP (((id, 8) :: (0, 10) :: (l1 ++ l2)).set 1 (bytesN ((id, 8) :: (0, 10) :: (l1 ++ l2)), 10))) = bs at *
                  go_wp2_with fail
                  go_ret2
                  exact ⟨_, _, _, 0, rfl, HK7.out, .inl ⟨bs, HE2.out, rfl, rfl, HO8.out⟩⟩

end Go.Proofs.YtiebjnibmomcjaaDoor
