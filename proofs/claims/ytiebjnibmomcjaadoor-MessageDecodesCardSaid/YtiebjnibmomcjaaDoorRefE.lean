/- Reference of layer 5: Lists, Items, Size. -/
import Derived.Test.YtiebjnibmomcjaaDoorRefD
import Derived.Test.YtiebjnibmomcjaaDoorPackM
import Derived.Test.YtiebjnibmomcjaaDoorPackJ
import Derived.Test.YtiebjnibmomcjaaDoorBdPackN
namespace Go.Proofs.YtiebjnibmomcjaaDoor
open Go.RowKit

set_option maxHeartbeats 1000000 in
theorem total_big (l : List (Int × Int)) (hw : ∀ y ∈ l, 0 ≤ y.2 ∧ y.2 ≤ 32) (A : Option Addr) (n c B : Nat) (w : World) (hn : l.length = n) (h5 : n ≤ 1000000) (hr : Rd w B 2 A n (bitCells l)) :
    Calls Tryd.prog 39 #[.slice A n c] w fun e w' => e = .returned (.int .i64 (sumW l)) ∧ w = w' := by
  have Hw := Lib.hid hw
  have Hn := Lib.hid hn
  have Hr := Lib.hid hr
  clear hw hn hr
  go_enter Tryd.func39, Tryd.ntmps39
  go_wp2_with fail
  go_loop [3, 4] (fun s i => ∃ k : Nat, k ≤ n ∧ i = .int .i64 k ∧ s = .int .i64 (sumW (l.take k))) (fun _ i => n - (intOf i).toNat)
  case atStart => exact ⟨0, by omega, rfl, rfl⟩
  case round =>
    obtain ⟨k, hk, rfl, rfl⟩ := hrel
    have hs1 := sumW_bound Hw.out k
    have hs2 : sumW (l.take k) ≤ 32000000 := by have := Hn.out; omega
    by_cases h0 : k < n
    · have hx : l[k]? = some (l[k]'(by have := Hn.out; omega)) := List.getElem?_eq_getElem _
      have hy2 := Hw.out _ (List.mem_of_getElem? hx)
      generalize l[k]'(by have := Hn.out; omega) = y at hx hy2
      obtain ⟨y1, y2⟩ := y
      simp only at hy2
      obtain ⟨hat1, hat2⟩ := bitCells_at _ hx
      obtain ⟨ad, hA, _, hcc⟩ := Hr.out.2 (by omega)
      subst hA
      have d1 := hcc _ _ hat2
      rw [fld _ _ (by omega)] at d1
      have HS : Hid (sumW (l.take (k + 1)) = sumW (l.take k) + y2) := sumW_take hx
      obtain ⟨S, hS⟩ : ∃ S, sumW (l.take k) = S := ⟨_, rfl⟩
      rw [hS] at hs1 hs2
      rw [hS]
      have HS0 := Lib.hid hS
      clear hx hat1 hat2 hcc hS
      go_wp2_with fail
      go_round
      case rel => exact ⟨k + 1, by omega, by go_num, by rw [HS.out, HS0.out]⟩
      case measure => simp [intOf]; try omega
    · obtain rfl : k = n := by omega
      have htk : Hid (sumW (l.take k) = sumW l) := by show _ = _; rw [List.take_of_length_le (by have := Hn.out; omega)]
      go_wp2_with fail
      go_ret
      exact ⟨by rw [← htk.out]; rfl, rfl⟩

def chkLen (id : Int) : Bool := match ptree id with | some T => decide ((toks T).length ≤ 1000) && decide ((toks T).length ≠ 0) | none => true
theorem chkLen_all : pids.all chkLen = true := by decide +kernel
theorem toks_len {id : Int} {T : Parts} (h : ptree id = some T) : (toks T).length ≤ 1000 ∧ (toks T).length ≠ 0 := by
  have := List.all_eq_true.1 chkLen_all id (ptree_id h)
  unfold chkLen at this
  rw [h] at this
  simpa using this
/-- 'run' over the words that Words has made -/
theorem run_at {id : Int} {T : Parts} (hT : ptree id = some T) (hwf : wfT T = true) (hsf : safe7 T = true) (h7 : n7 T = 1) {b0 n c : Nat} {A : Option Addr} {w : World} (ho : Own w b0 9 1 A n c ((toks T).map .string)) (hn : n = (toks T).length)
    {B p RG K : Nat} {st : RW} {Q : Nat → Prop} (hp : p < b0) (hQ : ∀ k, Q k → k < b0) (hinv : InvW B p RG K st Q w) (hK : K + 2 ≤ 1000000) :
    Calls Tryd.prog 65 #[.pointer (some ⟨p, 0, none⟩), .slice A n c] w (RunPost B p RG (K + 1) (runT T 0 st) Q w) := by
  obtain ⟨hl1, hl2⟩ := toks_len hT
  rcases ho.form with ⟨_, h0, _⟩ | ⟨g, cur, hA, hg, hb, hnc, _⟩
  · omega
  · subst hA
    have hr := ho.rd
    have := run_any B p RG g (by omega) T.sz T (Nat.le_refl _) hwf hsf (some ⟨g, 0, none⟩) n c K st Q w ⟨hr.1, fun h => by
        obtain ⟨ad, e, _, hc⟩ := hr.2 h
        injection e with e
        subst e
        exact ⟨_, rfl, Nat.lt_succ_self _, hc⟩⟩ (by rintro q ⟨ad, h1, h2⟩; injection h1 with h1; subst h1; exact h2.symm) hnc (by omega) (fun h => by have := hQ g h; omega) hb.lt hinv (by rw [h7]; omega)
    rw [h7] at this
    exact this
theorem InvW.rows {B p RG K : Nat} {st : RW} {Q : Nat → Prop} {w : World} (h : InvW B p RG K st Q w) : (∀ k, Q k → RG ≤ k ∧ k < w.heap.size) ∧ p < w.heap.size := by
  obtain ⟨AV, cV, AB, cB, AO, cO, AG, cG, h1, h2, h3, h4, h5, h6, h7, h8, h9, g1, g2, g3, g4, g5, g6, g7, g8⟩ := h
  refine ⟨fun k hk => ?_, h1.lt⟩
  rcases (h8 k).1 hk with h | h
  · exact h6.row h
  · exact h7.row h

set_option maxHeartbeats 4000000 in
set_option maxRecDepth 100000 in
theorem ritems_any (B : Nat) (id : Int) (V : List Int) (A : Option Addr) (n c : Nat) (w : World) (hV : Rd w B 1 A n (V.map (.int .i64))) (hn : V.length = n) (hc : n ≤ c) (hb : ∀ x ∈ V, i64 x) (h3 : n ≤ 8200) (hB : B ≤ w.heap.size) :
    Calls Tryd.prog 37 #[.agg (packCells id A n c)] w (ItRet w (ItemsM id V)) := by
  have HV := Lib.hid hV
  have Hn := Lib.hid hn
  have Hb := Lib.hid hb
  have hb0 : Hid (Blk (w.alloc (.cells #[.int .i64 id, .slice A n c] 39)) w.heap.size 39 #[.int .i64 id, .slice A n c]) := Blk.new w 39 _
  have hk0 : Hid (Keep Never w (w.alloc (.cells #[.int .i64 id, .slice A n c] 39))) := (Keep.refl Never w).alloc _
  clear hV hn hb
  unfold packCells
  cases hT : ptree id with
  | none =>
    have hI : Hid (ItemsM id V = .error 50) := by show _ = _; simp [ItemsM, itemsM, hT]
    go_enter Tryd.func37, Tryd.ntmps37
    go_wp2_with fail
    refine (rknown_any id _).mono ?_
    rintro e w1 ⟨rfl, rfl⟩
    rw [hT]
    clear hT
    go_wp2_with fail
    go_ret2
    exact ⟨none, 0, 0, 50, rfl, hk0.out, .inr ⟨hI.out, by decide, rfl, rfl, rfl⟩⟩
  | some T =>
    go_enter Tryd.func37, Tryd.ntmps37
    go_wp2_with fail
    refine (rknown_any id _).mono ?_
    rintro e w1 ⟨rfl, rfl⟩
    rw [hT]
    have HT := Lib.hid hT
    clear hT
    go_wp2_with fail
    obtain ⟨W0, hW0⟩ : ∃ W0, w.alloc (.cells #[.int .i64 id, .slice A n c] 39) = W0 := ⟨_, rfl⟩
    rw [hW0] at hb0 hk0 ⊢
    have hs0 : W0.heap.size = w.heap.size + 1 := by rw [← hW0]; simp
    have HS0 : Hid (W0.heap.size = w.heap.size + 1) := hs0
    clear hW0
    have p0 := hb0.out.cell 0
    have p1 := hb0.out.cell 1
    have hW5 : Hid (∀ W, Calls Tryd.prog 36 #[.int .i64 5] W fun e w' => e = .returned (.int .i64 8) ∧ Keep Never W w') := fun W => rwidth_any 5 W
    go_region_held3 (fun w' => w'.cell? ⟨w.heap.size, 0, none⟩ = some (.int .i64 id) ∧ w'.cell? ⟨w.heap.size, 1, none⟩ = some (.slice A n c))
      (refine ⟨?_, ?_⟩ <;> first | go_keep | (rw [hk5.cell (by simp; omega) (fun h => h)]; go_keep))
      (first
        | (go_at_call 36; refine (hW5.out _).mono ?_; rintro e w5 ⟨rfl, hk5⟩))
    obtain ⟨W2, hW2⟩ : ∃ W2, (w5.alloc (.cells #[.int .i64 id, .int .i64 8] 47)).alloc (.cells #[.slice A n c, .bool false, .slice none 0 0, .slice (some ⟨w5.heap.size, 0, none⟩) 1 1, .slice none 0 0, .int .i64 0, .int .i64 0] 102) = W2 := ⟨_, rfl⟩
    rw [hW2]
    have hk05 : Keep Never w w5 := hk0.out.trans ((Keep.refl Never W0).drew.trans hk5)
    have hs5 : w.heap.size + 1 ≤ w5.heap.size := by have := hk5.size; simp at this; omega
    have hkW2 : Keep Never w W2 := by rw [← hW2]; exact (hk05.alloc _).alloc _
    have hsW2 : W2.heap.size = w5.heap.size + 2 := by rw [← hW2]; simp
    have hbP : Blk W2 (w5.heap.size + 1) 102 (walkCells A n c false none 0 0 (some ⟨w5.heap.size, 0, none⟩) 1 1 none 0 0 0 0) := by
      have := Blk.new (w5.alloc (.cells #[.int .i64 id, .int .i64 8] 47)) 102 (walkCells A n c false none 0 0 (some ⟨w5.heap.size, 0, none⟩) 1 1 none 0 0 0 0)
      rw [← hW2]; simpa [walkCells] using this
    have hbO : Blk W2 w5.heap.size 47 #[.int .i64 id, .int .i64 8] := by
      rw [← hW2]; exact (Blk.new w5 47 #[.int .i64 id, .int .i64 8]).alloc _
    have hb02 : Blk W2 w.heap.size 39 #[.int .i64 id, .slice A n c] := (hb0.out.keep ((Keep.refl Never W0).drew.trans hk5) (fun h => h)).keep (S := Never) (by rw [← hW2]; exact ((Keep.refl Never w5).alloc _).alloc _) (fun h => h)
    obtain ⟨p, hp⟩ : ∃ p, w5.heap.size + 1 = p := ⟨_, rfl⟩
    have hInv : InvW B p w.heap.size (n + 1) (rw0 id V) (fun q => InRow (some ⟨w5.heap.size, 0, none⟩) q ∨ InRow none q) W2 := by
      have hnp : ¬ InRow (some ⟨w5.heap.size, 0, none⟩) p := by rintro ⟨ad, h1, h2⟩; injection h1 with h1; subst h1; simp only at h2; omega
      have hnn : ∀ q, ¬ InRow none q := by rintro q ⟨_, h, _⟩; cases h
      refine ⟨A, c, none, 0, some ⟨w5.heap.size, 0, none⟩, 1, none, 0, ?_, ?_, ?_, Rd.nil _ _ _ _, Nat.le_refl _, ?_, Own.nil _ _ _ _, fun _ => Iff.rfl, Hb.out, by simp [rw0], ?_, ?_, by omega, by simp [rw0], ⟨by omega, hB⟩, ⟨hnp, hnn p⟩, hkW2.size⟩
      · rw [← hp]; have := Hn.out; simpa [rw0, this] using hbP
      · have := HV.out.keep hkW2 (fun _ h => h.elim); rw [← Hn.out] at this; exact this
      · show V.length ≤ c; have := Hn.out; omega
      · exact Own.of_blk2 (n := 1) (by simpa [rw0, bitCells] using hbO) rfl (by unfold maxLen; omega) (by omega)
      · show V.length ≤ 1000000; have := Hn.out; omega
      · show 1 + V.length ≤ n + 1; have := Hn.out; omega
    have HkW2 := Lib.hid hkW2
    have Hb02 := Lib.hid hb02
    obtain ⟨Q, HO5, HInv⟩ : ∃ Q : Nat → Prop, Hid (∀ q, Q q → w.heap.size ≤ q) ∧ Hid (InvW B p w.heap.size (n + 1) (rw0 id V) Q W2) := by
      refine ⟨_, ?_, Lib.hid hInv⟩
      rintro q (⟨ad, h1, h2⟩ | ⟨_, h, _⟩)
      · injection h1 with h1; subst h1; simp only at h2; omega
      · cases h
    have HpS : Hid (w.heap.size < p ∧ p < W2.heap.size) := ⟨by omega, by omega⟩
    rw [hp]
    have hl := HT.out
    clear hInv hkW2 hb02 hbO hbP hsW2 hk05 hs5 hW2 hk5 p0 p1 hW5 hs0 hl
    have p0 := Hb02.out.cell 0
    go_wp2_with fail
    refine (grammar_any id _).mono ?_
    rintro e w6 ⟨s, rfl, hg, rfl⟩
    obtain ⟨q1, q2, q3, q4, q5, _⟩ := gram_some hg HT.out
    have Hq := Lib.hid (And.intro q2 (And.intro q3 q4))
    have Hq1 := Lib.hid q1
    clear hg q1 q2 q3 q4 p0
    go_wp2_with fail
    refine (words_any s (by omega) _).mono ?_
    rintro e w7 ⟨A7, n7', c7, rfl, hn7, ho7, hk7⟩
    rw [Hq1.out] at hn7 ho7
    obtain ⟨rw1, rw2⟩ := HInv.out.rows
    have hrun := run_at HT.out Hq.out.1 Hq.out.2.1 Hq.out.2.2 ho7 hn7 rw2 (fun k hk => (rw1 k hk).2) (HInv.out.keep hk7) (by omega)
    have Hrun := Lib.hid hrun
    have HkW7 := Lib.hid (HkW2.out.trans hk7)
    clear hn7 ho7 hk7 rw1 rw2 hrun q5
    go_wp2_with fail
    refine Hrun.out.mono ?_
    rintro e w8 ⟨rfl, hk8, Q8, hi8, hq8⟩
    have hk08 : Keep Never w w8 := HkW7.out.then_ hk8 (fun i hi h => by
      rcases h with h | h
      · have := HpS.out; omega
      · have := HO5.out i h; omega)
    have hQ8 : ∀ q, Q8 q → w.heap.size ≤ q := fun q h => by
      rcases hq8 q h with h | h
      · exact HO5.out q h
      · have := HkW7.out.size; omega
    have hres := items_ref (V := V) HT.out
    generalize runT T 0 (rw0 id V) = X at hi8 hres
    obtain ⟨XV, XR, XB, XO, XG, XE, XP⟩ := X
    simp only at hres
    obtain ⟨AV, cV, AB, cB, AO, cO, AG, cG, h1, h2, hv3, h4, h5, h6, h7, h8, h9, g1, g2, g3, g4, g5, g6, g7, g8⟩ := hi8
    simp only at h1 h2 hv3 h4 h5 h6 h7 h8 h9 g1 g2 g3 g4 g5
    have H1 : Hid (Blk w8 p 102 #[.slice AV XV.length cV, .bool XR, .slice AB XB.length cB, .slice AO XO.length cO, .slice AG XG.length cG, .int .i64 XE, .int .i64 XP]) := h1
    have H6 := Lib.hid h6
    have H08 := Lib.hid hk08
    have HOl : Hid (XO.length ≤ 1000000) := Lib.hid (by omega)
    have HgO : Hid (∀ q, InRow AO q → q ≠ p) := Lib.hid (fun q h e => by subst e; exact g7.1 h)
    clear h1 h2 hv3 h4 h5 h6 h7 h8 h9 g1 g2 g3 g4 g5 g6 g7 g8 hk08 hk8 hq8 hQ8 Hrun
    rcases hres with ⟨s9, hr1, hr2, hr3, hr4, hr5⟩ | ⟨e9, hr1, hr2, hr3⟩
    · subst hr2
      have k5 := H1.out.cell 5
      have k5f := H1.out.frozen 5
      have k0 := H1.out.cell 0
      by_cases hrest : s9.rest = []
      rotate_left
      · have hI : Hid (ItemsM id V = .error 20) := by show _ = _; simp [ItemsM, itemsM, HT.out, hr1, hrest]
        have hlen : 0 < (XV.length : Int) := by
          rw [hr3]
          rcases s9 with ⟨_ | ⟨a, l⟩, out⟩
          · exact absurd rfl hrest
          · simp; try omega
        have HS : Hid (Keep Never w (w8.setCell ⟨p, 5, none⟩ (.int .i64 20))) := H08.out.set_ (p := ⟨p, 5, none⟩) (.inr (by have := HpS.out; simp; omega)) _
        have HB9 : Hid (Blk (w8.setCell ⟨p, 5, none⟩ (.int .i64 20)) p 102 #[.slice AV XV.length cV, .bool XR, .slice AB XB.length cB, .slice AO XO.length cO, .slice AG XG.length cG, .int .i64 20, .int .i64 XP]) := H1.out.set_ 5 _
        generalize hXl : XV.length = xl at *
        clear hr1 hr3 hr4 hr5 hrest hXl
        go_wp2_with fail
        obtain ⟨W9, hW9⟩ : ∃ W9, w8.setCell ⟨p, 5, none⟩ (.int .i64 20) = W9 := ⟨_, rfl⟩
        rw [hW9] at HS HB9 ⊢
        clear hW9 k5 k5f k0
        have m5 := HB9.out.cell 5
        go_quiet (fail)
        go_wp2_with fail
        go_ret2
        exact ⟨none, 0, 0, 20, rfl, HS.out.drewN _, .inr ⟨hI.out, by decide, rfl, rfl, rfl⟩⟩
      · have hXP := hr5 hrest
        obtain rfl : XV = [] := by rw [hr3, hrest]
        have hok : itemsM id V = .ok s9.out := by simp only [itemsM, HT.out, hr1, hrest, if_true]
        have hat := itemsM_at hok
        obtain ⟨S, hS⟩ : ∃ S, sumW (itemsOf s9.out) = S := ⟨_, rfl⟩
        have hIt : ItemsM id V = if 8184 < S then .error 2 else .ok ((itemsOf s9.out).set (atP id) (S, 13)) := by simp only [ItemsM, hok, hS]
        have hX0 : XO[atP id]? = some (0, 13) := by rw [hr4, itemsOf, List.getElem?_map, hat]; rfl
        have HT9 : Hid (Calls Tryd.prog 39 #[.slice AO XO.length cO] w8 fun e w' => e = .returned (.int .i64 S) ∧ w8 = w') := by
          have := total_big XO (by rw [hr4]; intro y hy; simp only [itemsOf, List.mem_map] at hy; obtain ⟨x, _, rfl⟩ := hy; exact (vWidth_range x.1)) AO XO.length cO w8.heap.size w8 rfl HOl.out H6.out.rd
          rw [← hS, ← hr4]
          exact this
        have HIt := Lib.hid hIt
        have HX0 := Lib.hid hX0
        have HX4 := Lib.hid hr4
        have k3 := H1.out.cell 3
        have k6 := H1.out.cell 6
        have hk0 : w8.cell? ⟨p, 0, none⟩ = some (.slice AV 0 cV) := k0
        clear hr1 hr3 hr4 hr5 hrest hok hat hS hIt hX0 k0
        go_wp2_with fail
        refine HT9.out.mono ?_
        rintro e w9 ⟨rfl, rfl⟩
        by_cases h8 : 8184 < S
        · have hI : Hid (ItemsM id V = .error 2) := by show _ = _; rw [HIt.out, if_pos h8]
          go_wp2_with fail
          go_ret2
          exact ⟨none, 0, 0, 2, rfl, H08.out, .inr ⟨hI.out, by decide, rfl, rfl, rfl⟩⟩
        · have hI : Hid (ItemsM id V = .ok (XO.set (atP id) (S, 13))) := by show _ = _; rw [HIt.out, if_neg h8, HX4.out]
          have hj := (List.getElem?_eq_some_iff.1 HX0.out).1
          obtain ⟨g, hAO, hgw⟩ : ∃ g, AO = some ⟨g, 0, none⟩ ∧ w.heap.size ≤ g := by
            rcases H6.out.form with ⟨_, h0, _⟩ | ⟨g, cur, h1, h2, _⟩
            · omega
            · exact ⟨g, h1, h2⟩
          subst hAO
          have hcell : w8.cell? ⟨g, atP id * 2, none⟩ = some (.int .i64 0) := by
            obtain ⟨ad, had, _, hcc⟩ := H6.out.rd.2 (by omega)
            injection had with had
            subst had
            have := hcc _ _ (bitCells_at _ HX0.out).1
            have e0 : (⟨g, 0, none⟩ : Addr).add (atP id * 2) = ⟨g, atP id * 2, none⟩ := by unfold Addr.add; split <;> simp_all
            rwa [e0] at this
          have hfro : w8.frozen? ⟨g, atP id * 2, none⟩ = false := by
            have := H6.out.frozen rfl (atP id * 2)
            have e0 : (⟨g, 0, none⟩ : Addr).add (atP id * 2) = ⟨g, atP id * 2, none⟩ := by unfold Addr.add; split <;> simp_all
            rwa [e0] at this
          have hfin : Hid (∀ q wf, wf = (w8.drewN q).setCell ⟨g, atP id * 2, none⟩ (.int .i64 S) → ItRet w (ItemsM id V) (.returned (.tuple #[.slice (some ⟨g, 0, none⟩) XO.length cO, .int .i64 0])) wf) := by
            rintro q wf rfl
            have ho := (H6.out.drewN q).stored rfl (atP id * 2) (.int .i64 S)
            have e0 : (⟨g, 0, none⟩ : Addr).add (atP id * 2) = ⟨g, atP id * 2, none⟩ := by unfold Addr.add; split <;> simp_all
            rw [e0] at ho
            refine ⟨_, _, _, _, rfl, (H08.out.drewN q).set_ (.inr hgw) _, .inl ⟨_, hI.out, rfl, by simp, ?_⟩⟩
            rw [bitCells_set _ HX0.out S]
            exact ho
          have hgp : g ≠ p := HgO.out g ⟨_, rfl, rfl⟩
          generalize atP id = j at *
          subst hXP
          have hj' : (j : Int) < (XO.length : Int) := by omega
          have hj0 : (0 : Int) ≤ (j : Int) := by omega
          clear k5 k5f hk0 HX0
          go_wp2_with fail
          go_region_held3 (fun w' => w'.cell? ⟨p, 3, none⟩ = some (.slice (some ⟨g, 0, none⟩) XO.length cO) ∧ w'.cell? ⟨p, 6, none⟩ = some (.int .i64 j))
            (refine ⟨?_, ?_⟩ <;> go_keep) (fail)
          have m3 : (w8.setCell ⟨g, j * 2, none⟩ (.int .i64 S)).cell? ⟨p, 3, none⟩ = some (.slice (some ⟨g, 0, none⟩) XO.length cO) := by
            rw [World.cell?_setCell_other _ _ _ _ (by intro e; injection e with e1; exact hgp e1)]; exact k3
          have HF := Lib.hid (hfin.out 1 _ rfl)
          clear hcell hfro hfin k3 k6
          go_wp2_with fail
          go_ret2
          exact HF.out
    · subst hr2
      have hI : Hid (ItemsM id V = .error XE) := by show _ = _; simp [ItemsM, itemsM, HT.out, hr1]
      have e0 : (XE == 0) = false := by simpa using hr3
      have e1 : (XE != 0) = true := by simpa using hr3
      have Hr3 := Lib.hid hr3
      have k5 := H1.out.cell 5
      have k0 := H1.out.cell 0
      clear hr1 hr3
      go_wp2_with fail
      go_quiet (fail)
      go_wp2_with fail
      go_ret2
      exact ⟨none, 0, 0, XE, rfl, H08.out.drewN _, .inr ⟨hI.out, Hr3.out, rfl, rfl, rfl⟩⟩

end Go.Proofs.YtiebjnibmomcjaaDoor
