/- Reference of layer 5: Get; PacketGets. -/
import Derived.Test.YtiebjnibmomcjaaDoorRefE
import Derived.Test.YtiebjnibmomcjaaDoorBdPackN
namespace Go.Proofs.YtiebjnibmomcjaaDoor
open Go.RowKit

theorem rget_results {w : World} {b : Nat} {v0 v1 : Value} (hb : Blk w b 39 #[v0, v1]) (tmps : Array Value) (ht : tmps.getD 4 undef = .pointer (some ⟨b, 0, none⟩)) :
    (results Tryd.f50 tmps).run Tryd.prog w = .ok (.tuple #[.agg #[v0, v1], tmps.getD 5 undef, tmps.getD 6 undef]) w := by
  have q0 : w.cell? ⟨b, 0, none⟩ = some v0 := hb.cell 0
  have q1 : w.cell? ⟨b, 1, none⟩ = some v1 := hb.cell 1
  have hr : Tryd.f50.results = #[.cell 4 39, .tmp 5, .tmp 6] := Tryd.results50
  have ht' : tmps[4]?.getD undef = .pointer (some ⟨b, 0, none⟩) := by rw [← Array.getD_eq_getD_getElem?]; exact ht
  simp [results, hr, ht', go_sem, q0, q1]
theorem fin2 {w w1 : World} {g t : Nat} {x y : Value} (hb : Blk w1 g t #[x, y]) (hk : Keep Never w w1) (hg : w.heap.size ≤ g) (i v : Value) :
    Blk ((w1.setCell ⟨g, 0, none⟩ i).setCell ⟨g, 1, none⟩ v) g t #[i, v] ∧ Keep Never w ((w1.setCell ⟨g, 0, none⟩ i).setCell ⟨g, 1, none⟩ v) := by
  refine ⟨?_, (hk.set_ (p := ⟨g, 0, none⟩) (.inr hg) _).set_ (p := ⟨g, 1, none⟩) (.inr hg) _⟩
  have := (hb.set_ 0 i).set_ 1 v
  simpa using this

set_option maxHeartbeats 8000000 in
set_option maxRecDepth 100000 in
theorem rGet_any (b : List Nat) (at_ : Int) (A : Option Addr) (n c : Nat) (w : World) (hr : Rd w w.heap.size 1 A n (b.map u8v)) (hl : b.length = n) (h8 : ∀ x ∈ b, x < 256) (hn : n ≤ 1500) :
    Calls Tryd.prog 50 #[.slice A n c, .int .i64 at_] w (GRet w (GetM b at_)) := by
  have hb0 : Hid (Blk (w.alloc (.cells #[.int .i64 0, .slice none 0 0] 39)) w.heap.size 39 #[.int .i64 0, .slice none 0 0]) := Blk.new w 39 _
  have hk0 : Hid (Keep Never w (w.alloc (.cells #[.int .i64 0, .slice none 0 0] 39))) := (Keep.refl Never w).alloc _
  have HR := Lib.hid hr
  have HL := Lib.hid hl
  have H8 := Lib.hid h8
  clear hr hl h8
  go_enter Tryd.func50, Tryd.ntmps50
  go_wp2_with fail
  refine (rbits_any A n c w.heap.size b HL.out _ (HR.out.keep hk0.out (fun _ h => h.elim)) (by simp) H8.out (by omega)).mono ?_
  rintro e w1 ⟨A1, n1, c1, rfl, hn1, hc1, hr1, hk1, _⟩
  rw [HL.out] at hn1
  subst hn1
  have HB1 := Lib.hid (hb0.out.keep hk1 (fun h => h))
  have HK1 := Lib.hid (hk0.out.trans hk1)
  have HR1 := Lib.hid hr1
  clear hk1 hr1
  by_cases hat : at_ < 0 ∨ 8 * (n : Int) < at_
  · have hG : Hid (GetM b at_ = .error 1) := by show _ = _; unfold GetM; rw [if_pos (by rw [HL.out]; exact hat)]
    have p0 := HB1.out.cell 0
    have p1 := HB1.out.cell 1
    have p0f := HB1.out.frozen 0
    have p1f := HB1.out.frozen 1
    have hcase : at_ < 0 ∨ (0 ≤ at_ ∧ ((8 * n : Nat) : Int) < at_) := by omega
    clear hat
    rcases hcase with h | ⟨h, h'⟩
    all_goals
      go_wp2_with fail
      obtain ⟨hbF, hkF⟩ := fin2 HB1.out HK1.out (Nat.le_refl _) (.int .i64 0) (.slice none 0 0)
      (try simp only [Exit.inBlock, Exit.then])
      refine bodyPost_ret (rget_results hbF _ rfl) rfl ?_
      exact ⟨0, none, 0, 0, 0, 1, rfl, hkF, .inr ⟨hG.out, by decide, rfl, rfl, rfl, rfl, rfl⟩⟩
  · obtain ⟨a, rfl⟩ : ∃ a : Nat, at_ = a := ⟨at_.toNat, by omega⟩
    have ha : a ≤ 8 * n := by omega
    have ha0 : (0 : Int) ≤ (a : Int) := by omega
    have hG0 : GetM b a = match valG 5 ⟨leftB b a, 0, []⟩ with
      | .error e => .error e
      | .ok (id, s1) => match ptree id with
        | none => .error 50
        | some T => match walkL valG T 0 ⟨s1.bits, 0, []⟩ with
          | .error e => .error e
          | .ok s2 =>
            if s2.size ≠ ((leftB b a).length : Int) - s2.bits.length then .error 20
            else if 8184 < ((leftB b a).length : Int) - s2.bits.length then .error 2
            else .ok (id, s2.V, a + (((leftB b a).length : Int) - s2.bits.length)) := by
      unfold GetM
      rw [if_neg (by rw [HL.out]; omega), Int.toNat_natCast]
      rfl
    have hlen : (leftB b a).length = 8 * n - a := by rw [length_leftB, HL.out]
    have hR1 := HR1.out
    have hdr : (bitsB b).drop a = leftB b a := rfl
    obtain ⟨l, hl⟩ : ∃ l, leftB b a = l := ⟨_, rfl⟩
    rw [hl] at hG0 hlen hdr
    have HG0 := Lib.hid hG0
    have Hlen := Lib.hid hlen
    have Hdr := Lib.hid hdr
    have hszb : Hid (∀ w, (sizeOf 4).run Tryd.prog w = .ok 1 w) := fun w => by kernel_rfl
    have hc1' : Hid (8 * n ≤ c1) := hc1
    clear hG0 hlen hdr hl hat hR1 hc1
    go_wp2_with (refine wpList_from rfl (.tmp 23) (.tmp 24) _ rfl Tryd.underlying67 hszb.out A1 (8 * n) c1 a (by go_simp) (a : Int) (by go_simp) rfl ha ?_; intro A2 c2 HS)
    have hr2 := HS.out.1 _ _ _ hc1'.out HR1.out
    rw [Nat.mul_one, ← List.map_drop, Hdr.out] at hr2
    have hc2 := HS.out.2.1 hc1'.out
    obtain ⟨L, hL⟩ : ∃ L, 8 * n - a = L := ⟨_, rfl⟩
    rw [hL] at hr2 hc2 ⊢
    have hL' : Hid (L ≤ 12000) := Lib.hid (by omega)
    have hll : Hid (l.length = L) := Lib.hid (by rw [Hlen.out, hL])
    obtain ⟨W2, hW2⟩ : ∃ W2, w1.alloc (.cells #[.slice none 0 0, .bool true, .slice A2 L c2, .slice none 0 0, .slice none 0 0, .int .i64 0, .int .i64 0] 102) = W2 := ⟨_, rfl⟩
    have hkW2 : Keep Never w1 W2 := by rw [← hW2]; exact (Keep.refl Never w1).alloc _
    have hInv : InvW w1.heap.size w1.heap.size w1.heap.size L (rg0 l) (fun q => InRow none q ∨ InRow none q) W2 := by
      have hnn : ∀ q, ¬ InRow none q := by rintro q ⟨_, h, _⟩; cases h
      have hb := Blk.new w1 102 (walkCells none 0 0 true A2 L c2 none 0 0 none 0 0 0 0)
      have hbP : Blk W2 w1.heap.size 102 (walkCells none 0 0 true A2 L c2 none 0 0 none 0 0 0 0) := by rw [← hW2]; exact hb
      have hlL := hll.out
      refine ⟨none, 0, A2, c2, none, 0, none, 0, ?_, Rd.nil _ _ _ _, Nat.le_refl _, ?_, ?_, Own.nil _ _ _ _, Own.nil _ _ _ _, fun _ => Iff.rfl, by simp [rg0], ?_, by simp [rg0], ?_, by have := hL'.out; omega, by simp [rg0], ⟨Nat.le_refl _, Nat.le_refl _⟩, ⟨hnn _, hnn _⟩, hkW2.size⟩
      · simp only [rg0, hlL]; exact hbP
      · simp only [rg0]; rw [hlL]; exact hr2.keep hkW2 (fun _ h => h.elim)
      · simp only [rg0]; rw [hlL]; exact hc2
      · simp only [rg0]; rw [hlL]; have := hL'.out; omega
      · simp [rg0, hlL]
    have hne : ∀ q, ¬ (InRow none q ∨ InRow none q) := by rintro q (⟨_, h, _⟩ | ⟨_, h, _⟩) <;> cases h
    have HInv := Lib.hid hInv
    have Hne := Lib.hid hne
    have HB2 := Lib.hid (HB1.out.keep hkW2 (fun h => h))
    have HK2 := Lib.hid (HK1.out.trans hkW2)
    obtain ⟨p, hp⟩ : ∃ p, w1.heap.size = p := ⟨_, rfl⟩
    have Hwp : Hid (w.heap.size < p ∧ p < W2.heap.size) := by
      refine Lib.hid ⟨by rw [← hp]; have := HK1.out.size; have := HB1.out.lt; omega, by rw [← hp, ← hW2]; simp⟩
    rw [hp] at HInv
    rw [hp] at *
    rw [hW2] at *
    clear hInv hne hkW2 hr2 hc2 HS hW2
    go_wp2_with fail
    refine (one_any p p p L (rg0 l) 5 _ W2 HInv.out (by have := hL'.out; omega)).mono ?_
    rintro e w3 ⟨rfl, hk3, Q3, hi3, hq3⟩
    have hk03 : Keep Never w w3 := HK2.out.then_ hk3 (fun i hi h => by
      rcases h with h | h
      · have := Hwp.out; omega
      · exact absurd h (Hne.out i))
    have hq3' : ∀ q, Q3 q → p ≤ q := fun q h => (hi3.rows.1 q h).1
    have HB3 := Lib.hid (HB2.out.keep (S := fun k => k = p ∨ (InRow none k ∨ InRow none k)) hk3 (fun h => by
      rcases h with h | h
      · have := Hwp.out; omega
      · exact Hne.out _ h))
    have hres := get5_ref l
    have hrg := oneR_range (rg0 l) 5
    generalize oneR (rg0 l) 5 = X at hi3 hres hrg ⊢
    obtain ⟨id, X⟩ := X
    simp only at hi3 hres hrg ⊢
    have HK3 := Lib.hid hk03
    have HQ3 := Lib.hid hq3'
    have Hi3 := Lib.hid hi3
    have hE5 : w3.cell? ⟨p, 5, none⟩ = some (.int .i64 X.E) := by
      obtain ⟨AV, cV, AB, cB, AO, cO, AG, cG, h1, _⟩ := hi3
      exact h1.cell 5
    clear hk3 hi3 hq3 hk03 hq3' HInv
    rcases hres with ⟨er, he1, he2, he3⟩ | ⟨id', s1, he1, he2, he3, he4⟩
    · have hG : Hid (GetM b a = .error er) := by show _ = _; rw [HG0.out, he1]
      rw [he3] at hE5
      have e0 : (er == 0) = false := by simpa using he2
      have e1 : (er != 0) = true := by simpa using he2
      have He2 := Lib.hid he2
      have p0 := HB3.out.cell 0
      have p1 := HB3.out.cell 1
      have p0f := HB3.out.frozen 0
      have p1f := HB3.out.frozen 1
      clear he1 he2 he3
      go_wp2_with fail
      have hpw : w.heap.size ≠ p := by have := Hwp.out; omega
      have hpw' : p ≠ w.heap.size := by have := Hwp.out; omega
      go_region_held3 (fun w' => w'.cell? ⟨p, 5, none⟩ = some (.int .i64 er))
        (first | go_keep | (rw [World.cell?_setCell_other _ _ _ _ (by intro e; injection e; omega), World.cell?_setCell_other _ _ _ _ (by intro e; injection e; omega)]; go_keep)) (fail)
      go_wp2_with fail
      obtain ⟨hbF, hkF⟩ := fin2 HB3.out HK3.out (Nat.le_refl _) (.int .i64 0) (.slice none 0 0)
      (try simp only [Exit.inBlock, Exit.then])
      refine bodyPost_ret (rget_results hbF.drew _ rfl) rfl ?_
      exact ⟨0, none, 0, 0, 0, er, rfl, hkF.drew, .inr ⟨hG.out, He2.out, rfl, rfl, rfl, rfl, rfl⟩⟩
    · subst he2
      subst he3
      have He1 := Lib.hid he1
      have He4 := Lib.hid he4
      clear he1 he4
      go_wp2_with fail
      refine (rknown_any id _).mono ?_
      rintro e w4 ⟨rfl, rfl⟩
      cases hT : ptree id with
      | none =>
        have hG : Hid (GetM b a = .error 50) := by show _ = _; rw [HG0.out, He1.out]; simp only [hT]
        have p0 := HB3.out.cell 0
        have p1 := HB3.out.cell 1
        have p0f := HB3.out.frozen 0
        have p1f := HB3.out.frozen 1
        clear hT
        go_wp2_with fail
        obtain ⟨hbF, hkF⟩ := fin2 HB3.out HK3.out (Nat.le_refl _) (.int .i64 0) (.slice none 0 0)
        (try simp only [Exit.inBlock, Exit.then])
        refine bodyPost_ret (rget_results hbF _ rfl) rfl ?_
        exact ⟨0, none, 0, 0, 0, 50, rfl, hkF, .inr ⟨hG.out, by decide, rfl, rfl, rfl, rfl, rfl⟩⟩
      | some T =>
        have HT := Lib.hid hT
        clear hT
        go_wp2_with fail
        refine (grammar_any id _).mono ?_
        rintro e w6 ⟨s, rfl, hg, rfl⟩
        obtain ⟨q1, q2, q3, q4, q5, _⟩ := gram_some hg HT.out
        have Hq := Lib.hid (And.intro q2 (And.intro q3 q4))
        have Hq1 := Lib.hid q1
        clear hg q1 q2 q3 q4 hE5
        go_wp2_with fail
        refine (words_any s (by omega) _).mono ?_
        rintro e w7 ⟨A7, n7', c7, rfl, hn7, ho7, hk7⟩
        rw [Hq1.out] at hn7 ho7
        obtain ⟨rw1, rw2⟩ := Hi3.out.rows
        have hrun := run_at HT.out Hq.out.1 Hq.out.2.1 Hq.out.2.2 ho7 hn7 rw2 (fun k hk => (rw1 k hk).2) (Hi3.out.keep hk7) (by have := hL'.out; simp; omega)
        have Hrun := Lib.hid hrun
        have HkW7 := Lib.hid (HK3.out.trans hk7)
        have HB7 := Lib.hid (HB3.out.keep hk7 (fun h => h))
        clear hn7 ho7 hk7 rw1 rw2 hrun q5
        go_wp2_with fail
        refine Hrun.out.mono ?_
        rintro e w8 ⟨rfl, hk8, Q8, hi8, hq8⟩
        have hk08 : Keep Never w w8 := HkW7.out.then_ hk8 (fun i hi h => by
          rcases h with h | h
          · have := Hwp.out; omega
          · have := HQ3.out i h; have := Hwp.out; omega)
        have HB8 := Lib.hid (HB7.out.keep (S := fun k => k = p ∨ Q3 k) hk8 (fun h => by
          rcases h with h | h
          · have := Hwp.out; omega
          · have := HQ3.out _ h; have := Hwp.out; omega))
        have hQ8 : ∀ q, Q8 q → p ≤ q := fun q h => (hi8.rows.1 q h).1
        have hres := get_ref HT.out s1.bits l.length He4.out
        generalize runT T 0 ⟨[], true, s1.bits, [(id, 8)], [], 0, 0⟩ = X at hi8 hres
        obtain ⟨XV, XR, XB, XO, XG, XE, XP⟩ := X
        simp only at hres
        obtain ⟨AV, cV, AB, cB, AO, cO, AG, cG, h1, h2, hv3, h4, h5, h6, h7, h8, h9, g1, g2, g3, g4, g5, g6, g7, g8⟩ := hi8
        simp only at h1 h2 hv3 h4 h5 h6 h7 h8 h9 g1 g2 g3 g4 g5
        have H1 : Hid (Blk w8 p 102 #[.slice AV XV.length cV, .bool XR, .slice AB XB.length cB, .slice AO XO.length cO, .slice AG XG.length cG, .int .i64 XE, .int .i64 XP]) := h1
        have H6 := Lib.hid h6
        have H7 := Lib.hid h7
        have H08 := Lib.hid hk08
        have HOl : Hid (XO.length ≤ 1000000) := Lib.hid (by omega)
        have HgQ : Hid (∀ q, InRow AG q → p ≤ q) := Lib.hid (fun q h => hQ8 q ((h8 q).2 (.inr h)))
        have k5 := H1.out.cell 5
        have p0 := HB8.out.cell 0
        have p1 := HB8.out.cell 1
        have p0f := HB8.out.frozen 0
        have p1f := HB8.out.frozen 1
        have hpw : w.heap.size ≠ p := by have := Hwp.out; omega
        have hpw' : p ≠ w.heap.size := by have := Hwp.out; omega
        clear h1 h2 hv3 h4 h5 h6 h7 h8 h9 g1 g2 g3 g4 g5 g6 g7 g8 hk08 hk8 hq8 hQ8 Hrun
        rcases hres with ⟨er, hr1, hr2, hr3⟩ | ⟨s2, hr1, hr2, hr3, hr4, hr5, hr6, hr7⟩
        · subst hr2
          have hG : Hid (GetM b a = .error XE) := by show _ = _; rw [HG0.out, He1.out]; simp only [HT.out, hr1]
          have e0 : (XE == 0) = false := by simpa using hr3
          have e1 : (XE != 0) = true := by simpa using hr3
          have Hr3 := Lib.hid hr3
          clear hr1 hr3
          go_wp2_with fail
          go_region_held3 (fun w' => w'.cell? ⟨p, 5, none⟩ = some (.int .i64 XE))
            (first | go_keep | (rw [World.cell?_setCell_other _ _ _ _ (by intro e; injection e; omega), World.cell?_setCell_other _ _ _ _ (by intro e; injection e; omega)]; go_keep)) (fail)
          go_wp2_with fail
          obtain ⟨hbF, hkF⟩ := fin2 HB8.out H08.out (Nat.le_refl _) (.int .i64 0) (.slice none 0 0)
          (try simp only [Exit.inBlock, Exit.then])
          refine bodyPost_ret (rget_results hbF.drew _ rfl) rfl ?_
          exact ⟨0, none, 0, 0, 0, XE, rfl, hkF.drew, .inr ⟨hG.out, Hr3.out, rfl, rfl, rfl, rfl, rfl⟩⟩
        · subst hr2
          obtain ⟨S, hS⟩ : ∃ S, sumW XO = S := ⟨_, rfl⟩
          have HTt : Hid (Calls Tryd.prog 39 #[.slice AO XO.length cO] w8 fun e w' => e = .returned (.int .i64 S) ∧ w8 = w') := by
            have := total_big XO hr5 AO XO.length cO w8.heap.size w8 rfl HOl.out H6.out.rd
            rwa [hS] at this
          rw [hS] at hr4
          obtain ⟨k, hk⟩ : ∃ k : Nat, XP = k := ⟨XP.toNat, by omega⟩
          subst hk
          rw [Int.toNat_natCast] at hr7
          have hkl := (List.getElem?_eq_some_iff.1 hr7).1
          have hkl' : (k : Int) < (XO.length : Int) := by omega
          have hk00 : (0 : Int) ≤ (k : Int) := by omega
          obtain ⟨ad, hAO, _, hcc⟩ := H6.out.rd.2 (by omega)
          have hN := hcc _ _ (bitCells_at _ hr7).1
          subst hAO
          have k3 := H1.out.cell 3
          have k6 := H1.out.cell 6
          have k4 := H1.out.cell 4
          have HG9 : Hid (GetM b a = if s2.size ≠ S then .error 20 else if 8184 < S then .error 2 else .ok (id, s2.V, a + S)) := by
            show _ = _; rw [HG0.out, He1.out]; simp only [HT.out, hr1, ← hr4]
          have Hr3 := Lib.hid hr3
          have hSb : 0 ≤ S ∧ S ≤ 12000 := by rw [hr4]; have := hll.out; have := hL'.out; have := (sumW_bound hr5 XO.length); rw [List.take_length] at this; rw [hS] at this; omega
          clear hr1 hr3 hr5 hr6 hr7 hcc hkl hS hr4
          obtain ⟨z, hz⟩ : ∃ z, s2.size = z := ⟨_, rfl⟩
          rw [hz] at hN HG9
          obtain ⟨hS0, hS1⟩ := hSb
          go_wp2_with fail
          refine HTt.out.mono ?_
          rintro e w9 ⟨rfl, rfl⟩
          go_wp2_with fail
          by_cases hzS : z = S
          rotate_left
          · have hG : Hid (GetM b a = .error 20) := by show _ = _; rw [HG9.out, if_pos hzS]
            have b0 : (z == S) = false := by simpa using hzS
            have b1 : (z != S) = true := by simpa using hzS
            clear hzS HG9 HG0
            skip
            go_wp2_with fail
            go_quiet (fail)
            go_wp2_with fail
            obtain ⟨hbF, hkF⟩ := fin2 HB8.out H08.out (Nat.le_refl _) (.int .i64 0) (.slice none 0 0)
            (try simp only [Exit.inBlock, Exit.then])
            refine bodyPost_ret (rget_results (hbF.drewN _) _ rfl) rfl ?_
            exact ⟨0, none, 0, 0, 0, 20, rfl, hkF.drewN _, .inr ⟨hG.out, by decide, rfl, rfl, rfl, rfl, rfl⟩⟩
          subst hzS
          have b0 : (z == z) = true := by simp
          have b1 : (z != z) = false := by simp
          by_cases h8184 : 8184 < z
          · have hG : Hid (GetM b a = .error 2) := by show _ = _; rw [HG9.out, if_neg (by simp), if_pos h8184]
            clear HG9 HG0
            skip
            go_wp2_with fail
            go_quiet (fail)
            go_wp2_with fail
            obtain ⟨hbF, hkF⟩ := fin2 HB8.out H08.out (Nat.le_refl _) (.int .i64 0) (.slice none 0 0)
            (try simp only [Exit.inBlock, Exit.then])
            refine bodyPost_ret (rget_results (hbF.drewN _) _ rfl) rfl ?_
            exact ⟨0, none, 0, 0, 0, 2, rfl, hkF.drewN _, .inr ⟨hG.out, by decide, rfl, rfl, rfl, rfl, rfl⟩⟩
          · have hG : Hid (GetM b a = .ok (id, s2.V, a + z)) := by show _ = _; rw [HG9.out, if_neg (by simp), if_neg h8184]
            obtain ⟨nG, hnG⟩ : ∃ m, XG.length = m := ⟨_, rfl⟩
            have k4' : w8.cell? ⟨p, 4, none⟩ = some (.slice AG XG.length cG) := k4
            have hGr : Hid (Rd w8 w8.heap.size 1 AG XG.length (XG.map (.int .i64)) ∧ XG.length ≤ cG ∧ cG ≤ maxLen) := by
              refine ⟨H7.out.rd, H7.out.cap_le, ?_⟩
              rcases H7.out.form with ⟨_, _, rfl, _⟩ | ⟨_, _, _, _, _, _, hc, _⟩
              · unfold maxLen; omega
              · exact hc
            clear HG9 HG0 k4 hnG
            go_wp2_with fail
            go_quiet (fail)
            go_wp2_with fail
            obtain ⟨hbF, hkF⟩ := fin2 HB8.out H08.out (Nat.le_refl _) (.int .i64 id) (.slice AG XG.length cG)
            have hkS : Keep (fun k => k = w.heap.size) w8 ((w8.setCell ⟨w.heap.size, 0, none⟩ (.int .i64 id)).setCell ⟨w.heap.size, 1, none⟩ (.slice AG XG.length cG)) :=
              ((Keep.refl (fun k => k = w.heap.size) w8).set_ (p := ⟨w.heap.size, 0, none⟩) (.inl rfl) _).set_ (p := ⟨w.heap.size, 1, none⟩) (.inl rfl) _
            have hrF := hGr.out.1.keep_far hkS (fun ad hA _ h => by have := HgQ.out ad.block ⟨ad, hA, rfl⟩; have := Hwp.out; omega)
            (try simp only [Exit.inBlock, Exit.then])
            refine bodyPost_ret (rget_results (hbF.drewN _) _ rfl) rfl ?_
            refine ⟨id, AG, XG.length, cG, _, 0, rfl, hkF.drewN _, .inl ⟨s2.V, hG.out, rfl, by rw [Hr3.out], ?_, hGr.out.2.1, hGr.out.2.2, fun q h => by have := HgQ.out q h; have := Hwp.out; omega⟩⟩
            rw [← Hr3.out]
            exact (hrF.drewN _).more hkS.size

def gV (r : Except Int (Int × List Int × Int)) : List Int := match r with | .ok x => x.2.1 | .error _ => []
def gI (r : Except Int (Int × List Int × Int)) : Int := match r with | .ok x => x.1 | .error _ => 0
def gD (r : Except Int (Int × List Int × Int)) : Int := match r with | .ok x => x.2.2 | .error _ => 0
def gX (r : Except Int (Int × List Int × Int)) : Int := match r with | .ok _ => 0 | .error e => e
theorem GRet.rd {w w' : World} {r : Except Int (Int × List Int × Int)} {id d x : Int} {A : Option Addr} {n c : Nat}
    (h : (∃ V, r = .ok (id, V, d) ∧ x = 0 ∧ n = V.length ∧ Rd w' w'.heap.size 1 A n (V.map (.int .i64)) ∧ n ≤ c ∧ c ≤ maxLen ∧ (∀ k, InRow A k → w.heap.size ≤ k)) ∨ (r = .error x ∧ x ≠ 0 ∧ id = 0 ∧ A = none ∧ n = 0 ∧ c = 0 ∧ d = 0)) :
    Rd w' w'.heap.size 1 A n ((gV r).map (.int .i64)) ∧ n = (gV r).length ∧ id = gI r ∧ d = gD r ∧ x = gX r := by
  rcases h with ⟨V, rfl, rfl, rfl, h, _⟩ | ⟨rfl, _, rfl, rfl, rfl, rfl, rfl⟩
  · exact ⟨h, rfl, rfl, rfl, rfl⟩
  · exact ⟨Rd.nil _ _ _ _, rfl, rfl, rfl, rfl⟩
theorem gV_len (b : List Nat) (a : Int) : (gV (GetM b a)).length ≤ 8200 := by
  cases h : GetM b a with
  | error e => show 0 ≤ 8200; omega
  | ok x =>
    obtain ⟨id, V, e⟩ := x
    obtain ⟨_, _, l, _, hI, _⟩ := get_only h
    have := (ItemsM_short hI).1
    show V.length ≤ 8200
    omega

end Go.Proofs.YtiebjnibmomcjaaDoor
