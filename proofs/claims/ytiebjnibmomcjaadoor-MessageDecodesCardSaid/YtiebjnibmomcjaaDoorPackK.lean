/- Package packet: what Get does with a variable. -/
import Derived.Test.YtiebjnibmomcjaaDoorPackJ
import Derived.Test.YtiebjnibmomcjaaDoorBitsX
namespace Go.Proofs.YtiebjnibmomcjaaDoor
open Go.RowKit

set_option maxRecDepth 100000 in
theorem elemInt : Elem Tryd.prog 22 3 1 8 := ⟨Tryd.underlying22, _, _, rfl, rfl, rfl, rfl, rfl, by omega⟩

/-- where Get stands: the reader p over b (its blocks from RB to RH), r in block br, size in bs, p in bp; what it collects lies from RG on -/
def InvG (RB RH RG p br bs bp : Nat) (b : List Nat) (idv : Int) (s : SG) (Q : Nat → Prop) (w : World) : Prop :=
  ∃ (k : Nat) (A : Option Addr) (c : Nat), RdAt w RB RH p b k ∧ s.bits = leftB b k ∧ Blk w br 70 #[.pointer (some ⟨p, 0, none⟩)] ∧ Blk w bs 3 #[.int .i64 s.size] ∧ Blk w bp 39 #[.int .i64 idv, .slice A s.V.length c] ∧
    Own w RG 3 1 A s.V.length c (s.V.map (.int .i64)) ∧ (∀ q, Q q ↔ InRow A q) ∧ s.V.length ≤ k ∧ Widths w ∧ 0 < RB ∧ bp < RB ∧ RB ≤ p ∧ p < RH ∧ RH ≤ br ∧ RH ≤ bs ∧ br ≠ bs ∧ br < RG ∧ bs < RG ∧ RH ≤ RG ∧ RG ≤ w.heap.size ∧ 0 ≠ bp
def SG3 (p bs bp : Nat) : Nat → Prop := fun k => k = p ∨ k = bs ∨ k = bp

theorem InvG.keep {RB RH RG p br bs bp : Nat} {b : List Nat} {idv : Int} {s : SG} {Q : Nat → Prop} {w w' : World} (h : InvG RB RH RG p br bs bp b idv s Q w) (hk : Keep Never w w') : InvG RB RH RG p br bs bp b idv s Q w' := by
  obtain ⟨k, A, c, h1, h2, h3, h4, h5, h6, h7, h8, h9, g1, g2, g3, g4, g5, g6, g7, g8, g9, g10, g11, g12⟩ := h
  exact ⟨k, A, c, h1.keep hk (fun _ h => h.elim), h2, h3.keep hk (fun h => h), h4.keep hk (fun h => h), h5.keep hk (fun h => h), h6.keep hk (fun _ _ h => h), h7, h8, h9.keep hk (fun h => h), g1, g2, g3, g4, g5, g6, g7, g8, g9, g10, Nat.le_trans g11 hk.size, g12⟩
theorem getN_range {l : List Bool} {v : Int} (h : getE l.length v = 0) : 0 ≤ getN l v ∧ getN l v ≤ 4294967295 := by
  have hr := getE_zero h
  rw [getN_eq h]
  have := numOf_le32 (l.take v.toNat) (k := 32) (by omega) (by simp; omega)
  omega

set_option maxHeartbeats 4000000 in
set_option maxRecDepth 100000 in
theorem get2_does (RB RH RG p br bs bp : Nat) (b : List Nat) (idv : Int) (hb : b.length ≤ 1000000) :
    Does 71 #[.pointer (some ⟨br, 0, none⟩), .pointer (some ⟨bs, 0, none⟩), .pointer (some ⟨bp, 0, none⟩)] valG (InvG RB RH RG p br bs bp b idv) (SG3 p bs bp) := by
  rintro v s Q w h hok
  show Calls Tryd.prog 71 #[.int .i64 v, .pointer (some ⟨br, 0, none⟩), .pointer (some ⟨bs, 0, none⟩), .pointer (some ⟨bp, 0, none⟩)] w _
  have Hinv := Lib.hid h
  obtain ⟨k, A, c, h1, h2, h3, h4, h5, h6, h7, h8, h9, g1, g2, g3, g4, g5, g6, g7, g8, g9, g10, g11, g12⟩ := h
  obtain ⟨wd, hwd⟩ : ∃ x, vWidth v = x := ⟨_, rfl⟩
  obtain ⟨er, her⟩ : ∃ x, getE s.bits.length (vWidth v) = x := ⟨_, rfl⟩
  obtain ⟨n, hn⟩ : ∃ x, getN s.bits (vWidth v) = x := ⟨_, rfl⟩
  have c1 : w.cell? ⟨br, 0, none⟩ = some (.pointer (some ⟨p, 0, none⟩)) := h3.cell 0
  have hW : Hid (∀ W, Keep Never w W → Calls Tryd.prog 23 #[.int .i64 v] W fun e w' => e = .returned (.int .i64 wd) ∧ W = w') := by
    intro W hW
    have := vwidth_any v W (h9.keep hW (fun h => h))
    rwa [hwd] at this
  have hG : Hid (∀ W, Keep Never w W → Calls Tryd.prog 68 #[.pointer (some ⟨p, 0, none⟩), .int .i64 wd] W fun e w' => e = .returned (.tuple #[.int .i64 n, .int .i64 er]) ∧ Keep (fun q => q = p) W w' ∧ RdAt w' RB RH p b (k + if er = 0 then wd.toNat else 0)) := by
    intro W hW
    have := get_any RB RH p b k wd W (h1.keep hW (fun _ h => h.elim)) (by have := hW.size; omega)
    refine this.mono ?_
    rintro e w' ⟨h1, h2, h3⟩
    rw [← hwd, ← (show s.bits = leftB b k from ‹_›), her, hn] at h1
    rw [← hwd, ← (show s.bits = leftB b k from ‹_›), her, hwd] at h2
    exact ⟨h1, h3, h2⟩
  have hbr : br ≠ p := by omega
  have Hbr := Lib.hid hbr
  have H1 := Lib.hid h1
  have H2 := Lib.hid h2
  have H3 := Lib.hid h3
  have H4 := Lib.hid h4
  have H5 := Lib.hid h5
  have H6 := Lib.hid h6
  have H9 := Lib.hid h9
  have Hwd := Lib.hid hwd
  have Her := Lib.hid her
  have Hn := Lib.hid hn
  have HF := Lib.hid (And.intro g1 (And.intro g2 (And.intro g3 (And.intro g4 (And.intro g5 (And.intro g6 (And.intro g7 (And.intro g8 (And.intro g9 (And.intro g10 (And.intro g11 g12)))))))))))
  -- what stands behind the reading
  have hafter : Hid (∀ W w', Keep Never w W → Keep (fun q => q = p) W w' → RdAt w' RB RH p b (k + if er = 0 then wd.toNat else 0) → Keep (fun k => SG3 p bs bp k ∨ Q k) w w' ∧ Blk w' br 70 #[.pointer (some ⟨p, 0, none⟩)] ∧ Blk w' bs 3 #[.int .i64 s.size] ∧ Blk w' bp 39 #[.int .i64 idv, .slice A s.V.length c] ∧ Own w' RG 3 1 A s.V.length c (s.V.map (.int .i64)) ∧ Widths w' ∧ RG ≤ w'.heap.size) := by
    intro W w' k1 k2 _
    refine ⟨(k1.mono (fun _ _ h => h.elim)).trans (k2.mono (fun q _ h => .inl (.inl h))), (h3.keep k1 (fun h => h)).keep k2 hbr, (h4.keep k1 (fun h => h)).keep k2 (by omega), (h5.keep k1 (fun h => h)).keep k2 (by omega), (h6.keep k1 (fun _ _ h => h)).keep k2 (fun q hq e => by have := (h6.row hq).1; omega), (h9.keep k1 (fun h => h)).keep k2 (by omega), by have := k1.size; have := k2.size; omega⟩
  have hQ := Lib.hid h7
  have hlen : Hid (k ≤ 8 * b.length) := h1.choose_spec.choose_spec.2.2.2.1
  have H8 := Lib.hid h8
  clear h1 h2 h3 h4 h5 h6 h7 h8 h9 g1 g2 g3 g4 g5 g6 g7 g8 g9 g10 g11 g12 hbr hok hwd her hn
  obtain ⟨f1, f2, f3, f4, f5, f6, f7, f8, f9, f10, f11, f12⟩ := HF.out
  have hfixed : Hid (∀ (s' : SG) (Q' : Nat → Prop) (W : World) (k' : Nat) (A' : Option Addr) (c' : Nat), RdAt W RB RH p b k' → s'.bits = leftB b k' → Blk W br 70 #[.pointer (some ⟨p, 0, none⟩)] → Blk W bs 3 #[.int .i64 s'.size] → Blk W bp 39 #[.int .i64 idv, .slice A' s'.V.length c'] →
      Own W RG 3 1 A' s'.V.length c' (s'.V.map (.int .i64)) → (∀ q, Q' q ↔ InRow A' q) → s'.V.length ≤ k' → Widths W → RG ≤ W.heap.size → InvG RB RH RG p br bs bp b idv s' Q' W) :=
    fun s' Q' W k' A' c' e1 e2 e3 e4 e5 e6 e7 e8 e9 e10 => ⟨k', A', c', e1, e2, e3, e4, e5, e6, e7, e8, e9, f1, f2, f3, f4, f5, f6, f7, f8, f9, f10, e10, f12⟩
  have hQs : Hid (∀ W, Own W RG 3 1 A s.V.length c (s.V.map (.int .i64)) → ∀ q, Q q → q < W.heap.size) := fun W ho q hq => (ho.row ((hQ.out q).1 hq)).2
  clear f1 f2 f3 f4 f5 f6 f7 f8 f9 f10 f11 f12
  by_cases he0 : er = 0
  · subst he0
    have hgr := getN_range Her.out
    have hbits : Hid (leftB b (k + if (0 : Int) = 0 then wd.toNat else 0) = getL s.bits (vWidth v)) := by
      show _ = _
      rw [if_pos rfl, getL_eq Her.out, H2.out, Hwd.out]
      simp [leftB, List.drop_drop]
    have hwd1 : Hid (1 ≤ wd.toNat) := by have := getE_zero Her.out; have := Hwd.out; show 1 ≤ wd.toNat; omega
    rw [Hn.out] at hgr
    obtain ⟨n1, n2⟩ := hgr
    by_cases hm : vMay v n = true
    · have hMay : Hid (∀ W, Widths W → Calls Tryd.prog 27 #[.int .i64 v, .int .i64 n] W fun e w' => e = .returned (.bool true) ∧ W = w') := by
        intro W hW
        have := vmay_any v n (by omega) W hW
        rwa [hm] at this
      by_cases h7 : v = 7
      · have hev : valG v s = .ok (n, ⟨getL s.bits (vWidth v), n, s.V⟩) := by
          unfold valG; rw [if_neg (by rw [Her.out]; simp), Hn.out, if_pos hm, if_pos h7]
        rw [hev]
        clear hev hm
        subst h7
        go_enter Tryd.func71, Tryd.ntmps71
        go_wp2_with fail
        go_region_held3 (fun w' => w'.cell? ⟨br, 0, none⟩ = some (.pointer (some ⟨p, 0, none⟩))) (first | go_keep | (rw [hk5.cell (by have := H3.out.lt; simpa using this) Hbr.out]; go_keep))
          (first
            | (go_at_call 23; refine (hW.out _ (Keep.refl Never w).drew).mono ?_; rintro e w' ⟨rfl, rfl⟩)
            | (go_at_call 68; refine (hG.out _ (Keep.refl Never w).drew).mono ?_; rintro e w5 ⟨rfl, hk5, hr5⟩))
        obtain ⟨a1, a2, a3, a4, a5, a6, a7⟩ := hafter.out _ _ (Keep.refl Never w).drew hk5 hr5
        have A1 := Lib.hid a1
        have A2 := Lib.hid a2
        have A3 := Lib.hid a3
        have A4 := Lib.hid a4
        have A5 := Lib.hid a5
        have A6 := Lib.hid a6
        have A7 := Lib.hid a7
        have Hr5 := Lib.hid hr5
        clear a1 a2 a3 a4 a5 a6 a7 hk5 hr5 c1
        have b1 := A3.out.cell 0
        have b2 := A3.out.frozen 0
        go_wp2_with (go_at_call 27; refine (hMay.out _ A6.out).mono ?_; rintro e w' ⟨rfl, rfl⟩)
        go_ret
        have hS : Keep (fun k => SG3 p bs bp k ∨ Q k) w (w5.setCell ⟨bs, 0, none⟩ (.int .i64 n)) := A1.out.set_ (p := ⟨bs, 0, none⟩) (.inl (.inl (.inr (.inl rfl)))) _
        have hS5 : Keep (fun q => q = bs) w5 (w5.setCell ⟨bs, 0, none⟩ (.int .i64 n)) := (Keep.refl (fun q => q = bs) w5).set_ (p := ⟨bs, 0, none⟩) (.inl rfl) _
        obtain ⟨f1, f2, f3, f4, f5, f6, f7, f8, f9, f10, f11, f12⟩ := HF.out
        have hbpbs : bp ≠ bs := by omega
        refine ⟨hS, Q, fun _ h => .inl h, fun q hq => by have := hQs.out _ A5.out q hq; simpa [World.setCell] using this, .inl ⟨n, _, rfl, rfl, hfixed.out ⟨getL s.bits (vWidth 7), n, s.V⟩ Q _ _ A c (Hr5.out.keep hS5 (fun q e => by subst e; omega)) hbits.out.symm (A2.out.keep hS5 f7) (by simpa using A3.out.set_ 0 (.int .i64 n)) (A4.out.keep hS5 hbpbs) (A5.out.keep hS5 (fun q hq e => by have := (A5.out.row hq).1; omega)) hQ.out (by have := H8.out; show s.V.length ≤ _; omega) (A6.out.keep hS5 (by omega)) (by have := A7.out; simpa [World.setCell] using this), by omega, by omega⟩⟩
      · have hev : valG v s = .ok (n, ⟨getL s.bits (vWidth v), s.size, s.V ++ [n]⟩) := by
          unfold valG; rw [if_neg (by rw [Her.out]; simp), Hn.out, if_pos hm, if_neg h7]
        rw [hev]
        have e7 : (v == 7) = false := by simpa using h7
        clear hev hm h7
        go_enter Tryd.func71, Tryd.ntmps71
        go_wp2_with fail
        go_region_held3 (fun w' => w'.cell? ⟨br, 0, none⟩ = some (.pointer (some ⟨p, 0, none⟩))) (first | go_keep | (rw [hk5.cell (by have := H3.out.lt; simpa using this) Hbr.out]; go_keep))
          (first
            | (go_at_call 23; refine (hW.out _ (Keep.refl Never w).drew).mono ?_; rintro e w' ⟨rfl, rfl⟩)
            | (go_at_call 68; refine (hG.out _ (Keep.refl Never w).drew).mono ?_; rintro e w5 ⟨rfl, hk5, hr5⟩))
        obtain ⟨a1, a2, a3, a4, a5, a6, a7⟩ := hafter.out _ _ (Keep.refl Never w).drew hk5 hr5
        have A1 := Lib.hid a1
        have A2 := Lib.hid a2
        have A3 := Lib.hid a3
        have A4 := Lib.hid a4
        have A5 := Lib.hid a5
        have A6 := Lib.hid a6
        have A7 := Lib.hid a7
        have Hr5 := Lib.hid hr5
        clear a1 a2 a3 a4 a5 a6 a7 hk5 hr5 c1
        have b1 : w5.cell? ⟨bp, 1, none⟩ = some (.slice A s.V.length c) := A4.out.cell 1
        have hm1 : s.V.length ≤ 10000000 := by have := H8.out; have := hlen.out; omega
        generalize hL : s.V.length = m at *
        have HL := Lib.hid hL
        have hnr : Hid (¬ InRow A bp) := fun e => by have := (A5.out.row e).1; have := HF.out; omega
        have hRG : RG ≤ w5.heap.size := A7.out
        clear hL
        go_wp2_with (first
          | (go_at_call 27; refine (hMay.out _ A6.out).mono ?_; rintro e w' ⟨rfl, rfl⟩)
          | (at_builtin; refine wpList_app _ rfl (.tmp 32) (.tmp 34) _ rfl elemInt RG rfl (A5.out.alloc _) _ rfl (Rd.of_blk (n := 1) (cs := [.int .i64 n]) (Blk.new _ _ _) rfl) (by simp [Value.oneCell']) (by omega) (by unfold maxLen; omega) (by simp; omega) ?_; intro A9 c9 w6 hown6 hk6 hrow6; have hb6 := Blk.keep (w := w5.alloc _) (A4.out.alloc _) hk6 hnr.out; have b6 := hb6.cell 1; have b7 := hb6.frozen 1; have Hb6 := Lib.hid hb6; have HK6 := Lib.hid hk6; have HO6 := Lib.hid hown6; clear hb6 hk6 hown6))
        go_ret
        have hS5 : Keep (fun q => q = bp) w6 (w6.setCell ⟨bp, 1, none⟩ (.slice A9 (m + 1) c9)) := (Keep.refl (fun q => q = bp) w6).set_ (p := ⟨bp, 1, none⟩) (.inl rfl) _
        have ha : Keep Never w5 (w5.alloc (.cells #[.int .i64 n] 3)) := (Keep.refl Never w5).alloc _
        have hrow : ∀ q, InRow A q → RG ≤ q ∧ q < w5.heap.size := fun q hq => A5.out.row hq
        obtain ⟨f1, f2, f3, f4, f5, f6, f7, f8, f9, f10, f11, f12⟩ := HF.out
        have hKW : Keep (fun k => SG3 p bs bp k ∨ Q k) w (w6.setCell ⟨bp, 1, none⟩ (.slice A9 (m + 1) c9)) :=
          (((A1.out.trans (ha.mono (fun _ _ h => h.elim))).trans (HK6.out.mono (fun q _ h => .inr ((hQ.out q).2 h)))).set_ (p := ⟨bp, 1, none⟩) (.inl (.inl (.inr (.inr rfl)))) _)
        have hws := A1.out.size
        have hrd := ((Hr5.out.keep ha (fun _ h => h.elim)).keep HK6.out (fun q h => .inr (by have := hrow q h; omega))).keep hS5 (fun q e => by subst e; omega)
        have hbrk := ((A2.out.keep ha (fun h => h)).keep HK6.out (fun h => by have := hrow _ h; omega)).keep hS5 (by omega)
        have hbsk := ((A3.out.keep ha (fun h => h)).keep HK6.out (fun h => by have := hrow _ h; omega)).keep hS5 (by omega)
        have hbpk := Hb6.out.set_ 1 (.slice A9 (m + 1) c9)
        have hwk := ((A6.out.keep ha (fun h => h)).keep HK6.out (fun h => by have := hrow _ h; omega)).keep hS5 f12
        have hown := HO6.out.far (p := ⟨bp, 1, none⟩) (fun k h e => by have := (HO6.out.row h).1; have e' : k = bp := e; omega) (.slice A9 (m + 1) c9)
        have hL := HL.out
        refine ⟨hKW, InRow A9, fun q h => ?_, fun q h => by have := (HO6.out.row h).2; simpa [World.setCell] using this, .inl ⟨n, _, rfl, rfl, hfixed.out ⟨getL s.bits (vWidth v), s.size, s.V ++ [n]⟩ (InRow A9) _ _ A9 c9 hrd hbits.out.symm hbrk hbsk ?_ ?_ (fun _ => Iff.rfl) ?_ hwk ?_, by omega, by omega⟩⟩
        · rcases hrow6.out q h with h | h
          · exact .inl ((hQ.out q).2 h)
          · right
            have : (w5.alloc (.cells #[.int .i64 n] 3)).heap.size = w5.heap.size + 1 := by simp
            omega
        · simpa [hL] using hbpk
        · simpa [hL] using hown
        · have := H8.out; have := hwd1.out; simp [hL]; omega
        · have := HK6.out.size; have := ha.size; have h9 : (w6.setCell ⟨bp, 1, none⟩ (.slice A9 (m + 1) c9)).heap.size = w6.heap.size := by simp [World.setCell]
          omega
    · have hm' : vMay v n = false := by simpa using hm
      have hev : valG v s = .error 20 := by
        unfold valG; rw [if_neg (by rw [Her.out]; simp), Hn.out, if_neg hm]
      rw [hev]
      have hMay : Hid (∀ W, Widths W → Calls Tryd.prog 27 #[.int .i64 v, .int .i64 n] W fun e w' => e = .returned (.bool false) ∧ W = w') := by
        intro W hW
        have := vmay_any v n (by omega) W hW
        rwa [hm'] at this
      clear hev hm hm'
      go_enter Tryd.func71, Tryd.ntmps71
      go_wp2_with fail
      go_region_held3 (fun w' => w'.cell? ⟨br, 0, none⟩ = some (.pointer (some ⟨p, 0, none⟩))) (first | go_keep | (rw [hk5.cell (by have := H3.out.lt; simpa using this) Hbr.out]; go_keep))
        (first
          | (go_at_call 23; refine (hW.out _ (Keep.refl Never w).drew).mono ?_; rintro e w' ⟨rfl, rfl⟩)
          | (go_at_call 68; refine (hG.out _ (Keep.refl Never w).drew).mono ?_; rintro e w5 ⟨rfl, hk5, hr5⟩))
      obtain ⟨a1, a2, a3, a4, a5, a6, a7⟩ := hafter.out _ _ (Keep.refl Never w).drew hk5 hr5
      have A1 := Lib.hid a1
      have A2 := Lib.hid a2
      have A3 := Lib.hid a3
      have A4 := Lib.hid a4
      have A5 := Lib.hid a5
      have A6 := Lib.hid a6
      have A7 := Lib.hid a7
      have Hr5 := Lib.hid hr5
      clear a1 a2 a3 a4 a5 a6 a7 hk5 hr5 c1
      go_wp2_with (go_at_call 27; refine (hMay.out _ A6.out).mono ?_; rintro e w' ⟨rfl, rfl⟩)
      exact ⟨rfl, A1.out, Q, fun _ h => .inl h, hQs.out _ A5.out, .inr ⟨20, ⟨getL s.bits (vWidth v), s.size, s.V⟩, rfl, rfl, hfixed.out ⟨getL s.bits (vWidth v), s.size, s.V⟩ Q _ _ A c Hr5.out hbits.out.symm A2.out A3.out A4.out A5.out hQ.out (by have := H8.out; show s.V.length ≤ _; omega) A6.out A7.out⟩⟩
  · have hev : valG v s = .error er := by unfold valG; rw [Her.out, if_pos he0]
    rw [hev]
    have hb0 : (er == 0) = false := by simpa using he0
    have Hev := Lib.hid hev
    have He0 := Lib.hid he0
    clear hev he0
    go_enter Tryd.func71, Tryd.ntmps71
    go_wp2_with fail
    go_region_held3 (fun w' => w'.cell? ⟨br, 0, none⟩ = some (.pointer (some ⟨p, 0, none⟩))) (first | go_keep | (rw [hk5.cell (by have := H3.out.lt; simpa using this) Hbr.out]; go_keep))
      (first
        | (go_at_call 23; refine (hW.out _ (Keep.refl Never w).drew).mono ?_; rintro e w' ⟨rfl, rfl⟩)
        | (go_at_call 68; refine (hG.out _ (Keep.refl Never w).drew).mono ?_; rintro e w5 ⟨rfl, hk5, hr5⟩))
    obtain ⟨a1, a2, a3, a4, a5, a6, a7⟩ := hafter.out _ _ (Keep.refl Never w).drew hk5 hr5
    have A1 := Lib.hid a1
    have A2 := Lib.hid a2
    have A3 := Lib.hid a3
    have A4 := Lib.hid a4
    have A5 := Lib.hid a5
    have A6 := Lib.hid a6
    have A7 := Lib.hid a7
    have Hr5 := Lib.hid hr5
    clear a1 a2 a3 a4 a5 a6 a7 hk5 hr5 c1
    go_wp2_with fail
    have hr6 := Hr5.out
    rw [if_neg He0.out, Nat.add_zero] at hr6
    exact ⟨rfl, A1.out, Q, fun _ h => .inl h, hQs.out _ A5.out, .inr ⟨er, s, rfl, rfl, hfixed.out s Q _ _ A c hr6 H2.out A2.out A3.out A4.out A5.out hQ.out H8.out A6.out A7.out⟩⟩

end Go.Proofs.YtiebjnibmomcjaaDoor
