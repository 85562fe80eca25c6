/- Package packet: the functions that make parts (printed by gen_parts.py). -/
import Derived.Test.YtiebjnibmomcjaaDoorPackP
namespace Go.Proofs.YtiebjnibmomcjaaDoor
open Go.RowKit

set_option maxHeartbeats 2000000 in
set_option maxRecDepth 100000 in
theorem head_any (w : World) : Calls Tryd.prog 86 #[] w (PRet w w.heap.size pHead) := by
  have HS := Lib.hid (PStack.start (Nat.le_refl w.heap.size))
  go_enter Tryd.func86, Tryd.ntmps86
  go_wp2_with fail
  refine (row_st HS [6, 7, 8] rfl rfl (by decide)).mono ?_
  clear HS
  rintro e w' ⟨A0, n0, c0, rfl, HS⟩
  go_wp2_with fail
  go_ret
  exact PStack.ret HS
theorem head_st {H : Nat} {w0 w : World} {L : List (Value × Parts)} (HS : Hid (PStack H w0 w L)) :
    Calls Tryd.prog 86 #[] w fun e w' => ∃ A m d, e = .returned (.slice A m d) ∧ Hid (PStack H w0 w' ((.slice A m d, pHead) :: L)) := PStack.call HS (Keep.refl _ _) (head_any w)

set_option maxHeartbeats 2000000 in
set_option maxRecDepth 100000 in
theorem link_any (w : World) : Calls Tryd.prog 89 #[] w (PRet w w.heap.size pLink) := by
  have HS := Lib.hid (PStack.start (Nat.le_refl w.heap.size))
  go_enter Tryd.func89, Tryd.ntmps89
  go_wp2_with fail
  refine (row_st HS [44, 12] rfl rfl (by decide)).mono ?_
  clear HS
  rintro e w' ⟨A0, n0, c0, rfl, HS⟩
  go_wp2_with fail
  refine (row_st HS [10] rfl rfl (by decide)).mono ?_
  clear HS
  rintro e w' ⟨A1, n1, c1, rfl, HS⟩
  go_wp2_with fail
  refine (some_st HS 0 (row [10]) rfl).mono ?_
  clear HS
  rintro e w' ⟨A2, n2, c2, rfl, HS⟩
  go_wp2_with fail
  refine (row_st HS [11, 45, 46, 47] rfl rfl (by decide)).mono ?_
  clear HS
  rintro e w' ⟨A3, n3, c3, rfl, HS⟩
  go_wp2_with fail
  refine (and_st HS [3, 1, 0] (andP [row [44, 12], some_ 2 (row [10]), row [11, 45, 46, 47]]) rfl rfl rfl (by decide) (by decide)).mono ?_
  clear HS
  rintro e w' ⟨A4, n4, c4, rfl, HS⟩
  go_wp2_with fail
  go_ret
  exact PStack.ret HS
theorem link_st {H : Nat} {w0 w : World} {L : List (Value × Parts)} (HS : Hid (PStack H w0 w L)) :
    Calls Tryd.prog 89 #[] w fun e w' => ∃ A m d, e = .returned (.slice A m d) ∧ Hid (PStack H w0 w' ((.slice A m d, pLink) :: L)) := PStack.call HS (Keep.refl _ _) (link_any w)

set_option maxHeartbeats 2000000 in
set_option maxRecDepth 100000 in
theorem report_any (A : Option Addr) (n c H : Nat) (T : Parts) (w : World) (h : PSl w (Fr H) A n c T) (hH : H ≤ w.heap.size) (hl : (pReport T).len ≤ 1000) : Calls Tryd.prog 83 #[.slice A n c] w (PRet w H (pReport T)) := by
  have HS := Lib.hid ((PStack.start hH).push (Keep.refl _ _) h (Nat.le_refl _))
  have HL := Lib.hid hl
  clear h hl
  go_enter Tryd.func83, Tryd.ntmps83
  go_wp2_with fail
  refine (row_st HS [7, 8, 4] rfl rfl (by decide)).mono ?_
  clear HS
  rintro e w' ⟨A1, n1, c1, rfl, HS⟩
  go_wp2_with fail
  refine (row_st HS [13, 14, 15, 16, 17, 18] rfl rfl (by decide)).mono ?_
  clear HS
  rintro e w' ⟨A2, n2, c2, rfl, HS⟩
  go_wp2_with fail
  refine (row_st HS [19] rfl rfl (by decide)).mono ?_
  clear HS
  rintro e w' ⟨A3, n3, c3, rfl, HS⟩
  go_wp2_with fail
  refine (some_st HS 0 (row [19]) rfl).mono ?_
  clear HS
  rintro e w' ⟨A4, n4, c4, rfl, HS⟩
  go_wp2_with fail
  refine (row_st HS [20, 21, 22, 23] rfl rfl (by decide)).mono ?_
  clear HS
  rintro e w' ⟨A5, n5, c5, rfl, HS⟩
  go_wp2_with fail
  refine (row_st HS [24] rfl rfl (by decide)).mono ?_
  clear HS
  rintro e w' ⟨A6, n6, c6, rfl, HS⟩
  go_wp2_with fail
  refine (some_st HS 0 (row [24]) rfl).mono ?_
  clear HS
  rintro e w' ⟨A7, n7, c7, rfl, HS⟩
  go_wp2_with fail
  refine (and_st HS [6, 7, 5, 3, 2, 0] (andP [row [7, 8, 4], T, row [13, 14, 15, 16, 17, 18], some_ 3 (row [19]), row [20, 21, 22, 23], some_ 2 (row [24])]) rfl rfl rfl (by decide) HL.out).mono ?_
  clear HS
  rintro e w' ⟨A8, n8, c8, rfl, HS⟩
  go_wp2_with fail
  go_ret
  exact PStack.ret HS
theorem report_st {H : Nat} {w0 w : World} {L : List (Value × Parts)} (HS : Hid (PStack H w0 w L)) {A : Option Addr} {n c : Nat} (i : Nat) (T : Parts) (hv : L.getD i zPart = (.slice A n c, T)) (hl : (pReport T).len ≤ 1000) :
    Calls Tryd.prog 83 #[.slice A n c] w fun e w' => ∃ A m d, e = .returned (.slice A m d) ∧ Hid (PStack H w0 w' ((.slice A m d, pReport T) :: L)) := by
  have h2 := HS.out
  obtain ⟨A', n', c', e, hp⟩ := PStack.at_ h2 i
  rw [hv] at e hp
  injection e with e1 e2 e3
  subst e1; subst e2; subst e3
  refine (report_any A n c H _ w hp (by have := h2.base; have := h2.keep.size; omega) hl).mono ?_
  rintro e w' ⟨A, m, d, rfl, h3, h4⟩
  exact ⟨A, m, d, rfl, Lib.hid (h2.push h4 h3 (Nat.le_refl _))⟩

set_option maxHeartbeats 2000000 in
set_option maxRecDepth 100000 in
theorem repeated_any (A : Option Addr) (n c H : Nat) (T : Parts) (w : World) (h : PSl w (Fr H) A n c T) (hH : H ≤ w.heap.size) (hl : (pRepeated T).len ≤ 1000) : Calls Tryd.prog 88 #[.slice A n c] w (PRet w H (pRepeated T)) := by
  have HS := Lib.hid ((PStack.start hH).push (Keep.refl _ _) h (Nat.le_refl _))
  have HL := Lib.hid hl
  clear h hl
  go_enter Tryd.func88, Tryd.ntmps88
  go_wp2_with fail
  refine (row_st HS [27] rfl rfl (by decide)).mono ?_
  clear HS
  rintro e w' ⟨A1, n1, c1, rfl, HS⟩
  go_wp2_with fail
  refine (some_st HS 1 T rfl).mono ?_
  clear HS
  rintro e w' ⟨A2, n2, c2, rfl, HS⟩
  go_wp2_with fail
  refine (and_st HS [2, 1, 0] (andP [T, row [27], some_ 1 T]) rfl rfl rfl (by decide) HL.out).mono ?_
  clear HS
  rintro e w' ⟨A3, n3, c3, rfl, HS⟩
  go_wp2_with fail
  go_ret
  exact PStack.ret HS
theorem repeated_st {H : Nat} {w0 w : World} {L : List (Value × Parts)} (HS : Hid (PStack H w0 w L)) {A : Option Addr} {n c : Nat} (i : Nat) (T : Parts) (hv : L.getD i zPart = (.slice A n c, T)) (hl : (pRepeated T).len ≤ 1000) :
    Calls Tryd.prog 88 #[.slice A n c] w fun e w' => ∃ A m d, e = .returned (.slice A m d) ∧ Hid (PStack H w0 w' ((.slice A m d, pRepeated T) :: L)) := by
  have h2 := HS.out
  obtain ⟨A', n', c', e, hp⟩ := PStack.at_ h2 i
  rw [hv] at e hp
  injection e with e1 e2 e3
  subst e1; subst e2; subst e3
  refine (repeated_any A n c H _ w hp (by have := h2.base; have := h2.keep.size; omega) hl).mono ?_
  rintro e w' ⟨A, m, d, rfl, h3, h4⟩
  exact ⟨A, m, d, rfl, Lib.hid (h2.push h4 h3 (Nat.le_refl _))⟩

set_option maxHeartbeats 2000000 in
set_option maxRecDepth 100000 in
theorem authority_any (w : World) : Calls Tryd.prog 90 #[] w (PRet w w.heap.size pAuthority) := by
  have HS := Lib.hid (PStack.start (Nat.le_refl w.heap.size))
  go_enter Tryd.func90, Tryd.ntmps90
  go_wp2_with fail
  refine (row_st HS [29] rfl rfl (by decide)).mono ?_
  clear HS
  rintro e w' ⟨A0, n0, c0, rfl, HS⟩
  go_wp2_with fail
  refine (row_st HS [30, 31] rfl rfl (by decide)).mono ?_
  clear HS
  rintro e w' ⟨A1, n1, c1, rfl, HS⟩
  go_wp2_with fail
  refine (some_st HS 0 (row [30, 31]) rfl).mono ?_
  clear HS
  rintro e w' ⟨A2, n2, c2, rfl, HS⟩
  go_wp2_with fail
  refine (and_st HS [2, 0] (andP [row [29], some_ 2 (row [30, 31])]) rfl rfl rfl (by decide) (by decide)).mono ?_
  clear HS
  rintro e w' ⟨A3, n3, c3, rfl, HS⟩
  go_wp2_with fail
  refine (row_st HS [28] rfl rfl (by decide)).mono ?_
  clear HS
  rintro e w' ⟨A4, n4, c4, rfl, HS⟩
  go_wp2_with fail
  refine (and_st HS [0, 1] (andP [row [28], andP [row [29], some_ 2 (row [30, 31])]]) rfl rfl rfl (by decide) (by decide)).mono ?_
  clear HS
  rintro e w' ⟨A5, n5, c5, rfl, HS⟩
  go_wp2_with fail
  refine (row_st HS [6, 7, 8, 25, 26, 27] rfl rfl (by decide)).mono ?_
  clear HS
  rintro e w' ⟨A6, n6, c6, rfl, HS⟩
  go_wp2_with fail
  refine (some_st HS 1 (andP [row [28], andP [row [29], some_ 2 (row [30, 31])]]) rfl).mono ?_
  clear HS
  rintro e w' ⟨A7, n7, c7, rfl, HS⟩
  go_wp2_with fail
  refine (row_st HS [32] rfl rfl (by decide)).mono ?_
  clear HS
  rintro e w' ⟨A8, n8, c8, rfl, HS⟩
  go_wp2_with fail
  refine (row_st HS [33] rfl rfl (by decide)).mono ?_
  clear HS
  rintro e w' ⟨A9, n9, c9, rfl, HS⟩
  go_wp2_with fail
  refine (row_st HS [34, 35] rfl rfl (by decide)).mono ?_
  clear HS
  rintro e w' ⟨A10, n10, c10, rfl, HS⟩
  go_wp2_with fail
  refine (some_st HS 0 (row [34, 35]) rfl).mono ?_
  clear HS
  rintro e w' ⟨A11, n11, c11, rfl, HS⟩
  go_wp2_with fail
  refine (row_st HS [36] rfl rfl (by decide)).mono ?_
  clear HS
  rintro e w' ⟨A12, n12, c12, rfl, HS⟩
  go_wp2_with fail
  refine (row_st HS [37, 38] rfl rfl (by decide)).mono ?_
  clear HS
  rintro e w' ⟨A13, n13, c13, rfl, HS⟩
  go_wp2_with fail
  refine (some_st HS 0 (row [37, 38]) rfl).mono ?_
  clear HS
  rintro e w' ⟨A14, n14, c14, rfl, HS⟩
  go_wp2_with fail
  refine (row_st HS [39] rfl rfl (by decide)).mono ?_
  clear HS
  rintro e w' ⟨A15, n15, c15, rfl, HS⟩
  go_wp2_with fail
  refine (row_st HS [40, 41, 42, 43] rfl rfl (by decide)).mono ?_
  clear HS
  rintro e w' ⟨A16, n16, c16, rfl, HS⟩
  go_wp2_with fail
  refine (some_st HS 0 (row [40, 41, 42, 43]) rfl).mono ?_
  clear HS
  rintro e w' ⟨A17, n17, c17, rfl, HS⟩
  go_wp2_with fail
  refine (and_st HS [11, 10, 9, 14, 8, 6, 5, 3, 2, 0] (andP [row [6, 7, 8, 25, 26, 27], some_ 1 (andP [row [28], andP [row [29], some_ 2 (row [30, 31])]]), row [32], andP [row [29], some_ 2 (row [30, 31])], row [33], some_ 2 (row [34, 35]), row [36], some_ 2 (row [37, 38]), row [39], some_ 2 (row [40, 41, 42, 43])]) rfl rfl rfl (by decide) (by decide)).mono ?_
  clear HS
  rintro e w' ⟨A18, n18, c18, rfl, HS⟩
  go_wp2_with fail
  go_ret
  exact PStack.ret HS
theorem authority_st {H : Nat} {w0 w : World} {L : List (Value × Parts)} (HS : Hid (PStack H w0 w L)) :
    Calls Tryd.prog 90 #[] w fun e w' => ∃ A m d, e = .returned (.slice A m d) ∧ Hid (PStack H w0 w' ((.slice A m d, pAuthority) :: L)) := PStack.call HS (Keep.refl _ _) (authority_any w)

set_option maxHeartbeats 2000000 in
set_option maxRecDepth 100000 in
theorem speeds_any (w : World) : Calls Tryd.prog 91 #[] w (PRet w w.heap.size pSpeeds) := by
  have HS := Lib.hid (PStack.start (Nat.le_refl w.heap.size))
  go_enter Tryd.func91, Tryd.ntmps91
  go_wp2_with fail
  refine (row_st HS [51, 52, 53, 27] rfl rfl (by decide)).mono ?_
  clear HS
  rintro e w' ⟨A0, n0, c0, rfl, HS⟩
  go_wp2_with fail
  refine (row_st HS [54, 55] rfl rfl (by decide)).mono ?_
  clear HS
  rintro e w' ⟨A1, n1, c1, rfl, HS⟩
  go_wp2_with fail
  refine (some_st HS 0 (row [54, 55]) rfl).mono ?_
  clear HS
  rintro e w' ⟨A2, n2, c2, rfl, HS⟩
  go_wp2_with fail
  refine (and_st HS [2, 0] (andP [row [51, 52, 53, 27], some_ 1 (row [54, 55])]) rfl rfl rfl (by decide) (by decide)).mono ?_
  clear HS
  rintro e w' ⟨A3, n3, c3, rfl, HS⟩
  go_wp2_with fail
  refine (head_st HS).mono ?_
  clear HS
  rintro e w' ⟨A4, n4, c4, rfl, HS⟩
  go_wp2_with fail
  refine (row_st HS [27] rfl rfl (by decide)).mono ?_
  clear HS
  rintro e w' ⟨A5, n5, c5, rfl, HS⟩
  go_wp2_with fail
  refine (some_st HS 2 (andP [row [51, 52, 53, 27], some_ 1 (row [54, 55])]) rfl).mono ?_
  clear HS
  rintro e w' ⟨A6, n6, c6, rfl, HS⟩
  go_wp2_with fail
  refine (and_st HS [2, 3, 1, 0] (andP [pHead, andP [row [51, 52, 53, 27], some_ 1 (row [54, 55])], row [27], some_ 1 (andP [row [51, 52, 53, 27], some_ 1 (row [54, 55])])]) rfl rfl rfl (by decide) (by decide)).mono ?_
  clear HS
  rintro e w' ⟨A7, n7, c7, rfl, HS⟩
  go_wp2_with fail
  go_ret
  exact PStack.ret HS
theorem speeds_st {H : Nat} {w0 w : World} {L : List (Value × Parts)} (HS : Hid (PStack H w0 w L)) :
    Calls Tryd.prog 91 #[] w fun e w' => ∃ A m d, e = .returned (.slice A m d) ∧ Hid (PStack H w0 w' ((.slice A m d, pSpeeds) :: L)) := PStack.call HS (Keep.refl _ _) (speeds_any w)

set_option maxHeartbeats 2000000 in
set_option maxRecDepth 100000 in
theorem parts_0 (w : World) : Calls Tryd.prog 74 #[.int .i64 0] w (PRet w w.heap.size (pReport Parts.nil)) := by
  have HS := Lib.hid (PStack.start (Nat.le_refl w.heap.size))
  go_enter Tryd.func74, Tryd.ntmps74
  go_wp2_with fail
  refine (report_st HS 1000 Parts.nil rfl (by decide)).mono ?_
  clear HS
  rintro e w' ⟨A0, n0, c0, rfl, HS⟩
  go_wp2_with fail
  go_ret
  exact PStack.ret HS

set_option maxHeartbeats 2000000 in
set_option maxRecDepth 100000 in
theorem parts_1 (w : World) : Calls Tryd.prog 74 #[.int .i64 1] w (PRet w w.heap.size (pReport (row [74]))) := by
  have HS := Lib.hid (PStack.start (Nat.le_refl w.heap.size))
  go_enter Tryd.func74, Tryd.ntmps74
  go_wp2_with fail
  refine (row_st HS [74] rfl rfl (by decide)).mono ?_
  clear HS
  rintro e w' ⟨A0, n0, c0, rfl, HS⟩
  go_wp2_with fail
  refine (report_st HS 0 (row [74]) rfl (by decide)).mono ?_
  clear HS
  rintro e w' ⟨A1, n1, c1, rfl, HS⟩
  go_wp2_with fail
  go_ret
  exact PStack.ret HS

set_option maxHeartbeats 2000000 in
set_option maxRecDepth 100000 in
theorem parts_3 (w : World) : Calls Tryd.prog 74 #[.int .i64 3] w (PRet w w.heap.size (andP [pHead, row [84, 27], some_ 1 (row [10]), row [85, 87, 86]])) := by
  have HS := Lib.hid (PStack.start (Nat.le_refl w.heap.size))
  go_enter Tryd.func74, Tryd.ntmps74
  go_wp2_with fail
  refine (head_st HS).mono ?_
  clear HS
  rintro e w' ⟨A0, n0, c0, rfl, HS⟩
  go_wp2_with fail
  refine (row_st HS [84, 27] rfl rfl (by decide)).mono ?_
  clear HS
  rintro e w' ⟨A1, n1, c1, rfl, HS⟩
  go_wp2_with fail
  refine (row_st HS [10] rfl rfl (by decide)).mono ?_
  clear HS
  rintro e w' ⟨A2, n2, c2, rfl, HS⟩
  go_wp2_with fail
  refine (some_st HS 0 (row [10]) rfl).mono ?_
  clear HS
  rintro e w' ⟨A3, n3, c3, rfl, HS⟩
  go_wp2_with fail
  refine (row_st HS [85, 87, 86] rfl rfl (by decide)).mono ?_
  clear HS
  rintro e w' ⟨A4, n4, c4, rfl, HS⟩
  go_wp2_with fail
  refine (and_st HS [4, 3, 1, 0] (andP [pHead, row [84, 27], some_ 1 (row [10]), row [85, 87, 86]]) rfl rfl rfl (by decide) (by decide)).mono ?_
  clear HS
  rintro e w' ⟨A5, n5, c5, rfl, HS⟩
  go_wp2_with fail
  go_ret
  exact PStack.ret HS

set_option maxHeartbeats 2000000 in
set_option maxRecDepth 100000 in
theorem parts_5 (w : World) : Calls Tryd.prog 74 #[.int .i64 5] w (PRet w w.heap.size (andP [pHead, pRepeated pLink])) := by
  have HS := Lib.hid (PStack.start (Nat.le_refl w.heap.size))
  go_enter Tryd.func74, Tryd.ntmps74
  go_wp2_with fail
  refine (head_st HS).mono ?_
  clear HS
  rintro e w' ⟨A0, n0, c0, rfl, HS⟩
  go_wp2_with fail
  refine (link_st HS).mono ?_
  clear HS
  rintro e w' ⟨A1, n1, c1, rfl, HS⟩
  go_wp2_with fail
  refine (repeated_st HS 0 pLink rfl (by decide)).mono ?_
  clear HS
  rintro e w' ⟨A2, n2, c2, rfl, HS⟩
  go_wp2_with fail
  refine (and_st HS [2, 0] (andP [pHead, pRepeated pLink]) rfl rfl rfl (by decide) (by decide)).mono ?_
  clear HS
  rintro e w' ⟨A3, n3, c3, rfl, HS⟩
  go_wp2_with fail
  go_ret
  exact PStack.ret HS

set_option maxHeartbeats 2000000 in
set_option maxRecDepth 100000 in
theorem parts_11 (w : World) : Calls Tryd.prog 74 #[.int .i64 11] w (PRet w w.heap.size (andP [row [7, 75, 76, 77, 78, 79, 80, 81, 27], some_ 1 (row [82]), row [27], some_ 1 (row [83])])) := by
  have HS := Lib.hid (PStack.start (Nat.le_refl w.heap.size))
  go_enter Tryd.func74, Tryd.ntmps74
  go_wp2_with fail
  refine (row_st HS [7, 75, 76, 77, 78, 79, 80, 81, 27] rfl rfl (by decide)).mono ?_
  clear HS
  rintro e w' ⟨A0, n0, c0, rfl, HS⟩
  go_wp2_with fail
  refine (row_st HS [82] rfl rfl (by decide)).mono ?_
  clear HS
  rintro e w' ⟨A1, n1, c1, rfl, HS⟩
  go_wp2_with fail
  refine (some_st HS 0 (row [82]) rfl).mono ?_
  clear HS
  rintro e w' ⟨A2, n2, c2, rfl, HS⟩
  go_wp2_with fail
  refine (row_st HS [27] rfl rfl (by decide)).mono ?_
  clear HS
  rintro e w' ⟨A3, n3, c3, rfl, HS⟩
  go_wp2_with fail
  refine (row_st HS [83] rfl rfl (by decide)).mono ?_
  clear HS
  rintro e w' ⟨A4, n4, c4, rfl, HS⟩
  go_wp2_with fail
  refine (some_st HS 0 (row [83]) rfl).mono ?_
  clear HS
  rintro e w' ⟨A5, n5, c5, rfl, HS⟩
  go_wp2_with fail
  refine (and_st HS [5, 3, 2, 0] (andP [row [7, 75, 76, 77, 78, 79, 80, 81, 27], some_ 1 (row [82]), row [27], some_ 1 (row [83])]) rfl rfl rfl (by decide) (by decide)).mono ?_
  clear HS
  rintro e w' ⟨A6, n6, c6, rfl, HS⟩
  go_wp2_with fail
  go_ret
  exact PStack.ret HS

set_option maxHeartbeats 2000000 in
set_option maxRecDepth 100000 in
theorem parts_15 (w : World) : Calls Tryd.prog 74 #[.int .i64 15] w (PRet w w.heap.size pAuthority) := by
  have HS := Lib.hid (PStack.start (Nat.le_refl w.heap.size))
  go_enter Tryd.func74, Tryd.ntmps74
  go_wp2_with fail
  refine (authority_st HS).mono ?_
  clear HS
  rintro e w' ⟨A0, n0, c0, rfl, HS⟩
  go_wp2_with fail
  go_ret
  exact PStack.ret HS

set_option maxHeartbeats 2000000 in
set_option maxRecDepth 100000 in
theorem parts_21 (w : World) : Calls Tryd.prog 74 #[.int .i64 21] w (PRet w w.heap.size (andP [pHead, pRepeated (row [48, 49, 50])])) := by
  have HS := Lib.hid (PStack.start (Nat.le_refl w.heap.size))
  go_enter Tryd.func74, Tryd.ntmps74
  go_wp2_with fail
  refine (head_st HS).mono ?_
  clear HS
  rintro e w' ⟨A0, n0, c0, rfl, HS⟩
  go_wp2_with fail
  refine (row_st HS [48, 49, 50] rfl rfl (by decide)).mono ?_
  clear HS
  rintro e w' ⟨A1, n1, c1, rfl, HS⟩
  go_wp2_with fail
  refine (repeated_st HS 0 (row [48, 49, 50]) rfl (by decide)).mono ?_
  clear HS
  rintro e w' ⟨A2, n2, c2, rfl, HS⟩
  go_wp2_with fail
  refine (and_st HS [2, 0] (andP [pHead, pRepeated (row [48, 49, 50])]) rfl rfl rfl (by decide) (by decide)).mono ?_
  clear HS
  rintro e w' ⟨A3, n3, c3, rfl, HS⟩
  go_wp2_with fail
  go_ret
  exact PStack.ret HS

set_option maxHeartbeats 2000000 in
set_option maxRecDepth 100000 in
theorem parts_27 (w : World) : Calls Tryd.prog 74 #[.int .i64 27] w (PRet w w.heap.size pSpeeds) := by
  have HS := Lib.hid (PStack.start (Nat.le_refl w.heap.size))
  go_enter Tryd.func74, Tryd.ntmps74
  go_wp2_with fail
  refine (speeds_st HS).mono ?_
  clear HS
  rintro e w' ⟨A0, n0, c0, rfl, HS⟩
  go_wp2_with fail
  go_ret
  exact PStack.ret HS

set_option maxHeartbeats 2000000 in
set_option maxRecDepth 100000 in
theorem parts_42 (w : World) : Calls Tryd.prog 74 #[.int .i64 42] w (PRet w w.heap.size (row [6, 7, 62, 10, 63, 64, 64, 65])) := by
  have HS := Lib.hid (PStack.start (Nat.le_refl w.heap.size))
  go_enter Tryd.func74, Tryd.ntmps74
  go_wp2_with fail
  refine (row_st HS [6, 7, 62, 10, 63, 64, 64, 65] rfl rfl (by decide)).mono ?_
  clear HS
  rintro e w' ⟨A0, n0, c0, rfl, HS⟩
  go_wp2_with fail
  go_ret
  exact PStack.ret HS

set_option maxHeartbeats 2000000 in
set_option maxRecDepth 100000 in
theorem parts_57 (w : World) : Calls Tryd.prog 74 #[.int .i64 57] w (PRet w w.heap.size (row [6, 7, 66, 67, 68])) := by
  have HS := Lib.hid (PStack.start (Nat.le_refl w.heap.size))
  go_enter Tryd.func74, Tryd.ntmps74
  go_wp2_with fail
  refine (row_st HS [6, 7, 66, 67, 68] rfl rfl (by decide)).mono ?_
  clear HS
  rintro e w' ⟨A0, n0, c0, rfl, HS⟩
  go_wp2_with fail
  go_ret
  exact PStack.ret HS

set_option maxHeartbeats 2000000 in
set_option maxRecDepth 100000 in
theorem parts_58 (w : World) : Calls Tryd.prog 74 #[.int .i64 58] w (PRet w w.heap.size (andP [pHead, row [69, 70, 71, 27], some_ 1 (row [72, 73])])) := by
  have HS := Lib.hid (PStack.start (Nat.le_refl w.heap.size))
  go_enter Tryd.func74, Tryd.ntmps74
  go_wp2_with fail
  refine (head_st HS).mono ?_
  clear HS
  rintro e w' ⟨A0, n0, c0, rfl, HS⟩
  go_wp2_with fail
  refine (row_st HS [69, 70, 71, 27] rfl rfl (by decide)).mono ?_
  clear HS
  rintro e w' ⟨A1, n1, c1, rfl, HS⟩
  go_wp2_with fail
  refine (row_st HS [72, 73] rfl rfl (by decide)).mono ?_
  clear HS
  rintro e w' ⟨A2, n2, c2, rfl, HS⟩
  go_wp2_with fail
  refine (some_st HS 0 (row [72, 73]) rfl).mono ?_
  clear HS
  rintro e w' ⟨A3, n3, c3, rfl, HS⟩
  go_wp2_with fail
  refine (and_st HS [3, 2, 0] (andP [pHead, row [69, 70, 71, 27], some_ 1 (row [72, 73])]) rfl rfl rfl (by decide) (by decide)).mono ?_
  clear HS
  rintro e w' ⟨A4, n4, c4, rfl, HS⟩
  go_wp2_with fail
  go_ret
  exact PStack.ret HS

set_option maxHeartbeats 2000000 in
set_option maxRecDepth 100000 in
theorem parts_80 (w : World) : Calls Tryd.prog 74 #[.int .i64 80] w (PRet w w.heap.size (andP [pHead, pRepeated (row [56, 57, 58, 59, 60, 61])])) := by
  have HS := Lib.hid (PStack.start (Nat.le_refl w.heap.size))
  go_enter Tryd.func74, Tryd.ntmps74
  go_wp2_with fail
  refine (head_st HS).mono ?_
  clear HS
  rintro e w' ⟨A0, n0, c0, rfl, HS⟩
  go_wp2_with fail
  refine (row_st HS [56, 57, 58, 59, 60, 61] rfl rfl (by decide)).mono ?_
  clear HS
  rintro e w' ⟨A1, n1, c1, rfl, HS⟩
  go_wp2_with fail
  refine (repeated_st HS 0 (row [56, 57, 58, 59, 60, 61]) rfl (by decide)).mono ?_
  clear HS
  rintro e w' ⟨A2, n2, c2, rfl, HS⟩
  go_wp2_with fail
  refine (and_st HS [2, 0] (andP [pHead, pRepeated (row [56, 57, 58, 59, 60, 61])]) rfl rfl rfl (by decide) (by decide)).mono ?_
  clear HS
  rintro e w' ⟨A3, n3, c3, rfl, HS⟩
  go_wp2_with fail
  go_ret
  exact PStack.ret HS

set_option maxHeartbeats 2000000 in
set_option maxRecDepth 100000 in
theorem parts_none (id : Int) (h : ptree id = none) (w : World) : Calls Tryd.prog 74 #[.int .i64 id] w fun e w' => e = .returned (.slice none 0 0) ∧ w = w' := by
  have hs : id ≠ 0 ∧ id ≠ 1 ∧ id ≠ 3 ∧ id ≠ 5 ∧ id ≠ 11 ∧ id ≠ 15 ∧ id ≠ 21 ∧ id ≠ 27 ∧ id ≠ 42 ∧ id ≠ 57 ∧ id ≠ 58 ∧ id ≠ 80 := ⟨(by rintro rfl; have h1 : some _ = none := h; cases h1), (by rintro rfl; have h1 : some _ = none := h; cases h1), (by rintro rfl; have h1 : some _ = none := h; cases h1), (by rintro rfl; have h1 : some _ = none := h; cases h1), (by rintro rfl; have h1 : some _ = none := h; cases h1), (by rintro rfl; have h1 : some _ = none := h; cases h1), (by rintro rfl; have h1 : some _ = none := h; cases h1), (by rintro rfl; have h1 : some _ = none := h; cases h1), (by rintro rfl; have h1 : some _ = none := h; cases h1), (by rintro rfl; have h1 : some _ = none := h; cases h1), (by rintro rfl; have h1 : some _ = none := h; cases h1), (by rintro rfl; have h1 : some _ = none := h; cases h1)⟩
  obtain ⟨g0, g1, g3, g5, g11, g15, g21, g27, g42, g57, g58, g80⟩ := hs
  clear h
  have k0 : (id == 0) = false := by simpa using g0
  have k1 : (id == 1) = false := by simpa using g1
  have k3 : (id == 3) = false := by simpa using g3
  have k5 : (id == 5) = false := by simpa using g5
  have k11 : (id == 11) = false := by simpa using g11
  have k15 : (id == 15) = false := by simpa using g15
  have k21 : (id == 21) = false := by simpa using g21
  have k27 : (id == 27) = false := by simpa using g27
  have k42 : (id == 42) = false := by simpa using g42
  have k57 : (id == 57) = false := by simpa using g57
  have k58 : (id == 58) = false := by simpa using g58
  have k80 : (id == 80) = false := by simpa using g80
  go_enter Tryd.func74, Tryd.ntmps74
  go_wp2_with fail
  go_ret
  exact ⟨rfl, rfl⟩
theorem parts_some (id : Int) (T : Parts) (h : ptree id = some T) (w : World) : Calls Tryd.prog 74 #[.int .i64 id] w (PRet w w.heap.size T) := by
  unfold ptree at h
  by_cases g0 : id = 0
  · rw [if_pos g0] at h; injection h with h; subst h; subst g0; exact parts_0 w
  rw [if_neg g0] at h
  by_cases g1 : id = 1
  · rw [if_pos g1] at h; injection h with h; subst h; subst g1; exact parts_1 w
  rw [if_neg g1] at h
  by_cases g3 : id = 3
  · rw [if_pos g3] at h; injection h with h; subst h; subst g3; exact parts_3 w
  rw [if_neg g3] at h
  by_cases g5 : id = 5
  · rw [if_pos g5] at h; injection h with h; subst h; subst g5; exact parts_5 w
  rw [if_neg g5] at h
  by_cases g11 : id = 11
  · rw [if_pos g11] at h; injection h with h; subst h; subst g11; exact parts_11 w
  rw [if_neg g11] at h
  by_cases g15 : id = 15
  · rw [if_pos g15] at h; injection h with h; subst h; subst g15; exact parts_15 w
  rw [if_neg g15] at h
  by_cases g21 : id = 21
  · rw [if_pos g21] at h; injection h with h; subst h; subst g21; exact parts_21 w
  rw [if_neg g21] at h
  by_cases g27 : id = 27
  · rw [if_pos g27] at h; injection h with h; subst h; subst g27; exact parts_27 w
  rw [if_neg g27] at h
  by_cases g42 : id = 42
  · rw [if_pos g42] at h; injection h with h; subst h; subst g42; exact parts_42 w
  rw [if_neg g42] at h
  by_cases g57 : id = 57
  · rw [if_pos g57] at h; injection h with h; subst h; subst g57; exact parts_57 w
  rw [if_neg g57] at h
  by_cases g58 : id = 58
  · rw [if_pos g58] at h; injection h with h; subst h; subst g58; exact parts_58 w
  rw [if_neg g58] at h
  by_cases g80 : id = 80
  · rw [if_pos g80] at h; injection h with h; subst h; subst g80; exact parts_80 w
  rw [if_neg g80] at h
  cases h

end Go.Proofs.YtiebjnibmomcjaaDoor
