/- strings.Cut at one byte. -/
import Derived.Test.YtddmfjcimanilaaDoorBitsM
import Derived.Lib.Walk
import Derived.Lib.Bytealg
import Derived.Lib.IndexBytes
import Derived.Lib.CutLaws
import Derived.Deep.Draws
namespace Go.Proofs.YtddmfjcimanilaaDoor
open Go.RowKit

theorem indexbyte_any (s : ByteArray) (c : Int) (w : World) :
    Calls Tryd.prog 27 #[.string s, .int .u8 c] w fun e w' => e = .returned (.int .i64 (Lib.indexByte s.data.toList c.toNat.toUInt8)) ∧ w' = w := by
  go_enter Tryd.func27, Tryd.ntmps27
  go_wp2
  rw [run_callFunc_extern Tryd.func31 (by kernel_rfl) (by kernel_rfl) (by kernel_rfl) (e := Extern.BytealgIndexByte.indexByte) (by kernel_rfl), Lib.run_indexByteString]
  simp only [Result.andThen]
  rw [Oper.upon_value]
  go_wp2
  go_ret
  exact ⟨rfl, rfl⟩

set_option maxHeartbeats 2000000 in
set_option maxRecDepth 100000 in
theorem indexone_any (s : ByteArray) (c : UInt8) (w : World) :
    Calls Tryd.prog 26 #[.string s, .string ⟨#[c]⟩] w fun e w' => e = .returned (.int .i64 (Lib.indexByte s.data.toList c)) ∧ w' = w := by
  go_enter Tryd.func26, Tryd.ntmps26
  go_wp2_with (go_at_call 27; refine (indexbyte_any _ _ _).mono ?_; rintro e w' ⟨rfl, rfl⟩)
  · have h : ([c] == s.toList) = true := by assumption
    go_ret
    refine ⟨?_, rfl⟩
    have e : s.data.toList = [c] := by rw [← Lib.toList_data]; exact (beq_iff_eq.1 h).symm
    rw [e]
    simp [Lib.indexByte]
  · go_ret
    exact ⟨rfl, rfl⟩

theorem index_any (s : ByteArray) (c : UInt8) (w : World) :
    Calls Tryd.prog 26 #[.string s, .string ⟨#[c]⟩] w fun e w' => e = .returned (.int .i64 (Lib.index s.data.toList [c])) ∧ w' = w := by
  have h : Lib.index s.data.toList [c] = Lib.indexByte s.data.toList c := by
    have h1 := Lib.one s ⟨#[c]⟩ rfl
    have h2 : ((c.toNat : Int)).toNat.toUInt8 = c := by rw [Int.toNat_natCast]; exact UInt8.ofNat_toNat
    exact h1.trans (congrArg (Lib.indexByte s.data.toList) h2)
  rw [h]
  exact indexone_any s c w

/-- cut at a byte, over lists -/
def cutL (c : UInt8) (l : List UInt8) : List UInt8 × List UInt8 := (l.takeWhile (· ≠ c), (l.dropWhile (· ≠ c)).drop 1)

theorem scut_any (s : ByteArray) (hs : s.size ≤ 9223372036854775807) (c : UInt8) (w : World) :
    Calls Tryd.prog 25 #[.string s, .string ⟨#[c]⟩] w fun e w' => ∃ b, e = .returned (.tuple #[.string ⟨(Lib.cut s.data.toList [c]).1.toArray⟩, .string ⟨(Lib.cut s.data.toList [c]).2.1.toArray⟩, .bool b]) ∧ ∃ n, w' = w.drewN n := by
  rcases Lib.indexB_cases s ⟨#[c]⟩ with hix | ⟨i, hix, hroom⟩
  · obtain ⟨e1, e2, e3⟩ := Lib.cutB_miss s ⟨#[c]⟩ hix
    rw [show (⟨(Lib.cut s.data.toList [c]).1.toArray⟩ : ByteArray) = s from e1, show (⟨(Lib.cut s.data.toList [c]).2.1.toArray⟩ : ByteArray) = ByteArray.empty from e2]
    have hI := Lib.hid (fun w => index_any s c w)
    rw [show Lib.index s.data.toList [c] = -1 from hix] at hI
    clear hix e1 e2 e3
    go_enter Tryd.func25, Tryd.ntmps25
    go_wp2_with (go_at_call 26; refine (hI.out _).mono ?_; rintro e w' ⟨rfl, rfl⟩)
    go_ret3
    exact ⟨_, rfl, 0, rfl⟩
  · obtain ⟨e1, e2, e3⟩ := Lib.cutB_hit s ⟨#[c]⟩ i hix
    rw [show (⟨(Lib.cut s.data.toList [c]).1.toArray⟩ : ByteArray) = _ from e1, show (⟨(Lib.cut s.data.toList [c]).2.1.toArray⟩ : ByteArray) = _ from e2]
    have hI := Lib.hid (fun w => index_any s c w)
    rw [show Lib.index s.data.toList [c] = i from hix] at hI
    have hroom : i + 1 ≤ s.size := hroom
    rw [show (⟨#[c]⟩ : ByteArray).size = 1 from rfl]
    have c1 : (0 : Int) ≤ ↑i := by omega
    have c2 : (↑i : Int) ≤ ↑s.size := by omega
    have c3 : (0 : Int) ≤ ↑i + 1 := by omega
    have c4 : (↑i + 1 : Int) ≤ ↑s.size := by omega
    clear hix e1 e2 e3
    go_enter Tryd.func25, Tryd.ntmps25
    go_wp2_with (go_at_call 26; refine (hI.out _).mono ?_; rintro e w' ⟨rfl, rfl⟩)
    go_region
    all_goals go_wp2
    all_goals go_ret3
    all_goals exact ⟨_, rfl, 1, rfl⟩

theorem cut_any (s : ByteArray) (hs : s.size ≤ 9223372036854775807) (c : UInt8) (w : World) :
    Calls Tryd.prog 23 #[.string s, .string ⟨#[c]⟩] w fun e w' => ∃ b, e = .returned (.tuple #[.string ⟨(Lib.cut s.data.toList [c]).1.toArray⟩, .string ⟨(Lib.cut s.data.toList [c]).2.1.toArray⟩, .bool b]) ∧ ∃ n, w' = w.drewN n := by
  have hc := Lib.hid (scut_any s hs c w)
  generalize (⟨(Lib.cut s.data.toList [c]).1.toArray⟩ : ByteArray) = x at *
  generalize (⟨(Lib.cut s.data.toList [c]).2.1.toArray⟩ : ByteArray) = y at *
  go_enter Tryd.func23, Tryd.ntmps23
  go_wp2_with (go_at_call 25; refine hc.out.mono ?_; rintro e w' ⟨b, rfl, n, rfl⟩)
  go_ret3
  exact ⟨_, rfl, n, rfl⟩
end Go.Proofs.YtddmfjcimanilaaDoor
