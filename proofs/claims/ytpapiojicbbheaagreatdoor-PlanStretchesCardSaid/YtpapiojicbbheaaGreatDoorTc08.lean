/- Texts of this claim, together: PackQ, PackE, PackV, PackG, PackI, PackC. -/
import Derived.Test.YtpapiojicbbheaaGreatDoorTc07
import Derived.Test.YtpapiojicbbheaaGreatDoorTc00
import Derived.Deep.RegionHeld3
import Derived.Recover
import Derived.StillTailTactics
import Derived.Great.Walk
import Derived.Lib.Walk
import Derived.Lib.Bytealg
import Derived.Lib.IndexBytes
import Derived.Lib.CutLaws
import Derived.Deep.Draws
import Derived.Deep.RegionLaw
import Derived.Defers
namespace Go.Proofs.YtpapiojicbbheaaGreatDoor
open Go.RowKit
set_option maxHeartbeats 2000000 in
set_option maxRecDepth 100000 in
theorem head_any (w:World):Calls Tryz.prog 196 #[] w (PRet w w.heap.size pHead):=by
 have HS:=qh (PStack.start (Nat.le_refl w.heap.size))
 go_enter Tryz.func196, Tryz.ntmps196
 go_wp2_with fail
 refine(row_st HS [6,7,8] rfl rfl (by decide)).mono ?_
 clear HS
 rintro e w' ⟨A0,n0,c0,rfl,HS⟩
 go_wp2_with fail
 go_ret
 exact PStack.ret HS
theorem head_st {H:Nat}{w0 w:World}{L:List (Value×Parts)} (HS:Hid (PStack H w0 w L)) :
    Calls Tryz.prog 196 #[] w fun e w'=>∃A m d,e=.returned (.slice A m d)∧Hid (PStack H w0 w' ((.slice A m d,pHead)::L)):=PStack.call HS (Keep.refl _ _) (head_any w)
set_option maxHeartbeats 2000000 in
set_option maxRecDepth 100000 in
theorem link_any (w:World):Calls Tryz.prog 199 #[] w (PRet w w.heap.size pLink):=by
 have HS:=qh (PStack.start (Nat.le_refl w.heap.size))
 go_enter Tryz.func199, Tryz.ntmps199
 go_wp2_with fail
 refine(row_st HS [44,12] rfl rfl (by decide)).mono ?_
 clear HS
 rintro e w' ⟨A0,n0,c0,rfl,HS⟩
 go_wp2_with fail
 refine(row_st HS [10] rfl rfl (by decide)).mono ?_
 clear HS
 rintro e w' ⟨A1,n1,c1,rfl,HS⟩
 go_wp2_with fail
 refine(some_st HS 0 (row [10]) rfl).mono ?_
 clear HS
 rintro e w' ⟨A2,n2,c2,rfl,HS⟩
 go_wp2_with fail
 refine(row_st HS [11,45,46,47] rfl rfl (by decide)).mono ?_
 clear HS
 rintro e w' ⟨A3,n3,c3,rfl,HS⟩
 go_wp2_with fail
 refine(and_st HS [3,1,0] (andP [row [44,12],some_ 2 (row [10]),row [11,45,46,47]]) rfl rfl rfl (by decide) (by decide)).mono ?_
 clear HS
 rintro e w' ⟨A4,n4,c4,rfl,HS⟩
 go_wp2_with fail
 go_ret
 exact PStack.ret HS
theorem link_st {H:Nat}{w0 w:World}{L:List (Value×Parts)} (HS:Hid (PStack H w0 w L)) :
    Calls Tryz.prog 199 #[] w fun e w'=>∃A m d,e=.returned (.slice A m d)∧Hid (PStack H w0 w' ((.slice A m d,pLink)::L)):=PStack.call HS (Keep.refl _ _) (link_any w)
set_option maxHeartbeats 2000000 in
set_option maxRecDepth 100000 in
theorem report_any (A:Option Addr) (n c H:Nat) (T:Parts) (w:World) (h:PSl w (Fr H) A n c T) (hH:H≤w.heap.size) (hl:(pReport T).len≤1000):Calls Tryz.prog 193 #[.slice A n c] w (PRet w H (pReport T)):=by
 have HS:=qh ((PStack.start hH).push (Keep.refl _ _) h (Nat.le_refl _))
 have HL:=qh hl
 clear h hl
 go_enter Tryz.func193, Tryz.ntmps193
 go_wp2_with fail
 refine(row_st HS [7,8,4] rfl rfl (by decide)).mono ?_
 clear HS
 rintro e w' ⟨A1,n1,c1,rfl,HS⟩
 go_wp2_with fail
 refine(row_st HS [13,14,15,16,17,18] rfl rfl (by decide)).mono ?_
 clear HS
 rintro e w' ⟨A2,n2,c2,rfl,HS⟩
 go_wp2_with fail
 refine(row_st HS [19] rfl rfl (by decide)).mono ?_
 clear HS
 rintro e w' ⟨A3,n3,c3,rfl,HS⟩
 go_wp2_with fail
 refine(some_st HS 0 (row [19]) rfl).mono ?_
 clear HS
 rintro e w' ⟨A4,n4,c4,rfl,HS⟩
 go_wp2_with fail
 refine(row_st HS [20,21,22,23] rfl rfl (by decide)).mono ?_
 clear HS
 rintro e w' ⟨A5,n5,c5,rfl,HS⟩
 go_wp2_with fail
 refine(row_st HS [24] rfl rfl (by decide)).mono ?_
 clear HS
 rintro e w' ⟨A6,n6,c6,rfl,HS⟩
 go_wp2_with fail
 refine(some_st HS 0 (row [24]) rfl).mono ?_
 clear HS
 rintro e w' ⟨A7,n7,c7,rfl,HS⟩
 go_wp2_with fail
 refine(and_st HS [6,7,5,3,2,0] (andP [row [7,8,4],T,row [13,14,15,16,17,18],some_ 3 (row [19]),row [20,21,22,23],some_ 2 (row [24])]) rfl rfl rfl (by decide) HL.out).mono ?_
 clear HS
 rintro e w' ⟨A8,n8,c8,rfl,HS⟩
 go_wp2_with fail
 go_ret
 exact PStack.ret HS
theorem report_st {H:Nat}{w0 w:World}{L:List (Value×Parts)} (HS:Hid (PStack H w0 w L)) {A:Option Addr}{n c:Nat} (i:Nat) (T:Parts) (hv:L.getD i zPart=(.slice A n c,T)) (hl:(pReport T).len≤1000) :
    Calls Tryz.prog 193 #[.slice A n c] w fun e w'=>∃A m d,e=.returned (.slice A m d)∧Hid (PStack H w0 w' ((.slice A m d,pReport T)::L)):=by
  have h2:=HS.out
  obtain⟨A',n',c',e,hp⟩:=PStack.at_ h2 i
  rw[hv] at e hp
  injection e with e1 e2 e3
  subst e1;subst e2;subst e3
  refine(report_any A n c H _ w hp (by have:=h2.base;have:=h2.keep.size;omega) hl).mono ?_
  rintro e w' ⟨A,m,d,rfl,h3,h4⟩
  exact⟨A,m,d,rfl,qh (h2.push h4 h3 (Nat.le_refl _))⟩
set_option maxHeartbeats 2000000 in
set_option maxRecDepth 100000 in
theorem repeated_any (A:Option Addr) (n c H:Nat) (T:Parts) (w:World) (h:PSl w (Fr H) A n c T) (hH:H≤w.heap.size) (hl:(pRepeated T).len≤1000):Calls Tryz.prog 198 #[.slice A n c] w (PRet w H (pRepeated T)):=by
 have HS:=qh ((PStack.start hH).push (Keep.refl _ _) h (Nat.le_refl _))
 have HL:=qh hl
 clear h hl
 go_enter Tryz.func198, Tryz.ntmps198
 go_wp2_with fail
 refine(row_st HS [27] rfl rfl (by decide)).mono ?_
 clear HS
 rintro e w' ⟨A1,n1,c1,rfl,HS⟩
 go_wp2_with fail
 refine(some_st HS 1 T rfl).mono ?_
 clear HS
 rintro e w' ⟨A2,n2,c2,rfl,HS⟩
 go_wp2_with fail
 refine(and_st HS [2,1,0] (andP [T,row [27],some_ 1 T]) rfl rfl rfl (by decide) HL.out).mono ?_
 clear HS
 rintro e w' ⟨A3,n3,c3,rfl,HS⟩
 go_wp2_with fail
 go_ret
 exact PStack.ret HS
theorem repeated_st {H:Nat}{w0 w:World}{L:List (Value×Parts)} (HS:Hid (PStack H w0 w L)) {A:Option Addr}{n c:Nat} (i:Nat) (T:Parts) (hv:L.getD i zPart=(.slice A n c,T)) (hl:(pRepeated T).len≤1000) :
    Calls Tryz.prog 198 #[.slice A n c] w fun e w'=>∃A m d,e=.returned (.slice A m d)∧Hid (PStack H w0 w' ((.slice A m d,pRepeated T)::L)):=by
  have h2:=HS.out
  obtain⟨A',n',c',e,hp⟩:=PStack.at_ h2 i
  rw[hv] at e hp
  injection e with e1 e2 e3
  subst e1;subst e2;subst e3
  refine(repeated_any A n c H _ w hp (by have:=h2.base;have:=h2.keep.size;omega) hl).mono ?_
  rintro e w' ⟨A,m,d,rfl,h3,h4⟩
  exact⟨A,m,d,rfl,qh (h2.push h4 h3 (Nat.le_refl _))⟩
set_option maxHeartbeats 2000000 in
set_option maxRecDepth 100000 in
theorem authority_any (w:World):Calls Tryz.prog 200 #[] w (PRet w w.heap.size pAuthority):=by
 have HS:=qh (PStack.start (Nat.le_refl w.heap.size))
 go_enter Tryz.func200, Tryz.ntmps200
 go_wp2_with fail
 refine(row_st HS [29] rfl rfl (by decide)).mono ?_
 clear HS
 rintro e w' ⟨A0,n0,c0,rfl,HS⟩
 go_wp2_with fail
 refine(row_st HS [30,31] rfl rfl (by decide)).mono ?_
 clear HS
 rintro e w' ⟨A1,n1,c1,rfl,HS⟩
 go_wp2_with fail
 refine(some_st HS 0 (row [30,31]) rfl).mono ?_
 clear HS
 rintro e w' ⟨A2,n2,c2,rfl,HS⟩
 go_wp2_with fail
 refine(and_st HS [2,0] (andP [row [29],some_ 2 (row [30,31])]) rfl rfl rfl (by decide) (by decide)).mono ?_
 clear HS
 rintro e w' ⟨A3,n3,c3,rfl,HS⟩
 go_wp2_with fail
 refine(row_st HS [28] rfl rfl (by decide)).mono ?_
 clear HS
 rintro e w' ⟨A4,n4,c4,rfl,HS⟩
 go_wp2_with fail
 refine(and_st HS [0,1] (andP [row [28],andP [row [29],some_ 2 (row [30,31])]]) rfl rfl rfl (by decide) (by decide)).mono ?_
 clear HS
 rintro e w' ⟨A5,n5,c5,rfl,HS⟩
 go_wp2_with fail
 refine(row_st HS [6,7,8,25,26,27] rfl rfl (by decide)).mono ?_
 clear HS
 rintro e w' ⟨A6,n6,c6,rfl,HS⟩
 go_wp2_with fail
 refine(some_st HS 1 (andP [row [28],andP [row [29],some_ 2 (row [30,31])]]) rfl).mono ?_
 clear HS
 rintro e w' ⟨A7,n7,c7,rfl,HS⟩
 go_wp2_with fail
 refine(row_st HS [32] rfl rfl (by decide)).mono ?_
 clear HS
 rintro e w' ⟨A8,n8,c8,rfl,HS⟩
 go_wp2_with fail
 refine(row_st HS [33] rfl rfl (by decide)).mono ?_
 clear HS
 rintro e w' ⟨A9,n9,c9,rfl,HS⟩
 go_wp2_with fail
 refine(row_st HS [34,35] rfl rfl (by decide)).mono ?_
 clear HS
 rintro e w' ⟨A10,n10,c10,rfl,HS⟩
 go_wp2_with fail
 refine(some_st HS 0 (row [34,35]) rfl).mono ?_
 clear HS
 rintro e w' ⟨A11,n11,c11,rfl,HS⟩
 go_wp2_with fail
 refine(row_st HS [36] rfl rfl (by decide)).mono ?_
 clear HS
 rintro e w' ⟨A12,n12,c12,rfl,HS⟩
 go_wp2_with fail
 refine(row_st HS [37,38] rfl rfl (by decide)).mono ?_
 clear HS
 rintro e w' ⟨A13,n13,c13,rfl,HS⟩
 go_wp2_with fail
 refine(some_st HS 0 (row [37,38]) rfl).mono ?_
 clear HS
 rintro e w' ⟨A14,n14,c14,rfl,HS⟩
 go_wp2_with fail
 refine(row_st HS [39] rfl rfl (by decide)).mono ?_
 clear HS
 rintro e w' ⟨A15,n15,c15,rfl,HS⟩
 go_wp2_with fail
 refine(row_st HS [40,41,42,43] rfl rfl (by decide)).mono ?_
 clear HS
 rintro e w' ⟨A16,n16,c16,rfl,HS⟩
 go_wp2_with fail
 refine(some_st HS 0 (row [40,41,42,43]) rfl).mono ?_
 clear HS
 rintro e w' ⟨A17,n17,c17,rfl,HS⟩
 go_wp2_with fail
 refine(and_st HS [11,10,9,14,8,6,5,3,2,0] (andP [row [6,7,8,25,26,27],some_ 1 (andP [row [28],andP [row [29],some_ 2 (row [30,31])]]),row [32],andP [row [29],some_ 2 (row [30,31])],row [33],some_ 2 (row [34,35]),row [36],some_ 2 (row [37,38]),row [39],some_ 2 (row [40,41,42,43])]) rfl rfl rfl (by decide) (by decide)).mono ?_
 clear HS
 rintro e w' ⟨A18,n18,c18,rfl,HS⟩
 go_wp2_with fail
 go_ret
 exact PStack.ret HS
theorem authority_st {H:Nat}{w0 w:World}{L:List (Value×Parts)} (HS:Hid (PStack H w0 w L)) :
    Calls Tryz.prog 200 #[] w fun e w'=>∃A m d,e=.returned (.slice A m d)∧Hid (PStack H w0 w' ((.slice A m d,pAuthority)::L)):=PStack.call HS (Keep.refl _ _) (authority_any w)
set_option maxHeartbeats 2000000 in
set_option maxRecDepth 100000 in
theorem speeds_any (w:World):Calls Tryz.prog 201 #[] w (PRet w w.heap.size pSpeeds):=by
 have HS:=qh (PStack.start (Nat.le_refl w.heap.size))
 go_enter Tryz.func201, Tryz.ntmps201
 go_wp2_with fail
 refine(row_st HS [51,52,53,27] rfl rfl (by decide)).mono ?_
 clear HS
 rintro e w' ⟨A0,n0,c0,rfl,HS⟩
 go_wp2_with fail
 refine(row_st HS [54,55] rfl rfl (by decide)).mono ?_
 clear HS
 rintro e w' ⟨A1,n1,c1,rfl,HS⟩
 go_wp2_with fail
 refine(some_st HS 0 (row [54,55]) rfl).mono ?_
 clear HS
 rintro e w' ⟨A2,n2,c2,rfl,HS⟩
 go_wp2_with fail
 refine(and_st HS [2,0] (andP [row [51,52,53,27],some_ 1 (row [54,55])]) rfl rfl rfl (by decide) (by decide)).mono ?_
 clear HS
 rintro e w' ⟨A3,n3,c3,rfl,HS⟩
 go_wp2_with fail
 refine(head_st HS).mono ?_
 clear HS
 rintro e w' ⟨A4,n4,c4,rfl,HS⟩
 go_wp2_with fail
 refine(row_st HS [27] rfl rfl (by decide)).mono ?_
 clear HS
 rintro e w' ⟨A5,n5,c5,rfl,HS⟩
 go_wp2_with fail
 refine(some_st HS 2 (andP [row [51,52,53,27],some_ 1 (row [54,55])]) rfl).mono ?_
 clear HS
 rintro e w' ⟨A6,n6,c6,rfl,HS⟩
 go_wp2_with fail
 refine(and_st HS [2,3,1,0] (andP [pHead,andP [row [51,52,53,27],some_ 1 (row [54,55])],row [27],some_ 1 (andP [row [51,52,53,27],some_ 1 (row [54,55])])]) rfl rfl rfl (by decide) (by decide)).mono ?_
 clear HS
 rintro e w' ⟨A7,n7,c7,rfl,HS⟩
 go_wp2_with fail
 go_ret
 exact PStack.ret HS
theorem speeds_st {H:Nat}{w0 w:World}{L:List (Value×Parts)} (HS:Hid (PStack H w0 w L)) :
    Calls Tryz.prog 201 #[] w fun e w'=>∃A m d,e=.returned (.slice A m d)∧Hid (PStack H w0 w' ((.slice A m d,pSpeeds)::L)):=PStack.call HS (Keep.refl _ _) (speeds_any w)
set_option maxHeartbeats 2000000 in
set_option maxRecDepth 100000 in
theorem parts_0 (w:World):Calls Tryz.prog 164 #[.int .i64 0] w (PRet w w.heap.size (pReport Parts.nil)):=by
 have HS:=qh (PStack.start (Nat.le_refl w.heap.size))
 go_enter Tryz.func164, Tryz.ntmps164
 go_wp2_with fail
 refine(report_st HS 1000 Parts.nil rfl (by decide)).mono ?_
 clear HS
 rintro e w' ⟨A0,n0,c0,rfl,HS⟩
 go_wp2_with fail
 go_ret
 exact PStack.ret HS
set_option maxHeartbeats 2000000 in
set_option maxRecDepth 100000 in
theorem parts_1 (w:World):Calls Tryz.prog 164 #[.int .i64 1] w (PRet w w.heap.size (pReport (row [74]))):=by
 have HS:=qh (PStack.start (Nat.le_refl w.heap.size))
 go_enter Tryz.func164, Tryz.ntmps164
 go_wp2_with fail
 refine(row_st HS [74] rfl rfl (by decide)).mono ?_
 clear HS
 rintro e w' ⟨A0,n0,c0,rfl,HS⟩
 go_wp2_with fail
 refine(report_st HS 0 (row [74]) rfl (by decide)).mono ?_
 clear HS
 rintro e w' ⟨A1,n1,c1,rfl,HS⟩
 go_wp2_with fail
 go_ret
 exact PStack.ret HS
set_option maxHeartbeats 2000000 in
set_option maxRecDepth 100000 in
theorem parts_3 (w:World):Calls Tryz.prog 164 #[.int .i64 3] w (PRet w w.heap.size (andP [pHead,row [84,27],some_ 1 (row [10]),row [85,87,86]])):=by
 have HS:=qh (PStack.start (Nat.le_refl w.heap.size))
 go_enter Tryz.func164, Tryz.ntmps164
 go_wp2_with fail
 refine(head_st HS).mono ?_
 clear HS
 rintro e w' ⟨A0,n0,c0,rfl,HS⟩
 go_wp2_with fail
 refine(row_st HS [84,27] rfl rfl (by decide)).mono ?_
 clear HS
 rintro e w' ⟨A1,n1,c1,rfl,HS⟩
 go_wp2_with fail
 refine(row_st HS [10] rfl rfl (by decide)).mono ?_
 clear HS
 rintro e w' ⟨A2,n2,c2,rfl,HS⟩
 go_wp2_with fail
 refine(some_st HS 0 (row [10]) rfl).mono ?_
 clear HS
 rintro e w' ⟨A3,n3,c3,rfl,HS⟩
 go_wp2_with fail
 refine(row_st HS [85,87,86] rfl rfl (by decide)).mono ?_
 clear HS
 rintro e w' ⟨A4,n4,c4,rfl,HS⟩
 go_wp2_with fail
 refine(and_st HS [4,3,1,0] (andP [pHead,row [84,27],some_ 1 (row [10]),row [85,87,86]]) rfl rfl rfl (by decide) (by decide)).mono ?_
 clear HS
 rintro e w' ⟨A5,n5,c5,rfl,HS⟩
 go_wp2_with fail
 go_ret
 exact PStack.ret HS
set_option maxHeartbeats 2000000 in
set_option maxRecDepth 100000 in
theorem parts_5 (w:World):Calls Tryz.prog 164 #[.int .i64 5] w (PRet w w.heap.size (andP [pHead,pRepeated pLink])):=by
 have HS:=qh (PStack.start (Nat.le_refl w.heap.size))
 go_enter Tryz.func164, Tryz.ntmps164
 go_wp2_with fail
 refine(head_st HS).mono ?_
 clear HS
 rintro e w' ⟨A0,n0,c0,rfl,HS⟩
 go_wp2_with fail
 refine(link_st HS).mono ?_
 clear HS
 rintro e w' ⟨A1,n1,c1,rfl,HS⟩
 go_wp2_with fail
 refine(repeated_st HS 0 pLink rfl (by decide)).mono ?_
 clear HS
 rintro e w' ⟨A2,n2,c2,rfl,HS⟩
 go_wp2_with fail
 refine(and_st HS [2,0] (andP [pHead,pRepeated pLink]) rfl rfl rfl (by decide) (by decide)).mono ?_
 clear HS
 rintro e w' ⟨A3,n3,c3,rfl,HS⟩
 go_wp2_with fail
 go_ret
 exact PStack.ret HS
set_option maxHeartbeats 2000000 in
set_option maxRecDepth 100000 in
theorem parts_11 (w:World):Calls Tryz.prog 164 #[.int .i64 11] w (PRet w w.heap.size (andP [row [7,75,76,77,78,79,80,81,27],some_ 1 (row [82]),row [27],some_ 1 (row [83])])):=by
 have HS:=qh (PStack.start (Nat.le_refl w.heap.size))
 go_enter Tryz.func164, Tryz.ntmps164
 go_wp2_with fail
 refine(row_st HS [7,75,76,77,78,79,80,81,27] rfl rfl (by decide)).mono ?_
 clear HS
 rintro e w' ⟨A0,n0,c0,rfl,HS⟩
 go_wp2_with fail
 refine(row_st HS [82] rfl rfl (by decide)).mono ?_
 clear HS
 rintro e w' ⟨A1,n1,c1,rfl,HS⟩
 go_wp2_with fail
 refine(some_st HS 0 (row [82]) rfl).mono ?_
 clear HS
 rintro e w' ⟨A2,n2,c2,rfl,HS⟩
 go_wp2_with fail
 refine(row_st HS [27] rfl rfl (by decide)).mono ?_
 clear HS
 rintro e w' ⟨A3,n3,c3,rfl,HS⟩
 go_wp2_with fail
 refine(row_st HS [83] rfl rfl (by decide)).mono ?_
 clear HS
 rintro e w' ⟨A4,n4,c4,rfl,HS⟩
 go_wp2_with fail
 refine(some_st HS 0 (row [83]) rfl).mono ?_
 clear HS
 rintro e w' ⟨A5,n5,c5,rfl,HS⟩
 go_wp2_with fail
 refine(and_st HS [5,3,2,0] (andP [row [7,75,76,77,78,79,80,81,27],some_ 1 (row [82]),row [27],some_ 1 (row [83])]) rfl rfl rfl (by decide) (by decide)).mono ?_
 clear HS
 rintro e w' ⟨A6,n6,c6,rfl,HS⟩
 go_wp2_with fail
 go_ret
 exact PStack.ret HS
set_option maxHeartbeats 2000000 in
set_option maxRecDepth 100000 in
theorem parts_15 (w:World):Calls Tryz.prog 164 #[.int .i64 15] w (PRet w w.heap.size pAuthority):=by
 have HS:=qh (PStack.start (Nat.le_refl w.heap.size))
 go_enter Tryz.func164, Tryz.ntmps164
 go_wp2_with fail
 refine(authority_st HS).mono ?_
 clear HS
 rintro e w' ⟨A0,n0,c0,rfl,HS⟩
 go_wp2_with fail
 go_ret
 exact PStack.ret HS
set_option maxHeartbeats 2000000 in
set_option maxRecDepth 100000 in
theorem parts_21 (w:World):Calls Tryz.prog 164 #[.int .i64 21] w (PRet w w.heap.size (andP [pHead,pRepeated (row [48,49,50])])):=by
 have HS:=qh (PStack.start (Nat.le_refl w.heap.size))
 go_enter Tryz.func164, Tryz.ntmps164
 go_wp2_with fail
 refine(head_st HS).mono ?_
 clear HS
 rintro e w' ⟨A0,n0,c0,rfl,HS⟩
 go_wp2_with fail
 refine(row_st HS [48,49,50] rfl rfl (by decide)).mono ?_
 clear HS
 rintro e w' ⟨A1,n1,c1,rfl,HS⟩
 go_wp2_with fail
 refine(repeated_st HS 0 (row [48,49,50]) rfl (by decide)).mono ?_
 clear HS
 rintro e w' ⟨A2,n2,c2,rfl,HS⟩
 go_wp2_with fail
 refine(and_st HS [2,0] (andP [pHead,pRepeated (row [48,49,50])]) rfl rfl rfl (by decide) (by decide)).mono ?_
 clear HS
 rintro e w' ⟨A3,n3,c3,rfl,HS⟩
 go_wp2_with fail
 go_ret
 exact PStack.ret HS
set_option maxHeartbeats 2000000 in
set_option maxRecDepth 100000 in
theorem parts_27 (w:World):Calls Tryz.prog 164 #[.int .i64 27] w (PRet w w.heap.size pSpeeds):=by
 have HS:=qh (PStack.start (Nat.le_refl w.heap.size))
 go_enter Tryz.func164, Tryz.ntmps164
 go_wp2_with fail
 refine(speeds_st HS).mono ?_
 clear HS
 rintro e w' ⟨A0,n0,c0,rfl,HS⟩
 go_wp2_with fail
 go_ret
 exact PStack.ret HS
set_option maxHeartbeats 2000000 in
set_option maxRecDepth 100000 in
theorem parts_42 (w:World):Calls Tryz.prog 164 #[.int .i64 42] w (PRet w w.heap.size (row [6,7,62,10,63,64,64,65])):=by
 have HS:=qh (PStack.start (Nat.le_refl w.heap.size))
 go_enter Tryz.func164, Tryz.ntmps164
 go_wp2_with fail
 refine(row_st HS [6,7,62,10,63,64,64,65] rfl rfl (by decide)).mono ?_
 clear HS
 rintro e w' ⟨A0,n0,c0,rfl,HS⟩
 go_wp2_with fail
 go_ret
 exact PStack.ret HS
set_option maxHeartbeats 2000000 in
set_option maxRecDepth 100000 in
theorem parts_57 (w:World):Calls Tryz.prog 164 #[.int .i64 57] w (PRet w w.heap.size (row [6,7,66,67,68])):=by
 have HS:=qh (PStack.start (Nat.le_refl w.heap.size))
 go_enter Tryz.func164, Tryz.ntmps164
 go_wp2_with fail
 refine(row_st HS [6,7,66,67,68] rfl rfl (by decide)).mono ?_
 clear HS
 rintro e w' ⟨A0,n0,c0,rfl,HS⟩
 go_wp2_with fail
 go_ret
 exact PStack.ret HS
set_option maxHeartbeats 2000000 in
set_option maxRecDepth 100000 in
theorem parts_58 (w:World):Calls Tryz.prog 164 #[.int .i64 58] w (PRet w w.heap.size (andP [pHead,row [69,70,71,27],some_ 1 (row [72,73])])):=by
 have HS:=qh (PStack.start (Nat.le_refl w.heap.size))
 go_enter Tryz.func164, Tryz.ntmps164
 go_wp2_with fail
 refine(head_st HS).mono ?_
 clear HS
 rintro e w' ⟨A0,n0,c0,rfl,HS⟩
 go_wp2_with fail
 refine(row_st HS [69,70,71,27] rfl rfl (by decide)).mono ?_
 clear HS
 rintro e w' ⟨A1,n1,c1,rfl,HS⟩
 go_wp2_with fail
 refine(row_st HS [72,73] rfl rfl (by decide)).mono ?_
 clear HS
 rintro e w' ⟨A2,n2,c2,rfl,HS⟩
 go_wp2_with fail
 refine(some_st HS 0 (row [72,73]) rfl).mono ?_
 clear HS
 rintro e w' ⟨A3,n3,c3,rfl,HS⟩
 go_wp2_with fail
 refine(and_st HS [3,2,0] (andP [pHead,row [69,70,71,27],some_ 1 (row [72,73])]) rfl rfl rfl (by decide) (by decide)).mono ?_
 clear HS
 rintro e w' ⟨A4,n4,c4,rfl,HS⟩
 go_wp2_with fail
 go_ret
 exact PStack.ret HS
set_option maxHeartbeats 2000000 in
set_option maxRecDepth 100000 in
theorem parts_80 (w:World):Calls Tryz.prog 164 #[.int .i64 80] w (PRet w w.heap.size (andP [pHead,pRepeated (row [56,57,58,59,60,61])])):=by
 have HS:=qh (PStack.start (Nat.le_refl w.heap.size))
 go_enter Tryz.func164, Tryz.ntmps164
 go_wp2_with fail
 refine(head_st HS).mono ?_
 clear HS
 rintro e w' ⟨A0,n0,c0,rfl,HS⟩
 go_wp2_with fail
 refine(row_st HS [56,57,58,59,60,61] rfl rfl (by decide)).mono ?_
 clear HS
 rintro e w' ⟨A1,n1,c1,rfl,HS⟩
 go_wp2_with fail
 refine(repeated_st HS 0 (row [56,57,58,59,60,61]) rfl (by decide)).mono ?_
 clear HS
 rintro e w' ⟨A2,n2,c2,rfl,HS⟩
 go_wp2_with fail
 refine(and_st HS [2,0] (andP [pHead,pRepeated (row [56,57,58,59,60,61])]) rfl rfl rfl (by decide) (by decide)).mono ?_
 clear HS
 rintro e w' ⟨A3,n3,c3,rfl,HS⟩
 go_wp2_with fail
 go_ret
 exact PStack.ret HS
set_option maxHeartbeats 2000000 in
set_option maxRecDepth 100000 in
theorem parts_none (id:Int) (h:ptree id=none) (w:World):Calls Tryz.prog 164 #[.int .i64 id] w fun e w'=>e=.returned (.slice none 0 0)∧w=w':=by
 have hs:id≠0∧id≠1∧id≠3∧id≠5∧id≠11∧id≠15∧id≠21∧id≠27∧id≠42∧id≠57∧id≠58∧id≠80:=⟨(by rintro rfl;have h1:some _=none:=h;cases h1),(by rintro rfl;have h1:some _=none:=h;cases h1),(by rintro rfl;have h1:some _=none:=h;cases h1),(by rintro rfl;have h1:some _=none:=h;cases h1),(by rintro rfl;have h1:some _=none:=h;cases h1),(by rintro rfl;have h1:some _=none:=h;cases h1),(by rintro rfl;have h1:some _=none:=h;cases h1),(by rintro rfl;have h1:some _=none:=h;cases h1),(by rintro rfl;have h1:some _=none:=h;cases h1),(by rintro rfl;have h1:some _=none:=h;cases h1),(by rintro rfl;have h1:some _=none:=h;cases h1),(by rintro rfl;have h1:some _=none:=h;cases h1)⟩
 obtain⟨g0,g1,g3,g5,g11,g15,g21,g27,g42,g57,g58,g80⟩:=hs
 clear h
 have k0:(id==0)=false:=by simpa using g0
 have k1:(id==1)=false:=by simpa using g1
 have k3:(id==3)=false:=by simpa using g3
 have k5:(id==5)=false:=by simpa using g5
 have k11:(id==11)=false:=by simpa using g11
 have k15:(id==15)=false:=by simpa using g15
 have k21:(id==21)=false:=by simpa using g21
 have k27:(id==27)=false:=by simpa using g27
 have k42:(id==42)=false:=by simpa using g42
 have k57:(id==57)=false:=by simpa using g57
 have k58:(id==58)=false:=by simpa using g58
 have k80:(id==80)=false:=by simpa using g80
 go_enter Tryz.func164, Tryz.ntmps164
 go_wp2_with fail
 go_ret
 exact⟨rfl,rfl⟩
theorem parts_some (id:Int) (T:Parts) (h:ptree id=some T) (w:World):Calls Tryz.prog 164 #[.int .i64 id] w (PRet w w.heap.size T):=by
 unfold ptree at h
 by_cases g0:id=0
 ·rw[if_pos g0] at h;injection h with h;subst h;subst g0;exact parts_0 w
 rw[if_neg g0] at h
 by_cases g1:id=1
 ·rw[if_pos g1] at h;injection h with h;subst h;subst g1;exact parts_1 w
 rw[if_neg g1] at h
 by_cases g3:id=3
 ·rw[if_pos g3] at h;injection h with h;subst h;subst g3;exact parts_3 w
 rw[if_neg g3] at h
 by_cases g5:id=5
 ·rw[if_pos g5] at h;injection h with h;subst h;subst g5;exact parts_5 w
 rw[if_neg g5] at h
 by_cases g11:id=11
 ·rw[if_pos g11] at h;injection h with h;subst h;subst g11;exact parts_11 w
 rw[if_neg g11] at h
 by_cases g15:id=15
 ·rw[if_pos g15] at h;injection h with h;subst h;subst g15;exact parts_15 w
 rw[if_neg g15] at h
 by_cases g21:id=21
 ·rw[if_pos g21] at h;injection h with h;subst h;subst g21;exact parts_21 w
 rw[if_neg g21] at h
 by_cases g27:id=27
 ·rw[if_pos g27] at h;injection h with h;subst h;subst g27;exact parts_27 w
 rw[if_neg g27] at h
 by_cases g42:id=42
 ·rw[if_pos g42] at h;injection h with h;subst h;subst g42;exact parts_42 w
 rw[if_neg g42] at h
 by_cases g57:id=57
 ·rw[if_pos g57] at h;injection h with h;subst h;subst g57;exact parts_57 w
 rw[if_neg g57] at h
 by_cases g58:id=58
 ·rw[if_pos g58] at h;injection h with h;subst h;subst g58;exact parts_58 w
 rw[if_neg g58] at h
 by_cases g80:id=80
 ·rw[if_pos g80] at h;injection h with h;subst h;subst g80;exact parts_80 w
 rw[if_neg g80] at h
 cases h
end Go.Proofs.YtpapiojicbbheaaGreatDoor

namespace Go.Proofs.YtpapiojicbbheaaGreatDoor
open Go.RowKit
structure SI where
  rest:List Int
  out:List (Int×Int)
def valI:Val SI:=fun v s=>
 if v=7 then .ok (0,⟨s.rest,s.out++[(7,0)]⟩)
 else match s.rest with
   | []=>.error 20
   | n::t=>if vMay v n=true then .ok (n,⟨t,s.out++[(v,n)]⟩) else .error 20
def valT:Val (List (Int×Int)):=fun v tr=>match tr with
  | []=>.error 0
  | (v',n)::t=>if v'=v then .ok (if v=7 then 0 else n,t) else .error 0
def headLeaf:Parts→Bool
  | .nil=>true
  | .cons _ wh _ _=>wh==0
def calm:Parts→Bool
  | .nil=>true
  | .cons v wh l r=>(if wh==0 then (v != 7 || headLeaf r) else calm l)&&calm r
def nums:List (Int×Int)→List Int
  | []=>[]
  | (v,n)::t=>if v=7 then nums t else n::nums t
theorem nums_app (a b:List (Int×Int)):nums (a++b)=nums a++nums b:=by
 induction a with
 | nil=>rfl
 | cons x a ih=>
  obtain⟨v,n⟩:=x
  simp only[List.cons_append,nums]
  split <;> simp[ih]
theorem vMay_range {v n:Int} (h:vMay v n=true):1≤vWidth v∧vWidth v≤32∧0≤n∧n<((2 ^ (vWidth v).toNat:Nat):Int):=by
 have:=vWidth_range v
 simp only[vMay,decide_eq_true_eq] at h
 omega
def Mat (T:Parts) (last:Int) (tr:List (Int×Int)):Prop:=∀rest,walkL valT T last (tr++rest)=.ok rest
theorem walk_trace {σ:Type}{val:Val σ}{E:σ→List (Int×Int)→σ→Prop} (h0:∀s,E s [] s) (ht:∀a x b y c,E a x b→E b y c→E a (x++y) c)
    (h:∀v s n s',val v s=.ok (n,s')→∃m,E s [(v,m)] s'∧n=(if v=7 then 0 else m)) :
    ∀(T:Parts) (last:Int) (s s':σ),walkL val T last s=.ok s'→∃tr,E s tr s'∧Mat T last tr:=by
  intro T
  induction T with
  | nil=>intro last s s' hs;injection hs with hs;subst hs;exact⟨[],h0 s,fun _=>rfl⟩
  | cons v wh l r ihl ihr=>
   intro last s s' hs
   simp only[walkL] at hs
   by_cases hw:wh=0
   ·rw[if_pos hw] at hs
    rcases hf:val v s with e | ⟨n,s1⟩
    ·rw[hf] at hs;cases hs
    ·rw[hf] at hs
     obtain⟨m,h1,h2⟩:=h _ _ _ _ hf
     obtain⟨tr,h3,h4⟩:=ihr _ _ _ hs
     refine⟨(v,m)::tr,ht _ _ _ _ _ h1 h3,fun rest=>?_⟩
     simp only[walkL,if_pos hw,List.cons_append,valT,if_true]
     rw[←h2]
     exact h4 rest
   ·rw[if_neg hw] at hs
    by_cases hw1:wh=1
    ·rw[if_pos hw1] at hs
     cases hf:iterE (walkL val l 0) last.toNat s with
     | error e=>rw[hf] at hs;cases hs
     | ok s1=>
      rw[hf] at hs
      have hit:∀(k:Nat) (s s1:σ),iterE (walkL val l 0) k s=.ok s1→∃tr,E s tr s1∧∀rest,iterE (walkL valT l 0) k (tr++rest)=.ok rest:=by
       intro k
       induction k with
       | zero=>intro s s1 hk;injection hk with hk;subst hk;exact⟨[],h0 s,fun _=>rfl⟩
       | succ k ihk=>
        intro s s1 hk
        simp only[iterE] at hk
        cases hg:walkL val l 0 s with
        | error e=>rw[hg] at hk;cases hk
        | ok s2=>
         rw[hg] at hk
         obtain⟨x,h1,h2⟩:=ihl _ _ _ hg
         obtain⟨y,h3,h4⟩:=ihk _ _ hk
         refine⟨x++y,ht _ _ _ _ _ h1 h3,fun rest=>?_⟩
         simp only[iterE]
         rw[List.append_assoc,h2]
         exact h4 rest
      obtain⟨x,h1,h2⟩:=hit _ _ _ hf
      obtain⟨y,h3,h4⟩:=ihr _ _ _ hs
      refine⟨x++y,ht _ _ _ _ _ h1 h3,fun rest=>?_⟩
      simp only[walkL,if_neg hw,if_pos hw1]
      rw[List.append_assoc,h2]
      exact h4 rest
    ·rw[if_neg hw1] at hs
     by_cases hw2:last=1∨wh=3∧last=2
     ·rw[if_pos hw2] at hs
      cases hf:walkL val l 0 s with
      | error e=>rw[hf] at hs;cases hs
      | ok s1=>
       rw[hf] at hs
       obtain⟨x,h1,h2⟩:=ihl _ _ _ hf
       obtain⟨y,h3,h4⟩:=ihr _ _ _ hs
       refine⟨x++y,ht _ _ _ _ _ h1 h3,fun rest=>?_⟩
       simp only[walkL,if_neg hw,if_neg hw1,if_pos hw2]
       rw[List.append_assoc,h2]
       exact h4 rest
     ·rw[if_neg hw2] at hs
      obtain⟨y,h3,h4⟩:=ihr _ _ _ hs
      refine⟨y,h3,fun rest=>?_⟩
      simp only[walkL,if_neg hw,if_neg hw1,if_neg hw2]
      exact h4 rest
theorem valT_ok {v n:Int}{s s':List (Int×Int)} (h:valT v s=.ok (n,s')):∃m,s=(v,m)::s'∧n=if v=7 then 0 else m:=by
 unfold valT at h
 split at h
 ·cases h
 ·rename_i v' m t
  split at h
  ·rename_i hv
   subst hv
   simp only[Except.ok.injEq,Prod.mk.injEq] at h
   obtain⟨rfl,rfl⟩:=h
   exact⟨m,rfl,rfl⟩
  ·cases h
def StepI (s:SI) (tr:List (Int×Int)) (s':SI):Prop:=s'.out=s.out++tr∧nums tr++s'.rest=s.rest∧∀x∈tr,(x.1=7∧x.2=0)∨(x.1≠7∧vMay x.1 x.2=true)
theorem I_trace {T:Parts}{last:Int}{s s':SI} (h:walkL valI T last s=.ok s'):∃tr,StepI s tr s'∧Mat T last tr:=by
 refine walk_trace (E:=StepI) (fun s=>⟨by simp,rfl,by simp⟩) ?_ ?_ T last s s' h
 ·rintro a x b y c ⟨h1,h2,h3⟩ ⟨h4,h5,h6⟩
  refine⟨by rw[h4,h1,List.append_assoc],by rw[nums_app,List.append_assoc,h5,h2],fun z hz=>?_⟩
  rcases List.mem_append.1 hz with hz | hz
  ·exact h3 z hz
  ·exact h6 z hz
 ·intro v s n s' h
  unfold valI at h
  by_cases h7:v=7
  ·rw[if_pos h7] at h
   simp only[Except.ok.injEq,Prod.mk.injEq] at h
   obtain⟨rfl,rfl⟩:=h
   subst h7
   exact⟨0,⟨rfl,rfl,by simp⟩,rfl⟩
  ·rw[if_neg h7] at h
   split at h
   ·cases h
   ·rename_i m t hr
    split at h
    ·rename_i hm
     simp only[Except.ok.injEq,Prod.mk.injEq] at h
     obtain⟨rfl,rfl⟩:=h
     exact⟨m,⟨rfl,by simp[nums,h7,hr],by simp[h7,hm]⟩,by rw[if_neg h7]⟩
    ·cases h
def pids:List Int:=[0,1,3,5,11,15,21,27,42,57,58,80]
theorem ptree_id {id:Int}{T:Parts} (h:ptree id=some T):id∈pids:=by
 unfold ptree at h
 by_cases h0:id=0;· subst h0;decide
 by_cases h1:id=1;· subst h1;decide
 by_cases h3:id=3;· subst h3;decide
 by_cases h5:id=5;· subst h5;decide
 by_cases h11:id=11;· subst h11;decide
 by_cases h15:id=15;· subst h15;decide
 by_cases h21:id=21;· subst h21;decide
 by_cases h27:id=27;· subst h27;decide
 by_cases h42:id=42;· subst h42;decide
 by_cases h57:id=57;· subst h57;decide
 by_cases h58:id=58;· subst h58;decide
 by_cases h80:id=80;· subst h80;decide
 simp only[h0,h1,h3,h5,h11,h15,h21,h27,h42,h57,h58,h80,if_false,reduceCtorEq] at h
def upP (id:Int):Bool:=decide (id=0∨id=1∨id=11)
def no7:Parts→Bool
  | .nil=>true
  | .cons v wh l r=>(if wh=0 then decide (v≠7) else no7 l)&&no7 r
def lead (id:Int):Parts→Bool
  | .cons v wh .nil r=>if upP id then decide (v=7∧wh=0)&&no7 r else
      match r with
      | .cons v' wh' .nil r'=>decide (v=6∧wh=0∧v'=7∧wh'=0)&&no7 r'
      | _=>false
  | _=>false
def chkP (id:Int):Bool:=match ptree id with
  | none=>false
  | some T=>decide (T.len≠0)&&calm T&&lead id T&&decide (0≤id∧id<256)
theorem chk_all:pids.all chkP=true:=by decide +kernel
theorem ptree_chk {id:Int}{T:Parts} (h:ptree id=some T):T.len≠0∧calm T=true∧lead id T=true∧0≤id∧id<256:=by
 have h1:=List.all_eq_true.1 chk_all id (ptree_id h)
 simp only[chkP,h,Bool.and_eq_true,decide_eq_true_eq] at h1
 exact⟨h1.1.1.1,h1.1.1.2,h1.1.2,h1.2.1,h1.2.2⟩
theorem iter_err {σ:Type}{E:Int→Prop}{f:σ→Except Int σ} (h:∀s e,f s=.error e→E e):∀(n:Nat) (s:σ) (e:Int),iterE f n s=.error e→E e:=by
 intro n
 induction n with
 | zero=>intro s e h;cases h
 | succ n ih=>
  intro s e hs
  simp only[iterE] at hs
  cases hf:f s with
  | error e'=>rw[hf] at hs;injection hs with hs;subst hs;exact h _ _ hf
  | ok s1=>rw[hf] at hs;exact ih _ _ hs
theorem walk_err {σ:Type}{E:Int→Prop}{val:Val σ} (h:∀v s e,val v s=.error e→E e):∀(T:Parts) (last:Int) (s:σ) (e:Int),walkL val T last s=.error e→E e:=by
 intro T
 induction T with
 | nil=>intro last s e h;cases h
 | cons v wh l r ihl ihr=>
  intro last s e hs
  simp only[walkL] at hs
  by_cases hw:wh=0
  ·rw[if_pos hw] at hs
   rcases hf:val v s with e' | ⟨n,s1⟩
   ·rw[hf] at hs;injection hs with hs;subst hs;exact h _ _ _ hf
   ·rw[hf] at hs;exact ihr _ _ _ hs
  ·rw[if_neg hw] at hs
   by_cases hw1:wh=1
   ·rw[if_pos hw1] at hs
    cases hf:iterE (walkL val l 0) last.toNat s with
    | error e'=>rw[hf] at hs;injection hs with hs;subst hs;exact iter_err (fun s e=>ihl 0 s e) _ _ _ hf
    | ok s1=>rw[hf] at hs;exact ihr _ _ _ hs
   ·rw[if_neg hw1] at hs
    by_cases hw2:last=1∨wh=3∧last=2
    ·rw[if_pos hw2] at hs
     cases hf:walkL val l 0 s with
     | error e'=>rw[hf] at hs;injection hs with hs;subst hs;exact ihl _ _ _ hf
     | ok s1=>rw[hf] at hs;exact ihr _ _ _ hs
    ·rw[if_neg hw2] at hs
     exact ihr _ _ _ hs
theorem iter_cond {σ:Type}{P:σ→Prop}{f g:σ→Except Int σ} (he:∀s,P s→f s=g s) (hp:∀s s',P s→g s=.ok s'→P s'):∀(n:Nat) (s:σ),P s→iterE f n s=iterE g n s∧∀s',iterE g n s=.ok s'→P s':=by
 intro n
 induction n with
 | zero=>intro s hs;exact⟨rfl,fun s' h=>by injection h with h;subst h;exact hs⟩
 | succ n ih=>
  intro s hs
  simp only[iterE]
  rw[he s hs]
  cases hg:g s with
  | error e=>exact⟨rfl,fun s' h=>by cases h⟩
  | ok s1=>exact ih s1 (hp _ _ hs hg)
theorem walk_cond {σ:Type}{P:σ→Prop}{val val':Val σ} (he:∀v s,v≠7→P s→val v s=val' v s) (hp:∀v s n s',v≠7→P s→val' v s=.ok (n,s')→P s') :
    ∀(T:Parts),no7 T=true→∀(last:Int) (s:σ),P s→walkL val T last s=walkL val' T last s∧∀s',walkL val' T last s=.ok s'→P s':=by
  intro T
  induction T with
  | nil=>intro _ last s hs;exact⟨rfl,fun s' h=>by injection h with h;subst h;exact hs⟩
  | cons v wh l r ihl ihr=>
   intro hn last s hs
   simp only[no7,Bool.and_eq_true] at hn
   obtain⟨h1,h2⟩:=hn
   simp only[walkL]
   by_cases hw:wh=0
   ·rw[if_pos hw] at h1
    have hv:v≠7:=by simpa using h1
    rw[if_pos hw,if_pos hw,he v s hv hs]
    rcases hf:val' v s with e' | ⟨n,s1⟩
    ·exact⟨rfl,fun s' h=>by cases h⟩
    ·exact ihr h2 n s1 (hp _ _ _ _ hv hs hf)
   ·rw[if_neg hw] at h1
    rw[if_neg hw,if_neg hw]
    by_cases hw1:wh=1
    ·rw[if_pos hw1,if_pos hw1]
     obtain⟨h3,h4⟩:=iter_cond (P:=P) (fun s hs=>(ihl h1 0 s hs).1) (fun s s' hs h=>(ihl h1 0 s hs).2 s' h) last.toNat s hs
     rw[h3]
     cases hf:iterE (walkL val' l 0) last.toNat s with
     | error e'=>exact⟨rfl,fun s' h=>by cases h⟩
     | ok s1=>exact ihr h2 last s1 (h4 s1 hf)
    ·rw[if_neg hw1,if_neg hw1]
     by_cases hw2:last=1∨wh=3∧last=2
     ·rw[if_pos hw2,if_pos hw2]
      obtain⟨h3,h4⟩:=ihl h1 0 s hs
      rw[h3]
      cases hf:walkL val' l 0 s with
      | error e'=>exact⟨rfl,fun s' h=>by cases h⟩
      | ok s1=>exact ihr h2 last s1 (h4 s1 hf)
     ·rw[if_neg hw2,if_neg hw2]
      exact ihr h2 last s hs
theorem valI_err (v:Int) (s:SI) (e:Int) (h:valI v s=.error e):e=20:=by
 unfold valI at h
 by_cases h7:v=7
 ·rw[if_pos h7] at h;cases h
 ·rw[if_neg h7] at h
  split at h
  ·injection h with h;exact h.symm
  ·split at h
   ·cases h
   ·injection h with h;exact h.symm
theorem valI_size {v:Int}{s:SI}{n:Int}{s':SI} (h7:v≠7) (h:valI v s=.ok (n,s')):s'.out.length+s'.rest.length=s.out.length+s.rest.length:=by
 unfold valI at h
 rw[if_neg h7] at h
 split at h
 ·cases h
 ·rename_i m t hr
  split at h
  ·simp only[Except.ok.injEq,Prod.mk.injEq] at h
   obtain⟨_,rfl⟩:=h
   simp[hr];omega
  ·cases h
def valI9:Val SI:=fun v s=>if 1000000≤s.out.length then .error 999 else valI v s
theorem walkI9 {id:Int}{T:Parts} (hl:lead id T=true) (last:Int) (s:SI) (hs:s.out.length+s.rest.length≤100000):walkL valI9 T last s=walkL valI T last s:=by
 have step:∀v (s:SI),s.out.length+s.rest.length≤999990→valI9 v s=valI v s:=fun v s h=>by rw[valI9,if_neg (by omega)]
 have key:∀r,no7 r=true→∀last (s:SI),s.out.length+s.rest.length≤999990→walkL valI9 r last s=walkL valI r last s:=fun r hr last s hs=>
  (walk_cond (P:=fun s:SI=>s.out.length+s.rest.length≤999990) (val:=valI9) (val':=valI) (fun v s _ h=>step v s h) (fun v s n s' h7 hp hv=>by rw[valI_size h7 hv];exact hp) r hr last s hs).1
 have grow:∀v (s:SI) n s',valI v s=.ok (n,s')→s'.out.length+s'.rest.length≤s.out.length+s.rest.length+1:=by
  intro v s n s' h
  by_cases h7:v=7
  ·subst h7
   simp only[valI,if_true,Except.ok.injEq,Prod.mk.injEq] at h
   obtain⟨_,rfl⟩:=h
   simp;omega
  ·have:=valI_size h7 h;omega
 cases T with
 | nil=>rfl
 | cons v wh l r=>
  cases l with
  | cons _ _ _ _=>simp[lead] at hl
  | nil=>
   simp only[lead] at hl
   by_cases hu:upP id=true
   ·rw[if_pos hu] at hl
    simp only[Bool.and_eq_true,decide_eq_true_eq] at hl
    obtain⟨⟨rfl,rfl⟩,hr⟩:=hl
    simp only[walkL,if_true]
    rw[step 7 s (by omega)]
    rcases hf:valI 7 s with e | ⟨n,s1⟩
    ·rfl
    ·exact key r hr n s1 (by have:=grow _ _ _ _ hf;omega)
   ·rw[if_neg hu] at hl
    cases r with
    | nil=>simp at hl
    | cons v' wh' l' r'=>
     cases l' with
     | cons _ _ _ _=>simp at hl
     | nil=>
      simp only[Bool.and_eq_true,decide_eq_true_eq] at hl
      obtain⟨⟨rfl,rfl,rfl,rfl⟩,hr⟩:=hl
      simp only[walkL,if_true]
      rw[step 6 s (by omega)]
      rcases hf:valI 6 s with e | ⟨n,s1⟩
      ·rfl
      ·have h1:=grow _ _ _ _ hf
       simp only
       rw[step 7 s1 (by omega)]
       rcases hf2:valI 7 s1 with e | ⟨n2,s2⟩
       ·rfl
       ·exact key r' hr n2 s2 (by have:=grow _ _ _ _ hf2;omega)
theorem walkI9_ok {id:Int}{T:Parts} (hl:lead id T=true) (last:Int) (s:SI) (hs:s.out.length+s.rest.length≤100000):walkL valI9 T last s≠.error 999:=by
 rw[walkI9 hl last s hs]
 intro h
 have:=walk_err (E:=fun e=>e=20) valI_err T last s 999 h
 omega
end Go.Proofs.YtpapiojicbbheaaGreatDoor

namespace Go.Proofs.YtpapiojicbbheaaGreatDoor
open Go.RowKit
def faultV (x:Int):PanicEntry:=⟨.iface 198 (.agg #[.int .i64 x]),false,false⟩
def VPost {σ:Type} (Inv:σ→(Nat→Prop)→World→Prop) (S Q:Nat→Prop) (w:World) (r:Except Int (Int×σ)) (e:Ending) (w':World):Prop:=
  Keep (fun k=>S k∨Q k) w w'∧∃Q',(∀k,Q' k→Q k∨w.heap.size≤k)∧(∀k,Q' k→k<w'.heap.size) ∧
    ((∃n s',r=.ok (n,s')∧e=.returned (.int .i64 n)∧Inv s' Q' w'∧-9223372036854775808≤n∧n≤9223372036854775807)∨(∃x s',r=.error x∧e=.panicked [faultV x]∧Inv s' Q' w'))
def WPost {σ:Type} (Inv:σ→(Nat→Prop)→World→Prop) (S Q:Nat→Prop) (w:World) (r:Except Int σ) (e:Ending) (w':World):Prop:=
  Keep (fun k=>S k∨Q k) w w'∧∃Q',(∀k,Q' k→Q k∨w.heap.size≤k)∧(∀k,Q' k→k<w'.heap.size) ∧
    ((∃s',r=.ok s'∧e=.returned (.tuple #[])∧Inv s' Q' w')∨(∃x s',r=.error x∧e=.panicked [faultV x]∧Inv s' Q' w'))
def Does (g:Nat) (caps:Array Value) {σ:Type} (val:Val σ) (Inv:σ→(Nat→Prop)→World→Prop) (S:Nat→Prop):Prop:=
  ∀(v:Int) (s:σ) (Q:Nat→Prop) (w:World),Inv s Q w→val v s≠.error 999→Calls Tryz.prog g (#[.int .i64 v]++caps) w (VPost Inv S Q w (val v s))
def Parts.sz:Parts→Nat
  | .nil=>0
  | .cons _ _ l r=>l.sz+r.sz+1
theorem keep_next {S Q Q1:Nat→Prop}{w w1 w2:World} (h:Keep (fun k=>S k∨Q k) w w1) (hq:∀k,Q1 k→Q k∨w.heap.size≤k) (h':Keep (fun k=>S k∨Q1 k) w1 w2):Keep (fun k=>S k∨Q k) w w2:=
  h.then_ h' (fun i hi hs=>by
   rcases hs with hs | hs
   ·exact .inl hs
   ·rcases hq i hs with h | h
    ·exact .inr h
    ·omega)
theorem own_next {Q Q1 Q2:Nat→Prop}{w w1:World}{S:Nat→Prop} (h:Keep S w w1) (hq:∀k,Q1 k→Q k∨w.heap.size≤k) (hq2:∀k,Q2 k→Q1 k∨w1.heap.size≤k):∀k,Q2 k→Q k∨w.heap.size≤k:=by
 intro k hk
 rcases hq2 k hk with h1 | h1
 ·exact hq k h1
 ·exact .inr (Nat.le_trans h.size h1)
set_option maxHeartbeats 8000000 in
set_option maxRecDepth 100000 in
theorem walk_any {σ:Type} (val:Val σ) (Inv:σ→(Nat→Prop)→World→Prop) (S:Nat→Prop) (g:Nat) (caps:Array Value) (hg:∀args w,(callFunc g args).run Tryz.prog w=.ok (.enter g args) w) (hD:Does g caps val Inv S)
    (hI:∀s Q w w',Inv s Q w→Keep Never w w'→Inv s Q w') (p B:Nat) (D:Nat→Prop) (hS:∀k,D k→¬S k∧k<B) (hp:¬S p∧p<B) (hSB:∀k,S k→k<B) :
    ∀(N:Nat) (T:Parts),T.sz≤N→∀(A:Option Addr) (n c:Nat) (s:σ) (Q:Nat→Prop) (w:World),PSl w D A n c T→Blk w p 202 #[.func (.func g) #[] caps]→B≤w.heap.size→Inv s Q w→(∀k,D k→¬Q k)→¬Q p→(∀k,Q k→k<w.heap.size)→walkL val T 0 s≠.error 999 →
    Calls Tryz.prog 163 #[.pointer (some ⟨p,0,none⟩),.slice A n c] w (WPost Inv S Q w (walkL val T 0 s)):=by
  intro N
  induction N with
  | zero=>
   intro T hN A n c s Q w hT hB hBw hs hDQ hpQ hQw hok
   have:T=.nil:=by cases T with
     | nil=>rfl
     | cons v wh l r=>simp[Parts.sz] at hN
   subst this
   obtain⟨h1,h2,h3,xs,h4,h5⟩:=hT
   simp only[Parts.len] at h1
   subst h1
   clear h4 h5 h3 h2
   have Hs:=qh hs
   have HQw:=qh hQw
   clear hB hs hok hD hI hS hp hSB hDQ hpQ hQw
   go_enter Tryz.func163, Tryz.ntmps163
   go_wp2
   go_loop [9] (fun i=>i=.int .i64 0) (fun i=>0)
   case atStart=>rfl
   case round=>
    subst hrel
    go_wp2
    go_end0
    exact⟨Keep.refl _ _,Q,fun _ h=>.inl h,HQw.out,.inl ⟨s,rfl,rfl,Hs.out⟩⟩
  | succ N ih=>
   intro T hN A n c s Q w hT hB hBw hs hDQ hpQ hQw hok
   have IH:=qh ih
   have HT:=qh hT
   have HB:=qh hB
   have Hs:=qh hs
   have Hok:=qh hok
   have HN:=qh hN
   have HD:=qh hD
   have HI:=qh hI
   have HS:=qh hS
   have Hp:=qh hp
   have HDQ:=qh hDQ
   have HpQ:=qh hpQ
   have HQw:=qh hQw
   have HSB:=qh hSB
   have HBw:=qh hBw
   have hn9:n≤9223372036854775807:=by have:=HT.out.2.1;have:=HT.out.2.2.1;unfold maxLen at this;omega
   clear ih hT hB hs hok hN hD hI hS hp hDQ hpQ hQw hSB hBw
   go_enter Tryz.func163, Tryz.ntmps163
   go_wp2
   go_loopw [4,6,9] (fun la _ i wr=>∃(k:Nat) (last:Int),k≤n∧i=.int .i64 k∧la=.int .i64 last∧-9223372036854775808≤last∧last≤9223372036854775807 ∧
       Hid (Keep (fun k=>S k∨Q k) w wr∧∃(Qr:Nat→Prop) (R:Parts) (s':σ) (ys zs:List Value),(∀k,Qr k→Q k∨w.heap.size≤k)∧(∀k,Qr k→k<wr.heap.size)∧k+R.len=n∧R.sz≤N+1∧ys.length=k*3∧RdD wr D 3 A n (ys++zs)∧PRows wr D R zs∧Inv s' Qr wr∧walkL val R last s'=walkL val T 0 s))
     (fun _ _ i _=>n - (intOf i).toNat)
   case atStart=>
    obtain⟨h1,h2,h3,xs,h4,h5⟩:=HT.out
    exact⟨0,0,by omega,rfl,rfl,by omega,by omega,Keep.refl _ _,Q,T,s,[],xs,fun _ h=>.inl h,HQw.out,by omega,HN.out,rfl,h4,h5,Hs.out,rfl⟩
   case round=>
    obtain⟨k,last,hk,rfl,rfl,hl1,hl2,HH⟩:=hrel
    by_cases h0:k<n
    ·obtain⟨hkp,Qr,R,s',ys,zs,hQ1,hQ2,e1,e2,e3,hrd,hpr,hinv,hw⟩:=HH.out
     cases R with
     | nil=>simp[Parts.len] at e1;omega
     | cons v wh l r=>
      obtain⟨A',n',c',xs',zs',rfl,hl3,hl4,hl5,hrd',hpl,hpr'⟩:=hpr
      obtain⟨ad,hA,hDad,hc⟩:=hrd.2 (by omega)
      have c0:=hc (k*3) (.int .i64 v) (by rw[List.getElem?_append_right (by omega),e3];simp)
      have c1:=hc (k*3+1) (.int .i64 wh) (by rw[List.getElem?_append_right (by omega),e3];simp)
      have c2:=hc (k*3+2) (.slice A' n' c') (by rw[List.getElem?_append_right (by omega),e3];simp)
      rw[fld _ _ (by omega)] at c1 c2
      have HbR:=qh (HB.out.keep hkp (fun h=>by rcases h with h | h;exact Hp.out.1 h;exact HpQ.out h))
      have cw:wr.cell? ⟨p,0,none⟩=some (.func (.func g) #[] caps):=HbR.out.cell 0
      have hDr:Hid (∀k,D k→¬(S k∨Qr k)):=by
       rintro k hk (h | h)
       ·exact(HS.out k hk).1 h
       ·rcases hQ1 k h with h | h
        ·exact HDQ.out k hk h
        ·have:=(HS.out k hk).2;have:=HBw.out;omega
      have hpr9:Hid (¬Qr p):=by
       intro h
       rcases hQ1 p h with h | h
       ·exact HpQ.out h
       ·have:=Hp.out.2;have:=HBw.out;omega
      have Hrd:=qh hrd
      have Hpr:=qh hpr'
      have Hpl:=qh hpl
      have Hrd':=qh hrd'
      have Hinv:=qh hinv
      have Hw:=qh hw
      have Hk:=qh hkp
      have HQ1:=qh hQ1
      have HQ2:=qh hQ2
      have E1:Hid (k+(Parts.cons v wh l r).len=n):=e1
      have E2:Hid ((Parts.cons v wh l r).sz≤N+1):=e2
      have E3:Hid (ys.length=k*3):=e3
      have E4:Hid (n'=l.len∧n'≤c'∧c'≤maxLen):=⟨hl3,hl4,hl5⟩
      
      have HNext:Hid (∀(W:World) (last':Int) (s2:σ) (Q2:Nat→Prop),Keep (fun k=>S k∨Qr k) wr W→(∀k,Q2 k→Qr k∨wr.heap.size≤k)→(∀k,Q2 k→k<W.heap.size)→Inv s2 Q2 W→walkL val r last' s2=walkL val T 0 s →
          Keep (fun k=>S k∨Q k) w W∧∃(Qr:Nat→Prop) (R:Parts) (s':σ) (ys zs:List Value),(∀k,Qr k→Q k∨w.heap.size≤k)∧(∀k,Qr k→k<W.heap.size)∧(k+1)+R.len=n∧R.sz≤N+1∧ys.length=(k+1)*3∧RdD W D 3 A n (ys++zs)∧PRows W D R zs∧Inv s' Qr W∧walkL val R last' s'=walkL val T 0 s):=by
        intro W last' s2 Q2 hkk hq2 hq3 hi2 hw2
        refine⟨keep_next hkp hQ1 hkk,Q2,r,s2,ys++[.int .i64 v,.int .i64 wh,.slice A' n' c'],zs',own_next hkp hQ1 hq2,hq3,?_,?_,?_,?_,?_,hi2,hw2⟩
        ·simp only[Parts.len] at e1;omega
        ·simp only[Parts.sz] at e2;omega
        ·simp[e3];omega
        ·have:=hrd.keep (by omega) hkk (D':=D) (fun k _ h=>⟨hDr.out k h,h⟩)
         simpa using this
        ·exact hpr'.keep hkk (D':=D) (fun k _ h=>⟨hDr.out k h,h⟩)
      subst hA
      clear hrd hpr' hpl hrd' hinv hw hkp e1 e2 e3 hl3 hl4 hl5 hc HH hDad hQ1 hQ2
      by_cases w0:wh=0
      ·subst w0
       have hne:val v s'≠.error 999:=by
        intro h
        have:=Hw.out
        simp only[walkL,if_true,h] at this
        exact Hok.out this.symm
       have hdo:∀W,Keep Never wr W→Calls Tryz.prog g (#[.int .i64 v]++caps) W (VPost Inv S Qr W (val v s')):=fun W hW=>HD.out v s' Qr W (HI.out _ _ _ _ Hinv.out hW) hne
       have Hdo:=qh hdo
       rcases hv:val v s' with x | ⟨m,s2⟩
       ·have hfin:Hid (walkL val T 0 s=.error x):=by
         have:=Hw.out
         simp only[walkL,if_true,hv] at this
         exact this.symm
        have Hv:=qh hv
        clear hne hv hdo
        go_wp2
        obtain⟨W,hW⟩:∃W,wr.alloc (.cells #[.int .i64 v,.int .i64 0,.slice A' n' c'] 240)=W:=⟨_,rfl⟩
        rw[hW]
        have hbW:=Blk.new wr 240 #[.int .i64 v,.int .i64 0,.slice A' n' c']
        rw[hW] at hbW
        have hkW:Keep Never wr W:=by rw[←hW];exact(Keep.refl Never wr).alloc _
        have hsW:W.heap.size=wr.heap.size+1:=by rw[←hW];simp
        have cW0:W.cell? ⟨wr.heap.size,0,none⟩=some (.int .i64 v):=hbW.cell 0
        have cW1:W.cell? ⟨p,0,none⟩=some (.func (.func g) #[] caps):=(hkW.cell (p:=⟨p,0,none⟩) (cell_lt cw) (fun h=>h)).trans cw
        have HkW:=qh hkW
        clear hW hbW hkW hsW
        go_still_tail 6,(by kernel_rfl)
        change wpList _ _ _ _ _ (World.drew _)
        go_wp2_with fail
        refine(Hdo.out _ (HkW.out.drew)).mono ?_
        rintro e w' ⟨hk5,Q2,hq2,hq3,hpo⟩
        rw[Hv.out] at hpo
        rcases hpo with⟨_,_,h,_⟩ | ⟨y,s2,h,rfl,hi2⟩
        ·cases h
        injection h with h
        subst h
        have hkk:Keep (fun k=>S k∨Qr k) wr w':=(HkW.out.drew.mono (fun _ _ h=>h.elim)).trans hk5
        have hq9:=own_next (HkW.out.drew) (fun k h=>(.inl h:Qr k∨wr.heap.size≤k)) hq2
        have HF:Hid (WPost Inv S Q w (walkL val T 0 s) (.panicked [faultV x]) w'):=⟨keep_next Hk.out HQ1.out hkk,Q2,own_next Hk.out HQ1.out hq9,hq3,.inr ⟨x,s2,hfin.out,rfl,hi2⟩⟩
        clear hk5 hq2 hi2 hkk hq9 hq3
        go_wp2_with fail
        exact⟨rfl,HF.out⟩
       ·have hfin:Hid (walkL val r m s2=walkL val T 0 s):=by
         have:=Hw.out
         simp only[walkL,if_true,hv] at this
         exact this
        have Hv:=qh hv
        clear hne hv hdo
        go_wp2
        obtain⟨W,hW⟩:∃W,wr.alloc (.cells #[.int .i64 v,.int .i64 0,.slice A' n' c'] 240)=W:=⟨_,rfl⟩
        rw[hW]
        have hbW:=Blk.new wr 240 #[.int .i64 v,.int .i64 0,.slice A' n' c']
        rw[hW] at hbW
        have hkW:Keep Never wr W:=by rw[←hW];exact(Keep.refl Never wr).alloc _
        have hsW:W.heap.size=wr.heap.size+1:=by rw[←hW];simp
        have cW0:W.cell? ⟨wr.heap.size,0,none⟩=some (.int .i64 v):=hbW.cell 0
        have cW1:W.cell? ⟨p,0,none⟩=some (.func (.func g) #[] caps):=(hkW.cell (p:=⟨p,0,none⟩) (cell_lt cw) (fun h=>h)).trans cw
        have HkW:=qh hkW
        clear hW hbW hkW hsW
        go_still_tail 6,(by kernel_rfl)
        change wpList _ _ _ _ _ (World.drew _)
        go_wp2_with fail
        refine(Hdo.out _ (HkW.out.drew)).mono ?_
        rintro e w' ⟨hk5,Q2,hq2,hq3,hpo⟩
        rw[Hv.out] at hpo
        rcases hpo with⟨m1,s1,h,rfl,hi2,b1,b2⟩ | ⟨_,_,h,_⟩
        rotate_left
        ·cases h
        injection h with h
        injection h with h h'
        subst h
        subst h'
        have hkk:Keep (fun k=>S k∨Qr k) wr w':=(HkW.out.drew.mono (fun _ _ h=>h.elim)).trans hk5
        have hq9:=own_next (HkW.out.drew) (fun k h=>(.inl h:Qr k∨wr.heap.size≤k)) hq2
        have HF:=qh (HNext.out w' m s2 Q2 hkk hq9 hq3 hi2 hfin.out)
        clear hk5 hq2 hi2 hkk hq9 hq3
        go_wp2_with fail
        go_roundw
        case rel=>exact⟨k+1,m,by omega,by go_num,rfl,b1,b2,HF.out⟩
        case measure=>simp[intOf];omega
      ·have w1:(wh==0)=false:=by simpa using w0
       have HC:Hid (∀(s1:σ) (Q1:Nat→Prop) (W:World),Inv s1 Q1 W→Keep (fun k=>S k∨Qr k) wr W→(∀k,Q1 k→Qr k∨wr.heap.size≤k)→(∀k,Q1 k→k<W.heap.size)→walkL val l 0 s1≠.error 999 →
           Calls Tryz.prog 163 #[.pointer (some ⟨p,0,none⟩),.slice A' n' c'] W (WPost Inv S Q1 W (walkL val l 0 s1))):=by
         intro s1 Q1 W hi hkk hq hq3 hne
         have hsz:B≤wr.heap.size:=Nat.le_trans HBw.out Hk.out.size
         refine IH.out l (by have:=E2.out;simp only[Parts.sz] at this;omega) A' n' c' s1 Q1 W ⟨E4.out.1,E4.out.2.1,E4.out.2.2,xs',Hrd'.out.keep (by omega) hkk (fun k _ h=>⟨hDr.out k h,h⟩),Hpl.out.keep hkk (fun k _ h=>⟨hDr.out k h,h⟩)⟩
           (HbR.out.keep hkk (fun h=>by rcases h with h | h;exact Hp.out.1 h;exact hpr9.out h)) (Nat.le_trans hsz hkk.size) hi ?_ ?_ hq3 hne
         ·intro k hk h
          rcases hq k h with h | h
          ·exact hDr.out k hk (.inr h)
          ·have:=(HS.out k hk).2;omega
         ·intro h
          rcases hq p h with h | h
          ·exact hpr9.out h
          ·have:=Hp.out.2;omega
       by_cases w2:wh=1
       ·subst w2
        have hok:Hid (iterE (walkL val l 0) last.toNat s'≠.error 999):=by
         intro h
         have:=Hw.out
         simp only[walkL,if_neg w0,if_true,h] at this
         exact Hok.out this.symm
        have hfin:Hid ((match iterE (walkL val l 0) last.toNat s' with | .error e=>.error e | .ok s2=>walkL val r last s2)=walkL val T 0 s):=by
         have:=Hw.out
         simp only[walkL,if_neg w0,if_true] at this
         exact this
        go_wp2
        obtain⟨W,hW⟩:∃W,wr.alloc (.cells #[.int .i64 v,.int .i64 1,.slice A' n' c'] 240)=W:=⟨_,rfl⟩
        rw[hW]
        have hbW:=Blk.new wr 240 #[.int .i64 v,.int .i64 1,.slice A' n' c']
        rw[hW] at hbW
        have hkW:Keep Never wr W:=by rw[←hW];exact(Keep.refl Never wr).alloc _
        have hsW:W.heap.size=wr.heap.size+1:=by rw[←hW];simp
        have HbW:=qh hbW
        have HkW:=qh hkW
        have HsW:=qh hsW
        clear hW hbW hkW hsW
        have hinW:Inv s' Qr W:=HI.out _ _ _ _ Hinv.out HkW.out
        have HinW:=qh hinW
        clear hinW
        obtain⟨wo,rfl⟩:∃wo:World,wo=wr:=⟨_,rfl⟩
        go_loopw [29] (fun i wi=>∃j:Nat,j≤last.toNat∧i=.int .i64 j∧Hid (Keep (fun k=>S k∨Qr k) W wi∧∃(Q2:Nat→Prop) (s2:σ),(∀k,Q2 k→Qr k∨W.heap.size≤k)∧(∀k,Q2 k→k<wi.heap.size)∧Inv s2 Q2 wi∧iterE (walkL val l 0) (last.toNat - j) s2=iterE (walkL val l 0) last.toNat s'))
          (fun i _=>last.toNat - (intOf i).toNat)
        case atStart=>exact⟨0,by omega,rfl,Keep.refl _ _,Qr,s',fun _ h=>.inl h,fun k h=>Nat.lt_of_lt_of_le (HQ2.out k h) HkW.out.size,HinW.out,rfl⟩
        case round=>
         obtain⟨j,hj,rfl,HJ⟩:=hrel
         have hkW1:Hid (∀{W2:World},Keep (fun k=>S k∨Qr k) W W2→Keep (fun k=>S k∨Qr k) wo W2):=fun h=>(HkW.out.mono (fun _ _ h=>h.elim)).trans h
         by_cases hjl:(j:Int)<last
         ·obtain⟨hk1,Q2,s2,hq1,hq2,hi2,hit⟩:=HJ.out
          have c5:wr.cell? ⟨wo.heap.size,2,none⟩=some (.slice A' n' c'):=(HbW.out.keep hk1 (fun h=>by
           rcases h with h | h
           ·have:=HSB.out _ h;have:=HBw.out;have:=Hk.out.size;omega
           ·have:=HQ2.out _ h;omega)).cell 2
          obtain⟨m,hm⟩:∃m,last.toNat - j=m+1:=⟨last.toNat - j - 1,by omega⟩
          rw[hm] at hit
          simp only[iterE] at hit
          have hne:walkL val l 0 s2≠.error 999:=by intro h;rw[h] at hit;exact hok.out hit.symm
          have hq1':∀k,Q2 k→Qr k∨wo.heap.size≤k:=fun k h=>by
           rcases hq1 k h with h | h
           ·exact .inl h
           ·exact .inr (Nat.le_trans HkW.out.size h)
          have hdo:=HC.out s2 Q2 wr hi2 (hkW1.out hk1) hq1' hq2 hne
          have Hdo:=qh hdo
          have Hk1:=qh hk1
          have Hq1:=qh hq1'
          have Hq1W:=qh hq1
          have Hm:Hid (last.toNat - j=m+1):=hm
          rcases hv:walkL val l 0 s2 with x | s3
          ·rw[hv] at hit
           have hfx:Hid (walkL val T 0 s=.error x):=by
            have:=hfin.out
            rw[←hit] at this
            exact this.symm
           have Hv:=qh hv
           clear hit hne hv hdo hk1 hq1' hq1 hq2 hi2 hm HJ
           go_wp2_with fail
           refine Hdo.out.mono ?_
           rintro e w' ⟨hk5,Q3,hq5,hq6,hpo⟩
           rw[Hv.out] at hpo
           rcases hpo with⟨_,h,_⟩ | ⟨y,s4,h,rfl,hi4⟩
           ·cases h
           injection h with h
           subst h
           have hkk:=keep_next (hkW1.out Hk1.out) Hq1.out hk5
           have hq9:=own_next (hkW1.out Hk1.out) Hq1.out hq5
           have HF:Hid (WPost Inv S Q w (walkL val T 0 s) (.panicked [faultV x]) w'):=⟨keep_next Hk.out HQ1.out hkk,Q3,own_next Hk.out HQ1.out hq9,hq6,.inr ⟨x,s4,hfx.out,rfl,hi4⟩⟩
           clear hk5 hq5 hi4 hkk hq9 hq6
           go_wp2_with fail
           exact⟨rfl,HF.out⟩
          ·rw[hv] at hit
           have Hv:=qh hv
           have Hit:=qh hit
           clear hit hne hv hdo hk1 hq1' hq1 hq2 hi2 hm HJ
           go_wp2_with fail
           refine Hdo.out.mono ?_
           rintro e w' ⟨hk5,Q3,hq5,hq6,hpo⟩
           rw[Hv.out] at hpo
           rcases hpo with⟨s4,h,rfl,hi4⟩ | ⟨_,_,h,_⟩
           rotate_left
           ·cases h
           injection h with h
           subst h
           have HF:Hid (Keep (fun k=>S k∨Qr k) W w'∧∃(Q2:Nat→Prop) (s2:σ),(∀k,Q2 k→Qr k∨W.heap.size≤k)∧(∀k,Q2 k→k<w'.heap.size)∧Inv s2 Q2 w'∧iterE (walkL val l 0) (last.toNat - (j+1)) s2=iterE (walkL val l 0) last.toNat s'):=
             ⟨keep_next Hk1.out Hq1W.out hk5,Q3,s3,own_next Hk1.out Hq1W.out hq5,hq6,hi4,by rw[show last.toNat - (j+1)=m by have:=Hm.out;omega];exact Hit.out⟩
           clear hk5 hq5 hq6 hi4
           go_wp2_with fail
           go_roundw
           case rel=>exact⟨j+1,by omega,by go_num,HF.out⟩
           case measure=>simp[intOf];omega
         ·obtain⟨hk1,Q2,s2,hq1,hq2,hi2,hit⟩:=HJ.out
          rw[show last.toNat - j=0 by omega] at hit
          have hw2:walkL val r last s2=walkL val T 0 s:=by have:=hfin.out;rw[←hit] at this;exact this
          have hq1':∀k,Q2 k→Qr k∨wo.heap.size≤k:=fun k h=>by
           rcases hq1 k h with h | h
           ·exact .inl h
           ·exact .inr (Nat.le_trans HkW.out.size h)
          have HF:=qh (HNext.out wr last s2 Q2 (hkW1.out hk1) hq1' hq2 hi2 hw2)
          clear hk1 hq1 hq2 hi2 hit hw2 hq1' HJ
          go_wp2_with fail
          go_roundw
          case rel=>exact⟨k+1,last,by omega,by go_num,rfl,hl1,hl2,HF.out⟩
          case measure=>simp[intOf];omega
       ·have w3:(wh==1)=false:=by simpa using w2
        have hkW:Hid (Keep Never wr (wr.alloc (.cells #[.int .i64 v,.int .i64 wh,.slice A' n' c'] 240))):=(Keep.refl Never wr).alloc _
        by_cases w4:last=1∨wh=3∧last=2
        ·have hok:Hid (walkL val l 0 s'≠.error 999):=by
          intro h
          have:=Hw.out
          simp only[walkL,if_neg w0,if_neg w2,if_pos w4,h] at this
          exact Hok.out this.symm
         have hfin:Hid ((match walkL val l 0 s' with | .error e=>.error e | .ok s2=>walkL val r last s2)=walkL val T 0 s):=by
          have:=Hw.out
          simp only[walkL,if_neg w0,if_neg w2,if_pos w4] at this
          exact this
         have hbW:Hid (Blk (wr.alloc (.cells #[.int .i64 v,.int .i64 wh,.slice A' n' c'] 240)) wr.heap.size 240 #[.int .i64 v,.int .i64 wh,.slice A' n' c']):=Blk.new _ _ _
         have hdo:Hid (Calls Tryz.prog 163 #[.pointer (some ⟨p,0,none⟩),.slice A' n' c'] (wr.alloc (.cells #[.int .i64 v,.int .i64 wh,.slice A' n' c'] 240)) (WPost Inv S Qr (wr.alloc (.cells #[.int .i64 v,.int .i64 wh,.slice A' n' c'] 240)) (walkL val l 0 s'))):=
           HC.out s' Qr _ (HI.out _ _ _ _ Hinv.out hkW.out) (hkW.out.mono (fun _ _ h=>h.elim)) (fun k h=>.inl h) (fun k h=>Nat.lt_of_lt_of_le (HQ2.out k h) hkW.out.size) hok.out
         have hres:(∃x,walkL val l 0 s'=.error x∧walkL val T 0 s=.error x)∨(∃s3,walkL val l 0 s'=.ok s3∧walkL val r last s3=walkL val T 0 s):=by
          have:=hfin.out
          rcases hv:walkL val l 0 s' with x | s3
          ·rw[hv] at this;exact .inl ⟨x,rfl,this.symm⟩
          ·rw[hv] at this;exact .inr ⟨s3,rfl,this⟩
         have Hres:=qh hres
         have hgo:Hid (∀(K:World→Prop),True):=fun _=>trivial
         clear hres hgo
         have hcase:(last==1)=true∨((last==1)=false∧(wh==3)=true∧(last==2)=true):=by
          by_cases h:last=1
          ·exact .inl (by simpa using h)
          ·rcases w4 with h' | ⟨h1,h2⟩
           ·exact absurd h' h
           ·exact .inr ⟨by simpa using h,by simpa using h1,by simpa using h2⟩
         have w4':Hid (last=1∨wh=3∧last=2):=w4
         have w0':Hid (¬wh=0):=w0
         have w2':Hid (¬wh=1):=w2
         clear w4 w0 w2
         rcases hcase with hc1 | ⟨hc1,hc2,hc3⟩
         all_goals
          go_wp2_with fail
          refine hdo.out.mono ?_
          rintro e w' ⟨hk5,Q3,hq5,hq6,hpo⟩
          rcases Hres.out with⟨x,hv,hT⟩ | ⟨s3,hv,hT⟩
          ·rw[hv] at hpo
           rcases hpo with⟨_,h,_⟩ | ⟨y,s4,h,rfl,hi4⟩
           ·cases h
           injection h with h
           subst h
           have hkk:Keep (fun k=>S k∨Qr k) wr w':=(hkW.out.mono (fun _ _ h=>h.elim)).trans hk5
           have hq9:=own_next hkW.out (fun k h=>(.inl h:Qr k∨wr.heap.size≤k)) hq5
           have HF:Hid (WPost Inv S Q w (walkL val T 0 s) (.panicked [faultV x]) w'):=⟨keep_next Hk.out HQ1.out hkk,Q3,own_next Hk.out HQ1.out hq9,hq6,.inr ⟨x,s4,hT,rfl,hi4⟩⟩
           clear hk5 hq5 hi4 hkk hq9 hq6 hv hT
           go_wp2_with fail
           exact⟨rfl,HF.out⟩
          ·rw[hv] at hpo
           rcases hpo with⟨s4,h,rfl,hi4⟩ | ⟨_,_,h,_⟩
           rotate_left
           ·cases h
           injection h with h
           subst h
           have hkk:Keep (fun k=>S k∨Qr k) wr w':=(hkW.out.mono (fun _ _ h=>h.elim)).trans hk5
           have hq9:=own_next hkW.out (fun k h=>(.inl h:Qr k∨wr.heap.size≤k)) hq5
           have HF:=qh (HNext.out w' last s3 Q3 hkk hq9 hq6 hi4 hT)
           clear hk5 hq5 hi4 hkk hq9 hq6 hv hT
           go_wp2_with fail
           go_roundw
           case rel=>exact⟨k+1,last,by omega,by go_num,rfl,hl1,hl2,HF.out⟩
           case measure=>simp[intOf];omega
        ·have hT:walkL val r last s'=walkL val T 0 s:=by
          have:=Hw.out
          simp only[walkL,if_neg w0,if_neg w2,if_neg w4] at this
          exact this
         have HF:=qh (HNext.out _ last s' Qr (hkW.out.mono (fun _ _ h=>h.elim)) (fun k h=>.inl h) (fun k h=>Nat.lt_of_lt_of_le (HQ2.out k h) hkW.out.size) (HI.out _ _ _ _ Hinv.out hkW.out) hT)
         have hcase:(last==1)=false∧((wh==3)=false∨((wh==3)=true∧(last==2)=false)):=by
          refine⟨by simp;exact fun h=>w4 (.inl h),?_⟩
          by_cases h:wh=3
          ·exact .inr ⟨by simpa using h,by simp;exact fun h'=>w4 (.inr ⟨h,h'⟩)⟩
          ·exact .inl (by simpa using h)
         have w4':Hid (¬(last=1∨wh=3∧last=2)):=w4
         have w0':Hid (¬wh=0):=w0
         have w2':Hid (¬wh=1):=w2
         clear w4 w0 w2 hT
         obtain⟨hc1,hc2 | ⟨hc2,hc3⟩⟩:=hcase
         all_goals
          go_wp2_with fail
          go_roundw
          case rel=>exact⟨k+1,last,by omega,by go_num,rfl,hl1,hl2,HF.out⟩
          case measure=>simp[intOf];omega
    ·obtain rfl:k=n:=by omega
     obtain⟨hkp,Qr,R,s',ys,zs,hQ1,hQ2,e1,e2,e3,hrd,hpr,hinv,hw⟩:=HH.out
     cases R with
     | nil=>
      have HF:Hid (WPost Inv S Q w (walkL val T 0 s) (.returned (.tuple #[])) wr):=⟨hkp,Qr,hQ1,hQ2,.inl ⟨s',hw.symm,rfl,hinv⟩⟩
      clear hrd hpr hinv hw hkp HH hQ1 hQ2
      go_wp2
      go_end0
      exact HF.out
     | cons v wh l r=>simp[Parts.len] at e1
end Go.Proofs.YtpapiojicbbheaaGreatDoor

namespace Go.Proofs.YtpapiojicbbheaaGreatDoor
open Go.RowKit
theorem trace_no7 {T:Parts} (hT:no7 T=true) {last:Int}{tr t':List (Int×Int)} (h:walkL valT T last tr=.ok t'):∃a,tr=a++t'∧∀x∈a,x.1≠7:=by
 let valN:Val (List (Int×Int)):=fun v tr=>if v=7 then .error 0 else valT v tr
 have h1:=(walk_cond (P:=fun _=>True) (val:=valN) (val':=valT) (fun v s h7 _=>by show (if v=7 then _ else _)=_;rw[if_neg h7]) (fun _ _ _ _ _ _ _=>trivial) T hT last tr trivial).1
 rw[h] at h1
 refine walk_inv (I:=fun s s'=>∃a,s=a++s'∧∀x∈a,x.1≠7) (fun s=>⟨[],rfl,by simp⟩) ?_ (val:=valN) ?_ T last tr t' h1
 ·rintro a b c ⟨x,rfl,hx⟩ ⟨y,rfl,hy⟩
  refine⟨x++y,by simp,fun z hz=>?_⟩
  rcases List.mem_append.1 hz with hz | hz
  ·exact hx z hz
  ·exact hy z hz
 ·intro v s n s' hv
  by_cases h7:v=7
  ·simp[valN,h7] at hv
  ·simp only[valN,if_neg h7] at hv
   obtain⟨m,rfl,_⟩:=valT_ok hv
   exact⟨[(v,m)],rfl,by simpa using h7⟩
theorem trace_lead {id:Int}{T:Parts} (hl:lead id T=true) {tr:List (Int×Int)} (h:Mat T 0 tr) :
    (upP id=true∧∃m t,tr=(7,m)::t∧∀x∈t,x.1≠7)∨(upP id=false∧∃a m t,tr=(6,a)::(7,m)::t∧∀x∈t,x.1≠7):=by
  have g:=h []
  rw[List.append_nil] at g
  clear h
  cases T with
  | nil=>simp[lead] at hl
  | cons v wh l r=>
   cases l with
   | cons _ _ _ _=>simp[lead] at hl
   | nil=>
    simp only[lead] at hl
    by_cases hu:upP id=true
    ·rw[if_pos hu] at hl
     simp only[Bool.and_eq_true,decide_eq_true_eq] at hl
     obtain⟨⟨rfl,rfl⟩,hr⟩:=hl
     simp only[walkL,if_true] at g
     rcases hf:valT 7 tr with e | ⟨n,s1⟩
     ·rw[hf] at g;cases g
     ·rw[hf] at g
      obtain⟨m,rfl,_⟩:=valT_ok hf
      obtain⟨a,ha,ha7⟩:=trace_no7 hr g
      rw[List.append_nil] at ha
      subst ha
      exact .inl ⟨hu,m,s1,rfl,ha7⟩
    ·rw[if_neg hu] at hl
     cases r with
     | nil=>simp at hl
     | cons v' wh' l' r'=>
      cases l' with
      | cons _ _ _ _=>simp at hl
      | nil=>
       simp only[Bool.and_eq_true,decide_eq_true_eq] at hl
       obtain⟨⟨rfl,rfl,rfl,rfl⟩,hr⟩:=hl
       simp only[walkL,if_true] at g
       rcases hf:valT 6 tr with e | ⟨n,s1⟩
       ·rw[hf] at g;cases g
       ·rw[hf] at g
        obtain⟨a,rfl,_⟩:=valT_ok hf
        simp only at g
        rcases hf2:valT 7 s1 with e | ⟨n2,s2⟩
        ·rw[hf2] at g;cases g
        ·rw[hf2] at g
         obtain⟨m,rfl,_⟩:=valT_ok hf2
         obtain⟨b,hb,hb7⟩:=trace_no7 hr g
         rw[List.append_nil] at hb
         subst hb
         exact .inr ⟨by simpa using hu,a,m,s2,rfl,hb7⟩
theorem nums_len {t:List (Int×Int)} (h:∀x∈t,x.1≠7):(nums t).length=t.length:=by
 induction t with
 | nil=>rfl
 | cons x t ih=>
  obtain⟨v,n⟩:=x
  have h1:=h (v,n) (by simp)
  simp only[nums,if_neg h1,List.length_cons]
  rw[ih (fun y hy=>h y (by simp[hy]))]
theorem nums_lead {id:Int}{T:Parts} (hl:lead id T=true) {tr:List (Int×Int)} (h:Mat T 0 tr):tr.length=(nums tr).length+1:=by
 rcases trace_lead hl h with⟨_,m,t,rfl,h7⟩ | ⟨_,a,m,t,rfl,h7⟩
 ·simp[nums,nums_len h7]
 ·simp[nums,nums_len h7]
def itemsM (id:Int) (V:List Int):Except Int (List (Int×Int)):=match ptree id with
  | none=>.error 50
  | some T=>match walkL valI T 0 ⟨V,[(5,id)]⟩ with
    | .error e=>.error e
    | .ok s=>if s.rest=[] then .ok s.out else .error 20
theorem itemsM_ok {id:Int}{V:List Int}{out:List (Int×Int)} (h:itemsM id V=.ok out) :
    ∃T tr,ptree id=some T∧out=(5,id)::tr∧Mat T 0 tr∧nums tr=V∧∀x∈tr,(x.1=7∧x.2=0)∨(x.1≠7∧vMay x.1 x.2=true):=by
  unfold itemsM at h
  split at h
  ·cases h
  ·rename_i T hT
   split at h
   ·cases h
   ·rename_i s hs
    split at h
    ·rename_i hz
     injection h with h
     obtain⟨tr,⟨h1,h2,h3⟩,h4⟩:=I_trace hs
     simp only at h1 h2
     rw[hz,List.append_nil] at h2
     exact⟨T,tr,hT,by rw[←h,h1];rfl,h4,h2,h3⟩
    ·cases h
theorem itemsM_len {id:Int}{V:List Int}{out:List (Int×Int)} (h:itemsM id V=.ok out):out.length=V.length+2∧3≤out.length+(if upP id then 1 else 0):=by
 obtain⟨T,tr,hT,rfl,hM,hV,_⟩:=itemsM_ok h
 have hl:=(ptree_chk hT).2.2.1
 have h1:=nums_lead hl hM
 rw[hV] at h1
 refine⟨by simp[h1],?_⟩
 rcases trace_lead hl hM with⟨hu,m,t,rfl,h7⟩ | ⟨hu,a,m,t,rfl,h7⟩
 ·simp[hu];
 ·simp[hu]
def itemsOf (tr:List (Int×Int)):List (Int×Int):=tr.map fun x=>(x.2,vWidth x.1)
def sumW (l:List (Int×Int)):Int:=(l.map (·.2)).sum
theorem sumW_app (a b:List (Int×Int)):sumW (a++b)=sumW a+sumW b:=by simp[sumW]
theorem sumW_items (tr:List (Int×Int)):0≤sumW (itemsOf tr)∧sumW (itemsOf tr)≤32*tr.length:=by
 induction tr with
 | nil=>simp[sumW,itemsOf]
 | cons x t ih=>
  have:=vWidth_range x.1
  simp only[itemsOf,sumW,List.map_cons,List.sum_cons,List.length_cons] at ih ⊢
  omega
def atP (id:Int):Nat:=if upP id then 1 else 2
def ItemsM (id:Int) (V:List Int):Except Int (List (Int×Int)):=match itemsM id V with
  | .error e=>.error e
  | .ok out=>if 8184<sumW (itemsOf out) then .error 2 else .ok ((itemsOf out).set (atP id) (sumW (itemsOf out),13))
theorem itemsM_at {id:Int}{V:List Int}{out:List (Int×Int)} (h:itemsM id V=.ok out):out[atP id]?=some (7,0):=by
 obtain⟨T,tr,hT,rfl,hM,hV,h7⟩:=itemsM_ok h
 rcases trace_lead (ptree_chk hT).2.2.1 hM with⟨hu,m,t,rfl,_⟩ | ⟨hu,a,m,t,rfl,_⟩
 ·have:=h7 (7,m) (by simp)
  simp at this
  simp[atP,hu,this]
 ·have:=h7 (7,m) (by simp)
  simp at this
  simp[atP,hu,this]
end Go.Proofs.YtpapiojicbbheaaGreatDoor

namespace Go.Proofs.YtpapiojicbbheaaGreatDoor
open Go.RowKit
set_option maxRecDepth 100000 in
theorem elemBits:Elem Tryz.prog 106 162 2 16:=⟨Tryz.underlying106, _,_,rfl,rfl,rfl,rfl,rfl,by omega⟩
def bitCells (l:List (Int×Int)):List Value:=l.flatMap fun x=>[.int .i64 x.1,.int .i64 x.2]
def i64 (n:Int):Prop:=-9223372036854775808≤n∧n≤9223372036854775807
def InvI (B base bl br:Nat) (s:SI) (Q:Nat→Prop) (w:World):Prop:=
  ∃(A:Option Addr) (c:Nat) (A':Option Addr) (n' c':Nat),Blk w bl 106 #[.slice A s.out.length c]∧Own w base 162 2 A s.out.length c (bitCells (itemsOf s.out))∧(∀k,Q k↔InRow A k) ∧
   Blk w br 22 #[.slice A' n' c']∧s.rest.length=n'∧Rd w B 1 A' n' (s.rest.map (.int .i64))∧n'≤c'∧c'≤maxLen∧(∀x∈s.rest,i64 x)∧Widths w∧B≤base∧True∧bl≠br∧B≤bl∧B≤br ∧ 0 < B
theorem InvI.keep {B base bl br:Nat}{s:SI}{Q:Nat→Prop}{w w':World} (h:InvI B base bl br s Q w) (hk:Keep Never w w'):InvI B base bl br s Q w':=by
 obtain⟨A,c,A',n',c',h1,h2,h3,h4,h5,h6,h7,h8,h9,h10,h11⟩:=h
 exact⟨A,c,A',n',c',h1.keep hk (fun h=>h),h2.keep hk (fun _ _ h=>h),h3,h4.keep hk (fun h=>h),h5,h6.keep hk (fun _ h=>h.elim),h7,h8,h9,h10.keep hk (fun h=>h),h11⟩
def SI2 (bl br:Nat):Nat→Prop:=fun k=>k=bl∨k=br
theorem itemsOf_snoc (tr:List (Int×Int)) (v n:Int):bitCells (itemsOf (tr++[(v,n)]))=bitCells (itemsOf tr)++[.int .i64 n,.int .i64 (vWidth v)]:=by simp[bitCells,itemsOf]
theorem InvI.push {B base bl br:Nat}{s:SI}{Q:Nat→Prop}{W w5:World}{A A5:Option Addr}{n c c5:Nat}{o:Obj}{v m:Int} (h:InvI B base bl br s Q W) (h1:Blk W bl 106 #[.slice A n c]) (_hB:base≤W.heap.size)
    (ho:Own w5 base 162 2 A5 (n+1) c5 (bitCells (itemsOf s.out)++[.int .i64 m,.int .i64 (vWidth v)])) (hk:Keep (InRow A) (W.alloc o).drew w5) (hr:∀k,InRow A5 k→InRow A k∨k=(W.alloc o).drew.heap.size) :
    Keep (fun k=>SI2 bl br k∨Q k) W (w5.setCell ⟨bl,0,none⟩ (.slice A5 (n+1) c5))∧∃Q',(∀k,Q' k→Q k∨W.heap.size≤k)∧(∀k,Q' k→k<(w5.setCell ⟨bl,0,none⟩ (.slice A5 (n+1) c5)).heap.size) ∧
      InvI B base bl br ⟨s.rest,s.out++[(v,m)]⟩ Q' (w5.setCell ⟨bl,0,none⟩ (.slice A5 (n+1) c5)):=by
  obtain⟨A0,c0,A',n',c',g1,g2,g3,g4,g5,g6,g7,g8,g9,g10,g11,g12,g13,g14,g15,g16⟩:=h
  have e:(Obj.cells #[.slice A0 s.out.length c0] 106 (0,0))=.cells #[.slice A n c] 106 (0,0):=by
   have:=g1.symm.trans h1
   injection this
  injection e with e
  have e:=congrArg (fun x:Array Value=>x.toList) e
  simp only[List.cons.injEq,and_true,Value.slice.injEq] at e
  obtain⟨rfl,rfl,rfl⟩:=e
  have hrow:∀k,InRow A0 k→base≤k∧k<W.heap.size:=fun k hk=>g2.row hk
  have ha:Keep Never W (W.alloc o).drew:=((Keep.refl _ _).alloc _).drew
  have hb5:=(g1.keep ha (fun h=>h)).keep hk (fun e=>g2.ne_blk g1 (by decide) _ e rfl)
  have hr5:=(g4.keep ha (fun h=>h)).keep hk (fun e=>g2.ne_blk g4 (by decide) _ e rfl)
  have hrow5:∀k,InRow A5 k→base≤k∧k<w5.heap.size:=fun k hk=>ho.row hk
  have hS:Keep (fun k=>SI2 bl br k∨Q k) W (w5.setCell ⟨bl,0,none⟩ (.slice A5 (s.out.length+1) c5)):=
    ((ha.mono (fun _ _ h=>h.elim)).trans (hk.mono (fun k _ h=>.inr ((g3 k).2 h)))).set_ (.inl (.inl (.inl rfl))) _
  refine⟨hS,InRow A5,?_,?_,A5,c5,A',n',c',?_,?_,fun _=>Iff.rfl,?_,g5,?_,g7,g8,g9,?_,g11,g12,g13,g14,g15,g16⟩
  ·intro k h
   rcases hr k h with h | h
   ·exact .inl ((g3 k).2 h)
   ·right
    have:(W.alloc o).drew.heap.size=W.heap.size+1:=by simp
    omega
  ·intro k h
   have:=(hrow5 k h).2
   simpa[World.setCell] using this
  ·have:=hb5.set_ 0 (.slice A5 (s.out.length+1) c5)
   rw[List.length_append]
   simpa using this
  ·rw[itemsOf_snoc,List.length_append]
   exact ho.far (fun k h e=>ho.ne_blk hb5 (by decide) k h e) _
  ·exact hr5.far (fun e=>g13 e.symm) _
  ·exact((g6.keep ha (fun _ h=>h.elim)).keep hk (fun k h=>by have:=(hrow k h).1;omega)).set_ g14 _
  ·exact((g10.keep ha (fun h=>h)).keep hk (fun h=>by have:=(hrow _ h).1;omega)).keep ((Keep.refl (fun k=>k=bl) w5).set_ (.inl rfl) _) (fun e=>by omega)
set_option maxHeartbeats 4000000 in
set_option maxRecDepth 100000 in
theorem items1_seven (B base bl br:Nat) (s:SI) (Q:Nat→Prop) (w:World) (h:InvI B base bl br s Q w) (hB:base≤w.heap.size) (hlen:s.out.length≤1000000) :
    Calls Tryz.prog 161 #[.int .i64 7,.pointer (some ⟨bl,0,none⟩),.pointer (some ⟨br,0,none⟩)] w (VPost (InvI B base bl br) (SI2 bl br) Q w (.ok (0,⟨s.rest,s.out++[(7,0)]⟩))):=by
  have Hinv:=qh h
  obtain⟨A,c,A',n',c',h1,h2,h3,h4,h5,h6,h7,h8,h9,h10,h11,h12,h13,h14,h15,h16⟩:=h
  obtain⟨x,hx⟩:∃x,vWidth 7=x:=⟨_,rfl⟩
  have c1:w.cell? ⟨bl,0,none⟩=some (.slice A s.out.length c):=h1.cell 0
  have f1:w.frozen? ⟨bl,0,none⟩=false:=h1.frozen 0
  have H1:=qh h1
  have H2:=qh h2
  have H3:=qh h3
  have H4:=qh h4
  have H5:=qh h5
  have H6:=qh h6
  have H9:=qh h9
  have H10:=qh h10
  have HX:=qh hx
  have HF:=qh (And.intro h11 (And.intro h12 (And.intro h13 (And.intro h14 (And.intro h15 h16)))))
  have hrow:Hid (∀k,InRow A k→base≤k∧k<w.heap.size):=fun k hk=>h2.row hk
  have hW:∀W,Keep Never w W→Calls Tryz.prog 160 #[.int .i64 7] W fun e w'=>e=.returned (.int .i64 x)∧W=w':=by
   intro W hW
   have:=vwidth_any 7 W (h10.keep hW (fun h=>h))
   rwa [hx] at this
  have HW:=qh hW
  generalize hn:s.out.length=n at *
  have Hn:=qh hn
  clear h1 h2 h3 h4 h5 h6 h9 h10 hx h11 h12 h13 h14 h15 h16 hW hn
  have hnr:Hid (¬InRow A bl):=fun e=>H2.out.ne_blk H1.out (by decide) _ e rfl
  have hbl:Hid (bl<w.heap.size+1):=by show bl<w.heap.size+1;have:=H1.out.lt;omega
  have c1a:∀o,(w.alloc o).cell? ⟨bl,0,none⟩=some (.slice A n c):=fun o=>(H1.out.alloc o).cell 0
  go_enter Tryz.func161, Tryz.ntmps161
  go_wp2
  go_region_law (first
      | (refine step_app _ rfl (.tmp 8) (.tmp 12) _ rfl elemBits base rfl (H2.out.alloc _) _ rfl (Rd.of_blk (n:=1) (cs:=[.int .i64 0,.int .i64 x]) (Blk.new _ _ _) rfl) (by simp[Value.oneCell']) (by omega) (by unfold maxLen;omega) (by simp;omega) ?_;intro A5 c5 w5 hown5 hk5 hrow5;have hb5:=Blk.keep (w:=World.drew (w.alloc _)) (H1.out.alloc _).drew hk5 hnr.out;have hf5:=hb5.frozen 0;have hc5:=hb5.cell 0;have Hb5:=qh hb5;have HK5:=qh hk5;have HO5:=qh hown5;clear hb5 hk5 hown5)
      | (go_simp;go_at_call 160; refine(HW.out _ (Keep.refl Never w).drew).mono ?_;rintro e w' ⟨rfl,rfl⟩))
  all_goals
   go_wp2_with fail
   go_ret
   have hp:=Hinv.out.push (v:=7) (m:=0) H1.out hB (by rw[HX.out];exact HO5.out) HK5.out hrow5.out
   obtain⟨k1,Q',q1,q2,i2⟩:=hp
   exact⟨k1,Q',q1,q2,.inl ⟨0,_,rfl,rfl,i2,by omega,by omega⟩⟩
set_option maxHeartbeats 4000000 in
set_option maxRecDepth 100000 in
theorem items1_bad (B base bl br:Nat) (s:SI) (Q:Nat→Prop) (w:World) (v:Int) (h7:¬v=7) (h:InvI B base bl br s Q w) (hv:valI v s=.error 20) :
    Calls Tryz.prog 161 #[.int .i64 v,.pointer (some ⟨bl,0,none⟩),.pointer (some ⟨br,0,none⟩)] w (VPost (InvI B base bl br) (SI2 bl br) Q w (.error 20)):=by
  have Hinv:=qh h
  obtain⟨A,c,A',n',c',h1,h2,h3,h4,h5,h6,h7',h8,h9,h10,h11,h12,h13,h14,h15,h16⟩:=h
  have c2:w.cell? ⟨br,0,none⟩=some (.slice A' n' c'):=h4.cell 0
  have e7:(v==7)=false:=by simpa using h7
  have hend:Hid (∀w',Keep Never w w'→VPost (InvI B base bl br) (SI2 bl br) Q w (.error 20) (.panicked [faultV 20]) w'):=by
   intro w' hk
   refine⟨hk.mono (fun _ _ h=>h.elim),Q,fun _ h=>.inl h,fun k h=>?_,.inr ⟨20,s,rfl,rfl,Hinv.out.keep hk⟩⟩
   have:=(h2.row ((h3 k).1 h)).2
   have:=hk.size
   omega
  have HW:=qh h10
  unfold valI at hv
  rw[if_neg h7] at hv
  cases hr:s.rest with
  | nil=>
   rw[hr] at h5
   simp only[List.length_nil] at h5
   subst h5
   clear h1 h2 h3 h4 h6 h9 h10 hv h7
   go_enter Tryz.func161, Tryz.ntmps161
   go_wp2_with fail
   exact⟨rfl,hend.out _ (Keep.refl _ _)⟩
  | cons n t=>
   rw[hr] at hv h5 h6
   simp only at hv
   by_cases hm:vMay v n=true
   ·rw[if_pos hm] at hv;cases hv
   ·have hm':vMay v n=false:=by simpa using hm
    have hn:=h9 n (by rw[hr];simp)
    obtain⟨hn1,hn2⟩:=hn
    obtain⟨ad,rfl,_,hc⟩:=h6.2 (by rw[←h5];simp)
    have hc0:=hc 0 _ rfl
    have hc1:w.cell? ad=some (.int .i64 n):=by have:ad.add 0=ad:=by unfold Addr.add;simp
                                               rwa [this] at hc0
    simp only[List.length_cons] at h5
    have hz:((n':Int)==0)=false:=by simp;omega
    have hn0:(0:Int)<n':=by omega
    have H5:=qh h5
    have hMay:Hid (∀W,Keep Never w W→Calls Tryz.prog 162 #[.int .i64 v,.int .i64 n] W fun e w'=>e=.returned (.bool false)∧W=w'):=by
     intro W hW
     have:=vmay_any v n hn2 W (HW.out.keep hW (fun h=>h))
     rwa [hm'] at this
    clear h1 h2 h3 h4 h6 h9 h10 hv h7 hm hm' hc h5
    go_enter Tryz.func161, Tryz.ntmps161
    go_wp2_with (go_at_call 162; refine(hMay.out _ (Keep.refl Never _)).mono ?_;rintro e w' ⟨rfl,rfl⟩)
    exact⟨rfl,hend.out _ (Keep.refl _ _)⟩
set_option maxHeartbeats 4000000 in
set_option maxRecDepth 100000 in
theorem items1_good (B base bl br:Nat) (s:SI) (Q:Nat→Prop) (w:World) (v n:Int) (t:List Int) (h7:¬v=7) (h:InvI B base bl br s Q w) (hB:base≤w.heap.size) (hlen:s.out.length≤1000000) (hr:s.rest=n::t) (hm:vMay v n=true) :
    Calls Tryz.prog 161 #[.int .i64 v,.pointer (some ⟨bl,0,none⟩),.pointer (some ⟨br,0,none⟩)] w (VPost (InvI B base bl br) (SI2 bl br) Q w (.ok (n,⟨t,s.out++[(v,n)]⟩))):=by
  obtain⟨A,c,A',n',c',h1,h2,h3,h4,h5,h6,h7',h8,h9,h10,h11,h12,h13,h14,h15,h16⟩:=h
  have hn:=h9 n (by rw[hr];simp)
  obtain⟨hn1,hn2⟩:=hn
  have e7:(v==7)=false:=by simpa using h7
  obtain⟨x,hx⟩:∃x,vWidth v=x:=⟨_,rfl⟩
  rw[hr] at h5 h6 h9
  simp only[List.length_cons] at h5
  obtain⟨k',rfl⟩:∃k',n'=k'+1:=⟨t.length,h5.symm⟩
  have hcut:=h6.cut (k:=1) (cap:=c') (by omega) h7'
  simp only[Nat.mul_one,List.map_cons,List.drop_succ_cons,List.drop_zero,Nat.add_sub_cancel] at hcut
  obtain⟨ad,rfl,_,hc⟩:=h6.2 (by omega)
  have hc0:=hc 0 _ rfl
  have hc1:w.cell? ad=some (.int .i64 n):=by
   have:ad.add 0=ad:=by unfold Addr.add;simp
   rwa [this] at hc0
  have c1:w.cell? ⟨bl,0,none⟩=some (.slice A s.out.length c):=h1.cell 0
  have c2:w.cell? ⟨br,0,none⟩=some (.slice (some ad) (k'+1) c'):=h4.cell 0
  have f1:w.frozen? ⟨bl,0,none⟩=false:=h1.frozen 0
  have f2:w.frozen? ⟨br,0,none⟩=false:=h4.frozen 0
  have hz:(((k'+1:Nat):Int)==0)=false:=by simp;omega
  have hn0:(0:Int)<((k'+1:Nat):Int):=by omega
  have hMay:Hid (∀W,Keep Never w W→Calls Tryz.prog 162 #[.int .i64 v,.int .i64 n] W fun e w'=>e=.returned (.bool true)∧W=w'):=by
   intro W hW
   have:=vmay_any v n hn2 W (h10.keep hW (fun h=>h))
   rwa [hm] at this
  
  obtain⟨A9,c9,h9s⟩:∃A9 c9,(if c'=1 then (.slice (some ad) k' 0:Value) else .slice (some ⟨ad.block,ad.off+1,none⟩) k' (c' - 1))=.slice A9 k' c9:=by
   by_cases h:c'=1
   ·rw[if_pos h];exact⟨_,_,rfl⟩
   ·rw[if_neg h];exact⟨_,_,rfl⟩
  have hst:Hid (∀W,W=w.setCell ⟨br,0,none⟩ (.slice A9 k' c9)→InvI B base bl br ⟨t,s.out⟩ Q W∧Blk W bl 106 #[.slice A s.out.length c]∧Own W base 162 2 A s.out.length c (bitCells (itemsOf s.out))∧W.heap.size=w.heap.size∧Keep (fun k=>SI2 bl br k∨Q k) w W):=by
   rintro W rfl
   have g1:=h1.far (p:=⟨br,0,none⟩) h13 (.slice A9 k' c9)
   have hrow:∀k,InRow A k→base≤k∧k<w.heap.size:=fun k hk=>h2.row hk
   have g2:=h2.far (p:=⟨br,0,none⟩) (fun k h e=>h2.ne_blk h4 (by decide) k h e) (.slice A9 k' c9)
   have g4:=h4.set_ 0 (.slice A9 k' c9)
   refine⟨⟨A,c,A9,k',c9,g1,g2,h3,by simpa using g4,by simpa using h5,?_,?_,?_,fun x hx=>h9 x (by simp[hx]),?_,h11,h12,h13,h14,h15,h16⟩,g1,g2,by simp[World.setCell],(Keep.refl _ _).set_ (.inl (.inl (.inr rfl))) _⟩
   ·have ea:ad.add 1=⟨ad.block,ad.off+1,none⟩:=by unfold Addr.add;simp
    have e:(if c'=1 then some ad else some (ad.add 1))=A9:=by
     by_cases h:c'=1
     ·rw[if_pos h] at h9s ⊢;injection h9s
     ·rw[if_neg h] at h9s ⊢;rw[ea];injection h9s
    have:Rd w B 1 A9 k' (t.map (.int .i64)):=by rw[←e];simpa using hcut
    exact this.set_ h15 _
   ·by_cases h:c'=1
    ·rw[if_pos h] at h9s;injection h9s with _ _ e;omega
    ·rw[if_neg h] at h9s;injection h9s with _ _ e;omega
   ·by_cases h:c'=1
    ·rw[if_pos h] at h9s;injection h9s with _ _ e;omega
    ·rw[if_neg h] at h9s;injection h9s with _ _ e;omega
   ·exact h10.keep ((Keep.refl (fun k=>k=br) w).set_ (.inl rfl) _) (fun e=>by omega)
  have HW:Hid (∀W,Keep Never (w.setCell ⟨br,0,none⟩ (.slice A9 k' c9)) W→Calls Tryz.prog 160 #[.int .i64 v] W fun e w'=>e=.returned (.int .i64 x)∧W=w'):=by
   intro W hW
   have h10':=h10.keep ((Keep.refl (fun k=>k=br) w).set_ (p:=⟨br,0,none⟩) (.inl rfl) (.slice A9 k' c9)) (fun e=>by omega)
   have:=vwidth_any v W (h10'.keep hW (fun h=>h))
   rwa [hx] at this
  have HX:=qh hx
  have hsz:s.out.length≤1000000:=hlen
  generalize hn9:s.out.length=m at *
  have Hn:=qh hn9
  have H1:=qh h1
  have H2:=qh h2
  have H9s:=qh h9s
  have hnr:Hid (¬InRow A bl):=fun e=>h2.ne_blk h1 (by decide) _ e rfl
  have hcc:c'=1∨¬c'=1:=by omega
  have h17:1≤c':=by omega
  clear h1 h2 h3 h4 h5 h6 h9 h10 hx h11 h12 h13 h14 h15 h16 hn9 hr hm hcut hc h7
  rcases hcc with rfl | hcc
  ·obtain rfl:k'=0:=by omega
   have h9s:=H9s.out
   rw[if_pos rfl] at h9s
   injection h9s with e1 _ e3
   subst e1;subst e3
   go_enter Tryz.func161, Tryz.ntmps161
   go_wp2_with (go_at_call 162; refine(hMay.out _ (Keep.refl Never _)).mono ?_;rintro e w' ⟨rfl,rfl⟩)
   obtain⟨W,hW⟩:∃W,w.setCell ⟨br,0,none⟩ (.slice (some ad) 0 0)=W:=⟨_,rfl⟩
   rw[hW]
   rw[hW] at HW
   obtain⟨hi,g1,g2,gs,gk⟩:=hst.out W hW.symm
   have cW:W.cell? ⟨bl,0,none⟩=some (.slice A m c):=g1.cell 0
   have fW:W.frozen? ⟨bl,0,none⟩=false:=g1.frozen 0
   have cWa:∀o,(W.alloc o).cell? ⟨bl,0,none⟩=some (.slice A m c):=fun o=>(g1.alloc o).cell 0
   have hBW:base≤W.heap.size:=by omega
   have Hi:=qh hi
   have G1:=qh g1
   have G2:=qh g2
   have Gs:=qh gs
   have Gk:=qh gk
   clear hi g1 g2 gs gk hW c2 f2 c1 f1 hc0 hc1 hst
   go_region_law (first
     | (refine step_app _ rfl (.tmp 32) (.tmp 37) _ rfl elemBits base rfl (G2.out.alloc _) _ rfl (Rd.of_blk (n:=1) (cs:=[.int .i64 n,.int .i64 x]) (Blk.new _ _ _) rfl) (by simp[Value.oneCell']) (by omega) (by unfold maxLen;omega) (by simp;omega) ?_;intro A5 c5 w5 hown5 hk5 hrow5;have hb5:=Blk.keep (w:=World.drew (W.alloc _)) (G1.out.alloc _).drew hk5 hnr.out;have hf5:=hb5.frozen 0;have hc5:=hb5.cell 0;have Hb5:=qh hb5;have HK5:=qh hk5;have HO5:=qh hown5;clear hb5 hk5 hown5)
     | (go_simp;go_at_call 160; refine(HW.out _ (Keep.refl Never W).drew).mono ?_;rintro e w' ⟨rfl,rfl⟩))
   all_goals
    go_wp2_with fail
    go_ret
    have hp:=Hi.out.push (v:=v) (m:=n) G1.out hBW (by rw[HX.out];exact HO5.out) HK5.out hrow5.out
    obtain⟨k1,Q',q1,q2,i2⟩:=hp
    exact⟨keep_next Gk.out (fun k h=>.inl h) k1,Q',fun k h=>(q1 k h).imp id (fun h=>by have:=Gs.out;omega),q2,.inl ⟨n,_,rfl,rfl,i2,hn1,hn2⟩⟩
  ·have h9s:=H9s.out
   rw[if_neg hcc] at h9s
   injection h9s with e1 _ e3
   subst e1;subst e3
   have HCC:=qh hcc
   clear hcc
   go_enter Tryz.func161, Tryz.ntmps161
   go_wp2_with (go_at_call 162; refine(hMay.out _ (Keep.refl Never _)).mono ?_;rintro e w' ⟨rfl,rfl⟩)
   obtain⟨W,hW⟩:∃W,w.setCell ⟨br,0,none⟩ (.slice (some ⟨ad.block,ad.off+1,none⟩) k' (c' - 1))=W:=⟨_,rfl⟩
   rw[hW]
   rw[hW] at HW
   obtain⟨hi,g1,g2,gs,gk⟩:=hst.out W hW.symm
   have cW:W.cell? ⟨bl,0,none⟩=some (.slice A m c):=g1.cell 0
   have fW:W.frozen? ⟨bl,0,none⟩=false:=g1.frozen 0
   have cWa:∀o,(W.alloc o).cell? ⟨bl,0,none⟩=some (.slice A m c):=fun o=>(g1.alloc o).cell 0
   have hBW:base≤W.heap.size:=by omega
   have Hi:=qh hi
   have G1:=qh g1
   have G2:=qh g2
   have Gs:=qh gs
   have Gk:=qh gk
   clear hi g1 g2 gs gk hW c2 f2 c1 f1 hc0 hc1 hst
   go_region_law (first
     | (refine step_app _ rfl (.tmp 32) (.tmp 37) _ rfl elemBits base rfl (G2.out.alloc _) _ rfl (Rd.of_blk (n:=1) (cs:=[.int .i64 n,.int .i64 x]) (Blk.new _ _ _) rfl) (by simp[Value.oneCell']) (by omega) (by unfold maxLen;omega) (by simp;omega) ?_;intro A5 c5 w5 hown5 hk5 hrow5;have hb5:=Blk.keep (w:=World.drew (W.alloc _)) (G1.out.alloc _).drew hk5 hnr.out;have hf5:=hb5.frozen 0;have hc5:=hb5.cell 0;have Hb5:=qh hb5;have HK5:=qh hk5;have HO5:=qh hown5;clear hb5 hk5 hown5)
     | (go_simp;go_at_call 160; refine(HW.out _ (Keep.refl Never W).drew).mono ?_;rintro e w' ⟨rfl,rfl⟩))
   all_goals
    go_wp2_with fail
    go_ret
    have hp:=Hi.out.push (v:=v) (m:=n) G1.out hBW (by rw[HX.out];exact HO5.out) HK5.out hrow5.out
    obtain⟨k1,Q',q1,q2,i2⟩:=hp
    exact⟨keep_next Gk.out (fun k h=>.inl h) k1,Q',fun k h=>(q1 k h).imp id (fun h=>by have:=Gs.out;omega),q2,.inl ⟨n,_,rfl,rfl,i2,hn1,hn2⟩⟩
theorem items1_does (B base bl br:Nat):Does 161 #[.pointer (some ⟨bl,0,none⟩),.pointer (some ⟨br,0,none⟩)] valI9 (fun s Q w=>InvI B base bl br s Q w∧base≤w.heap.size) (SI2 bl br):=by
 rintro v s Q w ⟨h,hB⟩ hok
 have hlen:¬1000000≤s.out.length:=by
  intro h
  exact hok (by rw[valI9,if_pos h])
 have e:valI9 v s=valI v s:=by rw[valI9,if_neg hlen]
 rw[e]
 have hup:∀r e w',VPost (InvI B base bl br) (SI2 bl br) Q w r e w'→VPost (fun s Q w=>InvI B base bl br s Q w∧base≤w.heap.size) (SI2 bl br) Q w r e w':=by
  rintro r e w' ⟨h1,Q',h2,h3,h4⟩
  have:=h1.size
  refine⟨h1,Q',h2,h3,?_⟩
  rcases h4 with⟨n,s',a,b,c,d⟩ | ⟨x,s',a,b,c⟩
  ·exact .inl ⟨n,s',a,b,⟨c,by omega⟩,d⟩
  ·exact .inr ⟨x,s',a,b,c,by omega⟩
 show Calls Tryz.prog 161 #[.int .i64 v,.pointer (some ⟨bl,0,none⟩),.pointer (some ⟨br,0,none⟩)] w _
 by_cases h7:v=7
 ·subst h7
  have:valI 7 s=.ok (0,⟨s.rest,s.out++[(7,0)]⟩):=by simp[valI]
  rw[this]
  exact(items1_seven B base bl br s Q w h hB (by omega)).mono fun _ _=>hup _ _ _
 ·cases hr:s.rest with
  | nil=>
   have:valI v s=.error 20:=by simp[valI,h7,hr]
   rw[this]
   exact(items1_bad B base bl br s Q w v h7 h this).mono fun _ _=>hup _ _ _
  | cons n t=>
   by_cases hm:vMay v n=true
   ·have:valI v s=.ok (n,⟨t,s.out++[(v,n)]⟩):=by simp[valI,h7,hr,hm]
    rw[this]
    exact(items1_good B base bl br s Q w v n t h7 h hB (by omega) hr hm).mono fun _ _=>hup _ _ _
   ·have:valI v s=.error 20:=by simp[valI,h7,hr,hm]
    rw[this]
    exact(items1_bad B base bl br s Q w v h7 h this).mono fun _ _=>hup _ _ _
end Go.Proofs.YtpapiojicbbheaaGreatDoor

namespace Go.Proofs.YtpapiojicbbheaaGreatDoor
open Go.RowKit
theorem wpS_body {P:Program}{fn:Func}{c₀:Frame}{cs cs1:List Frame}{R:Ending→FrameMode→World→Prop}{R0:Ending→World→Prop}{c:Code}{a:Act}{w:World}{u1:FrameMode} (hcs:cs1={ c₀ with mode:=u1 }::cs)
    (h:c.wp P (bodyPost P fn R0) a w) (hR:∀e w,R0 e w→R e u1 w):c.wpS P (bodyPostS P fn c₀ cs R) a cs1 w:=by
  refine wpS_of_wp (Code.wp_mono ?_ h)
  intro e a w hq
  cases e with
  | normal=>obtain⟨h1,v,h2,h3⟩:=hq;exact⟨h1,u1,hcs,v,h2,hR _ _ h3⟩
  | ret=>obtain⟨h1,v,h2,h3⟩:=hq;exact⟨h1,u1,hcs,v,h2,hR _ _ h3⟩
  | panic ch=>obtain⟨h1,h2⟩:=hq;exact⟨h1,u1,hcs,hR _ _ h2⟩
  | outgrown=>exact⟨u1,hR _ _ hq⟩
  | exit id=>exact hq.elim
  | goto l=>exact hq.elim
def faultR (x:Int):PanicEntry:=⟨.iface 198 (.agg #[.int .i64 x]),true,false⟩
set_option maxHeartbeats 1000000 in
set_option maxRecDepth 100000 in
theorem caught_panicking (p:Nat) (x y:Int) (w:World) (hb:Blk w p 39 #[.int .i64 y]) :
    CallsD Tryz.prog 158 #[.pointer (some ⟨p,0,none⟩)] (.panicking [faultV x]) w fun e u' w'=>
     e=.returned (.tuple #[])∧u'=.panicking [faultR x]∧Blk w' p 39 #[.int .i64 x]∧Keep (fun k=>k=p) w w':=by
  have hca:∀o,(w.alloc o).cell? ⟨p,0,none⟩=some (.int .i64 y):=fun o=>(hb.alloc o).cell 0
  have hfa:∀o,(w.alloc o).frozen? ⟨p,0,none⟩=false:=fun o=>(hb.alloc o).frozen 0
  have HB:=qh hb
  clear hb
  have hta:∀w,(Instr.typeAssert (.iface 198 (.agg #[.int .i64 x])) 20 198 true).run Tryz.prog w=.ok (.tuple #[.agg #[.int .i64 x],.bool true]) w:=fun w=>by
   simp[Instr.typeAssert,run_underlying Tryz.underlying198, go_sem,Result.andThen]
  have hne:∀w,(Op.equal 20 (.iface 198 (.agg #[.int .i64 x])) .nilIface).run Tryz.prog w=.ok false w:=fun w=>by kernel_rfl
  refine callsD_of_wpS Tryz.func158 rfl fun c₀ cs hu=>?_
  apply wpS_seq
  apply wpS_region
  simp[wpOpsS,go_sem,recoverD,hu,Tryz.ntmps158, Exit.thenS,faultV]
  refine wpS_body (u1:=.panicking [faultR x]) (R0:=fun e w'=>e=.returned (.tuple #[])∧w'=(w.alloc (.cells #[.int .i64 x] 198)).setCell ⟨p,0,none⟩ (.int .i64 x)) rfl ?_ (fun e w' h=>⟨h.1,rfl,by rw[h.2];simpa using(HB.out.alloc _).set_ 0 (.int .i64 x),by rw[h.2];exact((Keep.refl (fun k=>k=p) w).alloc _).set_ (p:=⟨p,0,none⟩) (.inl rfl) _⟩)
  simp only[Array.replicate_succ,Array.replicate_zero,List.push_toArray,List.nil_append,List.cons_append,List.setIfInBounds_toArray,List.set_cons_succ,List.set_cons_zero,List.append_toArray]
  clear hu
  go_wp2
  go_end0
  exact⟨rfl,rfl⟩
set_option maxHeartbeats 1000000 in
theorem caught_idle (p:Addr) (w:World) :
    CallsD Tryz.prog 158 #[.pointer (some p)] .returning w fun e u' w'=>e=.returned (.tuple #[])∧u'=.returning∧w'=w:=by
  refine callsD_of_wpS Tryz.func158 rfl fun c₀ cs hu=>?_
  apply wpS_seq
  apply wpS_region
  simp[wpOpsS,go_sem,recoverD,hu,Tryz.ntmps158, Exit.thenS]
  refine wpS_body (u1:=.returning) (R0:=fun e w'=>e=.returned (.tuple #[])∧w'=w) (by cases c₀;simp_all) ?_ (fun e w' h=>⟨h.1,rfl,h.2⟩)
  simp only[Array.replicate_succ,Array.replicate_zero,List.push_toArray,List.nil_append,List.cons_append,List.setIfInBounds_toArray,List.set_cons_succ,List.set_cons_zero,List.append_toArray]
  go_wp2
  go_end0
  exact⟨rfl,rfl⟩
def packCells (id:Int) (A:Option Addr) (n c:Nat):Array Value:=#[.int .i64 id,.slice A n c]
set_option maxHeartbeats 2000000 in
theorem known_any (id:Int) (w:World) :
    Calls Tryz.prog 159 #[.int .i64 id] w fun e w'=>e=.returned (.bool (ptree id).isSome)∧Keep Never w w':=by
  cases h:ptree id with
  | none=>
   have H:=qh h
   clear h
   go_enter Tryz.func159, Tryz.ntmps159
   go_wp2_with (go_at_call 164; refine(parts_none id H.out w).mono ?_;rintro e w' ⟨rfl,rfl⟩)
   go_ret
   exact⟨rfl,Keep.refl _ _⟩
  | some T=>
   have H:=qh h
   clear h
   have hlen:T.len≠0:=(ptree_chk H.out).1
   have HL:=qh hlen
   clear hlen
   go_enter Tryz.func159, Tryz.ntmps159
   go_wp2_with fail
   refine(parts_some id T H.out w).mono ?_
   rintro e w' ⟨A,n,c,rfl,h1,h2⟩
   obtain⟨ad,rfl⟩:∃ad,A=some ad:=by
    cases A with
    | none=>exact absurd rfl (h1.some_ HL.out)
    | some ad=>exact⟨ad,rfl⟩
   have H2:=qh h2
   clear h1 h2
   go_wp2_with fail
   go_ret
   exact⟨rfl,H2.out⟩
def IRet (w:World) (r:Except Int (List (Int×Int))) (e:Ending) (w':World):Prop:=
  ∃(A:Option Addr) (n c:Nat) (x:Int),e=.returned (.tuple #[.slice A n c,.int .i64 x])∧Keep Never w w' ∧
   ((∃tr,r=.ok tr∧x=0∧n=tr.length∧Own w' w.heap.size 162 2 A n c (bitCells (itemsOf tr)))∨(r=.error x∧x≠0∧-9223372036854775808≤x∧x≤9223372036854775807))
set_option maxHeartbeats 4000000 in
set_option maxRecDepth 100000 in
theorem items_none (id:Int) (V:List Int) (A:Option Addr) (n c:Nat) (w:World) (hT:ptree id=none) :
    Calls Tryz.prog 118 #[.agg (packCells id A n c)] w (IRet w (itemsM id V)):=by
  have hres:itemsM id V=.error 50:=by simp[itemsM,hT]
  rw[hres]
  have hk:Hid (∀w,Calls Tryz.prog 159 #[.int .i64 id] w fun e w'=>e=.returned (.bool false)∧Keep Never w w'):=by
   intro w
   have:=known_any id w
   rwa [hT] at this
  unfold packCells
  clear hT hres
  go_enter_defers Tryz.func118, Tryz.ntmps118
  go_wp2_with (go_at_call 159; refine(hk.out _).mono ?_;rintro e w1 ⟨rfl,hk1⟩;have HK1:=qh hk1;clear hk1)
  have hb:Blk w1 (w.heap.size+1+1) 39 #[.int .i64 0]:=Blk.keep (w:=((w.alloc _).alloc _).alloc _) (by simpa using Blk.new ((w.alloc (.cells #[.int .i64 id,.slice A n c] 105)).alloc (.cells #[.slice none 0 0] 106)) 39 #[.int .i64 0]) HK1.out (fun h=>h)
  have hl:Blk w1 (w.heap.size+1) 106 #[.slice none 0 0]:=Blk.keep (w:=((w.alloc _).alloc _).alloc _) ((by simpa using Blk.new (w.alloc (.cells #[.int .i64 id,.slice A n c] 105)) 106 #[.slice none 0 0]:Blk ((w.alloc (.cells #[.int .i64 id,.slice A n c] 105)).alloc (.cells #[.slice none 0 0] 106)) (w.heap.size+1) 106 #[.slice none 0 0]).alloc _) HK1.out (fun h=>h)
  refine leaves_cons (f := 158) (args:=#[.pointer (some ⟨w.heap.size+1+1,0,none⟩)]) (by simp) (by simp[go_sem]) ?_
  refine(caught_panicking (w.heap.size+1+1) 50 0 _ hb).mono ?_
  rintro e u' w2 ⟨rfl,rfl,hb2,hk2⟩
  have hl2:=hl.keep hk2 (by omega)
  have q1:w2.cell? ⟨w.heap.size+1+1,0,none⟩=some (.int .i64 50):=hb2.cell 0
  have q2:w2.cell? ⟨w.heap.size+1,0,none⟩=some (.slice none 0 0):=hl2.cell 0
  simp[Leaves,settle,results,Tryz.results118, go_sem,faultR,q1,q2]
  exact⟨_,_,_,_,rfl,(((((Keep.refl Never w).alloc _).alloc _).alloc _).trans HK1.out).then_ hk2 (fun i hi h=>by omega),.inr ⟨rfl,by decide,by decide,by decide⟩⟩
theorem world3 {w1:World}{b t1 t2 t3 tb:Nat}{cs1 cs2 cs3 cb:Array Value} (hl:Blk w1 b tb cb) (v:Value) :
    Blk ((((w1.alloc (.cells cs1 t1)).setCell ⟨b,0,none⟩ v).alloc (.cells cs2 t2)).alloc (.cells cs3 t3)).drew b tb (cb.setIfInBounds 0 v) ∧
    Blk ((((w1.alloc (.cells cs1 t1)).setCell ⟨b,0,none⟩ v).alloc (.cells cs2 t2)).alloc (.cells cs3 t3)).drew w1.heap.size t1 cs1 ∧
    Blk ((((w1.alloc (.cells cs1 t1)).setCell ⟨b,0,none⟩ v).alloc (.cells cs2 t2)).alloc (.cells cs3 t3)).drew (w1.heap.size+1) t2 cs2 ∧
    Blk ((((w1.alloc (.cells cs1 t1)).setCell ⟨b,0,none⟩ v).alloc (.cells cs2 t2)).alloc (.cells cs3 t3)).drew (w1.heap.size+1+1) t3 cs3 ∧
    Keep (fun k=>k=b) w1 ((((w1.alloc (.cells cs1 t1)).setCell ⟨b,0,none⟩ v).alloc (.cells cs2 t2)).alloc (.cells cs3 t3)).drew ∧
    ((((w1.alloc (.cells cs1 t1)).setCell ⟨b,0,none⟩ v).alloc (.cells cs2 t2)).alloc (.cells cs3 t3)).drew.heap.size=w1.heap.size+1+1+1:=by
  have hlt:=hl.lt
  have s1:((w1.alloc (.cells cs1 t1)).setCell ⟨b,0,none⟩ v).heap.size=w1.heap.size+1:=by simp[World.setCell]
  have n2:Blk (((w1.alloc (.cells cs1 t1)).setCell ⟨b,0,none⟩ v).alloc (.cells cs2 t2)) (w1.heap.size+1) t2 cs2:=by rw[←s1];exact Blk.new _ _ _
  have s2:(((w1.alloc (.cells cs1 t1)).setCell ⟨b,0,none⟩ v).alloc (.cells cs2 t2)).heap.size=w1.heap.size+1+1:=by rw[World.size_alloc,s1]
  have n3:Blk ((((w1.alloc (.cells cs1 t1)).setCell ⟨b,0,none⟩ v).alloc (.cells cs2 t2)).alloc (.cells cs3 t3)) (w1.heap.size+1+1) t3 cs3:=by rw[←s2];exact Blk.new _ _ _
  refine⟨((((hl.alloc _).set_ 0 v).alloc _).alloc _).drew,((((Blk.new w1 t1 cs1).far (p:=⟨b,0,none⟩) (by simp;omega) v).alloc _).alloc _).drew,(n2.alloc _).drew,n3.drew,((((((Keep.refl (fun k=>k=b) w1).alloc _).set_ (p:=⟨b,0,none⟩) (.inl rfl) v).alloc _).alloc _).drew),?_⟩
  show (World.alloc _ _).heap.size=_
  rw[World.size_alloc,s2]
theorem Own.of_blk2 {w:World}{g e n B size:Nat}{xs:List Value} (h:Blk w g e xs.toArray) (hl:xs.length=n*size) (hm:n≤maxLen) (hB:B≤g):Own w B e size (some ⟨g,0,none⟩) n n xs:=
  ⟨hl,.inr ⟨g,n,xs.toArray,rfl,hB,h,Nat.le_refl _,hm,by simp[hl],by rw[List.take_of_length_le (by simp[hl])]⟩⟩
set_option maxHeartbeats 4000000 in
set_option maxRecDepth 100000 in
theorem items_some (B:Nat) (id:Int) (V:List Int) (T:Parts) (A:Option Addr) (n c:Nat) (w:World) (hT:ptree id=some T) (hV:Rd w B 1 A n (V.map (.int .i64))) (hn:V.length=n) (hc:n≤c) (hcm:c≤maxLen) (hb:∀x∈V,i64 x) (h3:V.length≤8200) (hW:Widths w) (hg : 0 < B) (hB:B≤w.heap.size) :
    Calls Tryz.prog 118 #[.agg (packCells id A n c)] w (IRet w (itemsM id V)):=by
  have hk:Hid (∀w,Calls Tryz.prog 159 #[.int .i64 id] w fun e w'=>e=.returned (.bool true)∧Keep Never w w'):=by
   intro w
   have:=known_any id w
   rwa [hT] at this
  have hmf:∀(fn:Fn) (first cap:Array Value) (w:World),(Instr.makeFunc fn first cap).run Tryz.prog w=.ok (.func fn first cap) w:=fun _ _ _ _=>rfl
  have HT:=qh hT
  have HV:=qh hV
  have Hn:=qh hn
  have Hb:=qh hb
  have HW:=qh hW
  unfold packCells
  clear hT hV hn hb hW
  go_enter_defers Tryz.func118, Tryz.ntmps118
  go_wp2_with (go_at_call 159; refine(hk.out _).mono ?_;rintro e w1 ⟨rfl,hk1⟩;have HK1:=qh hk1;clear hk1)
  have hk0:Keep Never w w1:=(((Keep.refl Never w).alloc _).alloc _).alloc _ |>.trans HK1.out
  have hp:Blk w1 w.heap.size 105 #[.int .i64 id,.slice A n c]:=Blk.keep (w:=((w.alloc _).alloc _).alloc _) (((Blk.new w 105 #[.int .i64 id,.slice A n c]).alloc _).alloc _) HK1.out (fun h=>h)
  have hl:Blk w1 (w.heap.size+1) 106 #[.slice none 0 0]:=Blk.keep (w:=((w.alloc _).alloc _).alloc _) ((by simpa using Blk.new (w.alloc (.cells #[.int .i64 id,.slice A n c] 105)) 106 #[.slice none 0 0]:Blk ((w.alloc (.cells #[.int .i64 id,.slice A n c] 105)).alloc (.cells #[.slice none 0 0] 106)) (w.heap.size+1) 106 #[.slice none 0 0]).alloc _) HK1.out (fun h=>h)
  have he:Blk w1 (w.heap.size+1+1) 39 #[.int .i64 0]:=Blk.keep (w:=((w.alloc _).alloc _).alloc _) (by simpa using Blk.new ((w.alloc (.cells #[.int .i64 id,.slice A n c] 105)).alloc (.cells #[.slice none 0 0] 106)) 39 #[.int .i64 0]) HK1.out (fun h=>h)
  obtain⟨c1,c2⟩:=bc2 hp
  have c3:w1.cell? ⟨w.heap.size+1,0,none⟩=some (.slice none 0 0):=hl.cell 0
  have f3:w1.frozen? ⟨w.heap.size+1,0,none⟩=false:=hl.frozen 0
  have c3a:∀o,(w1.alloc o).cell? ⟨w.heap.size+1,0,none⟩=some (.slice none 0 0):=fun o=>(hl.alloc o).cell 0
  have f3a:∀o,(w1.alloc o).frozen? ⟨w.heap.size+1,0,none⟩=false:=fun o=>(hl.alloc o).frozen 0
  have c1a:∀o,(w1.alloc o).cell? ⟨w.heap.size,0,none⟩=some (.int .i64 id):=fun o=>(hp.alloc o).cell 0
  have c2a:∀o,(w1.alloc o).cell? ⟨w.heap.size,1,none⟩=some (.slice A n c):=fun o=>(hp.alloc o).cell 1
  have hps:∀o1 v,Blk ((w1.alloc o1).setCell ⟨w.heap.size+1,0,none⟩ v) w.heap.size 105 #[.int .i64 id,.slice A n c]:=fun o1 v=>(hp.alloc o1).far (p:=⟨w.heap.size+1,0,none⟩) (by simp) v
  have c2b:∀o1 v,((w1.alloc o1).setCell ⟨w.heap.size+1,0,none⟩ v).cell? ⟨w.heap.size,1,none⟩=some (.slice A n c):=fun o1 v=>(hps o1 v).cell 1
  have c1d:∀o1 v o2 o3,((((w1.alloc o1).setCell ⟨w.heap.size+1,0,none⟩ v).alloc o2).alloc o3).cell? ⟨w.heap.size,0,none⟩=some (.int .i64 id):=fun o1 v o2 o3=>(((hps o1 v).alloc o2).alloc o3).cell 0
  have Hps:=qh hps
  clear hps
  have Hk0:=qh hk0
  have Hp:=qh hp
  have Hl:=qh hl
  have He:=qh he
  have hWid:Calls Tryz.prog 160 #[.int .i64 5] w1.drew fun e w'=>e=.returned (.int .i64 8)∧w'=w1.drew:=
    (vwidth_any 5 w1.drew ((HW.out.keep hk0 (fun h=>h)).keep ((Keep.refl Never w1).drew) (fun h=>h))).mono fun _ _ h=>⟨h.1,h.2.symm⟩
  have HWid:=qh hWid
  clear hk0 hp hl he hWid
  refine wp_region_still_tail 4 (by kernel_rfl) (by kernel_rfl) ?_
  simp only[List.take_succ_cons,List.take_zero,List.drop_succ_cons,List.drop_zero]
  still_step
  still_step
  still_call HWid.out
  still_step
  refine wpStill_nil ?_
  change wpList _ _ _ _ _ (World.drew _)
  go_wp2_with fail
  refine(parts_some id T HT.out _).mono ?_
  rintro e w2 ⟨A2,n2,C2,rfl,h1,h2⟩
  obtain⟨b1,b2,b3,b4,k5,hs5⟩:=world3 (cs1:=#[.int .i64 id,.int .i64 8]) (t1 := 162) (cs2:=#[.slice A n c]) (t2 := 22) (cs3:=#[.func (.func 161) #[] #[.pointer (some ⟨w.heap.size+1,0,none⟩),.pointer (some ⟨w1.heap.size+1,0,none⟩)]]) (t3 := 202) Hl.out (.slice (some ⟨w1.heap.size,0,none⟩) 1 1)
  have g1:=b1.keep h2 (fun h=>h)
  have g2:=b2.keep h2 (fun h=>h)
  have g3:=b3.keep h2 (fun h=>h)
  have g4:=b4.keep h2 (fun h=>h)
  have he2:=(He.out.keep k5 (by omega)).keep h2 (fun h=>h)
  have hsz2:=h2.size
  rw[hs5] at hsz2
  have hw1:=Hk0.out.size
  have hlt:=He.out.lt
  have hk2:Keep Never w w2:=(Hk0.out.then_ k5 (fun i hi h=>by omega)).trans h2
  have hW2:Widths w2:=HW.out.keep hk2 (fun h=>h)
  have hrow:∀k,InRow (some ⟨w1.heap.size,0,none⟩:Option Addr) k↔k=w1.heap.size:=fun k=>⟨by rintro⟨ad,h,rfl⟩;injection h with h;subst h;rfl,by rintro rfl;exact⟨_,rfl,rfl⟩⟩
  have hinv:InvI B w1.heap.size (w.heap.size+1) (w1.heap.size+1) ⟨V,[(5,id)]⟩ (fun k=>k=w1.heap.size) w2:=by
   refine⟨some ⟨w1.heap.size,0,none⟩,1,A,n,c,by simpa using g1,?_,fun k=>(hrow k).symm,g3,Hn.out,?_,hc,hcm,Hb.out,hW2,by omega,trivial,by omega,by omega,by omega,hg⟩
   ·exact Own.of_blk2 (n:=1) (by simpa[bitCells,itemsOf,show vWidth 5=8 from rfl] using g2) rfl (by unfold maxLen;omega) (Nat.le_refl _)
   ·exact HV.out.keep hk2 (fun _ h=>h.elim)
  have hlead:=(ptree_chk HT.out).2.2.1
  have hne9:=walkI9_ok hlead 0 ⟨V,[(5,id)]⟩ (by simp;omega)
  have heq9:=walkI9 hlead 0 ⟨V,[(5,id)]⟩ (by simp;omega)
  have hwalk:=walk_any valI9 (fun s Q W=>InvI B w1.heap.size (w.heap.size+1) (w1.heap.size+1) s Q W∧w1.heap.size≤W.heap.size) (SI2 (w.heap.size+1) (w1.heap.size+1)) 161 #[.pointer (some ⟨w.heap.size+1,0,none⟩),.pointer (some ⟨w1.heap.size+1,0,none⟩)]
    (fun args w=>by kernel_rfl) (items1_does B w1.heap.size (w.heap.size+1) (w1.heap.size+1)) (fun s Q W W' h hk=>⟨h.1.keep hk,Nat.le_trans h.2 hk.size⟩)
    (w1.heap.size+1+1) w2.heap.size (Frw (w1.heap.size+1+1+1) w2) (fun k hk=>⟨fun h=>by have:=hk.1;rcases h with h | h <;> omega,hk.2⟩) ⟨fun h=>by rcases h with h | h <;> omega,by omega⟩ (fun k h=>by rcases h with h | h <;> omega)
    T.sz T (Nat.le_refl _) A2 n2 C2 ⟨V,[(5,id)]⟩ (fun k=>k=w1.heap.size) w2 (by rw[hs5] at h1;exact h1.keep (Keep.refl Never w2) (fun k hk h=>⟨fun h=>h.elim,h,hk⟩)) g4 (Nat.le_refl _) ⟨hinv,by omega⟩
    (fun k hk h=>by have:=hk.1;omega) (by omega) (fun k h=>by omega) hne9
  rw[heq9] at hwalk
  have hres:itemsM id V=(match walkL valI T 0 ⟨V,[(5,id)]⟩ with | .error e=>.error e | .ok s=>if s.rest=[] then .ok s.out else .error 20):=by unfold itemsM;simp only[HT.out] <;> rfl
  have hE2:=qh he2
  have hlt2:Hid (w.heap.size+1+1<w1.heap.size):=hlt
  have Hwalk:=qh hwalk
  have HK2:=qh hk2
  have Hsz2:Hid (w1.heap.size+1+1+1≤w2.heap.size):=hsz2
  have Hw1:Hid (w.heap.size≤w1.heap.size):=hw1
  rcases hr:walkL valI T 0 ⟨V,[(5,id)]⟩ with x | s'
  ·rw[hr] at hres
   have HR:=qh hres
   have Hr:=qh hr
   have hx:x=20:=walk_err (E:=fun e=>e=20) valI_err T 0 _ x hr
   subst hx
   clear b1 b2 b3 b4 k5 hs5 g1 g2 g3 g4 he2 hsz2 hw1 hlt hk2 hW2 hrow hinv hlead hne9 heq9 hwalk h1 h2 hres hr c1 c2 c3 f3 c3a f3a c1a c2a c2b c1d
   go_wp2_with fail
   refine Hwalk.out.mono ?_
   rintro e w3 ⟨hk5,Q',hq1,hq2,hpo⟩
   rw[Hr.out] at hpo
   rcases hpo with⟨_,h,_⟩ | ⟨y,s4,h,rfl,hi4⟩
   ·cases h
   injection h with h
   subst h
   obtain⟨⟨A5,c5,A6,n6,c6,i1,i2,i3,i4,_⟩,hi5⟩:=hi4
   have he3:=hE2.out.keep hk5 (fun h=>by have:=hlt2.out;rcases h with(h | h) | h <;> omega)
   have HKw:Hid (Keep Never w w3):=HK2.out.then_ hk5 (fun i hi h=>by have:=Hw1.out;rcases h with(h | h) | h <;> omega)
   clear hk5 hq1 hq2 hi5 i2 i3 i4
   go_wp2_with fail
   refine leaves_cons (f := 158) (args:=#[.pointer (some ⟨w.heap.size+1+1,0,none⟩)]) (by simp) (by simp[go_sem]) ?_
   refine(caught_panicking (w.heap.size+1+1) 20 0 _ he3).mono ?_
   rintro e u' w4 ⟨rfl,rfl,hb4,hk4⟩
   have q1:w4.cell? ⟨w.heap.size+1+1,0,none⟩=some (.int .i64 20):=hb4.cell 0
   have q2:w4.cell? ⟨w.heap.size+1,0,none⟩=some (.slice A5 s4.out.length c5):=(Blk.keep i1 hk4 (by omega)).cell 0
   have HF:Hid (Keep Never w w4):=HKw.out.then_ hk4 (fun i hi h=>by omega)
   clear hb4 hk4
   simp[Leaves,settle,results,Tryz.results118, go_sem,faultR,q1,q2]
   rw[HR.out]
   exact⟨_,_,_,_,rfl,HF.out,.inr ⟨rfl,by decide,by decide,by decide⟩⟩
  ·rw[hr] at hres
   have HR:=qh hres
   have Hr:=qh hr
   clear b1 b2 b3 b4 k5 hs5 g1 g2 g3 g4 he2 hsz2 hw1 hlt hk2 hW2 hrow hinv hlead hne9 heq9 hwalk h1 h2 hres hr c1 c2 c3 f3 c3a f3a c1a c2a c2b c1d
   go_wp2_with fail
   refine Hwalk.out.mono ?_
   rintro e w3 ⟨hk5,Q',hq1,hq2,hpo⟩
   rw[Hr.out] at hpo
   rcases hpo with⟨s4,h,rfl,hi4⟩ | ⟨_,_,h,_⟩
   rotate_left
   ·cases h
   injection h with h
   subst h
   obtain⟨⟨A5,c5,A6,n6,c6,i1,i2,i3,i4,i5,_⟩,hi5⟩:=hi4
   have he3:=hE2.out.keep hk5 (fun h=>by have:=hlt2.out;rcases h with(h | h) | h <;> omega)
   have HKw:Hid (Keep Never w w3):=HK2.out.then_ hk5 (fun i hi h=>by have:=Hw1.out;rcases h with(h | h) | h <;> omega)
   have d1:w3.cell? ⟨w1.heap.size+1,0,none⟩=some (.slice A6 n6 c6):=i4.cell 0
   have d2:w3.cell? ⟨w.heap.size+1,0,none⟩=some (.slice A5 s'.out.length c5):=i1.cell 0
   have d3:w3.cell? ⟨w.heap.size+1+1,0,none⟩=some (.int .i64 0):=he3.cell 0
   have d4:w3.frozen? ⟨w.heap.size+1,0,none⟩=false:=i1.frozen 0
   have d5:w3.frozen? ⟨w.heap.size+1+1,0,none⟩=false:=he3.frozen 0
   have hset:w3.setCell ⟨w.heap.size+1,0,none⟩ (.slice A5 s'.out.length c5)=w3.setCell ⟨w.heap.size+1,0,none⟩ (.slice A5 s'.out.length c5):=rfl
   have I1:=qh i1
   have I2:=qh i2
   have He3:=qh he3
   have Hbase:Hid (w.heap.size≤w1.heap.size):=Hw1.out
   clear hset hk5 hq1 hq2 hi5 i1 i2 i3 i4 he3
   by_cases hz:s'.rest=[]
   ·have HR:=(qh (HR.out.trans (if_pos hz)):Hid (itemsM id V=.ok s'.out))
    rw[hz] at i5
    simp only[List.length_nil] at i5
    subst i5
    clear hz
    go_wp2_with fail
    refine leaves_cons (f := 158) (args:=#[.pointer (some ⟨w.heap.size+1+1,0,none⟩)]) (by simp) (by simp[go_sem]) ?_
    refine(caught_idle _ _).mono ?_
    rintro e u' w4 ⟨rfl,rfl,rfl⟩
    have hl4:=((I1.out.set_ 0 (.slice A5 s'.out.length c5)).far (p:=⟨w.heap.size+1+1,0,none⟩) (by simp) (.int .i64 0))
    have he4:=((He3.out.far (p:=⟨w.heap.size+1,0,none⟩) (by simp) (.slice A5 s'.out.length c5)).set_ 0 (.int .i64 0))
    have q1:=he4.cell 0
    have q2:=hl4.cell 0
    simp at q1 q2
    simp[Leaves,settle,results,Tryz.results118, go_sem,q1,q2]
    rw[HR.out]
    have hk4:Keep Never w ((w3.setCell ⟨w.heap.size+1,0,none⟩ (.slice A5 s'.out.length c5)).setCell ⟨w.heap.size+1+1,0,none⟩ (.int .i64 0)):=
      (HKw.out.set_ (p:=⟨w.heap.size+1,0,none⟩) (.inr (by simp)) _).set_ (p:=⟨w.heap.size+1+1,0,none⟩) (.inr (by simp;omega)) _
    have ho4:=((I2.out.far (p:=⟨w.heap.size+1,0,none⟩) (fun k h e=>I2.out.ne_blk I1.out (by decide) k h e) (.slice A5 s'.out.length c5)).far (p:=⟨w.heap.size+1+1,0,none⟩) (fun k h e=>I2.out.ne_blk He3.out (by decide) k h e) (.int .i64 0)).less Hbase.out
    exact⟨_,_,_,_,rfl,hk4,.inl ⟨_,rfl,rfl,rfl,ho4⟩⟩
   ·have HR:=(qh (HR.out.trans (if_neg hz)):Hid (itemsM id V=.error 20))
    have hn6:(0:Int)<n6:=by
     have:s'.rest.length≠0:=fun h=>hz (List.length_eq_zero_iff.1 h)
     omega
    clear hz
    go_wp2_with fail
    refine leaves_cons (f := 158) (args:=#[.pointer (some ⟨w.heap.size+1+1,0,none⟩)]) (by simp) (by simp[go_sem]) ?_
    refine(caught_panicking (w.heap.size+1+1) 20 0 _ He3.out).mono ?_
    rintro e u' w4 ⟨rfl,rfl,hb4,hk4⟩
    have q1:w4.cell? ⟨w.heap.size+1+1,0,none⟩=some (.int .i64 20):=hb4.cell 0
    have q2:w4.cell? ⟨w.heap.size+1,0,none⟩=some (.slice A5 s'.out.length c5):=(Blk.keep I1.out hk4 (by omega)).cell 0
    have HF:Hid (Keep Never w w4):=HKw.out.then_ hk4 (fun i hi h=>by omega)
    clear hb4 hk4
    simp[Leaves,settle,results,Tryz.results118, go_sem,faultR,q1,q2]
    rw[HR.out]
    exact⟨_,_,_,_,rfl,HF.out,.inr ⟨rfl,by decide,by decide,by decide⟩⟩
theorem items_any (B:Nat) (id:Int) (V:List Int) (A:Option Addr) (n c:Nat) (w:World) (hV:Rd w B 1 A n (V.map (.int .i64))) (hn:V.length=n) (hc:n≤c) (hcm:c≤maxLen) (hb:∀x∈V,i64 x) (h3:V.length≤8200) (hW:Widths w) (hg : 0 < B) (hB:B≤w.heap.size) :
    Calls Tryz.prog 118 #[.agg (packCells id A n c)] w (IRet w (itemsM id V)):=by
  cases hT:ptree id with
  | none=>exact items_none id V A n c w hT
  | some T=>exact items_some B id V T A n c w hT hV hn hc hcm hb h3 hW hg hB
end Go.Proofs.YtpapiojicbbheaaGreatDoor
