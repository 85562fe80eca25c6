/- Texts of this claim, together: PackQ, PackV, PackI, PackC, PackJ, PmG. -/
import Derived.Test.YtpapiojicbbheaaGreatDoorTf08
import Derived.Test.YtpapiojicbbheaaGreatDoorTf04
import Derived.Deep.RegionHeld3
import Derived.Recover
import Derived.StillTailTactics
import Derived.Test.YtpapiojicbbheaaGreatDoorTf03
import Derived.Deep.RegionLaw
import Derived.Defers
import Derived.Test.YtpapiojicbbheaaGreatDoorTf05
namespace Go.Proofs.YtpapiojicbbheaaGreatDoor
open Go.RowKit
set_option maxHeartbeats 2000000 in
set_option maxRecDepth 100000 in
theorem head_any (w:World):Calls Tryz.prog 196 #[] w (PRet w w.heap.size pHead):=by
 have HS:=qh (PStack.start (Nat.le_refl w.heap.size))
 go_enter Tryz.func196, Tryz.ntmps196
 go_wp2_with fail
 refine(row_st HS [6,7,8] rfl rfl (by decide)).mono ?_
 clear HS
 rintro e w' ⟨A0,n0,c0,rfl,HS⟩
 go_wp2_with fail
 go_ret
 exact PStack.ret HS
theorem head_st {H:Nat}{w0 w:World}{L:List (Value×Parts)} (HS:Hid (PStack H w0 w L)) :
    Calls Tryz.prog 196 #[] w fun e w'=>∃A m d,e=.returned (.slice A m d)∧Hid (PStack H w0 w' ((.slice A m d,pHead)::L)):=PStack.call HS (Keep.refl _ _) (head_any w)
set_option maxHeartbeats 2000000 in
set_option maxRecDepth 100000 in
theorem link_any (w:World):Calls Tryz.prog 199 #[] w (PRet w w.heap.size pLink):=by
 have HS:=qh (PStack.start (Nat.le_refl w.heap.size))
 go_enter Tryz.func199, Tryz.ntmps199
 go_wp2_with fail
 refine(row_st HS [44,12] rfl rfl (by decide)).mono ?_
 clear HS
 rintro e w' ⟨A0,n0,c0,rfl,HS⟩
 go_wp2_with fail
 refine(row_st HS [10] rfl rfl (by decide)).mono ?_
 clear HS
 rintro e w' ⟨A1,n1,c1,rfl,HS⟩
 go_wp2_with fail
 refine(some_st HS 0 (row [10]) rfl).mono ?_
 clear HS
 rintro e w' ⟨A2,n2,c2,rfl,HS⟩
 go_wp2_with fail
 refine(row_st HS [11,45,46,47] rfl rfl (by decide)).mono ?_
 clear HS
 rintro e w' ⟨A3,n3,c3,rfl,HS⟩
 go_wp2_with fail
 refine(and_st HS [3,1,0] (andP [row [44,12],some_ 2 (row [10]),row [11,45,46,47]]) rfl rfl rfl (by decide) (by decide)).mono ?_
 clear HS
 rintro e w' ⟨A4,n4,c4,rfl,HS⟩
 go_wp2_with fail
 go_ret
 exact PStack.ret HS
theorem link_st {H:Nat}{w0 w:World}{L:List (Value×Parts)} (HS:Hid (PStack H w0 w L)) :
    Calls Tryz.prog 199 #[] w fun e w'=>∃A m d,e=.returned (.slice A m d)∧Hid (PStack H w0 w' ((.slice A m d,pLink)::L)):=PStack.call HS (Keep.refl _ _) (link_any w)
set_option maxHeartbeats 2000000 in
set_option maxRecDepth 100000 in
theorem report_any (A:Option Addr) (n c H:Nat) (T:Parts) (w:World) (h:PSl w (Fr H) A n c T) (hH:H≤w.heap.size) (hl:(pReport T).len≤1000):Calls Tryz.prog 193 #[.slice A n c] w (PRet w H (pReport T)):=by
 have HS:=qh ((PStack.start hH).push (Keep.refl _ _) h (Nat.le_refl _))
 have HL:=qh hl
 clear h hl
 go_enter Tryz.func193, Tryz.ntmps193
 go_wp2_with fail
 refine(row_st HS [7,8,4] rfl rfl (by decide)).mono ?_
 clear HS
 rintro e w' ⟨A1,n1,c1,rfl,HS⟩
 go_wp2_with fail
 refine(row_st HS [13,14,15,16,17,18] rfl rfl (by decide)).mono ?_
 clear HS
 rintro e w' ⟨A2,n2,c2,rfl,HS⟩
 go_wp2_with fail
 refine(row_st HS [19] rfl rfl (by decide)).mono ?_
 clear HS
 rintro e w' ⟨A3,n3,c3,rfl,HS⟩
 go_wp2_with fail
 refine(some_st HS 0 (row [19]) rfl).mono ?_
 clear HS
 rintro e w' ⟨A4,n4,c4,rfl,HS⟩
 go_wp2_with fail
 refine(row_st HS [20,21,22,23] rfl rfl (by decide)).mono ?_
 clear HS
 rintro e w' ⟨A5,n5,c5,rfl,HS⟩
 go_wp2_with fail
 refine(row_st HS [24] rfl rfl (by decide)).mono ?_
 clear HS
 rintro e w' ⟨A6,n6,c6,rfl,HS⟩
 go_wp2_with fail
 refine(some_st HS 0 (row [24]) rfl).mono ?_
 clear HS
 rintro e w' ⟨A7,n7,c7,rfl,HS⟩
 go_wp2_with fail
 refine(and_st HS [6,7,5,3,2,0] (andP [row [7,8,4],T,row [13,14,15,16,17,18],some_ 3 (row [19]),row [20,21,22,23],some_ 2 (row [24])]) rfl rfl rfl (by decide) HL.out).mono ?_
 clear HS
 rintro e w' ⟨A8,n8,c8,rfl,HS⟩
 go_wp2_with fail
 go_ret
 exact PStack.ret HS
theorem report_st {H:Nat}{w0 w:World}{L:List (Value×Parts)} (HS:Hid (PStack H w0 w L)) {A:Option Addr}{n c:Nat} (i:Nat) (T:Parts) (hv:L.getD i zPart=(.slice A n c,T)) (hl:(pReport T).len≤1000) :
    Calls Tryz.prog 193 #[.slice A n c] w fun e w'=>∃A m d,e=.returned (.slice A m d)∧Hid (PStack H w0 w' ((.slice A m d,pReport T)::L)):=by
  have h2:=HS.out
  obtain⟨A',n',c',e,hp⟩:=PStack.at_ h2 i
  rw[hv] at e hp
  injection e with e1 e2 e3
  subst e1;subst e2;subst e3
  refine(report_any A n c H _ w hp (by have:=h2.base;have:=h2.keep.size;omega) hl).mono ?_
  rintro e w' ⟨A,m,d,rfl,h3,h4⟩
  exact⟨A,m,d,rfl,qh (h2.push h4 h3 (Nat.le_refl _))⟩
set_option maxHeartbeats 2000000 in
set_option maxRecDepth 100000 in
theorem repeated_any (A:Option Addr) (n c H:Nat) (T:Parts) (w:World) (h:PSl w (Fr H) A n c T) (hH:H≤w.heap.size) (hl:(pRepeated T).len≤1000):Calls Tryz.prog 198 #[.slice A n c] w (PRet w H (pRepeated T)):=by
 have HS:=qh ((PStack.start hH).push (Keep.refl _ _) h (Nat.le_refl _))
 have HL:=qh hl
 clear h hl
 go_enter Tryz.func198, Tryz.ntmps198
 go_wp2_with fail
 refine(row_st HS [27] rfl rfl (by decide)).mono ?_
 clear HS
 rintro e w' ⟨A1,n1,c1,rfl,HS⟩
 go_wp2_with fail
 refine(some_st HS 1 T rfl).mono ?_
 clear HS
 rintro e w' ⟨A2,n2,c2,rfl,HS⟩
 go_wp2_with fail
 refine(and_st HS [2,1,0] (andP [T,row [27],some_ 1 T]) rfl rfl rfl (by decide) HL.out).mono ?_
 clear HS
 rintro e w' ⟨A3,n3,c3,rfl,HS⟩
 go_wp2_with fail
 go_ret
 exact PStack.ret HS
theorem repeated_st {H:Nat}{w0 w:World}{L:List (Value×Parts)} (HS:Hid (PStack H w0 w L)) {A:Option Addr}{n c:Nat} (i:Nat) (T:Parts) (hv:L.getD i zPart=(.slice A n c,T)) (hl:(pRepeated T).len≤1000) :
    Calls Tryz.prog 198 #[.slice A n c] w fun e w'=>∃A m d,e=.returned (.slice A m d)∧Hid (PStack H w0 w' ((.slice A m d,pRepeated T)::L)):=by
  have h2:=HS.out
  obtain⟨A',n',c',e,hp⟩:=PStack.at_ h2 i
  rw[hv] at e hp
  injection e with e1 e2 e3
  subst e1;subst e2;subst e3
  refine(repeated_any A n c H _ w hp (by have:=h2.base;have:=h2.keep.size;omega) hl).mono ?_
  rintro e w' ⟨A,m,d,rfl,h3,h4⟩
  exact⟨A,m,d,rfl,qh (h2.push h4 h3 (Nat.le_refl _))⟩
set_option maxHeartbeats 2000000 in
set_option maxRecDepth 100000 in
theorem authority_any (w:World):Calls Tryz.prog 200 #[] w (PRet w w.heap.size pAuthority):=by
 have HS:=qh (PStack.start (Nat.le_refl w.heap.size))
 go_enter Tryz.func200, Tryz.ntmps200
 go_wp2_with fail
 refine(row_st HS [29] rfl rfl (by decide)).mono ?_
 clear HS
 rintro e w' ⟨A0,n0,c0,rfl,HS⟩
 go_wp2_with fail
 refine(row_st HS [30,31] rfl rfl (by decide)).mono ?_
 clear HS
 rintro e w' ⟨A1,n1,c1,rfl,HS⟩
 go_wp2_with fail
 refine(some_st HS 0 (row [30,31]) rfl).mono ?_
 clear HS
 rintro e w' ⟨A2,n2,c2,rfl,HS⟩
 go_wp2_with fail
 refine(and_st HS [2,0] (andP [row [29],some_ 2 (row [30,31])]) rfl rfl rfl (by decide) (by decide)).mono ?_
 clear HS
 rintro e w' ⟨A3,n3,c3,rfl,HS⟩
 go_wp2_with fail
 refine(row_st HS [28] rfl rfl (by decide)).mono ?_
 clear HS
 rintro e w' ⟨A4,n4,c4,rfl,HS⟩
 go_wp2_with fail
 refine(and_st HS [0,1] (andP [row [28],andP [row [29],some_ 2 (row [30,31])]]) rfl rfl rfl (by decide) (by decide)).mono ?_
 clear HS
 rintro e w' ⟨A5,n5,c5,rfl,HS⟩
 go_wp2_with fail
 refine(row_st HS [6,7,8,25,26,27] rfl rfl (by decide)).mono ?_
 clear HS
 rintro e w' ⟨A6,n6,c6,rfl,HS⟩
 go_wp2_with fail
 refine(some_st HS 1 (andP [row [28],andP [row [29],some_ 2 (row [30,31])]]) rfl).mono ?_
 clear HS
 rintro e w' ⟨A7,n7,c7,rfl,HS⟩
 go_wp2_with fail
 refine(row_st HS [32] rfl rfl (by decide)).mono ?_
 clear HS
 rintro e w' ⟨A8,n8,c8,rfl,HS⟩
 go_wp2_with fail
 refine(row_st HS [33] rfl rfl (by decide)).mono ?_
 clear HS
 rintro e w' ⟨A9,n9,c9,rfl,HS⟩
 go_wp2_with fail
 refine(row_st HS [34,35] rfl rfl (by decide)).mono ?_
 clear HS
 rintro e w' ⟨A10,n10,c10,rfl,HS⟩
 go_wp2_with fail
 refine(some_st HS 0 (row [34,35]) rfl).mono ?_
 clear HS
 rintro e w' ⟨A11,n11,c11,rfl,HS⟩
 go_wp2_with fail
 refine(row_st HS [36] rfl rfl (by decide)).mono ?_
 clear HS
 rintro e w' ⟨A12,n12,c12,rfl,HS⟩
 go_wp2_with fail
 refine(row_st HS [37,38] rfl rfl (by decide)).mono ?_
 clear HS
 rintro e w' ⟨A13,n13,c13,rfl,HS⟩
 go_wp2_with fail
 refine(some_st HS 0 (row [37,38]) rfl).mono ?_
 clear HS
 rintro e w' ⟨A14,n14,c14,rfl,HS⟩
 go_wp2_with fail
 refine(row_st HS [39] rfl rfl (by decide)).mono ?_
 clear HS
 rintro e w' ⟨A15,n15,c15,rfl,HS⟩
 go_wp2_with fail
 refine(row_st HS [40,41,42,43] rfl rfl (by decide)).mono ?_
 clear HS
 rintro e w' ⟨A16,n16,c16,rfl,HS⟩
 go_wp2_with fail
 refine(some_st HS 0 (row [40,41,42,43]) rfl).mono ?_
 clear HS
 rintro e w' ⟨A17,n17,c17,rfl,HS⟩
 go_wp2_with fail
 refine(and_st HS [11,10,9,14,8,6,5,3,2,0] (andP [row [6,7,8,25,26,27],some_ 1 (andP [row [28],andP [row [29],some_ 2 (row [30,31])]]),row [32],andP [row [29],some_ 2 (row [30,31])],row [33],some_ 2 (row [34,35]),row [36],some_ 2 (row [37,38]),row [39],some_ 2 (row [40,41,42,43])]) rfl rfl rfl (by decide) (by decide)).mono ?_
 clear HS
 rintro e w' ⟨A18,n18,c18,rfl,HS⟩
 go_wp2_with fail
 go_ret
 exact PStack.ret HS
theorem authority_st {H:Nat}{w0 w:World}{L:List (Value×Parts)} (HS:Hid (PStack H w0 w L)) :
    Calls Tryz.prog 200 #[] w fun e w'=>∃A m d,e=.returned (.slice A m d)∧Hid (PStack H w0 w' ((.slice A m d,pAuthority)::L)):=PStack.call HS (Keep.refl _ _) (authority_any w)
set_option maxHeartbeats 2000000 in
set_option maxRecDepth 100000 in
theorem speeds_any (w:World):Calls Tryz.prog 201 #[] w (PRet w w.heap.size pSpeeds):=by
 have HS:=qh (PStack.start (Nat.le_refl w.heap.size))
 go_enter Tryz.func201, Tryz.ntmps201
 go_wp2_with fail
 refine(row_st HS [51,52,53,27] rfl rfl (by decide)).mono ?_
 clear HS
 rintro e w' ⟨A0,n0,c0,rfl,HS⟩
 go_wp2_with fail
 refine(row_st HS [54,55] rfl rfl (by decide)).mono ?_
 clear HS
 rintro e w' ⟨A1,n1,c1,rfl,HS⟩
 go_wp2_with fail
 refine(some_st HS 0 (row [54,55]) rfl).mono ?_
 clear HS
 rintro e w' ⟨A2,n2,c2,rfl,HS⟩
 go_wp2_with fail
 refine(and_st HS [2,0] (andP [row [51,52,53,27],some_ 1 (row [54,55])]) rfl rfl rfl (by decide) (by decide)).mono ?_
 clear HS
 rintro e w' ⟨A3,n3,c3,rfl,HS⟩
 go_wp2_with fail
 refine(head_st HS).mono ?_
 clear HS
 rintro e w' ⟨A4,n4,c4,rfl,HS⟩
 go_wp2_with fail
 refine(row_st HS [27] rfl rfl (by decide)).mono ?_
 clear HS
 rintro e w' ⟨A5,n5,c5,rfl,HS⟩
 go_wp2_with fail
 refine(some_st HS 2 (andP [row [51,52,53,27],some_ 1 (row [54,55])]) rfl).mono ?_
 clear HS
 rintro e w' ⟨A6,n6,c6,rfl,HS⟩
 go_wp2_with fail
 refine(and_st HS [2,3,1,0] (andP [pHead,andP [row [51,52,53,27],some_ 1 (row [54,55])],row [27],some_ 1 (andP [row [51,52,53,27],some_ 1 (row [54,55])])]) rfl rfl rfl (by decide) (by decide)).mono ?_
 clear HS
 rintro e w' ⟨A7,n7,c7,rfl,HS⟩
 go_wp2_with fail
 go_ret
 exact PStack.ret HS
theorem speeds_st {H:Nat}{w0 w:World}{L:List (Value×Parts)} (HS:Hid (PStack H w0 w L)) :
    Calls Tryz.prog 201 #[] w fun e w'=>∃A m d,e=.returned (.slice A m d)∧Hid (PStack H w0 w' ((.slice A m d,pSpeeds)::L)):=PStack.call HS (Keep.refl _ _) (speeds_any w)
set_option maxHeartbeats 2000000 in
set_option maxRecDepth 100000 in
theorem parts_0 (w:World):Calls Tryz.prog 164 #[.int .i64 0] w (PRet w w.heap.size (pReport Parts.nil)):=by
 have HS:=qh (PStack.start (Nat.le_refl w.heap.size))
 go_enter Tryz.func164, Tryz.ntmps164
 go_wp2_with fail
 refine(report_st HS 1000 Parts.nil rfl (by decide)).mono ?_
 clear HS
 rintro e w' ⟨A0,n0,c0,rfl,HS⟩
 go_wp2_with fail
 go_ret
 exact PStack.ret HS
set_option maxHeartbeats 2000000 in
set_option maxRecDepth 100000 in
theorem parts_1 (w:World):Calls Tryz.prog 164 #[.int .i64 1] w (PRet w w.heap.size (pReport (row [74]))):=by
 have HS:=qh (PStack.start (Nat.le_refl w.heap.size))
 go_enter Tryz.func164, Tryz.ntmps164
 go_wp2_with fail
 refine(row_st HS [74] rfl rfl (by decide)).mono ?_
 clear HS
 rintro e w' ⟨A0,n0,c0,rfl,HS⟩
 go_wp2_with fail
 refine(report_st HS 0 (row [74]) rfl (by decide)).mono ?_
 clear HS
 rintro e w' ⟨A1,n1,c1,rfl,HS⟩
 go_wp2_with fail
 go_ret
 exact PStack.ret HS
set_option maxHeartbeats 2000000 in
set_option maxRecDepth 100000 in
theorem parts_3 (w:World):Calls Tryz.prog 164 #[.int .i64 3] w (PRet w w.heap.size (andP [pHead,row [84,27],some_ 1 (row [10]),row [85,87,86]])):=by
 have HS:=qh (PStack.start (Nat.le_refl w.heap.size))
 go_enter Tryz.func164, Tryz.ntmps164
 go_wp2_with fail
 refine(head_st HS).mono ?_
 clear HS
 rintro e w' ⟨A0,n0,c0,rfl,HS⟩
 go_wp2_with fail
 refine(row_st HS [84,27] rfl rfl (by decide)).mono ?_
 clear HS
 rintro e w' ⟨A1,n1,c1,rfl,HS⟩
 go_wp2_with fail
 refine(row_st HS [10] rfl rfl (by decide)).mono ?_
 clear HS
 rintro e w' ⟨A2,n2,c2,rfl,HS⟩
 go_wp2_with fail
 refine(some_st HS 0 (row [10]) rfl).mono ?_
 clear HS
 rintro e w' ⟨A3,n3,c3,rfl,HS⟩
 go_wp2_with fail
 refine(row_st HS [85,87,86] rfl rfl (by decide)).mono ?_
 clear HS
 rintro e w' ⟨A4,n4,c4,rfl,HS⟩
 go_wp2_with fail
 refine(and_st HS [4,3,1,0] (andP [pHead,row [84,27],some_ 1 (row [10]),row [85,87,86]]) rfl rfl rfl (by decide) (by decide)).mono ?_
 clear HS
 rintro e w' ⟨A5,n5,c5,rfl,HS⟩
 go_wp2_with fail
 go_ret
 exact PStack.ret HS
set_option maxHeartbeats 2000000 in
set_option maxRecDepth 100000 in
theorem parts_5 (w:World):Calls Tryz.prog 164 #[.int .i64 5] w (PRet w w.heap.size (andP [pHead,pRepeated pLink])):=by
 have HS:=qh (PStack.start (Nat.le_refl w.heap.size))
 go_enter Tryz.func164, Tryz.ntmps164
 go_wp2_with fail
 refine(head_st HS).mono ?_
 clear HS
 rintro e w' ⟨A0,n0,c0,rfl,HS⟩
 go_wp2_with fail
 refine(link_st HS).mono ?_
 clear HS
 rintro e w' ⟨A1,n1,c1,rfl,HS⟩
 go_wp2_with fail
 refine(repeated_st HS 0 pLink rfl (by decide)).mono ?_
 clear HS
 rintro e w' ⟨A2,n2,c2,rfl,HS⟩
 go_wp2_with fail
 refine(and_st HS [2,0] (andP [pHead,pRepeated pLink]) rfl rfl rfl (by decide) (by decide)).mono ?_
 clear HS
 rintro e w' ⟨A3,n3,c3,rfl,HS⟩
 go_wp2_with fail
 go_ret
 exact PStack.ret HS
set_option maxHeartbeats 2000000 in
set_option maxRecDepth 100000 in
theorem parts_11 (w:World):Calls Tryz.prog 164 #[.int .i64 11] w (PRet w w.heap.size (andP [row [7,75,76,77,78,79,80,81,27],some_ 1 (row [82]),row [27],some_ 1 (row [83])])):=by
 have HS:=qh (PStack.start (Nat.le_refl w.heap.size))
 go_enter Tryz.func164, Tryz.ntmps164
 go_wp2_with fail
 refine(row_st HS [7,75,76,77,78,79,80,81,27] rfl rfl (by decide)).mono ?_
 clear HS
 rintro e w' ⟨A0,n0,c0,rfl,HS⟩
 go_wp2_with fail
 refine(row_st HS [82] rfl rfl (by decide)).mono ?_
 clear HS
 rintro e w' ⟨A1,n1,c1,rfl,HS⟩
 go_wp2_with fail
 refine(some_st HS 0 (row [82]) rfl).mono ?_
 clear HS
 rintro e w' ⟨A2,n2,c2,rfl,HS⟩
 go_wp2_with fail
 refine(row_st HS [27] rfl rfl (by decide)).mono ?_
 clear HS
 rintro e w' ⟨A3,n3,c3,rfl,HS⟩
 go_wp2_with fail
 refine(row_st HS [83] rfl rfl (by decide)).mono ?_
 clear HS
 rintro e w' ⟨A4,n4,c4,rfl,HS⟩
 go_wp2_with fail
 refine(some_st HS 0 (row [83]) rfl).mono ?_
 clear HS
 rintro e w' ⟨A5,n5,c5,rfl,HS⟩
 go_wp2_with fail
 refine(and_st HS [5,3,2,0] (andP [row [7,75,76,77,78,79,80,81,27],some_ 1 (row [82]),row [27],some_ 1 (row [83])]) rfl rfl rfl (by decide) (by decide)).mono ?_
 clear HS
 rintro e w' ⟨A6,n6,c6,rfl,HS⟩
 go_wp2_with fail
 go_ret
 exact PStack.ret HS
set_option maxHeartbeats 2000000 in
set_option maxRecDepth 100000 in
theorem parts_15 (w:World):Calls Tryz.prog 164 #[.int .i64 15] w (PRet w w.heap.size pAuthority):=by
 have HS:=qh (PStack.start (Nat.le_refl w.heap.size))
 go_enter Tryz.func164, Tryz.ntmps164
 go_wp2_with fail
 refine(authority_st HS).mono ?_
 clear HS
 rintro e w' ⟨A0,n0,c0,rfl,HS⟩
 go_wp2_with fail
 go_ret
 exact PStack.ret HS
set_option maxHeartbeats 2000000 in
set_option maxRecDepth 100000 in
theorem parts_21 (w:World):Calls Tryz.prog 164 #[.int .i64 21] w (PRet w w.heap.size (andP [pHead,pRepeated (row [48,49,50])])):=by
 have HS:=qh (PStack.start (Nat.le_refl w.heap.size))
 go_enter Tryz.func164, Tryz.ntmps164
 go_wp2_with fail
 refine(head_st HS).mono ?_
 clear HS
 rintro e w' ⟨A0,n0,c0,rfl,HS⟩
 go_wp2_with fail
 refine(row_st HS [48,49,50] rfl rfl (by decide)).mono ?_
 clear HS
 rintro e w' ⟨A1,n1,c1,rfl,HS⟩
 go_wp2_with fail
 refine(repeated_st HS 0 (row [48,49,50]) rfl (by decide)).mono ?_
 clear HS
 rintro e w' ⟨A2,n2,c2,rfl,HS⟩
 go_wp2_with fail
 refine(and_st HS [2,0] (andP [pHead,pRepeated (row [48,49,50])]) rfl rfl rfl (by decide) (by decide)).mono ?_
 clear HS
 rintro e w' ⟨A3,n3,c3,rfl,HS⟩
 go_wp2_with fail
 go_ret
 exact PStack.ret HS
set_option maxHeartbeats 2000000 in
set_option maxRecDepth 100000 in
theorem parts_27 (w:World):Calls Tryz.prog 164 #[.int .i64 27] w (PRet w w.heap.size pSpeeds):=by
 have HS:=qh (PStack.start (Nat.le_refl w.heap.size))
 go_enter Tryz.func164, Tryz.ntmps164
 go_wp2_with fail
 refine(speeds_st HS).mono ?_
 clear HS
 rintro e w' ⟨A0,n0,c0,rfl,HS⟩
 go_wp2_with fail
 go_ret
 exact PStack.ret HS
set_option maxHeartbeats 2000000 in
set_option maxRecDepth 100000 in
theorem parts_42 (w:World):Calls Tryz.prog 164 #[.int .i64 42] w (PRet w w.heap.size (row [6,7,62,10,63,64,64,65])):=by
 have HS:=qh (PStack.start (Nat.le_refl w.heap.size))
 go_enter Tryz.func164, Tryz.ntmps164
 go_wp2_with fail
 refine(row_st HS [6,7,62,10,63,64,64,65] rfl rfl (by decide)).mono ?_
 clear HS
 rintro e w' ⟨A0,n0,c0,rfl,HS⟩
 go_wp2_with fail
 go_ret
 exact PStack.ret HS
set_option maxHeartbeats 2000000 in
set_option maxRecDepth 100000 in
theorem parts_57 (w:World):Calls Tryz.prog 164 #[.int .i64 57] w (PRet w w.heap.size (row [6,7,66,67,68])):=by
 have HS:=qh (PStack.start (Nat.le_refl w.heap.size))
 go_enter Tryz.func164, Tryz.ntmps164
 go_wp2_with fail
 refine(row_st HS [6,7,66,67,68] rfl rfl (by decide)).mono ?_
 clear HS
 rintro e w' ⟨A0,n0,c0,rfl,HS⟩
 go_wp2_with fail
 go_ret
 exact PStack.ret HS
set_option maxHeartbeats 2000000 in
set_option maxRecDepth 100000 in
theorem parts_58 (w:World):Calls Tryz.prog 164 #[.int .i64 58] w (PRet w w.heap.size (andP [pHead,row [69,70,71,27],some_ 1 (row [72,73])])):=by
 have HS:=qh (PStack.start (Nat.le_refl w.heap.size))
 go_enter Tryz.func164, Tryz.ntmps164
 go_wp2_with fail
 refine(head_st HS).mono ?_
 clear HS
 rintro e w' ⟨A0,n0,c0,rfl,HS⟩
 go_wp2_with fail
 refine(row_st HS [69,70,71,27] rfl rfl (by decide)).mono ?_
 clear HS
 rintro e w' ⟨A1,n1,c1,rfl,HS⟩
 go_wp2_with fail
 refine(row_st HS [72,73] rfl rfl (by decide)).mono ?_
 clear HS
 rintro e w' ⟨A2,n2,c2,rfl,HS⟩
 go_wp2_with fail
 refine(some_st HS 0 (row [72,73]) rfl).mono ?_
 clear HS
 rintro e w' ⟨A3,n3,c3,rfl,HS⟩
 go_wp2_with fail
 refine(and_st HS [3,2,0] (andP [pHead,row [69,70,71,27],some_ 1 (row [72,73])]) rfl rfl rfl (by decide) (by decide)).mono ?_
 clear HS
 rintro e w' ⟨A4,n4,c4,rfl,HS⟩
 go_wp2_with fail
 go_ret
 exact PStack.ret HS
set_option maxHeartbeats 2000000 in
set_option maxRecDepth 100000 in
theorem parts_80 (w:World):Calls Tryz.prog 164 #[.int .i64 80] w (PRet w w.heap.size (andP [pHead,pRepeated (row [56,57,58,59,60,61])])):=by
 have HS:=qh (PStack.start (Nat.le_refl w.heap.size))
 go_enter Tryz.func164, Tryz.ntmps164
 go_wp2_with fail
 refine(head_st HS).mono ?_
 clear HS
 rintro e w' ⟨A0,n0,c0,rfl,HS⟩
 go_wp2_with fail
 refine(row_st HS [56,57,58,59,60,61] rfl rfl (by decide)).mono ?_
 clear HS
 rintro e w' ⟨A1,n1,c1,rfl,HS⟩
 go_wp2_with fail
 refine(repeated_st HS 0 (row [56,57,58,59,60,61]) rfl (by decide)).mono ?_
 clear HS
 rintro e w' ⟨A2,n2,c2,rfl,HS⟩
 go_wp2_with fail
 refine(and_st HS [2,0] (andP [pHead,pRepeated (row [56,57,58,59,60,61])]) rfl rfl rfl (by decide) (by decide)).mono ?_
 clear HS
 rintro e w' ⟨A3,n3,c3,rfl,HS⟩
 go_wp2_with fail
 go_ret
 exact PStack.ret HS
set_option maxHeartbeats 2000000 in
set_option maxRecDepth 100000 in
theorem parts_none (id:Int) (h:ptree id=none) (w:World):Calls Tryz.prog 164 #[.int .i64 id] w fun e w'=>e=.returned (.slice none 0 0)∧w=w':=by
 have hs:id≠0∧id≠1∧id≠3∧id≠5∧id≠11∧id≠15∧id≠21∧id≠27∧id≠42∧id≠57∧id≠58∧id≠80:=⟨(by rintro rfl;have h1:some _=none:=h;cases h1),(by rintro rfl;have h1:some _=none:=h;cases h1),(by rintro rfl;have h1:some _=none:=h;cases h1),(by rintro rfl;have h1:some _=none:=h;cases h1),(by rintro rfl;have h1:some _=none:=h;cases h1),(by rintro rfl;have h1:some _=none:=h;cases h1),(by rintro rfl;have h1:some _=none:=h;cases h1),(by rintro rfl;have h1:some _=none:=h;cases h1),(by rintro rfl;have h1:some _=none:=h;cases h1),(by rintro rfl;have h1:some _=none:=h;cases h1),(by rintro rfl;have h1:some _=none:=h;cases h1),(by rintro rfl;have h1:some _=none:=h;cases h1)⟩
 obtain⟨g0,g1,g3,g5,g11,g15,g21,g27,g42,g57,g58,g80⟩:=hs
 clear h
 have k0:(id==0)=false:=by simpa using g0
 have k1:(id==1)=false:=by simpa using g1
 have k3:(id==3)=false:=by simpa using g3
 have k5:(id==5)=false:=by simpa using g5
 have k11:(id==11)=false:=by simpa using g11
 have k15:(id==15)=false:=by simpa using g15
 have k21:(id==21)=false:=by simpa using g21
 have k27:(id==27)=false:=by simpa using g27
 have k42:(id==42)=false:=by simpa using g42
 have k57:(id==57)=false:=by simpa using g57
 have k58:(id==58)=false:=by simpa using g58
 have k80:(id==80)=false:=by simpa using g80
 go_enter Tryz.func164, Tryz.ntmps164
 go_wp2_with fail
 go_ret
 exact⟨rfl,rfl⟩
theorem parts_some (id:Int) (T:Parts) (h:ptree id=some T) (w:World):Calls Tryz.prog 164 #[.int .i64 id] w (PRet w w.heap.size T):=by
 unfold ptree at h
 by_cases g0:id=0
 ·rw[if_pos g0] at h;injection h with h;subst h;subst g0;exact parts_0 w
 rw[if_neg g0] at h
 by_cases g1:id=1
 ·rw[if_pos g1] at h;injection h with h;subst h;subst g1;exact parts_1 w
 rw[if_neg g1] at h
 by_cases g3:id=3
 ·rw[if_pos g3] at h;injection h with h;subst h;subst g3;exact parts_3 w
 rw[if_neg g3] at h
 by_cases g5:id=5
 ·rw[if_pos g5] at h;injection h with h;subst h;subst g5;exact parts_5 w
 rw[if_neg g5] at h
 by_cases g11:id=11
 ·rw[if_pos g11] at h;injection h with h;subst h;subst g11;exact parts_11 w
 rw[if_neg g11] at h
 by_cases g15:id=15
 ·rw[if_pos g15] at h;injection h with h;subst h;subst g15;exact parts_15 w
 rw[if_neg g15] at h
 by_cases g21:id=21
 ·rw[if_pos g21] at h;injection h with h;subst h;subst g21;exact parts_21 w
 rw[if_neg g21] at h
 by_cases g27:id=27
 ·rw[if_pos g27] at h;injection h with h;subst h;subst g27;exact parts_27 w
 rw[if_neg g27] at h
 by_cases g42:id=42
 ·rw[if_pos g42] at h;injection h with h;subst h;subst g42;exact parts_42 w
 rw[if_neg g42] at h
 by_cases g57:id=57
 ·rw[if_pos g57] at h;injection h with h;subst h;subst g57;exact parts_57 w
 rw[if_neg g57] at h
 by_cases g58:id=58
 ·rw[if_pos g58] at h;injection h with h;subst h;subst g58;exact parts_58 w
 rw[if_neg g58] at h
 by_cases g80:id=80
 ·rw[if_pos g80] at h;injection h with h;subst h;subst g80;exact parts_80 w
 rw[if_neg g80] at h
 cases h
end Go.Proofs.YtpapiojicbbheaaGreatDoor

namespace Go.Proofs.YtpapiojicbbheaaGreatDoor
open Go.RowKit
def faultV (x:Int):PanicEntry:=⟨.iface 198 (.agg #[.int .i64 x]),false,false⟩
def VPost {σ:Type} (Inv:σ→(Nat→Prop)→World→Prop) (S Q:Nat→Prop) (w:World) (r:Except Int (Int×σ)) (e:Ending) (w':World):Prop:=
  Keep (fun k=>S k∨Q k) w w'∧∃Q',(∀k,Q' k→Q k∨w.heap.size≤k)∧(∀k,Q' k→k<w'.heap.size) ∧
    ((∃n s',r=.ok (n,s')∧e=.returned (.int .i64 n)∧Inv s' Q' w'∧-9223372036854775808≤n∧n≤9223372036854775807)∨(∃x s',r=.error x∧e=.panicked [faultV x]∧Inv s' Q' w'))
def WPost {σ:Type} (Inv:σ→(Nat→Prop)→World→Prop) (S Q:Nat→Prop) (w:World) (r:Except Int σ) (e:Ending) (w':World):Prop:=
  Keep (fun k=>S k∨Q k) w w'∧∃Q',(∀k,Q' k→Q k∨w.heap.size≤k)∧(∀k,Q' k→k<w'.heap.size) ∧
    ((∃s',r=.ok s'∧e=.returned (.tuple #[])∧Inv s' Q' w')∨(∃x s',r=.error x∧e=.panicked [faultV x]∧Inv s' Q' w'))
def Does (g:Nat) (caps:Array Value) {σ:Type} (val:Val σ) (Inv:σ→(Nat→Prop)→World→Prop) (S:Nat→Prop):Prop:=
  ∀(v:Int) (s:σ) (Q:Nat→Prop) (w:World),Inv s Q w→val v s≠.error 999→Calls Tryz.prog g (#[.int .i64 v]++caps) w (VPost Inv S Q w (val v s))
def Parts.sz:Parts→Nat
  | .nil=>0
  | .cons _ _ l r=>l.sz+r.sz+1
theorem keep_next {S Q Q1:Nat→Prop}{w w1 w2:World} (h:Keep (fun k=>S k∨Q k) w w1) (hq:∀k,Q1 k→Q k∨w.heap.size≤k) (h':Keep (fun k=>S k∨Q1 k) w1 w2):Keep (fun k=>S k∨Q k) w w2:=
  h.then_ h' (fun i hi hs=>by
   rcases hs with hs | hs
   ·exact .inl hs
   ·rcases hq i hs with h | h
    ·exact .inr h
    ·omega)
theorem own_next {Q Q1 Q2:Nat→Prop}{w w1:World}{S:Nat→Prop} (h:Keep S w w1) (hq:∀k,Q1 k→Q k∨w.heap.size≤k) (hq2:∀k,Q2 k→Q1 k∨w1.heap.size≤k):∀k,Q2 k→Q k∨w.heap.size≤k:=by
 intro k hk
 rcases hq2 k hk with h1 | h1
 ·exact hq k h1
 ·exact .inr (Nat.le_trans h.size h1)
set_option maxHeartbeats 8000000 in
set_option maxRecDepth 100000 in
theorem walk_any {σ:Type} (val:Val σ) (Inv:σ→(Nat→Prop)→World→Prop) (S:Nat→Prop) (g:Nat) (caps:Array Value) (hg:∀args w,(callFunc g args).run Tryz.prog w=.ok (.enter g args) w) (hD:Does g caps val Inv S)
    (hI:∀s Q w w',Inv s Q w→Keep Never w w'→Inv s Q w') (p B:Nat) (D:Nat→Prop) (hS:∀k,D k→¬S k∧k<B) (hp:¬S p∧p<B) (hSB:∀k,S k→k<B) :
    ∀(N:Nat) (T:Parts),T.sz≤N→∀(A:Option Addr) (n c:Nat) (s:σ) (Q:Nat→Prop) (w:World),PSl w D A n c T→Blk w p 202 #[.func (.func g) #[] caps]→B≤w.heap.size→Inv s Q w→(∀k,D k→¬Q k)→¬Q p→(∀k,Q k→k<w.heap.size)→walkL val T 0 s≠.error 999 →
    Calls Tryz.prog 163 #[.pointer (some ⟨p,0,none⟩),.slice A n c] w (WPost Inv S Q w (walkL val T 0 s)):=by
  intro N
  induction N with
  | zero=>
   intro T hN A n c s Q w hT hB hBw hs hDQ hpQ hQw hok
   have:T=.nil:=by cases T with
     | nil=>rfl
     | cons v wh l r=>simp[Parts.sz] at hN
   subst this
   obtain⟨h1,h2,h3,xs,h4,h5⟩:=hT
   simp only[Parts.len] at h1
   subst h1
   clear h4 h5 h3 h2
   have Hs:=qh hs
   have HQw:=qh hQw
   clear hB hs hok hD hI hS hp hSB hDQ hpQ hQw
   go_enter Tryz.func163, Tryz.ntmps163
   go_wp2
   go_loop [9] (fun i=>i=.int .i64 0) (fun i=>0)
   case atStart=>rfl
   case round=>
    subst hrel
    go_wp2
    go_end0
    exact⟨Keep.refl _ _,Q,fun _ h=>.inl h,HQw.out,.inl ⟨s,rfl,rfl,Hs.out⟩⟩
  | succ N ih=>
   intro T hN A n c s Q w hT hB hBw hs hDQ hpQ hQw hok
   have IH:=qh ih
   have HT:=qh hT
   have HB:=qh hB
   have Hs:=qh hs
   have Hok:=qh hok
   have HN:=qh hN
   have HD:=qh hD
   have HI:=qh hI
   have HS:=qh hS
   have Hp:=qh hp
   have HDQ:=qh hDQ
   have HpQ:=qh hpQ
   have HQw:=qh hQw
   have HSB:=qh hSB
   have HBw:=qh hBw
   have hn9:n≤9223372036854775807:=by have:=HT.out.2.1;have:=HT.out.2.2.1;unfold maxLen at this;omega
   clear ih hT hB hs hok hN hD hI hS hp hDQ hpQ hQw hSB hBw
   go_enter Tryz.func163, Tryz.ntmps163
   go_wp2
   go_loopw [4,6,9] (fun la _ i wr=>∃(k:Nat) (last:Int),k≤n∧i=.int .i64 k∧la=.int .i64 last∧-9223372036854775808≤last∧last≤9223372036854775807 ∧
       Hid (Keep (fun k=>S k∨Q k) w wr∧∃(Qr:Nat→Prop) (R:Parts) (s':σ) (ys zs:List Value),(∀k,Qr k→Q k∨w.heap.size≤k)∧(∀k,Qr k→k<wr.heap.size)∧k+R.len=n∧R.sz≤N+1∧ys.length=k*3∧RdD wr D 3 A n (ys++zs)∧PRows wr D R zs∧Inv s' Qr wr∧walkL val R last s'=walkL val T 0 s))
     (fun _ _ i _=>n - (intOf i).toNat)
   case atStart=>
    obtain⟨h1,h2,h3,xs,h4,h5⟩:=HT.out
    exact⟨0,0,by omega,rfl,rfl,by omega,by omega,Keep.refl _ _,Q,T,s,[],xs,fun _ h=>.inl h,HQw.out,by omega,HN.out,rfl,h4,h5,Hs.out,rfl⟩
   case round=>
    obtain⟨k,last,hk,rfl,rfl,hl1,hl2,HH⟩:=hrel
    by_cases h0:k<n
    ·obtain⟨hkp,Qr,R,s',ys,zs,hQ1,hQ2,e1,e2,e3,hrd,hpr,hinv,hw⟩:=HH.out
     cases R with
     | nil=>simp[Parts.len] at e1;omega
     | cons v wh l r=>
      obtain⟨A',n',c',xs',zs',rfl,hl3,hl4,hl5,hrd',hpl,hpr'⟩:=hpr
      obtain⟨ad,hA,hDad,hc⟩:=hrd.2 (by omega)
      have c0:=hc (k*3) (.int .i64 v) (by rw[List.getElem?_append_right (by omega),e3];simp)
      have c1:=hc (k*3+1) (.int .i64 wh) (by rw[List.getElem?_append_right (by omega),e3];simp)
      have c2:=hc (k*3+2) (.slice A' n' c') (by rw[List.getElem?_append_right (by omega),e3];simp)
      rw[fld _ _ (by omega)] at c1 c2
      have HbR:=qh (HB.out.keep hkp (fun h=>by rcases h with h | h;exact Hp.out.1 h;exact HpQ.out h))
      have cw:wr.cell? ⟨p,0,none⟩=some (.func (.func g) #[] caps):=HbR.out.cell 0
      have hDr:Hid (∀k,D k→¬(S k∨Qr k)):=by
       rintro k hk (h | h)
       ·exact(HS.out k hk).1 h
       ·rcases hQ1 k h with h | h
        ·exact HDQ.out k hk h
        ·have:=(HS.out k hk).2;have:=HBw.out;omega
      have hpr9:Hid (¬Qr p):=by
       intro h
       rcases hQ1 p h with h | h
       ·exact HpQ.out h
       ·have:=Hp.out.2;have:=HBw.out;omega
      have Hrd:=qh hrd
      have Hpr:=qh hpr'
      have Hpl:=qh hpl
      have Hrd':=qh hrd'
      have Hinv:=qh hinv
      have Hw:=qh hw
      have Hk:=qh hkp
      have HQ1:=qh hQ1
      have HQ2:=qh hQ2
      have E1:Hid (k+(Parts.cons v wh l r).len=n):=e1
      have E2:Hid ((Parts.cons v wh l r).sz≤N+1):=e2
      have E3:Hid (ys.length=k*3):=e3
      have E4:Hid (n'=l.len∧n'≤c'∧c'≤maxLen):=⟨hl3,hl4,hl5⟩
      
      have HNext:Hid (∀(W:World) (last':Int) (s2:σ) (Q2:Nat→Prop),Keep (fun k=>S k∨Qr k) wr W→(∀k,Q2 k→Qr k∨wr.heap.size≤k)→(∀k,Q2 k→k<W.heap.size)→Inv s2 Q2 W→walkL val r last' s2=walkL val T 0 s →
          Keep (fun k=>S k∨Q k) w W∧∃(Qr:Nat→Prop) (R:Parts) (s':σ) (ys zs:List Value),(∀k,Qr k→Q k∨w.heap.size≤k)∧(∀k,Qr k→k<W.heap.size)∧(k+1)+R.len=n∧R.sz≤N+1∧ys.length=(k+1)*3∧RdD W D 3 A n (ys++zs)∧PRows W D R zs∧Inv s' Qr W∧walkL val R last' s'=walkL val T 0 s):=by
        intro W last' s2 Q2 hkk hq2 hq3 hi2 hw2
        refine⟨keep_next hkp hQ1 hkk,Q2,r,s2,ys++[.int .i64 v,.int .i64 wh,.slice A' n' c'],zs',own_next hkp hQ1 hq2,hq3,?_,?_,?_,?_,?_,hi2,hw2⟩
        ·simp only[Parts.len] at e1;omega
        ·simp only[Parts.sz] at e2;omega
        ·simp[e3];omega
        ·have:=hrd.keep (by omega) hkk (D':=D) (fun k _ h=>⟨hDr.out k h,h⟩)
         simpa using this
        ·exact hpr'.keep hkk (D':=D) (fun k _ h=>⟨hDr.out k h,h⟩)
      subst hA
      clear hrd hpr' hpl hrd' hinv hw hkp e1 e2 e3 hl3 hl4 hl5 hc HH hDad hQ1 hQ2
      by_cases w0:wh=0
      ·subst w0
       have hne:val v s'≠.error 999:=by
        intro h
        have:=Hw.out
        simp only[walkL,if_true,h] at this
        exact Hok.out this.symm
       have hdo:∀W,Keep Never wr W→Calls Tryz.prog g (#[.int .i64 v]++caps) W (VPost Inv S Qr W (val v s')):=fun W hW=>HD.out v s' Qr W (HI.out _ _ _ _ Hinv.out hW) hne
       have Hdo:=qh hdo
       rcases hv:val v s' with x | ⟨m,s2⟩
       ·have hfin:Hid (walkL val T 0 s=.error x):=by
         have:=Hw.out
         simp only[walkL,if_true,hv] at this
         exact this.symm
        have Hv:=qh hv
        clear hne hv hdo
        go_wp2
        obtain⟨W,hW⟩:∃W,wr.alloc (.cells #[.int .i64 v,.int .i64 0,.slice A' n' c'] 240)=W:=⟨_,rfl⟩
        rw[hW]
        have hbW:=Blk.new wr 240 #[.int .i64 v,.int .i64 0,.slice A' n' c']
        rw[hW] at hbW
        have hkW:Keep Never wr W:=by rw[←hW];exact(Keep.refl Never wr).alloc _
        have hsW:W.heap.size=wr.heap.size+1:=by rw[←hW];simp
        have cW0:W.cell? ⟨wr.heap.size,0,none⟩=some (.int .i64 v):=hbW.cell 0
        have cW1:W.cell? ⟨p,0,none⟩=some (.func (.func g) #[] caps):=(hkW.cell (p:=⟨p,0,none⟩) (cell_lt cw) (fun h=>h)).trans cw
        have HkW:=qh hkW
        clear hW hbW hkW hsW
        go_still_tail 6,(by kernel_rfl)
        change wpList _ _ _ _ _ (World.drew _)
        go_wp2_with fail
        refine(Hdo.out _ (HkW.out.drew)).mono ?_
        rintro e w' ⟨hk5,Q2,hq2,hq3,hpo⟩
        rw[Hv.out] at hpo
        rcases hpo with⟨_,_,h,_⟩ | ⟨y,s2,h,rfl,hi2⟩
        ·cases h
        injection h with h
        subst h
        have hkk:Keep (fun k=>S k∨Qr k) wr w':=(HkW.out.drew.mono (fun _ _ h=>h.elim)).trans hk5
        have hq9:=own_next (HkW.out.drew) (fun k h=>(.inl h:Qr k∨wr.heap.size≤k)) hq2
        have HF:Hid (WPost Inv S Q w (walkL val T 0 s) (.panicked [faultV x]) w'):=⟨keep_next Hk.out HQ1.out hkk,Q2,own_next Hk.out HQ1.out hq9,hq3,.inr ⟨x,s2,hfin.out,rfl,hi2⟩⟩
        clear hk5 hq2 hi2 hkk hq9 hq3
        go_wp2_with fail
        exact⟨rfl,HF.out⟩
       ·have hfin:Hid (walkL val r m s2=walkL val T 0 s):=by
         have:=Hw.out
         simp only[walkL,if_true,hv] at this
         exact this
        have Hv:=qh hv
        clear hne hv hdo
        go_wp2
        obtain⟨W,hW⟩:∃W,wr.alloc (.cells #[.int .i64 v,.int .i64 0,.slice A' n' c'] 240)=W:=⟨_,rfl⟩
        rw[hW]
        have hbW:=Blk.new wr 240 #[.int .i64 v,.int .i64 0,.slice A' n' c']
        rw[hW] at hbW
        have hkW:Keep Never wr W:=by rw[←hW];exact(Keep.refl Never wr).alloc _
        have hsW:W.heap.size=wr.heap.size+1:=by rw[←hW];simp
        have cW0:W.cell? ⟨wr.heap.size,0,none⟩=some (.int .i64 v):=hbW.cell 0
        have cW1:W.cell? ⟨p,0,none⟩=some (.func (.func g) #[] caps):=(hkW.cell (p:=⟨p,0,none⟩) (cell_lt cw) (fun h=>h)).trans cw
        have HkW:=qh hkW
        clear hW hbW hkW hsW
        go_still_tail 6,(by kernel_rfl)
        change wpList _ _ _ _ _ (World.drew _)
        go_wp2_with fail
        refine(Hdo.out _ (HkW.out.drew)).mono ?_
        rintro e w' ⟨hk5,Q2,hq2,hq3,hpo⟩
        rw[Hv.out] at hpo
        rcases hpo with⟨m1,s1,h,rfl,hi2,b1,b2⟩ | ⟨_,_,h,_⟩
        rotate_left
        ·cases h
        injection h with h
        injection h with h h'
        subst h
        subst h'
        have hkk:Keep (fun k=>S k∨Qr k) wr w':=(HkW.out.drew.mono (fun _ _ h=>h.elim)).trans hk5
        have hq9:=own_next (HkW.out.drew) (fun k h=>(.inl h:Qr k∨wr.heap.size≤k)) hq2
        have HF:=qh (HNext.out w' m s2 Q2 hkk hq9 hq3 hi2 hfin.out)
        clear hk5 hq2 hi2 hkk hq9 hq3
        go_wp2_with fail
        go_roundw
        case rel=>exact⟨k+1,m,by omega,by go_num,rfl,b1,b2,HF.out⟩
        case measure=>simp[intOf];omega
      ·have w1:(wh==0)=false:=by simpa using w0
       have HC:Hid (∀(s1:σ) (Q1:Nat→Prop) (W:World),Inv s1 Q1 W→Keep (fun k=>S k∨Qr k) wr W→(∀k,Q1 k→Qr k∨wr.heap.size≤k)→(∀k,Q1 k→k<W.heap.size)→walkL val l 0 s1≠.error 999 →
           Calls Tryz.prog 163 #[.pointer (some ⟨p,0,none⟩),.slice A' n' c'] W (WPost Inv S Q1 W (walkL val l 0 s1))):=by
         intro s1 Q1 W hi hkk hq hq3 hne
         have hsz:B≤wr.heap.size:=Nat.le_trans HBw.out Hk.out.size
         refine IH.out l (by have:=E2.out;simp only[Parts.sz] at this;omega) A' n' c' s1 Q1 W ⟨E4.out.1,E4.out.2.1,E4.out.2.2,xs',Hrd'.out.keep (by omega) hkk (fun k _ h=>⟨hDr.out k h,h⟩),Hpl.out.keep hkk (fun k _ h=>⟨hDr.out k h,h⟩)⟩
           (HbR.out.keep hkk (fun h=>by rcases h with h | h;exact Hp.out.1 h;exact hpr9.out h)) (Nat.le_trans hsz hkk.size) hi ?_ ?_ hq3 hne
         ·intro k hk h
          rcases hq k h with h | h
          ·exact hDr.out k hk (.inr h)
          ·have:=(HS.out k hk).2;omega
         ·intro h
          rcases hq p h with h | h
          ·exact hpr9.out h
          ·have:=Hp.out.2;omega
       by_cases w2:wh=1
       ·subst w2
        have hok:Hid (iterE (walkL val l 0) last.toNat s'≠.error 999):=by
         intro h
         have:=Hw.out
         simp only[walkL,if_neg w0,if_true,h] at this
         exact Hok.out this.symm
        have hfin:Hid ((match iterE (walkL val l 0) last.toNat s' with | .error e=>.error e | .ok s2=>walkL val r last s2)=walkL val T 0 s):=by
         have:=Hw.out
         simp only[walkL,if_neg w0,if_true] at this
         exact this
        go_wp2
        obtain⟨W,hW⟩:∃W,wr.alloc (.cells #[.int .i64 v,.int .i64 1,.slice A' n' c'] 240)=W:=⟨_,rfl⟩
        rw[hW]
        have hbW:=Blk.new wr 240 #[.int .i64 v,.int .i64 1,.slice A' n' c']
        rw[hW] at hbW
        have hkW:Keep Never wr W:=by rw[←hW];exact(Keep.refl Never wr).alloc _
        have hsW:W.heap.size=wr.heap.size+1:=by rw[←hW];simp
        have HbW:=qh hbW
        have HkW:=qh hkW
        have HsW:=qh hsW
        clear hW hbW hkW hsW
        have hinW:Inv s' Qr W:=HI.out _ _ _ _ Hinv.out HkW.out
        have HinW:=qh hinW
        clear hinW
        obtain⟨wo,rfl⟩:∃wo:World,wo=wr:=⟨_,rfl⟩
        go_loopw [29] (fun i wi=>∃j:Nat,j≤last.toNat∧i=.int .i64 j∧Hid (Keep (fun k=>S k∨Qr k) W wi∧∃(Q2:Nat→Prop) (s2:σ),(∀k,Q2 k→Qr k∨W.heap.size≤k)∧(∀k,Q2 k→k<wi.heap.size)∧Inv s2 Q2 wi∧iterE (walkL val l 0) (last.toNat - j) s2=iterE (walkL val l 0) last.toNat s'))
          (fun i _=>last.toNat - (intOf i).toNat)
        case atStart=>exact⟨0,by omega,rfl,Keep.refl _ _,Qr,s',fun _ h=>.inl h,fun k h=>Nat.lt_of_lt_of_le (HQ2.out k h) HkW.out.size,HinW.out,rfl⟩
        case round=>
         obtain⟨j,hj,rfl,HJ⟩:=hrel
         have hkW1:Hid (∀{W2:World},Keep (fun k=>S k∨Qr k) W W2→Keep (fun k=>S k∨Qr k) wo W2):=fun h=>(HkW.out.mono (fun _ _ h=>h.elim)).trans h
         by_cases hjl:(j:Int)<last
         ·obtain⟨hk1,Q2,s2,hq1,hq2,hi2,hit⟩:=HJ.out
          have c5:wr.cell? ⟨wo.heap.size,2,none⟩=some (.slice A' n' c'):=(HbW.out.keep hk1 (fun h=>by
           rcases h with h | h
           ·have:=HSB.out _ h;have:=HBw.out;have:=Hk.out.size;omega
           ·have:=HQ2.out _ h;omega)).cell 2
          obtain⟨m,hm⟩:∃m,last.toNat - j=m+1:=⟨last.toNat - j - 1,by omega⟩
          rw[hm] at hit
          simp only[iterE] at hit
          have hne:walkL val l 0 s2≠.error 999:=by intro h;rw[h] at hit;exact hok.out hit.symm
          have hq1':∀k,Q2 k→Qr k∨wo.heap.size≤k:=fun k h=>by
           rcases hq1 k h with h | h
           ·exact .inl h
           ·exact .inr (Nat.le_trans HkW.out.size h)
          have hdo:=HC.out s2 Q2 wr hi2 (hkW1.out hk1) hq1' hq2 hne
          have Hdo:=qh hdo
          have Hk1:=qh hk1
          have Hq1:=qh hq1'
          have Hq1W:=qh hq1
          have Hm:Hid (last.toNat - j=m+1):=hm
          rcases hv:walkL val l 0 s2 with x | s3
          ·rw[hv] at hit
           have hfx:Hid (walkL val T 0 s=.error x):=by
            have:=hfin.out
            rw[←hit] at this
            exact this.symm
           have Hv:=qh hv
           clear hit hne hv hdo hk1 hq1' hq1 hq2 hi2 hm HJ
           go_wp2_with fail
           refine Hdo.out.mono ?_
           rintro e w' ⟨hk5,Q3,hq5,hq6,hpo⟩
           rw[Hv.out] at hpo
           rcases hpo with⟨_,h,_⟩ | ⟨y,s4,h,rfl,hi4⟩
           ·cases h
           injection h with h
           subst h
           have hkk:=keep_next (hkW1.out Hk1.out) Hq1.out hk5
           have hq9:=own_next (hkW1.out Hk1.out) Hq1.out hq5
           have HF:Hid (WPost Inv S Q w (walkL val T 0 s) (.panicked [faultV x]) w'):=⟨keep_next Hk.out HQ1.out hkk,Q3,own_next Hk.out HQ1.out hq9,hq6,.inr ⟨x,s4,hfx.out,rfl,hi4⟩⟩
           clear hk5 hq5 hi4 hkk hq9 hq6
           go_wp2_with fail
           exact⟨rfl,HF.out⟩
          ·rw[hv] at hit
           have Hv:=qh hv
           have Hit:=qh hit
           clear hit hne hv hdo hk1 hq1' hq1 hq2 hi2 hm HJ
           go_wp2_with fail
           refine Hdo.out.mono ?_
           rintro e w' ⟨hk5,Q3,hq5,hq6,hpo⟩
           rw[Hv.out] at hpo
           rcases hpo with⟨s4,h,rfl,hi4⟩ | ⟨_,_,h,_⟩
           rotate_left
           ·cases h
           injection h with h
           subst h
           have HF:Hid (Keep (fun k=>S k∨Qr k) W w'∧∃(Q2:Nat→Prop) (s2:σ),(∀k,Q2 k→Qr k∨W.heap.size≤k)∧(∀k,Q2 k→k<w'.heap.size)∧Inv s2 Q2 w'∧iterE (walkL val l 0) (last.toNat - (j+1)) s2=iterE (walkL val l 0) last.toNat s'):=
             ⟨keep_next Hk1.out Hq1W.out hk5,Q3,s3,own_next Hk1.out Hq1W.out hq5,hq6,hi4,by rw[show last.toNat - (j+1)=m by have:=Hm.out;omega];exact Hit.out⟩
           clear hk5 hq5 hq6 hi4
           go_wp2_with fail
           go_roundw
           case rel=>exact⟨j+1,by omega,by go_num,HF.out⟩
           case measure=>simp[intOf];omega
         ·obtain⟨hk1,Q2,s2,hq1,hq2,hi2,hit⟩:=HJ.out
          rw[show last.toNat - j=0 by omega] at hit
          have hw2:walkL val r last s2=walkL val T 0 s:=by have:=hfin.out;rw[←hit] at this;exact this
          have hq1':∀k,Q2 k→Qr k∨wo.heap.size≤k:=fun k h=>by
           rcases hq1 k h with h | h
           ·exact .inl h
           ·exact .inr (Nat.le_trans HkW.out.size h)
          have HF:=qh (HNext.out wr last s2 Q2 (hkW1.out hk1) hq1' hq2 hi2 hw2)
          clear hk1 hq1 hq2 hi2 hit hw2 hq1' HJ
          go_wp2_with fail
          go_roundw
          case rel=>exact⟨k+1,last,by omega,by go_num,rfl,hl1,hl2,HF.out⟩
          case measure=>simp[intOf];omega
       ·have w3:(wh==1)=false:=by simpa using w2
        have hkW:Hid (Keep Never wr (wr.alloc (.cells #[.int .i64 v,.int .i64 wh,.slice A' n' c'] 240))):=(Keep.refl Never wr).alloc _
        by_cases w4:last=1∨wh=3∧last=2
        ·have hok:Hid (walkL val l 0 s'≠.error 999):=by
          intro h
          have:=Hw.out
          simp only[walkL,if_neg w0,if_neg w2,if_pos w4,h] at this
          exact Hok.out this.symm
         have hfin:Hid ((match walkL val l 0 s' with | .error e=>.error e | .ok s2=>walkL val r last s2)=walkL val T 0 s):=by
          have:=Hw.out
          simp only[walkL,if_neg w0,if_neg w2,if_pos w4] at this
          exact this
         have hbW:Hid (Blk (wr.alloc (.cells #[.int .i64 v,.int .i64 wh,.slice A' n' c'] 240)) wr.heap.size 240 #[.int .i64 v,.int .i64 wh,.slice A' n' c']):=Blk.new _ _ _
         have hdo:Hid (Calls Tryz.prog 163 #[.pointer (some ⟨p,0,none⟩),.slice A' n' c'] (wr.alloc (.cells #[.int .i64 v,.int .i64 wh,.slice A' n' c'] 240)) (WPost Inv S Qr (wr.alloc (.cells #[.int .i64 v,.int .i64 wh,.slice A' n' c'] 240)) (walkL val l 0 s'))):=
           HC.out s' Qr _ (HI.out _ _ _ _ Hinv.out hkW.out) (hkW.out.mono (fun _ _ h=>h.elim)) (fun k h=>.inl h) (fun k h=>Nat.lt_of_lt_of_le (HQ2.out k h) hkW.out.size) hok.out
         have hres:(∃x,walkL val l 0 s'=.error x∧walkL val T 0 s=.error x)∨(∃s3,walkL val l 0 s'=.ok s3∧walkL val r last s3=walkL val T 0 s):=by
          have:=hfin.out
          rcases hv:walkL val l 0 s' with x | s3
          ·rw[hv] at this;exact .inl ⟨x,rfl,this.symm⟩
          ·rw[hv] at this;exact .inr ⟨s3,rfl,this⟩
         have Hres:=qh hres
         have hgo:Hid (∀(K:World→Prop),True):=fun _=>trivial
         clear hres hgo
         have hcase:(last==1)=true∨((last==1)=false∧(wh==3)=true∧(last==2)=true):=by
          by_cases h:last=1
          ·exact .inl (by simpa using h)
          ·rcases w4 with h' | ⟨h1,h2⟩
           ·exact absurd h' h
           ·exact .inr ⟨by simpa using h,by simpa using h1,by simpa using h2⟩
         have w4':Hid (last=1∨wh=3∧last=2):=w4
         have w0':Hid (¬wh=0):=w0
         have w2':Hid (¬wh=1):=w2
         clear w4 w0 w2
         rcases hcase with hc1 | ⟨hc1,hc2,hc3⟩
         all_goals
          go_wp2_with fail
          refine hdo.out.mono ?_
          rintro e w' ⟨hk5,Q3,hq5,hq6,hpo⟩
          rcases Hres.out with⟨x,hv,hT⟩ | ⟨s3,hv,hT⟩
          ·rw[hv] at hpo
           rcases hpo with⟨_,h,_⟩ | ⟨y,s4,h,rfl,hi4⟩
           ·cases h
           injection h with h
           subst h
           have hkk:Keep (fun k=>S k∨Qr k) wr w':=(hkW.out.mono (fun _ _ h=>h.elim)).trans hk5
           have hq9:=own_next hkW.out (fun k h=>(.inl h:Qr k∨wr.heap.size≤k)) hq5
           have HF:Hid (WPost Inv S Q w (walkL val T 0 s) (.panicked [faultV x]) w'):=⟨keep_next Hk.out HQ1.out hkk,Q3,own_next Hk.out HQ1.out hq9,hq6,.inr ⟨x,s4,hT,rfl,hi4⟩⟩
           clear hk5 hq5 hi4 hkk hq9 hq6 hv hT
           go_wp2_with fail
           exact⟨rfl,HF.out⟩
          ·rw[hv] at hpo
           rcases hpo with⟨s4,h,rfl,hi4⟩ | ⟨_,_,h,_⟩
           rotate_left
           ·cases h
           injection h with h
           subst h
           have hkk:Keep (fun k=>S k∨Qr k) wr w':=(hkW.out.mono (fun _ _ h=>h.elim)).trans hk5
           have hq9:=own_next hkW.out (fun k h=>(.inl h:Qr k∨wr.heap.size≤k)) hq5
           have HF:=qh (HNext.out w' last s3 Q3 hkk hq9 hq6 hi4 hT)
           clear hk5 hq5 hi4 hkk hq9 hq6 hv hT
           go_wp2_with fail
           go_roundw
           case rel=>exact⟨k+1,last,by omega,by go_num,rfl,hl1,hl2,HF.out⟩
           case measure=>simp[intOf];omega
        ·have hT:walkL val r last s'=walkL val T 0 s:=by
          have:=Hw.out
          simp only[walkL,if_neg w0,if_neg w2,if_neg w4] at this
          exact this
         have HF:=qh (HNext.out _ last s' Qr (hkW.out.mono (fun _ _ h=>h.elim)) (fun k h=>.inl h) (fun k h=>Nat.lt_of_lt_of_le (HQ2.out k h) hkW.out.size) (HI.out _ _ _ _ Hinv.out hkW.out) hT)
         have hcase:(last==1)=false∧((wh==3)=false∨((wh==3)=true∧(last==2)=false)):=by
          refine⟨by simp;exact fun h=>w4 (.inl h),?_⟩
          by_cases h:wh=3
          ·exact .inr ⟨by simpa using h,by simp;exact fun h'=>w4 (.inr ⟨h,h'⟩)⟩
          ·exact .inl (by simpa using h)
         have w4':Hid (¬(last=1∨wh=3∧last=2)):=w4
         have w0':Hid (¬wh=0):=w0
         have w2':Hid (¬wh=1):=w2
         clear w4 w0 w2 hT
         obtain⟨hc1,hc2 | ⟨hc2,hc3⟩⟩:=hcase
         all_goals
          go_wp2_with fail
          go_roundw
          case rel=>exact⟨k+1,last,by omega,by go_num,rfl,hl1,hl2,HF.out⟩
          case measure=>simp[intOf];omega
    ·obtain rfl:k=n:=by omega
     obtain⟨hkp,Qr,R,s',ys,zs,hQ1,hQ2,e1,e2,e3,hrd,hpr,hinv,hw⟩:=HH.out
     cases R with
     | nil=>
      have HF:Hid (WPost Inv S Q w (walkL val T 0 s) (.returned (.tuple #[])) wr):=⟨hkp,Qr,hQ1,hQ2,.inl ⟨s',hw.symm,rfl,hinv⟩⟩
      clear hrd hpr hinv hw hkp HH hQ1 hQ2
      go_wp2
      go_end0
      exact HF.out
     | cons v wh l r=>simp[Parts.len] at e1
end Go.Proofs.YtpapiojicbbheaaGreatDoor

namespace Go.Proofs.YtpapiojicbbheaaGreatDoor
open Go.RowKit
set_option maxRecDepth 100000 in
theorem elemBits:Elem Tryz.prog 106 162 2 16:=⟨Tryz.underlying106, _,_,rfl,rfl,rfl,rfl,rfl,by omega⟩
def bitCells (l:List (Int×Int)):List Value:=l.flatMap fun x=>[.int .i64 x.1,.int .i64 x.2]
def i64 (n:Int):Prop:=-9223372036854775808≤n∧n≤9223372036854775807
def InvI (B base bl br:Nat) (s:SI) (Q:Nat→Prop) (w:World):Prop:=
  ∃(A:Option Addr) (c:Nat) (A':Option Addr) (n' c':Nat),Blk w bl 106 #[.slice A s.out.length c]∧Own w base 162 2 A s.out.length c (bitCells (itemsOf s.out))∧(∀k,Q k↔InRow A k) ∧
   Blk w br 22 #[.slice A' n' c']∧s.rest.length=n'∧Rd w B 1 A' n' (s.rest.map (.int .i64))∧n'≤c'∧c'≤maxLen∧(∀x∈s.rest,i64 x)∧Widths w∧B≤base∧True∧bl≠br∧B≤bl∧B≤br ∧ 0 < B
theorem InvI.keep {B base bl br:Nat}{s:SI}{Q:Nat→Prop}{w w':World} (h:InvI B base bl br s Q w) (hk:Keep Never w w'):InvI B base bl br s Q w':=by
 obtain⟨A,c,A',n',c',h1,h2,h3,h4,h5,h6,h7,h8,h9,h10,h11⟩:=h
 exact⟨A,c,A',n',c',h1.keep hk (fun h=>h),h2.keep hk (fun _ _ h=>h),h3,h4.keep hk (fun h=>h),h5,h6.keep hk (fun _ h=>h.elim),h7,h8,h9,h10.keep hk (fun h=>h),h11⟩
def SI2 (bl br:Nat):Nat→Prop:=fun k=>k=bl∨k=br
theorem itemsOf_snoc (tr:List (Int×Int)) (v n:Int):bitCells (itemsOf (tr++[(v,n)]))=bitCells (itemsOf tr)++[.int .i64 n,.int .i64 (vWidth v)]:=by simp[bitCells,itemsOf]
theorem InvI.push {B base bl br:Nat}{s:SI}{Q:Nat→Prop}{W w5:World}{A A5:Option Addr}{n c c5:Nat}{o:Obj}{v m:Int} (h:InvI B base bl br s Q W) (h1:Blk W bl 106 #[.slice A n c]) (_hB:base≤W.heap.size)
    (ho:Own w5 base 162 2 A5 (n+1) c5 (bitCells (itemsOf s.out)++[.int .i64 m,.int .i64 (vWidth v)])) (hk:Keep (InRow A) (W.alloc o).drew w5) (hr:∀k,InRow A5 k→InRow A k∨k=(W.alloc o).drew.heap.size) :
    Keep (fun k=>SI2 bl br k∨Q k) W (w5.setCell ⟨bl,0,none⟩ (.slice A5 (n+1) c5))∧∃Q',(∀k,Q' k→Q k∨W.heap.size≤k)∧(∀k,Q' k→k<(w5.setCell ⟨bl,0,none⟩ (.slice A5 (n+1) c5)).heap.size) ∧
      InvI B base bl br ⟨s.rest,s.out++[(v,m)]⟩ Q' (w5.setCell ⟨bl,0,none⟩ (.slice A5 (n+1) c5)):=by
  obtain⟨A0,c0,A',n',c',g1,g2,g3,g4,g5,g6,g7,g8,g9,g10,g11,g12,g13,g14,g15,g16⟩:=h
  have e:(Obj.cells #[.slice A0 s.out.length c0] 106 (0,0))=.cells #[.slice A n c] 106 (0,0):=by
   have:=g1.symm.trans h1
   injection this
  injection e with e
  have e:=congrArg (fun x:Array Value=>x.toList) e
  simp only[List.cons.injEq,and_true,Value.slice.injEq] at e
  obtain⟨rfl,rfl,rfl⟩:=e
  have hrow:∀k,InRow A0 k→base≤k∧k<W.heap.size:=fun k hk=>g2.row hk
  have ha:Keep Never W (W.alloc o).drew:=((Keep.refl _ _).alloc _).drew
  have hb5:=(g1.keep ha (fun h=>h)).keep hk (fun e=>g2.ne_blk g1 (by decide) _ e rfl)
  have hr5:=(g4.keep ha (fun h=>h)).keep hk (fun e=>g2.ne_blk g4 (by decide) _ e rfl)
  have hrow5:∀k,InRow A5 k→base≤k∧k<w5.heap.size:=fun k hk=>ho.row hk
  have hS:Keep (fun k=>SI2 bl br k∨Q k) W (w5.setCell ⟨bl,0,none⟩ (.slice A5 (s.out.length+1) c5)):=
    ((ha.mono (fun _ _ h=>h.elim)).trans (hk.mono (fun k _ h=>.inr ((g3 k).2 h)))).set_ (.inl (.inl (.inl rfl))) _
  refine⟨hS,InRow A5,?_,?_,A5,c5,A',n',c',?_,?_,fun _=>Iff.rfl,?_,g5,?_,g7,g8,g9,?_,g11,g12,g13,g14,g15,g16⟩
  ·intro k h
   rcases hr k h with h | h
   ·exact .inl ((g3 k).2 h)
   ·right
    have:(W.alloc o).drew.heap.size=W.heap.size+1:=by simp
    omega
  ·intro k h
   have:=(hrow5 k h).2
   simpa[World.setCell] using this
  ·have:=hb5.set_ 0 (.slice A5 (s.out.length+1) c5)
   rw[List.length_append]
   simpa using this
  ·rw[itemsOf_snoc,List.length_append]
   exact ho.far (fun k h e=>ho.ne_blk hb5 (by decide) k h e) _
  ·exact hr5.far (fun e=>g13 e.symm) _
  ·exact((g6.keep ha (fun _ h=>h.elim)).keep hk (fun k h=>by have:=(hrow k h).1;omega)).set_ g14 _
  ·exact((g10.keep ha (fun h=>h)).keep hk (fun h=>by have:=(hrow _ h).1;omega)).keep ((Keep.refl (fun k=>k=bl) w5).set_ (.inl rfl) _) (fun e=>by omega)
set_option maxHeartbeats 4000000 in
set_option maxRecDepth 100000 in
theorem items1_seven (B base bl br:Nat) (s:SI) (Q:Nat→Prop) (w:World) (h:InvI B base bl br s Q w) (hB:base≤w.heap.size) (hlen:s.out.length≤1000000) :
    Calls Tryz.prog 161 #[.int .i64 7,.pointer (some ⟨bl,0,none⟩),.pointer (some ⟨br,0,none⟩)] w (VPost (InvI B base bl br) (SI2 bl br) Q w (.ok (0,⟨s.rest,s.out++[(7,0)]⟩))):=by
  have Hinv:=qh h
  obtain⟨A,c,A',n',c',h1,h2,h3,h4,h5,h6,h7,h8,h9,h10,h11,h12,h13,h14,h15,h16⟩:=h
  obtain⟨x,hx⟩:∃x,vWidth 7=x:=⟨_,rfl⟩
  have c1:w.cell? ⟨bl,0,none⟩=some (.slice A s.out.length c):=h1.cell 0
  have f1:w.frozen? ⟨bl,0,none⟩=false:=h1.frozen 0
  have H1:=qh h1
  have H2:=qh h2
  have H3:=qh h3
  have H4:=qh h4
  have H5:=qh h5
  have H6:=qh h6
  have H9:=qh h9
  have H10:=qh h10
  have HX:=qh hx
  have HF:=qh (And.intro h11 (And.intro h12 (And.intro h13 (And.intro h14 (And.intro h15 h16)))))
  have hrow:Hid (∀k,InRow A k→base≤k∧k<w.heap.size):=fun k hk=>h2.row hk
  have hW:∀W,Keep Never w W→Calls Tryz.prog 160 #[.int .i64 7] W fun e w'=>e=.returned (.int .i64 x)∧W=w':=by
   intro W hW
   have:=vwidth_any 7 W (h10.keep hW (fun h=>h))
   rwa [hx] at this
  have HW:=qh hW
  generalize hn:s.out.length=n at *
  have Hn:=qh hn
  clear h1 h2 h3 h4 h5 h6 h9 h10 hx h11 h12 h13 h14 h15 h16 hW hn
  have hnr:Hid (¬InRow A bl):=fun e=>H2.out.ne_blk H1.out (by decide) _ e rfl
  have hbl:Hid (bl<w.heap.size+1):=by show bl<w.heap.size+1;have:=H1.out.lt;omega
  have c1a:∀o,(w.alloc o).cell? ⟨bl,0,none⟩=some (.slice A n c):=fun o=>(H1.out.alloc o).cell 0
  go_enter Tryz.func161, Tryz.ntmps161
  go_wp2
  go_region_law (first
      | (refine step_app _ rfl (.tmp 8) (.tmp 12) _ rfl elemBits base rfl (H2.out.alloc _) _ rfl (Rd.of_blk (n:=1) (cs:=[.int .i64 0,.int .i64 x]) (Blk.new _ _ _) rfl) (by simp[Value.oneCell']) (by omega) (by unfold maxLen;omega) (by simp;omega) ?_;intro A5 c5 w5 hown5 hk5 hrow5;have hb5:=Blk.keep (w:=World.drew (w.alloc _)) (H1.out.alloc _).drew hk5 hnr.out;have hf5:=hb5.frozen 0;have hc5:=hb5.cell 0;have Hb5:=qh hb5;have HK5:=qh hk5;have HO5:=qh hown5;clear hb5 hk5 hown5)
      | (go_simp;go_at_call 160; refine(HW.out _ (Keep.refl Never w).drew).mono ?_;rintro e w' ⟨rfl,rfl⟩))
  all_goals
   go_wp2_with fail
   go_ret
   have hp:=Hinv.out.push (v:=7) (m:=0) H1.out hB (by rw[HX.out];exact HO5.out) HK5.out hrow5.out
   obtain⟨k1,Q',q1,q2,i2⟩:=hp
   exact⟨k1,Q',q1,q2,.inl ⟨0,_,rfl,rfl,i2,by omega,by omega⟩⟩
set_option maxHeartbeats 4000000 in
set_option maxRecDepth 100000 in
theorem items1_bad (B base bl br:Nat) (s:SI) (Q:Nat→Prop) (w:World) (v:Int) (h7:¬v=7) (h:InvI B base bl br s Q w) (hv:valI v s=.error 20) :
    Calls Tryz.prog 161 #[.int .i64 v,.pointer (some ⟨bl,0,none⟩),.pointer (some ⟨br,0,none⟩)] w (VPost (InvI B base bl br) (SI2 bl br) Q w (.error 20)):=by
  have Hinv:=qh h
  obtain⟨A,c,A',n',c',h1,h2,h3,h4,h5,h6,h7',h8,h9,h10,h11,h12,h13,h14,h15,h16⟩:=h
  have c2:w.cell? ⟨br,0,none⟩=some (.slice A' n' c'):=h4.cell 0
  have e7:(v==7)=false:=by simpa using h7
  have hend:Hid (∀w',Keep Never w w'→VPost (InvI B base bl br) (SI2 bl br) Q w (.error 20) (.panicked [faultV 20]) w'):=by
   intro w' hk
   refine⟨hk.mono (fun _ _ h=>h.elim),Q,fun _ h=>.inl h,fun k h=>?_,.inr ⟨20,s,rfl,rfl,Hinv.out.keep hk⟩⟩
   have:=(h2.row ((h3 k).1 h)).2
   have:=hk.size
   omega
  have HW:=qh h10
  unfold valI at hv
  rw[if_neg h7] at hv
  cases hr:s.rest with
  | nil=>
   rw[hr] at h5
   simp only[List.length_nil] at h5
   subst h5
   clear h1 h2 h3 h4 h6 h9 h10 hv h7
   go_enter Tryz.func161, Tryz.ntmps161
   go_wp2_with fail
   exact⟨rfl,hend.out _ (Keep.refl _ _)⟩
  | cons n t=>
   rw[hr] at hv h5 h6
   simp only at hv
   by_cases hm:vMay v n=true
   ·rw[if_pos hm] at hv;cases hv
   ·have hm':vMay v n=false:=by simpa using hm
    have hn:=h9 n (by rw[hr];simp)
    obtain⟨hn1,hn2⟩:=hn
    obtain⟨ad,rfl,_,hc⟩:=h6.2 (by rw[←h5];simp)
    have hc0:=hc 0 _ rfl
    have hc1:w.cell? ad=some (.int .i64 n):=by have:ad.add 0=ad:=by unfold Addr.add;simp
                                               rwa [this] at hc0
    simp only[List.length_cons] at h5
    have hz:((n':Int)==0)=false:=by simp;omega
    have hn0:(0:Int)<n':=by omega
    have H5:=qh h5
    have hMay:Hid (∀W,Keep Never w W→Calls Tryz.prog 162 #[.int .i64 v,.int .i64 n] W fun e w'=>e=.returned (.bool false)∧W=w'):=by
     intro W hW
     have:=vmay_any v n hn2 W (HW.out.keep hW (fun h=>h))
     rwa [hm'] at this
    clear h1 h2 h3 h4 h6 h9 h10 hv h7 hm hm' hc h5
    go_enter Tryz.func161, Tryz.ntmps161
    go_wp2_with (go_at_call 162; refine(hMay.out _ (Keep.refl Never _)).mono ?_;rintro e w' ⟨rfl,rfl⟩)
    exact⟨rfl,hend.out _ (Keep.refl _ _)⟩
set_option maxHeartbeats 4000000 in
set_option maxRecDepth 100000 in
theorem items1_good (B base bl br:Nat) (s:SI) (Q:Nat→Prop) (w:World) (v n:Int) (t:List Int) (h7:¬v=7) (h:InvI B base bl br s Q w) (hB:base≤w.heap.size) (hlen:s.out.length≤1000000) (hr:s.rest=n::t) (hm:vMay v n=true) :
    Calls Tryz.prog 161 #[.int .i64 v,.pointer (some ⟨bl,0,none⟩),.pointer (some ⟨br,0,none⟩)] w (VPost (InvI B base bl br) (SI2 bl br) Q w (.ok (n,⟨t,s.out++[(v,n)]⟩))):=by
  obtain⟨A,c,A',n',c',h1,h2,h3,h4,h5,h6,h7',h8,h9,h10,h11,h12,h13,h14,h15,h16⟩:=h
  have hn:=h9 n (by rw[hr];simp)
  obtain⟨hn1,hn2⟩:=hn
  have e7:(v==7)=false:=by simpa using h7
  obtain⟨x,hx⟩:∃x,vWidth v=x:=⟨_,rfl⟩
  rw[hr] at h5 h6 h9
  simp only[List.length_cons] at h5
  obtain⟨k',rfl⟩:∃k',n'=k'+1:=⟨t.length,h5.symm⟩
  have hcut:=h6.cut (k:=1) (cap:=c') (by omega) h7'
  simp only[Nat.mul_one,List.map_cons,List.drop_succ_cons,List.drop_zero,Nat.add_sub_cancel] at hcut
  obtain⟨ad,rfl,_,hc⟩:=h6.2 (by omega)
  have hc0:=hc 0 _ rfl
  have hc1:w.cell? ad=some (.int .i64 n):=by
   have:ad.add 0=ad:=by unfold Addr.add;simp
   rwa [this] at hc0
  have c1:w.cell? ⟨bl,0,none⟩=some (.slice A s.out.length c):=h1.cell 0
  have c2:w.cell? ⟨br,0,none⟩=some (.slice (some ad) (k'+1) c'):=h4.cell 0
  have f1:w.frozen? ⟨bl,0,none⟩=false:=h1.frozen 0
  have f2:w.frozen? ⟨br,0,none⟩=false:=h4.frozen 0
  have hz:(((k'+1:Nat):Int)==0)=false:=by simp;omega
  have hn0:(0:Int)<((k'+1:Nat):Int):=by omega
  have hMay:Hid (∀W,Keep Never w W→Calls Tryz.prog 162 #[.int .i64 v,.int .i64 n] W fun e w'=>e=.returned (.bool true)∧W=w'):=by
   intro W hW
   have:=vmay_any v n hn2 W (h10.keep hW (fun h=>h))
   rwa [hm] at this
  
  obtain⟨A9,c9,h9s⟩:∃A9 c9,(if c'=1 then (.slice (some ad) k' 0:Value) else .slice (some ⟨ad.block,ad.off+1,none⟩) k' (c' - 1))=.slice A9 k' c9:=by
   by_cases h:c'=1
   ·rw[if_pos h];exact⟨_,_,rfl⟩
   ·rw[if_neg h];exact⟨_,_,rfl⟩
  have hst:Hid (∀W,W=w.setCell ⟨br,0,none⟩ (.slice A9 k' c9)→InvI B base bl br ⟨t,s.out⟩ Q W∧Blk W bl 106 #[.slice A s.out.length c]∧Own W base 162 2 A s.out.length c (bitCells (itemsOf s.out))∧W.heap.size=w.heap.size∧Keep (fun k=>SI2 bl br k∨Q k) w W):=by
   rintro W rfl
   have g1:=h1.far (p:=⟨br,0,none⟩) h13 (.slice A9 k' c9)
   have hrow:∀k,InRow A k→base≤k∧k<w.heap.size:=fun k hk=>h2.row hk
   have g2:=h2.far (p:=⟨br,0,none⟩) (fun k h e=>h2.ne_blk h4 (by decide) k h e) (.slice A9 k' c9)
   have g4:=h4.set_ 0 (.slice A9 k' c9)
   refine⟨⟨A,c,A9,k',c9,g1,g2,h3,by simpa using g4,by simpa using h5,?_,?_,?_,fun x hx=>h9 x (by simp[hx]),?_,h11,h12,h13,h14,h15,h16⟩,g1,g2,by simp[World.setCell],(Keep.refl _ _).set_ (.inl (.inl (.inr rfl))) _⟩
   ·have ea:ad.add 1=⟨ad.block,ad.off+1,none⟩:=by unfold Addr.add;simp
    have e:(if c'=1 then some ad else some (ad.add 1))=A9:=by
     by_cases h:c'=1
     ·rw[if_pos h] at h9s ⊢;injection h9s
     ·rw[if_neg h] at h9s ⊢;rw[ea];injection h9s
    have:Rd w B 1 A9 k' (t.map (.int .i64)):=by rw[←e];simpa using hcut
    exact this.set_ h15 _
   ·by_cases h:c'=1
    ·rw[if_pos h] at h9s;injection h9s with _ _ e;omega
    ·rw[if_neg h] at h9s;injection h9s with _ _ e;omega
   ·by_cases h:c'=1
    ·rw[if_pos h] at h9s;injection h9s with _ _ e;omega
    ·rw[if_neg h] at h9s;injection h9s with _ _ e;omega
   ·exact h10.keep ((Keep.refl (fun k=>k=br) w).set_ (.inl rfl) _) (fun e=>by omega)
  have HW:Hid (∀W,Keep Never (w.setCell ⟨br,0,none⟩ (.slice A9 k' c9)) W→Calls Tryz.prog 160 #[.int .i64 v] W fun e w'=>e=.returned (.int .i64 x)∧W=w'):=by
   intro W hW
   have h10':=h10.keep ((Keep.refl (fun k=>k=br) w).set_ (p:=⟨br,0,none⟩) (.inl rfl) (.slice A9 k' c9)) (fun e=>by omega)
   have:=vwidth_any v W (h10'.keep hW (fun h=>h))
   rwa [hx] at this
  have HX:=qh hx
  have hsz:s.out.length≤1000000:=hlen
  generalize hn9:s.out.length=m at *
  have Hn:=qh hn9
  have H1:=qh h1
  have H2:=qh h2
  have H9s:=qh h9s
  have hnr:Hid (¬InRow A bl):=fun e=>h2.ne_blk h1 (by decide) _ e rfl
  have hcc:c'=1∨¬c'=1:=by omega
  have h17:1≤c':=by omega
  clear h1 h2 h3 h4 h5 h6 h9 h10 hx h11 h12 h13 h14 h15 h16 hn9 hr hm hcut hc h7
  rcases hcc with rfl | hcc
  ·obtain rfl:k'=0:=by omega
   have h9s:=H9s.out
   rw[if_pos rfl] at h9s
   injection h9s with e1 _ e3
   subst e1;subst e3
   go_enter Tryz.func161, Tryz.ntmps161
   go_wp2_with (go_at_call 162; refine(hMay.out _ (Keep.refl Never _)).mono ?_;rintro e w' ⟨rfl,rfl⟩)
   obtain⟨W,hW⟩:∃W,w.setCell ⟨br,0,none⟩ (.slice (some ad) 0 0)=W:=⟨_,rfl⟩
   rw[hW]
   rw[hW] at HW
   obtain⟨hi,g1,g2,gs,gk⟩:=hst.out W hW.symm
   have cW:W.cell? ⟨bl,0,none⟩=some (.slice A m c):=g1.cell 0
   have fW:W.frozen? ⟨bl,0,none⟩=false:=g1.frozen 0
   have cWa:∀o,(W.alloc o).cell? ⟨bl,0,none⟩=some (.slice A m c):=fun o=>(g1.alloc o).cell 0
   have hBW:base≤W.heap.size:=by omega
   have Hi:=qh hi
   have G1:=qh g1
   have G2:=qh g2
   have Gs:=qh gs
   have Gk:=qh gk
   clear hi g1 g2 gs gk hW c2 f2 c1 f1 hc0 hc1 hst
   go_region_law (first
     | (refine step_app _ rfl (.tmp 32) (.tmp 37) _ rfl elemBits base rfl (G2.out.alloc _) _ rfl (Rd.of_blk (n:=1) (cs:=[.int .i64 n,.int .i64 x]) (Blk.new _ _ _) rfl) (by simp[Value.oneCell']) (by omega) (by unfold maxLen;omega) (by simp;omega) ?_;intro A5 c5 w5 hown5 hk5 hrow5;have hb5:=Blk.keep (w:=World.drew (W.alloc _)) (G1.out.alloc _).drew hk5 hnr.out;have hf5:=hb5.frozen 0;have hc5:=hb5.cell 0;have Hb5:=qh hb5;have HK5:=qh hk5;have HO5:=qh hown5;clear hb5 hk5 hown5)
     | (go_simp;go_at_call 160; refine(HW.out _ (Keep.refl Never W).drew).mono ?_;rintro e w' ⟨rfl,rfl⟩))
   all_goals
    go_wp2_with fail
    go_ret
    have hp:=Hi.out.push (v:=v) (m:=n) G1.out hBW (by rw[HX.out];exact HO5.out) HK5.out hrow5.out
    obtain⟨k1,Q',q1,q2,i2⟩:=hp
    exact⟨keep_next Gk.out (fun k h=>.inl h) k1,Q',fun k h=>(q1 k h).imp id (fun h=>by have:=Gs.out;omega),q2,.inl ⟨n,_,rfl,rfl,i2,hn1,hn2⟩⟩
  ·have h9s:=H9s.out
   rw[if_neg hcc] at h9s
   injection h9s with e1 _ e3
   subst e1;subst e3
   have HCC:=qh hcc
   clear hcc
   go_enter Tryz.func161, Tryz.ntmps161
   go_wp2_with (go_at_call 162; refine(hMay.out _ (Keep.refl Never _)).mono ?_;rintro e w' ⟨rfl,rfl⟩)
   obtain⟨W,hW⟩:∃W,w.setCell ⟨br,0,none⟩ (.slice (some ⟨ad.block,ad.off+1,none⟩) k' (c' - 1))=W:=⟨_,rfl⟩
   rw[hW]
   rw[hW] at HW
   obtain⟨hi,g1,g2,gs,gk⟩:=hst.out W hW.symm
   have cW:W.cell? ⟨bl,0,none⟩=some (.slice A m c):=g1.cell 0
   have fW:W.frozen? ⟨bl,0,none⟩=false:=g1.frozen 0
   have cWa:∀o,(W.alloc o).cell? ⟨bl,0,none⟩=some (.slice A m c):=fun o=>(g1.alloc o).cell 0
   have hBW:base≤W.heap.size:=by omega
   have Hi:=qh hi
   have G1:=qh g1
   have G2:=qh g2
   have Gs:=qh gs
   have Gk:=qh gk
   clear hi g1 g2 gs gk hW c2 f2 c1 f1 hc0 hc1 hst
   go_region_law (first
     | (refine step_app _ rfl (.tmp 32) (.tmp 37) _ rfl elemBits base rfl (G2.out.alloc _) _ rfl (Rd.of_blk (n:=1) (cs:=[.int .i64 n,.int .i64 x]) (Blk.new _ _ _) rfl) (by simp[Value.oneCell']) (by omega) (by unfold maxLen;omega) (by simp;omega) ?_;intro A5 c5 w5 hown5 hk5 hrow5;have hb5:=Blk.keep (w:=World.drew (W.alloc _)) (G1.out.alloc _).drew hk5 hnr.out;have hf5:=hb5.frozen 0;have hc5:=hb5.cell 0;have Hb5:=qh hb5;have HK5:=qh hk5;have HO5:=qh hown5;clear hb5 hk5 hown5)
     | (go_simp;go_at_call 160; refine(HW.out _ (Keep.refl Never W).drew).mono ?_;rintro e w' ⟨rfl,rfl⟩))
   all_goals
    go_wp2_with fail
    go_ret
    have hp:=Hi.out.push (v:=v) (m:=n) G1.out hBW (by rw[HX.out];exact HO5.out) HK5.out hrow5.out
    obtain⟨k1,Q',q1,q2,i2⟩:=hp
    exact⟨keep_next Gk.out (fun k h=>.inl h) k1,Q',fun k h=>(q1 k h).imp id (fun h=>by have:=Gs.out;omega),q2,.inl ⟨n,_,rfl,rfl,i2,hn1,hn2⟩⟩
theorem items1_does (B base bl br:Nat):Does 161 #[.pointer (some ⟨bl,0,none⟩),.pointer (some ⟨br,0,none⟩)] valI9 (fun s Q w=>InvI B base bl br s Q w∧base≤w.heap.size) (SI2 bl br):=by
 rintro v s Q w ⟨h,hB⟩ hok
 have hlen:¬1000000≤s.out.length:=by
  intro h
  exact hok (by rw[valI9,if_pos h])
 have e:valI9 v s=valI v s:=by rw[valI9,if_neg hlen]
 rw[e]
 have hup:∀r e w',VPost (InvI B base bl br) (SI2 bl br) Q w r e w'→VPost (fun s Q w=>InvI B base bl br s Q w∧base≤w.heap.size) (SI2 bl br) Q w r e w':=by
  rintro r e w' ⟨h1,Q',h2,h3,h4⟩
  have:=h1.size
  refine⟨h1,Q',h2,h3,?_⟩
  rcases h4 with⟨n,s',a,b,c,d⟩ | ⟨x,s',a,b,c⟩
  ·exact .inl ⟨n,s',a,b,⟨c,by omega⟩,d⟩
  ·exact .inr ⟨x,s',a,b,c,by omega⟩
 show Calls Tryz.prog 161 #[.int .i64 v,.pointer (some ⟨bl,0,none⟩),.pointer (some ⟨br,0,none⟩)] w _
 by_cases h7:v=7
 ·subst h7
  have:valI 7 s=.ok (0,⟨s.rest,s.out++[(7,0)]⟩):=by simp[valI]
  rw[this]
  exact(items1_seven B base bl br s Q w h hB (by omega)).mono fun _ _=>hup _ _ _
 ·cases hr:s.rest with
  | nil=>
   have:valI v s=.error 20:=by simp[valI,h7,hr]
   rw[this]
   exact(items1_bad B base bl br s Q w v h7 h this).mono fun _ _=>hup _ _ _
  | cons n t=>
   by_cases hm:vMay v n=true
   ·have:valI v s=.ok (n,⟨t,s.out++[(v,n)]⟩):=by simp[valI,h7,hr,hm]
    rw[this]
    exact(items1_good B base bl br s Q w v n t h7 h hB (by omega) hr hm).mono fun _ _=>hup _ _ _
   ·have:valI v s=.error 20:=by simp[valI,h7,hr,hm]
    rw[this]
    exact(items1_bad B base bl br s Q w v h7 h this).mono fun _ _=>hup _ _ _
end Go.Proofs.YtpapiojicbbheaaGreatDoor

namespace Go.Proofs.YtpapiojicbbheaaGreatDoor
open Go.RowKit
theorem wpS_body {P:Program}{fn:Func}{c₀:Frame}{cs cs1:List Frame}{R:Ending→FrameMode→World→Prop}{R0:Ending→World→Prop}{c:Code}{a:Act}{w:World}{u1:FrameMode} (hcs:cs1={ c₀ with mode:=u1 }::cs)
    (h:c.wp P (bodyPost P fn R0) a w) (hR:∀e w,R0 e w→R e u1 w):c.wpS P (bodyPostS P fn c₀ cs R) a cs1 w:=by
  refine wpS_of_wp (Code.wp_mono ?_ h)
  intro e a w hq
  cases e with
  | normal=>obtain⟨h1,v,h2,h3⟩:=hq;exact⟨h1,u1,hcs,v,h2,hR _ _ h3⟩
  | ret=>obtain⟨h1,v,h2,h3⟩:=hq;exact⟨h1,u1,hcs,v,h2,hR _ _ h3⟩
  | panic ch=>obtain⟨h1,h2⟩:=hq;exact⟨h1,u1,hcs,hR _ _ h2⟩
  | outgrown=>exact⟨u1,hR _ _ hq⟩
  | exit id=>exact hq.elim
  | goto l=>exact hq.elim
def faultR (x:Int):PanicEntry:=⟨.iface 198 (.agg #[.int .i64 x]),true,false⟩
set_option maxHeartbeats 1000000 in
set_option maxRecDepth 100000 in
theorem caught_panicking (p:Nat) (x y:Int) (w:World) (hb:Blk w p 39 #[.int .i64 y]) :
    CallsD Tryz.prog 158 #[.pointer (some ⟨p,0,none⟩)] (.panicking [faultV x]) w fun e u' w'=>
     e=.returned (.tuple #[])∧u'=.panicking [faultR x]∧Blk w' p 39 #[.int .i64 x]∧Keep (fun k=>k=p) w w':=by
  have hca:∀o,(w.alloc o).cell? ⟨p,0,none⟩=some (.int .i64 y):=fun o=>(hb.alloc o).cell 0
  have hfa:∀o,(w.alloc o).frozen? ⟨p,0,none⟩=false:=fun o=>(hb.alloc o).frozen 0
  have HB:=qh hb
  clear hb
  have hta:∀w,(Instr.typeAssert (.iface 198 (.agg #[.int .i64 x])) 20 198 true).run Tryz.prog w=.ok (.tuple #[.agg #[.int .i64 x],.bool true]) w:=fun w=>by
   simp[Instr.typeAssert,run_underlying Tryz.underlying198, go_sem,Result.andThen]
  have hne:∀w,(Op.equal 20 (.iface 198 (.agg #[.int .i64 x])) .nilIface).run Tryz.prog w=.ok false w:=fun w=>by kernel_rfl
  refine callsD_of_wpS Tryz.func158 rfl fun c₀ cs hu=>?_
  apply wpS_seq
  apply wpS_region
  simp[wpOpsS,go_sem,recoverD,hu,Tryz.ntmps158, Exit.thenS,faultV]
  refine wpS_body (u1:=.panicking [faultR x]) (R0:=fun e w'=>e=.returned (.tuple #[])∧w'=(w.alloc (.cells #[.int .i64 x] 198)).setCell ⟨p,0,none⟩ (.int .i64 x)) rfl ?_ (fun e w' h=>⟨h.1,rfl,by rw[h.2];simpa using(HB.out.alloc _).set_ 0 (.int .i64 x),by rw[h.2];exact((Keep.refl (fun k=>k=p) w).alloc _).set_ (p:=⟨p,0,none⟩) (.inl rfl) _⟩)
  simp only[Array.replicate_succ,Array.replicate_zero,List.push_toArray,List.nil_append,List.cons_append,List.setIfInBounds_toArray,List.set_cons_succ,List.set_cons_zero,List.append_toArray]
  clear hu
  go_wp2
  go_end0
  exact⟨rfl,rfl⟩
set_option maxHeartbeats 1000000 in
theorem caught_idle (p:Addr) (w:World) :
    CallsD Tryz.prog 158 #[.pointer (some p)] .returning w fun e u' w'=>e=.returned (.tuple #[])∧u'=.returning∧w'=w:=by
  refine callsD_of_wpS Tryz.func158 rfl fun c₀ cs hu=>?_
  apply wpS_seq
  apply wpS_region
  simp[wpOpsS,go_sem,recoverD,hu,Tryz.ntmps158, Exit.thenS]
  refine wpS_body (u1:=.returning) (R0:=fun e w'=>e=.returned (.tuple #[])∧w'=w) (by cases c₀;simp_all) ?_ (fun e w' h=>⟨h.1,rfl,h.2⟩)
  simp only[Array.replicate_succ,Array.replicate_zero,List.push_toArray,List.nil_append,List.cons_append,List.setIfInBounds_toArray,List.set_cons_succ,List.set_cons_zero,List.append_toArray]
  go_wp2
  go_end0
  exact⟨rfl,rfl⟩
def packCells (id:Int) (A:Option Addr) (n c:Nat):Array Value:=#[.int .i64 id,.slice A n c]
set_option maxHeartbeats 2000000 in
theorem known_any (id:Int) (w:World) :
    Calls Tryz.prog 159 #[.int .i64 id] w fun e w'=>e=.returned (.bool (ptree id).isSome)∧Keep Never w w':=by
  cases h:ptree id with
  | none=>
   have H:=qh h
   clear h
   go_enter Tryz.func159, Tryz.ntmps159
   go_wp2_with (go_at_call 164; refine(parts_none id H.out w).mono ?_;rintro e w' ⟨rfl,rfl⟩)
   go_ret
   exact⟨rfl,Keep.refl _ _⟩
  | some T=>
   have H:=qh h
   clear h
   have hlen:T.len≠0:=(ptree_chk H.out).1
   have HL:=qh hlen
   clear hlen
   go_enter Tryz.func159, Tryz.ntmps159
   go_wp2_with fail
   refine(parts_some id T H.out w).mono ?_
   rintro e w' ⟨A,n,c,rfl,h1,h2⟩
   obtain⟨ad,rfl⟩:∃ad,A=some ad:=by
    cases A with
    | none=>exact absurd rfl (h1.some_ HL.out)
    | some ad=>exact⟨ad,rfl⟩
   have H2:=qh h2
   clear h1 h2
   go_wp2_with fail
   go_ret
   exact⟨rfl,H2.out⟩
def IRet (w:World) (r:Except Int (List (Int×Int))) (e:Ending) (w':World):Prop:=
  ∃(A:Option Addr) (n c:Nat) (x:Int),e=.returned (.tuple #[.slice A n c,.int .i64 x])∧Keep Never w w' ∧
   ((∃tr,r=.ok tr∧x=0∧n=tr.length∧Own w' w.heap.size 162 2 A n c (bitCells (itemsOf tr)))∨(r=.error x∧x≠0∧-9223372036854775808≤x∧x≤9223372036854775807))
set_option maxHeartbeats 4000000 in
set_option maxRecDepth 100000 in
theorem items_none (id:Int) (V:List Int) (A:Option Addr) (n c:Nat) (w:World) (hT:ptree id=none) :
    Calls Tryz.prog 118 #[.agg (packCells id A n c)] w (IRet w (itemsM id V)):=by
  have hres:itemsM id V=.error 50:=by simp[itemsM,hT]
  rw[hres]
  have hk:Hid (∀w,Calls Tryz.prog 159 #[.int .i64 id] w fun e w'=>e=.returned (.bool false)∧Keep Never w w'):=by
   intro w
   have:=known_any id w
   rwa [hT] at this
  unfold packCells
  clear hT hres
  go_enter_defers Tryz.func118, Tryz.ntmps118
  go_wp2_with (go_at_call 159; refine(hk.out _).mono ?_;rintro e w1 ⟨rfl,hk1⟩;have HK1:=qh hk1;clear hk1)
  have hb:Blk w1 (w.heap.size+1+1) 39 #[.int .i64 0]:=Blk.keep (w:=((w.alloc _).alloc _).alloc _) (by simpa using Blk.new ((w.alloc (.cells #[.int .i64 id,.slice A n c] 105)).alloc (.cells #[.slice none 0 0] 106)) 39 #[.int .i64 0]) HK1.out (fun h=>h)
  have hl:Blk w1 (w.heap.size+1) 106 #[.slice none 0 0]:=Blk.keep (w:=((w.alloc _).alloc _).alloc _) ((by simpa using Blk.new (w.alloc (.cells #[.int .i64 id,.slice A n c] 105)) 106 #[.slice none 0 0]:Blk ((w.alloc (.cells #[.int .i64 id,.slice A n c] 105)).alloc (.cells #[.slice none 0 0] 106)) (w.heap.size+1) 106 #[.slice none 0 0]).alloc _) HK1.out (fun h=>h)
  refine leaves_cons (f := 158) (args:=#[.pointer (some ⟨w.heap.size+1+1,0,none⟩)]) (by simp) (by simp[go_sem]) ?_
  refine(caught_panicking (w.heap.size+1+1) 50 0 _ hb).mono ?_
  rintro e u' w2 ⟨rfl,rfl,hb2,hk2⟩
  have hl2:=hl.keep hk2 (by omega)
  have q1:w2.cell? ⟨w.heap.size+1+1,0,none⟩=some (.int .i64 50):=hb2.cell 0
  have q2:w2.cell? ⟨w.heap.size+1,0,none⟩=some (.slice none 0 0):=hl2.cell 0
  simp[Leaves,settle,results,Tryz.results118, go_sem,faultR,q1,q2]
  exact⟨_,_,_,_,rfl,(((((Keep.refl Never w).alloc _).alloc _).alloc _).trans HK1.out).then_ hk2 (fun i hi h=>by omega),.inr ⟨rfl,by decide,by decide,by decide⟩⟩
theorem world3 {w1:World}{b t1 t2 t3 tb:Nat}{cs1 cs2 cs3 cb:Array Value} (hl:Blk w1 b tb cb) (v:Value) :
    Blk ((((w1.alloc (.cells cs1 t1)).setCell ⟨b,0,none⟩ v).alloc (.cells cs2 t2)).alloc (.cells cs3 t3)).drew b tb (cb.setIfInBounds 0 v) ∧
    Blk ((((w1.alloc (.cells cs1 t1)).setCell ⟨b,0,none⟩ v).alloc (.cells cs2 t2)).alloc (.cells cs3 t3)).drew w1.heap.size t1 cs1 ∧
    Blk ((((w1.alloc (.cells cs1 t1)).setCell ⟨b,0,none⟩ v).alloc (.cells cs2 t2)).alloc (.cells cs3 t3)).drew (w1.heap.size+1) t2 cs2 ∧
    Blk ((((w1.alloc (.cells cs1 t1)).setCell ⟨b,0,none⟩ v).alloc (.cells cs2 t2)).alloc (.cells cs3 t3)).drew (w1.heap.size+1+1) t3 cs3 ∧
    Keep (fun k=>k=b) w1 ((((w1.alloc (.cells cs1 t1)).setCell ⟨b,0,none⟩ v).alloc (.cells cs2 t2)).alloc (.cells cs3 t3)).drew ∧
    ((((w1.alloc (.cells cs1 t1)).setCell ⟨b,0,none⟩ v).alloc (.cells cs2 t2)).alloc (.cells cs3 t3)).drew.heap.size=w1.heap.size+1+1+1:=by
  have hlt:=hl.lt
  have s1:((w1.alloc (.cells cs1 t1)).setCell ⟨b,0,none⟩ v).heap.size=w1.heap.size+1:=by simp[World.setCell]
  have n2:Blk (((w1.alloc (.cells cs1 t1)).setCell ⟨b,0,none⟩ v).alloc (.cells cs2 t2)) (w1.heap.size+1) t2 cs2:=by rw[←s1];exact Blk.new _ _ _
  have s2:(((w1.alloc (.cells cs1 t1)).setCell ⟨b,0,none⟩ v).alloc (.cells cs2 t2)).heap.size=w1.heap.size+1+1:=by rw[World.size_alloc,s1]
  have n3:Blk ((((w1.alloc (.cells cs1 t1)).setCell ⟨b,0,none⟩ v).alloc (.cells cs2 t2)).alloc (.cells cs3 t3)) (w1.heap.size+1+1) t3 cs3:=by rw[←s2];exact Blk.new _ _ _
  refine⟨((((hl.alloc _).set_ 0 v).alloc _).alloc _).drew,((((Blk.new w1 t1 cs1).far (p:=⟨b,0,none⟩) (by simp;omega) v).alloc _).alloc _).drew,(n2.alloc _).drew,n3.drew,((((((Keep.refl (fun k=>k=b) w1).alloc _).set_ (p:=⟨b,0,none⟩) (.inl rfl) v).alloc _).alloc _).drew),?_⟩
  show (World.alloc _ _).heap.size=_
  rw[World.size_alloc,s2]
theorem Own.of_blk2 {w:World}{g e n B size:Nat}{xs:List Value} (h:Blk w g e xs.toArray) (hl:xs.length=n*size) (hm:n≤maxLen) (hB:B≤g):Own w B e size (some ⟨g,0,none⟩) n n xs:=
  ⟨hl,.inr ⟨g,n,xs.toArray,rfl,hB,h,Nat.le_refl _,hm,by simp[hl],by rw[List.take_of_length_le (by simp[hl])]⟩⟩
set_option maxHeartbeats 4000000 in
set_option maxRecDepth 100000 in
theorem items_some (B:Nat) (id:Int) (V:List Int) (T:Parts) (A:Option Addr) (n c:Nat) (w:World) (hT:ptree id=some T) (hV:Rd w B 1 A n (V.map (.int .i64))) (hn:V.length=n) (hc:n≤c) (hcm:c≤maxLen) (hb:∀x∈V,i64 x) (h3:V.length≤8200) (hW:Widths w) (hg : 0 < B) (hB:B≤w.heap.size) :
    Calls Tryz.prog 118 #[.agg (packCells id A n c)] w (IRet w (itemsM id V)):=by
  have hk:Hid (∀w,Calls Tryz.prog 159 #[.int .i64 id] w fun e w'=>e=.returned (.bool true)∧Keep Never w w'):=by
   intro w
   have:=known_any id w
   rwa [hT] at this
  have hmf:∀(fn:Fn) (first cap:Array Value) (w:World),(Instr.makeFunc fn first cap).run Tryz.prog w=.ok (.func fn first cap) w:=fun _ _ _ _=>rfl
  have HT:=qh hT
  have HV:=qh hV
  have Hn:=qh hn
  have Hb:=qh hb
  have HW:=qh hW
  unfold packCells
  clear hT hV hn hb hW
  go_enter_defers Tryz.func118, Tryz.ntmps118
  go_wp2_with (go_at_call 159; refine(hk.out _).mono ?_;rintro e w1 ⟨rfl,hk1⟩;have HK1:=qh hk1;clear hk1)
  have hk0:Keep Never w w1:=(((Keep.refl Never w).alloc _).alloc _).alloc _ |>.trans HK1.out
  have hp:Blk w1 w.heap.size 105 #[.int .i64 id,.slice A n c]:=Blk.keep (w:=((w.alloc _).alloc _).alloc _) (((Blk.new w 105 #[.int .i64 id,.slice A n c]).alloc _).alloc _) HK1.out (fun h=>h)
  have hl:Blk w1 (w.heap.size+1) 106 #[.slice none 0 0]:=Blk.keep (w:=((w.alloc _).alloc _).alloc _) ((by simpa using Blk.new (w.alloc (.cells #[.int .i64 id,.slice A n c] 105)) 106 #[.slice none 0 0]:Blk ((w.alloc (.cells #[.int .i64 id,.slice A n c] 105)).alloc (.cells #[.slice none 0 0] 106)) (w.heap.size+1) 106 #[.slice none 0 0]).alloc _) HK1.out (fun h=>h)
  have he:Blk w1 (w.heap.size+1+1) 39 #[.int .i64 0]:=Blk.keep (w:=((w.alloc _).alloc _).alloc _) (by simpa using Blk.new ((w.alloc (.cells #[.int .i64 id,.slice A n c] 105)).alloc (.cells #[.slice none 0 0] 106)) 39 #[.int .i64 0]) HK1.out (fun h=>h)
  obtain⟨c1,c2⟩:=bc2 hp
  have c3:w1.cell? ⟨w.heap.size+1,0,none⟩=some (.slice none 0 0):=hl.cell 0
  have f3:w1.frozen? ⟨w.heap.size+1,0,none⟩=false:=hl.frozen 0
  have c3a:∀o,(w1.alloc o).cell? ⟨w.heap.size+1,0,none⟩=some (.slice none 0 0):=fun o=>(hl.alloc o).cell 0
  have f3a:∀o,(w1.alloc o).frozen? ⟨w.heap.size+1,0,none⟩=false:=fun o=>(hl.alloc o).frozen 0
  have c1a:∀o,(w1.alloc o).cell? ⟨w.heap.size,0,none⟩=some (.int .i64 id):=fun o=>(hp.alloc o).cell 0
  have c2a:∀o,(w1.alloc o).cell? ⟨w.heap.size,1,none⟩=some (.slice A n c):=fun o=>(hp.alloc o).cell 1
  have hps:∀o1 v,Blk ((w1.alloc o1).setCell ⟨w.heap.size+1,0,none⟩ v) w.heap.size 105 #[.int .i64 id,.slice A n c]:=fun o1 v=>(hp.alloc o1).far (p:=⟨w.heap.size+1,0,none⟩) (by simp) v
  have c2b:∀o1 v,((w1.alloc o1).setCell ⟨w.heap.size+1,0,none⟩ v).cell? ⟨w.heap.size,1,none⟩=some (.slice A n c):=fun o1 v=>(hps o1 v).cell 1
  have c1d:∀o1 v o2 o3,((((w1.alloc o1).setCell ⟨w.heap.size+1,0,none⟩ v).alloc o2).alloc o3).cell? ⟨w.heap.size,0,none⟩=some (.int .i64 id):=fun o1 v o2 o3=>(((hps o1 v).alloc o2).alloc o3).cell 0
  have Hps:=qh hps
  clear hps
  have Hk0:=qh hk0
  have Hp:=qh hp
  have Hl:=qh hl
  have He:=qh he
  have hWid:Calls Tryz.prog 160 #[.int .i64 5] w1.drew fun e w'=>e=.returned (.int .i64 8)∧w'=w1.drew:=
    (vwidth_any 5 w1.drew ((HW.out.keep hk0 (fun h=>h)).keep ((Keep.refl Never w1).drew) (fun h=>h))).mono fun _ _ h=>⟨h.1,h.2.symm⟩
  have HWid:=qh hWid
  clear hk0 hp hl he hWid
  refine wp_region_still_tail 4 (by kernel_rfl) (by kernel_rfl) ?_
  simp only[List.take_succ_cons,List.take_zero,List.drop_succ_cons,List.drop_zero]
  still_step
  still_step
  still_call HWid.out
  still_step
  refine wpStill_nil ?_
  change wpList _ _ _ _ _ (World.drew _)
  go_wp2_with fail
  refine(parts_some id T HT.out _).mono ?_
  rintro e w2 ⟨A2,n2,C2,rfl,h1,h2⟩
  obtain⟨b1,b2,b3,b4,k5,hs5⟩:=world3 (cs1:=#[.int .i64 id,.int .i64 8]) (t1 := 162) (cs2:=#[.slice A n c]) (t2 := 22) (cs3:=#[.func (.func 161) #[] #[.pointer (some ⟨w.heap.size+1,0,none⟩),.pointer (some ⟨w1.heap.size+1,0,none⟩)]]) (t3 := 202) Hl.out (.slice (some ⟨w1.heap.size,0,none⟩) 1 1)
  have g1:=b1.keep h2 (fun h=>h)
  have g2:=b2.keep h2 (fun h=>h)
  have g3:=b3.keep h2 (fun h=>h)
  have g4:=b4.keep h2 (fun h=>h)
  have he2:=(He.out.keep k5 (by omega)).keep h2 (fun h=>h)
  have hsz2:=h2.size
  rw[hs5] at hsz2
  have hw1:=Hk0.out.size
  have hlt:=He.out.lt
  have hk2:Keep Never w w2:=(Hk0.out.then_ k5 (fun i hi h=>by omega)).trans h2
  have hW2:Widths w2:=HW.out.keep hk2 (fun h=>h)
  have hrow:∀k,InRow (some ⟨w1.heap.size,0,none⟩:Option Addr) k↔k=w1.heap.size:=fun k=>⟨by rintro⟨ad,h,rfl⟩;injection h with h;subst h;rfl,by rintro rfl;exact⟨_,rfl,rfl⟩⟩
  have hinv:InvI B w1.heap.size (w.heap.size+1) (w1.heap.size+1) ⟨V,[(5,id)]⟩ (fun k=>k=w1.heap.size) w2:=by
   refine⟨some ⟨w1.heap.size,0,none⟩,1,A,n,c,by simpa using g1,?_,fun k=>(hrow k).symm,g3,Hn.out,?_,hc,hcm,Hb.out,hW2,by omega,trivial,by omega,by omega,by omega,hg⟩
   ·exact Own.of_blk2 (n:=1) (by simpa[bitCells,itemsOf,show vWidth 5=8 from rfl] using g2) rfl (by unfold maxLen;omega) (Nat.le_refl _)
   ·exact HV.out.keep hk2 (fun _ h=>h.elim)
  have hlead:=(ptree_chk HT.out).2.2.1
  have hne9:=walkI9_ok hlead 0 ⟨V,[(5,id)]⟩ (by simp;omega)
  have heq9:=walkI9 hlead 0 ⟨V,[(5,id)]⟩ (by simp;omega)
  have hwalk:=walk_any valI9 (fun s Q W=>InvI B w1.heap.size (w.heap.size+1) (w1.heap.size+1) s Q W∧w1.heap.size≤W.heap.size) (SI2 (w.heap.size+1) (w1.heap.size+1)) 161 #[.pointer (some ⟨w.heap.size+1,0,none⟩),.pointer (some ⟨w1.heap.size+1,0,none⟩)]
    (fun args w=>by kernel_rfl) (items1_does B w1.heap.size (w.heap.size+1) (w1.heap.size+1)) (fun s Q W W' h hk=>⟨h.1.keep hk,Nat.le_trans h.2 hk.size⟩)
    (w1.heap.size+1+1) w2.heap.size (Frw (w1.heap.size+1+1+1) w2) (fun k hk=>⟨fun h=>by have:=hk.1;rcases h with h | h <;> omega,hk.2⟩) ⟨fun h=>by rcases h with h | h <;> omega,by omega⟩ (fun k h=>by rcases h with h | h <;> omega)
    T.sz T (Nat.le_refl _) A2 n2 C2 ⟨V,[(5,id)]⟩ (fun k=>k=w1.heap.size) w2 (by rw[hs5] at h1;exact h1.keep (Keep.refl Never w2) (fun k hk h=>⟨fun h=>h.elim,h,hk⟩)) g4 (Nat.le_refl _) ⟨hinv,by omega⟩
    (fun k hk h=>by have:=hk.1;omega) (by omega) (fun k h=>by omega) hne9
  rw[heq9] at hwalk
  have hres:itemsM id V=(match walkL valI T 0 ⟨V,[(5,id)]⟩ with | .error e=>.error e | .ok s=>if s.rest=[] then .ok s.out else .error 20):=by unfold itemsM;simp only[HT.out] <;> rfl
  have hE2:=qh he2
  have hlt2:Hid (w.heap.size+1+1<w1.heap.size):=hlt
  have Hwalk:=qh hwalk
  have HK2:=qh hk2
  have Hsz2:Hid (w1.heap.size+1+1+1≤w2.heap.size):=hsz2
  have Hw1:Hid (w.heap.size≤w1.heap.size):=hw1
  rcases hr:walkL valI T 0 ⟨V,[(5,id)]⟩ with x | s'
  ·rw[hr] at hres
   have HR:=qh hres
   have Hr:=qh hr
   have hx:x=20:=walk_err (E:=fun e=>e=20) valI_err T 0 _ x hr
   subst hx
   clear b1 b2 b3 b4 k5 hs5 g1 g2 g3 g4 he2 hsz2 hw1 hlt hk2 hW2 hrow hinv hlead hne9 heq9 hwalk h1 h2 hres hr c1 c2 c3 f3 c3a f3a c1a c2a c2b c1d
   go_wp2_with fail
   refine Hwalk.out.mono ?_
   rintro e w3 ⟨hk5,Q',hq1,hq2,hpo⟩
   rw[Hr.out] at hpo
   rcases hpo with⟨_,h,_⟩ | ⟨y,s4,h,rfl,hi4⟩
   ·cases h
   injection h with h
   subst h
   obtain⟨⟨A5,c5,A6,n6,c6,i1,i2,i3,i4,_⟩,hi5⟩:=hi4
   have he3:=hE2.out.keep hk5 (fun h=>by have:=hlt2.out;rcases h with(h | h) | h <;> omega)
   have HKw:Hid (Keep Never w w3):=HK2.out.then_ hk5 (fun i hi h=>by have:=Hw1.out;rcases h with(h | h) | h <;> omega)
   clear hk5 hq1 hq2 hi5 i2 i3 i4
   go_wp2_with fail
   refine leaves_cons (f := 158) (args:=#[.pointer (some ⟨w.heap.size+1+1,0,none⟩)]) (by simp) (by simp[go_sem]) ?_
   refine(caught_panicking (w.heap.size+1+1) 20 0 _ he3).mono ?_
   rintro e u' w4 ⟨rfl,rfl,hb4,hk4⟩
   have q1:w4.cell? ⟨w.heap.size+1+1,0,none⟩=some (.int .i64 20):=hb4.cell 0
   have q2:w4.cell? ⟨w.heap.size+1,0,none⟩=some (.slice A5 s4.out.length c5):=(Blk.keep i1 hk4 (by omega)).cell 0
   have HF:Hid (Keep Never w w4):=HKw.out.then_ hk4 (fun i hi h=>by omega)
   clear hb4 hk4
   simp[Leaves,settle,results,Tryz.results118, go_sem,faultR,q1,q2]
   rw[HR.out]
   exact⟨_,_,_,_,rfl,HF.out,.inr ⟨rfl,by decide,by decide,by decide⟩⟩
  ·rw[hr] at hres
   have HR:=qh hres
   have Hr:=qh hr
   clear b1 b2 b3 b4 k5 hs5 g1 g2 g3 g4 he2 hsz2 hw1 hlt hk2 hW2 hrow hinv hlead hne9 heq9 hwalk h1 h2 hres hr c1 c2 c3 f3 c3a f3a c1a c2a c2b c1d
   go_wp2_with fail
   refine Hwalk.out.mono ?_
   rintro e w3 ⟨hk5,Q',hq1,hq2,hpo⟩
   rw[Hr.out] at hpo
   rcases hpo with⟨s4,h,rfl,hi4⟩ | ⟨_,_,h,_⟩
   rotate_left
   ·cases h
   injection h with h
   subst h
   obtain⟨⟨A5,c5,A6,n6,c6,i1,i2,i3,i4,i5,_⟩,hi5⟩:=hi4
   have he3:=hE2.out.keep hk5 (fun h=>by have:=hlt2.out;rcases h with(h | h) | h <;> omega)
   have HKw:Hid (Keep Never w w3):=HK2.out.then_ hk5 (fun i hi h=>by have:=Hw1.out;rcases h with(h | h) | h <;> omega)
   have d1:w3.cell? ⟨w1.heap.size+1,0,none⟩=some (.slice A6 n6 c6):=i4.cell 0
   have d2:w3.cell? ⟨w.heap.size+1,0,none⟩=some (.slice A5 s'.out.length c5):=i1.cell 0
   have d3:w3.cell? ⟨w.heap.size+1+1,0,none⟩=some (.int .i64 0):=he3.cell 0
   have d4:w3.frozen? ⟨w.heap.size+1,0,none⟩=false:=i1.frozen 0
   have d5:w3.frozen? ⟨w.heap.size+1+1,0,none⟩=false:=he3.frozen 0
   have hset:w3.setCell ⟨w.heap.size+1,0,none⟩ (.slice A5 s'.out.length c5)=w3.setCell ⟨w.heap.size+1,0,none⟩ (.slice A5 s'.out.length c5):=rfl
   have I1:=qh i1
   have I2:=qh i2
   have He3:=qh he3
   have Hbase:Hid (w.heap.size≤w1.heap.size):=Hw1.out
   clear hset hk5 hq1 hq2 hi5 i1 i2 i3 i4 he3
   by_cases hz:s'.rest=[]
   ·have HR:=(qh (HR.out.trans (if_pos hz)):Hid (itemsM id V=.ok s'.out))
    rw[hz] at i5
    simp only[List.length_nil] at i5
    subst i5
    clear hz
    go_wp2_with fail
    refine leaves_cons (f := 158) (args:=#[.pointer (some ⟨w.heap.size+1+1,0,none⟩)]) (by simp) (by simp[go_sem]) ?_
    refine(caught_idle _ _).mono ?_
    rintro e u' w4 ⟨rfl,rfl,rfl⟩
    have hl4:=((I1.out.set_ 0 (.slice A5 s'.out.length c5)).far (p:=⟨w.heap.size+1+1,0,none⟩) (by simp) (.int .i64 0))
    have he4:=((He3.out.far (p:=⟨w.heap.size+1,0,none⟩) (by simp) (.slice A5 s'.out.length c5)).set_ 0 (.int .i64 0))
    have q1:=he4.cell 0
    have q2:=hl4.cell 0
    simp at q1 q2
    simp[Leaves,settle,results,Tryz.results118, go_sem,q1,q2]
    rw[HR.out]
    have hk4:Keep Never w ((w3.setCell ⟨w.heap.size+1,0,none⟩ (.slice A5 s'.out.length c5)).setCell ⟨w.heap.size+1+1,0,none⟩ (.int .i64 0)):=
      (HKw.out.set_ (p:=⟨w.heap.size+1,0,none⟩) (.inr (by simp)) _).set_ (p:=⟨w.heap.size+1+1,0,none⟩) (.inr (by simp;omega)) _
    have ho4:=((I2.out.far (p:=⟨w.heap.size+1,0,none⟩) (fun k h e=>I2.out.ne_blk I1.out (by decide) k h e) (.slice A5 s'.out.length c5)).far (p:=⟨w.heap.size+1+1,0,none⟩) (fun k h e=>I2.out.ne_blk He3.out (by decide) k h e) (.int .i64 0)).less Hbase.out
    exact⟨_,_,_,_,rfl,hk4,.inl ⟨_,rfl,rfl,rfl,ho4⟩⟩
   ·have HR:=(qh (HR.out.trans (if_neg hz)):Hid (itemsM id V=.error 20))
    have hn6:(0:Int)<n6:=by
     have:s'.rest.length≠0:=fun h=>hz (List.length_eq_zero_iff.1 h)
     omega
    clear hz
    go_wp2_with fail
    refine leaves_cons (f := 158) (args:=#[.pointer (some ⟨w.heap.size+1+1,0,none⟩)]) (by simp) (by simp[go_sem]) ?_
    refine(caught_panicking (w.heap.size+1+1) 20 0 _ He3.out).mono ?_
    rintro e u' w4 ⟨rfl,rfl,hb4,hk4⟩
    have q1:w4.cell? ⟨w.heap.size+1+1,0,none⟩=some (.int .i64 20):=hb4.cell 0
    have q2:w4.cell? ⟨w.heap.size+1,0,none⟩=some (.slice A5 s'.out.length c5):=(Blk.keep I1.out hk4 (by omega)).cell 0
    have HF:Hid (Keep Never w w4):=HKw.out.then_ hk4 (fun i hi h=>by omega)
    clear hb4 hk4
    simp[Leaves,settle,results,Tryz.results118, go_sem,faultR,q1,q2]
    rw[HR.out]
    exact⟨_,_,_,_,rfl,HF.out,.inr ⟨rfl,by decide,by decide,by decide⟩⟩
theorem items_any (B:Nat) (id:Int) (V:List Int) (A:Option Addr) (n c:Nat) (w:World) (hV:Rd w B 1 A n (V.map (.int .i64))) (hn:V.length=n) (hc:n≤c) (hcm:c≤maxLen) (hb:∀x∈V,i64 x) (h3:V.length≤8200) (hW:Widths w) (hg : 0 < B) (hB:B≤w.heap.size) :
    Calls Tryz.prog 118 #[.agg (packCells id A n c)] w (IRet w (itemsM id V)):=by
  cases hT:ptree id with
  | none=>exact items_none id V A n c w hT
  | some T=>exact items_some B id V T A n c w hT hV hn hc hcm hb h3 hW hg hB
end Go.Proofs.YtpapiojicbbheaaGreatDoor

namespace Go.Proofs.YtpapiojicbbheaaGreatDoor
open Go.RowKit
set_option maxHeartbeats 400000 in
theorem up_any (id:Int) (w:World):Calls Tryz.prog 119 #[.int .i64 id] w fun e w'=>e=.returned (.bool (upP id))∧w=w':=by
 by_cases h0:id=0
 ·subst h0
  go_enter Tryz.func119, Tryz.ntmps119
  go_wp2
  go_ret
  exact⟨rfl,rfl⟩
 ·have e0:(id==0)=false:=by simpa using h0
  by_cases h1:id=1
  ·subst h1
   go_enter Tryz.func119, Tryz.ntmps119
   go_wp2
   go_ret
   exact⟨rfl,rfl⟩
  ·have e1:(id==1)=false:=by simpa using h1
   have hu:upP id=(id==11):=by
    unfold upP
    rw[Bool.eq_iff_iff,decide_eq_true_iff,beq_iff_eq]
    omega
   have HU:=qh hu
   clear hu h0 h1
   go_enter Tryz.func119, Tryz.ntmps119
   go_wp2
   go_ret
   exact⟨by rw[HU.out];rfl,rfl⟩
theorem bitCells_at:∀(l:List (Int×Int)) {i:Nat}{x:Int×Int},l[i]?=some x→(bitCells l)[i*2]?=some (.int .i64 x.1)∧(bitCells l)[i*2+1]?=some (.int .i64 x.2):=by
 intro l
 induction l with
 | nil=>intro i x h;simp at h
 | cons y l ih=>
  intro i x h
  have e:bitCells (y::l)=.int .i64 y.1::.int .i64 y.2::bitCells l:=rfl
  rw[e]
  cases i with
  | zero=>simp only[List.getElem?_cons_zero,Option.some.injEq] at h;subst h;exact⟨rfl,rfl⟩
  | succ i=>
   simp only[List.getElem?_cons_succ] at h
   rw[show (i+1)*2=i*2+1+1 by omega,List.getElem?_cons_succ,List.getElem?_cons_succ,List.getElem?_cons_succ,List.getElem?_cons_succ]
   exact ih h
theorem sumW_take {l:List (Int×Int)}{i:Nat}{x:Int×Int} (h:l[i]?=some x):sumW (l.take (i+1))=sumW (l.take i)+x.2:=by
 obtain⟨h2,h3⟩:=List.getElem?_eq_some_iff.1 h
 rw[List.take_succ_eq_append_getElem h2,h3,sumW_app]
 simp[sumW]
theorem sumW_take_range (tr:List (Int×Int)) (k:Nat):0≤sumW ((itemsOf tr).take k)∧sumW ((itemsOf tr).take k)≤32*tr.length:=by
 have:=sumW_items (tr.take k)
 have e:(itemsOf tr).take k=itemsOf (tr.take k):=by simp[itemsOf,List.map_take]
 rw[e]
 have:(tr.take k).length≤tr.length:=by simp;omega
 omega
theorem bitCells_set:∀(l:List (Int×Int)) {i:Nat}{a b:Int},l[i]?=some (a,b)→∀m,bitCells (l.set i (m,b))=(bitCells l).set (i*2) (.int .i64 m):=by
 intro l
 induction l with
 | nil=>intro i a b h;simp at h
 | cons y l ih=>
  intro i a b h m
  have e:∀(z:Int×Int) l,bitCells (z::l)=.int .i64 z.1::.int .i64 z.2::bitCells l:=fun _ _=>rfl
  cases i with
  | zero=>
   simp only[List.getElem?_cons_zero,Option.some.injEq] at h
   subst h
   rfl
  | succ i=>
   simp only[List.getElem?_cons_succ] at h
   rw[List.set_cons_succ,e,e,ih h m,show (i+1)*2=i*2+1+1 by omega,List.set_cons_succ,List.set_cons_succ]
def ItRet (w:World) (r:Except Int (List (Int×Int))) (e:Ending) (w':World):Prop:=
  ∃(A:Option Addr) (n c:Nat) (x:Int),e=.returned (.tuple #[.slice A n c,.int .i64 x])∧Keep Never w w' ∧
   ((∃l,r=.ok l∧x=0∧n=l.length∧Own w' w.heap.size 162 2 A n c (bitCells l))∨(r=.error x∧x≠0∧A=none∧n=0∧c=0))
set_option maxHeartbeats 4000000 in
set_option maxRecDepth 100000 in
theorem Items_any (B:Nat) (id:Int) (V:List Int) (A:Option Addr) (n c:Nat) (w:World) (hV:Rd w B 1 A n (V.map (.int .i64))) (hn:V.length=n) (hc:n≤c) (hcm:c≤maxLen) (hb:∀x∈V,i64 x) (h3:V.length≤8200) (hW:Widths w) (hg : 0 < B) (hB:B≤w.heap.size) :
    Calls Tryz.prog 65 #[.agg (packCells id A n c)] w (ItRet w (ItemsM id V)):=by
  have hit:Hid (∀W,Keep Never w W→Calls Tryz.prog 118 #[.agg (packCells id A n c)] W (IRet W (itemsM id V))):=fun W hk=>
   items_any B id V A n c W (hV.keep hk (fun _ h=>h.elim)) hn hc hcm hb h3 (hW.keep hk (fun h=>h)) hg (Nat.le_trans hB hk.size)
  have h3000:V.length≤8200:=h3
  unfold packCells at *
  clear hV hn hb h3 hW
  go_enter Tryz.func65, Tryz.ntmps65
  go_wp2_with fail
  refine(hit.out _ ((Keep.refl Never w).alloc _)).mono ?_
  rintro e w1 ⟨A1,n1,c1,x,rfl,hk1,hpo⟩
  have HK1:=qh hk1
  clear hk1
  rcases hpo with⟨tr,hr,rfl,hn1,ho⟩ | ⟨hr,hx,_,_⟩
  ·have hlen:=itemsM_len hr
   have hn1':n1≤8300:=by omega
   have Hlen:=qh hlen
   have Hr:=qh hr
   have hb1:w.heap.size≤(w.alloc (.cells #[.int .i64 id,.slice A n c] 105)).heap.size:=by simp
   have HO:=qh (ho.less hb1)
   have Hn1:=qh hn1
   have hp1:Blk w1 w.heap.size 105 #[.int .i64 id,.slice A n c]:=(Blk.new w 105 #[.int .i64 id,.slice A n c]).keep HK1.out (fun h=>h)
   have Hp1:=qh hp1
   obtain⟨g,cur,hA,hgb,hgblk,hc1,hc2,hc3,hc4⟩:∃g cur,A1=some ⟨g,0,none⟩∧w.heap.size≤g∧Blk w1 g 162 cur∧n1≤c1∧c1≤maxLen∧cur.size=c1*2∧cur.toList.take (n1*2)=bitCells (itemsOf tr):=by
    rcases HO.out.form with⟨_,h0,_⟩ | h
    ·exfalso
     have h1:=hlen.2
     split at h1 <;> omega
    ·exact h
   subst hA
   have Hgb:=qh hgb
   have Hgblk:=qh hgblk
   have Hc4:=qh hc4
   have hc1':n1≤c1:=hc1
   have hc9:c1≤9223372036854775807:=by unfold maxLen at hc2;omega
   clear hr ho hn1 hlen hb1 hp1 hgb hgblk hc2 hc4
   go_wp2_with fail
   go_loopw [6,8,20] (fun sz _ i wr=>∃k:Nat,k≤n1∧i=.int .i64 k∧sz=.int .i64 (sumW ((itemsOf tr).take k))∧Hid (Keep Never w1 wr)) (fun _ _ i _=>n1 - (intOf i).toNat)
   case atStart=>exact⟨0,by omega,rfl,rfl,Keep.refl _ _⟩
   case round=>
    obtain⟨k,hk,rfl,rfl,HKr⟩:=hrel
    have hs1:=sumW_take_range tr k
    have hs2:sumW ((itemsOf tr).take k)≤1000000:=by have:=Hn1.out;omega
    by_cases h0:k<n1
    ·have hx:(itemsOf tr)[k]?=some ((itemsOf tr)[k]'(by simp[itemsOf];have:=Hn1.out;omega)):=List.getElem?_eq_getElem _
     generalize (itemsOf tr)[k]'(by simp[itemsOf];have:=Hn1.out;omega)=y at hx
     obtain⟨y1,y2⟩:=y
     have hy2:0≤y2∧y2≤32:=by
      simp only[itemsOf,List.getElem?_map] at hx
      cases ht:tr[k]? with
      | none=>rw[ht] at hx;cases hx
      | some z=>
       rw[ht] at hx
       injection hx with hx
       injection hx with _ hx
       have:=vWidth_range z.1
       omega
     obtain⟨hat1,hat2⟩:=bitCells_at _ hx
     have hcells:=(HO.out.rd.keep HKr.out (fun _ h=>h.elim)).2 (by omega)
     obtain⟨ad,hA,_,hcc⟩:=hcells
     injection hA with hA
     subst hA
     have d0:=hcc _ _ hat1
     have d1:=hcc _ _ hat2
     have e0:∀j,(⟨g,0,none⟩:Addr).add j=⟨g,j,none⟩:=fun j=>by unfold Addr.add;split <;> simp_all
     rw[e0] at d0 d1
     have HS:Hid (sumW ((itemsOf tr).take (k+1))=sumW ((itemsOf tr).take k)+y2):=sumW_take hx
     obtain⟨S,hS⟩:∃S,sumW ((itemsOf tr).take k)=S:=⟨_,rfl⟩
     rw[hS] at hs1 hs2
     rw[hS]
     have HS0:=qh hS
     clear hx hat1 hat2 hcc e0 hS
     go_wp2_with fail
     go_roundw
     case rel=>exact⟨k+1,by omega,by go_num,by rw[HS.out,HS0.out],HKr.out.alloc _⟩
     case measure=>simp[intOf];omega
    ·obtain rfl:k=n1:=by omega
     have htk:(itemsOf tr).take k=itemsOf tr:=List.take_of_length_le (by simp[itemsOf];have:=Hn1.out;omega)
     obtain⟨S,hS⟩:∃S,sumW (itemsOf tr)=S:=⟨_,rfl⟩
     rw[htk,hS] at hs1 hs2
     rw[htk,hS]
     have HS:=qh hS
     have HKw:Hid (Keep Never w wr):=(((Keep.refl Never w).alloc _).trans HK1.out).trans HKr.out
     clear htk hS
     by_cases h8:8184<S
     ·have HF:Hid (ItemsM id V=.error 2):=by show _=_;unfold ItemsM;rw[Hr.out];simp only;rw[HS.out,if_pos h8]
      go_wp2_with fail
      go_ret2
      exact⟨none,0,0,2,rfl,HKw.out,.inr ⟨HF.out,by decide,rfl,rfl,rfl⟩⟩
     ·have HF:Hid (ItemsM id V=.ok ((itemsOf tr).set (atP id) (S,13))):=by show _=_;unfold ItemsM;rw[Hr.out];simp only;rw[HS.out,if_neg h8]
      have hpr:=Hp1.out.keep HKr.out (fun h=>h)
      have q0:wr.cell? ⟨w.heap.size,0,none⟩=some (.int .i64 id):=hpr.cell 0
      have hgr:=Hgblk.out.keep HKr.out (fun h=>h)
      have hlen:=Hlen.out
      have hat:=itemsM_at Hr.out
      have hj:atP id<k:=by
       have h1:=(List.getElem?_eq_some_iff.1 hat).1
       have:=Hn1.out
       omega
      have hcur:cur[atP id*2]?=some (.int .i64 0):=by
       have h1:(itemsOf tr)[atP id]?=some (0,13):=by rw[itemsOf,List.getElem?_map,hat];rfl
       have h2:=(bitCells_at _ h1).1
       rw[←Hc4.out,List.getElem?_take] at h2
       rw[if_pos (by omega)] at h2
       simpa using h2
      have q1:wr.cell? ⟨g,atP id*2,none⟩=some (.int .i64 0):=by rw[hgr.cell];exact hcur
      have q2:wr.frozen? ⟨g,atP id*2,none⟩=false:=hgr.frozen _
      have HOr:Hid (Own wr w.heap.size 162 2 (some ⟨g,0,none⟩) k c1 (bitCells (itemsOf tr))):=HO.out.keep HKr.out (fun _ _ h=>h)
      have hfin:Hid (∀wf,wf=wr.setCell ⟨g,atP id*2,none⟩ (.int .i64 S)→ItRet w (ItemsM id V) (.returned (.tuple #[.slice (some ⟨g,0,none⟩) k c1,.int .i64 0])) wf):=by
       rintro wf rfl
       have ho:=HOr.out.stored rfl (atP id*2) (.int .i64 S)
       have e0:(⟨g,0,none⟩:Addr).add (atP id*2)=⟨g,atP id*2,none⟩:=by unfold Addr.add;split <;> simp_all
       rw[e0] at ho
       refine⟨_,_,_,_,rfl,HKw.out.set_ (.inr Hgb.out) _,.inl ⟨_,HF.out,rfl,by simp[itemsOf];exact Hn1.out,?_⟩⟩
       have e1:bitCells ((itemsOf tr).set (atP id) (S,13))=(bitCells (itemsOf tr)).set (atP id*2) (.int .i64 S):=by
        have h1:(itemsOf tr)[atP id]?=some (0,13):=by rw[itemsOf,List.getElem?_map,hat];rfl
        exact bitCells_set _ h1 S
       rw[e1]
       exact ho
      clear hpr hgr hlen hat hcur
      have hju:atP id=if upP id then 1 else 2:=rfl
      cases hu:upP id
      ·rw[hu] at hju
       simp only[Bool.false_eq_true,if_false] at hju
       rw[hju] at q1 q2 hfin hj
       have HU:Hid (∀W,Calls Tryz.prog 119 #[.int .i64 id] W fun e w'=>e=.returned (.bool false)∧W=w'):=fun W=>by have:=up_any id W;rwa [hu] at this
       clear hju hu
       go_wp2_with (go_at_call 119; refine(HU.out _).mono ?_;rintro e w' ⟨rfl,rfl⟩)
       go_ret2
       exact hfin.out _ rfl
      ·rw[hu] at hju
       simp only[if_true] at hju
       rw[hju] at q1 q2 hfin hj
       have HU:Hid (∀W,Calls Tryz.prog 119 #[.int .i64 id] W fun e w'=>e=.returned (.bool true)∧W=w'):=fun W=>by have:=up_any id W;rwa [hu] at this
       clear hju hu
       go_wp2_with (go_at_call 119; refine(HU.out _).mono ?_;rintro e w' ⟨rfl,rfl⟩)
       go_ret2
       exact hfin.out _ rfl
  ·have hx0:(x==0)=false:=by simpa using hx
   have HF:Hid (ItemsM id V=.error x):=by show _=_;unfold ItemsM;rw[hr]
   have Hx:=qh hx
   clear hr hx
   go_wp2_with fail
   go_ret2
   exact⟨none,0,0,x,rfl,((Keep.refl Never w).alloc _).trans HK1.out,.inr ⟨HF.out,Hx.out,rfl,rfl,rfl⟩⟩
theorem sumW_bound {l:List (Int×Int)} (h:∀y∈l,0≤y.2∧y.2≤32) (k:Nat):0≤sumW (l.take k)∧sumW (l.take k)≤32*l.length:=by
 have:∀m:List (Int×Int),(∀y∈m,0≤y.2∧y.2≤32)→0≤sumW m∧sumW m≤32*m.length:=by
  intro m
  induction m with
  | nil=>intro _;simp[sumW]
  | cons y m ih=>
   intro hm
   have h1:=hm y (by simp)
   have h2:=ih (fun z hz=>hm z (by simp[hz]))
   simp only[sumW,List.map_cons,List.sum_cons,List.length_cons] at h2 ⊢
   omega
 have h1:=this (l.take k) (fun y hy=>h y (List.mem_of_mem_take hy))
 have:(l.take k).length≤l.length:=by simp;omega
 omega
end Go.Proofs.YtpapiojicbbheaaGreatDoor

namespace Go.Proofs.YtpapiojicbbheaaGreatDoor
open Go.RowKit
structure PksAt (w:World) (B:Nat) (A:Option Addr) (n c:Nat) (l:List Pk):Prop where
  len:l.length=n
  cap:n≤c
  one:∀i p,l[i]?=some p→∃ad A1 n1 c1,A=some ad∧ad.block<B∧ad.block<w.heap.size∧w.cell? (ad.add (i*2))=some (.int .i64 p.1)∧w.cell? ⟨(ad.add (i*2)).block,(ad.add (i*2)).off+1,none⟩=some (.slice A1 n1 c1)∧Rd w B 1 A1 n1 (p.2.map (.int .i64))∧n1≤c1∧c1≤maxLen∧(∀x∈p.2,i64_ x)∧p.2.length≤8200
theorem PksAt.keepS {S:Nat→Prop}{w w':World}{B n c:Nat}{A:Option Addr}{l:List Pk} (h:PksAt w B A n c l) (hk:Keep S w w') (hS:∀k,S k→B≤k):PksAt w' B A n c l:=by
 refine⟨h.len,h.cap,fun i p hp=>?_⟩
 obtain⟨ad,A1,n1,c1,h1,h2,h2b,h3,h4,h5,h6,h7,h8,h9⟩:=h.one i p hp
 refine⟨ad,A1,n1,c1,h1,h2,Nat.lt_of_lt_of_le h2b hk.size,?_,?_,h5.keep hk hS,h6,h7,h8,h9⟩
 ·exact(hk.cell (cell_lt h3) (fun e=>by have:=hS _ e;rw[block_add] at this;omega)).trans h3
 ·exact(hk.cell (cell_lt h4) (fun e=>by have:=hS _ e;simp only at this;rw[block_add] at this;omega)).trans h4
theorem PksAt.keep {w w':World}{B n c:Nat}{A:Option Addr}{l:List Pk} (h:PksAt w B A n c l) (hk:Keep Never w w'):PksAt w' B A n c l:=h.keepS hk (fun _ h=>h.elim)
def PredPk (B g:Nat) (lb:Array Value) (p:Pk→Bool) (w:World):Prop:=
  ∀(W:World) (x:Pk) (A:Option Addr) (n c:Nat),Keep Never w W→Rd W B 1 A n (x.2.map (.int .i64))→n≤c→c≤maxLen→(∀y∈x.2,i64_ y)→x.2.length≤8200 →
   Calls Tryz.prog g (#[.agg #[.int .i64 x.1,.slice A n c]]++lb) W fun e w'=>e=.returned (.bool (p x))∧Keep Never W w'
def IdxRetP (p:Pk→Bool) (l:List Pk) (w:World) (e:Ending) (w':World):Prop:=
  ((∃(i:Nat) (s:Pk),e=.returned (.int .i64 i)∧l[i]?=some s∧p s=true∧∀x∈l.take i,p x=false)∨(e=.returned (.int .i64 (-1))∧∀x∈l,p x=false))∧Keep Never w w'
set_option maxHeartbeats 1000000 in
set_option maxRecDepth 100000 in
theorem indexfp_any (g:Nat) (lb:Array Value) (p:Pk→Bool) (eg:∀args w,(callFunc g args).run Tryz.prog w=.ok (.enter g args) w) (A:Option Addr) (n c B:Nat) (l:List Pk) (w:World) (hr:PksAt w B A n c l) (hp:PredPk B g lb p w) (hn:n≤100000000000) :
    Calls Tryz.prog 68 #[.slice A n c,.func (.func g) #[] lb] w (IdxRetP p l w):=by
  have HL:=qh hr.len
  have HR:=qh hr
  have HP:=qh hp
  clear hr hp
  go_enter Tryz.func68, Tryz.ntmps68
  go_wp2_with fail
  go_loopw [5,8] (fun _ s8 wr=>∃k:Nat,k≤n∧s8=.int .i64 k∧Hid (Keep Never w wr∧∀x∈l.take k,p x=false)) (fun _ i _=>n - (intOf i).toNat)
  case atStart=>exact⟨0,by omega,rfl,qh ⟨Keep.refl _ _,by simp⟩⟩
  case round=>
   obtain⟨k,hk,rfl,HH⟩:=hrel
   by_cases h0:k<n
   ·have hki:(k:Int)<(n:Int):=by omega
    obtain⟨s,hs⟩:∃s,l[k]?=some s:=⟨_,List.getElem?_eq_getElem (by have:=HL.out;omega)⟩
    obtain⟨ad,A2,n2,d2,hA,_,_,c0,c1,q1,q2,q3,q4,q5⟩:=(HR.out.keep HH.out.1).one k s hs
    subst hA
    have hcall:=HP.out wr s A2 n2 d2 HH.out.1 q1 q2 q3 q4 q5
    clear q1 q2 q3 q4 q5
    have Hs:=qh hs
    have htk:Hid (l.take (k+1)=l.take k++[s]):=qh (by
     obtain⟨h2,h3⟩:=List.getElem?_eq_some_iff.1 hs
     rw[List.take_succ_eq_append_getElem h2,h3])
    clear hs
    obtain⟨s1,s2⟩:=s
    simp only at c0 c1 hcall
    cases hps:p (s1,s2) with
    | true=>
     rw[hps] at hcall
     have Hps:=qh hps
     clear hps
     go_wp2_with (go_at_fn g;refine hcall.mono ?_;rintro e w' ⟨rfl,hk'⟩)
     go_ret
     exact⟨.inl ⟨k,_,rfl,Hs.out,Hps.out,HH.out.2⟩,HH.out.1.trans hk'⟩
    | false=>
     rw[hps] at hcall
     have Hps:=qh hps
     clear hps
     go_wp2_with (go_at_fn g;refine hcall.mono ?_;rintro e w' ⟨rfl,hk'⟩)
     go_roundw
     case measure=>simp[intOf];try omega
     case rel=>
      refine⟨k+1,by omega,by go_num,qh ⟨HH.out.1.trans hk',fun x hx=>?_⟩⟩
      rw[htk.out] at hx
      rcases List.mem_append.1 hx with hx | hx
      ·exact HH.out.2 x hx
      ·simp at hx;subst hx;exact Hps.out
   ·obtain rfl:k=n:=by omega
    have hki:¬(k:Int)<(k:Int):=by omega
    have HN:Hid (∀x∈l,p x=false):=qh (by have:=HH.out.2;rwa [List.take_of_length_le (by have:=HL.out;omega)] at this)
    go_wp2_with fail
    go_ret
    exact⟨.inr ⟨rfl,HN.out⟩,HH.out.1⟩
set_option maxHeartbeats 1000000 in
set_option maxRecDepth 100000 in
theorem containsfp_any (g:Nat) (lb:Array Value) (p:Pk→Bool) (eg:∀args w,(callFunc g args).run Tryz.prog w=.ok (.enter g args) w) (A:Option Addr) (n c B:Nat) (l:List Pk) (w:World) (hr:PksAt w B A n c l) (hp:PredPk B g lb p w) (hn:n≤100000000000) :
    Calls Tryz.prog 66 #[.slice A n c,.func (.func g) #[] lb] w fun e w'=>e=.returned (.bool (l.any p))∧Keep Never w w':=by
  have HI:=qh (indexfp_any g lb p eg A n c B l w hr hp hn)
  clear hr hp
  go_enter Tryz.func66, Tryz.ntmps66
  go_wp2_with fail
  refine HI.out.mono ?_
  rintro e w' ⟨⟨i,s,rfl,h1,h2,h3⟩ | ⟨rfl,h1⟩,hk⟩
  ·have HA:Hid (l.any p=true):=qh (List.any_eq_true.2 ⟨s,List.mem_of_getElem? h1,h2⟩)
   have HK:=qh hk
   have hi:decide ((i:Int)≥0)=true:=by simp
   clear h1 h2 h3 hk
   go_wp2_with fail
   go_ret
   exact⟨by rw[HA.out];rfl,HK.out⟩
  ·have HA:Hid (l.any p=false):=qh (by rw[List.any_eq_false];intro x hx;rw[h1 x hx];simp)
   have HK:=qh hk
   clear h1 hk
   go_wp2_with fail
   go_ret
   exact⟨by rw[HA.out];rfl,HK.out⟩
set_option maxHeartbeats 4000000 in
set_option maxRecDepth 100000 in
theorem rd2_any (id:Int) (A:Option Addr) (n c:Nat) (w:World) :
    Calls Tryz.prog 69 #[.agg #[.int .i64 id,.slice A n c]] w fun e w'=>e=.returned (.bool (id==5))∧Keep Never w w':=by
  obtain⟨w1,hw1⟩:∃V:World,w.alloc (.cells #[.int .i64 id,.slice A n c] 105)=V:=⟨_,rfl⟩
  have kw1:Keep Never w w1:=by rw[←hw1];exact(Keep.refl _ _).alloc _
  have bw1:=Blk.new w 105 #[.int .i64 id,.slice A n c]
  rw[hw1] at bw1
  have HB1:=qh bw1
  have HK:=qh kw1
  have y0:w1.cell? ⟨w.heap.size,0,none⟩=some (.int .i64 id):=HB1.out.cell 0
  clear kw1 bw1
  go_enter Tryz.func69, Tryz.ntmps69
  go_wp2_with fail
  go_ret
  exact⟨rfl,HK.out⟩
set_option maxHeartbeats 4000000 in
set_option maxRecDepth 100000 in
theorem rd1_any (B:Nat) (id:Int) (V:List Int) (A:Option Addr) (n c:Nat) (w:World) (hV:Rd w B 1 A n (V.map (.int .i64))) (hn:V.length=n) (hc:n≤c) (hcm:c≤maxLen) (hb:∀x∈V,i64 x) (h3:V.length≤8200) (hW:Widths w) (hg : 0 < B) (hB:B≤w.heap.size) :
    Calls Tryz.prog 64 #[.agg #[.int .i64 id,.slice A n c]] w fun e w'=>e=.returned (.bool (badP (id,V)))∧Keep Never w w':=by
  have HIt:=qh (fun (W:World) (hk:Keep Never w W)=>Items_any B id V A n c W (hV.keep hk (fun _ h=>h.elim)) hn hc hcm hb h3 (hW.keep hk (fun h=>h)) hg (Nat.le_trans hB hk.size))
  unfold packCells at HIt
  have HBd:Hid (badP (id,V)=match ItemsM id V with | .ok _=>false | .error _=>true):=qh rfl
  obtain⟨r,hr⟩:∃z,ItemsM id V=z:=⟨_,rfl⟩
  rw[hr] at HIt HBd
  clear hV hn hc hcm hb h3 hW hg hr
  obtain⟨w1,hw1⟩:∃V:World,w.alloc (.cells #[.int .i64 id,.slice A n c] 105)=V:=⟨_,rfl⟩
  have kw1:Keep Never w w1:=by rw[←hw1];exact(Keep.refl _ _).alloc _
  have bw1:=Blk.new w 105 #[.int .i64 id,.slice A n c]
  rw[hw1] at bw1
  have HB1:=qh bw1
  have HK:=qh kw1
  obtain⟨y0,y1⟩:=bc2 HB1.out
  clear kw1 bw1
  go_enter Tryz.func64, Tryz.ntmps64
  go_wp2_with fail
  refine(HIt.out w1 HK.out).mono ?_
  rintro en w2 ⟨A2,n2,c2,x,rfl,hk2,hp2⟩
  have HK2:=qtr HK hk2
  have HP2:=qh hp2
  clear hk2 hp2 HIt hw1 y0 y1
  by_cases g:x=0
  ·have t0:(x != 0)=false:=by simpa using g
   have HF:Hid (badP (id,V)=false):=qh (by
    rcases HP2.out with⟨l,h1,_⟩ | ⟨h1,h2,_⟩
    ·rw[HBd.out,h1]
    ·exact absurd g h2)
   clear g
   go_wp2_with fail
   go_ret
   exact⟨by rw[HF.out];rfl,HK2.out⟩
  ·have t0:(x != 0)=true:=by simpa using g
   have HF:Hid (badP (id,V)=true):=qh (by
    rcases HP2.out with⟨l,_,h1,_⟩ | ⟨h1,h2,_⟩
    ·exact absurd h1 g
    ·rw[HBd.out,h1])
   clear g
   go_wp2_with fail
   go_ret
   exact⟨by rw[HF.out];rfl,HK2.out⟩
end Go.Proofs.YtpapiojicbbheaaGreatDoor
