/- Texts of this claim, together: TopA, TopC, SpnA, TopD, TopF, SpnB, SpnL, SpnM, SpnR, SpnS, SpnT, Flip, TopT, SlgA, PlcA, PlnS, PlnC. -/
import Derived.Test.YtpapiojicbbheaaGreatDoorTc00
import Derived.Test.YtpapiojicbbheaaGreatDoorTc01
import Derived.Test.YtpapiojicbbheaaGreatDoorTc02
import Derived.Test.YtpapiojicbbheaaGreatDoorTc03
import Derived.Test.YtpapiojicbbheaaGreatDoorTc04
import Derived.Test.YtpapiojicbbheaaGreatDoorTc05
import Derived.Test.YtpapiojicbbheaaGreatDoorTc06
import Derived.Test.YtpapiojicbbheaaGreatDoorTc07
import Derived.Test.YtpapiojicbbheaaGreatDoorTc08
import Derived.Test.YtpapiojicbbheaaGreatDoorTc09
import Derived.Test.YtpapiojicbbheaaGreatDoorTc10
import Derived.Test.YtpapiojicbbheaaGreatDoorTc11
import Derived.Test.YtpapiojicbbheaaGreatDoorRows
import Derived.WalkKit
import Derived.WalkSpells
import Derived.WalkLawsBesides
import Derived.Lib.Hide
import Derived.Deep.QuietTactic
import Derived.BigQuiet
import Derived.Maps.AppendAt
import Derived.Deep.AppendLies
import Derived.Deep.Draws
import Derived.Laws.CopyOwn
import Derived.ProofKit
import Derived.Deep.Slices
import Derived.Deep.RegionHeld3
import Derived.StillTailTactics
import Derived.IntWalk
import Derived.Shelf.GgClosure.Gives
import Derived.Lib.SliceRun
import Derived.Shelf.SlSortCmp.WholeK
import Derived.Lib.AppendZerosOnto
import Derived.RangeFuncNested
import Derived.RangeFuncBound
import Derived.RangeFuncCalls
import Derived.RangeFuncLeaves
import Derived.OwnWalkIn
import Derived.TacticsInMore
import Derived.LoopNIn
import Derived.LoopIn
import Derived.Laws.EntriesVeiled
import Derived.Maps.RangeWalk
import Derived.DeepKeys4
namespace Go.Proofs.YtpapiojicbbheaaGreatDoor
open Go.RowKit
set_option maxHeartbeats 1000000 in
set_option maxRecDepth 100000 in
theorem redge_any (x:TA) (i:Int) (w:World) :
    Calls Tryz.prog 110 #[.agg x.cs,.int .i64 i] w fun e w'=>e=.returned (.bool (thereB x.ne i))∧Keep Never w w':=by
  obtain⟨Ae,ne,ce,Aj,nj,cj,Ab,nb,cb,Ar,nr,cr⟩:=x
  simp only[TA.cs]
  obtain⟨wb,hwb⟩:∃wb:World,w.alloc (.cells #[.slice Ae ne ce,.slice Aj nj cj,.slice Ab nb cb,.slice Ar nr cr] 27)=wb:=⟨_,rfl⟩
  have hkb:Keep Never w wb:=by rw[←hwb];exact(Keep.refl _ _).alloc _
  have hbb:=Blk.new w 27 #[.slice Ae ne ce,.slice Aj nj cj,.slice Ab nb cb,.slice Ar nr cr]
  rw[hwb] at hbb
  have y0:wb.cell? ⟨w.heap.size,0,none⟩=some (.slice Ae ne ce):=hbb.cell 0
  have HK:=qh hkb
  clear hkb hbb
  by_cases h0:0≤i
  ·have t0:decide (i≥0)=true:=by simpa using h0
   by_cases h1:i<(ne:Int)
   ·have t1:decide (i<(ne:Int))=true:=by simpa using h1
    have hB:Hid (thereB ne i=true):=qh (by unfold thereB;simp[h0,h1])
    clear h0 h1
    go_enter Tryz.func110, Tryz.ntmps110
    go_wp2_with fail
    go_ret
    exact⟨by rw[hB.out];rfl,HK.out⟩
   ·have t1:decide (i<(ne:Int))=false:=by simpa using h1
    have hB:Hid (thereB ne i=false):=qh (by unfold thereB;simp[h1])
    clear h0 h1
    go_enter Tryz.func110, Tryz.ntmps110
    go_wp2_with fail
    go_ret
    exact⟨by rw[hB.out];rfl,HK.out⟩
  ·have t0:decide (i≥0)=false:=by simpa using h0
   have hB:Hid (thereB ne i=false):=qh (by unfold thereB;simp[h0])
   clear h0
   go_enter Tryz.func110, Tryz.ntmps110
   go_wp2_with fail
   go_ret
   exact⟨by rw[hB.out];rfl,HK.out⟩
set_option maxHeartbeats 1000000 in
set_option maxRecDepth 100000 in
theorem rin_any (s:Stp) (w:World) :
    Calls Tryz.prog 113 #[.agg #[.int .i64 s.1,.bool s.2]] w fun e w'=>e=.returned (.agg #[.int .i64 (inE s).1,.int .i64 (inE s).2])∧Keep Never w w':=by
  obtain⟨a,b⟩:=s
  simp only
  cases b
  all_goals
   go_enter Tryz.func113, Tryz.ntmps113
   go_wp2_with fail
   refine bodyPost_ret (end_results rfl (Blk.new _ _ _) _ (by simp)) rfl ⟨rfl,?_⟩
   exact((Keep.refl Never w).alloc _).alloc _
set_option maxHeartbeats 1000000 in
set_option maxRecDepth 100000 in
theorem rout_any (s:Stp) (w:World) :
    Calls Tryz.prog 112 #[.agg #[.int .i64 s.1,.bool s.2]] w fun e w'=>e=.returned (.agg #[.int .i64 (outE s).1,.int .i64 (outE s).2])∧Keep Never w w':=by
  obtain⟨a,b⟩:=s
  simp only
  cases b
  all_goals
   go_enter Tryz.func112, Tryz.ntmps112
   go_wp2_with fail
   refine bodyPost_ret (end_results rfl (Blk.new _ _ _) _ (by simp)) rfl ⟨rfl,?_⟩
   exact((Keep.refl Never w).alloc _).alloc _
end Go.Proofs.YtpapiojicbbheaaGreatDoor

namespace Go.Proofs.YtpapiojicbbheaaGreatDoor
open Go.RowKit
theorem joinB_le {l:List Jt}{k:Nat}{a b:En} (h:joinB (l.take k) a b=true):joinB l a b=true:=by
 unfold joinB at h ⊢
 rw[List.any_eq_true] at h ⊢
 obtain⟨j,h1,h2⟩:=h
 exact⟨j,List.mem_of_mem_take h1,h2⟩
theorem joinB_snoc_t {l:List Jt}{x1 x2 x3 x4 a1 a2 b1 b2:Int} (h:(sameE x1 x2 a1 a2=true∧sameE x3 x4 b1 b2=true)∨(sameE x1 x2 b1 b2=true∧sameE x3 x4 a1 a2=true)):joinB (l++[((x1,x2),(x3,x4))]) (a1,a2) (b1,b2)=true:=by
 unfold joinB sameE at *
 simp only[decide_eq_true_eq] at h
 rw[List.any_append]
 rcases h with⟨h1,h2⟩ | ⟨h1,h2⟩ <;> rw[h1,h2] <;> simp
theorem joinB_snoc_f {l:List Jt}{x1 x2 x3 x4 a1 a2 b1 b2:Int} (h0:joinB l (a1,a2) (b1,b2)=false) (h:sameE x1 x2 a1 a2=false∨sameE x3 x4 b1 b2=false) (h':sameE x1 x2 b1 b2=false∨sameE x3 x4 a1 a2=false):joinB (l++[((x1,x2),(x3,x4))]) (a1,a2) (b1,b2)=false:=by
 unfold joinB sameE at *
 simp only[decide_eq_false_iff_not] at h h'
 rw[List.any_append,h0]
 simp only[List.any_cons,List.any_nil,Bool.or_false,Bool.false_or,Bool.or_eq_false_iff,decide_eq_false_iff_not,Prod.mk.injEq,not_and] at *
 omega
set_option maxHeartbeats 40000000 in
set_option maxRecDepth 100000 in
theorem rjoined_any (A:Option Addr) (n c B:Nat) (l:List Jt) (a b:En) (w:World) (hs:repJt.Sl w B A n c l) (hn:n≤100000000) :
    Calls Tryz.prog 109 #[.slice A n c,.agg #[.int .i64 a.1,.int .i64 a.2],.agg #[.int .i64 b.1,.int .i64 b.2]] w fun e w'=>e=.returned (.bool (joinB l a b))∧Keep Never w w':=by
  obtain⟨a1,a2⟩:=a
  obtain⟨b1,b2⟩:=b
  simp only
  have qe:∀(w:World) (x1 x2 y1 y2:Int),(binOp .eql 132 (.agg #[.int .i64 x1,.int .i64 x2]) (.agg #[.int .i64 y1,.int .i64 y2])).run Tryz.prog w=.ok (.bool (sameE x1 x2 y1 y2)) w:=run_eq_end
  obtain⟨w1,hw1⟩:∃wb:World,w.alloc (.cells #[.int .i64 a1,.int .i64 a2] 132)=wb:=⟨_,rfl⟩
  obtain⟨w2,hw2⟩:∃wb:World,w1.alloc (.cells #[.int .i64 b1,.int .i64 b2] 132)=wb:=⟨_,rfl⟩
  have s1:w1.heap.size=w.heap.size+1:=by rw[←hw1];simp
  have k1:Keep Never w w1:=by rw[←hw1];exact(Keep.refl _ _).alloc _
  have k2:Keep Never w1 w2:=by rw[←hw2];exact(Keep.refl _ _).alloc _
  have b1':=Blk.new w 132 #[.int .i64 a1,.int .i64 a2]
  rw[hw1] at b1'
  have b2':=Blk.new w1 132 #[.int .i64 b1,.int .i64 b2]
  rw[hw2,s1] at b2'
  have HB:Hid (Blk w2 w.heap.size 132 #[.int .i64 a1,.int .i64 a2]∧Blk w2 (w.heap.size+1) 132 #[.int .i64 b1,.int .i64 b2]):=qh ⟨b1'.keep k2 (fun h=>h),b2'⟩
  have HK:=qh (k1.trans k2)
  have HS:=qh (hs.keep HK.out (fun _ h=>h.elim))
  have HLn:Hid (n=l.length):=qh hs.len
  clear k1 k2 b1' b2' hs
  go_enter Tryz.func109, Tryz.ntmps109
  go_wp2_with fail
  go_loopw [7] (fun i wr=>∃k:Nat,k≤n∧i=.int .i64 k∧Hid (Keep Never w2 wr∧joinB (l.take k) (a1,a2) (b1,b2)=false)) (fun i _=>n - (intOf i).toNat)
  case atStart=>exact⟨0,by omega,rfl,qh ⟨Keep.refl _ _,rfl⟩⟩
  case round=>
   obtain⟨k,hk,rfl,HH⟩:=hrel
   by_cases h0:k<n
   ·have hkz:(k:Int)<(n:Int):=by omega
    obtain⟨ad,s,hA,hab,hs,c0,c1,c2,c3⟩:=jt_at (HS.out.keep HH.out.1 (fun _ h=>h.elim)) h0
    subst hA
    obtain⟨⟨x1,x2⟩,x3,x4⟩:=s
    simp only at c0 c1 c2 c3
    have y0:=(HB.out.1.keep HH.out.1 (fun h=>h)).cell 0
    have y1:=(HB.out.1.keep HH.out.1 (fun h=>h)).cell 1
    have y2:=(HB.out.2.keep HH.out.1 (fun h=>h)).cell 0
    have y3:=(HB.out.2.keep HH.out.1 (fun h=>h)).cell 1
    have HT:Hid (l.take (k+1)=l.take k++[((x1,x2),(x3,x4))]):=qh (by
     obtain⟨h2,h3⟩:=List.getElem?_eq_some_iff.1 hs
     rw[List.take_succ_eq_append_getElem h2,h3])
    have HSk:=qh hs
    clear hs hab
    go_wp2_with fail
    rcases Bool.eq_false_or_eq_true (sameE x1 x2 a1 a2) with t1 | t1
    ·rcases Bool.eq_false_or_eq_true (sameE x3 x4 b1 b2) with t2 | t2
     ·have HF:Hid (joinB l (a1,a2) (b1,b2)=true):=qh (joinB_le (k:=k+1) (by rw[HT.out];exact joinB_snoc_t (.inl ⟨t1,t2⟩)))
      go_quiet (fail)
      go_wp2_with fail
      go_ret
      exact⟨by rw[HF.out];rfl,(HK.out.trans HH.out.1).drewN _⟩
     ·rcases Bool.eq_false_or_eq_true (sameE x1 x2 b1 b2) with t3 | t3
      ·rcases Bool.eq_false_or_eq_true (sameE x3 x4 a1 a2) with t4 | t4
       ·have HF:Hid (joinB l (a1,a2) (b1,b2)=true):=qh (joinB_le (k:=k+1) (by rw[HT.out];exact joinB_snoc_t (.inr ⟨t3,t4⟩)))
        go_quiet (fail)
        go_wp2_with fail
        go_ret
        exact⟨by rw[HF.out];rfl,(HK.out.trans HH.out.1).drewN _⟩
       ·have HF:Hid (joinB (l.take (k+1)) (a1,a2) (b1,b2)=false):=qh (by rw[HT.out];exact joinB_snoc_f HH.out.2 (.inr t2) (.inr t4))
        go_quiet (fail)
        go_wp2_with fail
        refine⟨⟨k+1,by omega,by go_num,qh ⟨HH.out.1.drewN _,HF.out⟩⟩,?_⟩
        simp[intOf];try omega
      ·have HF:Hid (joinB (l.take (k+1)) (a1,a2) (b1,b2)=false):=qh (by rw[HT.out];exact joinB_snoc_f HH.out.2 (.inr t2) (.inl t3))
       go_quiet (fail)
       go_wp2_with fail
       refine⟨⟨k+1,by omega,by go_num,qh ⟨HH.out.1.drewN _,HF.out⟩⟩,?_⟩
       simp[intOf];try omega
    ·rcases Bool.eq_false_or_eq_true (sameE x1 x2 b1 b2) with t3 | t3
     ·rcases Bool.eq_false_or_eq_true (sameE x3 x4 a1 a2) with t4 | t4
      ·have HF:Hid (joinB l (a1,a2) (b1,b2)=true):=qh (joinB_le (k:=k+1) (by rw[HT.out];exact joinB_snoc_t (.inr ⟨t3,t4⟩)))
       go_quiet (fail)
       go_wp2_with fail
       go_ret
       exact⟨by rw[HF.out];rfl,(HK.out.trans HH.out.1).drewN _⟩
      ·have HF:Hid (joinB (l.take (k+1)) (a1,a2) (b1,b2)=false):=qh (by rw[HT.out];exact joinB_snoc_f HH.out.2 (.inl t1) (.inr t4))
       go_quiet (fail)
       go_wp2_with fail
       refine⟨⟨k+1,by omega,by go_num,qh ⟨HH.out.1.drewN _,HF.out⟩⟩,?_⟩
       simp[intOf];try omega
     ·have HF:Hid (joinB (l.take (k+1)) (a1,a2) (b1,b2)=false):=qh (by rw[HT.out];exact joinB_snoc_f HH.out.2 (.inl t1) (.inl t3))
      go_quiet (fail)
      go_wp2_with fail
      refine⟨⟨k+1,by omega,by go_num,qh ⟨HH.out.1.drewN _,HF.out⟩⟩,?_⟩
      simp[intOf];try omega
   ·obtain rfl:k=n:=by omega
    have hkz:¬(k:Int)<(k:Int):=by omega
    have HE:Hid (joinB l (a1,a2) (b1,b2)=false):=qh (by have:=HH.out.2;rwa [List.take_of_length_le (by rw[HLn.out];exact Nat.le_refl _)] at this)
    go_wp2_with fail
    go_ret
    exact⟨by rw[HE.out];rfl,HK.out.trans HH.out.1⟩
end Go.Proofs.YtpapiojicbbheaaGreatDoor

namespace Go.Proofs.YtpapiojicbbheaaGreatDoor
theorem NormOf.self {l:List Sp} (h:NormalS l):NormOf l l:=⟨h,fun _ _=>rfl⟩
end Go.Proofs.YtpapiojicbbheaaGreatDoor

namespace Go.Proofs.YtpapiojicbbheaaGreatDoor
open Go.RowKit
set_option maxHeartbeats 4000000 in
set_option maxRecDepth 100000 in
theorem rmayj_any (x:TA) (t:Tp) (B:Nat) (a b:Stp) (w:World) (ht:TpAt w B x t) (hn:x.nj≤100000000) :
    Calls Tryz.prog 52 #[.agg x.cs,.agg #[.int .i64 a.1,.bool a.2],.agg #[.int .i64 b.1,.bool b.2]] w fun e w'=>e=.returned (.bool (mayJ t.2.1 a b))∧Keep Never w w':=by
  have HJ:Hid (∀w',Keep Never w w'→Calls Tryz.prog 109 #[.slice x.Aj x.nj x.cj,.agg #[.int .i64 (outE a).1,.int .i64 (outE a).2],.agg #[.int .i64 (inE b).1,.int .i64 (inE b).2]] w' fun e w''=>e=.returned (.bool (joinB t.2.1 (outE a) (inE b)))∧Keep Never w' w''):=qh (fun w' h=>rjoined_any x.Aj x.nj x.cj B t.2.1 (outE a) (inE b) w' (ht.keep h).j hn)
  have HO:=qh (fun W=>rout_any a W)
  have HI:=qh (fun W=>rin_any b W)
  obtain⟨Ae,ne,ce,Aj,nj,cj,Ab,nb,cb,Ar,nr,cr⟩:=x
  simp only[TA.cs] at HJ ⊢
  have HMy:Hid (mayJ t.2.1 a b=joinB t.2.1 (outE a) (inE b)):=qh rfl
  obtain⟨a1,a2⟩:=a
  obtain⟨b1,b2⟩:=b
  generalize outE (a1,a2)=oa at *
  generalize inE (b1,b2)=ib at *
  obtain⟨oa1,oa2⟩:=oa
  obtain⟨ib1,ib2⟩:=ib
  simp only at HJ HO HI HMy ⊢
  obtain⟨w1,hw1⟩:∃wb:World,w.alloc (.cells #[.slice Ae ne ce,.slice Aj nj cj,.slice Ab nb cb,.slice Ar nr cr] 27)=wb:=⟨_,rfl⟩
  obtain⟨w2,hw2⟩:∃wb:World,w1.alloc (.cells #[.int .i64 a1,.bool a2] 30)=wb:=⟨_,rfl⟩
  obtain⟨w3,hw3⟩:∃wb:World,w2.alloc (.cells #[.int .i64 b1,.bool b2] 30)=wb:=⟨_,rfl⟩
  have s1:w1.heap.size=w.heap.size+1:=by rw[←hw1];simp
  have s2:w2.heap.size=w.heap.size+1+1:=by rw[←hw2,←s1];simp
  have k1:Keep Never w w1:=by rw[←hw1];exact(Keep.refl _ _).alloc _
  have k2:Keep Never w1 w2:=by rw[←hw2];exact(Keep.refl _ _).alloc _
  have k3:Keep Never w2 w3:=by rw[←hw3];exact(Keep.refl _ _).alloc _
  have b1':=Blk.new w 27 #[.slice Ae ne ce,.slice Aj nj cj,.slice Ab nb cb,.slice Ar nr cr]
  rw[hw1] at b1'
  have b2':=Blk.new w1 30 #[.int .i64 a1,.bool a2]
  rw[hw2,s1] at b2'
  have b3':=Blk.new w2 30 #[.int .i64 b1,.bool b2]
  rw[hw3,s2] at b3'
  have HK:=qh ((k1.trans k2).trans k3)
  have HB1:=(b1'.keep k2 (fun h=>h)).keep k3 (fun h=>h)
  have HB2:=b2'.keep k3 (fun h=>h)
  obtain⟨y0,y1,y2,y3⟩:=bc4 HB1
  obtain⟨y4,y5⟩:=bc2 HB2
  obtain⟨y6,y7⟩:=bc2 (b3')
  clear k1 k2 k3 b1' b2' b3' HB1 HB2
  go_enter Tryz.func52, Tryz.ntmps52
  go_wp2_with fail
  go_region_held3 (fun w'=>Keep Never w3 w'∧w'.cell? ⟨w.heap.size,0,none⟩=some (.slice Ae ne ce)∧w'.cell? ⟨w.heap.size,1,none⟩=some (.slice Aj nj cj)∧w'.cell? ⟨w.heap.size,2,none⟩=some (.slice Ab nb cb)∧w'.cell? ⟨w.heap.size,3,none⟩=some (.slice Ar nr cr)∧w'.cell? ⟨w.heap.size+1,0,none⟩=some (.int .i64 a1)∧w'.cell? ⟨w.heap.size+1,1,none⟩=some (.bool a2)∧w'.cell? ⟨w.heap.size+1+1,0,none⟩=some (.int .i64 b1)∧w'.cell? ⟨w.heap.size+1+1,1,none⟩=some (.bool b2))
    (first| assumption | exact⟨(Keep.refl Never w3).drew,y0,y1,y2,y3,y4,y5,y6,y7⟩ | exact held8_next (by assumption) hk')
    (first
      | (go_at_call 112; refine(HO.out _).mono ?_;rintro e w' ⟨rfl,hk'⟩)
      | (go_at_call 113; refine(HI.out _).mono ?_;rintro e w' ⟨rfl,hk'⟩)
      | (go_at_call 109; refine(HJ.out _ (HK.out.trans (by first | exact(Keep.refl Never w3).drew | exact And.left (by assumption)))).mono ?_;rintro e w' ⟨rfl,hk'⟩))
  all_goals
   rename_i hS
   have HKe:=qh (HK.out.trans (And.left hS))
   clear hS
   go_wp2_with fail
   go_ret
   exact⟨by rw[HMy.out];rfl,HKe.out⟩
end Go.Proofs.YtpapiojicbbheaaGreatDoor

namespace Go.Proofs.YtpapiojicbbheaaGreatDoor
open Go.RowKit
theorem held5_next {W0 w w':World}{a b c d e:Addr}{ua ub uc ud ue:Value} (H:Keep Never W0 w∧w.cell? a=some ua∧w.cell? b=some ub∧w.cell? c=some uc∧w.cell? d=some ud∧w.cell? e=some ue) (hk:Keep Never w w') :
    Keep Never W0 w'∧w'.cell? a=some ua∧w'.cell? b=some ub∧w'.cell? c=some uc∧w'.cell? d=some ud∧w'.cell? e=some ue:=
  ⟨H.1.trans hk,keepT hk H.2.1,keepT hk H.2.2.1,keepT hk H.2.2.2.1,keepT hk H.2.2.2.2.1,keepT hk H.2.2.2.2.2⟩
set_option maxHeartbeats 4000000 in
set_option maxRecDepth 100000 in
theorem rlength_any (x:TA) (t:Tp) (B:Nat) (A:Option Addr) (n c:Nat) (p:List Stp) (w:World) (ht:TpAt w B x t) (hp:repStp.Sl w B A n c p) (hn:x.nj≤100000000) (hn2:n≤100000000) :
    Calls Tryz.prog 130 #[.agg x.cs,.slice A n c] w fun e w'=>e=.returned (.tuple #[.int .i64 (lenM t p).1,.int .i64 (lenM t p).2])∧Keep Never w w':=by
  have HM:Hid (∀(a b:Stp) (w':World),Keep Never w w'→Calls Tryz.prog 52 #[.agg x.cs,.agg #[.int .i64 a.1,.bool a.2],.agg #[.int .i64 b.1,.bool b.2]] w' fun e w''=>e=.returned (.bool (mayJ t.2.1 a b))∧Keep Never w' w''):=qh (fun a b w' h=>rmayj_any x t B a b w' (ht.keep h) hn)
  have HT:=qh (fun i W=>redge_any x i W)
  have HE:=qh ht.e
  have HPl:Hid (n=p.length):=qh hp.len
  have HEl:Hid (x.ne=t.1.length):=qh ht.e.len
  obtain⟨Ae,ne,ce,Aj,nj,cj,Ab,nb,cb,Ar,nr,cr⟩:=x
  simp only[TA.cs] at HM HT HE HEl ⊢
  obtain⟨wb,hwb⟩:∃wb:World,w.alloc (.cells #[.slice Ae ne ce,.slice Aj nj cj,.slice Ab nb cb,.slice Ar nr cr] 27)=wb:=⟨_,rfl⟩
  have k1:Keep Never w wb:=by rw[←hwb];exact(Keep.refl _ _).alloc _
  have b1':=Blk.new w 27 #[.slice Ae ne ce,.slice Aj nj cj,.slice Ab nb cb,.slice Ar nr cr]
  rw[hwb] at b1'
  have HB:=qh b1'
  have HK:=qh k1
  have HP:=qh (hp.keep k1 (fun _ h=>h.elim))
  have HEb:=qh (HE.out.keep k1 (fun _ h=>h.elim))
  clear k1 b1' hp ht HE
  by_cases hz:n=0∨40<n
  ·have HF:Hid (lenM t p=(0,1)):=qh (by unfold lenM;rw[if_pos (by rw[←HPl.out];exact hz)])
   rw[HF.out]
   by_cases h0:n=0
   ·have t0:((n:Int)==0)=true:=by simp[h0]
    clear hz h0
    go_enter Tryz.func130, Tryz.ntmps130
    go_wp2_with fail
    go_ret2
    exact⟨rfl,HK.out⟩
   ·have t0:((n:Int)==0)=false:=by simp;omega
    have t1:decide ((n:Int)>40)=true:=by simp;omega
    clear hz h0
    go_enter Tryz.func130, Tryz.ntmps130
    go_wp2_with fail
    go_ret2
    exact⟨rfl,HK.out⟩
  ·have t0:((n:Int)==0)=false:=by simp;omega
   have t1:decide ((n:Int)>40)=false:=by simp;omega
   have HNz:=qh hz
   clear hz
   go_enter Tryz.func130, Tryz.ntmps130
   go_wp2_with fail
   go_loopw [6,7,8] (fun sv i _ wr=>∃k:Nat,k≤n∧i=.int .i64 k∧sv=.int .i64 (sumM t.1 (p.take k))∧Hid (Keep Never wb wr∧∀s∈p.take k,thereB ne s.1=true)) (fun _ i _ _=>n - (intOf i).toNat)
   case atStart=>exact⟨0,by omega,rfl,rfl,qh ⟨Keep.refl _ _,by simp⟩⟩
   case round=>
    obtain⟨k,hk,rfl,rfl,HH⟩:=hrel
    by_cases h0:k<n
    ·have hkz:(k:Int)<(n:Int):=by omega
     obtain⟨ad,s,hA,hab,hs,c0,c1,_⟩:=stp_at (HP.out.keep HH.out.1 (fun _ h=>h.elim)) h0
     subst hA
     obtain⟨s1,s2⟩:=s
     simp only at c0 c1
     have HSm:Hid (sumM t.1 (p.take (k+1))=IntKind.i64.wrap (sumM t.1 (p.take k)+t.1.getD s1.toNat 0)):=qh (sumM_take hs)
     have HSk:=qh hs
     have HTk:Hid (p.take (k+1)=p.take k++[(s1,s2)]):=qh (by
      obtain⟨h2,h3⟩:=List.getElem?_eq_some_iff.1 hs
      rw[List.take_succ_eq_append_getElem h2,h3])
     generalize sumM t.1 (p.take k)=S at *
     have HK2:=qh HH.out.1
     have HAl:=qh HH.out.2
     have hbb:=HB.out.keep HK2.out (fun h=>h)
     obtain⟨y0,y1,y2,y3⟩:=bc4 hbb
     have HTs:=qh (fun W=>HT.out s1 W)
     cases htb:thereB ne s1 with
     | false=>
      have HF:Hid (lenM t p=(0,1)):=qh (by
       unfold lenM
       rw[if_neg (by rw[←HPl.out];exact HNz.out),if_neg]
       rw[List.all_eq_true]
       intro h
       have:=h _ (List.mem_of_getElem? HSk.out)
       rw[←HEl.out,htb] at this
       cases this)
      have HTf:Hid (∀W:World,Calls Tryz.prog 110 #[.agg #[.slice Ae ne ce,.slice Aj nj cj,.slice Ab nb cb,.slice Ar nr cr],.int .i64 s1] W fun e w'=>e=.returned (.bool false)∧Keep Never W w'):=by have h:=HTs.out;rw[htb] at h;exact h
      clear hs hab hbb HTs htb HSm
      go_wp2_with fail
      go_region_held3 (fun w'=>Keep Never wr w'∧w'.cell? ⟨w.heap.size,0,none⟩=some (.slice Ae ne ce)∧w'.cell? ⟨w.heap.size,1,none⟩=some (.slice Aj nj cj)∧w'.cell? ⟨w.heap.size,2,none⟩=some (.slice Ab nb cb)∧w'.cell? ⟨w.heap.size,3,none⟩=some (.slice Ar nr cr)∧w'.cell? (ad.add (k*2))=some (.int .i64 s1))
        (first| assumption | exact⟨(Keep.refl Never wr).drew,y0,y1,y2,y3,c0⟩ | exact held5_next (by assumption) hk')
        (first
          | (go_at_call 110; refine(HTf.out _).mono ?_;rintro e w' ⟨rfl,hk'⟩))
      rename_i hS
      have HK3:=qh (HK2.out.trans (And.left hS))
      clear hS
      go_wp2_with fail
      go_ret2
      exact⟨by rw[HF.out];rfl,HK.out.trans HK3.out⟩
     | true=>
      have HTf:Hid (∀W:World,Calls Tryz.prog 110 #[.agg #[.slice Ae ne ce,.slice Aj nj cj,.slice Ab nb cb,.slice Ar nr cr],.int .i64 s1] W fun e w'=>e=.returned (.bool true)∧Keep Never W w'):=by have h:=HTs.out;rw[htb] at h;exact h
      have HTb:=qh htb
      unfold thereB at htb
      rw[Bool.and_eq_true,decide_eq_true_eq,decide_eq_true_eq] at htb
      obtain⟨j,rfl⟩:∃j:Nat,s1=(j:Int):=⟨s1.toNat,by omega⟩
      have hj:j<ne:=by omega
      obtain⟨ad2,v,hA2,hab2,hv,g0⟩:=(int_rd (HEb.out.keep HK2.out (fun _ h=>h.elim))).at1 hj
      subst hA2
      have HSm2:Hid (sumM t.1 (p.take (k+1))=IntKind.i64.wrap (S+v)):=qh (by rw[HSm.out];congr 2;rw[List.getD_eq_getElem?_getD,Int.toNat_natCast,hv];rfl)
      have hjz:(j:Int)<(ne:Int):=by omega
      have hj0:(0:Int)≤(j:Int):=by omega
      have HG:=qh g0
      clear hs hab hbb HTs htb HSm hv hab2 g0
      go_wp2_with fail
      go_region_held3 (fun w'=>Keep Never wr w'∧w'.cell? ⟨w.heap.size,0,none⟩=some (.slice (some ad2) ne ce)∧w'.cell? ⟨w.heap.size,1,none⟩=some (.slice Aj nj cj)∧w'.cell? ⟨w.heap.size,2,none⟩=some (.slice Ab nb cb)∧w'.cell? ⟨w.heap.size,3,none⟩=some (.slice Ar nr cr)∧w'.cell? (ad.add (k*2))=some (.int .i64 (j:Int)))
        (first| assumption | exact⟨(Keep.refl Never wr).drew,y0,y1,y2,y3,c0⟩ | exact held5_next (by assumption) hk')
        (first
          | (go_at_call 110; refine(HTf.out _).mono ?_;rintro e w' ⟨rfl,hk'⟩))
      rename_i hS
      have HK3:=qh (HK2.out.trans (And.left hS))
      have x0:=keepT (And.left hS) y0
      have x2:=keepT (And.left hS) HG.out
      have x3:=keepT (And.left hS) c0
      clear hS y0 y1 y2 y3 c0 c1
      go_wp2_with fail
      go_quiet (fail)
      go_wp2_with fail
      refine⟨⟨k+1,by omega,by go_num,by rw[HSm2.out,IntWalk.i64_left],qh ⟨HK3.out.drewN _,fun s hs=>?_⟩⟩,?_⟩
      ·rw[HTk.out,List.mem_append,List.mem_singleton] at hs
       rcases hs with hs | rfl
       ·exact HAl.out s hs
       ·exact HTb.out
      ·simp[intOf];try omega
    ·obtain rfl:k=n:=by omega
     have hkz:¬(k:Int)<(k:Int):=by omega
     have HTk:Hid (p.take k=p):=qh (List.take_of_length_le (by rw[HPl.out];exact Nat.le_refl _))
     rw[HTk.out] at HH ⊢
     have HAl:Hid (p.all (fun s=>thereB t.1.length s.1)=true):=qh (by
      rw[List.all_eq_true]
      intro s hs
      rw[←HEl.out]
      exact HH.out.2 s hs)
     have hbb:=HB.out.keep HH.out.1 (fun h=>h)
     obtain⟨y0,y1,y2,y3⟩:=bc4 hbb
     have HKr:=qh HH.out.1
     have HF:Hid (lenM t p=if wayM t.2.1 p=true then (sumM t.1 p,0) else (0,141)):=qh (by
      unfold lenM
      rw[if_neg (by rw[←HPl.out];exact HNz.out),if_pos HAl.out])
     generalize sumM t.1 p=S at *
     clear hbb HH hkz y0 y1 y2 y3
     rename World=>wz
     go_wp2_with fail
     go_loopw [9,10] (fun i _ wr=>∃q:Nat,1≤q∧q≤k+1∧i=.int .i64 q∧Hid (Keep Never wb wr∧∀m,m+1<q→m+1<k→okAt t.2.1 p m=true)) (fun i _ _=>k+1 - (intOf i).toNat)
     case atStart=>exact⟨1,by omega,by omega,rfl,qh ⟨HKr.out,fun m h=>by omega⟩⟩
     case round=>
      obtain⟨q,hq1,hq,rfl,HH⟩:=hrel
      by_cases h0:q<k
      ·obtain⟨q0,hq0⟩:∃q0,q=q0+1:=⟨q - 1,by omega⟩
       obtain⟨ad,s,hA,hab,hs,c0,c1,_⟩:=stp_at (HP.out.keep HH.out.1 (fun _ h=>h.elim)) (i:=q0) (by omega)
       obtain⟨ad',u,hA',hab',hu,d0,d1,_⟩:=stp_at (HP.out.keep HH.out.1 (fun _ h=>h.elim)) h0
       subst hA
       obtain rfl:ad=ad':=by injection hA'
       have hqz:(q:Int)<(k:Int):=by omega
       have HOk:Hid (okAt t.2.1 p q0=mayJ t.2.1 s u):=qh (okAt_eq hs (by rw[←hq0];exact hu))
       have hbb:=HB.out.keep HH.out.1 (fun h=>h)
       obtain⟨y0,y1,y2,y3⟩:=bc4 hbb
       have HMa:=qh (HM.out s u)
       obtain⟨s1,s2⟩:=s
       obtain⟨u1,u2⟩:=u
       simp only at c0 c1 d0 d1 HMa
       have HKw:=qh (HK.out.trans HH.out.1)
       have Hq0:=qh hq0
       have z1:q0<k:=by omega
       have z2:(q0:Int)<(k:Int):=by omega
       have z3:(0:Int)≤(q0:Int):=by omega
       have z4:(q:Int) - 1=(q0:Int):=by omega
       have z5:IntKind.i64.wrap ((q:Int) - 1)=(q0:Int):=by rw[z4];exact IntWalk.i64_in _ (by omega)
       have z6:IntKind.i64.wrap (q0:Int)=(q0:Int):=IntWalk.i64_in _ (by omega)
       generalize mayJ t.2.1 (s1,s2) (u1,u2)=mb at HMa HOk
       clear hs hu hab hab' hbb hq0 HM
       go_wp2_with fail
       go_region_held3 (fun w'=>Keep Never wr w'∧w'.cell? ⟨w.heap.size,0,none⟩=some (.slice Ae ne ce)∧w'.cell? ⟨w.heap.size,1,none⟩=some (.slice Aj nj cj)∧w'.cell? ⟨w.heap.size,2,none⟩=some (.slice Ab nb cb)∧w'.cell? ⟨w.heap.size,3,none⟩=some (.slice Ar nr cr)∧w'.cell? (ad.add (q0*2))=some (.int .i64 s1)∧w'.cell? ⟨(ad.add (q0*2)).block,(ad.add (q0*2)).off+1,none⟩=some (.bool s2)∧w'.cell? (ad.add (q*2))=some (.int .i64 u1)∧w'.cell? ⟨(ad.add (q*2)).block,(ad.add (q*2)).off+1,none⟩=some (.bool u2))
         (first| assumption | exact⟨(Keep.refl Never wr).drew,y0,y1,y2,y3,c0,c1,d0,d1⟩ | exact held8_next (by assumption) hk')
         (first
           | (go_at_call 52; refine(HMa.out _ (HKw.out.trans (by first | exact(Keep.refl Never wr).drew | exact And.left (by assumption)))).mono ?_;rintro e w' ⟨rfl,hk'⟩))
       rename_i hS
       have HKe:=qh (HH.out.1.trans (And.left hS))
       have HHo:=qh HH.out.2
       clear hS y0 y1 y2 y3 c0 c1 d0 d1 z1 z2 z3 z4 z5 z6 HMa HH
       cases mb with
       | true=>
        go_wp2_with fail
        refine⟨⟨q+1,by omega,by omega,by go_num,qh ⟨HKe.out,fun m h1 h2=>?_⟩⟩,?_⟩
        ·by_cases hm:m+1<q
         ·exact HHo.out m hm h2
         ·obtain rfl:m=q0:=by have:=Hq0.out;omega
          exact HOk.out
        ·simp[intOf];try omega
       | false=>
        have HF2:Hid (wayM t.2.1 p=false):=qh (wayM_f (k:=q0) (by rw[←Hq0.out,←HPl.out];exact h0) HOk.out)
        go_wp2_with fail
        go_ret2
        exact⟨by rw[HF.out,HF2.out];rfl,HK.out.trans HKe.out⟩
      ·have hqz:¬(q:Int)<(k:Int):=by omega
       have HF2:Hid (wayM t.2.1 p=true):=qh (wayM_t fun m h=>HH.out.2 m (by have:=HPl.out;omega) (by have:=HPl.out;omega))
       go_wp2_with fail
       go_ret2
       exact⟨by rw[HF.out,HF2.out];rfl,HK.out.trans HH.out.1⟩
end Go.Proofs.YtpapiojicbbheaaGreatDoor

namespace Go.Proofs.YtpapiojicbbheaaGreatDoor
def cntL (l:List Sp):Int:=(l.map fun s=>s.2.2 - s.2.1).sum
theorem countP_or {α:Type} (p q:α→Bool):∀(l:List α),(∀x∈l,¬(p x=true∧q x=true))→l.countP (fun x=>p x || q x)=l.countP p+l.countP q
  | [],_=>rfl
  | x::l,h=>by
   have ih:=countP_or p q l (fun y hy=>h y (by simp[hy]))
   have hx:=h x (by simp)
   simp only[List.countP_cons,ih]
   cases hp:p x <;> cases hq:q x <;> simp[hp,hq] at hx ⊢ <;> omega
theorem countP_span (lo hi:Int) (h0:0≤lo) (h1:lo≤hi):∀N:Nat,(((List.range N).countP fun (k:Nat)=>decide (lo≤(k:Int))&&decide ((k:Int)<hi):Nat):Int)=min hi N - min lo N
  | 0=>by simp;omega
  | N+1=>by
   have ih:=countP_span lo hi h0 h1 N
   rw[List.range_succ,List.countP_append,Int.natCast_add,ih]
   simp only[List.countP_cons,List.countP_nil]
   by_cases hc:lo≤(N:Int)∧(N:Int)<hi
   ·simp[hc.1,hc.2];omega
   ·have:(decide (lo≤(N:Int))&&decide ((N:Int)<hi))=false:=by rw[←not_true_iff,Bool.and_eq_true,decide_eq_true_eq,decide_eq_true_eq];exact hc
    simp[this];omega
def tot (l:List Sp) (N K:Nat):Nat:=((List.range K).map fun (k:Nat)=>(List.range N).countP fun (j:Nat)=>hasL l (k:Int) (j:Int)).sum
theorem sum_add {f g:Nat→Nat}:∀K:Nat,((List.range K).map fun k=>f k+g k).sum=((List.range K).map f).sum+((List.range K).map g).sum
  | 0=>rfl
  | K+1=>by simp only[List.range_succ,List.map_append,List.sum_append,sum_add K,List.map_cons,List.map_nil,List.sum_cons,List.sum_nil];omega
theorem sum_congr {f g:Nat→Nat}:∀K:Nat,(∀k<K,f k=g k)→((List.range K).map f).sum=((List.range K).map g).sum
  | 0,_=>rfl
  | K+1,h=>by
   have:=h K (by omega)
   simp only[List.range_succ,List.map_append,List.sum_append,sum_congr K (fun k hk=>h k (by omega)),List.map_cons,List.map_nil,List.sum_cons,List.sum_nil,this]
theorem sum_one (c d:Nat):∀K:Nat,((List.range K).map fun k=>if k=c then d else 0).sum=if c<K then d else 0
  | 0=>by simp
  | K+1=>by
   simp only[List.range_succ,List.map_append,List.sum_append,sum_one c d K,List.map_cons,List.map_nil,List.sum_cons,List.sum_nil]
   split <;> split <;> split <;> omega
theorem sum_zero:∀K:Nat,((List.range K).map fun _=>0).sum=0
  | 0=>rfl
  | K+1=>by simp only[List.range_succ,List.map_append,List.sum_append,sum_zero K,List.map_cons,List.map_nil,List.sum_cons,List.sum_nil,Nat.add_zero]
theorem tot_cons {s:Sp}{l:List Sp} (h:NormalS (s::l)) {N K:Nat} (hN:1000000≤N) (hK:s.1.toNat<K):(tot (s::l) N K:Int)=s.2.2 - s.2.1+tot l N K:=by
 have hs:=someS_iff.1 (h.1 s (by simp))
 have e1:tot (s::l) N K=((List.range K).map fun (k:Nat)=>(if k=s.1.toNat then (s.2.2 - s.2.1).toNat else 0)+(List.range N).countP fun (j:Nat)=>hasL l (k:Int) (j:Int)).sum:=by
  unfold tot
  refine sum_congr K fun k _=>?_
  have:(fun j:Nat=>hasL (s::l) (k:Int) (j:Int))=fun j:Nat=>hasS s (k:Int) (j:Int) || hasL l (k:Int) (j:Int):=by
   funext j;rw[hasL_cons,h.1 s (by simp),Bool.true_and]
  rw[this,countP_or _ _ _ (fun j _ hj=>by
   have h1:=hasS_iff.1 hj.1
   have h2:=h.behind hj.2
   omega)]
  congr 1
  split
  ·rename_i hk
   have:(fun j:Nat=>hasS s (k:Int) (j:Int))=fun j:Nat=>decide (s.2.1≤(j:Int))&&decide ((j:Int)<s.2.2):=by
    funext j;unfold hasS;rw[decide_eq_true (show s.1=(k:Int) by omega),Bool.true_and]
   rw[this]
   have h2:=countP_span s.2.1 s.2.2 (by omega) (by omega) N
   omega
  ·rename_i hk
   rw[List.countP_eq_zero]
   intro j _
   rw[hasS_iff];omega
 rw[e1,sum_add,sum_one,if_pos hK]
 unfold tot
 omega
theorem tot_cnt {N K:Nat} (hN:1000000≤N):∀{l:List Sp},NormalS l→(∀s∈l,s.1.toNat<K)→(tot l N K:Int)=cntL l
  | [],_,_=>by
   have:tot [] N K=0:=by
    unfold tot
    rw[sum_congr (g:=fun _=>0) K (fun k _=>by rw[List.countP_eq_zero];intro j _;simp[hasL_nil])]
    exact sum_zero K
   rw[this];rfl
  | s::l,h,hK=>by
   rw[tot_cons h hN (hK s (by simp)),tot_cnt hN h.tail (fun t ht=>hK t (by simp[ht]))]
   simp[cntL]
theorem edge_bound:∀l:List Sp,∃K:Nat,∀s∈l,s.1.toNat<K
  | []=>⟨0,by simp⟩
  | s::l=>by
   obtain⟨K,hK⟩:=edge_bound l
   refine⟨max K (s.1.toNat+1),fun t ht=>?_⟩
   rcases List.mem_cons.1 ht with rfl | ht
   ·omega
   ·have:=hK t ht;omega
theorem cnt_parts {a c m:List Sp} (ha:NormalS a) (hc:NormalS c) (hm:NormalS m) (h:∀e x,hasL a e x=(hasL c e x || hasL m e x)) (hd:∀e x,¬(hasL c e x=true∧hasL m e x=true)):cntL c+cntL m=cntL a:=by
 obtain⟨K1,h1⟩:=edge_bound a
 obtain⟨K2,h2⟩:=edge_bound c
 obtain⟨K3,h3⟩:=edge_bound m
 obtain⟨N,hN⟩:∃N:Nat,1000000≤N:=⟨1000000,Nat.le_refl _⟩
 have t1:=tot_cnt (K:=max K1 (max K2 K3)) hN ha (fun s hs=>by have:=h1 s hs;omega)
 have t2:=tot_cnt (K:=max K1 (max K2 K3)) hN hc (fun s hs=>by have:=h2 s hs;omega)
 have t3:=tot_cnt (K:=max K1 (max K2 K3)) hN hm (fun s hs=>by have:=h3 s hs;omega)
 have:tot a N (max K1 (max K2 K3))=tot c N (max K1 (max K2 K3))+tot m N (max K1 (max K2 K3)):=by
  unfold tot
  rw[←sum_add]
  refine sum_congr _ fun k _=>?_
  have:(fun j:Nat=>hasL a (k:Int) (j:Int))=fun j:Nat=>hasL c (k:Int) (j:Int) || hasL m (k:Int) (j:Int):=by funext j;exact h _ _
  rw[this,countP_or _ _ _ (fun j _=>hd _ _)]
 omega
theorem cntL_range {l:List Sp} (h:NormalS l):0≤cntL l∧cntL l≤1000000*l.length:=by
 induction l with
 | nil=>simp[cntL]
 | cons s l ih=>
  have h1:=ih h.tail
  have h2:=someS_iff.1 (h.1 s (by simp))
  simp only[cntL,List.map_cons,List.sum_cons,List.length_cons] at h1 ⊢
  omega
def withM:List Int→Int→List Int
  | [],n=>[n]
  | x::l,n=>if x=n then x::l else if n<x then n::x::l else x::withM l n
theorem withM_mem:∀(l:List Int) (n x:Int),x∈withM l n↔x∈l∨x=n
  | [],n,x=>by simp[withM]
  | y::l,n,x=>by
   unfold withM
   split
   ·rename_i h;subst h;simp only[List.mem_cons];constructor
    ·intro h;exact .inl h
    ·rintro(h | h)
     ·exact h
     ·exact .inl h
   ·split
    ·simp only[List.mem_cons];constructor
     ·rintro(h | h | h)
      ·exact .inr h
      ·exact .inl (.inl h)
      ·exact .inl (.inr h)
     ·rintro((h | h) | h)
      ·exact .inr (.inl h)
      ·exact .inr (.inr h)
      ·exact .inl h
    ·rw[List.mem_cons,withM_mem l n x,List.mem_cons,or_assoc]
theorem withM_rise:∀{l:List Int}{n:Int},l.Pairwise (· < ·)→(withM l n).Pairwise (· < ·)
  | [],n,_=>by simp[withM]
  | y::l,n,h=>by
   have hc:=List.pairwise_cons.1 h
   unfold withM
   split
   ·exact h
   ·split
    ·rename_i h1 h2
     rw[List.pairwise_cons]
     refine⟨fun x hx=>?_,h⟩
     rcases List.mem_cons.1 hx with rfl | hx
     ·exact h2
     ·have:=hc.1 x hx;omega
    ·rename_i h1 h2
     rw[List.pairwise_cons]
     refine⟨fun x hx=>?_,withM_rise hc.2⟩
     rcases (withM_mem _ _ _).1 hx with hx | rfl
     ·exact hc.1 x hx
     ·omega
theorem withM_len (l:List Int) (n:Int):(withM l n).length≤l.length+1:=by
 induction l with
 | nil=>simp[withM]
 | cons x l ih=>unfold withM;split <;> (try split) <;> simp <;> omega
def edgesM (all:List Sp):List Int:=all.foldl (fun E s=>withM E s.1) []
def endsM (all:List Sp):List Int:=all.foldl (fun E s=>withM (withM E s.2.1) s.2.2) []
theorem edges_ok:∀(l:List Sp) (E:List Int),E.Pairwise (· < ·)→(l.foldl (fun E s=>withM E s.1) E).Pairwise (· < ·)∧(∀x,x∈l.foldl (fun E s=>withM E s.1) E↔x∈E∨∃s∈l,x=s.1)∧(l.foldl (fun E s=>withM E s.1) E).length≤E.length+l.length
  | [],E,h=>⟨h,by simp,by simp⟩
  | s::l,E,h=>by
   obtain⟨h1,h2,h3⟩:=edges_ok l (withM E s.1) (withM_rise h)
   refine⟨h1,fun x=>?_,?_⟩
   ·rw[List.foldl_cons,h2,withM_mem]
    simp[or_assoc]
   ·have:=withM_len E s.1
    simp only[List.foldl_cons,List.length_cons];omega
theorem ends_ok:∀(l:List Sp) (E:List Int),E.Pairwise (· < ·)→(l.foldl (fun E s=>withM (withM E s.2.1) s.2.2) E).Pairwise (· < ·)∧(∀x,x∈l.foldl (fun E s=>withM (withM E s.2.1) s.2.2) E↔x∈E∨∃s∈l,x=s.2.1∨x=s.2.2)∧(l.foldl (fun E s=>withM (withM E s.2.1) s.2.2) E).length≤E.length+2*l.length
  | [],E,h=>⟨h,by simp,by simp⟩
  | s::l,E,h=>by
   obtain⟨h1,h2,h3⟩:=ends_ok l (withM (withM E s.2.1) s.2.2) (withM_rise (withM_rise h))
   refine⟨h1,fun x=>?_,?_⟩
   ·rw[List.foldl_cons,h2,withM_mem,withM_mem]
    simp[or_assoc]
   ·have:=withM_len E s.2.1
    have:=withM_len (withM E s.2.1) s.2.2
    simp only[List.foldl_cons,List.length_cons];omega
def rowStep (f:Int→Bool) (e p q:Int) (opn:Bool) (out:List Sp):List Sp:=
  if f p=true then (if opn=true then (match out.getLast? with | some t=>out.dropLast++[(t.1,t.2.1,q)] | none=>out) else out++[(e,p,q)]) else out
def rowF (f:Int→Bool) (e:Int):List Int→Bool→List Sp→List Sp
  | p::q::r,opn,out=>rowF f e (q::r) (f p) (rowStep f e p q opn out)
  | _,_,out=>out
def betw (f:Int→Bool) (a:Int):List Int→Bool
  | p::q::r=>(f p&&decide (p≤a)&&decide (a<q)) || betw f a (q::r)
  | _=>false
def ahead (e p:Int) (opn:Bool) (out:List Sp):Prop:=
  if opn=true then ∃l t,out=l++[t]∧t.1=e∧t.2.2=p else ∀t∈out,t.1<e∨(t.1=e∧t.2.2<p)
theorem rowF_ok (f:Int→Bool) (e:Int):∀{ends:List Int}{opn:Bool}{out:List Sp},ends.Pairwise (· < ·)→(∀p∈ends,∀q∈ends,p<q→f p=true→(∀x∈ends,¬(p<x∧x<q))→someS (e,p,q)=true)→NormalS out →
    (match ends with | p::_=>ahead e p opn out | []=>True) →
    NormalS (rowF f e ends opn out)∧(∀e' a,hasL (rowF f e ends opn out) e' a=(hasL out e' a || (decide (e'=e)&&betw f a ends)))∧(∀t∈rowF f e ends opn out,t∈out∨t.1=e)∧(rowF f e ends opn out).length≤out.length+ends.length
  | [],opn,out,_,_,h,_=>⟨h,fun e' a=>by simp[rowF,betw],fun t ht=>.inl ht,by simp[rowF]⟩
  | [p],opn,out,_,_,h,_=>⟨h,fun e' a=>by simp[rowF,betw],fun t ht=>.inl ht,by simp[rowF]⟩
  | p::q::r,opn,out,hr,hsm,h,ha=>by
   have hc:=List.pairwise_cons.1 hr
   have hpq:=hc.1 q (by simp)
   have hsm':∀p'∈q::r,∀q'∈q::r,p'<q'→f p'=true→(∀x∈q::r,¬(p'<x∧x<q'))→someS (e,p',q')=true:=by
    intro p' hp' q' hq' hlt hf hx
    refine hsm p' (List.mem_cons_of_mem _ hp') q' (List.mem_cons_of_mem _ hq') hlt hf fun x hxm=>?_
    rcases List.mem_cons.1 hxm with rfl | hxm
    ·have:=hc.1 p' hp';omega
    ·exact hx x hxm
   have hone:f p=true→someS (e,p,q)=true:=fun hf=>hsm p (by simp) q (by simp) hpq hf fun x hxm=>by
    rcases List.mem_cons.1 hxm with rfl | hxm
    ·omega
    ·rcases List.mem_cons.1 hxm with rfl | hxm
     ·omega
     ·have:=(List.pairwise_cons.1 hc.2).1 x hxm;omega
   simp only at ha
   
   have hstep:NormalS (rowStep f e p q opn out)∧(∀e' a,hasL (rowStep f e p q opn out) e' a=(hasL out e' a || (decide (e'=e)&&(f p&&decide (p≤a)&&decide (a<q)))))∧ahead e q (f p) (rowStep f e p q opn out)∧(∀t∈rowStep f e p q opn out,t∈out∨t.1=e)∧(rowStep f e p q opn out).length≤out.length+1:=by
    unfold rowStep
    cases hf:f p with
    | false=>
     simp only[Bool.false_eq_true,if_false]
     refine⟨h,fun e' a=>by simp,?_,fun t ht=>.inl ht,by omega⟩
     unfold ahead at ha ⊢
     simp only[Bool.false_eq_true,if_false]
     intro t ht
     cases hopn:opn with
     | false=>
      rw[hopn] at ha
      simp only[Bool.false_eq_true,if_false] at ha
      have:=ha t ht;omega
     | true=>
      rw[hopn] at ha
      simp only[if_true] at ha
      obtain⟨l,t0,rfl,h1,h2⟩:=ha
      rcases List.mem_append.1 ht with ht | ht
      ·have h4:=(List.pairwise_append.1 h.2).2.2 t ht t0 (by simp)
       have h5:=someS_iff.1 (h.1 t0 (by simp))
       unfold sepS at h4;omega
      ·simp at ht;subst ht;omega
    | true=>
     have hs1:=hone hf
     have hs2:=someS_iff.1 hs1
     simp only at hs2
     simp only[if_true]
     cases hopn:opn with
     | false=>
      rw[hopn] at ha
      unfold ahead at ha
      simp only[Bool.false_eq_true,if_false] at ha ⊢
      refine⟨⟨?_,?_⟩,fun e' a=>?_,?_,?_,by simp⟩
      ·intro x hx
       rcases List.mem_append.1 hx with hx | hx
       ·exact h.1 x hx
       ·simp at hx;subst hx;exact hs1
      ·rw[List.pairwise_append]
       refine⟨h.2,by simp,fun x hx y hy=>?_⟩
       simp at hy;subst hy
       exact ha x hx
      ·rw[hasL_app,hasL_cons,hasL_nil,hs1,Bool.or_false]
       congr 1
       apply bool_ext
       simp[hasS]
       omega
      ·unfold ahead;simp only[if_true];exact⟨out,(e,p,q),rfl,rfl,rfl⟩
      ·intro t ht
       rcases List.mem_append.1 ht with ht | ht
       ·exact .inl ht
       ·simp at ht;subst ht;exact .inr rfl
     | true=>
      rw[hopn] at ha
      unfold ahead at ha
      simp only[if_true] at ha ⊢
      obtain⟨l,t,rfl,h1,h2⟩:=ha
      have ht:=someS_iff.1 (h.1 t (by simp))
      have hpw:=List.pairwise_append.1 h.2
      simp only[List.getLast?_append,List.getLast?_singleton,Option.some_or,List.dropLast_concat]
      have hst:someS (t.1,t.2.1,q)=true:=by rw[someS_iff];simp only;omega
      refine⟨⟨?_,?_⟩,fun e' a=>?_,?_,?_,by simp⟩
      ·intro x hx
       rcases List.mem_append.1 hx with hx | hx
       ·exact h.1 x (by simp[hx])
       ·simp at hx;subst hx;exact hst
      ·rw[List.pairwise_append]
       refine⟨hpw.1,by simp,fun x hx y hy=>?_⟩
       simp at hy;subst hy
       exact hpw.2.2 x hx t (by simp)
      ·rw[hasL_app,hasL_app,Bool.or_assoc]
       congr 1
       rw[hasL_cons,hasL_cons,hasL_nil,hst,h.1 t (by simp)]
       apply bool_ext
       simp[hasS]
       omega
      ·unfold ahead;simp only[if_true];exact⟨l,(t.1,t.2.1,q),rfl,h1,rfl⟩
      ·intro x hx
       rcases List.mem_append.1 hx with hx | hx
       ·exact .inl (by simp[hx])
       ·simp at hx;subst hx;exact .inr h1
   obtain⟨s1,s2,s3,s4,s5⟩:=hstep
   obtain⟨i1,i2,i3,i4⟩:=rowF_ok f e (ends:=q::r) (opn:=f p) hc.2 hsm' s1 s3
   rw[show rowF f e (p::q::r) opn out=rowF f e (q::r) (f p) (rowStep f e p q opn out) from rfl]
   refine⟨i1,fun e' a=>?_,fun t ht=>?_,by simp only[List.length_cons] at i4 ⊢;omega⟩
   ·rw[i2,s2,Bool.or_assoc,←Bool.and_or_distrib_left]
    rfl
   ·rcases i3 t ht with h' | h'
    ·exact s4 t h'
    ·exact .inr h'
def formF (g:Int→Int→Bool) (ends:List Int):List Int→List Sp→List Sp
  | [],out=>out
  | e::E,out=>formF g ends E (rowF (g e) e ends false out)
theorem formF_ok (g:Int→Int→Bool) {ends:List Int} (hr:ends.Pairwise (· < ·)) (hsm:∀e,∀p∈ends,∀q∈ends,p<q→g e p=true→(∀x∈ends,¬(p<x∧x<q))→someS (e,p,q)=true):∀{E:List Int}{out:List Sp},E.Pairwise (· < ·)→NormalS out→(∀t∈out,∀e∈E,t.1<e) →
    NormalS (formF g ends E out)∧(∀e a,hasL (formF g ends E out) e a=(hasL out e a || (decide (e∈E)&&betw (g e) a ends)))∧(formF g ends E out).length≤out.length+E.length*ends.length
  | [],out,_,h,_=>⟨h,fun e a=>by simp[formF],by simp[formF]⟩
  | e0::E,out,hE,h,ha=>by
   have hc:=List.pairwise_cons.1 hE
   obtain⟨r1,r2,r3,r4⟩:=rowF_ok (g e0) e0 (opn:=false) hr (hsm e0) h (by
    split
    ·unfold ahead;simp only[Bool.false_eq_true,if_false];intro t ht;exact .inl (ha t ht e0 (by simp))
    ·trivial)
   obtain⟨i1,i2,i3⟩:=formF_ok g hr hsm (E:=E) hc.2 r1 (fun t ht e he=>by
    have:=hc.1 e he
    rcases r3 t ht with h' | h'
    ·exact ha t h' e (by simp[he])
    ·omega)
   refine⟨i1,fun e a=>?_,by rw[List.length_cons,Nat.succ_mul];show (formF g ends E _).length≤_;omega⟩
   show hasL (formF g ends E _) e a=_
   rw[i2,r2,Bool.or_assoc]
   congr 1
   by_cases he:e=e0
   ·subst he
    have:decide (e∈E)=false:=by rw[decide_eq_false_iff_not];intro hm;have:=hc.1 e hm;omega
    simp[this]
   ·simp[he]
def wantB (k:Bool×Bool×Bool) (a b:Bool):Bool:=(k.1&&a&&!b) || (k.2.1&&b&&!a) || (k.2.2&&a&&b)
def FormM (a b:List Sp) (k:Bool×Bool×Bool):List Sp:=formF (fun e p=>wantB k (hasL a e p) (hasL b e p)) (endsM (a++b)) (edgesM (a++b)) []
theorem hasL_alike {l:List Sp}{e p q:Int} (hx:∀s∈l,(s.2.1≤p∨q≤s.2.1)∧(s.2.2≤p∨q≤s.2.2)) {a:Int} (h1:p≤a) (h2:a<q):hasL l e a=hasL l e p:=by
 apply bool_ext
 rw[hasL_iff,hasL_iff]
 constructor
 ·rintro⟨s,hs,h3,h4,h5,h6⟩;have:=hx s hs;exact⟨s,hs,h3,h4,by omega,by omega⟩
 ·rintro⟨s,hs,h3,h4,h5,h6⟩;have:=hx s hs;exact⟨s,hs,h3,h4,by omega,by omega⟩
theorem betw_iff {f:Int→Bool}{a:Int}:∀{l:List Int},l.Pairwise (· < ·)→(betw f a l=true↔∃p∈l,∃q∈l,p<q∧(∀x∈l,¬(p<x∧x<q))∧f p=true∧p≤a∧a<q)
  | [],_=>by simp[betw]
  | [p],_=>by simp[betw]
  | p::q::r,h=>by
   have hc:=List.pairwise_cons.1 h
   rw[betw,Bool.or_eq_true,betw_iff hc.2,Bool.and_eq_true,Bool.and_eq_true,decide_eq_true_eq,decide_eq_true_eq]
   have hpq:=hc.1 q (by simp)
   constructor
   ·rintro(⟨⟨h1,h2⟩,h3⟩ | ⟨p',hp',q',hq',h1,h2,h3⟩)
    ·refine⟨p,by simp,q,by simp,hpq,fun x hx=>?_,h1,h2,h3⟩
     rcases List.mem_cons.1 hx with rfl | hx
     ·omega
     ·rcases List.mem_cons.1 hx with rfl | hx
      ·omega
      ·have:=(List.pairwise_cons.1 hc.2).1 x hx;omega
    ·refine⟨p',List.mem_cons_of_mem _ hp',q',List.mem_cons_of_mem _ hq',h1,fun x hx=>?_,h3⟩
     rcases List.mem_cons.1 hx with rfl | hx
     ·have:=hc.1 p' hp';omega
     ·exact h2 x hx
   ·rintro⟨p',hp',q',hq',h1,h2,h3,h4,h5⟩
    rcases List.mem_cons.1 hp' with rfl | hp'
    ·left
     have hq:q'=q:=by
      rcases List.mem_cons.1 hq' with rfl | hq'
      ·omega
      ·rcases List.mem_cons.1 hq' with rfl | hq'
       ·rfl
       ·have:=h2 q (by simp);have:=(List.pairwise_cons.1 hc.2).1 q' hq';omega
     subst hq
     exact⟨⟨h3,h4⟩,h5⟩
    ·right
     have hq'':q'∈q::r:=by
      rcases List.mem_cons.1 hq' with h' | h'
      ·have:=hc.1 p' hp';omega
      ·exact h'
     exact⟨p',hp',q',hq'',h1,fun x hx=>h2 x (List.mem_cons_of_mem _ hx),h3,h4,h5⟩
theorem neighbours:∀{l:List Int}{a lo hi:Int},l.Pairwise (· < ·)→lo∈l→hi∈l→lo≤a→a<hi→∃p∈l,∃q∈l,p<q∧(∀x∈l,¬(p<x∧x<q))∧p≤a∧a<q
  | [],a,lo,hi,_,h,_,_,_=>by cases h
  | [p],a,lo,hi,_,h1,h2,h3,h4=>by simp at h1 h2;omega
  | p::q::r,a,lo,hi,h,h1,h2,h3,h4=>by
   have hc:=List.pairwise_cons.1 h
   have hpq:=hc.1 q (by simp)
   have hhi:hi∈q::r∨hi=p:=by rcases List.mem_cons.1 h2 with h2 | h2;exact .inr h2;exact .inl h2
   have hlo:p≤lo:=by
    rcases List.mem_cons.1 h1 with rfl | h1
    ·omega
    ·have:=hc.1 lo h1;omega
   by_cases hq:a<q
   ·refine⟨p,by simp,q,by simp,hpq,fun x hx=>?_,by omega,hq⟩
    rcases List.mem_cons.1 hx with rfl | hx
    ·omega
    ·rcases List.mem_cons.1 hx with rfl | hx
     ·omega
     ·have:=(List.pairwise_cons.1 hc.2).1 x hx;omega
   ·obtain⟨p',hp',q',hq',r1,r2,r3⟩:=neighbours (a:=a) (lo:=q) (hi:=hi) hc.2 (by simp) (by rcases hhi with h' | h';exact h';omega) (by omega) h4
    refine⟨p',List.mem_cons_of_mem _ hp',q',List.mem_cons_of_mem _ hq',r1,fun x hx=>?_,r3⟩
    rcases List.mem_cons.1 hx with rfl | hx
    ·have:=hc.1 p' hp';omega
    ·exact r2 x hx
theorem FormM_ok (a b:List Sp) (k:Bool×Bool×Bool):NormalS (FormM a b k)∧(∀e x,hasL (FormM a b k) e x=wantB k (hasL a e x) (hasL b e x))∧(FormM a b k).length≤(a.length+b.length)*(2*(a.length+b.length)):=by
 obtain⟨n1,n2,n3⟩:=ends_ok (a++b) [] List.Pairwise.nil
 obtain⟨d1,d2,d3⟩:=edges_ok (a++b) [] List.Pairwise.nil
 have n1:(endsM (a++b)).Pairwise (· < ·):=n1
 have hwf:wantB k false false=false:=by unfold wantB;simp
 have hend:∀s,s∈a∨s∈b→s.2.1∈endsM (a++b)∧s.2.2∈endsM (a++b):=fun s hs=>⟨(n2 _).2 (.inr ⟨s,List.mem_append.2 hs,.inl rfl⟩),(n2 _).2 (.inr ⟨s,List.mem_append.2 hs,.inr rfl⟩)⟩
 have hedge:∀s,s∈a∨s∈b→s.1∈edgesM (a++b):=fun s hs=>(d2 _).2 (.inr ⟨s,List.mem_append.2 hs,rfl⟩)
 have hgap:∀l:List Sp,(∀s∈l,s∈a∨s∈b)→∀p q:Int,(∀x∈endsM (a++b),¬(p<x∧x<q))→∀s∈l,(s.2.1≤p∨q≤s.2.1)∧(s.2.2≤p∨q≤s.2.2):=by
  intro l hl p q hx s hs
  obtain⟨h1,h2⟩:=hend s (hl s hs)
  have:=hx _ h1
  have:=hx _ h2
  omega
 have hsm:∀e,∀p∈endsM (a++b),∀q∈endsM (a++b),p<q→wantB k (hasL a e p) (hasL b e p)=true→(∀x∈endsM (a++b),¬(p<x∧x<q))→someS (e,p,q)=true:=by
  intro e p _ q _ hpq hw hx
  have hor:hasL a e p=true∨hasL b e p=true:=by
   cases h1:hasL a e p
   ·cases h2:hasL b e p
    ·rw[h1,h2,hwf] at hw;cases hw
    ·simp
   ·simp
  have:∃s,(s∈a∨s∈b)∧someS s=true∧s.1=e∧s.2.1≤p∧p<s.2.2:=by
   rcases hor with h | h
   ·obtain⟨s,hs,r⟩:=hasL_iff.1 h;exact⟨s,.inl hs,r⟩
   ·obtain⟨s,hs,r⟩:=hasL_iff.1 h;exact⟨s,.inr hs,r⟩
  obtain⟨s,hs,h1,h2,h3,h4⟩:=this
  have h5:=someS_iff.1 h1
  have h6:=hx _ (hend s hs).2
  rw[someS_iff];simp only;omega
 obtain⟨r1,r2,r3⟩:=formF_ok (fun e p=>wantB k (hasL a e p) (hasL b e p)) (ends:=endsM (a++b)) n1 hsm (E:=edgesM (a++b)) d1 NormalS.nil (by simp)
 refine⟨r1,fun e x=>?_,?_⟩
 ·unfold FormM
  rw[r2,hasL_nil,Bool.false_or]
  apply bool_ext
  rw[Bool.and_eq_true,decide_eq_true_eq,betw_iff n1]
  constructor
  ·rintro⟨_,p,_,q,_,_,hx,hw,h1,h2⟩
   rw[hasL_alike (hgap a (fun s hs=>.inl hs) p q hx) h1 h2,hasL_alike (hgap b (fun s hs=>.inr hs) p q hx) h1 h2]
   exact hw
  ·intro hw
   have hor:hasL a e x=true∨hasL b e x=true:=by
    cases h1:hasL a e x
    ·cases h2:hasL b e x
     ·rw[h1,h2,hwf] at hw;cases hw
     ·simp
    ·simp
   have:∃s,(s∈a∨s∈b)∧someS s=true∧s.1=e∧s.2.1≤x∧x<s.2.2:=by
    rcases hor with h | h
    ·obtain⟨s,hs,r⟩:=hasL_iff.1 h;exact⟨s,.inl hs,r⟩
    ·obtain⟨s,hs,r⟩:=hasL_iff.1 h;exact⟨s,.inr hs,r⟩
   obtain⟨s,hs,_,h2,h3,h4⟩:=this
   obtain⟨p,hp,q,hq,g1,g2,g3,g4⟩:=neighbours n1 (hend s hs).1 (hend s hs).2 h3 h4
   refine⟨h2 ▸ hedge s hs,p,hp,q,hq,g1,g2,?_,g3,g4⟩
   rw[←hasL_alike (hgap a (fun s hs=>.inl hs) p q g2) g3 g4,←hasL_alike (hgap b (fun s hs=>.inr hs) p q g2) g3 g4]
   exact hw
 ·unfold FormM
  refine Nat.le_trans r3 ?_
  have h1:(edgesM (a++b)).length≤a.length+b.length:=by have:=d3;simp only[List.length_append,List.length_nil] at this;unfold edgesM;omega
  have h2:(endsM (a++b)).length≤2*(a.length+b.length):=by have:=n3;simp only[List.length_append,List.length_nil] at this;unfold endsM;omega
  simp only[List.length_nil,Nat.zero_add]
  exact Nat.mul_le_mul h1 h2
end Go.Proofs.YtpapiojicbbheaaGreatDoor

namespace Go.Proofs.YtpapiojicbbheaaGreatDoor
open Go.RowKit
theorem cntL_take {l:List Sp}{k:Nat}{s:Sp} (h:l[k]?=some s):cntL (l.take (k+1))=cntL (l.take k)+(s.2.2 - s.2.1):=by
 unfold cntL
 rw[List.take_add_one,h]
 simp
theorem NormalS.take {l:List Sp} (h:NormalS l) (k:Nat):NormalS (l.take k):=⟨fun s hs=>h.1 s (List.mem_of_mem_take hs),h.2.sublist (List.take_sublist _ _)⟩
set_option maxHeartbeats 1000000 in
set_option maxRecDepth 100000 in
theorem total_sp (B A1 n1 c1) (a:List Sp) (w:World) (h1:SpAt w B A1 n1 c1 a) (hn1:n1≤1000000000) (hB:B≤w.heap.size) :
    Calls Tryz.prog 34 #[.slice A1 n1 c1] w fun e w'=>∃m,e=.returned (.int .i64 (cntL m))∧NormOf a m∧Keep Never w w':=by
  have HN:=qh (norm_any A1 n1 c1 B a w h1.rd h1.nil h1.cap (by omega) hB)
  have HL:=qh h1.len
  clear h1 hB
  go_enter Tryz.func34, Tryz.ntmps34
  go_wp2_with fail
  refine HN.out.mono ?_
  rintro e w1 ⟨m,A,n,c,rfl,hn,ho,hk,hp,hl⟩
  have HO:=qh ho
  have HK:=qh hk
  have HP:=qh hp
  have Hn:=qh hn
  have hnn:n≤1000000000:=by have:=HL.out;omega
  clear hn ho hk hp hl HN
  go_wp2_with fail
  go_loopw [3,9] (fun s i wr=>∃k:Nat,k≤n∧i=.int .i64 k∧s=.int .i64 (cntL (m.take k))∧Hid (Keep Never w1 wr)) (fun _ i _=>n - (intOf i).toNat)
  case atStart=>exact⟨0,by omega,rfl,rfl,qh (Keep.refl _ _)⟩
  case round=>
   obtain⟨k,hk,rfl,rfl,HH⟩:=hrel
   have hr:=cntL_range (HP.out.1.take k)
   have hlt:(m.take k).length≤n:=by rw[List.length_take];have:=Hn.out;omega
   by_cases h0:k<n
   ·have hkz:(k:Int)<(n:Int):=by omega
    obtain⟨ad,s,hA,_,hs,q0,q1,q2⟩:=(HO.out.rd.keep HH.out (fun _ h=>h.elim)).sp h0
    subst hA
    have HS:Hid (cntL (m.take (k+1))=cntL (m.take k)+(s.2.2 - s.2.1)):=cntL_take hs
    have hsm:=someS_iff.1 (HP.out.1.1 s (List.mem_of_getElem? hs))
    obtain⟨s1,s2,s3⟩:=s
    simp only at q0 q1 q2 HS hsm
    obtain⟨S,hS⟩:∃S,cntL (m.take k)=S:=⟨_,rfl⟩
    rw[hS] at HS hr ⊢
    have hr1:=hr.1
    have hr2:S≤1000000*1000000000:=by have:=hr.2;omega
    obtain⟨p1,p2,p3,p4⟩:=hsm
    have HK':=qh (HH.out.alloc (.cells #[.int .i64 s1,.int .i64 s2,.int .i64 s3] 145))
    clear hs hS hr hlt
    go_wp2_with fail
    go_roundw
    case rel=>exact⟨k+1,by omega,by go_num,by rw[HS.out],HK'⟩
    case measure=>simp[intOf];try omega
   ·obtain rfl:k=n:=by omega
    have hkz:¬(k:Int)<(k:Int):=by omega
    have HT:Hid (m.take k=m):=qh (List.take_of_length_le (by have:=Hn.out;omega))
    rw[HT.out]
    clear hr hlt
    go_wp2_with fail
    go_ret
    exact⟨m,rfl,HP.out,HK.out.trans HH.out⟩
end Go.Proofs.YtpapiojicbbheaaGreatDoor

namespace Go.Proofs.YtpapiojicbbheaaGreatDoor
open Go.RowKit
set_option maxHeartbeats 2000000 in
set_option maxRecDepth 100000 in
theorem same15_any (l m:List Sp) (A A':Option Addr) (n n' c c' B B':Nat) (w:World) (hr:Rd w B 3 A n (spCells l)) (hr':Rd w B' 3 A' n' (spCells m)) (hn:n≤100000000000) (hn':n'≤100000000000) :
    Calls Tryz.prog 33 #[.slice A n c,.slice A' n' c'] w fun e w'=>e=.returned (.bool (decide (l=m)))∧Keep Never w w':=by
  have Hl:=qh hr.sp_len
  have Hm:=qh hr'.sp_len
  have Hr:=qh hr
  have Hr':=qh hr'
  clear hr hr'
  by_cases hne:n=n'
  ·subst hne
   go_enter Tryz.func33, Tryz.ntmps33
   go_wp2_with fail
   go_loopw [5] (fun i wr=>∃k:Nat,k≤n∧i=.int .i64 k∧Hid (Keep Never w wr∧l.take k=m.take k)) (fun i _=>n - (intOf i).toNat)
   case atStart=>exact⟨0,by omega,rfl,Keep.refl _ _,by simp⟩
   case round=>
    obtain⟨k,hk,rfl,HH⟩:=hrel
    by_cases h0:k<n
    ·obtain⟨ad,x,hA,_,hx,c0,c1,c2⟩:=(Hr.out.keep HH.out.1 (fun _ h=>h.elim)).sp h0
     obtain⟨ad',y,hA',_,hy,d0,d1,d2⟩:=(Hr'.out.keep HH.out.1 (fun _ h=>h.elim)).sp h0
     subst hA
     subst hA'
     obtain⟨x1,x2,x3⟩:=x
     obtain⟨y1,y2,y3⟩:=y
     simp only at c0 c1 c2 d0 d1 d2
     have HX:=qh hx
     have HY:=qh hy
     have hki:(k:Int)<(n:Int):=by omega
     have hk00:(0:Int)≤(k:Int):=by omega
     clear hx hy
     have htx:Hid (l.take (k+1)=l.take k++[(x1,x2,x3)]):=by
      obtain⟨h2,h3⟩:=List.getElem?_eq_some_iff.1 HX.out
      show _=_
      rw[List.take_succ_eq_append_getElem h2,h3]
     have hty:Hid (m.take (k+1)=m.take k++[(y1,y2,y3)]):=by
      obtain⟨h2,h3⟩:=List.getElem?_eq_some_iff.1 HY.out
      show _=_
      rw[List.take_succ_eq_append_getElem h2,h3]
     by_cases hxy:x1=y1∧x2=y2∧x3=y3
     ·obtain⟨rfl,rfl,rfl⟩:=hxy
      go_wp2_with fail
      go_quiet (fail)
      go_wp2_with fail
      go_roundw
      case rel=>exact⟨k+1,by omega,by go_num,HH.out.1.drewN _,by rw[htx.out,hty.out,HH.out.2]⟩
      case measure=>simp[intOf];try omega
     ·have hb:(x1==y1)=false∨((x1==y1)=true∧(x2==y2)=false)∨((x1==y1)=true∧(x2==y2)=true∧(x3==y3)=false):=by
       by_cases h:x1=y1
       ·right
        by_cases h2:x2=y2
        ·right;exact⟨by simpa using h,by simpa using h2,by simp;exact fun h'=>hxy ⟨h,h2,h'⟩⟩
        ·left;exact⟨by simpa using h,by simpa using h2⟩
       ·exact .inl (by simpa using h)
      have hne:Hid (decide (l=m)=false):=by
       show _=_
       rw[decide_eq_false_iff_not]
       intro e
       have h1:=HX.out
       rw[e,HY.out] at h1
       injection h1 with h1
       injection h1 with h1 h2
       injection h2 with h2 h3
       exact hxy ⟨h1.symm,h2.symm,h3.symm⟩
      clear hxy
      rcases hb with hb | ⟨hb,hb2⟩ | ⟨hb,hb2,hb3⟩
      all_goals
       go_wp2_with fail
       go_quiet (fail)
       go_wp2_with fail
       go_ret
       exact⟨by rw[hne.out];rfl,HH.out.1.drewN _⟩
    ·obtain rfl:k=n:=by omega
     have he:Hid (decide (l=m)=true):=by
      show _=_
      rw[decide_eq_true_iff]
      have:=HH.out.2
      rwa [List.take_of_length_le (by rw[Hl.out];exact Nat.le_refl _),List.take_of_length_le (by rw[Hm.out];exact Nat.le_refl _)] at this
     go_wp2_with fail
     go_ret
     exact⟨by rw[he.out];rfl,HH.out.1⟩
  ·have he:Hid (decide (l=m)=false):=by
    show _=_
    rw[decide_eq_false_iff_not]
    intro e
    have h1:=Hl.out
    rw[e,Hm.out] at h1
    exact hne h1.symm
   have hb:((n:Int)==(n':Int))=false:=by simp;omega
   clear hne
   go_enter Tryz.func33, Tryz.ntmps33
   go_wp2_with fail
   go_ret
   exact⟨by rw[he.out];rfl,Keep.refl _ _⟩
end Go.Proofs.YtpapiojicbbheaaGreatDoor

namespace Go.Proofs.YtpapiojicbbheaaGreatDoor
open Go.RowKit
set_option maxRecDepth 100000 in
theorem elemInt15:Elem Tryz.prog 22 3 1 8:=⟨Tryz.underlying22, _,_,rfl,rfl,rfl,rfl,rfl,by omega⟩
def iv (x:Int):Value:=.int .i64 x
theorem has_six2 (s:Sp) (e a:Int):(someS s&&hasS s e a)=(decide (s.1≥0)&&decide (s.2.1≥0)&&decide (s.2.2≤1000000)&&(s.1==e)&&decide (s.2.1≤a)&&decide (a<s.2.2)):=by
 apply bool_ext
 simp only[Bool.and_eq_true,someS_iff,hasS_iff,beq_iff_eq,decide_eq_true_eq]
 omega
theorem six (p1 p2 p3 p4 p5 p6:Bool):p1=false∨(p1=true∧p2=false)∨(p1=true∧p2=true∧p3=false)∨(p1=true∧p2=true∧p3=true∧p4=false)∨(p1=true∧p2=true∧p3=true∧p4=true∧p5=false) ∨
    (p1=true∧p2=true∧p3=true∧p4=true∧p5=true∧p6=false)∨(p1=true∧p2=true∧p3=true∧p4=true∧p5=true∧p6=true):=by
  cases p1 <;> cases p2 <;> cases p3 <;> cases p4 <;> cases p5 <;> cases p6 <;> simp
theorem hasL_take {l:List Sp}{k:Nat}{s:Sp} (h:l[k]?=some s) (e a:Int):hasL (l.take (k+1)) e a=(hasL (l.take k) e a || (someS s&&hasS s e a)):=by
 rw[List.take_add_one,h]
 simp[hasL]
theorem hasL_take_le {l:List Sp}{k:Nat}{e a:Int} (h:hasL (l.take k) e a=true):hasL l e a=true:=by
 rw[hasL_iff] at h ⊢
 obtain⟨s,hs,h2⟩:=h
 exact⟨s,List.mem_of_mem_take hs,h2⟩
set_option maxHeartbeats 4000000 in
set_option maxRecDepth 100000 in
theorem rhas_any (A:Option Addr) (n c B:Nat) (l:List Sp) (e a:Int) (w:World) (hr:Rd w B 3 A n (spCells l)) (hn:n≤100000000000) :
    Calls Tryz.prog 212 #[.slice A n c,.int .i64 e,.int .i64 a] w fun en w'=>en=.returned (.bool (hasL l e a))∧Keep Never w w':=by
  have Hr:=qh hr
  have HL:=qh hr.sp_len
  clear hr
  go_enter Tryz.func212, Tryz.ntmps212
  go_wp2_with fail
  go_loopw [7] (fun i wr=>∃k:Nat,k≤n∧i=.int .i64 k∧Hid (Keep Never w wr∧hasL (l.take k) e a=false)) (fun i _=>n - (intOf i).toNat)
  case atStart=>exact⟨0,by omega,rfl,qh ⟨Keep.refl _ _,rfl⟩⟩
  case round=>
   obtain⟨k,hk,rfl,HH⟩:=hrel
   by_cases h0:k<n
   ·obtain⟨ad,s,hA,_,hs,c0,c1,c2⟩:=(Hr.out.keep HH.out.1 (fun _ h=>h.elim)).sp h0
    subst hA
    obtain⟨s1,s2,s3⟩:=s
    simp only at c0 c1 c2
    have hki:(k:Int)<(n:Int):=by omega
    have HT:=qh (hasL_take hs e a)
    have H6:=qh (has_six2 (s1,s2,s3) e a)
    obtain⟨wb,hwb⟩:∃wb:World,wr.alloc (.cells #[.int .i64 s1,.int .i64 s2,.int .i64 s3] 145)=wb:=⟨_,rfl⟩
    have hkb:Keep Never wr wb:=by rw[←hwb];exact(Keep.refl _ _).alloc _
    have hbb:=Blk.new wr 145 #[.int .i64 s1,.int .i64 s2,.int .i64 s3]
    rw[hwb] at hbb
    obtain⟨y0,y1,y2⟩:=bc3 hbb
    have HK:=qh (HH.out.1.trans hkb)
    clear hs hkb hbb
    rcases six (decide (s1≥0)) (decide (s2≥0)) (decide (s3≤1000000)) (s1==e) (decide (s2≤a)) (decide (a<s3)) with g1 | ⟨g1,g2⟩ | ⟨g1,g2,g3⟩ | ⟨g1,g2,g3,g4⟩ | ⟨g1,g2,g3,g4,g5⟩ | ⟨g1,g2,g3,g4,g5,g6⟩ | ⟨g1,g2,g3,g4,g5,g6⟩
    ·have HF:Hid (hasL (l.take (k+1)) e a=false):=qh (by rw[HT.out,HH.out.2,H6.out];simp only[g1];rfl)
     go_wp2_with fail
     refine⟨⟨k+1,by omega,by go_num,qh ⟨HK.out,HF.out⟩⟩,?_⟩
     simp[intOf];try omega
    ·have HF:Hid (hasL (l.take (k+1)) e a=false):=qh (by rw[HT.out,HH.out.2,H6.out];simp only[g1,g2];rfl)
     go_wp2_with fail
     refine⟨⟨k+1,by omega,by go_num,qh ⟨HK.out,HF.out⟩⟩,?_⟩
     simp[intOf];try omega
    ·have HF:Hid (hasL (l.take (k+1)) e a=false):=qh (by rw[HT.out,HH.out.2,H6.out];simp only[g1,g2,g3];rfl)
     go_wp2_with fail
     refine⟨⟨k+1,by omega,by go_num,qh ⟨HK.out,HF.out⟩⟩,?_⟩
     simp[intOf];try omega
    ·have HF:Hid (hasL (l.take (k+1)) e a=false):=qh (by rw[HT.out,HH.out.2,H6.out];simp only[g1,g2,g3,g4];rfl)
     go_wp2_with fail
     refine⟨⟨k+1,by omega,by go_num,qh ⟨HK.out,HF.out⟩⟩,?_⟩
     simp[intOf];try omega
    ·have HF:Hid (hasL (l.take (k+1)) e a=false):=qh (by rw[HT.out,HH.out.2,H6.out];simp only[g1,g2,g3,g4,g5];rfl)
     go_wp2_with fail
     refine⟨⟨k+1,by omega,by go_num,qh ⟨HK.out,HF.out⟩⟩,?_⟩
     simp[intOf];try omega
    ·have HF:Hid (hasL (l.take (k+1)) e a=false):=qh (by rw[HT.out,HH.out.2,H6.out];simp only[g1,g2,g3,g4,g5,g6];rfl)
     go_wp2_with fail
     refine⟨⟨k+1,by omega,by go_num,qh ⟨HK.out,HF.out⟩⟩,?_⟩
     simp[intOf];try omega
    ·have HF:Hid (hasL l e a=true):=qh (hasL_take_le (k:=k+1) (by rw[HT.out,HH.out.2,H6.out];simp only[g1,g2,g3,g4,g5,g6];rfl))
     go_wp2_with fail
     go_ret
     exact⟨by rw[HF.out];rfl,HK.out⟩
   ·obtain rfl:k=n:=by omega
    have hki:¬(k:Int)<(k:Int):=by omega
    have HF:Hid (hasL l e a=false):=qh (by
     have:=HH.out.2
     rwa [List.take_of_length_le (by rw[HL.out];exact Nat.le_refl _)] at this)
    go_wp2_with fail
    go_ret
    exact⟨by rw[HF.out];rfl,HH.out.1⟩
set_option maxHeartbeats 4000000 in
set_option maxRecDepth 100000 in
theorem wanted_any (k:Bool×Bool×Bool) (a b:Bool) (w:World) :
    Calls Tryz.prog 213 #[.agg #[.bool k.1,.bool k.2.1,.bool k.2.2],.bool a,.bool b] w fun e w'=>e=.returned (.bool (wantB k a b))∧Keep Never w w':=by
  obtain⟨k1,k2,k3⟩:=k
  simp only
  obtain⟨wb,hwb⟩:∃wb:World,w.alloc (.cells #[.bool k1,.bool k2,.bool k3] 229)=wb:=⟨_,rfl⟩
  have hkb:Keep Never w wb:=by rw[←hwb];exact(Keep.refl _ _).alloc _
  have hbb:=Blk.new w 229 #[.bool k1,.bool k2,.bool k3]
  rw[hwb] at hbb
  obtain⟨y0,y1,y2⟩:=bc3 hbb
  have HK:=qh hkb
  clear hkb hbb
  cases k1 <;> cases k2 <;> cases k3 <;> cases a <;> cases b
  all_goals
   go_enter Tryz.func213, Tryz.ntmps213
   go_wp2_with fail
   go_ret
   exact⟨rfl,HK.out⟩
set_option maxHeartbeats 4000000 in
set_option maxRecDepth 100000 in
theorem with_any (A:Option Addr) (n c B:Nat) (E:List Int) (x:Int) (w:World) (hr:Rd w B 1 A n (E.map iv)) (hn:n≤1000000) (hB:B≤w.heap.size) :
    Calls Tryz.prog 211 #[.slice A n c,.int .i64 x] w fun en w'=>∃m A' c',en=.returned (.slice A' m c')∧Hid (m=(withM E x).length)∧Own w' w.heap.size 3 1 A' m c' ((withM E x).map iv)∧Keep Never w w':=by
  have Hr:=qh hr
  have HL:Hid (E.length=n):=qh (by have:=hr.1;rw[List.length_map] at this;omega)
  have HB:=qh hB
  clear hr hB
  go_enter Tryz.func211, Tryz.ntmps211
  go_wp2_with fail
  go_loopw [5,6,7] (fun s b i wr=>∃(k no co:Nat) (Ao:Option Addr) (f:Bool),k≤n∧no≤k+1∧i=.int .i64 k∧b=.bool f∧s=.slice Ao no co ∧
    Hid (∃o:List Int,Own wr w.heap.size 3 1 Ao no co (o.map iv)∧no=o.length∧withM E x=o++(if f=true then E.drop k else withM (E.drop k) x)∧(f=false→no≤k)∧Keep Never w wr)) (fun _ _ i _=>n - (intOf i).toNat)
  case atStart=>exact⟨0,0,0,none,false,by omega,by omega,rfl,rfl,rfl,qh ⟨[],Own.nil _ _ _ _,rfl,by simp,fun _=>Nat.le_refl _,Keep.refl _ _⟩⟩
  case round=>
   obtain⟨k,no,co,Ao,f,hk,hno,rfl,rfl,rfl,HH⟩:=hrel
   obtain⟨o,ho,hol,hw,hf,hkeep⟩:=HH.out
   have HO:=qh ho
   have HOL:=qh hol
   have HWm:=qh hw
   have HF:=qh hf
   have HKp:=qh hkeep
   have HW0:Hid (w.heap.size≤wr.heap.size):=qh hkeep.size
   clear ho hol hw hf HH
   by_cases h0:k<n
   ·obtain⟨ad,y,hA,had,hy,c0⟩:=(Hr.out.keep HKp.out (fun _ h=>h.elim)).at1 h0
    subst hA
    have hki:(k:Int)<(n:Int):=by omega
    have HAd:Hid (ad.block<w.heap.size):=qh (by have:=HB.out;omega)
    have HY:Hid (E.drop k=y::E.drop (k+1)):=qh (by
     obtain⟨h1,h2⟩:=List.getElem?_eq_some_iff.1 hy
     rw[←h2]
     exact List.drop_eq_getElem_cons h1)
    unfold iv at c0
    clear hkeep hy had
    have HC4:Hid (∀(v:Int) (w4:World),Keep (InRow Ao) (wr.alloc (.cells #[.int .i64 v] 3)) w4→w4.cell? (ad.add k)=some (.int .i64 y)∧Keep Never w w4):=qh (fun v w4 h=>by
     have ha:Keep Never wr (wr.alloc (.cells #[.int .i64 v] 3)):=(Keep.refl Never wr).alloc _
     refine⟨?_,(HKp.out.trans ha).then_ h (fun i hi hh=>by have:=(HO.out.row hh).1;omega)⟩
     rw[h.cell (by have:=cell_lt c0;have h2:=ha.size;omega) (fun hh=>by have:=(HO.out.row hh).1;have:=HAd.out;rw[block_add] at *;omega),ha.cell (cell_lt c0) (fun hh=>hh)]
     exact c0)
    cases f with
    | true=>
     by_cases hyx:y=x
     ·have t1:(y==x)=true:=by simpa using hyx
      clear hyx
      go_wp2_with (refine wpList_app _ rfl (.tmp 34) (.tmp 39) _ rfl elemInt15 w.heap.size (A:=Ao) (n:=no) (c:=co) (by go_simp) (HO.out.alloc _) _ (A':=some ⟨_,0,none⟩) (m:=1) (c':=1) (news:=[.int .i64 y]) (by go_simp) (Rd.of_blk (n:=1) (cs:=[.int .i64 y]) (Blk.new _ _ _) rfl) (by simp[Value.oneCell']) (by omega) (by unfold maxLen;omega) (by have:=HW0.out;simp;omega) ?_;intro A4 c4 w4 hown4 hk4 hrow4;have HO4:=qh hown4;have HK4:=qh hk4;clear hown4 hk4 hrow4)
      refine⟨⟨k+1,no+1,_,_,true,by omega,by omega,by go_num,rfl,rfl,qh ⟨o++[y],by simpa[iv] using HO4.out,by simp[HOL.out],by rw[HWm.out,HY.out];simp,fun h=>(by cases h),(HC4.out y w4 HK4.out).2⟩⟩,?_⟩
      simp[intOf];try omega
     ·have t1:(y==x)=false:=by simpa using hyx
      clear hyx
      go_wp2_with (refine wpList_app _ rfl (.tmp 34) (.tmp 39) _ rfl elemInt15 w.heap.size (A:=Ao) (n:=no) (c:=co) (by go_simp) (HO.out.alloc _) _ (A':=some ⟨_,0,none⟩) (m:=1) (c':=1) (news:=[.int .i64 y]) (by go_simp) (Rd.of_blk (n:=1) (cs:=[.int .i64 y]) (Blk.new _ _ _) rfl) (by simp[Value.oneCell']) (by omega) (by unfold maxLen;omega) (by have:=HW0.out;simp;omega) ?_;intro A4 c4 w4 hown4 hk4 hrow4;have HO4:=qh hown4;have HK4:=qh hk4;clear hown4 hk4 hrow4)
      refine⟨⟨k+1,no+1,_,_,true,by omega,by omega,by go_num,rfl,rfl,qh ⟨o++[y],by simpa[iv] using HO4.out,by simp[HOL.out],by rw[HWm.out,HY.out];simp,fun h=>(by cases h),(HC4.out y w4 HK4.out).2⟩⟩,?_⟩
      simp[intOf];try omega
    | false=>
     have hnk:=HF.out rfl
     by_cases hyx:y=x
     ·have t1:(y==x)=true:=by simpa using hyx
      have HM:Hid (withM (y::E.drop (k+1)) x=y::E.drop (k+1)):=qh (by unfold withM;rw[if_pos hyx])
      clear hyx
      go_wp2_with (refine wpList_app _ rfl (.tmp 34) (.tmp 39) _ rfl elemInt15 w.heap.size (A:=Ao) (n:=no) (c:=co) (by go_simp) (HO.out.alloc _) _ (A':=some ⟨_,0,none⟩) (m:=1) (c':=1) (news:=[.int .i64 y]) (by go_simp) (Rd.of_blk (n:=1) (cs:=[.int .i64 y]) (Blk.new _ _ _) rfl) (by simp[Value.oneCell']) (by omega) (by unfold maxLen;omega) (by have:=HW0.out;simp;omega) ?_;intro A4 c4 w4 hown4 hk4 hrow4;have HO4:=qh hown4;have HK4:=qh hk4;clear hown4 hk4 hrow4)
      refine⟨⟨k+1,no+1,_,_,true,by omega,by omega,by go_num,rfl,rfl,qh ⟨o++[y],by simpa[iv] using HO4.out,by simp[HOL.out],by rw[HWm.out,HY.out];simp[HM.out],fun h=>(by cases h),(HC4.out y w4 HK4.out).2⟩⟩,?_⟩
      simp[intOf];try omega
     ·have t1:(y==x)=false:=by simpa using hyx
      by_cases hlt:x<y
      ·have t2:decide (y>x)=true:=by simpa using hlt
       have HM:Hid (withM (y::E.drop (k+1)) x=x::y::E.drop (k+1)):=qh (by unfold withM;rw[if_neg hyx,if_pos hlt])
       clear hyx hlt
       go_wp2_with (first| (refine wpList_app _ rfl (.tmp 30) (.tmp 32) _ rfl elemInt15 w.heap.size (A:=Ao) (n:=no) (c:=co) (by go_simp) (HO.out.alloc _) _ (A':=some ⟨_,0,none⟩) (m:=1) (c':=1) (news:=[.int .i64 x]) (by go_simp) (Rd.of_blk (n:=1) (cs:=[.int .i64 x]) (Blk.new _ _ _) rfl) (by simp[Value.oneCell']) (by omega) (by unfold maxLen;omega) (by have:=HW0.out;simp;omega) ?_;intro A4 c4 w4 hown4 hk4 hrow4;have HO4:=qh hown4;have HK4:=qh hk4;clear hown4 hk4 hrow4;have HW4:Hid (w.heap.size≤w4.heap.size):=qh (HC4.out x w4 HK4.out).2.size;have c4':=(HC4.out x w4 HK4.out).1) | (refine wpList_app _ rfl (.tmp 34) (.tmp 39) _ rfl elemInt15 w.heap.size (A:=A4) (n:=(no+1)) (c:=c4) (by go_simp) (HO4.out.alloc _) _ (A':=some ⟨_,0,none⟩) (m:=1) (c':=1) (news:=[.int .i64 y]) (by go_simp) (Rd.of_blk (n:=1) (cs:=[.int .i64 y]) (Blk.new _ _ _) rfl) (by simp[Value.oneCell']) (by omega) (by unfold maxLen;omega) (by have:=HW4.out;simp;omega) ?_;intro A5 c5 w5 hown5 hk5 hrow5;have HO5:=qh hown5;have HK5:=qh hk5;clear hown5 hk5 hrow5))
       refine⟨⟨k+1,no+1+1,_,_,true,by omega,by omega,by go_num,rfl,rfl,qh ⟨o++[x]++[y],by simpa[iv] using HO5.out,by simp[HOL.out],by rw[HWm.out,HY.out];simp[HM.out],fun h=>(by cases h),((HC4.out x w4 HK4.out).2.trans ((Keep.refl Never w4).alloc _)).then_ HK5.out (fun i hi hh=>by have:=(HO4.out.row hh).1;omega)⟩⟩,?_⟩
       simp[intOf];try omega
      ·have t2:decide (y>x)=false:=by simpa using hlt
       have HM:Hid (withM (y::E.drop (k+1)) x=y::withM (E.drop (k+1)) x):=qh (by rw[withM,if_neg hyx,if_neg hlt])
       clear hyx hlt
       go_wp2_with (refine wpList_app _ rfl (.tmp 34) (.tmp 39) _ rfl elemInt15 w.heap.size (A:=Ao) (n:=no) (c:=co) (by go_simp) (HO.out.alloc _) _ (A':=some ⟨_,0,none⟩) (m:=1) (c':=1) (news:=[.int .i64 y]) (by go_simp) (Rd.of_blk (n:=1) (cs:=[.int .i64 y]) (Blk.new _ _ _) rfl) (by simp[Value.oneCell']) (by omega) (by unfold maxLen;omega) (by have:=HW0.out;simp;omega) ?_;intro A4 c4 w4 hown4 hk4 hrow4;have HO4:=qh hown4;have HK4:=qh hk4;clear hown4 hk4 hrow4)
       refine⟨⟨k+1,no+1,_,_,false,by omega,by omega,by go_num,rfl,rfl,qh ⟨o++[y],by simpa[iv] using HO4.out,by simp[HOL.out],by rw[HWm.out,HY.out];simp[HM.out],fun _=>by omega,(HC4.out y w4 HK4.out).2⟩⟩,?_⟩
       simp[intOf];try omega
   ·obtain rfl:k=n:=by omega
    have hki:¬(k:Int)<(k:Int):=by omega
    have HD:Hid (E.drop k=[]):=qh (List.drop_eq_nil_of_le (by rw[HL.out];exact Nat.le_refl _))
    clear hkeep
    cases f with
    | true=>
     have HE:Hid (withM E x=o):=qh (by rw[HWm.out,HD.out];simp)
     go_wp2_with fail
     go_ret
     exact⟨no,Ao,co,rfl,qh (by rw[HE.out,HOL.out]),by rw[HE.out];exact HO.out,HKp.out⟩
    | false=>
     have HE:Hid (withM E x=o++[x]):=qh (by rw[HWm.out,HD.out];rfl)
     go_wp2_with (refine wpList_app _ rfl (.tmp 43) (.tmp 45) _ rfl elemInt15 w.heap.size (A:=Ao) (n:=no) (c:=co) (by go_simp) (HO.out.alloc _) _ (A':=some ⟨_,0,none⟩) (m:=1) (c':=1) (news:=[.int .i64 x]) (by go_simp) (Rd.of_blk (n:=1) (cs:=[.int .i64 x]) (Blk.new _ _ _) rfl) (by simp[Value.oneCell']) (by omega) (by unfold maxLen;omega) (by have:=HW0.out;simp;omega) ?_;intro A4 c4 w4 hown4 hk4 hrow4;have HO4:=qh hown4;have HK4:=qh hk4;clear hown4 hk4 hrow4)
     go_ret
     exact⟨no+1,A4,c4,rfl,qh (by rw[HE.out];simp[HOL.out]),by rw[HE.out];simpa[iv] using HO4.out,(HKp.out.trans ((Keep.refl Never wr).alloc _)).then_ HK4.out (fun i hi hh=>by have:=(HO.out.row hh).1;omega)⟩
end Go.Proofs.YtpapiojicbbheaaGreatDoor

namespace Go.Proofs.YtpapiojicbbheaaGreatDoor
open Go.RowKit
def gF (a b:List Sp) (k:Bool×Bool×Bool):Int→Int→Bool:=fun e p=>wantB k (hasL a e p) (hasL b e p)
theorem edges_take {all:List Sp}{k:Nat}{s:Sp} (h:all[k]?=some s):edgesM (all.take (k+1))=withM (edgesM (all.take k)) s.1:=by
 unfold edgesM
 rw[List.take_add_one,h]
 simp
theorem ends_take {all:List Sp}{k:Nat}{s:Sp} (h:all[k]?=some s):endsM (all.take (k+1))=withM (withM (endsM (all.take k)) s.2.1) s.2.2:=by
 unfold endsM
 rw[List.take_add_one,h]
 simp
set_option maxHeartbeats 8000000 in
set_option maxRecDepth 100000 in
theorem form_big (A1:Option Addr) (n1 c1:Nat) (A2:Option Addr) (n2 c2 B:Nat) (a b:List Sp) (k:Bool×Bool×Bool) (w:World) (h1:SpAt w B A1 n1 c1 a) (h2:SpAt w B A2 n2 c2 b) (hn1:n1≤4000) (hn2:n2≤1000) (hB:B≤w.heap.size) :
    Calls Tryz.prog 185 #[.slice A1 n1 c1,.slice A2 n2 c2,.agg #[.bool k.1,.bool k.2.1,.bool k.2.2]] w fun e w'=>∃m A n c,e=.returned (.slice A n c)∧Hid (n=m.length)∧SpAt w' w'.heap.size A n c m∧Keep Never w w'∧m=FormM a b k:=by
  obtain⟨wb,hwb⟩:∃wb:World,w.alloc (.cells #[.bool k.1,.bool k.2.1,.bool k.2.2] 229)=wb:=⟨_,rfl⟩
  have hkb:Keep Never w wb:=by rw[←hwb];exact(Keep.refl _ _).alloc _
  have hbb:=Blk.new w 229 #[.bool k.1,.bool k.2.1,.bool k.2.2]
  rw[hwb] at hbb
  have HBb:=qh hbb
  have HKb:=qh hkb
  have H1:=qh (h1.keep hkb)
  have H2:=qh (h2.keep hkb)
  have hBb:B≤wb.heap.size:=by have:=hkb.size;omega
  have hl1:a.length=n1:=h1.len
  have hl2:b.length=n2:=h2.len
  have HL1:=qh hl1
  have HL2:=qh hl2
  clear hkb hbb h1 h2 hl1 hl2
  go_enter Tryz.func185, Tryz.ntmps185
  go_wp2_with (first
    | (refine wpList_app _ rfl _ (.tmp 18) _ rfl elemSp wb.heap.size (A:=none) (n:=0) (c:=0) (xs:=[]) (by go_simp) (Own.nil _ _ _ _) B (A':=A1) (m:=n1) (c':=c1) (by go_simp) H1.out.rd (spCells_one _) (by omega) (by unfold maxLen;omega) (Nat.le_refl _) ?_;intro A3 c3 w3 hown3 hk3 hrow3;have HK3:Hid (Keep Never wb w3):=qh (hk3.mono (fun i _ h=>by obtain⟨_,h,_⟩:=h;cases h));have HO3:Hid (Own w3 wb.heap.size 145 3 A3 n1 c3 (spCells a)):=qh (by simpa using hown3);have hsz3:wb.heap.size≤w3.heap.size:=HK3.out.size;have H23:=qh (H2.out.keep HK3.out);clear hown3 hk3 hrow3)
    | (refine wpList_app _ rfl (.tmp 20) (.tmp 21) _ rfl elemSp wb.heap.size (A:=A3) (n:=n1) (c:=c3) (by go_simp) HO3.out B (A':=A2) (m:=n2) (c':=c2) (by go_simp) H23.out.rd (spCells_one _) (by omega) (by unfold maxLen;omega) hsz3 ?_;intro A4 c4 w4 hown4 hk4 hrow4))
  have hk4':Hid (Keep Never w w4):=qh ((HKb.out.trans HK3.out).then_ hk4 (fun i hi h=>by have:=(HO3.out.row h).1;have:=HKb.out.size;omega))
  have hk34:Hid (Keep Never wb w4):=qh (HK3.out.then_ hk4 (fun i hi h=>by have:=(HO3.out.row h).1;omega))
  rw[←spCells_app] at hown4
  obtain⟨N,hN⟩:∃N,n1+n2=N:=⟨_,rfl⟩
  rw[hN] at hown4 ⊢
  have hN2:N≤5000:=by omega
  obtain⟨all,hall⟩:∃l,a++b=l:=⟨_,rfl⟩
  rw[hall] at hown4
  have HAll:=qh hall
  have HO4:=qh hown4
  have HAN:Hid (all.length=N):=qh hown4.rd.sp_len
  have H14:=qh (H1.out.keep hk34.out)
  have H24:=qh (H2.out.keep hk34.out)
  have HB4:=qh (HBb.out.keep hk34.out (fun h=>h))
  clear hk4 hrow4 hown4 hall hN H23 H1 H2 HO3 hsz3 HK3 HBb
  go_loopw [8,9,10] (fun es ns i wr=>∃(q ne ce nn cn:Nat) (Ae An:Option Addr),q≤N∧i=.int .i64 q∧es=.slice Ae ne ce∧ns=.slice An nn cn∧ne≤q∧nn≤2*q ∧
    Hid (Keep Never w4 wr∧Own wr w4.heap.size 3 1 Ae ne ce ((edgesM (all.take q)).map iv)∧ne=(edgesM (all.take q)).length∧Own wr w4.heap.size 3 1 An nn cn ((endsM (all.take q)).map iv)∧nn=(endsM (all.take q)).length)) (fun _ _ i _=>N - (intOf i).toNat)
  case atStart=>exact⟨0,0,0,0,0,none,none,by omega,rfl,rfl,rfl,by omega,by omega,qh ⟨Keep.refl _ _,Own.nil _ _ _ _,rfl,Own.nil _ _ _ _,rfl⟩⟩
  case round=>
   obtain⟨q,ne,ce,nn,cn,Ae,An,hq,rfl,rfl,rfl,hne,hnn,HH⟩:=hrel
   by_cases h0:q<N
   ·obtain⟨kr,oe,le,on,ln⟩:=HH.out
    obtain⟨ad,s,hA,_,hs,d0,d1,d2⟩:=(HO4.out.keep kr (fun _ _ h=>h)).rd.sp h0
    subst hA
    have hqz:(q:Int)<(N:Int):=by omega
    have hE:=edges_take hs
    have hS:=ends_take hs
    obtain⟨s1,s2,s3⟩:=s
    simp only at d0 d1 d2 hE hS
    have HE:=qh hE
    have HS:=qh hS
    have hl1:=withM_len (edgesM (all.take q)) s1
    have hl2:=withM_len (endsM (all.take q)) s2
    have hl3:=withM_len (withM (endsM (all.take q)) s2) s3
    have HLs:=qh (And.intro hl1 (And.intro hl2 hl3))
    have HKr:=qh kr
    have HOe:=qh oe
    have HOn:=qh on
    have HLe:=qh le
    have HLn:=qh ln
    have HC:=qh (with_any Ae ne ce _ (edgesM (all.take q)) s1 wr oe.rd (by omega) (Nat.le_refl _))
    have HD:=qh (And.intro d1 d2)
    clear kr oe le on ln hs hE hS hl1 hl2 hl3 HH d1 d2
    go_wp2_with fail
    refine HC.out.mono ?_
    rintro e w5 ⟨m5,A5,c5,rfl,hm5,ho5,hk5⟩
    have HO5:=qh (ho5.less HKr.out.size)
    have HK5:=qtr HKr hk5
    have HOn5:=qko HOn hk5
    have HM5:=hm5
    have d1:=(hk5.cell (cell_lt HD.out.1) (fun h=>h)).trans HD.out.1
    have d2:=(hk5.cell (cell_lt HD.out.2) (fun h=>h)).trans HD.out.2
    have HC2:=qh (with_any An nn cn _ (endsM (all.take q)) s2 w5 HOn5.out.rd (by omega) (Nat.le_refl _))
    have HD5:=qh d2
    clear ho5 hk5 HC d2 hm5
    go_wp2_with fail
    refine HC2.out.mono ?_
    rintro e w6 ⟨m6,A6,c6,rfl,hm6,ho6,hk6⟩
    have HO6:=qh (ho6.less HK5.out.size)
    have HK6:=qtr HK5 hk6
    have HO56:=qko HO5 hk6
    have hm6':m6≤20000:=by have:=hm6.out;have:=HLs.out.2.1;have:=HLn.out;omega
    have d2:=(hk6.cell (cell_lt HD5.out) (fun h=>h)).trans HD5.out
    have HC3:=qh (with_any A6 m6 c6 _ (withM (endsM (all.take q)) s2) s3 w6 HO6.out.rd (by omega) (Nat.le_refl _))
    clear ho6 hk6 HC2
    go_wp2_with fail
    refine HC3.out.mono ?_
    rintro e w7 ⟨m7,A7,c7,rfl,hm7,ho7,hk7⟩
    have HF:Hid (Keep Never w4 w7∧Own w7 w4.heap.size 3 1 A5 m5 c5 ((edgesM (all.take (q+1))).map iv)∧m5=(edgesM (all.take (q+1))).length∧Own w7 w4.heap.size 3 1 A7 m7 c7 ((endsM (all.take (q+1))).map iv)∧m7=(endsM (all.take (q+1))).length):=by
     refine qh ⟨HK6.out.trans hk7,?_,?_,?_,?_⟩
     ·rw[HE.out];exact HO56.out.keep hk7 (fun _ _ h=>h)
     ·rw[HE.out];exact HM5.out
     ·rw[HS.out];exact ho7.less HK6.out.size
     ·rw[HS.out];exact hm7.out
    have b5:m5≤q+1:=by have:=HM5.out;have:=HLs.out.1;have:=HLe.out;omega
    have b7:m7≤2*(q+1):=by have:=hm7.out;have:=HLs.out.2;have:=HLn.out;omega
    clear ho7 hk7 HC3
    go_wp2_with fail
    refine⟨⟨q+1,m5,c5,m7,c7,A5,A7,by omega,by go_num,rfl,rfl,b5,b7,HF⟩,?_⟩
    simp[intOf];try omega
   ·obtain rfl:q=N:=by omega
    have hqz:¬(q:Int)<(q:Int):=by omega
    obtain⟨kr,oe,le,on,ln⟩:=HH.out
    rw[List.take_of_length_le (by rw[HAN.out];exact Nat.le_refl _)] at oe le on ln
    obtain⟨Es,hEs⟩:∃l,edgesM all=l:=⟨_,rfl⟩
    obtain⟨Ns,hNs⟩:∃l,endsM all=l:=⟨_,rfl⟩
    rw[hEs] at oe le
    rw[hNs] at on ln
    have HEs:=qh hEs
    have HNs:=qh hNs
    have HKr:=qh kr
    have HOe:=qh oe
    have HOn:=qh on
    have HLe:=qh le
    have HLn:=qh ln
    clear hEs hNs kr oe le on ln HH
    go_wp2_with fail
    rename World=>wz
    have HBn:=qh (HB4.out.keep HKr.out (fun h=>h))
    have H1r:=qh (H14.out.keep HKr.out)
    have H2r:=qh (H24.out.keep HKr.out)
    have HKw:=qh (hk4'.out.trans HKr.out)
    have HBs:Hid (w.heap.size<wz.heap.size):=qh HBn.out.lt
    have hB4:Hid (w4.heap.size≤wz.heap.size):=qh HKr.out.size
    have HEr:=qh HOe.out.rd
    have HNr:=qh HOn.out.rd
    have hne2:ne≤5000:=by omega
    have hnn2:nn≤10000:=by omega
    clear HB4 hk34 hk4' H14 H24 HKr HO4 HAN hwb HKb hqz HOe HOn hne hnn h0 hq
    go_loopw [11,12,13,14,15,16,17] (fun out i _ _ _ _ _ wv=>∃(r no co:Nat) (Ao:Option Addr),r≤ne∧i=.int .i64 r∧out=.slice Ao no co∧no≤r*10000 ∧
      Hid (∃o:List Sp,no=o.length∧Own wv wz.heap.size 145 3 Ao no co (spCells o)∧formF (gF a b k) Ns Es []=formF (gF a b k) Ns (Es.drop r) o∧Keep Never wz wv)) (fun _ i _ _ _ _ _ _=>ne - (intOf i).toNat)
    case atStart=>exact⟨0,0,0,none,by omega,rfl,rfl,by omega,qh ⟨[],rfl,Own.nil _ _ _ _,rfl,Keep.refl _ _⟩⟩
    case round=>
     rename World=>wv
     obtain⟨r,no,co,Ao,hr,rfl,rfl,hno,HH⟩:=hrel
     obtain⟨o,ho1,ho2,ho3,hkv⟩:=HH.out
     by_cases h0:r<ne
     ·obtain⟨ade,e0,hA,hade,he0,ce⟩:=(HEr.out.keep hkv (fun _ h=>h.elim)).at1 h0
      subst hA
      have hrz:(r:Int)<(ne:Int):=by omega
      unfold iv at ce
      have HStep:Hid (formF (gF a b k) Ns Es []=formF (gF a b k) Ns (Es.drop (r+1)) (rowF (gF a b k e0) e0 Ns false o)):=qh (by
       obtain⟨i1,i2⟩:=List.getElem?_eq_some_iff.1 he0
       rw[ho3,List.drop_eq_getElem_cons i1,i2];rfl)
      have HO:=qh ho2
      have HKv:=qh hkv
      have HCe:=qh ce
      have Ho1:=qh ho1
      clear HH he0 ho1 ho2 ho3 ce hkv
      go_wp2_with fail
      go_loopw [11,13,14,15,16,17] (fun out op j _ _ _ wu=>∃(t mo mc:Nat) (Au:Option Addr) (f:Bool),t≤nn∧op=.bool f∧j=.int .i64 t∧out=.slice Au mo mc∧mo≤r*10000+t ∧
        Hid (∃o':List Sp,mo=o'.length∧Own wu wz.heap.size 145 3 Au mo mc (spCells o')∧rowF (gF a b k e0) e0 Ns false o=rowF (gF a b k e0) e0 (Ns.drop t) f o'∧(f=true→0<mo)∧Keep Never wz wu)) (fun _ _ j _ _ _ _=>nn - (intOf j).toNat)
      case atStart=>exact⟨0,no,co,Ao,false,by omega,rfl,rfl,rfl,by omega,qh ⟨o,Ho1.out,HO.out,rfl,fun h=>(by cases h),HKv.out⟩⟩
      case round=>
       rename World=>wu
       obtain⟨t,mo,mc,Au,f,ht,rfl,rfl,rfl,hmo,HI⟩:=hrel
       obtain⟨o',hu1,hu2,hu3,hu4,hku⟩:=HI.out
       by_cases ht1:t+1<nn
       ·obtain⟨adn,p,hA,hadn,hp,cp⟩:=(HNr.out.keep hku (fun _ h=>h.elim)).at1 (k:=t) (by omega)
        subst hA
        obtain⟨adn',p2,hA,hadn',hp2,cp2⟩:=(HNr.out.keep hku (fun _ h=>h.elim)).at1 (k:=t+1) (by omega)
        obtain rfl:adn=adn':=by injection hA
        have cu:wu.cell? (ade.add r)=some (.int .i64 e0):=by
         have h:=(HEr.out.keep hku (fun _ h=>h.elim)).at1 h0
         obtain⟨ad',x',h1,h2,h3,h4⟩:=h
         injection h1 with h1
         subst h1
         rw[h4]
         have h5:=HCe.out
         obtain⟨ad'',x'',g1,g2,g3,g4⟩:=(HEr.out.keep HKv.out (fun _ h=>h.elim)).at1 h0
         injection g1 with g1
         subst g1
         rw[h3] at g3
         injection g3 with g3
         subst g3
         rw[h5] at g4
         exact g4.symm
        unfold iv at cp cp2
        have eadd:adn.add (t+1)=⟨adn.block,adn.off+(t+1),none⟩:=by unfold Addr.add;split <;> simp_all
        rw[eadd] at cp2
        clear eadd
        have htz:(t:Int)+1<(nn:Int):=by omega
        have ht0:t<nn:=by omega
        have HRow:Hid (rowF (gF a b k e0) e0 Ns false o=rowF (gF a b k e0) e0 (Ns.drop (t+1)) (gF a b k e0 p) (rowStep (gF a b k e0) e0 p p2 f o')):=qh (by
         obtain⟨i1,i2⟩:=List.getElem?_eq_some_iff.1 hp
         obtain⟨j1,j2⟩:=List.getElem?_eq_some_iff.1 hp2
         rw[hu3,List.drop_eq_getElem_cons i1,i2,List.drop_eq_getElem_cons j1,j2];rfl)
        have HU:=qh hu2
        have Hu1:=qh hu1
        have Hu4:=qh hu4
        have HKu:=qh hku
        have HHa:Hid (∀W',Keep Never wu W'→Calls Tryz.prog 212 #[.slice A1 n1 c1,.int .i64 e0,.int .i64 p] W' fun en w'=>en=.returned (.bool (hasL a e0 p))∧Keep Never W' w'):=qh (fun W' hk=>rhas_any A1 n1 c1 B a e0 p W' (((H1r.out.keep HKu.out).keep hk).rd) (by omega))
        have HHb:Hid (∀W',Keep Never wu W'→Calls Tryz.prog 212 #[.slice A2 n2 c2,.int .i64 e0,.int .i64 p] W' fun en w'=>en=.returned (.bool (hasL b e0 p))∧Keep Never W' w'):=qh (fun W' hk=>rhas_any A2 n2 c2 B b e0 p W' (((H2r.out.keep HKu.out).keep hk).rd) (by omega))
        clear hu1 hu2 hu3 hu4 hku HI hp hp2
        go_wp2_with fail
        go_region_held3 (fun w'=>w'.cell? (ade.add r)=some (.int .i64 e0)∧w'.cell? (adn.add t)=some (.int .i64 p)) (first| go_keep | (exact⟨(hk7.cell (cell_lt cu) (fun h=>h)).trans cu,(hk7.cell (cell_lt cp) (fun h=>h)).trans cp⟩))
          (first| (go_at_call 212; refine(HHa.out _ (Keep.refl Never wu).drew).mono ?_;rintro e w7 ⟨rfl,hk7⟩))
        have HK7:=qh (hk7.drewL)
        have hA7:Keep Never wu w7:=hk7.drewL
        have cu7:=(hA7.cell (cell_lt cu) (fun h=>h)).trans cu
        have cp7:=(hA7.cell (cell_lt cp) (fun h=>h)).trans cp
        have cp27:=(hA7.cell (cell_lt cp2) (fun h=>h)).trans cp2
        clear hk7 hA7 cu cp cp2 HHa
        go_wp2_with fail
        go_region_held3 (fun w'=>w'.cell? (ade.add r)=some (.int .i64 e0)∧w'.cell? (adn.add t)=some (.int .i64 p)) (first| go_keep | (exact⟨(hk8.cell (cell_lt cu7) (fun h=>h)).trans cu7,(hk8.cell (cell_lt cp7) (fun h=>h)).trans cp7⟩))
          (first| (go_at_call 212; refine(HHb.out _ HK7.out.drew).mono ?_;rintro e w8 ⟨rfl,hk8⟩))
        have hA8:Keep Never w7 w8:=hk8.drewL
        have HK8:=qtr HK7 hA8
        have cu8:=(hA8.cell (cell_lt cu7) (fun h=>h)).trans cu7
        have cp8:=(hA8.cell (cell_lt cp7) (fun h=>h)).trans cp7
        have cp28:=(hA8.cell (cell_lt cp27) (fun h=>h)).trans cp27
        have hb8:=HBn.out.keep (HKu.out.trans HK8.out) (fun h=>h)
        obtain⟨b0,b1,b2⟩:=bc3 hb8
        obtain⟨is,his⟩:∃z,gF a b k e0 p=z:=⟨_,rfl⟩
        have HWt:Hid (∀W',Calls Tryz.prog 213 #[.agg #[.bool k.1,.bool k.2.1,.bool k.2.2],.bool (hasL a e0 p),.bool (hasL b e0 p)] W' fun e w'=>e=.returned (.bool is)∧Keep Never W' w'):=qh (fun W'=>by
         have h:=wanted_any k (hasL a e0 p) (hasL b e0 p) W'
         rwa [show wantB k (hasL a e0 p) (hasL b e0 p)=is from his] at h)
        have HRow2:Hid (rowF (gF a b k e0) e0 Ns false o=rowF (gF a b k e0) e0 (Ns.drop (t+1)) is (if is=true then (if f=true then (match o'.getLast? with | some t=>o'.dropLast++[(t.1,t.2.1,p2)] | none=>o') else o'++[(e0,p,p2)]) else o')):=qh (by
         have h:=HRow.out
         unfold rowStep at h
         rwa [his] at h)
        clear hk8 hA8 cu7 cp7 cp27 hb8 HHb his HRow HK7
        go_wp2_with fail
        refine(HWt.out _).mono ?_
        rintro e w9 ⟨rfl,hk9⟩
        have cu9:=(hk9.cell (cell_lt cu8) (fun h=>h)).trans cu8
        have cp9:=(hk9.cell (cell_lt cp8) (fun h=>h)).trans cp8
        have cp29:=(hk9.cell (cell_lt cp28) (fun h=>h)).trans cp28
        have HK9:=qh (HKu.out.trans (HK8.out.trans hk9))
        have HU9:=qh (HU.out.keep (HK8.out.trans hk9) (fun _ _ h=>h))
        have hsz9:wz.heap.size≤w9.heap.size:=HK9.out.size
        clear hk9 cu8 cp8 cp28 b0 b1 b2 HWt HK8 HU HKu
        cases is with
        | false=>
         go_wp2_with fail
         refine⟨⟨t+1,mo,mc,Au,false,by omega,rfl,by go_num,rfl,by omega,qh ⟨o',Hu1.out,HU9.out,HRow2.out,fun h=>(by cases h),HK9.out⟩⟩,?_⟩
         simp[intOf];try omega
        | true=>
         cases f with
         | false=>
          have HFr:Hid (rowF (gF a b k e0) e0 Ns false o=rowF (gF a b k e0) e0 (Ns.drop (t+1)) true (o'++[(e0,p,p2)])):=qh (by have h:=HRow2.out;simpa using h)
          have x0:(t:Int)<(nn:Int):=by omega
          have x1:IntKind.i64.wrap ((t:Int)+1)=(t:Int)+1:=IntWalk.i64_in _ (by omega)
          have x2:(0:Int)≤(t:Int)+1:=by omega
          have x3:((t:Int)+1).toNat=t+1:=by omega
          have lt1:=cell_lt cu9
          have lt2:=cell_lt cp9
          have lt3:=cell_lt cp29
          have HAde:=qh hade
          have HAdn:=qh hadn
          have HSk:Hid (∀(w':World),Keep (InRow Au) (w9.drew.alloc (.cells #[.int .i64 e0,.int .i64 p,.int .i64 p2] 145)) w'→w'.cell? (ade.add r)=some (.int .i64 e0)∧w'.cell? (adn.add t)=some (.int .i64 p)∧w'.cell? ⟨adn.block,adn.off+(t+1),none⟩=some (.int .i64 p2)):=qh (fun w' h=>by
           have ha:Keep Never w9 (w9.drew.alloc (.cells #[.int .i64 e0,.int .i64 p,.int .i64 p2] 145)):=((Keep.refl Never w9).drew).alloc _
           have hs:=ha.size
           refine⟨?_,?_,?_⟩
           ·rw[h.cell (by omega) (fun hh=>by have:=(HU9.out.row hh).1;rw[block_add] at this;have:=HAde.out;omega),ha.cell lt1 (fun hh=>hh)];exact cu9
           ·rw[h.cell (by omega) (fun hh=>by have:=(HU9.out.row hh).1;rw[block_add] at this;have:=HAdn.out;omega),ha.cell lt2 (fun hh=>hh)];exact cp9
           ·rw[h.cell (by omega) (fun hh=>by have h2:wz.heap.size≤adn.block:=(HU9.out.row hh).1;have:=HAdn.out;omega),ha.cell lt3 (fun hh=>hh)];exact cp29)
          go_wp2_with fail
          go_region_held3 (fun w'=>w'.cell? (ade.add r)=some (.int .i64 e0)∧w'.cell? (adn.add t)=some (.int .i64 p)∧w'.cell? ⟨adn.block,adn.off+(t+1),none⟩=some (.int .i64 p2)) (first| go_keep | (exact HSk.out _ hk10) | (exact HSk.out _ (Keep.refl _ _)))
            (first| (refine step_app _ rfl (.tmp 103) (.tmp 118) _ rfl elemSp wz.heap.size (A:=Au) (n:=mo) (c:=mc) (by go_simp) (HU9.out.drew.alloc _) _ (A':=some ⟨_,0,none⟩) (m:=1) (c':=1) (news:=[.int .i64 e0,.int .i64 p,.int .i64 p2]) (by go_simp) (Rd.of_blk (n:=1) (cs:=[.int .i64 e0,.int .i64 p,.int .i64 p2]) (Blk.new _ _ _) rfl) (by simp[Value.oneCell']) (by clear x1 x2 x3;omega) (by clear x1 x2 x3;unfold maxLen;omega) (by clear x1 x2 x3;simp;omega) ?_;intro A10 c10 w10 hown10 hk10 hrow10))
          clear x1 x2 x3 lt1 lt2 lt3
          go_wp2_with fail
          have hkk:Keep Never wz w10:=(HK9.out.drew.alloc _).then_ hk10 (fun i hi h=>by have:=(HU9.out.row h).1;omega)
          refine⟨⟨t+1,mo+1,c10,A10,true,by omega,rfl,by go_num,rfl,by omega,qh ⟨o'++[(e0,p,p2)],by simp[Hu1.out],by simpa[spCells,spCell] using hown10,HFr.out,fun _=>by omega,hkk⟩⟩,?_⟩
          simp[intOf];try omega
         | true=>
          obtain⟨m0,hm0⟩:∃m0,mo=m0+1:=⟨mo - 1,by have:=Hu4.out rfl;omega⟩
          rcases List.eq_nil_or_concat o' with rfl | ⟨l0,t',rfl⟩
          ·exact absurd Hu1.out (by simp;omega)
          ·rw[List.concat_eq_append] at HU9 Hu1 HRow2
           have Hm0:Hid (mo=m0+1∧l0.length=m0):=qh ⟨hm0,by have:=Hu1.out;simp at this;omega⟩
           have hk0s:(mo:Int) - 1=(m0:Int):=by omega
           have hk0z:(m0:Int)<(mo:Int):=by omega
           have hk00:(0:Int)≤(m0:Int):=by omega
           have hk0lt:m0<mo:=by omega
           obtain⟨g,cur,rfl,hbg,hB2,hnc,hcm,hcs,hct⟩:∃g cur,Au=some ⟨g,0,none⟩∧wz.heap.size≤g∧Blk w9 g 145 cur∧mo≤mc∧mc≤maxLen∧cur.size=mc*3∧cur.toList.take (mo*3)=spCells (l0++[t']):=by
            rcases HU9.out.form with⟨_,h,_⟩ | h
            ·omega
            ·exact h
           have ht':(l0++[t'])[m0]?=some t':=by rw[List.getElem?_append_right (by have:=Hm0.out.2;omega),Hm0.out.2];simp
           obtain⟨t1,t2,t3⟩:=t'
           have y2:=HU9.out.cell0 (spCells_at _ ht').2.2
           simp only at y2
           have f2:=HU9.out.frozen0 (m0*3+2)
           have hset:(l0++[(t1,t2,t3)]).set m0 (t1,t2,p2)=l0++[(t1,t2,p2)]:=by
            have h1:=Hm0.out.2
            rw[List.set_append_right _ _ (by omega),h1,Nat.sub_self];rfl
           have hcs2:=spCells_set2 _ ht' p2
           simp only at hcs2
           rw[hset] at hcs2
           have HOs:Hid (Own (w9.setCell ⟨g,m0*3+2,none⟩ (.int .i64 p2)) wz.heap.size 145 3 (some ⟨g,0,none⟩) mo mc (spCells (l0++[(t1,t2,p2)]))):=by
            have h1:=HU9.out.stored rfl (m0*3+2) (.int .i64 p2)
            rw[add0,←hcs2] at h1
            exact qh h1
           have HKs:Hid (Keep Never wz (w9.setCell ⟨g,m0*3+2,none⟩ (.int .i64 p2))):=qh (HK9.out.set_ (p:=⟨g,m0*3+2,none⟩) (.inr hbg) _)
           have HFr:Hid (rowF (gF a b k e0) e0 Ns false o=rowF (gF a b k e0) e0 (Ns.drop (t+1)) true (l0++[(t1,t2,p2)])):=qh (by have h:=HRow2.out;simpa using h)
           have Hln:Hid (mo=(l0++[(t1,t2,p2)]).length):=qh (by have:=Hu1.out;simpa using this)
           have x0:(t:Int)<(nn:Int):=by omega
           clear hbg hB2 hnc hcm hcs hct ht' hset hcs2 hm0 HRow2 Hu1 HU9 hsz9
           go_wp2_with fail
           refine⟨⟨t+1,mo,mc,_,true,by omega,rfl,by go_num,rfl,by omega,qh ⟨_,Hln.out,HOs.out,HFr.out,fun _=>by omega,HKs.out⟩⟩,?_⟩
           simp[intOf];try omega
       ·have htz:¬(t:Int)+1<(nn:Int):=by omega
        have HD:Hid (rowF (gF a b k e0) e0 Ns false o=o'):=qh (by
         rw[hu3]
         have hl:(Ns.drop t).length≤1:=by rw[List.length_drop];have:=HLn.out;omega
         cases hd:Ns.drop t with
         | nil=>rfl
         | cons x l=>
          rw[hd] at hl
          cases l with
          | nil=>rfl
          | cons y l=>simp at hl)
        have HU:=qh hu2
        have HKu:=qh hku
        have Hu1:=qh hu1
        clear hu1 hu2 hu3 hu4 hku HI
        go_wp2_with fail
        refine⟨⟨r+1,mo,mc,Au,by omega,by go_num,rfl,by omega,qh ⟨o',Hu1.out,HU.out,by rw[HStep.out,HD.out],HKu.out⟩⟩,?_⟩
        simp[intOf];try omega
     ·obtain rfl:r=ne:=by omega
      have hrz:¬(r:Int)<(r:Int):=by omega
      have HFin:Hid (o=FormM a b k):=qh (by
       have h:=ho3
       rw[List.drop_eq_nil_of_le (by rw[HLe.out];exact Nat.le_refl _)] at h
       unfold FormM
       rw[HAll.out,HEs.out,HNs.out]
       exact h.symm)
      have HO:=qh ho2
      have HKv:=qh hkv
      have Ho1:=qh ho1
      clear ho1 ho2 ho3 hkv HH
      go_wp2_with fail
      go_ret
      exact⟨o,Ao,no,co,rfl,Ho1,SpAt.of_own HO.out,HKw.out.trans HKv.out,HFin.out⟩
theorem form_any (A1:Option Addr) (n1 c1:Nat) (A2:Option Addr) (n2 c2 B:Nat) (a b:List Sp) (k:Bool×Bool×Bool) (w:World) (h1:SpAt w B A1 n1 c1 a) (h2:SpAt w B A2 n2 c2 b) (hn1:n1≤1000) (hn2:n2≤1000) (hB:B≤w.heap.size) :
    Calls Tryz.prog 185 #[.slice A1 n1 c1,.slice A2 n2 c2,.agg #[.bool k.1,.bool k.2.1,.bool k.2.2]] w fun e w'=>∃m A n c,e=.returned (.slice A n c)∧Hid (n=m.length)∧SpAt w' w'.heap.size A n c m∧Keep Never w w'∧m=FormM a b k:=
  form_big A1 n1 c1 A2 n2 c2 B a b k w h1 h2 (by omega) (by omega) hB
end Go.Proofs.YtpapiojicbbheaaGreatDoor

namespace Go.Proofs.YtpapiojicbbheaaGreatDoor
open Go.RowKit
theorem form_norm (a:List Sp):NormOf a (FormM a [] (true,false,false)):=⟨(FormM_ok a [] _).1,fun e x=>by rw[(FormM_ok a [] _).2.1,hasL_nil];cases hasL a e x <;> rfl⟩
theorem form_minus (a b:List Sp):KeptIs a b false (FormM a b (true,false,false)):=⟨(FormM_ok a b _).1,fun e x=>by rw[(FormM_ok a b _).2.1];cases hasL a e x <;> cases hasL b e x <;> rfl⟩
theorem form_both (a b:List Sp):KeptIs a b true (FormM a b (false,false,true)):=⟨(FormM_ok a b _).1,fun e x=>by rw[(FormM_ok a b _).2.1];cases hasL a e x <;> cases hasL b e x <;> rfl⟩
set_option maxHeartbeats 1000000 in
set_option maxRecDepth 100000 in
theorem rnorm_any (B A1 n1 c1) (a:List Sp) (w:World) (h1:SpAt w B A1 n1 c1 a) (hn1:n1≤1000) (hB:B≤w.heap.size) :
    Calls Tryz.prog 145 #[.slice A1 n1 c1] w (SpAns w fun m=>NormOf a m∧m.length≤4000000):=by
  have HLn:Hid ((FormM a [] (true,false,false)).length≤4000000):=qh (by
   have h2:=(FormM_ok a [] (true,false,false)).2.2
   have h3:=h1.len
   simp only[List.length_nil,Nat.add_zero] at h2
   have h4:a.length*(2*a.length)≤1000*2000:=Nat.mul_le_mul (by omega) (by omega)
   omega)
  have HK:=qh (form_any A1 n1 c1 none 0 0 _ a [] (true,false,false) w (h1.more hB) (nilAt w) hn1 (by omega) (Nat.le_refl _))
  clear h1 hn1 hB
  go_enter Tryz.func145, Tryz.ntmps145
  go_wp2_with fail
  refine HK.out.mono ?_
  rintro e w' ⟨m,A,n,c,rfl,hn,hs,hk,rfl⟩
  have H:=qh (And.intro hs hk)
  clear hs hk HK
  go_wp2_with fail
  go_ret
  exact⟨_,A,n,c,rfl,hn,H.out.1,H.out.2,form_norm a,HLn.out⟩
end Go.Proofs.YtpapiojicbbheaaGreatDoor

namespace Go.Proofs.YtpapiojicbbheaaGreatDoor
open Go.RowKit
def flipM (s:Stp):Stp:=(s.1,!s.2)
theorem inE_flip (s:Stp):inE (flipM s)=outE s:=by obtain⟨a,b⟩:=s;cases b <;> rfl
theorem outE_flip (s:Stp):outE (flipM s)=inE s:=by obtain⟨a,b⟩:=s;cases b <;> rfl
theorem joinB_swap (l:List Jt) (a b:En):joinB l a b=joinB l b a:=by
 unfold joinB
 congr 1
 funext j
 exact Bool.or_comm _ _
theorem mayB_flip (J:List Jt) (s u:Stp):mayJ J (flipM u) (flipM s)=mayJ J s u:=by
 unfold mayJ
 rw[outE_flip,inE_flip,joinB_swap]
end Go.Proofs.YtpapiojicbbheaaGreatDoor

namespace Go.Proofs.YtpapiojicbbheaaGreatDoor
open Go.RowKit
theorem all_take {α:Type}{l:List α}{k:Nat}{b:α}{p:α→Prop} (h:l[k]?=some b) (ha:∀x∈l.take k,p x) (hb:p b):∀x∈l.take (k+1),p x:=by
 obtain⟨h2,h3⟩:=List.getElem?_eq_some_iff.1 h
 rw[List.take_succ_eq_append_getElem h2,h3]
 intro x hx
 rcases List.mem_append.1 hx with hx | hx
 ·exact ha x hx
 ·simp at hx;subst hx;exact hb
end Go.Proofs.YtpapiojicbbheaaGreatDoor

namespace Go.Proofs.YtpapiojicbbheaaGreatDoor
open Go.RowKit
theorem cnt_one {s:Sp}{m:List Sp} (h:NormOf [s] m) (h0:0≤s.1) (h1:0≤s.2.1) (h2:s.2.2≤1000000):cntL m=max 0 (s.2.2 - s.2.1):=by
 by_cases hc:s.2.1<s.2.2
 ·have hn:NormalS [s]:=⟨by intro x hx;simp at hx;subst hx;rw[someS_iff];omega,by simp⟩
  rw[h.one (NormOf.self hn)]
  simp[cntL];omega
 ·have he:someS s=false:=by rw[←not_true_iff,someS_iff];omega
  have:m=[]:=normal_one h.1 NormalS.nil (fun e a=>by rw[h.2,hasL_cons,he,Bool.false_and,Bool.false_or])
  subst this
  simp[cntL];omega
def backM (p:List Stp):List Stp:=p.reverse.map flipM
theorem backM_len (p:List Stp):(backM p).length=p.length:=by simp[backM]
theorem backM_at {p:List Stp}{k:Nat} (h:k<p.length):(backM p)[k]?=(p[p.length - 1 - k]?).map flipM:=by
 unfold backM
 rw[List.getElem?_map,List.getElem?_reverse h]
theorem wayM_back (J:List Jt) (p:List Stp) (h:wayM J p=true):wayM J (backM p)=true:=by
 refine wayM_t fun k hk=>?_
 rw[backM_len] at hk
 unfold wayM at h
 rw[List.all_eq_true] at h
 have h1:=h (p.length - 1 - (k+1)) (List.mem_range.2 (by omega))
 have hs:p[p.length - 1 - (k+1)]?=some p[p.length - 1 - (k+1)]:=List.getElem?_eq_getElem (by omega)
 have hu:p[p.length - 1 - (k+1)+1]?=some p[p.length - 1 - (k+1)+1]:=List.getElem?_eq_getElem (by omega)
 rw[okAt_eq hs hu] at h1
 have e1:p.length - 1 - (k+1)+1=p.length - 1 - k:=by omega
 rw[okAt_eq (s:=flipM p[p.length - 1 - (k+1)+1]) (u:=flipM p[p.length - 1 - (k+1)]) (by rw[backM_at (by omega),←e1,hu];rfl) (by rw[backM_at (by omega),hs];rfl),mayB_flip]
 exact h1
theorem back_good {es:List Int}{p:List Stp} (h:goodM es p):goodM es (backM p):=by
 refine⟨h.1,fun s hs=>?_,by rw[backM_len];exact h.2.2⟩
 obtain⟨u,hu,rfl⟩:=List.mem_map.1 hs
 exact h.2.1 u (List.mem_reverse.1 hu)
theorem back_sum {es:List Int}{p:List Stp} (h:goodM es p):sumM es (backM p)=sumM es p:=by
 have e1:=sum_plain h p.length (Nat.le_refl _)
 have e2:=sum_plain (back_good h) (backM p).length (Nat.le_refl _)
 rw[List.take_length] at e1 e2
 rw[e1,e2]
 unfold plainS backM
 rw[List.map_map,List.map_reverse,List.sum_reverse]
 rfl
theorem back_len {t:Tp}{p:List Stp} (h:(lenM t p).2=0) (hg:goodM t.1 p):lenM t (backM p)=lenM t p:=by
 unfold lenM at h ⊢
 rw[backM_len]
 split at h
 ·simp at h
 rename_i h0
 rw[if_neg h0,if_neg h0]
 split at h
 ·rename_i h1
  split at h
  ·rename_i h2
   rw[if_pos h1,if_pos h2,if_pos (by rw[List.all_eq_true];exact(back_good hg).2.1),if_pos (wayM_back _ _ h2),back_sum hg]
  ·simp at h
 ·simp at h
theorem long_facts {t:Tp}{p:List Stp}{a b c:Int} (h1:overE t p a b=0) (h2:overE t p b c=0):goodM t.1 p∧(0≤a∧a≤b∧b≤c∧c≤sumM t.1 p)∧overE t p a c=0∧overE t (backM p) 0 (c - a)=0:=by
 unfold overE at h1 h2
 split at h1
 ·rename_i h;exact absurd h1 h
 rename_i g0
 rw[if_neg g0] at h2
 have g0':(lenM t p).2=0:=by simpa using g0
 split at h1
 ·simp at h1
 rename_i g1
 split at h2
 ·simp at h2
 rename_i g2
 have hw:t.1.any wrongB=false:=by rw[←not_true_iff];exact fun h=>g1 (.inl h)
 obtain⟨hg,hs⟩:=len_good g0' hw
 have i1:¬a<0:=fun h=>g1 (.inr (.inl h))
 have i2:¬a>b:=fun h=>g1 (.inr (.inr (.inl h)))
 have i3:¬b>c:=fun h=>g2 (.inr (.inr (.inl h)))
 have i4:¬c>(lenM t p).1:=fun h=>g2 (.inr (.inr (.inr h)))
 refine⟨hg,⟨by omega,by omega,by omega,by omega⟩,?_,?_⟩
 ·unfold overE
  rw[if_neg g0,if_neg]
  rintro(h | h | h | h)
  ·rw[hw] at h;cases h
  ·omega
  ·omega
  ·omega
 ·unfold overE
  rw[back_len g0' hg,if_neg g0,if_neg]
  rintro(h | h | h | h)
  ·rw[hw] at h;cases h
  ·omega
  ·omega
  ·omega
end Go.Proofs.YtpapiojicbbheaaGreatDoor

namespace Go.Proofs.YtpapiojicbbheaaGreatDoor
open Go.RowKit
def aheadP (t:Tp) (p:Ps):Int:=if p.2.2=true then p.2.1 else edgeM t p.1 - p.2.1
theorem ahead_along (t:Tp) (p:Ps):aheadP t p=edgeM t p.1 - alongP t p:=by unfold aheadP alongP;split <;> omega
end Go.Proofs.YtpapiojicbbheaaGreatDoor

namespace Go.Proofs.YtpapiojicbbheaaGreatDoor
open Go.RowKit
theorem cnt_le {a c m:List Sp} (ha:NormalS a) (hc:NormalS c) (hm:NormalS m) (h:∀e x,hasL a e x=(hasL c e x || hasL m e x)):cntL a≤cntL c+cntL m:=by
 have h1:=form_minus m c
 have h2:=form_both m c
 have e1:∀e x,hasL (FormM m c (true,false,false)) e x=(hasL m e x&&!hasL c e x):=fun e x=>by rw[(FormM_ok m c _).2.1];cases hasL m e x <;> cases hasL c e x <;> rfl
 have e2:∀e x,hasL (FormM m c (false,false,true)) e x=(hasL m e x&&hasL c e x):=fun e x=>by rw[(FormM_ok m c _).2.1];cases hasL m e x <;> cases hasL c e x <;> rfl
 have p1:=cnt_parts ha hc (FormM_ok m c (true,false,false)).1 (fun e x=>by rw[h,e1];cases hasL m e x <;> cases hasL c e x <;> rfl) (fun e x hx=>by rw[e1] at hx;cases h1:hasL c e x <;> simp[h1] at hx)
 have p2:=cnt_parts hm (FormM_ok m c (true,false,false)).1 (FormM_ok m c (false,false,true)).1 (fun e x=>by rw[e1,e2];cases hasL m e x <;> cases hasL c e x <;> rfl) (fun e x hx=>by rw[e1,e2] at hx;cases h1:hasL c e x <;> simp[h1] at hx)
 have p3:=(cntL_range (FormM_ok m c (false,false,true)).1).1
 omega
theorem over_most {es:List Int}{p:List Stp}{lo hi:Int} (hg:goodM es p) (h0:0≤lo) (h1:lo≤hi):∀k,k≤p.length→∀m,NormOf (overK es lo hi p k) m→cntL m≤max 0 (min hi (sumM es (p.take k)) - lo)
  | 0,_,m,h=>by
   have:m=[]:=h.one (NormOf.self (l:=[]) NormalS.nil)
   subst this
   simp[cntL,sumM];omega
  | k+1,hk,m,h=>by
   have hs:p[k]?=some p[k]:=List.getElem?_eq_getElem (by omega)
   obtain⟨g1,g2,g3⟩:=good_pos hg hs
   have hst:=sum_step hg hs
   have hrg:=(sum_good hg k (by omega)).1
   have hf:=form_norm (overK es lo hi p k)
   have hc:=form_norm [cutS es lo hi (sumM es (p.take k)) p[k]]
   have ih:=over_most hg h0 h1 k (by omega) _ hf
   have hcn:cntL (FormM [cutS es lo hi (sumM es (p.take k)) p[k]] [] (true,false,false))=max 0 ((cutS es lo hi (sumM es (p.take k)) p[k]).2.2 - (cutS es lo hi (sumM es (p.take k)) p[k]).2.1):=by
    refine cnt_one hc ?_ ?_ ?_
    ·unfold cutS;split <;> exact g1
    ·unfold cutS;split <;> simp only <;> omega
    ·unfold cutS;split <;> simp only <;> omega
   have hp:=cnt_le (a:=m) h.1 hf.1 hc.1 (fun e x=>by rw[h.2,hf.2,hc.2,overK_at hs,hasL_app])
   have hw:(cutS es lo hi (sumM es (p.take k)) p[k]).2.2 - (cutS es lo hi (sumM es (p.take k)) p[k]).2.1=min (hi - sumM es (p.take k)) (es.getD p[k].1.toNat 0) - max (lo - sumM es (p.take k)) 0:=by
    unfold cutS;split <;> simp only <;> omega
   rw[hw] at hcn
   rw[hcn] at hp
   rw[hst]
   generalize es.getD p[k].1.toNat 0=v at *
   generalize sumM es (p.take k)=S at *
   omega
theorem over_total {es:List Int}{p:List Stp}{lo hi:Int} (hg:goodM es p) (h0:0≤lo) (h1:lo≤hi) {m:List Sp} (h:NormOf (overK es lo hi p p.length) m):cntL m≤hi - lo:=by
 have:=over_most hg h0 h1 p.length (Nat.le_refl _) m h
 omega
end Go.Proofs.YtpapiojicbbheaaGreatDoor

namespace Go.Proofs.YtpapiojicbbheaaGreatDoor
open Go.RowKit
def strP (t:Tp) (p:Ps) (n:Int):List Stp:=goneM t 40 (p.1,p.2.2) (n+alongP t p)
def strE (t:Tp) (p:Ps) (n:Int):Int:=if (walkP t p n).2=0 then overE t (strP t p n) (alongP t p) (alongP t p+n) else (walkP t p n).2
theorem str_total {t:Tp}{p:Ps}{n:Int} (h:strE t p n=0) {m:List Sp} (hm:NormOf (overK t.1 (alongP t p) (alongP t p+n) (strP t p n) (strP t p n).length) m):cntL m≤n:=by
 unfold strE at h
 split at h
 ·rename_i hw
  have ho:=long_facts (a:=alongP t p) (b:=alongP t p+n) (c:=alongP t p+n) h (by
   unfold overE at h ⊢
   split at h
   ·rename_i h1;exact absurd h h1
   rename_i h1
   rw[if_neg h1]
   split at h
   ·exact absurd h (by decide)
   rename_i h2
   rw[if_neg]
   rintro(h3 | h3 | h3 | h3)
   ·exact h2 (.inl h3)
   ·have:¬alongP t p<0:=fun h=>h2 (.inr (.inl h))
    have:¬alongP t p>alongP t p+n:=fun h=>h2 (.inr (.inr (.inl h)))
    omega
   ·omega
   ·exact h2 (.inr (.inr (.inr h3))))
  have:=over_total ho.1 ho.2.1.1 ho.2.1.2.1 hm
  omega
 ·rename_i hw;exact absurd h hw
end Go.Proofs.YtpapiojicbbheaaGreatDoor
