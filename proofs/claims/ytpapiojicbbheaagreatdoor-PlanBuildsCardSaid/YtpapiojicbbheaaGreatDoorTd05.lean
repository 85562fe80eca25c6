/- Texts of this claim, together: Rf13D, PlcH, PlcI, PlcJ, PmW. -/
import Derived.Test.YtpapiojicbbheaaGreatDoorTd04
import Derived.Test.YtpapiojicbbheaaGreatDoorTd02
import Derived.Test.YtpapiojicbbheaaGreatDoorTd03
import Derived.Test.YtpapiojicbbheaaGreatDoorTd01
namespace Go.Proofs.YtpapiojicbbheaaGreatDoor
open Go.RowKit
set_option maxHeartbeats 40000000 in
set_option maxRecDepth 100000 in
theorem rcheck_any (x:TA) (t:Tp) (B:Nat) (w:World) (ht:TpAt w B x t) (hs:TpSmall x t) (hB:B≤w.heap.size) :
    Calls Tryz.prog 48 #[.agg x.cs] w fun e w'=>e=.returned (.int .i64 (checkM t))∧Keep Never w w':=by
  have HT:=qh (fun i W=>redge_any x i W)
  have HEn:Hid (∀(a1 a2:Int) W,Calls Tryz.prog 108 #[.agg x.cs,.agg #[.int .i64 a1,.int .i64 a2]] W fun e w'=>e=.returned (.bool (endB x.ne (a1,a2)))∧Keep Never W w'):=qh (fun a1 a2 W=>rend_any x (a1,a2) W)
  have HRd:Hid (∀(r:Rt) A n c W,Keep Never w W→repStp.Sl W B A n c r.2.1→n≤100000000→t.1.any wrongB=false→Calls Tryz.prog 111 #[.agg x.cs,.agg #[.int .i64 r.1,.slice A n c,.int .i64 r.2.2.1,.int .i64 r.2.2.2]] W fun e w'=>e=.returned (.int .i64 (routedM t r))∧Keep Never W w'):=qh (fun r A n c W hk hr hn hw=>rroute_any x t B r A n c W (ht.keep hk) hr hs.j hs.b hn hw)
  have HTp:=qh ht
  have HSm:=qh hs
  have HGB:=qh hB
  have qe:∀(w:World) (x1 x2 y1 y2:Int),(binOp .eql 132 (.agg #[.int .i64 x1,.int .i64 x2]) (.agg #[.int .i64 y1,.int .i64 y2])).run Tryz.prog w=.ok (.bool (sameE x1 x2 y1 y2)) w:=run_eq_end
  have HL:Hid (x.ne=t.1.length∧x.nj=t.2.1.length∧x.nb=t.2.2.1.length∧x.nr=t.2.2.2.length):=qh ⟨ht.e.len,ht.j.len,ht.b.len,ht.r.len⟩
  obtain⟨Ae,ne,ce,Aj,nj,cj,Ab,nb,cb,Ar,nr,cr⟩:=x
  simp only[TA.cs] at HT HEn HRd HL ⊢
  have hns:=hs
  obtain⟨hn1,hn2,hn3,hn4,hn5⟩:=hns
  simp only at hn1 hn2 hn3 hn4
  have HP5:=qh hn5
  have HJo:Hid (∀(k:Nat) (A:Option Addr) (a1 a2 b1 b2:Int) W,Keep Never w W→A=Aj→k≤nj→Calls Tryz.prog 109 #[.slice A k cj,.agg #[.int .i64 a1,.int .i64 a2],.agg #[.int .i64 b1,.int .i64 b2]] W fun e w'=>e=.returned (.bool (joinB (t.2.1.take k) (a1,a2) (b1,b2)))∧Keep Never W w'):=qh (fun k A a1 a2 b1 b2 W hk hA hkn=>by subst hA;exact rjoined_any A k cj B (t.2.1.take k) (a1,a2) (b1,b2) W (Sl.front ((ht.keep hk).j) hkn) (by omega))
  obtain⟨w1,hw1⟩:∃wb:World,w.alloc (.cells #[.slice Ae ne ce,.slice Aj nj cj,.slice Ab nb cb,.slice Ar nr cr] 27)=wb:=⟨_,rfl⟩
  have k1:Keep Never w w1:=by rw[←hw1];exact(Keep.refl _ _).alloc _
  have b1:=Blk.new w 27 #[.slice Ae ne ce,.slice Aj nj cj,.slice Ab nb cb,.slice Ar nr cr]
  rw[hw1] at b1
  have HB1:=qh b1
  have HK:=qh k1
  obtain⟨y0,y1,y2,y3⟩:=bc4 HB1.out
  clear k1 b1 ht hs hB hn5
  by_cases g1:40<ne
  ·have t1:decide ((ne:Int)>40)=true:=by simp;omega
   have HF:Hid (checkM t=2):=qh (by unfold checkM;rw[if_pos (.inl (by rw[←HL.out.1];exact g1))])
   clear g1
   go_enter Tryz.func48, Tryz.ntmps48
   go_wp2_with fail
   go_ret
   exact⟨by rw[HF.out];rfl,HK.out⟩
  have t1:decide ((ne:Int)>40)=false:=by simp;omega
  by_cases g2:80<nj
  ·have t2:decide ((nj:Int)>80)=true:=by simp;omega
   have HF:Hid (checkM t=2):=qh (by unfold checkM;rw[if_pos (.inr (.inl (by rw[←HL.out.2.1];exact g2)))])
   clear g1 g2
   go_enter Tryz.func48, Tryz.ntmps48
   go_wp2_with fail
   go_ret
   exact⟨by rw[HF.out];rfl,HK.out⟩
  have t2:decide ((nj:Int)>80)=false:=by simp;omega
  by_cases g3:80<nb
  ·have t3:decide ((nb:Int)>80)=true:=by simp;omega
   have HF:Hid (checkM t=2):=qh (by unfold checkM;rw[if_pos (.inr (.inr (.inl (by rw[←HL.out.2.2.1];exact g3))))])
   clear g1 g2 g3
   go_enter Tryz.func48, Tryz.ntmps48
   go_wp2_with fail
   go_ret
   exact⟨by rw[HF.out];rfl,HK.out⟩
  have t3:decide ((nb:Int)>80)=false:=by simp;omega
  by_cases g4:30<nr
  ·have t4:decide ((nr:Int)>30)=true:=by simp;omega
   have HF:Hid (checkM t=2):=qh (by unfold checkM;rw[if_pos (.inr (.inr (.inr (by rw[←HL.out.2.2.2];exact g4))))])
   clear g1 g2 g3 g4
   go_enter Tryz.func48, Tryz.ntmps48
   go_wp2_with fail
   go_ret
   exact⟨by rw[HF.out];rfl,HK.out⟩
  have t4:decide ((nr:Int)>30)=false:=by simp;omega
  have HN1:Hid (¬(40<t.1.length∨80<t.2.1.length∨80<t.2.2.1.length∨30<t.2.2.2.length)):=qh (by have:=HL.out;omega)
  clear g1 g2 g3 g4
  go_enter Tryz.func48, Tryz.ntmps48
  go_wp2_with fail
  clear y0 y1 y2 y3 t1 t2 t3 t4
  go_loopw [3] (fun i wr=>∃k:Nat,k≤ne∧i=.int .i64 k∧Hid (Keep Never w1 wr∧(t.1.take k).any wrongB=false)) (fun i _=>ne - (intOf i).toNat)
  case atStart=>exact⟨0,by omega,rfl,qh ⟨Keep.refl _ _,rfl⟩⟩
  case round=>
   obtain⟨k,hk,rfl,HH⟩:=hrel
   have y0:wr.cell? ⟨w.heap.size,0,none⟩=some (.slice Ae ne ce):=(HB1.out.keep HH.out.1 (fun h=>h)).cell 0
   by_cases h0:k<ne
   ·have hkz:(k:Int)<(ne:Int):=by omega
    obtain⟨ad2,v,hA2,_,hv,d0⟩:=(int_rd ((HTp.out.keep (HK.out.trans HH.out.1)).e)).at1 h0
    simp only at hA2
    subst hA2
    have HTk:Hid (t.1.take (k+1)=t.1.take k++[v]):=qh (by
     obtain⟨h2,h3⟩:=List.getElem?_eq_some_iff.1 hv
     rw[List.take_succ_eq_append_getElem h2,h3])
    have Hv:=qh hv
    clear hv
    by_cases g1:v<1
    ·have t1:decide (v<1)=true:=by simpa using g1
     have hW:t.1.any wrongB=true:=List.any_eq_true.2 ⟨v,List.mem_of_getElem? Hv.out,by unfold wrongB;rw[t1];rfl⟩
     have HF:Hid (checkM t=1):=qh (by unfold checkM;rw[if_neg HN1.out,if_pos hW])
     clear g1 hW
     go_wp2_with fail
     go_ret
     exact⟨by rw[HF.out];rfl,HK.out.trans HH.out.1⟩
    have t1:decide (v<1)=false:=by simpa using g1
    by_cases g2:v>1000000
    ·have t2:decide (v>1000000)=true:=by simpa using g2
     have hW:t.1.any wrongB=true:=List.any_eq_true.2 ⟨v,List.mem_of_getElem? Hv.out,by unfold wrongB;rw[t1,t2];rfl⟩
     have HF:Hid (checkM t=1):=qh (by unfold checkM;rw[if_neg HN1.out,if_pos hW])
     clear g1 g2 hW
     go_wp2_with fail
     go_ret
     exact⟨by rw[HF.out];rfl,HK.out.trans HH.out.1⟩
    have t2:decide (v>1000000)=false:=by simpa using g2
    have HN:Hid ((t.1.take (k+1)).any wrongB=false):=qh (by
     rw[HTk.out,List.any_append,HH.out.2]
     simp only[List.any_cons,List.any_nil,Bool.or_false,Bool.false_or]
     unfold wrongB;rw[t1,t2];rfl)
    clear g1 g2
    go_wp2_with fail
    refine⟨⟨k+1,by omega,by go_num,qh ⟨HH.out.1,HN.out⟩⟩,?_⟩
    simp[intOf];try omega
   ·obtain rfl:ne=k:=by omega
    have hkz:¬(ne:Int)<(ne:Int):=by omega
    have HWf:Hid (t.1.any wrongB=false):=qh (by have:=HH.out.2;rwa [List.take_of_length_le (by rw[←HL.out.1];exact Nat.le_refl _)] at this)
    have HN2:Hid (¬t.1.any wrongB=true):=qh (by rw[HWf.out];simp)
    have HK2:=qh HH.out.1
    clear HH h0
    go_wp2_with fail
    clear y0
    rename World=>wz
    go_loopw [4] (fun i wr=>∃k:Nat,k≤nj∧i=.int .i64 k∧Hid (Keep Never w1 wr∧∀j,j<k→jErr t j=0)) (fun i _=>nj - (intOf i).toNat)
    case atStart=>exact⟨0,by omega,rfl,qh ⟨HK2.out,fun j h=>by omega⟩⟩
    case round=>
     obtain⟨k,hk,rfl,HH⟩:=hrel
     have hb1:=HB1.out.keep HH.out.1 (fun h=>h)
     by_cases h0:k<nj
     ·have hkz:(k:Int)<(nj:Int):=by omega
      obtain⟨ad,j,hA,_,hj,c0,c1,c2,c3⟩:=jt_at (HTp.out.keep (HK.out.trans HH.out.1)).j h0
      subst hA
      obtain⟨⟨x1,x2⟩,x3,x4⟩:=j
      simp only at c0 c1 c2 c3
      have Hj:=qh hj
      obtain⟨y0,y1,y2,y3⟩:=bc4 hb1
      replace c3:wr.cell? ⟨(ad.add (k*4)).block,(ad.add (k*4)).off+2+1,none⟩=some (.int .i64 x4):=c3
      have HS2:Hid (∀W',Keep Never wr W'→Keep Never wr W'∧W'.cell? ⟨w.heap.size,0,none⟩=some (.slice Ae ne ce)∧W'.cell? ⟨w.heap.size,1,none⟩=some (.slice (some ad) nj cj)∧W'.cell? ⟨w.heap.size,2,none⟩=some (.slice Ab nb cb)∧W'.cell? ⟨w.heap.size,3,none⟩=some (.slice Ar nr cr)∧W'.cell? (ad.add (k*4))=some (.int .i64 x1)∧W'.cell? ⟨(ad.add (k*4)).block,(ad.add (k*4)).off+1,none⟩=some (.int .i64 x2)∧W'.cell? ⟨(ad.add (k*4)).block,(ad.add (k*4)).off+2,none⟩=some (.int .i64 x3)∧W'.cell? ⟨(ad.add (k*4)).block,(ad.add (k*4)).off+2+1,none⟩=some (.int .i64 x4)):=qh (fun W' h=>⟨h,keepT h y0,keepT h y1,keepT h y2,keepT h y3,keepT h c0,keepT h c1,keepT h c2,keepT h c3⟩)
      clear hj hb1
      go_wp2_with fail
      clear y0 y1 y2 y3 c0 c1 c2 c3
      go_region_held3 (fun W'=>Keep Never wr W'∧W'.cell? ⟨w.heap.size,0,none⟩=some (.slice Ae ne ce)∧W'.cell? ⟨w.heap.size,1,none⟩=some (.slice (some ad) nj cj)∧W'.cell? ⟨w.heap.size,2,none⟩=some (.slice Ab nb cb)∧W'.cell? ⟨w.heap.size,3,none⟩=some (.slice Ar nr cr)∧W'.cell? (ad.add (k*4))=some (.int .i64 x1)∧W'.cell? ⟨(ad.add (k*4)).block,(ad.add (k*4)).off+1,none⟩=some (.int .i64 x2)∧W'.cell? ⟨(ad.add (k*4)).block,(ad.add (k*4)).off+2,none⟩=some (.int .i64 x3)∧W'.cell? ⟨(ad.add (k*4)).block,(ad.add (k*4)).off+2+1,none⟩=some (.int .i64 x4))
        (first| assumption | exact HS2.out _ ((Keep.refl Never wr).drew) | exact HS2.out _ (Keep.trans (And.left (by assumption)) hk3) | exact HS2.out _ (Keep.trans ((Keep.refl Never wr).drew) hk3))
        (first
          | (go_at_call 108; refine(HEn.out x1 x2 _).mono ?_;rintro e w3 ⟨rfl,hk3⟩))
      rename_i hS
      (try rename World=>w5)
      obtain⟨hK5,y0,y1,y2,y3,c0,c1,c2,c3⟩:=hS
      have HK3:=qh (HH.out.1.trans hK5)
      clear HS2 hK5
      (try clear hk3)
      have HS2:Hid (∀W',Keep Never w5 W'→Keep Never w5 W'∧W'.cell? ⟨w.heap.size,0,none⟩=some (.slice Ae ne ce)∧W'.cell? ⟨w.heap.size,1,none⟩=some (.slice (some ad) nj cj)∧W'.cell? ⟨w.heap.size,2,none⟩=some (.slice Ab nb cb)∧W'.cell? ⟨w.heap.size,3,none⟩=some (.slice Ar nr cr)∧W'.cell? (ad.add (k*4))=some (.int .i64 x1)∧W'.cell? ⟨(ad.add (k*4)).block,(ad.add (k*4)).off+1,none⟩=some (.int .i64 x2)∧W'.cell? ⟨(ad.add (k*4)).block,(ad.add (k*4)).off+2,none⟩=some (.int .i64 x3)∧W'.cell? ⟨(ad.add (k*4)).block,(ad.add (k*4)).off+2+1,none⟩=some (.int .i64 x4)):=qh (fun W' h=>⟨h,keepT h y0,keepT h y1,keepT h y2,keepT h y3,keepT h c0,keepT h c1,keepT h c2,keepT h c3⟩)
      go_wp2_with fail
      clear y0 y1 y2 y3 c0 c1 c2 c3
      go_region_held3 (fun W'=>Keep Never w5 W'∧W'.cell? ⟨w.heap.size,0,none⟩=some (.slice Ae ne ce)∧W'.cell? ⟨w.heap.size,1,none⟩=some (.slice (some ad) nj cj)∧W'.cell? ⟨w.heap.size,2,none⟩=some (.slice Ab nb cb)∧W'.cell? ⟨w.heap.size,3,none⟩=some (.slice Ar nr cr)∧W'.cell? (ad.add (k*4))=some (.int .i64 x1)∧W'.cell? ⟨(ad.add (k*4)).block,(ad.add (k*4)).off+1,none⟩=some (.int .i64 x2)∧W'.cell? ⟨(ad.add (k*4)).block,(ad.add (k*4)).off+2,none⟩=some (.int .i64 x3)∧W'.cell? ⟨(ad.add (k*4)).block,(ad.add (k*4)).off+2+1,none⟩=some (.int .i64 x4))
        (first| assumption | exact HS2.out _ ((Keep.refl Never w5).drew) | exact HS2.out _ (Keep.trans (And.left (by assumption)) hk3) | exact HS2.out _ (Keep.trans ((Keep.refl Never w5).drew) hk3))
        (first
          | (go_at_call 108; refine(HEn.out x3 x4 _).mono ?_;rintro e w3 ⟨rfl,hk3⟩))
      rename_i hS
      (try rename World=>w6)
      obtain⟨hK6,y0,y1,y2,y3,c0,c1,c2,c3⟩:=hS
      have HK4:=qtr HK3 hK6
      clear HS2 hK6
      (try clear hk3)
      cases he1:endB ne (x1,x2) with
      | false=>
       have HZ1:Hid (jErr t k=1):=qh (by unfold jErr;rw[Hj.out];simp only;rw[←HL.out.1,if_pos (.inl he1)])
       have HF:Hid (checkM t=1):=qh (by
        have h2:firstE (jErr t) t.2.1.length=1:=firstE_at (k:=0) (by rw[←HL.out.2.1];exact h0) HH.out.2 HZ1.out (by decide)
        unfold checkM;rw[if_neg HN1.out,if_neg HN2.out,h2,if_pos (by decide)])
       clear he1
       go_wp2_with fail
       go_quiet (fail)
       go_wp2_with fail
       go_ret
       exact⟨by rw[HF.out];rfl,(HK.out.trans HK4.out).drewN _⟩
      | true=>
       cases he2:endB ne (x3,x4) with
       | false=>
        have HZ1:Hid (jErr t k=1):=qh (by unfold jErr;rw[Hj.out];simp only;rw[←HL.out.1,if_pos (.inr (.inl he2))])
        have HF:Hid (checkM t=1):=qh (by
         have h2:firstE (jErr t) t.2.1.length=1:=firstE_at (k:=0) (by rw[←HL.out.2.1];exact h0) HH.out.2 HZ1.out (by decide)
         unfold checkM;rw[if_neg HN1.out,if_neg HN2.out,h2,if_pos (by decide)])
        clear he1 he2
        go_wp2_with fail
        go_quiet (fail)
        go_wp2_with fail
        go_ret
        exact⟨by rw[HF.out];rfl,(HK.out.trans HK4.out).drewN _⟩
       | true=>
        cases he3:sameE x1 x2 x3 x4 with
        | true=>
         have hxx:x1=x3∧x2=x4:=by unfold sameE at he3;simpa using he3
         have HZ1:Hid (jErr t k=1):=qh (by unfold jErr;rw[Hj.out];simp only;rw[←HL.out.1,if_pos (.inr (.inr (by rw[hxx.1,hxx.2])))])
         have HF:Hid (checkM t=1):=qh (by
          have h2:firstE (jErr t) t.2.1.length=1:=firstE_at (k:=0) (by rw[←HL.out.2.1];exact h0) HH.out.2 HZ1.out (by decide)
          unfold checkM;rw[if_neg HN1.out,if_neg HN2.out,h2,if_pos (by decide)])
         clear he1 he2 hxx
         go_wp2_with fail
         go_quiet (fail)
         go_wp2_with fail
         go_ret
         exact⟨by rw[HF.out];rfl,(HK.out.trans HK4.out).drewN _⟩
        | false=>
         have HNb:Hid (¬(endB t.1.length (x1,x2)=false∨endB t.1.length (x3,x4)=false∨((x1,x2):En)=(x3,x4))):=qh (by
          rw[←HL.out.1,he1,he2]
          unfold sameE at he3
          simp only[Bool.true_eq_false,false_or]
          exact of_decide_eq_false he3)
         clear he1 he2
         have HFc:=qh (And.intro c0 (And.intro c1 (And.intro c2 c3)))
         go_wp2_with fail
         go_quiet (fail)
         clear he3 y0 y1 y2 y3 c0 c1 c2 c3
         obtain⟨w7,hw7⟩:∃W,w6.drewN nq=W:=⟨_,rfl⟩
         rw[hw7]
         have hk7:Keep Never w6 w7:=by rw[←hw7];exact(Keep.refl Never w6).drewN _
         have HK7:=qtr HK4 hk7
         have hb1:=HB1.out.keep HK7.out (fun h=>h)
         obtain⟨y0,y1,y2,y3⟩:=bc4 hb1
         have c0:=keepT hk7 HFc.out.1
         have c1:=keepT hk7 HFc.out.2.1
         have c2:=keepT hk7 HFc.out.2.2.1
         have c3:=keepT hk7 HFc.out.2.2.2
         have hq:=run_front Tryz.underlying23 Tryz.sizeOf134 (some ad) nj cj k hk HTp.out.j.cap
         have HJk:=qh (fun W (h:Keep Never w7 W)=>HJo.out k (some ad) x1 x2 x3 x4 W (HK.out.trans (HK7.out.trans h)) rfl hk)
         clear hk7 hb1 hw7
         have HS2:Hid (∀W',Keep Never w7 W'→Keep Never w7 W'∧W'.cell? ⟨w.heap.size,0,none⟩=some (.slice Ae ne ce)∧W'.cell? ⟨w.heap.size,1,none⟩=some (.slice (some ad) nj cj)∧W'.cell? ⟨w.heap.size,2,none⟩=some (.slice Ab nb cb)∧W'.cell? ⟨w.heap.size,3,none⟩=some (.slice Ar nr cr)∧W'.cell? (ad.add (k*4))=some (.int .i64 x1)∧W'.cell? ⟨(ad.add (k*4)).block,(ad.add (k*4)).off+1,none⟩=some (.int .i64 x2)∧W'.cell? ⟨(ad.add (k*4)).block,(ad.add (k*4)).off+2,none⟩=some (.int .i64 x3)∧W'.cell? ⟨(ad.add (k*4)).block,(ad.add (k*4)).off+2+1,none⟩=some (.int .i64 x4)):=qh (fun W' h=>⟨h,keepT h y0,keepT h y1,keepT h y2,keepT h y3,keepT h c0,keepT h c1,keepT h c2,keepT h c3⟩)
         go_wp2_with fail
         clear y0 y1 y2 y3 c0 c1 c2 c3
         go_region_held3 (fun W'=>Keep Never w7 W'∧W'.cell? ⟨w.heap.size,0,none⟩=some (.slice Ae ne ce)∧W'.cell? ⟨w.heap.size,1,none⟩=some (.slice (some ad) nj cj)∧W'.cell? ⟨w.heap.size,2,none⟩=some (.slice Ab nb cb)∧W'.cell? ⟨w.heap.size,3,none⟩=some (.slice Ar nr cr)∧W'.cell? (ad.add (k*4))=some (.int .i64 x1)∧W'.cell? ⟨(ad.add (k*4)).block,(ad.add (k*4)).off+1,none⟩=some (.int .i64 x2)∧W'.cell? ⟨(ad.add (k*4)).block,(ad.add (k*4)).off+2,none⟩=some (.int .i64 x3)∧W'.cell? ⟨(ad.add (k*4)).block,(ad.add (k*4)).off+2+1,none⟩=some (.int .i64 x4))
           (first| assumption | exact HS2.out _ ((Keep.refl Never w7).drew) | exact HS2.out _ (Keep.trans (And.left (by assumption)) hk3) | exact HS2.out _ (Keep.trans ((Keep.refl Never w7).drew) hk3))
           (first
             | (go_at_call 109; refine(HJk.out _ (by first | exact And.left (by assumption) | exact(Keep.refl Never w7).drew | exact Keep.refl Never w7)).mono ?_;rintro e w3 ⟨rfl,hk3⟩))
         rename_i hS
         (try rename World=>w8)
         have HK8:=qh (HK7.out.trans hS.1)
         clear HS2 hS hq HJk
         (try clear hk3)
         cases hjb:joinB (t.2.1.take k) (x1,x2) (x3,x4) with
         | true=>
          have HZ1:Hid (jErr t k=5):=qh (by unfold jErr;rw[Hj.out];simp only;rw[if_neg HNb.out,if_pos hjb])
          have HF:Hid (checkM t=5):=qh (by
           have h2:firstE (jErr t) t.2.1.length=5:=firstE_at (k:=0) (by rw[←HL.out.2.1];exact h0) HH.out.2 HZ1.out (by decide)
           unfold checkM;rw[if_neg HN1.out,if_neg HN2.out,h2,if_pos (by decide)])
          clear hjb
          go_wp2_with fail
          go_ret
          exact⟨by rw[HF.out];rfl,HK.out.trans HK8.out⟩
         | false=>
          have HZ1:Hid (jErr t k=0):=qh (by unfold jErr;rw[Hj.out];simp only;rw[if_neg HNb.out,if_neg (by rw[hjb];simp)])
          clear hjb
          go_wp2_with fail
          refine⟨⟨k+1,by omega,by go_num,qh ⟨HK8.out,fun j hj=>?_⟩⟩,?_⟩
          ·by_cases e:j=k
           ·rw[e];exact HZ1.out
           ·exact HH.out.2 j (by omega)
          ·simp[intOf];try omega
     ·obtain rfl:nj=k:=by omega
      have hkz:¬(nj:Int)<(nj:Int):=by omega
      have HN3:Hid (¬firstE (jErr t) t.2.1.length≠0):=qh (by rw[firstE_zero (fun j hj=>HH.out.2 j (by rw[HL.out.2.1];exact hj))];simp)
      have HK2:=qh HH.out.1
      have y1:wr.cell? ⟨w.heap.size,1,none⟩=some (.slice Aj nj cj):=hb1.cell 1
      clear HH h0 hb1
      go_wp2_with fail
      clear y1
      rename World=>wz
      go_loopw [8] (fun i wr=>∃q:Nat,q≤nb∧i=.int .i64 q∧Hid (Keep Never w1 wr∧∀j,j<q→bErr t j=0)) (fun i _=>nb - (intOf i).toNat)
      case atStart=>exact⟨0,by omega,rfl,qh ⟨HK2.out,fun j h=>by omega⟩⟩
      case round=>
       obtain⟨k,hk,rfl,HH⟩:=hrel
       have y2:wr.cell? ⟨w.heap.size,2,none⟩=some (.slice Ab nb cb):=(HB1.out.keep HH.out.1 (fun h=>h)).cell 2
       by_cases h0:k<nb
       ·have hkz:(k:Int)<(nb:Int):=by omega
        obtain⟨ad,b,hA,_,hb,c0,c1,c2⟩:=(bl_rd (HTp.out.keep (HK.out.trans HH.out.1)).b).sp h0
        simp only at hA
        subst hA
        obtain⟨x1,x2,x3⟩:=b
        simp only at c0 c1 c2
        obtain⟨W1,hW1⟩:∃W:World,wr.alloc (.cells #[.int .i64 x1,.int .i64 x2,.int .i64 x3] 94)=W:=⟨_,rfl⟩
        have K1:Keep Never wr W1:=by rw[←hW1];exact(Keep.refl _ _).alloc _
        have B1:=Blk.new wr 94 #[.int .i64 x1,.int .i64 x2,.int .i64 x3]
        rw[hW1] at B1
        obtain⟨bq,hbq⟩:∃q,wr.heap.size=q:=⟨_,rfl⟩
        rw[hbq] at B1
        have HKW:=qh (HH.out.1.trans K1)
        have HBb:=qh B1
        have d1:W1.cell? ⟨bq,1,none⟩=some (.int .i64 x2):=B1.cell 1
        have d0:W1.cell? ⟨bq,0,none⟩=some (.int .i64 x1):=B1.cell 0
        have d2:W1.cell? ⟨bq,2,none⟩=some (.int .i64 x3):=B1.cell 2
        have hb1:=HB1.out.keep HKW.out (fun h=>h)
        have y2o:=y2
        clear y2
        obtain⟨y0,y1,y2,y3⟩:=bc4 hb1
        have Hb:=qh hb
        have HBe:Hid ((x1<0∨16777214<x1∨thereB ne x2=false∨x3<0∨t.1.getD x2.toNat 0<x3)→checkM t=1):=qh (fun h=>by
         have h1:bErr t k=1:=by unfold bErr;rw[hb];simp only;rw[←HL.out.1,if_pos h]
         have h2:firstE (bErr t) t.2.2.1.length=1:=firstE_at (k:=0) (by rw[←HL.out.2.2.1];exact h0) HH.out.2 h1 (by decide)
         unfold checkM;rw[if_neg HN1.out,if_neg HN2.out,if_neg HN3.out,h2,if_pos (by decide)])
        have hTt:=qh (HT.out x2 W1)
        clear hb K1 B1 hb1
        go_wp2_with fail
        refine hTt.out.mono ?_
        rintro e w4 ⟨rfl,hk4⟩
        have HK4:=qtr HKW hk4
        have HBb4:=qkb HBb hk4
        clear hk4 hTt c0 c1 c2 hW1 y2o d0 d1 d2 y0 y1 y2 y3 hbq
        obtain⟨d0,d1,d2⟩:=bc3 HBb4.out
        have y0:w4.cell? ⟨w.heap.size,0,none⟩=some (.slice Ae ne ce):=(HB1.out.keep HK4.out (fun h=>h)).cell 0
        by_cases g1:x1<0
        ·have t1:decide (x1<0)=true:=by simpa using g1
         have HF:=qh (HBe.out (.inl g1))
         clear g1
         go_wp2_with fail
         go_quiet (fail)
         go_wp2_with fail
         go_ret
         exact⟨by rw[HF.out];rfl,(HK.out.trans HK4.out).drewN _⟩
        have t1':decide (x1<0)=false:=by simpa using g1
        by_cases g2:16777214<x1
        ·have t1:decide (x1>16777214)=true:=by simpa using g2
         have HF:=qh (HBe.out (.inr (.inl g2)))
         clear g1 g2
         go_wp2_with fail
         go_quiet (fail)
         go_wp2_with fail
         go_ret
         exact⟨by rw[HF.out];rfl,(HK.out.trans HK4.out).drewN _⟩
        have t2':decide (x1>16777214)=false:=by simpa using g2
        cases g3:thereB ne x2 with
        | false=>
         have t1:True:=trivial
         have HF:=qh (HBe.out (.inr (.inr (.inl g3))))
         clear g1 g2 g3
         go_wp2_with fail
         go_quiet (fail)
         go_wp2_with fail
         go_ret
         exact⟨by rw[HF.out];rfl,(HK.out.trans HK4.out).drewN _⟩
        | true=>
         by_cases g4:x3<0
         ·have t1:decide (x3<0)=true:=by simpa using g4
          have HF:=qh (HBe.out (.inr (.inr (.inr (.inl g4)))))
          clear g1 g2 g3 g4
          go_wp2_with fail
          go_quiet (fail)
          go_wp2_with fail
          go_ret
          exact⟨by rw[HF.out];rfl,(HK.out.trans HK4.out).drewN _⟩
         have t4':decide (x3<0)=false:=by simpa using g4
         have hth:0≤x2∧x2<(ne:Int):=by unfold thereB at g3;simpa using g3
         obtain⟨m,rfl⟩:∃m:Nat,x2=(m:Int):=⟨x2.toNat,by omega⟩
         have hmn:m<ne:=by omega
         have hmz:(m:Int)<(ne:Int):=by omega
         obtain⟨ad2,v,hA2,_,hv,e0⟩:=(int_rd ((HTp.out.keep (HK.out.trans HK4.out)).e)).at1 hmn
         simp only at hA2
         subst hA2
         have hgd:t.1.getD (m:Int).toNat 0=v:=by rw[Int.toNat_natCast,List.getD_eq_getElem?_getD,hv];rfl
         rw[hgd] at HBe
         clear hv
         by_cases g5:v<x3
         ·have t1:decide (x3>v)=true:=by simpa using g5
          have HF:=qh (HBe.out (.inr (.inr (.inr (.inr g5)))))
          clear g1 g2 g3 g4 g5 hth
          go_wp2_with fail
          go_quiet (fail)
          go_wp2_with fail
          go_ret
          exact⟨by rw[HF.out];rfl,(HK.out.trans HK4.out).drewN _⟩
         have t5':decide (x3>v)=false:=by simpa using g5
         have HNb:Hid (¬(x1<0∨16777214<x1∨thereB t.1.length (m:Int)=false∨x3<0∨t.1.getD (m:Int).toNat 0<x3)):=qh (by
          rw[hgd,←HL.out.1,g3]
          rintro(h | h | h | h | h)
          ·exact g1 h
          ·exact g2 h
          ·cases h
          ·exact g4 h
          ·exact g5 h)
         clear g1 g2 g3 g4 g5 hth hgd
         go_wp2_with fail
         go_quiet (fail)
         clear t1' t2' t4' t5' e0 y0 d0 d1 d2
         obtain⟨w7,hw7⟩:∃W,w4.drewN nq=W:=⟨_,rfl⟩
         rw[hw7]
         have hk7:Keep Never w4 w7:=by rw[←hw7];exact(Keep.refl Never w4).drewN _
         have HK7:=qtr HK4 hk7
         have HBb7:=qkb HBb4 hk7
         clear hk7 hw7
         go_wp2_with fail
         go_loopw [11] (fun i wr=>∃j:Nat,j≤k∧i=.int .i64 j∧Hid (Keep Never w7 wr∧∀y∈t.2.2.1.take j,y.1≠x1)) (fun i _=>k - (intOf i).toNat)
         case atStart=>exact⟨0,by omega,rfl,qh ⟨Keep.refl _ _,by simp⟩⟩
         case round=>
          obtain⟨j,hj,rfl,HJ⟩:=hrel
          by_cases h1:j<k
          ·have hjz:(j:Int)<(k:Int):=by omega
           have hj1:j<nb:=by omega
           have hjn:(j:Int)<(nb:Int):=by omega
           obtain⟨ad6,b,hA6,_,hv,f0,_,_⟩:=(bl_rd (HTp.out.keep (HK.out.trans (HK7.out.trans HJ.out.1))).b).sp hj1
           simp only at hA6
           injection hA6 with hA6
           subst hA6
           obtain⟨o1,o2,o3⟩:=b
           simp only at f0
           have Hv:=qh hv
           have d0:wr.cell? ⟨bq,0,none⟩=some (.int .i64 x1):=(HBb7.out.keep HJ.out.1 (fun h=>h)).cell 0
           have y2:wr.cell? ⟨w.heap.size,2,none⟩=some (.slice (some ad) nb cb):=(HB1.out.keep (HK7.out.trans HJ.out.1) (fun h=>h)).cell 2
           clear hv
           by_cases gq:o1=x1
           ·have t1:(o1==x1)=true:=by simpa using gq
            have HZ1:Hid (bErr t k=5):=qh (by
             unfold bErr;rw[Hb.out];simp only;rw[if_neg HNb.out,if_pos]
             unfold balM
             rw[List.find?_isSome]
             refine⟨(o1,o2,o3),?_,by simpa using gq⟩
             rw[List.mem_iff_getElem?]
             exact⟨j,by rw[List.getElem?_take,if_pos h1];exact Hv.out⟩)
            have HF:Hid (checkM t=5):=qh (by
             have h2:firstE (bErr t) t.2.2.1.length=5:=firstE_at (k:=0) (by rw[←HL.out.2.2.1];exact h0) HH.out.2 HZ1.out (by decide)
             unfold checkM;rw[if_neg HN1.out,if_neg HN2.out,if_neg HN3.out,h2,if_pos (by decide)])
            clear gq
            go_wp2_with fail
            go_quiet (fail)
            go_wp2_with fail
            go_ret
            exact⟨by rw[HF.out];rfl,(HK.out.trans (HK7.out.trans HJ.out.1)).drewN _⟩
           ·have t1:(o1==x1)=false:=by simpa using gq
            have HN:Hid (∀y∈t.2.2.1.take (j+1),y.1≠x1):=qh (all_take Hv.out HJ.out.2 gq)
            clear gq
            go_wp2_with fail
            go_quiet (fail)
            go_wp2_with fail
            refine⟨⟨j+1,by omega,by go_num,qh ⟨HJ.out.1.drewN _,HN.out⟩⟩,?_⟩
            simp[intOf];try omega
          ·obtain rfl:j=k:=by omega
           have hjz:¬(j:Int)<(j:Int):=by omega
           have HZ1:Hid (bErr t j=0):=qh (by
            unfold bErr;rw[Hb.out];simp only;rw[if_neg HNb.out,if_neg]
            unfold balM
            rw[List.find?_isSome]
            rintro⟨y,hy,e⟩
            exact HJ.out.2 y hy (by simpa using e))
           go_wp2_with fail
           refine⟨⟨j+1,by omega,by go_num,qh ⟨HK7.out.trans HJ.out.1,fun i hi=>?_⟩⟩,?_⟩
           ·by_cases e:i=j
            ·rw[e];exact HZ1.out
            ·exact HH.out.2 i (by omega)
           ·simp[intOf];try omega
       ·obtain rfl:nb=k:=by omega
        have hkz:¬(nb:Int)<(nb:Int):=by omega
        have HN4:Hid (¬firstE (bErr t) t.2.2.1.length≠0):=qh (by rw[firstE_zero (fun j hj=>HH.out.2 j (by rw[HL.out.2.2.1];exact hj))];simp)
        have HK2:=qh HH.out.1
        clear HH h0
        go_wp2_with fail
        clear y2
        rename World=>wz
        go_loopw [12] (fun i wr=>∃q:Nat,q≤nr∧i=.int .i64 q∧Hid (Keep Never w1 wr∧∀j,j<q→rErr t j=0)) (fun i _=>nr - (intOf i).toNat)
        case atStart=>exact⟨0,by omega,rfl,qh ⟨HK2.out,fun j h=>by omega⟩⟩
        case round=>
         obtain⟨k,hk,rfl,HH⟩:=hrel
         have hb1:=HB1.out.keep HH.out.1 (fun h=>h)
         by_cases h0:k<nr
         ·have hkz:(k:Int)<(nr:Int):=by omega
          obtain⟨ad,r,A2,n2,d2,hA,_,hr,c0,c1,c2,c3,hsl⟩:=rt_at2 (HTp.out.keep (HK.out.trans HH.out.1)).r h0
          simp only at hA
          subst hA
          obtain⟨x1,p,x2,x3⟩:=r
          simp only at c0 c1 c2 c3 hsl
          have hn2:n2≤100000000:=by have h5:p.length≤100000000:=HP5.out _ (List.mem_of_getElem? hr);have:=hsl.len;omega
          have HRc:=qh (fun W (h:Keep Never wr W)=>HRd.out (x1,p,x2,x3) A2 n2 d2 W (HK.out.trans (HH.out.1.trans h)) (hsl.keep h (fun _ h=>h.elim)) hn2 HWf.out)
          obtain⟨re,hre⟩:∃z,routedM t (x1,p,x2,x3)=z:=⟨_,rfl⟩
          rw[hre] at HRc
          have HRe:=qh hre
          have Hr:=qh hr
          obtain⟨y0,y1,y2,y3⟩:=bc4 hb1
          have HS2:Hid (∀W',Keep Never wr W'→Keep Never wr W'∧W'.cell? ⟨w.heap.size,0,none⟩=some (.slice Ae ne ce)∧W'.cell? ⟨w.heap.size,1,none⟩=some (.slice Aj nj cj)∧W'.cell? ⟨w.heap.size,2,none⟩=some (.slice Ab nb cb)∧W'.cell? ⟨w.heap.size,3,none⟩=some (.slice (some ad) nr cr)∧W'.cell? (ad.add (k*4))=some (.int .i64 x1)∧W'.cell? ⟨(ad.add (k*4)).block,(ad.add (k*4)).off+1,none⟩=some (.slice A2 n2 d2)∧W'.cell? ⟨(ad.add (k*4)).block,(ad.add (k*4)).off+2,none⟩=some (.int .i64 x2)∧W'.cell? ⟨(ad.add (k*4)).block,(ad.add (k*4)).off+3,none⟩=some (.int .i64 x3)):=qh (fun W' h=>⟨h,keepT h y0,keepT h y1,keepT h y2,keepT h y3,keepT h c0,keepT h c1,keepT h c2,keepT h c3⟩)
          clear hr hre hsl hb1 hn2
          go_wp2_with fail
          clear y0 y1 y2 y3 c0 c1 c2 c3
          go_region_held3 (fun W'=>Keep Never wr W'∧W'.cell? ⟨w.heap.size,0,none⟩=some (.slice Ae ne ce)∧W'.cell? ⟨w.heap.size,1,none⟩=some (.slice Aj nj cj)∧W'.cell? ⟨w.heap.size,2,none⟩=some (.slice Ab nb cb)∧W'.cell? ⟨w.heap.size,3,none⟩=some (.slice (some ad) nr cr)∧W'.cell? (ad.add (k*4))=some (.int .i64 x1)∧W'.cell? ⟨(ad.add (k*4)).block,(ad.add (k*4)).off+1,none⟩=some (.slice A2 n2 d2)∧W'.cell? ⟨(ad.add (k*4)).block,(ad.add (k*4)).off+2,none⟩=some (.int .i64 x2)∧W'.cell? ⟨(ad.add (k*4)).block,(ad.add (k*4)).off+3,none⟩=some (.int .i64 x3))
            (first| assumption | exact HS2.out _ ((Keep.refl Never wr).drew) | exact HS2.out _ (Keep.trans (And.left (by assumption)) hk3) | exact HS2.out _ (Keep.trans ((Keep.refl Never wr).drew) hk3))
            (first
              | (go_at_call 111; refine(HRc.out _ (by first | exact And.left (by assumption) | exact(Keep.refl Never wr).drew | exact Keep.refl Never wr)).mono ?_;rintro e w3 ⟨rfl,hk3⟩))
          rename_i hS
          (try rename World=>w8)
          have HK8:=qh (HH.out.1.trans hS.1)
          clear HS2 hS HRc
          (try clear hk3)
          by_cases g0:re=0
          case neg=>
           have t0:(re != 0)=true:=by simpa using g0
           have t0':(re==0)=false:=by simpa using g0
           have HF:Hid (checkM t=re):=qh (by
            have h1:rErr t k=re:=by unfold rErr;rw[Hr.out];simp only;rw[HRe.out,if_pos g0]
            have h2:firstE (rErr t) t.2.2.2.length=re:=firstE_at (k:=0) (by rw[←HL.out.2.2.2];exact h0) HH.out.2 h1 g0
            unfold checkM;rw[if_neg HN1.out,if_neg HN2.out,if_neg HN3.out,if_neg HN4.out,h2])
           clear g0
           go_wp2_with fail
           go_ret
           exact⟨by rw[HF.out];rfl,HK.out.trans HK8.out⟩
          subst g0
          go_wp2_with fail
          go_loopw [14] (fun i wr=>∃j:Nat,j≤k∧i=.int .i64 j∧Hid (Keep Never w8 wr∧∀y∈t.2.2.2.take j,y.1≠x1)) (fun i _=>k - (intOf i).toNat)
          case atStart=>exact⟨0,by omega,rfl,qh ⟨Keep.refl _ _,by simp⟩⟩
          case round=>
           obtain⟨j,hj,rfl,HJ⟩:=hrel
           by_cases h1:j<k
           ·have hjz:(j:Int)<(k:Int):=by omega
            have hj1:j<nr:=by omega
            have hjn:(j:Int)<(nr:Int):=by omega
            have htp:=(HTp.out.keep (HK.out.trans (HK8.out.trans HJ.out.1))).r
            obtain⟨ad6,b,_,_,_,hA6,_,hv,f0,_,_,_,_⟩:=rt_at2 htp hj1
            obtain⟨ad7,b7,_,_,_,hA7,_,hu,e0,_,_,_,_⟩:=rt_at2 htp h0
            simp only at hA6 hA7
            injection hA6 with hA6
            injection hA7 with hA7
            subst hA6 hA7
            rw[Hr.out] at hu
            injection hu with hu
            subst hu
            obtain⟨o1,o2,o3,o4⟩:=b
            simp only at f0 e0
            have Hv:=qh hv
            have y3:wr.cell? ⟨w.heap.size,3,none⟩=some (.slice (some ad) nr cr):=(HB1.out.keep (HK8.out.trans HJ.out.1) (fun h=>h)).cell 3
            clear hv htp
            by_cases gq:o1=x1
            ·have t1:(o1==x1)=true:=by simpa using gq
             have HZ1:Hid (rErr t k=5):=qh (by
              unfold rErr;rw[Hr.out];simp only;rw[if_neg (by rw[HRe.out];simp),if_pos]
              unfold rtM
              rw[List.find?_isSome]
              refine⟨(o1,o2,o3,o4),?_,by simpa using gq⟩
              rw[List.mem_iff_getElem?]
              exact⟨j,by rw[List.getElem?_take,if_pos h1];exact Hv.out⟩)
             have HF:Hid (checkM t=5):=qh (by
              have h2:firstE (rErr t) t.2.2.2.length=5:=firstE_at (k:=0) (by rw[←HL.out.2.2.2];exact h0) HH.out.2 HZ1.out (by decide)
              unfold checkM;rw[if_neg HN1.out,if_neg HN2.out,if_neg HN3.out,if_neg HN4.out,h2])
             clear gq
             go_wp2_with fail
             go_quiet (fail)
             go_wp2_with fail
             go_ret
             exact⟨by rw[HF.out];rfl,(HK.out.trans (HK8.out.trans HJ.out.1)).drewN _⟩
            ·have t1:(o1==x1)=false:=by simpa using gq
             have HN:Hid (∀y∈t.2.2.2.take (j+1),y.1≠x1):=qh (all_take Hv.out HJ.out.2 gq)
             clear gq
             go_wp2_with fail
             go_quiet (fail)
             go_wp2_with fail
             refine⟨⟨j+1,by omega,by go_num,qh ⟨HJ.out.1.drewN _,HN.out⟩⟩,?_⟩
             simp[intOf];try omega
           ·obtain rfl:j=k:=by omega
            have hjz:¬(j:Int)<(j:Int):=by omega
            have HZ1:Hid (rErr t j=0):=qh (by
             unfold rErr;rw[Hr.out];simp only;rw[if_neg (by rw[HRe.out];simp),if_neg]
             unfold rtM
             rw[List.find?_isSome]
             rintro⟨y,hy,e⟩
             exact HJ.out.2 y hy (by simpa using e))
            go_wp2_with fail
            refine⟨⟨j+1,by omega,by go_num,qh ⟨HK8.out.trans HJ.out.1,fun i hi=>?_⟩⟩,?_⟩
            ·by_cases e:i=j
             ·rw[e];exact HZ1.out
             ·exact HH.out.2 i (by omega)
            ·simp[intOf];try omega
         ·obtain rfl:nr=k:=by omega
          have hkz:¬(nr:Int)<(nr:Int):=by omega
          have HF:Hid (checkM t=0):=qh (by unfold checkM;rw[if_neg HN1.out,if_neg HN2.out,if_neg HN3.out,if_neg HN4.out,firstE_zero (fun j hj=>HH.out.2 j (by rw[HL.out.2.2.2];exact hj))])
          have HKe:=qh (HK.out.trans HH.out.1)
          have y3:wr.cell? ⟨w.heap.size,3,none⟩=some (.slice Ar nr cr):=hb1.cell 3
          clear HH hb1
          go_wp2_with fail
          go_ret
          exact⟨by rw[HF.out];rfl,HKe.out⟩
end Go.Proofs.YtpapiojicbbheaaGreatDoor

namespace Go.Proofs.YtpapiojicbbheaaGreatDoor
open Go.RowKit
def movedP (p:Ps) (n:Int):Ps:=if p.2.2=true then (p.1,p.2.1 - n,true) else (p.1,p.2.1+n,false)
def beginP (t:Tp) (s:Stp):Ps:=if s.2=true then (s.1,edgeM t s.1,true) else (s.1,0,false)
theorem moved_on (t:Tp) (p:Ps) (n:Int):movedP p n=overP t (p.1,p.2.2) (n+alongP t p):=by
 obtain⟨e,a,r⟩:=p
 cases r <;> simp[movedP,overP,alongP] <;> omega
set_option maxHeartbeats 4000000 in
set_option maxRecDepth 100000 in
theorem rright_any (x:TA) (t:Tp) (B:Nat) (e a:Int) (r:Bool) (w:World) (h:TpAt w B x t) (hs:TpSmall x t) (hB:B≤w.heap.size) :
    Calls Tryz.prog 141 #[.agg x.cs,.agg #[.int .i64 e,.int .i64 a,.bool r]] w fun en w'=>en=.returned (.bool (rightB t (e,a,r)))∧Keep Never w w':=by
  have HCh:=qh (fun (W:World) (hk:Keep Never w W)=>rcheck_any x t B W (h.keep hk) hs (Nat.le_trans hB hk.size))
  have HEl:Hid (x.ne=t.1.length):=qh h.e.len
  have HED:=qh (fun (W:World) (hk:Keep Never w W) (i:Int) (h0:0≤i) (h1:i<(x.ne:Int))=>edge_at (h.keep hk) h0 h1)
  obtain⟨Ae,ne,ce,Aj,nj,cj,Ab,nb,cb,Ar,nr,cr⟩:=x
  simp only[TA.cs] at HCh HEl HED ⊢
  clear h hs hB
  have HR:Hid (rightB t (e,a,r)=(decide (checkM t=0)&&(decide (0≤e)&&decide (e<(ne:Int)))&&decide (0≤a)&&decide (a≤edgeM t e))):=qh (by rw[HEl.out];rfl)
  obtain⟨ck,hck⟩:∃z,checkM t=z:=⟨_,rfl⟩
  rw[hck] at HR HCh
  clear hck
  obtain⟨w1,hw1⟩:∃V:World,w.alloc (.cells #[.slice Ae ne ce,.slice Aj nj cj,.slice Ab nb cb,.slice Ar nr cr] 27)=V:=⟨_,rfl⟩
  have zw1:w1.heap.size=w.heap.size+1:=by rw[←hw1];simp
  have kw1:Keep Never w w1:=by rw[←hw1];exact(Keep.refl _ _).alloc _
  have bw1:=Blk.new w 27 #[.slice Ae ne ce,.slice Aj nj cj,.slice Ab nb cb,.slice Ar nr cr]
  rw[hw1] at bw1
  obtain⟨w2,hw2⟩:∃V:World,w1.alloc (.cells #[.int .i64 e,.int .i64 a,.bool r] 71)=V:=⟨_,rfl⟩
  have kw2:Keep Never w1 w2:=by rw[←hw2];exact(Keep.refl _ _).alloc _
  have bw2:=Blk.new w1 71 #[.int .i64 e,.int .i64 a,.bool r]
  rw[hw2,zw1] at bw2
  have HB1:=qh (bw1.keep kw2 (fun h=>h))
  have HB2:=qh bw2
  have HK:=qh (kw1.trans kw2)
  clear kw1 kw2 bw1 bw2
  have HC:=qh (HCh.out w2 HK.out)
  clear HCh
  by_cases g0:ck=0
  case neg=>
   have t0:(ck==0)=false:=by simpa using g0
   have HF:Hid (rightB t (e,a,r)=false):=qh (by rw[HR.out,decide_eq_false g0];rfl)
   clear g0
   obtain⟨y0,y1,y2,y3⟩:=bc4 HB1.out
   obtain⟨q0,q1,q2⟩:=bc3 HB2.out
   go_enter Tryz.func141, Tryz.ntmps141
   go_wp2_with fail
   refine HC.out.mono ?_
   rintro en w3 ⟨rfl,hk3⟩
   have HK3:=qtr HK hk3
   have HX1:=qkb HB1 hk3
   have HX2:=qkb HB2 hk3
   clear hk3 HC HB1 HB2 y0 y1 y2 y3 q0 q1 q2 hw1 hw2 zw1
   obtain⟨y0,y1,y2,y3⟩:=bc4 HX1.out
   obtain⟨q0,q1,q2⟩:=bc3 HX2.out
   go_wp2_with fail
   go_quiet (fail)
   go_wp2_with fail
   go_ret
   exact⟨by rw[HF.out];rfl,HK3.out.drewN _⟩
  have t0:(ck==0)=true:=by simpa using g0
  by_cases g1:0≤e
  case neg=>
   have t1:decide (e≥0)=false:=by simpa using g1
   have HF:Hid (rightB t (e,a,r)=false):=qh (by rw[HR.out,decide_eq_false g1];simp)
   clear g0 g1
   obtain⟨y0,y1,y2,y3⟩:=bc4 HB1.out
   obtain⟨q0,q1,q2⟩:=bc3 HB2.out
   go_enter Tryz.func141, Tryz.ntmps141
   go_wp2_with fail
   refine HC.out.mono ?_
   rintro en w3 ⟨rfl,hk3⟩
   have HK3:=qtr HK hk3
   have HX1:=qkb HB1 hk3
   have HX2:=qkb HB2 hk3
   clear hk3 HC HB1 HB2 y0 y1 y2 y3 q0 q1 q2 hw1 hw2 zw1
   obtain⟨y0,y1,y2,y3⟩:=bc4 HX1.out
   obtain⟨q0,q1,q2⟩:=bc3 HX2.out
   go_wp2_with fail
   go_quiet (fail)
   go_wp2_with fail
   go_ret
   exact⟨by rw[HF.out];rfl,HK3.out.drewN _⟩
  have t1:decide (e≥0)=true:=by simpa using g1
  by_cases g2:e<(ne:Int)
  case neg=>
   have t2:decide (e<(ne:Int))=false:=by simpa using g2
   have HF:Hid (rightB t (e,a,r)=false):=qh (by rw[HR.out,decide_eq_false g2];simp)
   clear g0 g1 g2
   obtain⟨y0,y1,y2,y3⟩:=bc4 HB1.out
   obtain⟨q0,q1,q2⟩:=bc3 HB2.out
   go_enter Tryz.func141, Tryz.ntmps141
   go_wp2_with fail
   refine HC.out.mono ?_
   rintro en w3 ⟨rfl,hk3⟩
   have HK3:=qtr HK hk3
   have HX1:=qkb HB1 hk3
   have HX2:=qkb HB2 hk3
   clear hk3 HC HB1 HB2 y0 y1 y2 y3 q0 q1 q2 hw1 hw2 zw1
   obtain⟨y0,y1,y2,y3⟩:=bc4 HX1.out
   obtain⟨q0,q1,q2⟩:=bc3 HX2.out
   go_wp2_with fail
   go_quiet (fail)
   go_wp2_with fail
   go_ret
   exact⟨by rw[HF.out];rfl,HK3.out.drewN _⟩
  have t2:decide (e<(ne:Int))=true:=by simpa using g2
  by_cases g3:0≤a
  case neg=>
   have t3:decide (a≥0)=false:=by simpa using g3
   have HF:Hid (rightB t (e,a,r)=false):=qh (by rw[HR.out,decide_eq_false g3];simp)
   clear g0 g1 g2 g3
   obtain⟨y0,y1,y2,y3⟩:=bc4 HB1.out
   obtain⟨q0,q1,q2⟩:=bc3 HB2.out
   go_enter Tryz.func141, Tryz.ntmps141
   go_wp2_with fail
   refine HC.out.mono ?_
   rintro en w3 ⟨rfl,hk3⟩
   have HK3:=qtr HK hk3
   have HX1:=qkb HB1 hk3
   have HX2:=qkb HB2 hk3
   clear hk3 HC HB1 HB2 y0 y1 y2 y3 q0 q1 q2 hw1 hw2 zw1
   obtain⟨y0,y1,y2,y3⟩:=bc4 HX1.out
   obtain⟨q0,q1,q2⟩:=bc3 HX2.out
   go_wp2_with fail
   go_quiet (fail)
   go_wp2_with fail
   go_ret
   exact⟨by rw[HF.out];rfl,HK3.out.drewN _⟩
  have t3:decide (a≥0)=true:=by simpa using g3
  obtain⟨ad,k,v,hA,he,hk,d0,hv⟩:=HED.out w2 HK.out e g1 g2
  subst hA
  rw[hv] at HR
  have hkz:(k:Int)<(ne:Int):=by omega
  have HRb:Hid (rightB t (e,a,r)=decide (a≤v)):=qh (by rw[HR.out,decide_eq_true g0,decide_eq_true g1,decide_eq_true g2,decide_eq_true g3];rfl)
  have HD0:=qh d0
  clear g0 g1 g2 g3 HED HR hv d0
  subst he
  by_cases g4:a≤v
  ·have t4:decide (a≤v)=true:=by simpa using g4
   have HF:Hid (rightB t (((k:Nat):Int),a,r)=true):=qh (by rw[HRb.out];exact t4)
   clear g4 HRb
   obtain⟨y0,y1,y2,y3⟩:=bc4 HB1.out
   obtain⟨q0,q1,q2⟩:=bc3 HB2.out
   go_enter Tryz.func141, Tryz.ntmps141
   go_wp2_with fail
   refine HC.out.mono ?_
   rintro en w3 ⟨rfl,hk3⟩
   have HK3:=qtr HK hk3
   have HX1:=qkb HB1 hk3
   have HX2:=qkb HB2 hk3
   have d0:=keepT hk3 HD0.out
   clear hk3 HC HB1 HB2 y0 y1 y2 y3 q0 q1 q2 hw1 hw2 zw1
   obtain⟨y0,y1,y2,y3⟩:=bc4 HX1.out
   obtain⟨q0,q1,q2⟩:=bc3 HX2.out
   go_wp2_with fail
   go_quiet (fail)
   go_wp2_with fail
   go_ret
   exact⟨by rw[HF.out];rfl,HK3.out.drewN _⟩
  ·have t4:decide (a≤v)=false:=by simpa using g4
   have HF:Hid (rightB t (((k:Nat):Int),a,r)=false):=qh (by rw[HRb.out];exact t4)
   clear g4 HRb
   obtain⟨y0,y1,y2,y3⟩:=bc4 HB1.out
   obtain⟨q0,q1,q2⟩:=bc3 HB2.out
   go_enter Tryz.func141, Tryz.ntmps141
   go_wp2_with fail
   refine HC.out.mono ?_
   rintro en w3 ⟨rfl,hk3⟩
   have HK3:=qtr HK hk3
   have HX1:=qkb HB1 hk3
   have HX2:=qkb HB2 hk3
   have d0:=keepT hk3 HD0.out
   clear hk3 HC HB1 HB2 y0 y1 y2 y3 q0 q1 q2 hw1 hw2 zw1
   obtain⟨y0,y1,y2,y3⟩:=bc4 HX1.out
   obtain⟨q0,q1,q2⟩:=bc3 HX2.out
   go_wp2_with fail
   go_quiet (fail)
   go_wp2_with fail
   go_ret
   exact⟨by rw[HF.out];rfl,HK3.out.drewN _⟩
set_option maxHeartbeats 4000000 in
set_option maxRecDepth 100000 in
theorem rahead_any (x:TA) (t:Tp) (B:Nat) (e a:Int) (r:Bool) (w:World) (h:TpAt w B x t) (h0:0≤e) (h1:e<(x.ne:Int)) (hv1:0≤edgeM t e) (hv2:edgeM t e≤1000000) (ha1:0≤a) (ha2:a≤1000000) :
    Calls Tryz.prog 142 #[.agg x.cs,.agg #[.int .i64 e,.int .i64 a,.bool r]] w fun en w'=>en=.returned (.int .i64 (aheadP t (e,a,r)))∧Keep Never w w':=by
  obtain⟨ad,k,v,hA,he,hk,d0,hv⟩:=edge_at h h0 h1
  have HD:Hid (∀W,Keep Never w W→W.cell? (ad.add k)=some (.int .i64 v)):=qh (fun W hk=>keepT hk d0)
  obtain⟨Ae,ne,ce,Aj,nj,cj,Ab,nb,cb,Ar,nr,cr⟩:=x
  simp only[TA.cs] at hA hk ⊢
  subst hA he
  have hkz:(k:Int)<(ne:Int):=by omega
  rw[hv] at hv1 hv2
  have hw:IntKind.i64.wrap (v - a)=v - a:=IntWalk.i64_in _ (by omega)
  cases r with
  | true=>
   have HF:Hid (aheadP t (((k:Nat):Int),a,true)=a):=qh (by unfold aheadP;rw[if_pos rfl])
   clear h d0 hv h0 h1 hv1 hv2 ha1 ha2
   obtain⟨w1,hw1⟩:∃V:World,w.alloc (.cells #[.slice (some ad) ne ce,.slice Aj nj cj,.slice Ab nb cb,.slice Ar nr cr] 27)=V:=⟨_,rfl⟩
   have zw1:w1.heap.size=w.heap.size+1:=by rw[←hw1];simp
   have kw1:Keep Never w w1:=by rw[←hw1];exact(Keep.refl _ _).alloc _
   have bw1:=Blk.new w 27 #[.slice (some ad) ne ce,.slice Aj nj cj,.slice Ab nb cb,.slice Ar nr cr]
   rw[hw1] at bw1
   obtain⟨w2,hw2⟩:∃V:World,w1.alloc (.cells #[.int .i64 ((k:Nat):Int),.int .i64 a,.bool true] 71)=V:=⟨_,rfl⟩
   have kw2:Keep Never w1 w2:=by rw[←hw2];exact(Keep.refl _ _).alloc _
   have bw2:=Blk.new w1 71 #[.int .i64 ((k:Nat):Int),.int .i64 a,.bool true]
   rw[hw2,zw1] at bw2
   have HB1:=qh (bw1.keep kw2 (fun h=>h))
   have HB2:=qh bw2
   have HK:=qh (kw1.trans kw2)
   clear kw1 kw2 bw1 bw2
   obtain⟨y0,y1,y2,y3⟩:=bc4 HB1.out
   obtain⟨q0,q1,q2⟩:=bc3 HB2.out
   have d0:=HD.out w2 HK.out
   go_enter Tryz.func142, Tryz.ntmps142
   go_wp2_with fail
   go_ret
   exact⟨by rw[HF.out];rfl,HK.out⟩
  | false=>
   have HF:Hid (aheadP t (((k:Nat):Int),a,false)=v - a):=qh (by unfold aheadP;rw[if_neg (by simp)];simp only;rw[hv])
   clear h d0 hv h0 h1 hv1 hv2 ha1 ha2
   obtain⟨w1,hw1⟩:∃V:World,w.alloc (.cells #[.slice (some ad) ne ce,.slice Aj nj cj,.slice Ab nb cb,.slice Ar nr cr] 27)=V:=⟨_,rfl⟩
   have zw1:w1.heap.size=w.heap.size+1:=by rw[←hw1];simp
   have kw1:Keep Never w w1:=by rw[←hw1];exact(Keep.refl _ _).alloc _
   have bw1:=Blk.new w 27 #[.slice (some ad) ne ce,.slice Aj nj cj,.slice Ab nb cb,.slice Ar nr cr]
   rw[hw1] at bw1
   obtain⟨w2,hw2⟩:∃V:World,w1.alloc (.cells #[.int .i64 ((k:Nat):Int),.int .i64 a,.bool false] 71)=V:=⟨_,rfl⟩
   have kw2:Keep Never w1 w2:=by rw[←hw2];exact(Keep.refl _ _).alloc _
   have bw2:=Blk.new w1 71 #[.int .i64 ((k:Nat):Int),.int .i64 a,.bool false]
   rw[hw2,zw1] at bw2
   have HB1:=qh (bw1.keep kw2 (fun h=>h))
   have HB2:=qh bw2
   have HK:=qh (kw1.trans kw2)
   clear kw1 kw2 bw1 bw2
   obtain⟨y0,y1,y2,y3⟩:=bc4 HB1.out
   obtain⟨q0,q1,q2⟩:=bc3 HB2.out
   have d0:=HD.out w2 HK.out
   go_enter Tryz.func142, Tryz.ntmps142
   go_wp2_with fail
   go_quiet (fail)
   go_wp2_with fail
   go_ret
   exact⟨by rw[HF.out];rfl,HK.out.drewN _⟩
set_option maxHeartbeats 4000000 in
set_option maxRecDepth 100000 in
theorem rmoved_any (e a:Int) (r:Bool) (n:Int) (w:World) (ha1:0≤a) (ha2:a≤1000000) (hn1:0≤n) (hn2:n≤4398046511104) :
    Calls Tryz.prog 144 #[.agg #[.int .i64 e,.int .i64 a,.bool r],.int .i64 n] w (PsRet (movedP (e,a,r) n) w):=by
  have hw1':wrap64 (a+n)=a+n:=by have:=IntWalk.i64_in (a+n) (by omega);rwa [IntWalk.i64_left] at this
  have hw2':wrap64 (a - n)=a - n:=by have:=IntWalk.i64_in (a - n) (by omega);rwa [IntWalk.i64_left] at this
  have hw3':IntKind.i64.wrap (a+n)=a+n:=IntWalk.i64_in (a+n) (by omega)
  have hw4':IntKind.i64.wrap (a - n)=a - n:=IntWalk.i64_in (a - n) (by omega)
  cases r with
  | true=>
   have HF:Hid (movedP (e,a,true) n=(e,a - n,true)):=qh (by unfold movedP;rw[if_pos rfl])
   clear ha1 ha2 hn1 hn2
   obtain⟨w1,hw1⟩:∃V:World,w.alloc (.cells #[.int .i64 e,.int .i64 a,.bool true] 71)=V:=⟨_,rfl⟩
   have zw1:w1.heap.size=w.heap.size+1:=by rw[←hw1];simp
   have kw1:Keep Never w w1:=by rw[←hw1];exact(Keep.refl _ _).alloc _
   have bw1:=Blk.new w 71 #[.int .i64 e,.int .i64 a,.bool true]
   rw[hw1] at bw1
   obtain⟨w2,hw2⟩:∃V:World,w1.alloc (.cells #[.int .i64 0,.int .i64 0,.bool false] 71)=V:=⟨_,rfl⟩
   have kw2:Keep Never w1 w2:=by rw[←hw2];exact(Keep.refl _ _).alloc _
   have bw2:=Blk.new w1 71 #[.int .i64 0,.int .i64 0,.bool false]
   rw[hw2,zw1] at bw2
   have HB1:=qh (bw1.keep kw2 (fun h=>h))
   have HB2:=qh bw2
   have HK:=qh (kw1.trans kw2)
   clear kw1 kw2 bw1 bw2
   obtain⟨q0,q1,q2⟩:=bc3 HB1.out
   go_enter Tryz.func144, Tryz.ntmps144
   obtain⟨z0,z1,z2⟩:=bc3 HB2.out
   have zf0:=HB2.out.frozen 0
   have zf1:=HB2.out.frozen 1
   have zf2:=HB2.out.frozen 2
   go_wp2_with fail
   (try simp only[Exit.inBlock,Exit.then])
   have hp:=ps3_keep HK.out (b:=w.heap.size+1) (.inr (by omega)) (.int .i64 e) (.int .i64 (a - n)) (.bool true)
   refine bodyPost_ret (ps_results (fn:=Tryz.f144) (r:=4) rfl (ps3_blk HB2.out (.int .i64 e) (.int .i64 (a - n)) (.bool true)) _ rfl) rfl ⟨by rw[HF.out],hp⟩
  | false=>
   have HF:Hid (movedP (e,a,false) n=(e,a+n,false)):=qh (by unfold movedP;rw[if_neg (by simp)])
   clear ha1 ha2 hn1 hn2
   obtain⟨w1,hw1⟩:∃V:World,w.alloc (.cells #[.int .i64 e,.int .i64 a,.bool false] 71)=V:=⟨_,rfl⟩
   have zw1:w1.heap.size=w.heap.size+1:=by rw[←hw1];simp
   have kw1:Keep Never w w1:=by rw[←hw1];exact(Keep.refl _ _).alloc _
   have bw1:=Blk.new w 71 #[.int .i64 e,.int .i64 a,.bool false]
   rw[hw1] at bw1
   obtain⟨w2,hw2⟩:∃V:World,w1.alloc (.cells #[.int .i64 0,.int .i64 0,.bool false] 71)=V:=⟨_,rfl⟩
   have kw2:Keep Never w1 w2:=by rw[←hw2];exact(Keep.refl _ _).alloc _
   have bw2:=Blk.new w1 71 #[.int .i64 0,.int .i64 0,.bool false]
   rw[hw2,zw1] at bw2
   have HB1:=qh (bw1.keep kw2 (fun h=>h))
   have HB2:=qh bw2
   have HK:=qh (kw1.trans kw2)
   clear kw1 kw2 bw1 bw2
   obtain⟨q0,q1,q2⟩:=bc3 HB1.out
   go_enter Tryz.func144, Tryz.ntmps144
   obtain⟨z0,z1,z2⟩:=bc3 HB2.out
   have zf0:=HB2.out.frozen 0
   have zf1:=HB2.out.frozen 1
   have zf2:=HB2.out.frozen 2
   go_wp2_with fail
   (try simp only[Exit.inBlock,Exit.then])
   have hp:=ps3_keep HK.out (b:=w.heap.size+1) (.inr (by omega)) (.int .i64 e) (.int .i64 (a+n)) (.bool false)
   refine bodyPost_ret (ps_results (fn:=Tryz.f144) (r:=4) rfl (ps3_blk HB2.out (.int .i64 e) (.int .i64 (a+n)) (.bool false)) _ rfl) rfl ⟨by rw[HF.out],hp⟩
set_option maxHeartbeats 4000000 in
set_option maxRecDepth 100000 in
theorem rbegin_any (x:TA) (t:Tp) (B:Nat) (e:Int) (r:Bool) (w:World) (h:TpAt w B x t) (h0:0≤e) (h1:e<(x.ne:Int)) :
    Calls Tryz.prog 143 #[.agg x.cs,.agg #[.int .i64 e,.bool r]] w (PsRet (beginP t (e,r)) w):=by
  obtain⟨ad,k,v,hA,he,hk,d0,hv⟩:=edge_at h h0 h1
  have HD:Hid (∀W,Keep Never w W→W.cell? (ad.add k)=some (.int .i64 v)):=qh (fun W hk=>keepT hk d0)
  obtain⟨Ae,ne,ce,Aj,nj,cj,Ab,nb,cb,Ar,nr,cr⟩:=x
  simp only[TA.cs] at hA hk ⊢
  subst hA he
  have hkz:(k:Int)<(ne:Int):=by omega
  cases r with
  | true=>
   have HF:Hid (beginP t (((k:Nat):Int),true)=(((k:Nat):Int),v,true)):=qh (by unfold beginP;rw[if_pos rfl];simp only;rw[hv])
   clear h d0 hv h0 h1
   obtain⟨w1,hw1⟩:∃V:World,w.alloc (.cells #[.slice (some ad) ne ce,.slice Aj nj cj,.slice Ab nb cb,.slice Ar nr cr] 27)=V:=⟨_,rfl⟩
   have zw1:w1.heap.size=w.heap.size+1:=by rw[←hw1];simp
   have kw1:Keep Never w w1:=by rw[←hw1];exact(Keep.refl _ _).alloc _
   have bw1:=Blk.new w 27 #[.slice (some ad) ne ce,.slice Aj nj cj,.slice Ab nb cb,.slice Ar nr cr]
   rw[hw1] at bw1
   obtain⟨w2,hw2⟩:∃V:World,w1.alloc (.cells #[.int .i64 ((k:Nat):Int),.bool true] 30)=V:=⟨_,rfl⟩
   have zw2:w2.heap.size=w.heap.size+1+1:=by rw[←hw2];simp[zw1]
   have kw2:Keep Never w1 w2:=by rw[←hw2];exact(Keep.refl _ _).alloc _
   have bw2:=Blk.new w1 30 #[.int .i64 ((k:Nat):Int),.bool true]
   rw[hw2,zw1] at bw2
   obtain⟨w3,hw3⟩:∃V:World,w2.alloc (.cells #[.int .i64 0,.int .i64 0,.bool false] 71)=V:=⟨_,rfl⟩
   have kw3:Keep Never w2 w3:=by rw[←hw3];exact(Keep.refl _ _).alloc _
   have bw3:=Blk.new w2 71 #[.int .i64 0,.int .i64 0,.bool false]
   rw[hw3,zw2] at bw3
   have HB1:=qh ((bw1.keep kw2 (fun h=>h)).keep kw3 (fun h=>h))
   have HB2:=qh (bw2.keep kw3 (fun h=>h))
   have HB3:=qh bw3
   have HK:=qh ((kw1.trans kw2).trans kw3)
   clear kw1 kw2 kw3 bw1 bw2 bw3
   obtain⟨y0,y1,y2,y3⟩:=bc4 HB1.out
   obtain⟨q0,q1⟩:=bc2 HB2.out
   have d0:=HD.out w3 HK.out
   go_enter Tryz.func143, Tryz.ntmps143
   go_wp2_with fail
   go_still_tail 9,(by kernel_rfl)
   change wpList _ _ _ _ _ w3.drew
   obtain⟨w5,hw5⟩:∃V:World,w3.drew=V:=⟨_,rfl⟩
   rw[hw5]
   have HKd:Hid (Keep Never w w5):=qh (by rw[←hw5];exact HK.out.drew)
   have HBd:Hid (Blk w5 (w.heap.size+1+1) 71 #[.int .i64 0,.int .i64 0,.bool false]):=qh (by rw[←hw5];exact HB3.out.drew)
   clear hw5
   obtain⟨z0,z1,z2⟩:=bc3 HBd.out
   have zf0:=HBd.out.frozen 0
   have zf1:=HBd.out.frozen 1
   have zf2:=HBd.out.frozen 2
   go_wp2_with fail
   (try simp only[Exit.inBlock,Exit.then])
   have hp:=ps3_keep HKd.out (b:=w.heap.size+1+1) (.inr (by omega)) (.int .i64 ((k:Nat):Int)) (.int .i64 v) (.bool true)
   refine bodyPost_ret (ps_results (fn:=Tryz.f143) (r:=4) rfl (ps3_blk HBd.out (.int .i64 ((k:Nat):Int)) (.int .i64 v) (.bool true)) _ rfl) rfl ⟨by rw[HF.out],hp⟩
  | false=>
   have HF:Hid (beginP t (((k:Nat):Int),false)=(((k:Nat):Int),0,false)):=qh (by unfold beginP;rw[if_neg (by simp)])
   clear h d0 hv h0 h1
   obtain⟨w1,hw1⟩:∃V:World,w.alloc (.cells #[.slice (some ad) ne ce,.slice Aj nj cj,.slice Ab nb cb,.slice Ar nr cr] 27)=V:=⟨_,rfl⟩
   have zw1:w1.heap.size=w.heap.size+1:=by rw[←hw1];simp
   have kw1:Keep Never w w1:=by rw[←hw1];exact(Keep.refl _ _).alloc _
   have bw1:=Blk.new w 27 #[.slice (some ad) ne ce,.slice Aj nj cj,.slice Ab nb cb,.slice Ar nr cr]
   rw[hw1] at bw1
   obtain⟨w2,hw2⟩:∃V:World,w1.alloc (.cells #[.int .i64 ((k:Nat):Int),.bool false] 30)=V:=⟨_,rfl⟩
   have zw2:w2.heap.size=w.heap.size+1+1:=by rw[←hw2];simp[zw1]
   have kw2:Keep Never w1 w2:=by rw[←hw2];exact(Keep.refl _ _).alloc _
   have bw2:=Blk.new w1 30 #[.int .i64 ((k:Nat):Int),.bool false]
   rw[hw2,zw1] at bw2
   obtain⟨w3,hw3⟩:∃V:World,w2.alloc (.cells #[.int .i64 0,.int .i64 0,.bool false] 71)=V:=⟨_,rfl⟩
   have kw3:Keep Never w2 w3:=by rw[←hw3];exact(Keep.refl _ _).alloc _
   have bw3:=Blk.new w2 71 #[.int .i64 0,.int .i64 0,.bool false]
   rw[hw3,zw2] at bw3
   have HB1:=qh ((bw1.keep kw2 (fun h=>h)).keep kw3 (fun h=>h))
   have HB2:=qh (bw2.keep kw3 (fun h=>h))
   have HB3:=qh bw3
   have HK:=qh ((kw1.trans kw2).trans kw3)
   clear kw1 kw2 kw3 bw1 bw2 bw3
   obtain⟨y0,y1,y2,y3⟩:=bc4 HB1.out
   obtain⟨q0,q1⟩:=bc2 HB2.out
   have d0:=HD.out w3 HK.out
   go_enter Tryz.func143, Tryz.ntmps143
   obtain⟨z0,z1,z2⟩:=bc3 HB3.out
   have zf0:=HB3.out.frozen 0
   have zf1:=HB3.out.frozen 1
   have zf2:=HB3.out.frozen 2
   go_wp2_with fail
   (try simp only[Exit.inBlock,Exit.then])
   have hp:=ps3_keep HK.out (b:=w.heap.size+1+1) (.inr (by omega)) (.int .i64 ((k:Nat):Int)) (.int .i64 0) (.bool false)
   refine bodyPost_ret (ps_results (fn:=Tryz.f143) (r:=4) rfl (ps3_blk HB3.out (.int .i64 ((k:Nat):Int)) (.int .i64 0) (.bool false)) _ rfl) rfl ⟨by rw[HF.out],hp⟩
end Go.Proofs.YtpapiojicbbheaaGreatDoor

namespace Go.Proofs.YtpapiojicbbheaaGreatDoor
open Go.RowKit
set_option maxHeartbeats 8000000 in
set_option maxRecDepth 100000 in
theorem rafter_any (x:TA) (t:Tp) (B:Nat) (s:Stp) (w:World) (h:TpAt w B x t) (hj:x.nj≤100000000) (he:x.ne≤100000000) :
    Calls Tryz.prog 117 #[.agg x.cs,.agg #[.int .i64 s.1,.bool s.2]] w (AftRet (afterM t s) w):=by
  have HE:=qh (fun (i:Int) (W:World)=>redge_any x i W)
  have HM:=qh (fun (W:World) (hk:Keep Never w W) (a b:Stp)=>rmayj_any x t B a b W (h.keep hk) hj)
  have HEl:Hid (x.ne=t.1.length):=qh h.e.len
  obtain⟨Ae,ne,ce,Aj,nj,cj,Ab,nb,cb,Ar,nr,cr⟩:=x
  obtain⟨s1,s2⟩:=s
  simp only[TA.cs] at HE HM HEl he hj ⊢
  clear h
  obtain⟨w1,hw1⟩:∃V:World,w.alloc (.cells #[.slice Ae ne ce,.slice Aj nj cj,.slice Ab nb cb,.slice Ar nr cr] 27)=V:=⟨_,rfl⟩
  have zw1:w1.heap.size=w.heap.size+1:=by rw[←hw1];simp
  have kw1:Keep Never w w1:=by rw[←hw1];exact(Keep.refl _ _).alloc _
  have bw1:=Blk.new w 27 #[.slice Ae ne ce,.slice Aj nj cj,.slice Ab nb cb,.slice Ar nr cr]
  rw[hw1] at bw1
  obtain⟨w2,hw2⟩:∃V:World,w1.alloc (.cells #[.int .i64 s1,.bool s2] 30)=V:=⟨_,rfl⟩
  have kw2:Keep Never w1 w2:=by rw[←hw2];exact(Keep.refl _ _).alloc _
  have bw2:=Blk.new w1 30 #[.int .i64 s1,.bool s2]
  rw[hw2,zw1] at bw2
  have HB1:=qh (bw1.keep kw2 (fun h=>h))
  have HB2:=qh bw2
  have HK:=qh (kw1.trans kw2)
  clear kw1 kw2 bw1 bw2
  obtain⟨y0,y1,y2,y3⟩:=bc4 HB1.out
  obtain⟨p0,p1⟩:=bc2 HB2.out
  have HLo:Hid (w2.heap.size=w.heap.size+2):=qh (by rw[←hw2,←hw1];simp)
  have HC:=qh (HE.out s1 w2)
  cases ht:thereB ne s1 with
  | false=>
   have HF:Hid (afterM t (s1,s2)=[]):=qh (by unfold afterM;rw[if_neg (by simp only;rw[←HEl.out,ht];simp)])
   rw[ht] at HC
   clear ht
   go_enter Tryz.func117, Tryz.ntmps117
   go_wp2_with fail
   refine HC.out.mono ?_
   rintro en w4 ⟨rfl,hk4⟩
   have HK4:=qtr HK hk4
   clear hk4 HC y0 y1 y2 y3 p0 p1
   go_wp2_with fail
   go_ret
   exact⟨none,0,0,rfl,qh (by rw[HF.out];rfl),by rw[HF.out];exact Own.nil _ _ _ _,HK4.out⟩
  | true=>
   have HF:Hid (afterM t (s1,s2)=listM t.2.1 (s1,s2) ne):=qh (by unfold afterM;rw[if_pos (by simp only;rw[←HEl.out,ht]),HEl.out])
   rw[ht] at HC
   clear ht
   go_enter Tryz.func117, Tryz.ntmps117
   go_wp2_with fail
   refine HC.out.mono ?_
   rintro en w4 ⟨rfl,hk4⟩
   have HK4:=qh hk4
   clear hk4 HC y0 y1 y2 y3 p0 p1 hw1 hw2 zw1
   go_wp2_with fail
   go_loopw [6,7,8,9,10,11] (fun o i _ _ _ _ wr=>∃(k n c:Nat) (A:Option Addr),k≤ne∧i=.int .i64 k∧o=.slice A n c∧Hid (Keep Never w2 wr∧Own wr w2.heap.size 30 2 A n c (stpCells (listM t.2.1 (s1,s2) k))∧n=(listM t.2.1 (s1,s2) k).length)) (fun _ i _ _ _ _ _=>ne - (intOf i).toNat)
   case atStart=>exact⟨0,0,0,none,by omega,rfl,rfl,qh ⟨HK4.out,Own.nil _ _ _ _,rfl⟩⟩
   case round=>
    obtain⟨k,n,c,A,hk,rfl,rfl,HH⟩:=hrel
    have y0:wr.cell? ⟨w.heap.size,0,none⟩=some (.slice Ae ne ce):=(HB1.out.keep HH.out.1 (fun h=>h)).cell 0
    by_cases h0:k<ne
    ·have hkz:(k:Int)<(ne:Int):=by omega
     obtain⟨br,hbr⟩:∃q,wr.heap.size=q:=⟨_,rfl⟩
     have hbr2:w.heap.size+2≤br:=by rw[←hbr,←HLo.out];exact HH.out.1.size
     have HBr:=qh hbr2
     obtain⟨w7,hw7⟩:∃V:World,(wr.alloc (.cells #[.int .i64 ((k:Nat):Int),.bool false] 30)).alloc (.cells #[.int .i64 ((k:Nat):Int),.bool true] 30)=V:=⟨_,rfl⟩
     have k7:Keep Never wr w7:=by rw[←hw7];exact((Keep.refl _ _).alloc _).alloc _
     have ba:=(Blk.new wr 30 #[.int .i64 ((k:Nat):Int),.bool false]).alloc (.cells #[.int .i64 ((k:Nat):Int),.bool true] 30)
     have bb:=Blk.new (wr.alloc (.cells #[.int .i64 ((k:Nat):Int),.bool false] 30)) 30 #[.int .i64 ((k:Nat):Int),.bool true]
     rw[hw7,hbr] at ba
     rw[hw7,show (wr.alloc (.cells #[.int .i64 ((k:Nat):Int),.bool false] 30)).heap.size=br+1 by rw[←hbr];simp] at bb
     have HK7:=qh (HH.out.1.trans k7)
     have K7:=qh k7
     have HBa:=qh ba
     have HBb:=qh bb
     have HT7:=qh (HB1.out.keep HK7.out (fun h=>h))
     have HS7:=qh (HB2.out.keep HK7.out (fun h=>h))
     obtain⟨a0,a1⟩:=bc2 HBa.out
     have HC:=qh (HM.out w7 (HK.out.trans HK7.out) (s1,s2) (((k:Nat):Int),false))
     have HC2:=qh (fun (V:World) (hk:Keep Never w7 V)=>HM.out V (HK.out.trans (HK7.out.trans hk)) (s1,s2) (((k:Nat):Int),true))
     dsimp only at HC HC2
     have HLs:=qh (listM_succ t.2.1 (s1,s2) k)
     unfold pairM at HLs
     obtain⟨m1,hm1⟩:∃z,mayJ t.2.1 (s1,s2) (((k:Nat):Int),false)=z:=⟨_,rfl⟩
     obtain⟨m2,hm2⟩:∃z,mayJ t.2.1 (s1,s2) (((k:Nat):Int),true)=z:=⟨_,rfl⟩
     rw[hm1] at HC HLs
     rw[hm2] at HC2 HLs
     obtain⟨y0,y1,y2,y3⟩:=bc4 HT7.out
     obtain⟨p0,p1⟩:=bc2 HS7.out
     clear k7 ba bb hm1 hm2 hbr2
     go_wp2_with fail
     refine HC.out.mono ?_
     clear hw7
     rintro en w8 ⟨rfl,hk8⟩
     have K78:=qh hk8
     have HC:=qh (HC2.out w8 hk8)
     have HT8:=qkb HT7 hk8
     have HS8:=qkb HS7 hk8
     clear y0 y1 y2 y3 p0 p1 a0 a1
     obtain⟨b0,b1⟩:=bc2 (HBb.out.keep hk8 (fun h=>h))
     obtain⟨y0,y1,y2,y3⟩:=bc4 HT8.out
     obtain⟨p0,p1⟩:=bc2 HS8.out
     clear hk8 HC2
     go_wp2_with fail
     refine HC.out.mono ?_
     rintro en w9 ⟨rfl,hk9⟩
     have K79:=qtr K78 hk9
     have HBa9:=qh (HBa.out.keep K79.out (fun h=>h))
     have HBb9:=qh (HBb.out.keep K79.out (fun h=>h))
     have HO:=qh ((HH.out.2.1.keep K7.out (fun _ _ h=>h.elim)).keep K79.out (fun _ _ h=>h.elim))
     have HRw:=qh (fun q (h:InRow A q)=>HH.out.2.1.row h)
     have hlen:=listM_len t.2.1 (s1,s2) k
     have hnl:=HH.out.2.2
     have hn5:n≤200000000:=by omega
     have HZ9:Hid (w2.heap.size≤w9.heap.size):=qh (Nat.le_trans HK7.out.size K79.out.size)
     have HK9:=qh (HK7.out.trans K79.out)
     obtain⟨a0,a1⟩:=bc2 HBa9.out
     obtain⟨b0,b1⟩:=bc2 HBb9.out
     have hbrs:=hbr
     rw[←hbr] at HBr
     have HRn:Hid (∀q,InRow A q→q<br):=qh (fun q h=>by rw[←hbr];exact(HRw.out q h).2)
     have HNl:=qh hnl
     clear hk9 HC y0 y1 y2 y3 p0 p1 hlen hnl hbr hbrs
     cases m1 with
     | false=>
      cases m2 with
      | false=>
       go_wp2_with fail
       have e:listM t.2.1 (s1,s2) (k+1)=listM t.2.1 (s1,s2) k:=by rw[HLs.out];simp
       refine⟨⟨k+1,n,c,A,by omega,by go_num,rfl,qh ⟨HK9.out,by rw[e];exact HO.out,by rw[e];exact HNl.out⟩⟩,?_⟩
       simp[intOf];try omega
      | true=>
       go_wp2_with (at_builtin;refine wpList_app _ rfl (.tmp 43) (.tmp 45) _ rfl elemStp w2.heap.size (A:=A) (n:=n) (c:=c) (by go_simp) (HO.out.alloc _) _ (A':=some ⟨_,0,none⟩) (m:=1) (c':=1) (news:=[.int .i64 ((k:Nat):Int),.bool true]) (by go_simp) (Rd.of_blk (n:=1) (cs:=[.int .i64 ((k:Nat):Int),.bool true]) (Blk.new _ _ _) rfl) (by simp[Value.oneCell']) (by omega) (by unfold maxLen;omega) (by have:=HZ9.out;simp;omega) ?_;intro A5 c5 w5 hown hk5 hrow5;have HO5:=qh hown;have HKa5:=qh hk5;clear hown hk5 hrow5)
       have e:listM t.2.1 (s1,s2) (k+1)=listM t.2.1 (s1,s2) k++[(((k:Nat):Int),true)]:=by rw[HLs.out];simp
       go_wp2_with fail
       refine⟨⟨k+1,n+1,c5,A5,by omega,by go_num,rfl,qh ⟨(HK9.out.alloc _).then_ HKa5.out (fun i hi h=>by have:=(HO.out.row h).1;omega),by rw[e,stpCells_app];exact HO5.out,by rw[e,List.length_append,←HNl.out];rfl⟩⟩,?_⟩
       simp[intOf];try omega
     | true=>
      cases m2 with
      | false=>
       go_wp2_with (at_builtin;refine wpList_app _ rfl (.tmp 38) (.tmp 40) _ rfl elemStp w2.heap.size (A:=A) (n:=n) (c:=c) (by go_simp) (HO.out.alloc _) _ (A':=some ⟨_,0,none⟩) (m:=1) (c':=1) (news:=[.int .i64 ((k:Nat):Int),.bool false]) (by go_simp) (Rd.of_blk (n:=1) (cs:=[.int .i64 ((k:Nat):Int),.bool false]) (Blk.new _ _ _) rfl) (by simp[Value.oneCell']) (by omega) (by unfold maxLen;omega) (by have:=HZ9.out;simp;omega) ?_;intro A5 c5 w5 hown hk5 hrow5;have hb5:=(HBb9.out.alloc (.cells #[.int .i64 ((k:Nat):Int),.bool false] 30)).keep hk5 (fun h=>by have:=HRn.out _ h;omega);have b0':w5.cell? ⟨br+1,0,none⟩=some (.int .i64 ((k:Nat):Int)):=hb5.cell 0;have b1':w5.cell? ⟨br+1,1,none⟩=some (.bool true):=hb5.cell 1;have HZ5:Hid (w2.heap.size≤w5.heap.size):=qh (Nat.le_trans HZ9.out (Nat.le_trans ((Keep.refl Never w9).alloc (.cells #[.int .i64 ((k:Nat):Int),.bool false] 30)).size hk5.size));clear hb5;have HO5:=qh hown;have HKa5:=qh hk5;clear hown hk5 hrow5)
       have e:listM t.2.1 (s1,s2) (k+1)=listM t.2.1 (s1,s2) k++[(((k:Nat):Int),false)]:=by rw[HLs.out];simp
       go_wp2_with fail
       refine⟨⟨k+1,n+1,c5,A5,by omega,by go_num,rfl,qh ⟨(HK9.out.alloc _).then_ HKa5.out (fun i hi h=>by have:=(HO.out.row h).1;omega),by rw[e,stpCells_app];exact HO5.out,by rw[e,List.length_append,←HNl.out];rfl⟩⟩,?_⟩
       simp[intOf];try omega
      | true=>
       go_wp2_with (first| (at_builtin;refine wpList_app _ rfl (.tmp 38) (.tmp 40) _ rfl elemStp w2.heap.size (A:=A) (n:=n) (c:=c) (by go_simp) (HO.out.alloc _) _ (A':=some ⟨_,0,none⟩) (m:=1) (c':=1) (news:=[.int .i64 ((k:Nat):Int),.bool false]) (by go_simp) (Rd.of_blk (n:=1) (cs:=[.int .i64 ((k:Nat):Int),.bool false]) (Blk.new _ _ _) rfl) (by simp[Value.oneCell']) (by omega) (by unfold maxLen;omega) (by have:=HZ9.out;simp;omega) ?_;intro A5 c5 w5 hown hk5 hrow5;have hb5:=(HBb9.out.alloc (.cells #[.int .i64 ((k:Nat):Int),.bool false] 30)).keep hk5 (fun h=>by have:=HRn.out _ h;omega);have b0':w5.cell? ⟨br+1,0,none⟩=some (.int .i64 ((k:Nat):Int)):=hb5.cell 0;have b1':w5.cell? ⟨br+1,1,none⟩=some (.bool true):=hb5.cell 1;have HZ5:Hid (w2.heap.size≤w5.heap.size):=qh (Nat.le_trans HZ9.out (Nat.le_trans ((Keep.refl Never w9).alloc (.cells #[.int .i64 ((k:Nat):Int),.bool false] 30)).size hk5.size));clear hb5;have HO5:=qh hown;have HKa5:=qh hk5;clear hown hk5 hrow5) | (at_builtin;refine wpList_app _ rfl (.tmp 43) (.tmp 45) _ rfl elemStp w2.heap.size (A:=A5) (n:=(n+1)) (c:=c5) (by go_simp) (HO5.out.alloc _) _ (A':=some ⟨_,0,none⟩) (m:=1) (c':=1) (news:=[.int .i64 ((k:Nat):Int),.bool true]) (by go_simp) (Rd.of_blk (n:=1) (cs:=[.int .i64 ((k:Nat):Int),.bool true]) (Blk.new _ _ _) rfl) (by simp[Value.oneCell']) (by omega) (by unfold maxLen;omega) (by have:=HZ5.out;simp;omega) ?_;intro A6 c6 w6 hown hk5 hrow5;have HO6:=qh hown;have HKa6:=qh hk5;clear hown hk5 hrow5))
       have e:listM t.2.1 (s1,s2) (k+1)=(listM t.2.1 (s1,s2) k++[(((k:Nat):Int),false)])++[(((k:Nat):Int),true)]:=by rw[HLs.out];simp
       go_wp2_with fail
       refine⟨⟨k+1,n+1+1,c6,A6,by omega,by go_num,rfl,qh ⟨(((HK9.out.alloc _).then_ HKa5.out (fun i hi h=>by have:=(HO.out.row h).1;omega)).alloc _).then_ HKa6.out (fun i hi h=>by have:=(HO5.out.row h).1;omega),by rw[e,stpCells_app,stpCells_app];exact HO6.out,by rw[e,List.length_append,List.length_append,←HNl.out];rfl⟩⟩,?_⟩
       simp[intOf];try omega
    ·obtain rfl:ne=k:=by omega
     have hkz:¬(ne:Int)<(ne:Int):=by omega
     have HKe:=qh (HK.out.trans HH.out.1)
     have HOe:=qh (HH.out.2.1.less (b:=w.heap.size) (by rw[HLo.out];omega))
     have HNe:=qh HH.out.2.2
     go_wp2_with fail
     go_ret
     exact⟨A,n,c,rfl,qh (by rw[HF.out];exact HNe.out),by rw[HF.out];exact HOe.out,HKe.out⟩
end Go.Proofs.YtpapiojicbbheaaGreatDoor

namespace Go.Proofs.YtpapiojicbbheaaGreatDoor
open Go.RowKit
theorem begin_at (t:Tp) (x:Stp):(beginP t x).1=x.1∧(beginP t x).2.2=x.2∧alongP t (beginP t x)=0:=by
 obtain⟨e,r⟩:=x
 cases r <;> simp[beginP,alongP]
theorem begin_in {t:Tp}{x:Stp} (h:0≤edgeM t x.1):0≤(beginP t x).2.1∧(beginP t x).2.1≤edgeM t x.1:=by
 obtain⟨e,r⟩:=x
 cases r <;> simp[beginP] <;> exact h
theorem rw_in {t:Tp}{p:Ps}{m:Int}{f:Nat} (h:¬m>aheadP t p):goM t f (p.1,p.2.2) (m+alongP t p)=(movedP p m,0):=by
 rw[goM_in (by have:=ahead_along t p;simp only;omega),moved_on t]
theorem rw_out {t:Tp}{p:Ps}{m:Int} (h:m>aheadP t p):¬m+alongP t p≤edgeM t ((p.1,p.2.2):Stp).1:=by
 have:=ahead_along t p;simp only;omega
theorem rw_next {t:Tp}{p:Ps}{m:Int}{f:Nat}{x:Stp}{r:Ps×Int} (hg:goM t (f+1) (p.1,p.2.2) (m+alongP t p)=r) (ha:afterM t (p.1,p.2.2)=[x]) (hm:m>aheadP t p) :
    goM t f ((beginP t x).1,(beginP t x).2.2) (m - aheadP t p+alongP t (beginP t x))=r:=by
  obtain⟨h1,h2,h3⟩:=begin_at t x
  rw[goM_next (rw_out hm) ha] at hg
  rw[h1,h2,h3,←hg]
  have:=ahead_along t p
  simp only
  congr 1;omega
structure RwI (w4:World) (bp:Nat) (t:Tp) (r:Ps×Int) (f:Nat) (p:Ps) (m:Int) (W:World):Prop where
  far:Keep (fun q=>q=bp) w4 W
  blk:Blk W bp 71 #[.int .i64 p.1,.int .i64 p.2.1,.bool p.2.2]
  go:goM t f (p.1,p.2.2) (m+alongP t p)=r
  there:thereB t.1.length p.1=true
  lo:0≤p.2.1
  hi:p.2.1≤edgeM t p.1
  pos:0≤m
  top:m≤1099511627776
set_option maxHeartbeats 8000000 in
set_option maxRecDepth 100000 in
theorem rwalk_any (x:TA) (t:Tp) (B:Nat) (e a:Int) (r:Bool) (n:Int) (w:World) (h:TpAt w B x t) (hs:TpSmall x t) (hB:B≤w.heap.size) :
    Calls Tryz.prog 93 #[.agg x.cs,.agg #[.int .i64 e,.int .i64 a,.bool r],.int .i64 n] w (PsRet2 (walkP t (e,a,r) n) w):=by
  have HRi:=qh (fun (W:World) (hk:Keep Never w W)=>rright_any x t B e a r W (h.keep hk) hs (Nat.le_trans hB hk.size))
  have HEl:Hid (x.ne=t.1.length):=qh h.e.len
  have HAh:=qh (fun (W:World) (hk:Keep Never w W) (e a:Int) (r:Bool)=>rahead_any x t B e a r W (h.keep hk))
  have HBg:=qh (fun (W:World) (hk:Keep Never w W) (e:Int) (r:Bool)=>rbegin_any x t B e r W (h.keep hk))
  have HAf:=qh (fun (W:World) (hk:Keep Never w W) (s:Stp)=>rafter_any x t B s W (h.keep hk) hs.j hs.e)
  obtain⟨Ae,ne,ce,Aj,nj,cj,Ab,nb,cb,Ar,nr,cr⟩:=x
  simp only[TA.cs] at HRi HEl HAh HBg HAf ⊢
  clear h hs hB
  obtain⟨w1,hw1⟩:∃V:World,w.alloc (.cells #[.slice Ae ne ce,.slice Aj nj cj,.slice Ab nb cb,.slice Ar nr cr] 27)=V:=⟨_,rfl⟩
  have zw1:w1.heap.size=w.heap.size+1:=by rw[←hw1];simp
  have kw1:Keep Never w w1:=by rw[←hw1];exact(Keep.refl _ _).alloc _
  have bw1:=Blk.new w 27 #[.slice Ae ne ce,.slice Aj nj cj,.slice Ab nb cb,.slice Ar nr cr]
  rw[hw1] at bw1
  obtain⟨w2,hw2⟩:∃V:World,w1.alloc (.cells #[.int .i64 e,.int .i64 a,.bool r] 71)=V:=⟨_,rfl⟩
  have zw2:w2.heap.size=w.heap.size+1+1:=by rw[←hw2];simp[zw1]
  have kw2:Keep Never w1 w2:=by rw[←hw2];exact(Keep.refl _ _).alloc _
  have bw2:=Blk.new w1 71 #[.int .i64 e,.int .i64 a,.bool r]
  rw[hw2,zw1] at bw2
  obtain⟨w3,hw3⟩:∃V:World,w2.alloc (.cells #[.int .i64 0,.int .i64 0,.bool false] 71)=V:=⟨_,rfl⟩
  have kw3:Keep Never w2 w3:=by rw[←hw3];exact(Keep.refl _ _).alloc _
  have bw3:=Blk.new w2 71 #[.int .i64 0,.int .i64 0,.bool false]
  rw[hw3,zw2] at bw3
  have HB1:=qh ((bw1.keep kw2 (fun h=>h)).keep kw3 (fun h=>h))
  have HB2:=qh (bw2.keep kw3 (fun h=>h))
  have HB3:=qh bw3
  have HK:=qh ((kw1.trans kw2).trans kw3)
  clear kw1 kw2 kw3 bw1 bw2 bw3
  obtain⟨y0,y1,y2,y3⟩:=bc4 HB1.out
  obtain⟨q0,q1,q2⟩:=bc3 HB2.out
  have HC:=qh (HRi.out w3 HK.out)
  clear HRi
  cases hr:rightB t (e,a,r) with
  | false=>
   have HF:Hid (walkP t (e,a,r) n=(noP,1)):=qh (by unfold walkP;rw[if_neg (by rw[hr];simp)])
   rw[hr] at HC
   clear hr
   go_enter Tryz.func93, Tryz.ntmps93
   go_wp2_with fail
   refine HC.out.mono ?_
   rintro en w4 ⟨rfl,hk4⟩
   have HK4:=qtr HK hk4
   have HT4:=qkb HB1 hk4
   have HP4:=qkb HB2 hk4
   have HZ4:=qkb HB3 hk4
   clear hk4 HC HB1 HB2 HB3 y0 y1 y2 y3 q0 q1 q2 hw1 hw2 hw3 zw1 zw2
   obtain⟨z0,z1,z2⟩:=bc3 HZ4.out
   have zf0:=HZ4.out.frozen 0
   have zf1:=HZ4.out.frozen 1
   have zf2:=HZ4.out.frozen 2
   go_wp2_with fail
   (try simp only[Exit.inBlock,Exit.then])
   have hp:=ps3_keep HK4.out (b:=w.heap.size+1+1) (.inr (by omega)) (.int .i64 0) (.int .i64 0) (.bool false)
   refine bodyPost_ret (ps_results2 (fn:=Tryz.f93) (r:=6) (s:=7) rfl (ps3_blk HZ4.out (.int .i64 0) (.int .i64 0) (.bool false)) _ rfl) rfl ⟨by rw[HF.out];rfl,hp⟩
  | true=>
   rw[hr] at HC
   by_cases g0:0≤n
   case neg=>
    have t0:decide (n<0)=true:=by simp;omega
    have HF:Hid (walkP t (e,a,r) n=(noP,1)):=qh (by unfold walkP;rw[if_neg (by rintro⟨_,h,_⟩;exact g0 h)])
    clear hr g0
    go_enter Tryz.func93, Tryz.ntmps93
    go_wp2_with fail
    refine HC.out.mono ?_
    rintro en w4 ⟨rfl,hk4⟩
    have HK4:=qtr HK hk4
    have HT4:=qkb HB1 hk4
    have HP4:=qkb HB2 hk4
    have HZ4:=qkb HB3 hk4
    clear hk4 HC HB1 HB2 HB3 y0 y1 y2 y3 q0 q1 q2 hw1 hw2 hw3 zw1 zw2
    obtain⟨z0,z1,z2⟩:=bc3 HZ4.out
    have zf0:=HZ4.out.frozen 0
    have zf1:=HZ4.out.frozen 1
    have zf2:=HZ4.out.frozen 2
    go_wp2_with fail
    (try simp only[Exit.inBlock,Exit.then])
    have hp:=ps3_keep HK4.out (b:=w.heap.size+1+1) (.inr (by omega)) (.int .i64 0) (.int .i64 0) (.bool false)
    refine bodyPost_ret (ps_results2 (fn:=Tryz.f93) (r:=6) (s:=7) rfl (ps3_blk HZ4.out (.int .i64 0) (.int .i64 0) (.bool false)) _ rfl) rfl ⟨by rw[HF.out];rfl,hp⟩
   have t0:decide (n<0)=false:=by simp;omega
   by_cases g1:n≤1099511627776
   case neg=>
    have t1:decide (n>1099511627776)=true:=by simp;omega
    have HF:Hid (walkP t (e,a,r) n=(noP,1)):=qh (by unfold walkP;rw[if_neg (by rintro⟨_,_,h⟩;exact g1 h)])
    clear hr g0 g1
    go_enter Tryz.func93, Tryz.ntmps93
    go_wp2_with fail
    refine HC.out.mono ?_
    rintro en w4 ⟨rfl,hk4⟩
    have HK4:=qtr HK hk4
    have HT4:=qkb HB1 hk4
    have HP4:=qkb HB2 hk4
    have HZ4:=qkb HB3 hk4
    clear hk4 HC HB1 HB2 HB3 y0 y1 y2 y3 q0 q1 q2 hw1 hw2 hw3 zw1 zw2
    obtain⟨z0,z1,z2⟩:=bc3 HZ4.out
    have zf0:=HZ4.out.frozen 0
    have zf1:=HZ4.out.frozen 1
    have zf2:=HZ4.out.frozen 2
    go_wp2_with fail
    (try simp only[Exit.inBlock,Exit.then])
    have hp:=ps3_keep HK4.out (b:=w.heap.size+1+1) (.inr (by omega)) (.int .i64 0) (.int .i64 0) (.bool false)
    refine bodyPost_ret (ps_results2 (fn:=Tryz.f93) (r:=6) (s:=7) rfl (ps3_blk HZ4.out (.int .i64 0) (.int .i64 0) (.bool false)) _ rfl) rfl ⟨by rw[HF.out];rfl,hp⟩
   have t1:decide (n>1099511627776)=false:=by simp;omega
   go_enter Tryz.func93, Tryz.ntmps93
   go_wp2_with fail
   refine HC.out.mono ?_
   rintro en w4 ⟨rfl,hk4⟩
   have HK4:=qtr HK hk4
   have HT4:=qkb HB1 hk4
   have HP4:=qkb HB2 hk4
   have HZ4:=qkb HB3 hk4
   clear hk4 HC HB1 HB2 HB3 y0 y1 y2 y3 q0 q1 q2 hw1 hw2 hw3 zw1 zw2
   obtain⟨r1,r2,r3,r4⟩:=right_iff.1 hr
   simp only at r2 r3 r4
   have HCk:=qh r1
   have HW:Hid (goM t 40 (e,r) (n+alongP t (e,a,r))=walkP t (e,a,r) n):=qh (by unfold walkP;rw[if_pos ⟨hr,g0,g1⟩])
   have HI4:Hid (RwI w4 (w.heap.size+1) t (walkP t (e,a,r) n) 40 (e,a,r) n w4):=qh ⟨Keep.refl _ _,HP4.out,HW.out,r2,r3,r4,g0,g1⟩
   clear hr g0 g1 r1 r2 r3 r4 HW HP4
   go_wp2_with fail
   clear t0 t1
   go_loopw [2,9,10] (fun m l _ wr=>∃(f:Nat) (p:Ps) (mm:Int),f≤40∧m=.int .i64 mm∧l=.int .i64 ((40 - f:Nat):Int)∧Hid (RwI w4 (w.heap.size+1) t (walkP t (e,a,r) n) f p mm wr)) (fun _ l _ _=>40 - (intOf l).toNat)
   case atStart=>exact⟨40,(e,a,r),n,by omega,rfl,rfl,HI4⟩
   case round=>
    obtain⟨f,ps,mm,hf,rfl,rfl,HH⟩:=hrel
    obtain⟨pe,pa,pr⟩:=ps
    have HTr:=qh (HT4.out.keep HH.out.far (by omega))
    have HZr:=qh (HZ4.out.keep HH.out.far (by omega))
    have HKr:=qh (HK4.out.then_ HH.out.far (fun i hi e=>by omega))
    have HPr:=qh HH.out.blk
    have HGo:=qh HH.out.go
    have hpos:=HH.out.pos
    have htop:=HH.out.top
    have hin:=edge_in HCk.out HH.out.there
    have hlo:=HH.out.lo
    have hhi:=HH.out.hi
    have hth:=HH.out.there
    unfold thereB at hth
    simp only[Bool.and_eq_true,decide_eq_true_eq] at hth
    rw[←HEl.out] at hth
    simp only at hin HPr HGo hlo hhi hth
    have hal:=ahead_along t (pe,pa,pr)
    have haz:=along_in (t:=t) (p:=(pe,pa,pr)) hlo hhi
    simp only at hal haz
    have HA:=qh (fun (V:World) (hk:Keep Never wr V)=>HAh.out V (HKr.out.trans hk) pe pa pr hth.1 hth.2 (by omega) hin.2 hlo (by omega))
    have HIn:=qh (fun (h:¬mm>aheadP t (pe,pa,pr))=>HGo.out.symm.trans (rw_in h))
    have HOu:=qh (fun (h:mm>aheadP t (pe,pa,pr))=>rw_out h)
    have HNx:=qh (fun (f':Nat) (x:Stp) (hf:f=f'+1) (ha:afterM t (pe,pr)=[x]) (h:mm>aheadP t (pe,pa,pr))=>rw_next (x:=x) (r:=walkP t (e,a,r) n) (by rw[←hf];exact HGo.out) ha h)
    obtain⟨ah,hah⟩:∃z,aheadP t (pe,pa,pr)=z:=⟨_,rfl⟩
    rw[hah] at HA HIn HOu HNx hal
    have hah1:0≤ah∧ah≤1000000:=by omega
    have HC:=qh (HA.out wr (Keep.refl _ _))
    obtain⟨y0,y1,y2,y3⟩:=bc4 HTr.out
    obtain⟨q0,q1,q2⟩:=bc3 HPr.out
    by_cases g:mm>ah
    case neg=>
     have t2:decide (mm>ah)=false:=by simpa using g
     have HF:Hid (walkP t (e,a,r) n=(movedP (pe,pa,pr) mm,0)):=qh (HIn.out g)
     have HMv:=qh (fun (V:World)=>rmoved_any pe pa pr mm V hlo (by omega) hpos (by omega))
     obtain⟨⟨o1,o2,o3⟩,hov⟩:∃z,movedP (pe,pa,pr) mm=z:=⟨_,rfl⟩
     rw[hov] at HF HMv
     unfold PsRet psV at HMv
     dsimp only at HMv
     clear g hth hin hpos htop hlo hhi hal haz hah hah1 hov
     go_wp2_with fail
     refine HC.out.mono ?_
     rintro en w7 ⟨rfl,hk7⟩
     have HK7:=qtr HKr hk7
     have HP7:=qkb HPr hk7
     have HZ7:=qkb HZr hk7
     clear hk7 HC y0 y1 y2 y3 q0 q1 q2
     obtain⟨q0,q1,q2⟩:=bc3 HP7.out
     go_wp2_with fail
     refine(HMv.out _).mono ?_
     rintro en w8 ⟨rfl,hk8⟩
     have HK8:=qtr HK7 hk8
     have HZ8:=qkb HZ7 hk8
     clear hk8 HMv q0 q1 q2
     obtain⟨z0,z1,z2⟩:=bc3 HZ8.out
     have zf0:=HZ8.out.frozen 0
     have zf1:=HZ8.out.frozen 1
     have zf2:=HZ8.out.frozen 2
     go_wp2_with fail
     (try simp only[Exit.inBlock,Exit.then])
     have hp:=ps3_keep HK8.out (b:=w.heap.size+1+1) (.inr (by omega)) (.int .i64 o1) (.int .i64 o2) (.bool o3)
     refine bodyPost_ret (ps_results2 (fn:=Tryz.f93) (r:=6) (s:=7) rfl (ps3_blk HZ8.out (.int .i64 o1) (.int .i64 o2) (.bool o3)) _ rfl) rfl ⟨by rw[HF.out];rfl,hp⟩
    have t2:decide (mm>ah)=true:=by simpa using g
    have HC2:=qh (fun (V:World) (hk:Keep Never wr V)=>HAf.out V (HKr.out.trans hk) (pe,pr))
    dsimp only at HC2
    have HG:=qh (HOu.out g)
    have Hg:=qh g
    have Hth:=qh HH.out.there
    have hwm:IntKind.i64.wrap (mm - ah)=mm - ah:=IntWalk.i64_in _ (by omega)
    have hwm':wrap64 (mm - ah)=mm - ah:=by have:=hwm;rwa [IntWalk.i64_left] at this
    have HBd:Hid (0≤mm - ah∧mm - ah≤1099511627776):=qh (by omega)
    clear g hth hin hpos htop hlo hhi hal haz hah hah1 HIn HOu
    go_wp2_with fail
    refine HC.out.mono ?_
    rintro en w7 ⟨rfl,hk7⟩
    have HKa7:=qh hk7
    have HC:=qh (HC2.out w7 hk7)
    have HT7:=qkb HTr hk7
    have HP7:=qkb HPr hk7
    clear hk7 y0 y1 y2 y3 q0 q1 q2
    obtain⟨y0,y1,y2,y3⟩:=bc4 HT7.out
    obtain⟨q0,q1,q2⟩:=bc3 HP7.out
    clear HC2
    go_wp2_with fail
    refine HC.out.mono ?_
    rintro en w8 ⟨A8,n8,c8,rfl,hn8,ho8,hk8⟩
    have HKa8:=qtr HKa7 hk8
    have HK8:=qh (HKr.out.trans HKa8.out)
    have HT8:=qkb HT7 hk8
    have HP8:=qkb HP7 hk8
    have HZ8:=qh (HZr.out.keep HKa8.out (fun h=>h))
    have Ho8:=qh ho8
    clear ho8 hk8 HC y0 y1 y2 y3 q0 q1 q2
    rcases hl:afterM t (pe,pr) with _ | ⟨x,_ | ⟨y,l⟩⟩
    ·have HF:Hid (walkP t (e,a,r) n=(noP,141)):=qh (by rw[←HGo.out];exact goM_end (by have:=HG.out;simp only;omega) hl)
     rw[hl] at hn8
     obtain rfl:n8=0:=hn8.out
     clear hl hn8
     obtain⟨z0,z1,z2⟩:=bc3 HZ8.out
     have zf0:=HZ8.out.frozen 0
     have zf1:=HZ8.out.frozen 1
     have zf2:=HZ8.out.frozen 2
     go_wp2_with fail
     (try simp only[Exit.inBlock,Exit.then])
     have hp:=ps3_keep HK8.out (b:=w.heap.size+1+1) (.inr (by omega)) (.int .i64 0) (.int .i64 0) (.bool false)
     refine bodyPost_ret (ps_results2 (fn:=Tryz.f93) (r:=6) (s:=7) rfl (ps3_blk HZ8.out (.int .i64 0) (.int .i64 0) (.bool false)) _ rfl) rfl ⟨by rw[HF.out];rfl,hp⟩
    ·rw[hl] at hn8 Ho8
     obtain rfl:n8=1:=hn8.out
     have hmem:x∈afterM t (pe,pr):=by rw[hl];simp
     have Hx:=qh (after_there hmem)
     cases f with
     | zero=>
      have HF:Hid (walkP t (e,a,r) n=(noP,2)):=qh (by rw[←HGo.out];exact goM_long (by have:=HG.out;simp only;omega) hl)
      clear hl hn8 hmem
      obtain⟨z0,z1,z2⟩:=bc3 HZ8.out
      have zf0:=HZ8.out.frozen 0
      have zf1:=HZ8.out.frozen 1
      have zf2:=HZ8.out.frozen 2
      go_wp2_with fail
      (try simp only[Exit.inBlock,Exit.then])
      have hp:=ps3_keep HK8.out (b:=w.heap.size+1+1) (.inr (by omega)) (.int .i64 0) (.int .i64 0) (.bool false)
      refine bodyPost_ret (ps_results2 (fn:=Tryz.f93) (r:=6) (s:=7) rfl (ps3_blk HZ8.out (.int .i64 0) (.int .i64 0) (.bool false)) _ rfl) rfl ⟨by rw[HF.out];rfl,hp⟩
     | succ f=>
      have HG2:=qh (HNx.out f x rfl hl Hg.out)
      have t6:(((40 - (f+1):Nat):Int)==40)=false:=by simp;omega
      obtain⟨ad2,x',hA2,hb2,hx',c0,c1⟩:=Ho8.out.rd.stp (k:=0) (by omega)
      obtain rfl:x=x':=by simpa using hx'
      subst hA2
      obtain⟨x0,x1⟩:=x
      have hx1:=Hx.out
      unfold thereB at hx1
      simp only[Bool.and_eq_true,decide_eq_true_eq] at hx1
      rw[←HEl.out] at hx1
      have HBe:=qh (fun (V:World) (hk:Keep Never w V)=>HBg.out V hk x0 x1 hx1.1 hx1.2)
      have hb1:=begin_at t (x0,x1)
      have hb2:=begin_in (t:=t) (x:=(x0,x1)) (by have:=edge_in HCk.out Hx.out;simp only at this ⊢;omega)
      obtain⟨⟨b1,b2,b3⟩,hbv⟩:∃z,beginP t (x0,x1)=z:=⟨_,rfl⟩
      rw[hbv] at HBe hb1 hb2 HG2
      unfold PsRet psV at HBe
      dsimp only at HBe hb1 hb2 HG2
      have Hb1:=qh hb1
      have Hb2:=qh hb2
      simp only[Nat.zero_mul] at c0 c1
      have ea:ad2.add 0=ad2:=by unfold Addr.add;split <;> simp_all
      have c0':=c0
      have c1':=c1
      rw[ea] at c0' c1'
      have HCx:=qh (And.intro c0 (And.intro c1 (And.intro c0' c1')))
      have HC:=qh (HA.out w8 HKa8.out)
      obtain⟨y0,y1,y2,y3⟩:=bc4 HT8.out
      obtain⟨q0,q1,q2⟩:=bc3 HP8.out
      clear hl hn8 hmem hx' hx1 hb1 hb2 hbv c0 c1 c0' c1'
      go_wp2_with fail
      refine HC.out.mono ?_
      rintro en w9 ⟨rfl,hk9⟩
      obtain⟨c0,c1,c0',c1'⟩:=HCx.out
      have c0:=keepT hk9 c0
      have c1:=keepT hk9 c1
      have c0':=keepT hk9 c0'
      have c1':=keepT hk9 c1'
      have HK9:=qtr HK8 hk9
      have HKa9:=qtr HKa8 hk9
      have HT9:=qkb HT8 hk9
      have HP9:=qkb HP8 hk9
      clear hk9 HC y0 y1 y2 y3 q0 q1 q2
      obtain⟨y0,y1,y2,y3⟩:=bc4 HT9.out
      go_wp2_with fail
      (try rw[hwm'])
      go_region_law (first
        | (go_simp;go_at_call 143; refine(HBe.out _ (HK9.out.drew)).mono ?_;rintro en w10 ⟨rfl,hk10⟩;have HK10:=qh hk10.drewL;have HP10:=qh (HP9.out.keep HK10.out (fun h=>h));have q0:w10.cell? ⟨w.heap.size+1,0,none⟩=some (.int .i64 pe):=HP10.out.cell 0;have q1:w10.cell? ⟨w.heap.size+1,1,none⟩=some (.int .i64 pa):=HP10.out.cell 1;have q2:w10.cell? ⟨w.heap.size+1,2,none⟩=some (.bool pr):=HP10.out.cell 2;have qf0:=HP10.out.frozen 0;have qf1:=HP10.out.frozen 1;have qf2:=HP10.out.frozen 2))
      all_goals
       go_wp2_with fail
       have b11:=ps3_blk HP10.out (.int .i64 b1) (.int .i64 b2) (.bool b3)
       refine⟨⟨f,(b1,b2,b3),mm - ah,by omega,rfl,by rw[show ((39 - f:Nat):Int)+1=((40 - f:Nat):Int) by omega],qh ⟨HH.out.far.then_ (ps3_keep ((HKa9.out.trans HK10.out).mono (S':=fun q=>q=w.heap.size+1) (fun _ _ h=>h.elim)) (b:=w.heap.size+1) (.inl rfl) _ _ _) (fun i hi h=>h),b11,HG2.out,by have h1:=Hb1.out;rw[h1.1];exact Hx.out,Hb2.out.1,by have h1:=Hb1.out;have h2:=Hb2.out;simp only;rw[h1.1];exact h2.2,HBd.out.1,HBd.out.2⟩⟩,?_⟩
       simp[intOf];try omega
    ·have HF:Hid (walkP t (e,a,r) n=(noP,140)):=qh (by rw[←HGo.out];exact goM_fork (by have:=HG.out;simp only;omega) hl)
     rw[hl] at hn8
     have hn2:n8=l.length+2:=hn8.out
     have t3:((n8:Int)==0)=false:=by simp;omega
     have t4:decide ((n8:Int)>1)=true:=by simp;omega
     have t5:decide (1<n8)=true:=by simp;omega
     clear hl hn8 hn2
     obtain⟨z0,z1,z2⟩:=bc3 HZ8.out
     have zf0:=HZ8.out.frozen 0
     have zf1:=HZ8.out.frozen 1
     have zf2:=HZ8.out.frozen 2
     go_wp2_with fail
     (try simp only[Exit.inBlock,Exit.then])
     have hp:=ps3_keep HK8.out (b:=w.heap.size+1+1) (.inr (by omega)) (.int .i64 0) (.int .i64 0) (.bool false)
     refine bodyPost_ret (ps_results2 (fn:=Tryz.f93) (r:=6) (s:=7) rfl (ps3_blk HZ8.out (.int .i64 0) (.int .i64 0) (.bool false)) _ rfl) rfl ⟨by rw[HF.out];rfl,hp⟩
set_option maxHeartbeats 8000000 in
set_option maxRecDepth 100000 in
theorem rlocate_any (x:TA) (t:Tp) (B:Nat) (id:Int) (r:Bool) (n:Int) (w:World) (h:TpAt w B x t) (hs:TpSmall x t) (hB:B≤w.heap.size) :
    Calls Tryz.prog 60 #[.agg x.cs,.int .i64 id,.bool r,.int .i64 n] w (PsRet2 (locP t id r n) w):=by
  have HCh:=qh (fun (W:World) (hk:Keep Never w W)=>rcheck_any x t B W (h.keep hk) hs (Nat.le_trans hB hk.size))
  have HBa:=qh (fun (W:World) (hk:Keep Never w W)=>rbal_any x t B id W (h.keep hk) hs.b)
  have HWk:=qh (fun (W:World) (hk:Keep Never w W) (e a:Int)=>rwalk_any x t B e a r n W (h.keep hk) hs (Nat.le_trans hB hk.size))
  obtain⟨Ae,ne,ce,Aj,nj,cj,Ab,nb,cb,Ar,nr,cr⟩:=x
  simp only[TA.cs] at HCh HBa HWk ⊢
  clear h hs hB
  obtain⟨w1,hw1⟩:∃V:World,w.alloc (.cells #[.slice Ae ne ce,.slice Aj nj cj,.slice Ab nb cb,.slice Ar nr cr] 27)=V:=⟨_,rfl⟩
  have zw1:w1.heap.size=w.heap.size+1:=by rw[←hw1];simp
  have kw1:Keep Never w w1:=by rw[←hw1];exact(Keep.refl _ _).alloc _
  have bw1:=Blk.new w 27 #[.slice Ae ne ce,.slice Aj nj cj,.slice Ab nb cb,.slice Ar nr cr]
  rw[hw1] at bw1
  obtain⟨w2,hw2⟩:∃V:World,w1.alloc (.cells #[.int .i64 0,.int .i64 0,.bool false] 71)=V:=⟨_,rfl⟩
  have kw2:Keep Never w1 w2:=by rw[←hw2];exact(Keep.refl _ _).alloc _
  have bw2:=Blk.new w1 71 #[.int .i64 0,.int .i64 0,.bool false]
  rw[hw2,zw1] at bw2
  have HB1:=qh (bw1.keep kw2 (fun h=>h))
  have HB2:=qh bw2
  have HK:=qh (kw1.trans kw2)
  clear kw1 kw2 bw1 bw2
  obtain⟨y0,y1,y2,y3⟩:=bc4 HB1.out
  have HC:=qh (HCh.out w2 HK.out)
  obtain⟨ck,hck⟩:∃z,checkM t=z:=⟨_,rfl⟩
  rw[hck] at HC
  go_enter Tryz.func60, Tryz.ntmps60
  go_wp2_with fail
  refine HC.out.mono ?_
  rintro en w4 ⟨rfl,hk4⟩
  have HK4:=qtr HK hk4
  have HT4:=qkb HB1 hk4
  have HZ4:=qkb HB2 hk4
  clear hk4 HC HCh HB1 HB2 y0 y1 y2 y3 hw1 hw2 zw1
  by_cases g:ck=0
  case neg=>
   have t0:(ck != 0)=true:=by simpa using g
   have HF:Hid (locP t id r n=(noP,1)):=qh (by unfold locP;rw[if_neg (by rw[hck];exact g)])
   clear g hck
   obtain⟨z0,z1,z2⟩:=bc3 HZ4.out
   have zf0:=HZ4.out.frozen 0
   have zf1:=HZ4.out.frozen 1
   have zf2:=HZ4.out.frozen 2
   go_wp2_with fail
   (try simp only[Exit.inBlock,Exit.then])
   have hp:=ps3_keep HK4.out (b:=w.heap.size+1) (.inr (by omega)) (.int .i64 0) (.int .i64 0) (.bool false)
   refine bodyPost_ret (ps_results2 (fn:=Tryz.f60) (r:=8) (s:=9) rfl (ps3_blk HZ4.out (.int .i64 0) (.int .i64 0) (.bool false)) _ rfl) rfl ⟨by rw[HF.out];rfl,hp⟩
  have t0:(ck != 0)=false:=by simpa using g
  have HF0:Hid (locP t id r n=match balM t.2.2.1 id with | none=>(noP,4) | some b=>walkP t (b.2.1,b.2.2,r) n):=qh (by unfold locP;rw[if_pos (by rw[hck];exact g)];rfl)
  clear g hck
  have hC0:=HBa.out w4 HK4.out
  unfold BalRet at hC0
  obtain⟨ob,hob⟩:∃z,balM t.2.2.1 id=z:=⟨_,rfl⟩
  rw[hob] at hC0 HF0
  have HC:=qh hC0
  clear hC0 hob HBa
  obtain⟨y0,y1,y2,y3⟩:=bc4 HT4.out
  cases ob with
  | none=>
   have HF:Hid (locP t id r n=(noP,4)):=qh HF0.out
   go_wp2_with fail
   refine HC.out.mono ?_
   rintro en w5 ⟨rfl,hk5⟩
   have HK5:=qtr HK4 hk5
   have HZ5:=qkb HZ4 hk5
   clear hk5 HC y0 y1 y2 y3
   simp only[Option.getD,Option.isSome]
   have HK6:=qh (HK5.out.trans ((Keep.refl Never w5).alloc (.cells #[.int .i64 0,.int .i64 0,.int .i64 0] 94)))
   have HZ6:=qh (HZ5.out.alloc (.cells #[.int .i64 0,.int .i64 0,.int .i64 0] 94))
   obtain⟨z0,z1,z2⟩:=bc3 HZ6.out
   have zf0:=HZ6.out.frozen 0
   have zf1:=HZ6.out.frozen 1
   have zf2:=HZ6.out.frozen 2
   go_wp2_with fail
   (try simp only[Exit.inBlock,Exit.then])
   have hp:=ps3_keep HK6.out (b:=w.heap.size+1) (.inr (by omega)) (.int .i64 0) (.int .i64 0) (.bool false)
   refine bodyPost_ret (ps_results2 (fn:=Tryz.f60) (r:=8) (s:=9) rfl (ps3_blk HZ6.out (.int .i64 0) (.int .i64 0) (.bool false)) _ rfl) rfl ⟨by rw[HF.out];rfl,hp⟩
  | some b=>
   obtain⟨b1,b2,b3⟩:=b
   have HF:Hid (locP t id r n=walkP t (b2,b3,r) n):=qh HF0.out
   go_wp2_with fail
   refine HC.out.mono ?_
   rintro en w5 ⟨rfl,hk5⟩
   have HK5:=qtr HK4 hk5
   have HT5:=qkb HT4 hk5
   have HZ5:=qkb HZ4 hk5
   clear hk5 HC y0 y1 y2 y3
   simp only[Option.getD,Option.isSome]
   obtain⟨w6,hw6⟩:∃V:World,w5.alloc (.cells #[.int .i64 b1,.int .i64 b2,.int .i64 b3] 94)=V:=⟨_,rfl⟩
   have K6:Keep Never w5 w6:=by rw[←hw6];exact(Keep.refl _ _).alloc _
   have B6:=Blk.new w5 94 #[.int .i64 b1,.int .i64 b2,.int .i64 b3]
   rw[hw6] at B6
   obtain⟨bb,hbb⟩:∃q,w5.heap.size=q:=⟨_,rfl⟩
   rw[hbb] at B6
   have HK6:=qtr HK5 K6
   have HT6:=qkb HT5 K6
   have HZ6:=qkb HZ5 K6
   have HB6:=qh B6
   clear K6 B6
   obtain⟨y0,y1,y2,y3⟩:=bc4 HT6.out
   obtain⟨q0,q1,q2⟩:=bc3 HB6.out
   have HC:=qh (HWk.out w6 HK6.out b2 b3)
   go_wp2_with fail
   refine HC.out.mono ?_
   clear hw6 hbb
   rintro en w7 ⟨rfl,hk7⟩
   have HK7:=qtr HK6 hk7
   have HZ7:=qkb HZ6 hk7
   clear hk7 HC y0 y1 y2 y3 q0 q1 q2
   obtain⟨⟨⟨o1,o2,o3⟩,oe⟩,hov⟩:∃z,walkP t (b2,b3,r) n=z:=⟨_,rfl⟩
   rw[hov] at HF
   rw[hov]
   clear hov
   obtain⟨z0,z1,z2⟩:=bc3 HZ7.out
   have zf0:=HZ7.out.frozen 0
   have zf1:=HZ7.out.frozen 1
   have zf2:=HZ7.out.frozen 2
   go_wp2_with fail
   (try simp only[Exit.inBlock,Exit.then])
   have hp:=ps3_keep HK7.out (b:=w.heap.size+1) (.inr (by omega)) (.int .i64 o1) (.int .i64 o2) (.bool o3)
   refine bodyPost_ret (ps_results2 (fn:=Tryz.f60) (r:=8) (s:=9) rfl (ps3_blk HZ7.out (.int .i64 o1) (.int .i64 o2) (.bool o3)) _ rfl) rfl ⟨by rw[HF.out];rfl,hp⟩
end Go.Proofs.YtpapiojicbbheaaGreatDoor

namespace Go.Proofs.YtpapiojicbbheaaGreatDoor
open Go.RowKit
def RtRetB (B:Nat) (o:Option Rt) (w:World) (e:Ending) (w':World):Prop:=
  ∃A n c,e=.returned (.tuple #[.agg #[.int .i64 (o.getD (0,[],0,0)).1,.slice A n c,.int .i64 (o.getD (0,[],0,0)).2.2.1,.int .i64 (o.getD (0,[],0,0)).2.2.2],.bool o.isSome])∧repStp.Sl w' B A n c (o.getD (0,[],0,0)).2.1∧Keep Never w w'
set_option maxHeartbeats 4000000 in
set_option maxRecDepth 100000 in
theorem rrt_old (x:TA) (t:Tp) (B:Nat) (id:Int) (w:World) (ht:TpAt w B x t) (hn:x.nr≤100000000) (hB:B≤w.heap.size) :
    Calls Tryz.prog 50 #[.agg x.cs,.int .i64 id] w (RtRetB B (rtM t.2.2.2 id) w):=by
  have HT:=qh ht
  have HBz:=qh hB
  have HL:Hid (x.nr=t.2.2.2.length):=qh ht.r.len
  obtain⟨Ae,ne,ce,Aj,nj,cj,Ab,nb,cb,Ar,nr,cr⟩:=x
  simp only[TA.cs] at HL hn ⊢
  clear ht hB
  obtain⟨w1,hw1⟩:∃W:World,w.alloc (.cells #[.slice Ae ne ce,.slice Aj nj cj,.slice Ab nb cb,.slice Ar nr cr] 27)=W:=⟨_,rfl⟩
  obtain⟨w2,hw2⟩:∃W:World,w1.alloc (.cells #[.int .i64 0,.slice none 0 0,.int .i64 0,.int .i64 0] 64)=W:=⟨_,rfl⟩
  have z1:w1.heap.size=w.heap.size+1:=by rw[←hw1];simp
  have k1:Keep Never w w1:=by rw[←hw1];exact(Keep.refl _ _).alloc _
  have k2:Keep Never w1 w2:=by rw[←hw2];exact(Keep.refl _ _).alloc _
  have c1:=Blk.new w 27 #[.slice Ae ne ce,.slice Aj nj cj,.slice Ab nb cb,.slice Ar nr cr]
  rw[hw1] at c1
  have c2:=Blk.new w1 64 #[.int .i64 0,.slice none 0 0,.int .i64 0,.int .i64 0]
  rw[hw2,z1] at c2
  have HB1:=qh (c1.keep k2 (fun h=>h))
  have HB2:=qh c2
  have HK:=qh (k1.trans k2)
  clear k1 k2 c1 c2
  go_enter Tryz.func50, Tryz.ntmps50
  go_wp2_with fail
  clear hw2 hw1
  go_loopw [6] (fun i wr=>∃k:Nat,k≤nr∧i=.int .i64 k∧Hid (Keep Never w2 wr∧∀x∈t.2.2.2.take k,x.1≠id)) (fun i _=>nr - (intOf i).toNat)
  case atStart=>exact⟨0,by omega,rfl,qh ⟨Keep.refl _ _,by simp⟩⟩
  case round=>
   obtain⟨k,hk,rfl,HH⟩:=hrel
   have yF:wr.cell? ⟨w.heap.size,3,none⟩=some (.slice Ar nr cr):=(HB1.out.keep HH.out.1 (fun h=>h)).cell 3
   have hb2:=HB2.out.keep HH.out.1 (fun h=>h)
   have HB2':=qh hb2
   have HKr:=qh (HK.out.trans HH.out.1)
   by_cases h0:k<nr
   ·have hkz:(k:Int)<(nr:Int):=by omega
    obtain⟨ad,b,A2,n2,d2,hA,_,hb,c0,c1,c2,c3,hsl⟩:=rt_at2 (HT.out.keep HKr.out).r h0
    simp only at hA
    subst hA
    obtain⟨s1,p,s3,s4⟩:=b
    simp only at c0 c1 c2 c3 hsl
    have HSl:=qh hsl
    clear hsl
    have Hb:=qh hb
    by_cases g:s1=id
    ·have t1:(s1==id)=true:=by simpa using g
     have HM:Hid (rtM t.2.2.2 id=some (s1,p,s3,s4)):=qh (rt_hit Hb.out g HH.out.2)
     have g0:wr.cell? ⟨w.heap.size+1,0,none⟩=some (.int .i64 0):=hb2.cell 0
     have h0':=hb2.frozen 0
     have g1:wr.cell? ⟨w.heap.size+1,1,none⟩=some (.slice none 0 0):=hb2.cell 1
     have h1':=hb2.frozen 1
     have g2:wr.cell? ⟨w.heap.size+1,2,none⟩=some (.int .i64 0):=hb2.cell 2
     have h2':=hb2.frozen 2
     have g3:wr.cell? ⟨w.heap.size+1,3,none⟩=some (.int .i64 0):=hb2.cell 3
     have h3':=hb2.frozen 3
     clear g hb hb2
     go_wp2_with fail
     (try simp only[Exit.inBlock,Exit.then])
     refine bodyPost_ret (rrt_results (put4_blk HB2'.out (.int .i64 s1) (.slice A2 n2 d2) (.int .i64 s3) (.int .i64 s4)) _ rfl) rfl ⟨A2,n2,d2,by rw[HM.out];rfl,by rw[HM.out];exact(HSl.out.keep (put4_keep (S:=fun k=>k=w.heap.size+1) (Keep.refl _ _) (.inl rfl) (.int .i64 s1) (.slice A2 n2 d2) (.int .i64 s3) (.int .i64 s4)) (fun k e=>by have:=HBz.out;omega)),put4_keep HKr.out (.inr (show w.heap.size≤w.heap.size+1 by omega)) (.int .i64 s1) (.slice A2 n2 d2) (.int .i64 s3) (.int .i64 s4)⟩
    ·have t1:(s1==id)=false:=by simpa using g
     have HN:Hid (∀x∈t.2.2.2.take (k+1),x.1≠id):=qh (all_take Hb.out HH.out.2 g)
     clear g hb hb2 c1 c2 c3
     go_wp2_with fail
     refine⟨⟨k+1,by omega,by go_num,qh ⟨HH.out.1,HN.out⟩⟩,?_⟩
     simp[intOf];try omega
   ·obtain rfl:nr=k:=by omega
    have hkz:¬(nr:Int)<(nr:Int):=by omega
    have HM:Hid (rtM t.2.2.2 id=none):=qh (rt_miss (fun x hx=>HH.out.2 x (by rw[List.take_of_length_le (by rw[←HL.out];exact Nat.le_refl _)];exact hx)))
    have g0:wr.cell? ⟨w.heap.size+1,0,none⟩=some (.int .i64 0):=hb2.cell 0
    have h0':=hb2.frozen 0
    have g1:wr.cell? ⟨w.heap.size+1,1,none⟩=some (.slice none 0 0):=hb2.cell 1
    have h1':=hb2.frozen 1
    have g2:wr.cell? ⟨w.heap.size+1,2,none⟩=some (.int .i64 0):=hb2.cell 2
    have h2':=hb2.frozen 2
    have g3:wr.cell? ⟨w.heap.size+1,3,none⟩=some (.int .i64 0):=hb2.cell 3
    have h3':=hb2.frozen 3
    clear hb2
    go_wp2_with fail
    (try simp only[Exit.inBlock,Exit.then])
    refine bodyPost_ret (rrt_results (put4_blk HB2'.out (.int .i64 0) (.slice none 0 0) (.int .i64 0) (.int .i64 0)) _ rfl) rfl ⟨none,0,0,by rw[HM.out];rfl,by rw[HM.out];exact Rep.Sl.nil _ _ _,put4_keep HKr.out (.inr (show w.heap.size≤w.heap.size+1 by omega)) (.int .i64 0) (.slice none 0 0) (.int .i64 0) (.int .i64 0)⟩
set_option maxHeartbeats 1000000 in
set_option maxRecDepth 100000 in
theorem ramong17_any (A:Option Addr) (n c B:Nat) (l:List Stp) (s:Stp) (w:World) (hr:Rd w B 2 A n (stpCells l)) (hn:n≤100000000) :
    Calls Tryz.prog 51 #[.slice A n c,.agg #[.int .i64 s.1,.bool s.2]] w fun e w'=>e=.returned (.bool (decide (s∈l)))∧Keep Never w w':=by
  have qe:∀(w:World) (x1:Int) (x2:Bool) (y1:Int) (y2:Bool),(binOp .eql 30 (.agg #[.int .i64 x1,.bool x2]) (.agg #[.int .i64 y1,.bool y2])).run Tryz.prog w=.ok (.bool (sameS x1 x2 y1 y2)) w:=run_eq_stp
  obtain⟨s1,s2⟩:=s
  simp only
  obtain⟨w1,hw1⟩:∃W:World,w.alloc (.cells #[.int .i64 s1,.bool s2] 30)=W:=⟨_,rfl⟩
  have k1:Keep Never w w1:=by rw[←hw1];exact(Keep.refl _ _).alloc _
  have b1:=Blk.new w 30 #[.int .i64 s1,.bool s2]
  rw[hw1] at b1
  have HB:=qh b1
  have HK:=qh k1
  have HR:=qh (hr.keep k1 (fun _ h=>h.elim))
  clear k1 b1 hr
  go_enter Tryz.func51, Tryz.ntmps51
  go_wp2_with fail
  go_loopw [5] (fun i wr=>∃k:Nat,k≤n∧i=.int .i64 k∧Hid (Keep Never w1 wr∧(s1,s2)∉l.take k)) (fun i _=>n - (intOf i).toNat)
  case atStart=>exact⟨0,by omega,rfl,qh ⟨Keep.refl _ _,by simp⟩⟩
  case round=>
   obtain⟨k,hk,rfl,HH⟩:=hrel
   by_cases h0:k<n
   ·have hkz:(k:Int)<(n:Int):=by omega
    obtain⟨ad,u,hA,_,hu,c0,c1⟩:=(HR.out.keep HH.out.1 (fun _ h=>h.elim)).stp h0
    subst hA
    obtain⟨u1,u2⟩:=u
    simp only at c0 c1
    have hb:=HB.out.keep HH.out.1 (fun h=>h)
    obtain⟨v0,v1⟩:=bc2 hb
    have HT:Hid (l.take (k+1)=l.take k++[(u1,u2)]):=qh (by
     obtain⟨h2,h3⟩:=List.getElem?_eq_some_iff.1 hu
     rw[List.take_succ_eq_append_getElem h2,h3])
    have Hu:=qh hu
    clear hu hb
    go_wp2_with fail
    rcases Bool.eq_false_or_eq_true (sameS u1 u2 s1 s2) with t1 | t1
    ·have HF:Hid (decide (((s1,s2):Stp)∈l)=true):=qh (decide_eq_true (by rw[←of_decide_eq_true t1];exact List.mem_of_getElem? Hu.out))
     go_quiet (fail)
     go_wp2_with fail
     go_ret
     exact⟨by rw[HF.out];rfl,(HK.out.trans HH.out.1).drewN _⟩
    ·have HN:Hid ((s1,s2)∉l.take (k+1)):=qh (by
      rw[HT.out,List.mem_append,List.mem_singleton]
      rintro(h | h)
      ·exact HH.out.2 h
      ·exact(of_decide_eq_false t1) h.symm)
     go_quiet (fail)
     go_wp2_with fail
     refine⟨⟨k+1,by omega,by go_num,qh ⟨HH.out.1.drewN _,HN.out⟩⟩,?_⟩
     simp[intOf];try omega
   ·obtain rfl:k=n:=by omega
    have hkz:¬(k:Int)<(k:Int):=by omega
    have HF:Hid (decide (((s1,s2):Stp)∈l)=false):=qh (decide_eq_false (by have:=HH.out.2;rwa [List.take_of_length_le (by rw[HR.out.stp_len];exact Nat.le_refl _)] at this))
    go_wp2_with fail
    go_ret
    exact⟨by rw[HF.out];rfl,HK.out.trans HH.out.1⟩
set_option maxHeartbeats 4000000 in
set_option maxRecDepth 100000 in
theorem met17_any (A:Option Addr) (n c B:Nat) (a:List Stp) (A':Option Addr) (n' c' B':Nat) (b:List Stp) (w:World) (hr:Rd w B 2 A n (stpCells a)) (hr':Rd w B' 2 A' n' (stpCells b)) (hn:n≤1000000) (hn':n'≤1000000) :
    Calls Tryz.prog 53 #[.slice A n c,.slice A' n' c'] w fun en w'=>en=.returned (.bool (a.any fun u=>overB b u.1))∧Keep Never w w':=by
  have HL:Hid (a.length=n):=qh hr.stp_len
  have HL2:Hid (b.length=n'):=qh hr'.stp_len
  have HR:=qh hr
  have HR2:=qh hr'
  clear hr hr'
  go_enter Tryz.func53, Tryz.ntmps53
  go_wp2_with fail
  go_loopw [5] (fun si wr=>∃k:Nat,k≤n∧si=.int .i64 k∧Hid (Keep Never w wr∧((a.take k).any fun u=>overB b u.1)=false)) (fun si _=>n - (intOf si).toNat)
  case atStart=>exact⟨0,by omega,rfl,qh ⟨Keep.refl _ _,by simp⟩⟩
  case round=>
   obtain⟨k,hk,rfl,HH⟩:=hrel
   by_cases h0:k<n
   case neg=>
    obtain rfl:k=n:=by omega
    have hki:¬(k:Int)<(k:Int):=by omega
    have HF:Hid ((a.any fun u=>overB b u.1)=false):=qh (by have h:=HH.out.2;rw[List.take_of_length_le (by rw[HL.out];exact Nat.le_refl _)] at h;exact h)
    go_wp2_with fail
    go_ret
    exact⟨by rw[HF.out];rfl,HH.out.1⟩
   have hki:(k:Int)<(n:Int):=by omega
   obtain⟨ad,s,hA,_,hs,c0,_⟩:=(HR.out.keep HH.out.1 (fun _ h=>h.elim)).stp h0
   subst hA
   have HT:Hid (a.take (k+1)=a.take k++[s]):=qh (by
    obtain⟨h2,h3⟩:=List.getElem?_eq_some_iff.1 hs
    rw[List.take_succ_eq_append_getElem h2,h3])
   have HM:Hid (s∈a):=qh (List.mem_of_getElem? hs)
   obtain⟨s1,s2⟩:=s
   simp only at c0
   have HC0:=qh c0
   clear hs c0
   go_wp2_with fail
   rename World=>wz
   go_loopw [6] (fun si wr=>∃j:Nat,j≤n'∧si=.int .i64 j∧Hid (Keep Never wz wr∧overB (b.take j) s1=false)) (fun si _=>n' - (intOf si).toNat)
   case atStart=>exact⟨0,by omega,rfl,qh ⟨Keep.refl _ _,by simp[overB]⟩⟩
   case round=>
    obtain⟨j,hj,rfl,HI⟩:=hrel
    by_cases h1:j<n'
    case neg=>
     obtain rfl:j=n':=by omega
     have hji:¬(j:Int)<(j:Int):=by omega
     have HN:Hid (((a.take (k+1)).any fun u=>overB b u.1)=false):=qh (by
      have h:=HI.out.2
      rw[List.take_of_length_le (by rw[HL2.out];exact Nat.le_refl _)] at h
      rw[HT.out,List.any_append,HH.out.2]
      simp[h])
     go_wp2_with fail
     refine⟨⟨k+1,by omega,by go_num,qh ⟨HH.out.1.trans HI.out.1,HN.out⟩⟩,?_⟩
     simp[intOf];try omega
    have hji:(j:Int)<(n':Int):=by omega
    obtain⟨ad',u,hA',_,hu,d0,_⟩:=(HR2.out.keep (HH.out.1.trans HI.out.1) (fun _ h=>h.elim)).stp h1
    subst hA'
    have c0:=keepT HI.out.1 HC0.out
    obtain⟨u1,u2⟩:=u
    simp only at d0
    by_cases g:s1=u1
    ·have t1:(s1==u1)=true:=by simpa using g
     have HF:Hid ((a.any fun u=>overB b u.1)=true):=qh (List.any_eq_true.2 ⟨(s1,s2),HM.out,over_iff.2 ⟨(u1,u2),List.mem_of_getElem? hu,g.symm⟩⟩)
     clear hu g
     go_wp2_with fail
     go_quiet (fail)
     go_wp2_with fail
     go_ret
     exact⟨by rw[HF.out];rfl,(HH.out.1.trans HI.out.1).drewN _⟩
    ·have t1:(s1==u1)=false:=by simpa using g
     have HN:Hid (overB (b.take (j+1)) s1=false):=qh (by
      obtain⟨h2,h3⟩:=List.getElem?_eq_some_iff.1 hu
      have h4:=HI.out.2
      unfold overB at h4 ⊢
      rw[List.take_succ_eq_append_getElem h2,h3,List.any_append,h4]
      have:(u1==s1)=false:=by simpa using fun e=>g e.symm
      simp[this])
     clear hu g
     go_wp2_with fail
     go_quiet (fail)
     go_wp2_with fail
     refine⟨⟨j+1,by omega,by go_num,qh ⟨HI.out.1.drewN _,HN.out⟩⟩,?_⟩
     simp[intOf];try omega
set_option maxHeartbeats 4000000 in
set_option maxRecDepth 100000 in
theorem rtwice17_any (A:Option Addr) (n c B:Nat) (l:List Stp) (w:World) (hr:Rd w B 2 A n (stpCells l)) (hn:n≤1000000) :
    Calls Tryz.prog 63 #[.slice A n c] w fun en w'=>en=.returned (.bool (twiceB l))∧Keep Never w w':=by
  have HL:Hid (l.length=n):=qh hr.stp_len
  have HR:=qh hr
  clear hr
  go_enter Tryz.func63, Tryz.ntmps63
  go_wp2_with fail
  go_loopw [3] (fun si wr=>∃k:Nat,k≤n∧si=.int .i64 k∧Hid (Keep Never w wr∧∀j,j<k→twiceAt l j=false)) (fun si _=>n - (intOf si).toNat)
  case atStart=>exact⟨0,by omega,rfl,qh ⟨Keep.refl _ _,fun j hj=>absurd hj (by omega)⟩⟩
  case round=>
   obtain⟨k,hk,rfl,HH⟩:=hrel
   by_cases h0:k<n
   case neg=>
    obtain rfl:k=n:=by omega
    have hki:¬(k:Int)<(k:Int):=by omega
    have HF:Hid (twiceB l=false):=qh (twice_f (fun j hj=>HH.out.2 j (by rw[HL.out] at hj;exact hj)))
    go_wp2_with fail
    go_ret
    exact⟨by rw[HF.out];rfl,HH.out.1⟩
   have hki:(k:Int)<(n:Int):=by omega
   obtain⟨ad,s,hA,_,hs,c0,_⟩:=(HR.out.keep HH.out.1 (fun _ h=>h.elim)).stp h0
   subst hA
   have HTw:=qh (twice_step hs)
   obtain⟨s1,s2⟩:=s
   simp only at c0 HTw
   have HC0:=qh c0
   clear hs c0
   go_wp2_with fail
   rename World=>wz
   go_loopw [4] (fun si wr=>∃j:Nat,j≤k∧si=.int .i64 j∧Hid (Keep Never wz wr∧overB (l.take j) s1=false)) (fun si _=>k - (intOf si).toNat)
   case atStart=>exact⟨0,by omega,rfl,qh ⟨Keep.refl _ _,by simp[overB]⟩⟩
   case round=>
    obtain⟨j,hj,rfl,HI⟩:=hrel
    by_cases h1:j<k
    case neg=>
     obtain rfl:j=k:=by omega
     have hji:¬(j:Int)<(j:Int):=by omega
     have HN:Hid (∀i,i<j+1→twiceAt l i=false):=qh (fun i hi=>by
      by_cases e:i=j
      ·rw[e,HTw.out];exact HI.out.2
      ·exact HH.out.2 i (by omega))
     go_wp2_with fail
     refine⟨⟨j+1,by omega,by go_num,qh ⟨HH.out.1.trans HI.out.1,HN.out⟩⟩,?_⟩
     simp[intOf];try omega
    have hji:(j:Int)<(k:Int):=by omega
    have hjn:(j:Int)<(n:Int):=by omega
    obtain⟨ad',u,hA',_,hu,d0,_⟩:=(HR.out.keep (HH.out.1.trans HI.out.1) (fun _ h=>h.elim)).stp (show j<n by omega)
    obtain rfl:ad=ad':=by injection hA'
    have c0:=keepT HI.out.1 HC0.out
    obtain⟨u1,u2⟩:=u
    simp only at d0
    by_cases g:u1=s1
    ·have t1:(u1==s1)=true:=by simpa using g
     have HF:Hid (twiceB l=true):=qh (twice_t (k:=k) (by rw[HL.out];exact h0) (by rw[HTw.out];exact over_iff.2 ⟨(u1,u2),by rw[List.mem_iff_getElem?];exact⟨j,by rw[List.getElem?_take,if_pos h1];exact hu⟩,g⟩))
     clear hu g hA'
     go_wp2_with fail
     go_quiet (fail)
     go_wp2_with fail
     go_ret
     exact⟨by rw[HF.out];rfl,(HH.out.1.trans HI.out.1).drewN _⟩
    ·have t1:(u1==s1)=false:=by simpa using g
     have HN:Hid (overB (l.take (j+1)) s1=false):=qh (by
      obtain⟨h2,h3⟩:=List.getElem?_eq_some_iff.1 hu
      have h4:=HI.out.2
      unfold overB at h4 ⊢
      rw[List.take_succ_eq_append_getElem h2,h3,List.any_append,h4]
      simp[t1])
     clear hu g hA'
     go_wp2_with fail
     go_quiet (fail)
     go_wp2_with fail
     refine⟨⟨j+1,by omega,by go_num,qh ⟨HI.out.1.drewN _,HN.out⟩⟩,?_⟩
     simp[intOf];try omega
set_option maxHeartbeats 4000000 in
set_option maxRecDepth 100000 in
theorem rplace17_any (x:TA) (t:Tp) (B:Nat) (y:MX) (m:Ma) (w:World) (h:TpAt w B x t) (hb:x.nb≤100000000) :
    Calls Tryz.prog 61 #[.agg x.cs,.agg (y.vs m)] w fun en w'=>en=.returned (.tuple #[.agg #[.int .i64 ((balM t.2.2.1 m.1).getD (0,0,0)).2.1,.int .i64 ((balM t.2.2.1 m.1).getD (0,0,0)).2.2,.bool m.2.1],.bool (balM t.2.2.1 m.1).isSome])∧Keep Never w w':=by
  obtain⟨ref,rv,P,S,g⟩:=m
  have HBa:=qh (fun (W:World) (hk:Keep Never w W)=>rbal_any x t B ref W (h.keep hk) hb)
  obtain⟨Ae,ne,ce,Aj,nj,cj,Ab,nb,cb,Ar,nr,cr⟩:=x
  obtain⟨Ap,np,cp,As,ns,cs⟩:=y
  simp only[TA.cs,MX.vs] at HBa ⊢
  clear h hb
  obtain⟨w1,hw1⟩:∃V:World,w.alloc (.cells #[.slice Ae ne ce,.slice Aj nj cj,.slice Ab nb cb,.slice Ar nr cr] 27)=V:=⟨_,rfl⟩
  have zw1:w1.heap.size=w.heap.size+1:=by rw[←hw1];simp
  have kw1:Keep Never w w1:=by rw[←hw1];exact(Keep.refl _ _).alloc _
  have bw1:=Blk.new w 27 #[.slice Ae ne ce,.slice Aj nj cj,.slice Ab nb cb,.slice Ar nr cr]
  rw[hw1] at bw1
  obtain⟨w2,hw2⟩:∃V:World,w1.alloc (.cells #[.int .i64 ref,.bool rv,.slice Ap np cp,.slice As ns cs,.int .i64 g] 38)=V:=⟨_,rfl⟩
  have zw2:w2.heap.size=w.heap.size+1+1:=by rw[←hw2];simp[zw1]
  have kw2:Keep Never w1 w2:=by rw[←hw2];exact(Keep.refl _ _).alloc _
  have bw2:=Blk.new w1 38 #[.int .i64 ref,.bool rv,.slice Ap np cp,.slice As ns cs,.int .i64 g]
  rw[hw2,zw1] at bw2
  obtain⟨w3,hw3⟩:∃V:World,w2.alloc (.cells #[.int .i64 0,.int .i64 0,.bool false] 71)=V:=⟨_,rfl⟩
  have kw3:Keep Never w2 w3:=by rw[←hw3];exact(Keep.refl _ _).alloc _
  have bw3:=Blk.new w2 71 #[.int .i64 0,.int .i64 0,.bool false]
  rw[hw3,zw2] at bw3
  have HB1:=qh ((bw1.keep kw2 (fun h=>h)).keep kw3 (fun h=>h))
  have HB2:=qh (bw2.keep kw3 (fun h=>h))
  have HB3:=qh bw3
  have HK:=qh ((kw1.trans kw2).trans kw3)
  clear kw1 kw2 kw3 bw1 bw2 bw3
  have hw:=HBa.out w3 HK.out
  unfold BalRet at hw
  obtain⟨o,ho⟩:∃z,balM t.2.2.1 ref=z:=⟨_,rfl⟩
  rw[ho] at hw ⊢
  obtain⟨⟨b1,b2,b3⟩,hg⟩:∃z,o.getD (0,0,0)=z:=⟨_,rfl⟩
  rw[hg] at hw ⊢
  obtain⟨os,hos⟩:∃z,o.isSome=z:=⟨_,rfl⟩
  rw[hos] at hw ⊢
  simp only at hw
  have HC:=qh hw
  obtain⟨y0,y1,y2,y3⟩:=bc4 HB1.out
  obtain⟨m0,m1,m2,m3,m4⟩:=bc5 HB2.out
  clear hw ho hg hos HBa
  go_enter Tryz.func61, Tryz.ntmps61
  go_wp2_with fail
  refine HC.out.mono ?_
  rintro en w4 ⟨rfl,hk⟩
  have HK4:=qtr HK hk
  have HM4:=qkb HB2 hk
  have HZ4:=qkb HB3 hk
  clear hk HC HB1 HB2 HB3 HK y0 y1 y2 y3 m0 m1 m2 m3 m4 hw1 hw2 hw3 zw1 zw2
  go_upto_region 2 with(fail)
  obtain⟨w5,hw5⟩:∃V:World,w4.alloc (.cells #[.int .i64 b1,.int .i64 b2,.int .i64 b3] 94)=V:=⟨_,rfl⟩
  have hk:Keep Never w4 w5:=by rw[←hw5];exact(Keep.refl _ _).alloc _
  have B5:=Blk.new w4 94 #[.int .i64 b1,.int .i64 b2,.int .i64 b3]
  rw[hw5] at B5
  obtain⟨bb,hbb⟩:∃q,w4.heap.size=q:=⟨_,rfl⟩
  rw[hbb] at B5
  rw[hw5,hbb]
  have HB5:=qh B5
  have HK5:=qtr HK4 hk
  have HM5:=qkb HM4 hk
  have HZ5:=qkb HZ4 hk
  clear hk B5 hw5 hbb HM4 HZ4 HK4
  have q1:w5.cell? ⟨bb,1,none⟩=some (.int .i64 b2):=HB5.out.cell 1
  have q2:w5.cell? ⟨bb,2,none⟩=some (.int .i64 b3):=HB5.out.cell 2
  have m1:w5.cell? ⟨w.heap.size+1,1,none⟩=some (.bool rv):=HM5.out.cell 1
  obtain⟨z0,z1,z2⟩:=bc3 HZ5.out
  have zf0:=HZ5.out.frozen 0
  have zf1:=HZ5.out.frozen 1
  have zf2:=HZ5.out.frozen 2
  go_wp2_with fail
  (try simp only[Exit.inBlock,Exit.then])
  have hp:=ps3_keep HK5.out (b:=w.heap.size+2) (.inr (by omega)) (.int .i64 b2) (.int .i64 b3) (.bool rv)
  refine bodyPost_ret (ps_results2 (fn:=Tryz.f61) (r:=4) (s:=5) rfl (ps3_blk HZ5.out (.int .i64 b2) (.int .i64 b3) (.bool rv)) _ rfl) rfl ⟨rfl,hp⟩
end Go.Proofs.YtpapiojicbbheaaGreatDoor
