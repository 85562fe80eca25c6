/- Texts of this claim, together: Rf13D, PlcH, PmW, PmA, PmB, PmC. -/
import Derived.Test.YtpapiojicbbheaaGreatDoorTf05
import Derived.Test.YtpapiojicbbheaaGreatDoorTf02
import Derived.Test.YtpapiojicbbheaaGreatDoorTf04
import Derived.Test.YtpapiojicbbheaaGreatDoorTf01
namespace Go.Proofs.YtpapiojicbbheaaGreatDoor
open Go.RowKit
set_option maxHeartbeats 40000000 in
set_option maxRecDepth 100000 in
theorem rcheck_any (x:TA) (t:Tp) (B:Nat) (w:World) (ht:TpAt w B x t) (hs:TpSmall x t) (hB:B≤w.heap.size) :
    Calls Tryz.prog 48 #[.agg x.cs] w fun e w'=>e=.returned (.int .i64 (checkM t))∧Keep Never w w':=by
  have HT:=qh (fun i W=>redge_any x i W)
  have HEn:Hid (∀(a1 a2:Int) W,Calls Tryz.prog 108 #[.agg x.cs,.agg #[.int .i64 a1,.int .i64 a2]] W fun e w'=>e=.returned (.bool (endB x.ne (a1,a2)))∧Keep Never W w'):=qh (fun a1 a2 W=>rend_any x (a1,a2) W)
  have HRd:Hid (∀(r:Rt) A n c W,Keep Never w W→repStp.Sl W B A n c r.2.1→n≤100000000→t.1.any wrongB=false→Calls Tryz.prog 111 #[.agg x.cs,.agg #[.int .i64 r.1,.slice A n c,.int .i64 r.2.2.1,.int .i64 r.2.2.2]] W fun e w'=>e=.returned (.int .i64 (routedM t r))∧Keep Never W w'):=qh (fun r A n c W hk hr hn hw=>rroute_any x t B r A n c W (ht.keep hk) hr hs.j hs.b hn hw)
  have HTp:=qh ht
  have HSm:=qh hs
  have HGB:=qh hB
  have qe:∀(w:World) (x1 x2 y1 y2:Int),(binOp .eql 132 (.agg #[.int .i64 x1,.int .i64 x2]) (.agg #[.int .i64 y1,.int .i64 y2])).run Tryz.prog w=.ok (.bool (sameE x1 x2 y1 y2)) w:=run_eq_end
  have HL:Hid (x.ne=t.1.length∧x.nj=t.2.1.length∧x.nb=t.2.2.1.length∧x.nr=t.2.2.2.length):=qh ⟨ht.e.len,ht.j.len,ht.b.len,ht.r.len⟩
  obtain⟨Ae,ne,ce,Aj,nj,cj,Ab,nb,cb,Ar,nr,cr⟩:=x
  simp only[TA.cs] at HT HEn HRd HL ⊢
  have hns:=hs
  obtain⟨hn1,hn2,hn3,hn4,hn5⟩:=hns
  simp only at hn1 hn2 hn3 hn4
  have HP5:=qh hn5
  have HJo:Hid (∀(k:Nat) (A:Option Addr) (a1 a2 b1 b2:Int) W,Keep Never w W→A=Aj→k≤nj→Calls Tryz.prog 109 #[.slice A k cj,.agg #[.int .i64 a1,.int .i64 a2],.agg #[.int .i64 b1,.int .i64 b2]] W fun e w'=>e=.returned (.bool (joinB (t.2.1.take k) (a1,a2) (b1,b2)))∧Keep Never W w'):=qh (fun k A a1 a2 b1 b2 W hk hA hkn=>by subst hA;exact rjoined_any A k cj B (t.2.1.take k) (a1,a2) (b1,b2) W (Sl.front ((ht.keep hk).j) hkn) (by omega))
  obtain⟨w1,hw1⟩:∃wb:World,w.alloc (.cells #[.slice Ae ne ce,.slice Aj nj cj,.slice Ab nb cb,.slice Ar nr cr] 27)=wb:=⟨_,rfl⟩
  have k1:Keep Never w w1:=by rw[←hw1];exact(Keep.refl _ _).alloc _
  have b1:=Blk.new w 27 #[.slice Ae ne ce,.slice Aj nj cj,.slice Ab nb cb,.slice Ar nr cr]
  rw[hw1] at b1
  have HB1:=qh b1
  have HK:=qh k1
  obtain⟨y0,y1,y2,y3⟩:=bc4 HB1.out
  clear k1 b1 ht hs hB hn5
  by_cases g1:40<ne
  ·have t1:decide ((ne:Int)>40)=true:=by simp;omega
   have HF:Hid (checkM t=2):=qh (by unfold checkM;rw[if_pos (.inl (by rw[←HL.out.1];exact g1))])
   clear g1
   go_enter Tryz.func48, Tryz.ntmps48
   go_wp2_with fail
   go_ret
   exact⟨by rw[HF.out];rfl,HK.out⟩
  have t1:decide ((ne:Int)>40)=false:=by simp;omega
  by_cases g2:80<nj
  ·have t2:decide ((nj:Int)>80)=true:=by simp;omega
   have HF:Hid (checkM t=2):=qh (by unfold checkM;rw[if_pos (.inr (.inl (by rw[←HL.out.2.1];exact g2)))])
   clear g1 g2
   go_enter Tryz.func48, Tryz.ntmps48
   go_wp2_with fail
   go_ret
   exact⟨by rw[HF.out];rfl,HK.out⟩
  have t2:decide ((nj:Int)>80)=false:=by simp;omega
  by_cases g3:80<nb
  ·have t3:decide ((nb:Int)>80)=true:=by simp;omega
   have HF:Hid (checkM t=2):=qh (by unfold checkM;rw[if_pos (.inr (.inr (.inl (by rw[←HL.out.2.2.1];exact g3))))])
   clear g1 g2 g3
   go_enter Tryz.func48, Tryz.ntmps48
   go_wp2_with fail
   go_ret
   exact⟨by rw[HF.out];rfl,HK.out⟩
  have t3:decide ((nb:Int)>80)=false:=by simp;omega
  by_cases g4:30<nr
  ·have t4:decide ((nr:Int)>30)=true:=by simp;omega
   have HF:Hid (checkM t=2):=qh (by unfold checkM;rw[if_pos (.inr (.inr (.inr (by rw[←HL.out.2.2.2];exact g4))))])
   clear g1 g2 g3 g4
   go_enter Tryz.func48, Tryz.ntmps48
   go_wp2_with fail
   go_ret
   exact⟨by rw[HF.out];rfl,HK.out⟩
  have t4:decide ((nr:Int)>30)=false:=by simp;omega
  have HN1:Hid (¬(40<t.1.length∨80<t.2.1.length∨80<t.2.2.1.length∨30<t.2.2.2.length)):=qh (by have:=HL.out;omega)
  clear g1 g2 g3 g4
  go_enter Tryz.func48, Tryz.ntmps48
  go_wp2_with fail
  clear y0 y1 y2 y3 t1 t2 t3 t4
  go_loopw [3] (fun i wr=>∃k:Nat,k≤ne∧i=.int .i64 k∧Hid (Keep Never w1 wr∧(t.1.take k).any wrongB=false)) (fun i _=>ne - (intOf i).toNat)
  case atStart=>exact⟨0,by omega,rfl,qh ⟨Keep.refl _ _,rfl⟩⟩
  case round=>
   obtain⟨k,hk,rfl,HH⟩:=hrel
   have y0:wr.cell? ⟨w.heap.size,0,none⟩=some (.slice Ae ne ce):=(HB1.out.keep HH.out.1 (fun h=>h)).cell 0
   by_cases h0:k<ne
   ·have hkz:(k:Int)<(ne:Int):=by omega
    obtain⟨ad2,v,hA2,_,hv,d0⟩:=(int_rd ((HTp.out.keep (HK.out.trans HH.out.1)).e)).at1 h0
    simp only at hA2
    subst hA2
    have HTk:Hid (t.1.take (k+1)=t.1.take k++[v]):=qh (by
     obtain⟨h2,h3⟩:=List.getElem?_eq_some_iff.1 hv
     rw[List.take_succ_eq_append_getElem h2,h3])
    have Hv:=qh hv
    clear hv
    by_cases g1:v<1
    ·have t1:decide (v<1)=true:=by simpa using g1
     have hW:t.1.any wrongB=true:=List.any_eq_true.2 ⟨v,List.mem_of_getElem? Hv.out,by unfold wrongB;rw[t1];rfl⟩
     have HF:Hid (checkM t=1):=qh (by unfold checkM;rw[if_neg HN1.out,if_pos hW])
     clear g1 hW
     go_wp2_with fail
     go_ret
     exact⟨by rw[HF.out];rfl,HK.out.trans HH.out.1⟩
    have t1:decide (v<1)=false:=by simpa using g1
    by_cases g2:v>1000000
    ·have t2:decide (v>1000000)=true:=by simpa using g2
     have hW:t.1.any wrongB=true:=List.any_eq_true.2 ⟨v,List.mem_of_getElem? Hv.out,by unfold wrongB;rw[t1,t2];rfl⟩
     have HF:Hid (checkM t=1):=qh (by unfold checkM;rw[if_neg HN1.out,if_pos hW])
     clear g1 g2 hW
     go_wp2_with fail
     go_ret
     exact⟨by rw[HF.out];rfl,HK.out.trans HH.out.1⟩
    have t2:decide (v>1000000)=false:=by simpa using g2
    have HN:Hid ((t.1.take (k+1)).any wrongB=false):=qh (by
     rw[HTk.out,List.any_append,HH.out.2]
     simp only[List.any_cons,List.any_nil,Bool.or_false,Bool.false_or]
     unfold wrongB;rw[t1,t2];rfl)
    clear g1 g2
    go_wp2_with fail
    refine⟨⟨k+1,by omega,by go_num,qh ⟨HH.out.1,HN.out⟩⟩,?_⟩
    simp[intOf];try omega
   ·obtain rfl:ne=k:=by omega
    have hkz:¬(ne:Int)<(ne:Int):=by omega
    have HWf:Hid (t.1.any wrongB=false):=qh (by have:=HH.out.2;rwa [List.take_of_length_le (by rw[←HL.out.1];exact Nat.le_refl _)] at this)
    have HN2:Hid (¬t.1.any wrongB=true):=qh (by rw[HWf.out];simp)
    have HK2:=qh HH.out.1
    clear HH h0
    go_wp2_with fail
    clear y0
    rename World=>wz
    go_loopw [4] (fun i wr=>∃k:Nat,k≤nj∧i=.int .i64 k∧Hid (Keep Never w1 wr∧∀j,j<k→jErr t j=0)) (fun i _=>nj - (intOf i).toNat)
    case atStart=>exact⟨0,by omega,rfl,qh ⟨HK2.out,fun j h=>by omega⟩⟩
    case round=>
     obtain⟨k,hk,rfl,HH⟩:=hrel
     have hb1:=HB1.out.keep HH.out.1 (fun h=>h)
     by_cases h0:k<nj
     ·have hkz:(k:Int)<(nj:Int):=by omega
      obtain⟨ad,j,hA,_,hj,c0,c1,c2,c3⟩:=jt_at (HTp.out.keep (HK.out.trans HH.out.1)).j h0
      subst hA
      obtain⟨⟨x1,x2⟩,x3,x4⟩:=j
      simp only at c0 c1 c2 c3
      have Hj:=qh hj
      obtain⟨y0,y1,y2,y3⟩:=bc4 hb1
      replace c3:wr.cell? ⟨(ad.add (k*4)).block,(ad.add (k*4)).off+2+1,none⟩=some (.int .i64 x4):=c3
      have HS2:Hid (∀W',Keep Never wr W'→Keep Never wr W'∧W'.cell? ⟨w.heap.size,0,none⟩=some (.slice Ae ne ce)∧W'.cell? ⟨w.heap.size,1,none⟩=some (.slice (some ad) nj cj)∧W'.cell? ⟨w.heap.size,2,none⟩=some (.slice Ab nb cb)∧W'.cell? ⟨w.heap.size,3,none⟩=some (.slice Ar nr cr)∧W'.cell? (ad.add (k*4))=some (.int .i64 x1)∧W'.cell? ⟨(ad.add (k*4)).block,(ad.add (k*4)).off+1,none⟩=some (.int .i64 x2)∧W'.cell? ⟨(ad.add (k*4)).block,(ad.add (k*4)).off+2,none⟩=some (.int .i64 x3)∧W'.cell? ⟨(ad.add (k*4)).block,(ad.add (k*4)).off+2+1,none⟩=some (.int .i64 x4)):=qh (fun W' h=>⟨h,keepT h y0,keepT h y1,keepT h y2,keepT h y3,keepT h c0,keepT h c1,keepT h c2,keepT h c3⟩)
      clear hj hb1
      go_wp2_with fail
      clear y0 y1 y2 y3 c0 c1 c2 c3
      go_region_held3 (fun W'=>Keep Never wr W'∧W'.cell? ⟨w.heap.size,0,none⟩=some (.slice Ae ne ce)∧W'.cell? ⟨w.heap.size,1,none⟩=some (.slice (some ad) nj cj)∧W'.cell? ⟨w.heap.size,2,none⟩=some (.slice Ab nb cb)∧W'.cell? ⟨w.heap.size,3,none⟩=some (.slice Ar nr cr)∧W'.cell? (ad.add (k*4))=some (.int .i64 x1)∧W'.cell? ⟨(ad.add (k*4)).block,(ad.add (k*4)).off+1,none⟩=some (.int .i64 x2)∧W'.cell? ⟨(ad.add (k*4)).block,(ad.add (k*4)).off+2,none⟩=some (.int .i64 x3)∧W'.cell? ⟨(ad.add (k*4)).block,(ad.add (k*4)).off+2+1,none⟩=some (.int .i64 x4))
        (first| assumption | exact HS2.out _ ((Keep.refl Never wr).drew) | exact HS2.out _ (Keep.trans (And.left (by assumption)) hk3) | exact HS2.out _ (Keep.trans ((Keep.refl Never wr).drew) hk3))
        (first
          | (go_at_call 108; refine(HEn.out x1 x2 _).mono ?_;rintro e w3 ⟨rfl,hk3⟩))
      rename_i hS
      (try rename World=>w5)
      obtain⟨hK5,y0,y1,y2,y3,c0,c1,c2,c3⟩:=hS
      have HK3:=qh (HH.out.1.trans hK5)
      clear HS2 hK5
      (try clear hk3)
      have HS2:Hid (∀W',Keep Never w5 W'→Keep Never w5 W'∧W'.cell? ⟨w.heap.size,0,none⟩=some (.slice Ae ne ce)∧W'.cell? ⟨w.heap.size,1,none⟩=some (.slice (some ad) nj cj)∧W'.cell? ⟨w.heap.size,2,none⟩=some (.slice Ab nb cb)∧W'.cell? ⟨w.heap.size,3,none⟩=some (.slice Ar nr cr)∧W'.cell? (ad.add (k*4))=some (.int .i64 x1)∧W'.cell? ⟨(ad.add (k*4)).block,(ad.add (k*4)).off+1,none⟩=some (.int .i64 x2)∧W'.cell? ⟨(ad.add (k*4)).block,(ad.add (k*4)).off+2,none⟩=some (.int .i64 x3)∧W'.cell? ⟨(ad.add (k*4)).block,(ad.add (k*4)).off+2+1,none⟩=some (.int .i64 x4)):=qh (fun W' h=>⟨h,keepT h y0,keepT h y1,keepT h y2,keepT h y3,keepT h c0,keepT h c1,keepT h c2,keepT h c3⟩)
      go_wp2_with fail
      clear y0 y1 y2 y3 c0 c1 c2 c3
      go_region_held3 (fun W'=>Keep Never w5 W'∧W'.cell? ⟨w.heap.size,0,none⟩=some (.slice Ae ne ce)∧W'.cell? ⟨w.heap.size,1,none⟩=some (.slice (some ad) nj cj)∧W'.cell? ⟨w.heap.size,2,none⟩=some (.slice Ab nb cb)∧W'.cell? ⟨w.heap.size,3,none⟩=some (.slice Ar nr cr)∧W'.cell? (ad.add (k*4))=some (.int .i64 x1)∧W'.cell? ⟨(ad.add (k*4)).block,(ad.add (k*4)).off+1,none⟩=some (.int .i64 x2)∧W'.cell? ⟨(ad.add (k*4)).block,(ad.add (k*4)).off+2,none⟩=some (.int .i64 x3)∧W'.cell? ⟨(ad.add (k*4)).block,(ad.add (k*4)).off+2+1,none⟩=some (.int .i64 x4))
        (first| assumption | exact HS2.out _ ((Keep.refl Never w5).drew) | exact HS2.out _ (Keep.trans (And.left (by assumption)) hk3) | exact HS2.out _ (Keep.trans ((Keep.refl Never w5).drew) hk3))
        (first
          | (go_at_call 108; refine(HEn.out x3 x4 _).mono ?_;rintro e w3 ⟨rfl,hk3⟩))
      rename_i hS
      (try rename World=>w6)
      obtain⟨hK6,y0,y1,y2,y3,c0,c1,c2,c3⟩:=hS
      have HK4:=qtr HK3 hK6
      clear HS2 hK6
      (try clear hk3)
      cases he1:endB ne (x1,x2) with
      | false=>
       have HZ1:Hid (jErr t k=1):=qh (by unfold jErr;rw[Hj.out];simp only;rw[←HL.out.1,if_pos (.inl he1)])
       have HF:Hid (checkM t=1):=qh (by
        have h2:firstE (jErr t) t.2.1.length=1:=firstE_at (k:=0) (by rw[←HL.out.2.1];exact h0) HH.out.2 HZ1.out (by decide)
        unfold checkM;rw[if_neg HN1.out,if_neg HN2.out,h2,if_pos (by decide)])
       clear he1
       go_wp2_with fail
       go_quiet (fail)
       go_wp2_with fail
       go_ret
       exact⟨by rw[HF.out];rfl,(HK.out.trans HK4.out).drewN _⟩
      | true=>
       cases he2:endB ne (x3,x4) with
       | false=>
        have HZ1:Hid (jErr t k=1):=qh (by unfold jErr;rw[Hj.out];simp only;rw[←HL.out.1,if_pos (.inr (.inl he2))])
        have HF:Hid (checkM t=1):=qh (by
         have h2:firstE (jErr t) t.2.1.length=1:=firstE_at (k:=0) (by rw[←HL.out.2.1];exact h0) HH.out.2 HZ1.out (by decide)
         unfold checkM;rw[if_neg HN1.out,if_neg HN2.out,h2,if_pos (by decide)])
        clear he1 he2
        go_wp2_with fail
        go_quiet (fail)
        go_wp2_with fail
        go_ret
        exact⟨by rw[HF.out];rfl,(HK.out.trans HK4.out).drewN _⟩
       | true=>
        cases he3:sameE x1 x2 x3 x4 with
        | true=>
         have hxx:x1=x3∧x2=x4:=by unfold sameE at he3;simpa using he3
         have HZ1:Hid (jErr t k=1):=qh (by unfold jErr;rw[Hj.out];simp only;rw[←HL.out.1,if_pos (.inr (.inr (by rw[hxx.1,hxx.2])))])
         have HF:Hid (checkM t=1):=qh (by
          have h2:firstE (jErr t) t.2.1.length=1:=firstE_at (k:=0) (by rw[←HL.out.2.1];exact h0) HH.out.2 HZ1.out (by decide)
          unfold checkM;rw[if_neg HN1.out,if_neg HN2.out,h2,if_pos (by decide)])
         clear he1 he2 hxx
         go_wp2_with fail
         go_quiet (fail)
         go_wp2_with fail
         go_ret
         exact⟨by rw[HF.out];rfl,(HK.out.trans HK4.out).drewN _⟩
        | false=>
         have HNb:Hid (¬(endB t.1.length (x1,x2)=false∨endB t.1.length (x3,x4)=false∨((x1,x2):En)=(x3,x4))):=qh (by
          rw[←HL.out.1,he1,he2]
          unfold sameE at he3
          simp only[Bool.true_eq_false,false_or]
          exact of_decide_eq_false he3)
         clear he1 he2
         have HFc:=qh (And.intro c0 (And.intro c1 (And.intro c2 c3)))
         go_wp2_with fail
         go_quiet (fail)
         clear he3 y0 y1 y2 y3 c0 c1 c2 c3
         obtain⟨w7,hw7⟩:∃W,w6.drewN nq=W:=⟨_,rfl⟩
         rw[hw7]
         have hk7:Keep Never w6 w7:=by rw[←hw7];exact(Keep.refl Never w6).drewN _
         have HK7:=qtr HK4 hk7
         have hb1:=HB1.out.keep HK7.out (fun h=>h)
         obtain⟨y0,y1,y2,y3⟩:=bc4 hb1
         have c0:=keepT hk7 HFc.out.1
         have c1:=keepT hk7 HFc.out.2.1
         have c2:=keepT hk7 HFc.out.2.2.1
         have c3:=keepT hk7 HFc.out.2.2.2
         have hq:=run_front Tryz.underlying23 Tryz.sizeOf134 (some ad) nj cj k hk HTp.out.j.cap
         have HJk:=qh (fun W (h:Keep Never w7 W)=>HJo.out k (some ad) x1 x2 x3 x4 W (HK.out.trans (HK7.out.trans h)) rfl hk)
         clear hk7 hb1 hw7
         have HS2:Hid (∀W',Keep Never w7 W'→Keep Never w7 W'∧W'.cell? ⟨w.heap.size,0,none⟩=some (.slice Ae ne ce)∧W'.cell? ⟨w.heap.size,1,none⟩=some (.slice (some ad) nj cj)∧W'.cell? ⟨w.heap.size,2,none⟩=some (.slice Ab nb cb)∧W'.cell? ⟨w.heap.size,3,none⟩=some (.slice Ar nr cr)∧W'.cell? (ad.add (k*4))=some (.int .i64 x1)∧W'.cell? ⟨(ad.add (k*4)).block,(ad.add (k*4)).off+1,none⟩=some (.int .i64 x2)∧W'.cell? ⟨(ad.add (k*4)).block,(ad.add (k*4)).off+2,none⟩=some (.int .i64 x3)∧W'.cell? ⟨(ad.add (k*4)).block,(ad.add (k*4)).off+2+1,none⟩=some (.int .i64 x4)):=qh (fun W' h=>⟨h,keepT h y0,keepT h y1,keepT h y2,keepT h y3,keepT h c0,keepT h c1,keepT h c2,keepT h c3⟩)
         go_wp2_with fail
         clear y0 y1 y2 y3 c0 c1 c2 c3
         go_region_held3 (fun W'=>Keep Never w7 W'∧W'.cell? ⟨w.heap.size,0,none⟩=some (.slice Ae ne ce)∧W'.cell? ⟨w.heap.size,1,none⟩=some (.slice (some ad) nj cj)∧W'.cell? ⟨w.heap.size,2,none⟩=some (.slice Ab nb cb)∧W'.cell? ⟨w.heap.size,3,none⟩=some (.slice Ar nr cr)∧W'.cell? (ad.add (k*4))=some (.int .i64 x1)∧W'.cell? ⟨(ad.add (k*4)).block,(ad.add (k*4)).off+1,none⟩=some (.int .i64 x2)∧W'.cell? ⟨(ad.add (k*4)).block,(ad.add (k*4)).off+2,none⟩=some (.int .i64 x3)∧W'.cell? ⟨(ad.add (k*4)).block,(ad.add (k*4)).off+2+1,none⟩=some (.int .i64 x4))
           (first| assumption | exact HS2.out _ ((Keep.refl Never w7).drew) | exact HS2.out _ (Keep.trans (And.left (by assumption)) hk3) | exact HS2.out _ (Keep.trans ((Keep.refl Never w7).drew) hk3))
           (first
             | (go_at_call 109; refine(HJk.out _ (by first | exact And.left (by assumption) | exact(Keep.refl Never w7).drew | exact Keep.refl Never w7)).mono ?_;rintro e w3 ⟨rfl,hk3⟩))
         rename_i hS
         (try rename World=>w8)
         have HK8:=qh (HK7.out.trans hS.1)
         clear HS2 hS hq HJk
         (try clear hk3)
         cases hjb:joinB (t.2.1.take k) (x1,x2) (x3,x4) with
         | true=>
          have HZ1:Hid (jErr t k=5):=qh (by unfold jErr;rw[Hj.out];simp only;rw[if_neg HNb.out,if_pos hjb])
          have HF:Hid (checkM t=5):=qh (by
           have h2:firstE (jErr t) t.2.1.length=5:=firstE_at (k:=0) (by rw[←HL.out.2.1];exact h0) HH.out.2 HZ1.out (by decide)
           unfold checkM;rw[if_neg HN1.out,if_neg HN2.out,h2,if_pos (by decide)])
          clear hjb
          go_wp2_with fail
          go_ret
          exact⟨by rw[HF.out];rfl,HK.out.trans HK8.out⟩
         | false=>
          have HZ1:Hid (jErr t k=0):=qh (by unfold jErr;rw[Hj.out];simp only;rw[if_neg HNb.out,if_neg (by rw[hjb];simp)])
          clear hjb
          go_wp2_with fail
          refine⟨⟨k+1,by omega,by go_num,qh ⟨HK8.out,fun j hj=>?_⟩⟩,?_⟩
          ·by_cases e:j=k
           ·rw[e];exact HZ1.out
           ·exact HH.out.2 j (by omega)
          ·simp[intOf];try omega
     ·obtain rfl:nj=k:=by omega
      have hkz:¬(nj:Int)<(nj:Int):=by omega
      have HN3:Hid (¬firstE (jErr t) t.2.1.length≠0):=qh (by rw[firstE_zero (fun j hj=>HH.out.2 j (by rw[HL.out.2.1];exact hj))];simp)
      have HK2:=qh HH.out.1
      have y1:wr.cell? ⟨w.heap.size,1,none⟩=some (.slice Aj nj cj):=hb1.cell 1
      clear HH h0 hb1
      go_wp2_with fail
      clear y1
      rename World=>wz
      go_loopw [8] (fun i wr=>∃q:Nat,q≤nb∧i=.int .i64 q∧Hid (Keep Never w1 wr∧∀j,j<q→bErr t j=0)) (fun i _=>nb - (intOf i).toNat)
      case atStart=>exact⟨0,by omega,rfl,qh ⟨HK2.out,fun j h=>by omega⟩⟩
      case round=>
       obtain⟨k,hk,rfl,HH⟩:=hrel
       have y2:wr.cell? ⟨w.heap.size,2,none⟩=some (.slice Ab nb cb):=(HB1.out.keep HH.out.1 (fun h=>h)).cell 2
       by_cases h0:k<nb
       ·have hkz:(k:Int)<(nb:Int):=by omega
        obtain⟨ad,b,hA,_,hb,c0,c1,c2⟩:=(bl_rd (HTp.out.keep (HK.out.trans HH.out.1)).b).sp h0
        simp only at hA
        subst hA
        obtain⟨x1,x2,x3⟩:=b
        simp only at c0 c1 c2
        obtain⟨W1,hW1⟩:∃W:World,wr.alloc (.cells #[.int .i64 x1,.int .i64 x2,.int .i64 x3] 94)=W:=⟨_,rfl⟩
        have K1:Keep Never wr W1:=by rw[←hW1];exact(Keep.refl _ _).alloc _
        have B1:=Blk.new wr 94 #[.int .i64 x1,.int .i64 x2,.int .i64 x3]
        rw[hW1] at B1
        obtain⟨bq,hbq⟩:∃q,wr.heap.size=q:=⟨_,rfl⟩
        rw[hbq] at B1
        have HKW:=qh (HH.out.1.trans K1)
        have HBb:=qh B1
        have d1:W1.cell? ⟨bq,1,none⟩=some (.int .i64 x2):=B1.cell 1
        have d0:W1.cell? ⟨bq,0,none⟩=some (.int .i64 x1):=B1.cell 0
        have d2:W1.cell? ⟨bq,2,none⟩=some (.int .i64 x3):=B1.cell 2
        have hb1:=HB1.out.keep HKW.out (fun h=>h)
        have y2o:=y2
        clear y2
        obtain⟨y0,y1,y2,y3⟩:=bc4 hb1
        have Hb:=qh hb
        have HBe:Hid ((x1<0∨16777214<x1∨thereB ne x2=false∨x3<0∨t.1.getD x2.toNat 0<x3)→checkM t=1):=qh (fun h=>by
         have h1:bErr t k=1:=by unfold bErr;rw[hb];simp only;rw[←HL.out.1,if_pos h]
         have h2:firstE (bErr t) t.2.2.1.length=1:=firstE_at (k:=0) (by rw[←HL.out.2.2.1];exact h0) HH.out.2 h1 (by decide)
         unfold checkM;rw[if_neg HN1.out,if_neg HN2.out,if_neg HN3.out,h2,if_pos (by decide)])
        have hTt:=qh (HT.out x2 W1)
        clear hb K1 B1 hb1
        go_wp2_with fail
        refine hTt.out.mono ?_
        rintro e w4 ⟨rfl,hk4⟩
        have HK4:=qtr HKW hk4
        have HBb4:=qkb HBb hk4
        clear hk4 hTt c0 c1 c2 hW1 y2o d0 d1 d2 y0 y1 y2 y3 hbq
        obtain⟨d0,d1,d2⟩:=bc3 HBb4.out
        have y0:w4.cell? ⟨w.heap.size,0,none⟩=some (.slice Ae ne ce):=(HB1.out.keep HK4.out (fun h=>h)).cell 0
        by_cases g1:x1<0
        ·have t1:decide (x1<0)=true:=by simpa using g1
         have HF:=qh (HBe.out (.inl g1))
         clear g1
         go_wp2_with fail
         go_quiet (fail)
         go_wp2_with fail
         go_ret
         exact⟨by rw[HF.out];rfl,(HK.out.trans HK4.out).drewN _⟩
        have t1':decide (x1<0)=false:=by simpa using g1
        by_cases g2:16777214<x1
        ·have t1:decide (x1>16777214)=true:=by simpa using g2
         have HF:=qh (HBe.out (.inr (.inl g2)))
         clear g1 g2
         go_wp2_with fail
         go_quiet (fail)
         go_wp2_with fail
         go_ret
         exact⟨by rw[HF.out];rfl,(HK.out.trans HK4.out).drewN _⟩
        have t2':decide (x1>16777214)=false:=by simpa using g2
        cases g3:thereB ne x2 with
        | false=>
         have t1:True:=trivial
         have HF:=qh (HBe.out (.inr (.inr (.inl g3))))
         clear g1 g2 g3
         go_wp2_with fail
         go_quiet (fail)
         go_wp2_with fail
         go_ret
         exact⟨by rw[HF.out];rfl,(HK.out.trans HK4.out).drewN _⟩
        | true=>
         by_cases g4:x3<0
         ·have t1:decide (x3<0)=true:=by simpa using g4
          have HF:=qh (HBe.out (.inr (.inr (.inr (.inl g4)))))
          clear g1 g2 g3 g4
          go_wp2_with fail
          go_quiet (fail)
          go_wp2_with fail
          go_ret
          exact⟨by rw[HF.out];rfl,(HK.out.trans HK4.out).drewN _⟩
         have t4':decide (x3<0)=false:=by simpa using g4
         have hth:0≤x2∧x2<(ne:Int):=by unfold thereB at g3;simpa using g3
         obtain⟨m,rfl⟩:∃m:Nat,x2=(m:Int):=⟨x2.toNat,by omega⟩
         have hmn:m<ne:=by omega
         have hmz:(m:Int)<(ne:Int):=by omega
         obtain⟨ad2,v,hA2,_,hv,e0⟩:=(int_rd ((HTp.out.keep (HK.out.trans HK4.out)).e)).at1 hmn
         simp only at hA2
         subst hA2
         have hgd:t.1.getD (m:Int).toNat 0=v:=by rw[Int.toNat_natCast,List.getD_eq_getElem?_getD,hv];rfl
         rw[hgd] at HBe
         clear hv
         by_cases g5:v<x3
         ·have t1:decide (x3>v)=true:=by simpa using g5
          have HF:=qh (HBe.out (.inr (.inr (.inr (.inr g5)))))
          clear g1 g2 g3 g4 g5 hth
          go_wp2_with fail
          go_quiet (fail)
          go_wp2_with fail
          go_ret
          exact⟨by rw[HF.out];rfl,(HK.out.trans HK4.out).drewN _⟩
         have t5':decide (x3>v)=false:=by simpa using g5
         have HNb:Hid (¬(x1<0∨16777214<x1∨thereB t.1.length (m:Int)=false∨x3<0∨t.1.getD (m:Int).toNat 0<x3)):=qh (by
          rw[hgd,←HL.out.1,g3]
          rintro(h | h | h | h | h)
          ·exact g1 h
          ·exact g2 h
          ·cases h
          ·exact g4 h
          ·exact g5 h)
         clear g1 g2 g3 g4 g5 hth hgd
         go_wp2_with fail
         go_quiet (fail)
         clear t1' t2' t4' t5' e0 y0 d0 d1 d2
         obtain⟨w7,hw7⟩:∃W,w4.drewN nq=W:=⟨_,rfl⟩
         rw[hw7]
         have hk7:Keep Never w4 w7:=by rw[←hw7];exact(Keep.refl Never w4).drewN _
         have HK7:=qtr HK4 hk7
         have HBb7:=qkb HBb4 hk7
         clear hk7 hw7
         go_wp2_with fail
         go_loopw [11] (fun i wr=>∃j:Nat,j≤k∧i=.int .i64 j∧Hid (Keep Never w7 wr∧∀y∈t.2.2.1.take j,y.1≠x1)) (fun i _=>k - (intOf i).toNat)
         case atStart=>exact⟨0,by omega,rfl,qh ⟨Keep.refl _ _,by simp⟩⟩
         case round=>
          obtain⟨j,hj,rfl,HJ⟩:=hrel
          by_cases h1:j<k
          ·have hjz:(j:Int)<(k:Int):=by omega
           have hj1:j<nb:=by omega
           have hjn:(j:Int)<(nb:Int):=by omega
           obtain⟨ad6,b,hA6,_,hv,f0,_,_⟩:=(bl_rd (HTp.out.keep (HK.out.trans (HK7.out.trans HJ.out.1))).b).sp hj1
           simp only at hA6
           injection hA6 with hA6
           subst hA6
           obtain⟨o1,o2,o3⟩:=b
           simp only at f0
           have Hv:=qh hv
           have d0:wr.cell? ⟨bq,0,none⟩=some (.int .i64 x1):=(HBb7.out.keep HJ.out.1 (fun h=>h)).cell 0
           have y2:wr.cell? ⟨w.heap.size,2,none⟩=some (.slice (some ad) nb cb):=(HB1.out.keep (HK7.out.trans HJ.out.1) (fun h=>h)).cell 2
           clear hv
           by_cases gq:o1=x1
           ·have t1:(o1==x1)=true:=by simpa using gq
            have HZ1:Hid (bErr t k=5):=qh (by
             unfold bErr;rw[Hb.out];simp only;rw[if_neg HNb.out,if_pos]
             unfold balM
             rw[List.find?_isSome]
             refine⟨(o1,o2,o3),?_,by simpa using gq⟩
             rw[List.mem_iff_getElem?]
             exact⟨j,by rw[List.getElem?_take,if_pos h1];exact Hv.out⟩)
            have HF:Hid (checkM t=5):=qh (by
             have h2:firstE (bErr t) t.2.2.1.length=5:=firstE_at (k:=0) (by rw[←HL.out.2.2.1];exact h0) HH.out.2 HZ1.out (by decide)
             unfold checkM;rw[if_neg HN1.out,if_neg HN2.out,if_neg HN3.out,h2,if_pos (by decide)])
            clear gq
            go_wp2_with fail
            go_quiet (fail)
            go_wp2_with fail
            go_ret
            exact⟨by rw[HF.out];rfl,(HK.out.trans (HK7.out.trans HJ.out.1)).drewN _⟩
           ·have t1:(o1==x1)=false:=by simpa using gq
            have HN:Hid (∀y∈t.2.2.1.take (j+1),y.1≠x1):=qh (all_take Hv.out HJ.out.2 gq)
            clear gq
            go_wp2_with fail
            go_quiet (fail)
            go_wp2_with fail
            refine⟨⟨j+1,by omega,by go_num,qh ⟨HJ.out.1.drewN _,HN.out⟩⟩,?_⟩
            simp[intOf];try omega
          ·obtain rfl:j=k:=by omega
           have hjz:¬(j:Int)<(j:Int):=by omega
           have HZ1:Hid (bErr t j=0):=qh (by
            unfold bErr;rw[Hb.out];simp only;rw[if_neg HNb.out,if_neg]
            unfold balM
            rw[List.find?_isSome]
            rintro⟨y,hy,e⟩
            exact HJ.out.2 y hy (by simpa using e))
           go_wp2_with fail
           refine⟨⟨j+1,by omega,by go_num,qh ⟨HK7.out.trans HJ.out.1,fun i hi=>?_⟩⟩,?_⟩
           ·by_cases e:i=j
            ·rw[e];exact HZ1.out
            ·exact HH.out.2 i (by omega)
           ·simp[intOf];try omega
       ·obtain rfl:nb=k:=by omega
        have hkz:¬(nb:Int)<(nb:Int):=by omega
        have HN4:Hid (¬firstE (bErr t) t.2.2.1.length≠0):=qh (by rw[firstE_zero (fun j hj=>HH.out.2 j (by rw[HL.out.2.2.1];exact hj))];simp)
        have HK2:=qh HH.out.1
        clear HH h0
        go_wp2_with fail
        clear y2
        rename World=>wz
        go_loopw [12] (fun i wr=>∃q:Nat,q≤nr∧i=.int .i64 q∧Hid (Keep Never w1 wr∧∀j,j<q→rErr t j=0)) (fun i _=>nr - (intOf i).toNat)
        case atStart=>exact⟨0,by omega,rfl,qh ⟨HK2.out,fun j h=>by omega⟩⟩
        case round=>
         obtain⟨k,hk,rfl,HH⟩:=hrel
         have hb1:=HB1.out.keep HH.out.1 (fun h=>h)
         by_cases h0:k<nr
         ·have hkz:(k:Int)<(nr:Int):=by omega
          obtain⟨ad,r,A2,n2,d2,hA,_,hr,c0,c1,c2,c3,hsl⟩:=rt_at2 (HTp.out.keep (HK.out.trans HH.out.1)).r h0
          simp only at hA
          subst hA
          obtain⟨x1,p,x2,x3⟩:=r
          simp only at c0 c1 c2 c3 hsl
          have hn2:n2≤100000000:=by have h5:p.length≤100000000:=HP5.out _ (List.mem_of_getElem? hr);have:=hsl.len;omega
          have HRc:=qh (fun W (h:Keep Never wr W)=>HRd.out (x1,p,x2,x3) A2 n2 d2 W (HK.out.trans (HH.out.1.trans h)) (hsl.keep h (fun _ h=>h.elim)) hn2 HWf.out)
          obtain⟨re,hre⟩:∃z,routedM t (x1,p,x2,x3)=z:=⟨_,rfl⟩
          rw[hre] at HRc
          have HRe:=qh hre
          have Hr:=qh hr
          obtain⟨y0,y1,y2,y3⟩:=bc4 hb1
          have HS2:Hid (∀W',Keep Never wr W'→Keep Never wr W'∧W'.cell? ⟨w.heap.size,0,none⟩=some (.slice Ae ne ce)∧W'.cell? ⟨w.heap.size,1,none⟩=some (.slice Aj nj cj)∧W'.cell? ⟨w.heap.size,2,none⟩=some (.slice Ab nb cb)∧W'.cell? ⟨w.heap.size,3,none⟩=some (.slice (some ad) nr cr)∧W'.cell? (ad.add (k*4))=some (.int .i64 x1)∧W'.cell? ⟨(ad.add (k*4)).block,(ad.add (k*4)).off+1,none⟩=some (.slice A2 n2 d2)∧W'.cell? ⟨(ad.add (k*4)).block,(ad.add (k*4)).off+2,none⟩=some (.int .i64 x2)∧W'.cell? ⟨(ad.add (k*4)).block,(ad.add (k*4)).off+3,none⟩=some (.int .i64 x3)):=qh (fun W' h=>⟨h,keepT h y0,keepT h y1,keepT h y2,keepT h y3,keepT h c0,keepT h c1,keepT h c2,keepT h c3⟩)
          clear hr hre hsl hb1 hn2
          go_wp2_with fail
          clear y0 y1 y2 y3 c0 c1 c2 c3
          go_region_held3 (fun W'=>Keep Never wr W'∧W'.cell? ⟨w.heap.size,0,none⟩=some (.slice Ae ne ce)∧W'.cell? ⟨w.heap.size,1,none⟩=some (.slice Aj nj cj)∧W'.cell? ⟨w.heap.size,2,none⟩=some (.slice Ab nb cb)∧W'.cell? ⟨w.heap.size,3,none⟩=some (.slice (some ad) nr cr)∧W'.cell? (ad.add (k*4))=some (.int .i64 x1)∧W'.cell? ⟨(ad.add (k*4)).block,(ad.add (k*4)).off+1,none⟩=some (.slice A2 n2 d2)∧W'.cell? ⟨(ad.add (k*4)).block,(ad.add (k*4)).off+2,none⟩=some (.int .i64 x2)∧W'.cell? ⟨(ad.add (k*4)).block,(ad.add (k*4)).off+3,none⟩=some (.int .i64 x3))
            (first| assumption | exact HS2.out _ ((Keep.refl Never wr).drew) | exact HS2.out _ (Keep.trans (And.left (by assumption)) hk3) | exact HS2.out _ (Keep.trans ((Keep.refl Never wr).drew) hk3))
            (first
              | (go_at_call 111; refine(HRc.out _ (by first | exact And.left (by assumption) | exact(Keep.refl Never wr).drew | exact Keep.refl Never wr)).mono ?_;rintro e w3 ⟨rfl,hk3⟩))
          rename_i hS
          (try rename World=>w8)
          have HK8:=qh (HH.out.1.trans hS.1)
          clear HS2 hS HRc
          (try clear hk3)
          by_cases g0:re=0
          case neg=>
           have t0:(re != 0)=true:=by simpa using g0
           have t0':(re==0)=false:=by simpa using g0
           have HF:Hid (checkM t=re):=qh (by
            have h1:rErr t k=re:=by unfold rErr;rw[Hr.out];simp only;rw[HRe.out,if_pos g0]
            have h2:firstE (rErr t) t.2.2.2.length=re:=firstE_at (k:=0) (by rw[←HL.out.2.2.2];exact h0) HH.out.2 h1 g0
            unfold checkM;rw[if_neg HN1.out,if_neg HN2.out,if_neg HN3.out,if_neg HN4.out,h2])
           clear g0
           go_wp2_with fail
           go_ret
           exact⟨by rw[HF.out];rfl,HK.out.trans HK8.out⟩
          subst g0
          go_wp2_with fail
          go_loopw [14] (fun i wr=>∃j:Nat,j≤k∧i=.int .i64 j∧Hid (Keep Never w8 wr∧∀y∈t.2.2.2.take j,y.1≠x1)) (fun i _=>k - (intOf i).toNat)
          case atStart=>exact⟨0,by omega,rfl,qh ⟨Keep.refl _ _,by simp⟩⟩
          case round=>
           obtain⟨j,hj,rfl,HJ⟩:=hrel
           by_cases h1:j<k
           ·have hjz:(j:Int)<(k:Int):=by omega
            have hj1:j<nr:=by omega
            have hjn:(j:Int)<(nr:Int):=by omega
            have htp:=(HTp.out.keep (HK.out.trans (HK8.out.trans HJ.out.1))).r
            obtain⟨ad6,b,_,_,_,hA6,_,hv,f0,_,_,_,_⟩:=rt_at2 htp hj1
            obtain⟨ad7,b7,_,_,_,hA7,_,hu,e0,_,_,_,_⟩:=rt_at2 htp h0
            simp only at hA6 hA7
            injection hA6 with hA6
            injection hA7 with hA7
            subst hA6 hA7
            rw[Hr.out] at hu
            injection hu with hu
            subst hu
            obtain⟨o1,o2,o3,o4⟩:=b
            simp only at f0 e0
            have Hv:=qh hv
            have y3:wr.cell? ⟨w.heap.size,3,none⟩=some (.slice (some ad) nr cr):=(HB1.out.keep (HK8.out.trans HJ.out.1) (fun h=>h)).cell 3
            clear hv htp
            by_cases gq:o1=x1
            ·have t1:(o1==x1)=true:=by simpa using gq
             have HZ1:Hid (rErr t k=5):=qh (by
              unfold rErr;rw[Hr.out];simp only;rw[if_neg (by rw[HRe.out];simp),if_pos]
              unfold rtM
              rw[List.find?_isSome]
              refine⟨(o1,o2,o3,o4),?_,by simpa using gq⟩
              rw[List.mem_iff_getElem?]
              exact⟨j,by rw[List.getElem?_take,if_pos h1];exact Hv.out⟩)
             have HF:Hid (checkM t=5):=qh (by
              have h2:firstE (rErr t) t.2.2.2.length=5:=firstE_at (k:=0) (by rw[←HL.out.2.2.2];exact h0) HH.out.2 HZ1.out (by decide)
              unfold checkM;rw[if_neg HN1.out,if_neg HN2.out,if_neg HN3.out,if_neg HN4.out,h2])
             clear gq
             go_wp2_with fail
             go_quiet (fail)
             go_wp2_with fail
             go_ret
             exact⟨by rw[HF.out];rfl,(HK.out.trans (HK8.out.trans HJ.out.1)).drewN _⟩
            ·have t1:(o1==x1)=false:=by simpa using gq
             have HN:Hid (∀y∈t.2.2.2.take (j+1),y.1≠x1):=qh (all_take Hv.out HJ.out.2 gq)
             clear gq
             go_wp2_with fail
             go_quiet (fail)
             go_wp2_with fail
             refine⟨⟨j+1,by omega,by go_num,qh ⟨HJ.out.1.drewN _,HN.out⟩⟩,?_⟩
             simp[intOf];try omega
           ·obtain rfl:j=k:=by omega
            have hjz:¬(j:Int)<(j:Int):=by omega
            have HZ1:Hid (rErr t j=0):=qh (by
             unfold rErr;rw[Hr.out];simp only;rw[if_neg (by rw[HRe.out];simp),if_neg]
             unfold rtM
             rw[List.find?_isSome]
             rintro⟨y,hy,e⟩
             exact HJ.out.2 y hy (by simpa using e))
            go_wp2_with fail
            refine⟨⟨j+1,by omega,by go_num,qh ⟨HK8.out.trans HJ.out.1,fun i hi=>?_⟩⟩,?_⟩
            ·by_cases e:i=j
             ·rw[e];exact HZ1.out
             ·exact HH.out.2 i (by omega)
            ·simp[intOf];try omega
         ·obtain rfl:nr=k:=by omega
          have hkz:¬(nr:Int)<(nr:Int):=by omega
          have HF:Hid (checkM t=0):=qh (by unfold checkM;rw[if_neg HN1.out,if_neg HN2.out,if_neg HN3.out,if_neg HN4.out,firstE_zero (fun j hj=>HH.out.2 j (by rw[HL.out.2.2.2];exact hj))])
          have HKe:=qh (HK.out.trans HH.out.1)
          have y3:wr.cell? ⟨w.heap.size,3,none⟩=some (.slice Ar nr cr):=hb1.cell 3
          clear HH hb1
          go_wp2_with fail
          go_ret
          exact⟨by rw[HF.out];rfl,HKe.out⟩
end Go.Proofs.YtpapiojicbbheaaGreatDoor

namespace Go.Proofs.YtpapiojicbbheaaGreatDoor
open Go.RowKit
set_option maxHeartbeats 4000000 in
set_option maxRecDepth 100000 in
theorem rright_any (x:TA) (t:Tp) (B:Nat) (e a:Int) (r:Bool) (w:World) (h:TpAt w B x t) (hs:TpSmall x t) (hB:B≤w.heap.size) :
    Calls Tryz.prog 141 #[.agg x.cs,.agg #[.int .i64 e,.int .i64 a,.bool r]] w fun en w'=>en=.returned (.bool (rightB t (e,a,r)))∧Keep Never w w':=by
  have HCh:=qh (fun (W:World) (hk:Keep Never w W)=>rcheck_any x t B W (h.keep hk) hs (Nat.le_trans hB hk.size))
  have HEl:Hid (x.ne=t.1.length):=qh h.e.len
  have HED:=qh (fun (W:World) (hk:Keep Never w W) (i:Int) (h0:0≤i) (h1:i<(x.ne:Int))=>edge_at (h.keep hk) h0 h1)
  obtain⟨Ae,ne,ce,Aj,nj,cj,Ab,nb,cb,Ar,nr,cr⟩:=x
  simp only[TA.cs] at HCh HEl HED ⊢
  clear h hs hB
  have HR:Hid (rightB t (e,a,r)=(decide (checkM t=0)&&(decide (0≤e)&&decide (e<(ne:Int)))&&decide (0≤a)&&decide (a≤edgeM t e))):=qh (by rw[HEl.out];rfl)
  obtain⟨ck,hck⟩:∃z,checkM t=z:=⟨_,rfl⟩
  rw[hck] at HR HCh
  clear hck
  obtain⟨w1,hw1⟩:∃V:World,w.alloc (.cells #[.slice Ae ne ce,.slice Aj nj cj,.slice Ab nb cb,.slice Ar nr cr] 27)=V:=⟨_,rfl⟩
  have zw1:w1.heap.size=w.heap.size+1:=by rw[←hw1];simp
  have kw1:Keep Never w w1:=by rw[←hw1];exact(Keep.refl _ _).alloc _
  have bw1:=Blk.new w 27 #[.slice Ae ne ce,.slice Aj nj cj,.slice Ab nb cb,.slice Ar nr cr]
  rw[hw1] at bw1
  obtain⟨w2,hw2⟩:∃V:World,w1.alloc (.cells #[.int .i64 e,.int .i64 a,.bool r] 71)=V:=⟨_,rfl⟩
  have kw2:Keep Never w1 w2:=by rw[←hw2];exact(Keep.refl _ _).alloc _
  have bw2:=Blk.new w1 71 #[.int .i64 e,.int .i64 a,.bool r]
  rw[hw2,zw1] at bw2
  have HB1:=qh (bw1.keep kw2 (fun h=>h))
  have HB2:=qh bw2
  have HK:=qh (kw1.trans kw2)
  clear kw1 kw2 bw1 bw2
  have HC:=qh (HCh.out w2 HK.out)
  clear HCh
  by_cases g0:ck=0
  case neg=>
   have t0:(ck==0)=false:=by simpa using g0
   have HF:Hid (rightB t (e,a,r)=false):=qh (by rw[HR.out,decide_eq_false g0];rfl)
   clear g0
   obtain⟨y0,y1,y2,y3⟩:=bc4 HB1.out
   obtain⟨q0,q1,q2⟩:=bc3 HB2.out
   go_enter Tryz.func141, Tryz.ntmps141
   go_wp2_with fail
   refine HC.out.mono ?_
   rintro en w3 ⟨rfl,hk3⟩
   have HK3:=qtr HK hk3
   have HX1:=qkb HB1 hk3
   have HX2:=qkb HB2 hk3
   clear hk3 HC HB1 HB2 y0 y1 y2 y3 q0 q1 q2 hw1 hw2 zw1
   obtain⟨y0,y1,y2,y3⟩:=bc4 HX1.out
   obtain⟨q0,q1,q2⟩:=bc3 HX2.out
   go_wp2_with fail
   go_quiet (fail)
   go_wp2_with fail
   go_ret
   exact⟨by rw[HF.out];rfl,HK3.out.drewN _⟩
  have t0:(ck==0)=true:=by simpa using g0
  by_cases g1:0≤e
  case neg=>
   have t1:decide (e≥0)=false:=by simpa using g1
   have HF:Hid (rightB t (e,a,r)=false):=qh (by rw[HR.out,decide_eq_false g1];simp)
   clear g0 g1
   obtain⟨y0,y1,y2,y3⟩:=bc4 HB1.out
   obtain⟨q0,q1,q2⟩:=bc3 HB2.out
   go_enter Tryz.func141, Tryz.ntmps141
   go_wp2_with fail
   refine HC.out.mono ?_
   rintro en w3 ⟨rfl,hk3⟩
   have HK3:=qtr HK hk3
   have HX1:=qkb HB1 hk3
   have HX2:=qkb HB2 hk3
   clear hk3 HC HB1 HB2 y0 y1 y2 y3 q0 q1 q2 hw1 hw2 zw1
   obtain⟨y0,y1,y2,y3⟩:=bc4 HX1.out
   obtain⟨q0,q1,q2⟩:=bc3 HX2.out
   go_wp2_with fail
   go_quiet (fail)
   go_wp2_with fail
   go_ret
   exact⟨by rw[HF.out];rfl,HK3.out.drewN _⟩
  have t1:decide (e≥0)=true:=by simpa using g1
  by_cases g2:e<(ne:Int)
  case neg=>
   have t2:decide (e<(ne:Int))=false:=by simpa using g2
   have HF:Hid (rightB t (e,a,r)=false):=qh (by rw[HR.out,decide_eq_false g2];simp)
   clear g0 g1 g2
   obtain⟨y0,y1,y2,y3⟩:=bc4 HB1.out
   obtain⟨q0,q1,q2⟩:=bc3 HB2.out
   go_enter Tryz.func141, Tryz.ntmps141
   go_wp2_with fail
   refine HC.out.mono ?_
   rintro en w3 ⟨rfl,hk3⟩
   have HK3:=qtr HK hk3
   have HX1:=qkb HB1 hk3
   have HX2:=qkb HB2 hk3
   clear hk3 HC HB1 HB2 y0 y1 y2 y3 q0 q1 q2 hw1 hw2 zw1
   obtain⟨y0,y1,y2,y3⟩:=bc4 HX1.out
   obtain⟨q0,q1,q2⟩:=bc3 HX2.out
   go_wp2_with fail
   go_quiet (fail)
   go_wp2_with fail
   go_ret
   exact⟨by rw[HF.out];rfl,HK3.out.drewN _⟩
  have t2:decide (e<(ne:Int))=true:=by simpa using g2
  by_cases g3:0≤a
  case neg=>
   have t3:decide (a≥0)=false:=by simpa using g3
   have HF:Hid (rightB t (e,a,r)=false):=qh (by rw[HR.out,decide_eq_false g3];simp)
   clear g0 g1 g2 g3
   obtain⟨y0,y1,y2,y3⟩:=bc4 HB1.out
   obtain⟨q0,q1,q2⟩:=bc3 HB2.out
   go_enter Tryz.func141, Tryz.ntmps141
   go_wp2_with fail
   refine HC.out.mono ?_
   rintro en w3 ⟨rfl,hk3⟩
   have HK3:=qtr HK hk3
   have HX1:=qkb HB1 hk3
   have HX2:=qkb HB2 hk3
   clear hk3 HC HB1 HB2 y0 y1 y2 y3 q0 q1 q2 hw1 hw2 zw1
   obtain⟨y0,y1,y2,y3⟩:=bc4 HX1.out
   obtain⟨q0,q1,q2⟩:=bc3 HX2.out
   go_wp2_with fail
   go_quiet (fail)
   go_wp2_with fail
   go_ret
   exact⟨by rw[HF.out];rfl,HK3.out.drewN _⟩
  have t3:decide (a≥0)=true:=by simpa using g3
  obtain⟨ad,k,v,hA,he,hk,d0,hv⟩:=HED.out w2 HK.out e g1 g2
  subst hA
  rw[hv] at HR
  have hkz:(k:Int)<(ne:Int):=by omega
  have HRb:Hid (rightB t (e,a,r)=decide (a≤v)):=qh (by rw[HR.out,decide_eq_true g0,decide_eq_true g1,decide_eq_true g2,decide_eq_true g3];rfl)
  have HD0:=qh d0
  clear g0 g1 g2 g3 HED HR hv d0
  subst he
  by_cases g4:a≤v
  ·have t4:decide (a≤v)=true:=by simpa using g4
   have HF:Hid (rightB t (((k:Nat):Int),a,r)=true):=qh (by rw[HRb.out];exact t4)
   clear g4 HRb
   obtain⟨y0,y1,y2,y3⟩:=bc4 HB1.out
   obtain⟨q0,q1,q2⟩:=bc3 HB2.out
   go_enter Tryz.func141, Tryz.ntmps141
   go_wp2_with fail
   refine HC.out.mono ?_
   rintro en w3 ⟨rfl,hk3⟩
   have HK3:=qtr HK hk3
   have HX1:=qkb HB1 hk3
   have HX2:=qkb HB2 hk3
   have d0:=keepT hk3 HD0.out
   clear hk3 HC HB1 HB2 y0 y1 y2 y3 q0 q1 q2 hw1 hw2 zw1
   obtain⟨y0,y1,y2,y3⟩:=bc4 HX1.out
   obtain⟨q0,q1,q2⟩:=bc3 HX2.out
   go_wp2_with fail
   go_quiet (fail)
   go_wp2_with fail
   go_ret
   exact⟨by rw[HF.out];rfl,HK3.out.drewN _⟩
  ·have t4:decide (a≤v)=false:=by simpa using g4
   have HF:Hid (rightB t (((k:Nat):Int),a,r)=false):=qh (by rw[HRb.out];exact t4)
   clear g4 HRb
   obtain⟨y0,y1,y2,y3⟩:=bc4 HB1.out
   obtain⟨q0,q1,q2⟩:=bc3 HB2.out
   go_enter Tryz.func141, Tryz.ntmps141
   go_wp2_with fail
   refine HC.out.mono ?_
   rintro en w3 ⟨rfl,hk3⟩
   have HK3:=qtr HK hk3
   have HX1:=qkb HB1 hk3
   have HX2:=qkb HB2 hk3
   have d0:=keepT hk3 HD0.out
   clear hk3 HC HB1 HB2 y0 y1 y2 y3 q0 q1 q2 hw1 hw2 zw1
   obtain⟨y0,y1,y2,y3⟩:=bc4 HX1.out
   obtain⟨q0,q1,q2⟩:=bc3 HX2.out
   go_wp2_with fail
   go_quiet (fail)
   go_wp2_with fail
   go_ret
   exact⟨by rw[HF.out];rfl,HK3.out.drewN _⟩
set_option maxHeartbeats 4000000 in
set_option maxRecDepth 100000 in
theorem rahead_any (x:TA) (t:Tp) (B:Nat) (e a:Int) (r:Bool) (w:World) (h:TpAt w B x t) (h0:0≤e) (h1:e<(x.ne:Int)) (hv1:0≤edgeM t e) (hv2:edgeM t e≤1000000) (ha1:0≤a) (ha2:a≤1000000) :
    Calls Tryz.prog 142 #[.agg x.cs,.agg #[.int .i64 e,.int .i64 a,.bool r]] w fun en w'=>en=.returned (.int .i64 (aheadP t (e,a,r)))∧Keep Never w w':=by
  obtain⟨ad,k,v,hA,he,hk,d0,hv⟩:=edge_at h h0 h1
  have HD:Hid (∀W,Keep Never w W→W.cell? (ad.add k)=some (.int .i64 v)):=qh (fun W hk=>keepT hk d0)
  obtain⟨Ae,ne,ce,Aj,nj,cj,Ab,nb,cb,Ar,nr,cr⟩:=x
  simp only[TA.cs] at hA hk ⊢
  subst hA he
  have hkz:(k:Int)<(ne:Int):=by omega
  rw[hv] at hv1 hv2
  have hw:IntKind.i64.wrap (v - a)=v - a:=IntWalk.i64_in _ (by omega)
  cases r with
  | true=>
   have HF:Hid (aheadP t (((k:Nat):Int),a,true)=a):=qh (by unfold aheadP;rw[if_pos rfl])
   clear h d0 hv h0 h1 hv1 hv2 ha1 ha2
   obtain⟨w1,hw1⟩:∃V:World,w.alloc (.cells #[.slice (some ad) ne ce,.slice Aj nj cj,.slice Ab nb cb,.slice Ar nr cr] 27)=V:=⟨_,rfl⟩
   have zw1:w1.heap.size=w.heap.size+1:=by rw[←hw1];simp
   have kw1:Keep Never w w1:=by rw[←hw1];exact(Keep.refl _ _).alloc _
   have bw1:=Blk.new w 27 #[.slice (some ad) ne ce,.slice Aj nj cj,.slice Ab nb cb,.slice Ar nr cr]
   rw[hw1] at bw1
   obtain⟨w2,hw2⟩:∃V:World,w1.alloc (.cells #[.int .i64 ((k:Nat):Int),.int .i64 a,.bool true] 71)=V:=⟨_,rfl⟩
   have kw2:Keep Never w1 w2:=by rw[←hw2];exact(Keep.refl _ _).alloc _
   have bw2:=Blk.new w1 71 #[.int .i64 ((k:Nat):Int),.int .i64 a,.bool true]
   rw[hw2,zw1] at bw2
   have HB1:=qh (bw1.keep kw2 (fun h=>h))
   have HB2:=qh bw2
   have HK:=qh (kw1.trans kw2)
   clear kw1 kw2 bw1 bw2
   obtain⟨y0,y1,y2,y3⟩:=bc4 HB1.out
   obtain⟨q0,q1,q2⟩:=bc3 HB2.out
   have d0:=HD.out w2 HK.out
   go_enter Tryz.func142, Tryz.ntmps142
   go_wp2_with fail
   go_ret
   exact⟨by rw[HF.out];rfl,HK.out⟩
  | false=>
   have HF:Hid (aheadP t (((k:Nat):Int),a,false)=v - a):=qh (by unfold aheadP;rw[if_neg (by simp)];simp only;rw[hv])
   clear h d0 hv h0 h1 hv1 hv2 ha1 ha2
   obtain⟨w1,hw1⟩:∃V:World,w.alloc (.cells #[.slice (some ad) ne ce,.slice Aj nj cj,.slice Ab nb cb,.slice Ar nr cr] 27)=V:=⟨_,rfl⟩
   have zw1:w1.heap.size=w.heap.size+1:=by rw[←hw1];simp
   have kw1:Keep Never w w1:=by rw[←hw1];exact(Keep.refl _ _).alloc _
   have bw1:=Blk.new w 27 #[.slice (some ad) ne ce,.slice Aj nj cj,.slice Ab nb cb,.slice Ar nr cr]
   rw[hw1] at bw1
   obtain⟨w2,hw2⟩:∃V:World,w1.alloc (.cells #[.int .i64 ((k:Nat):Int),.int .i64 a,.bool false] 71)=V:=⟨_,rfl⟩
   have kw2:Keep Never w1 w2:=by rw[←hw2];exact(Keep.refl _ _).alloc _
   have bw2:=Blk.new w1 71 #[.int .i64 ((k:Nat):Int),.int .i64 a,.bool false]
   rw[hw2,zw1] at bw2
   have HB1:=qh (bw1.keep kw2 (fun h=>h))
   have HB2:=qh bw2
   have HK:=qh (kw1.trans kw2)
   clear kw1 kw2 bw1 bw2
   obtain⟨y0,y1,y2,y3⟩:=bc4 HB1.out
   obtain⟨q0,q1,q2⟩:=bc3 HB2.out
   have d0:=HD.out w2 HK.out
   go_enter Tryz.func142, Tryz.ntmps142
   go_wp2_with fail
   go_quiet (fail)
   go_wp2_with fail
   go_ret
   exact⟨by rw[HF.out];rfl,HK.out.drewN _⟩
end Go.Proofs.YtpapiojicbbheaaGreatDoor

namespace Go.Proofs.YtpapiojicbbheaaGreatDoor
open Go.RowKit
set_option maxHeartbeats 1000000 in
set_option maxRecDepth 100000 in
theorem ramong17_any (A:Option Addr) (n c B:Nat) (l:List Stp) (s:Stp) (w:World) (hr:Rd w B 2 A n (stpCells l)) (hn:n≤100000000) :
    Calls Tryz.prog 51 #[.slice A n c,.agg #[.int .i64 s.1,.bool s.2]] w fun e w'=>e=.returned (.bool (decide (s∈l)))∧Keep Never w w':=by
  have qe:∀(w:World) (x1:Int) (x2:Bool) (y1:Int) (y2:Bool),(binOp .eql 30 (.agg #[.int .i64 x1,.bool x2]) (.agg #[.int .i64 y1,.bool y2])).run Tryz.prog w=.ok (.bool (sameS x1 x2 y1 y2)) w:=run_eq_stp
  obtain⟨s1,s2⟩:=s
  simp only
  obtain⟨w1,hw1⟩:∃W:World,w.alloc (.cells #[.int .i64 s1,.bool s2] 30)=W:=⟨_,rfl⟩
  have k1:Keep Never w w1:=by rw[←hw1];exact(Keep.refl _ _).alloc _
  have b1:=Blk.new w 30 #[.int .i64 s1,.bool s2]
  rw[hw1] at b1
  have HB:=qh b1
  have HK:=qh k1
  have HR:=qh (hr.keep k1 (fun _ h=>h.elim))
  clear k1 b1 hr
  go_enter Tryz.func51, Tryz.ntmps51
  go_wp2_with fail
  go_loopw [5] (fun i wr=>∃k:Nat,k≤n∧i=.int .i64 k∧Hid (Keep Never w1 wr∧(s1,s2)∉l.take k)) (fun i _=>n - (intOf i).toNat)
  case atStart=>exact⟨0,by omega,rfl,qh ⟨Keep.refl _ _,by simp⟩⟩
  case round=>
   obtain⟨k,hk,rfl,HH⟩:=hrel
   by_cases h0:k<n
   ·have hkz:(k:Int)<(n:Int):=by omega
    obtain⟨ad,u,hA,_,hu,c0,c1⟩:=(HR.out.keep HH.out.1 (fun _ h=>h.elim)).stp h0
    subst hA
    obtain⟨u1,u2⟩:=u
    simp only at c0 c1
    have hb:=HB.out.keep HH.out.1 (fun h=>h)
    obtain⟨v0,v1⟩:=bc2 hb
    have HT:Hid (l.take (k+1)=l.take k++[(u1,u2)]):=qh (by
     obtain⟨h2,h3⟩:=List.getElem?_eq_some_iff.1 hu
     rw[List.take_succ_eq_append_getElem h2,h3])
    have Hu:=qh hu
    clear hu hb
    go_wp2_with fail
    rcases Bool.eq_false_or_eq_true (sameS u1 u2 s1 s2) with t1 | t1
    ·have HF:Hid (decide (((s1,s2):Stp)∈l)=true):=qh (decide_eq_true (by rw[←of_decide_eq_true t1];exact List.mem_of_getElem? Hu.out))
     go_quiet (fail)
     go_wp2_with fail
     go_ret
     exact⟨by rw[HF.out];rfl,(HK.out.trans HH.out.1).drewN _⟩
    ·have HN:Hid ((s1,s2)∉l.take (k+1)):=qh (by
      rw[HT.out,List.mem_append,List.mem_singleton]
      rintro(h | h)
      ·exact HH.out.2 h
      ·exact(of_decide_eq_false t1) h.symm)
     go_quiet (fail)
     go_wp2_with fail
     refine⟨⟨k+1,by omega,by go_num,qh ⟨HH.out.1.drewN _,HN.out⟩⟩,?_⟩
     simp[intOf];try omega
   ·obtain rfl:k=n:=by omega
    have hkz:¬(k:Int)<(k:Int):=by omega
    have HF:Hid (decide (((s1,s2):Stp)∈l)=false):=qh (decide_eq_false (by have:=HH.out.2;rwa [List.take_of_length_le (by rw[HR.out.stp_len];exact Nat.le_refl _)] at this))
    go_wp2_with fail
    go_ret
    exact⟨by rw[HF.out];rfl,HK.out.trans HH.out.1⟩
set_option maxHeartbeats 4000000 in
set_option maxRecDepth 100000 in
theorem met17_any (A:Option Addr) (n c B:Nat) (a:List Stp) (A':Option Addr) (n' c' B':Nat) (b:List Stp) (w:World) (hr:Rd w B 2 A n (stpCells a)) (hr':Rd w B' 2 A' n' (stpCells b)) (hn:n≤1000000) (hn':n'≤1000000) :
    Calls Tryz.prog 53 #[.slice A n c,.slice A' n' c'] w fun en w'=>en=.returned (.bool (a.any fun u=>overB b u.1))∧Keep Never w w':=by
  have HL:Hid (a.length=n):=qh hr.stp_len
  have HL2:Hid (b.length=n'):=qh hr'.stp_len
  have HR:=qh hr
  have HR2:=qh hr'
  clear hr hr'
  go_enter Tryz.func53, Tryz.ntmps53
  go_wp2_with fail
  go_loopw [5] (fun si wr=>∃k:Nat,k≤n∧si=.int .i64 k∧Hid (Keep Never w wr∧((a.take k).any fun u=>overB b u.1)=false)) (fun si _=>n - (intOf si).toNat)
  case atStart=>exact⟨0,by omega,rfl,qh ⟨Keep.refl _ _,by simp⟩⟩
  case round=>
   obtain⟨k,hk,rfl,HH⟩:=hrel
   by_cases h0:k<n
   case neg=>
    obtain rfl:k=n:=by omega
    have hki:¬(k:Int)<(k:Int):=by omega
    have HF:Hid ((a.any fun u=>overB b u.1)=false):=qh (by have h:=HH.out.2;rw[List.take_of_length_le (by rw[HL.out];exact Nat.le_refl _)] at h;exact h)
    go_wp2_with fail
    go_ret
    exact⟨by rw[HF.out];rfl,HH.out.1⟩
   have hki:(k:Int)<(n:Int):=by omega
   obtain⟨ad,s,hA,_,hs,c0,_⟩:=(HR.out.keep HH.out.1 (fun _ h=>h.elim)).stp h0
   subst hA
   have HT:Hid (a.take (k+1)=a.take k++[s]):=qh (by
    obtain⟨h2,h3⟩:=List.getElem?_eq_some_iff.1 hs
    rw[List.take_succ_eq_append_getElem h2,h3])
   have HM:Hid (s∈a):=qh (List.mem_of_getElem? hs)
   obtain⟨s1,s2⟩:=s
   simp only at c0
   have HC0:=qh c0
   clear hs c0
   go_wp2_with fail
   rename World=>wz
   go_loopw [6] (fun si wr=>∃j:Nat,j≤n'∧si=.int .i64 j∧Hid (Keep Never wz wr∧overB (b.take j) s1=false)) (fun si _=>n' - (intOf si).toNat)
   case atStart=>exact⟨0,by omega,rfl,qh ⟨Keep.refl _ _,by simp[overB]⟩⟩
   case round=>
    obtain⟨j,hj,rfl,HI⟩:=hrel
    by_cases h1:j<n'
    case neg=>
     obtain rfl:j=n':=by omega
     have hji:¬(j:Int)<(j:Int):=by omega
     have HN:Hid (((a.take (k+1)).any fun u=>overB b u.1)=false):=qh (by
      have h:=HI.out.2
      rw[List.take_of_length_le (by rw[HL2.out];exact Nat.le_refl _)] at h
      rw[HT.out,List.any_append,HH.out.2]
      simp[h])
     go_wp2_with fail
     refine⟨⟨k+1,by omega,by go_num,qh ⟨HH.out.1.trans HI.out.1,HN.out⟩⟩,?_⟩
     simp[intOf];try omega
    have hji:(j:Int)<(n':Int):=by omega
    obtain⟨ad',u,hA',_,hu,d0,_⟩:=(HR2.out.keep (HH.out.1.trans HI.out.1) (fun _ h=>h.elim)).stp h1
    subst hA'
    have c0:=keepT HI.out.1 HC0.out
    obtain⟨u1,u2⟩:=u
    simp only at d0
    by_cases g:s1=u1
    ·have t1:(s1==u1)=true:=by simpa using g
     have HF:Hid ((a.any fun u=>overB b u.1)=true):=qh (List.any_eq_true.2 ⟨(s1,s2),HM.out,over_iff.2 ⟨(u1,u2),List.mem_of_getElem? hu,g.symm⟩⟩)
     clear hu g
     go_wp2_with fail
     go_quiet (fail)
     go_wp2_with fail
     go_ret
     exact⟨by rw[HF.out];rfl,(HH.out.1.trans HI.out.1).drewN _⟩
    ·have t1:(s1==u1)=false:=by simpa using g
     have HN:Hid (overB (b.take (j+1)) s1=false):=qh (by
      obtain⟨h2,h3⟩:=List.getElem?_eq_some_iff.1 hu
      have h4:=HI.out.2
      unfold overB at h4 ⊢
      rw[List.take_succ_eq_append_getElem h2,h3,List.any_append,h4]
      have:(u1==s1)=false:=by simpa using fun e=>g e.symm
      simp[this])
     clear hu g
     go_wp2_with fail
     go_quiet (fail)
     go_wp2_with fail
     refine⟨⟨j+1,by omega,by go_num,qh ⟨HI.out.1.drewN _,HN.out⟩⟩,?_⟩
     simp[intOf];try omega
set_option maxHeartbeats 4000000 in
set_option maxRecDepth 100000 in
theorem rtwice17_any (A:Option Addr) (n c B:Nat) (l:List Stp) (w:World) (hr:Rd w B 2 A n (stpCells l)) (hn:n≤1000000) :
    Calls Tryz.prog 63 #[.slice A n c] w fun en w'=>en=.returned (.bool (twiceB l))∧Keep Never w w':=by
  have HL:Hid (l.length=n):=qh hr.stp_len
  have HR:=qh hr
  clear hr
  go_enter Tryz.func63, Tryz.ntmps63
  go_wp2_with fail
  go_loopw [3] (fun si wr=>∃k:Nat,k≤n∧si=.int .i64 k∧Hid (Keep Never w wr∧∀j,j<k→twiceAt l j=false)) (fun si _=>n - (intOf si).toNat)
  case atStart=>exact⟨0,by omega,rfl,qh ⟨Keep.refl _ _,fun j hj=>absurd hj (by omega)⟩⟩
  case round=>
   obtain⟨k,hk,rfl,HH⟩:=hrel
   by_cases h0:k<n
   case neg=>
    obtain rfl:k=n:=by omega
    have hki:¬(k:Int)<(k:Int):=by omega
    have HF:Hid (twiceB l=false):=qh (twice_f (fun j hj=>HH.out.2 j (by rw[HL.out] at hj;exact hj)))
    go_wp2_with fail
    go_ret
    exact⟨by rw[HF.out];rfl,HH.out.1⟩
   have hki:(k:Int)<(n:Int):=by omega
   obtain⟨ad,s,hA,_,hs,c0,_⟩:=(HR.out.keep HH.out.1 (fun _ h=>h.elim)).stp h0
   subst hA
   have HTw:=qh (twice_step hs)
   obtain⟨s1,s2⟩:=s
   simp only at c0 HTw
   have HC0:=qh c0
   clear hs c0
   go_wp2_with fail
   rename World=>wz
   go_loopw [4] (fun si wr=>∃j:Nat,j≤k∧si=.int .i64 j∧Hid (Keep Never wz wr∧overB (l.take j) s1=false)) (fun si _=>k - (intOf si).toNat)
   case atStart=>exact⟨0,by omega,rfl,qh ⟨Keep.refl _ _,by simp[overB]⟩⟩
   case round=>
    obtain⟨j,hj,rfl,HI⟩:=hrel
    by_cases h1:j<k
    case neg=>
     obtain rfl:j=k:=by omega
     have hji:¬(j:Int)<(j:Int):=by omega
     have HN:Hid (∀i,i<j+1→twiceAt l i=false):=qh (fun i hi=>by
      by_cases e:i=j
      ·rw[e,HTw.out];exact HI.out.2
      ·exact HH.out.2 i (by omega))
     go_wp2_with fail
     refine⟨⟨j+1,by omega,by go_num,qh ⟨HH.out.1.trans HI.out.1,HN.out⟩⟩,?_⟩
     simp[intOf];try omega
    have hji:(j:Int)<(k:Int):=by omega
    have hjn:(j:Int)<(n:Int):=by omega
    obtain⟨ad',u,hA',_,hu,d0,_⟩:=(HR.out.keep (HH.out.1.trans HI.out.1) (fun _ h=>h.elim)).stp (show j<n by omega)
    obtain rfl:ad=ad':=by injection hA'
    have c0:=keepT HI.out.1 HC0.out
    obtain⟨u1,u2⟩:=u
    simp only at d0
    by_cases g:u1=s1
    ·have t1:(u1==s1)=true:=by simpa using g
     have HF:Hid (twiceB l=true):=qh (twice_t (k:=k) (by rw[HL.out];exact h0) (by rw[HTw.out];exact over_iff.2 ⟨(u1,u2),by rw[List.mem_iff_getElem?];exact⟨j,by rw[List.getElem?_take,if_pos h1];exact hu⟩,g⟩))
     clear hu g hA'
     go_wp2_with fail
     go_quiet (fail)
     go_wp2_with fail
     go_ret
     exact⟨by rw[HF.out];rfl,(HH.out.1.trans HI.out.1).drewN _⟩
    ·have t1:(u1==s1)=false:=by simpa using g
     have HN:Hid (overB (l.take (j+1)) s1=false):=qh (by
      obtain⟨h2,h3⟩:=List.getElem?_eq_some_iff.1 hu
      have h4:=HI.out.2
      unfold overB at h4 ⊢
      rw[List.take_succ_eq_append_getElem h2,h3,List.any_append,h4]
      simp[t1])
     clear hu g hA'
     go_wp2_with fail
     go_quiet (fail)
     go_wp2_with fail
     refine⟨⟨j+1,by omega,by go_num,qh ⟨HI.out.1.drewN _,HN.out⟩⟩,?_⟩
     simp[intOf];try omega
set_option maxHeartbeats 4000000 in
set_option maxRecDepth 100000 in
theorem rplace17_any (x:TA) (t:Tp) (B:Nat) (y:MX) (m:Ma) (w:World) (h:TpAt w B x t) (hb:x.nb≤100000000) :
    Calls Tryz.prog 61 #[.agg x.cs,.agg (y.vs m)] w fun en w'=>en=.returned (.tuple #[.agg #[.int .i64 ((balM t.2.2.1 m.1).getD (0,0,0)).2.1,.int .i64 ((balM t.2.2.1 m.1).getD (0,0,0)).2.2,.bool m.2.1],.bool (balM t.2.2.1 m.1).isSome])∧Keep Never w w':=by
  obtain⟨ref,rv,P,S,g⟩:=m
  have HBa:=qh (fun (W:World) (hk:Keep Never w W)=>rbal_any x t B ref W (h.keep hk) hb)
  obtain⟨Ae,ne,ce,Aj,nj,cj,Ab,nb,cb,Ar,nr,cr⟩:=x
  obtain⟨Ap,np,cp,As,ns,cs⟩:=y
  simp only[TA.cs,MX.vs] at HBa ⊢
  clear h hb
  obtain⟨w1,hw1⟩:∃V:World,w.alloc (.cells #[.slice Ae ne ce,.slice Aj nj cj,.slice Ab nb cb,.slice Ar nr cr] 27)=V:=⟨_,rfl⟩
  have zw1:w1.heap.size=w.heap.size+1:=by rw[←hw1];simp
  have kw1:Keep Never w w1:=by rw[←hw1];exact(Keep.refl _ _).alloc _
  have bw1:=Blk.new w 27 #[.slice Ae ne ce,.slice Aj nj cj,.slice Ab nb cb,.slice Ar nr cr]
  rw[hw1] at bw1
  obtain⟨w2,hw2⟩:∃V:World,w1.alloc (.cells #[.int .i64 ref,.bool rv,.slice Ap np cp,.slice As ns cs,.int .i64 g] 38)=V:=⟨_,rfl⟩
  have zw2:w2.heap.size=w.heap.size+1+1:=by rw[←hw2];simp[zw1]
  have kw2:Keep Never w1 w2:=by rw[←hw2];exact(Keep.refl _ _).alloc _
  have bw2:=Blk.new w1 38 #[.int .i64 ref,.bool rv,.slice Ap np cp,.slice As ns cs,.int .i64 g]
  rw[hw2,zw1] at bw2
  obtain⟨w3,hw3⟩:∃V:World,w2.alloc (.cells #[.int .i64 0,.int .i64 0,.bool false] 71)=V:=⟨_,rfl⟩
  have kw3:Keep Never w2 w3:=by rw[←hw3];exact(Keep.refl _ _).alloc _
  have bw3:=Blk.new w2 71 #[.int .i64 0,.int .i64 0,.bool false]
  rw[hw3,zw2] at bw3
  have HB1:=qh ((bw1.keep kw2 (fun h=>h)).keep kw3 (fun h=>h))
  have HB2:=qh (bw2.keep kw3 (fun h=>h))
  have HB3:=qh bw3
  have HK:=qh ((kw1.trans kw2).trans kw3)
  clear kw1 kw2 kw3 bw1 bw2 bw3
  have hw:=HBa.out w3 HK.out
  unfold BalRet at hw
  obtain⟨o,ho⟩:∃z,balM t.2.2.1 ref=z:=⟨_,rfl⟩
  rw[ho] at hw ⊢
  obtain⟨⟨b1,b2,b3⟩,hg⟩:∃z,o.getD (0,0,0)=z:=⟨_,rfl⟩
  rw[hg] at hw ⊢
  obtain⟨os,hos⟩:∃z,o.isSome=z:=⟨_,rfl⟩
  rw[hos] at hw ⊢
  simp only at hw
  have HC:=qh hw
  obtain⟨y0,y1,y2,y3⟩:=bc4 HB1.out
  obtain⟨m0,m1,m2,m3,m4⟩:=bc5 HB2.out
  clear hw ho hg hos HBa
  go_enter Tryz.func61, Tryz.ntmps61
  go_wp2_with fail
  refine HC.out.mono ?_
  rintro en w4 ⟨rfl,hk⟩
  have HK4:=qtr HK hk
  have HM4:=qkb HB2 hk
  have HZ4:=qkb HB3 hk
  clear hk HC HB1 HB2 HB3 HK y0 y1 y2 y3 m0 m1 m2 m3 m4 hw1 hw2 hw3 zw1 zw2
  go_upto_region 2 with(fail)
  obtain⟨w5,hw5⟩:∃V:World,w4.alloc (.cells #[.int .i64 b1,.int .i64 b2,.int .i64 b3] 94)=V:=⟨_,rfl⟩
  have hk:Keep Never w4 w5:=by rw[←hw5];exact(Keep.refl _ _).alloc _
  have B5:=Blk.new w4 94 #[.int .i64 b1,.int .i64 b2,.int .i64 b3]
  rw[hw5] at B5
  obtain⟨bb,hbb⟩:∃q,w4.heap.size=q:=⟨_,rfl⟩
  rw[hbb] at B5
  rw[hw5,hbb]
  have HB5:=qh B5
  have HK5:=qtr HK4 hk
  have HM5:=qkb HM4 hk
  have HZ5:=qkb HZ4 hk
  clear hk B5 hw5 hbb HM4 HZ4 HK4
  have q1:w5.cell? ⟨bb,1,none⟩=some (.int .i64 b2):=HB5.out.cell 1
  have q2:w5.cell? ⟨bb,2,none⟩=some (.int .i64 b3):=HB5.out.cell 2
  have m1:w5.cell? ⟨w.heap.size+1,1,none⟩=some (.bool rv):=HM5.out.cell 1
  obtain⟨z0,z1,z2⟩:=bc3 HZ5.out
  have zf0:=HZ5.out.frozen 0
  have zf1:=HZ5.out.frozen 1
  have zf2:=HZ5.out.frozen 2
  go_wp2_with fail
  (try simp only[Exit.inBlock,Exit.then])
  have hp:=ps3_keep HK5.out (b:=w.heap.size+2) (.inr (by omega)) (.int .i64 b2) (.int .i64 b3) (.bool rv)
  refine bodyPost_ret (ps_results2 (fn:=Tryz.f61) (r:=4) (s:=5) rfl (ps3_blk HZ5.out (.int .i64 b2) (.int .i64 b3) (.bool rv)) _ rfl) rfl ⟨rfl,hp⟩
end Go.Proofs.YtpapiojicbbheaaGreatDoor

namespace Go.Proofs.YtpapiojicbbheaaGreatDoor
open Go.RowKit
def idxI {α:Type} [BEq α] (l:List α) (v:α):Int:=if l.contains v=true then ((l.idxOf v:Nat):Int) else -1
theorem idxI_at {α:Type} [BEq α] [LawfulBEq α] {l:List α}{v:α}{k:Nat} (h:v∈l∧l.idxOf v=k):idxI l v=(k:Int):=by unfold idxI;rw[if_pos (by simpa using h.1),h.2]
theorem idxI_no {α:Type} [BEq α] [LawfulBEq α] {l:List α}{v:α} (h:v∉l):idxI l v=-1:=by unfold idxI;rw[if_neg (by simpa using h)]
def sameLk (a b c d e f:Int):Bool:=decide (((a,b,c):Lk)=(d,e,f))
theorem run_eq_lk17 (w:World) (a b c d e f:Int):(binOp .eql 62 (.agg #[.int .i64 a,.int .i64 b,.int .i64 c]) (.agg #[.int .i64 d,.int .i64 e,.int .i64 f])).run Tryz.prog w=.ok (.bool (sameLk a b c d e f)) w:=by
 by_cases h1:a=d
 ·have t1:(a==d)=true:=by simpa using h1
  by_cases h2:b=e
  ·have t2:(b==e)=true:=by simpa using h2
   by_cases h3:c=f
   ·have t3:(c==f)=true:=by simpa using h3
    have hd:sameLk a b c d e f=true:=decide_eq_true (by rw[h1,h2,h3])
    rw[hd]
    clear h1 h2 h3 hd
    go_simp
   ·have t3:(c==f)=false:=by simpa using h3
    have hd:sameLk a b c d e f=false:=decide_eq_false (by simp[h3])
    rw[hd]
    clear h1 h2 h3 hd
    go_simp
  ·have t2:(b==e)=false:=by simpa using h2
   have hd:sameLk a b c d e f=false:=decide_eq_false (by simp[h2])
   rw[hd]
   clear h1 h2 hd
   go_simp
 ·have t1:(a==d)=false:=by simpa using h1
  have hd:sameLk a b c d e f=false:=decide_eq_false (by simp[h1])
  rw[hd]
  clear h1 hd
  go_simp
theorem idxOf17 {α:Type} [BEq α] [LawfulBEq α]:∀{l:List α}{k:Nat}{s:α},l[k]?=some s→s∉l.take k→l.idxOf s=k
  | [],k,s,h,_=>by simp at h
  | y::l,0,s,h,_=>by simp at h;subst h;simp
  | y::l,k+1,s,h,hn=>by
   simp only[List.getElem?_cons_succ] at h
   rw[List.take_succ_cons,List.mem_cons,not_or] at hn
   rw[List.idxOf_cons,idxOf17 h hn.2]
   have:(y==s)=false:=by simpa using fun e:y=s=>hn.1 e.symm
   rw[this];rfl
set_option maxHeartbeats 2000000 in
set_option maxRecDepth 100000 in
theorem sindex_any (A:Option Addr) (n c B:Nat) (l:List Stp) (v:Stp) (w:World) (hr:Rd w B 2 A n (stpCells l)) (hn:n≤1000000000) :
    Calls Tryz.prog 58 #[.slice A n c,.agg #[.int .i64 v.1,.bool v.2]] w fun e w'=>e=.returned (.int .i64 (idxI l v))∧Keep Never w w':=by
  have qe:=run_eq_stp
  have HR:=qh hr
  have HLn:Hid (l.length=n):=qh hr.stp_len
  clear hr
  obtain⟨v1,v2⟩:=v
  simp only
  obtain⟨w1,hw1⟩:∃V:World,w.alloc (.cells #[.int .i64 v1,.bool v2] 30)=V:=⟨_,rfl⟩
  have kw1:Keep Never w w1:=by rw[←hw1];exact(Keep.refl _ _).alloc _
  have bw1:=Blk.new w 30 #[.int .i64 v1,.bool v2]
  rw[hw1] at bw1
  have HB1:=qh bw1
  have HK:=qh kw1
  clear kw1 bw1
  go_enter Tryz.func58, Tryz.ntmps58
  go_wp2_with fail
  clear hw1
  go_loopw [5,8] (fun _ i wr=>∃k:Nat,k≤n∧i=.int .i64 k∧Hid (Keep Never w1 wr∧((v1,v2):Stp)∉l.take k)) (fun _ i _=>n - (intOf i).toNat)
  case atStart=>exact⟨0,by omega,rfl,qh ⟨Keep.refl _ _,by simp⟩⟩
  case round=>
   obtain⟨k,hk,rfl,HH⟩:=hrel
   by_cases h0:k<n
   ·have hkz:(k:Int)<(n:Int):=by omega
    obtain⟨ad,s,hA,hab,hs,c0,c1⟩:=(HR.out.keep (HK.out.trans HH.out.1) (fun _ h=>h.elim)).stp h0
    subst hA
    obtain⟨s1,s2⟩:=s
    simp only at c0 c1
    have HBr:=qh (HB1.out.keep HH.out.1 (fun h=>h))
    obtain⟨y0,y1⟩:=bc2 HBr.out
    have HT:Hid (l.take (k+1)=l.take k++[((s1,s2):Stp)]):=qh (by
     obtain⟨h2,h3⟩:=List.getElem?_eq_some_iff.1 hs
     rw[List.take_succ_eq_append_getElem h2,h3])
    have HSk:=qh hs
    clear hs hab
    by_cases g:((v1,v2):Stp)=(s1,s2)
    ·have tq:sameS v1 v2 s1 s2=true:=decide_eq_true g
     have HF:Hid (((v1,v2):Stp)∈l∧l.idxOf ((v1,v2):Stp)=k):=qh ⟨by rw[g];exact List.mem_of_getElem? HSk.out,idxOf17 (by rw[HSk.out,g]) HH.out.2⟩
     clear g
     go_wp2_with fail
     go_quiet (fail)
     go_wp2_with fail
     go_ret
     exact⟨by rw[idxI_at HF.out];rfl,(HK.out.trans HH.out.1).drewN _⟩
    ·have tq:sameS v1 v2 s1 s2=false:=decide_eq_false g
     have HE:Hid (((v1,v2):Stp)∉l.take (k+1)):=qh (by
      rw[HT.out,List.mem_append,List.mem_singleton]
      rintro(h | h)
      ·exact HH.out.2 h
      ·exact g h)
     clear g
     go_wp2_with fail
     go_quiet (fail)
     go_wp2_with fail
     refine⟨⟨k+1,by omega,by go_num,qh ⟨HH.out.1.drewN _,HE.out⟩⟩,?_⟩
     simp[intOf];try omega
   ·obtain rfl:k=n:=by omega
    have hkz:¬(k:Int)<(k:Int):=by omega
    have HE:Hid (((v1,v2):Stp)∉l):=qh (by have:=HH.out.2;rwa [List.take_of_length_le (by rw[HLn.out];exact Nat.le_refl _)] at this)
    go_wp2_with fail
    go_ret
    exact⟨by rw[idxI_no HE.out];rfl,HK.out.trans HH.out.1⟩
set_option maxHeartbeats 2000000 in
set_option maxRecDepth 100000 in
theorem scontains_any (A:Option Addr) (n c B:Nat) (l:List Stp) (v:Stp) (w:World) (hr:Rd w B 2 A n (stpCells l)) (hn:n≤1000000000) :
    Calls Tryz.prog 43 #[.slice A n c,.agg #[.int .i64 v.1,.bool v.2]] w fun e w'=>e=.returned (.bool (decide (v∈l)))∧Keep Never w w':=by
  have HX:=qh (fun (W:World) (hk:Keep Never w W)=>sindex_any A n c B l v W (hr.keep hk (fun _ h=>h.elim)) hn)
  clear hr
  obtain⟨v1,v2⟩:=v
  simp only at HX ⊢
  obtain⟨w1,hw1⟩:∃V:World,w.alloc (.cells #[.int .i64 v1,.bool v2] 30)=V:=⟨_,rfl⟩
  have kw1:Keep Never w w1:=by rw[←hw1];exact(Keep.refl _ _).alloc _
  have bw1:=Blk.new w 30 #[.int .i64 v1,.bool v2]
  rw[hw1] at bw1
  have HB1:=qh bw1
  have HK:=qh kw1
  obtain⟨y0,y1⟩:=bc2 HB1.out
  clear kw1 bw1
  go_enter Tryz.func43, Tryz.ntmps43
  go_wp2_with fail
  clear hw1 y0 y1
  refine(HX.out w1 HK.out).mono ?_
  rintro en w2 ⟨rfl,hk⟩
  have HK2:=qtr HK hk
  clear hk HX
  obtain⟨z,hz⟩:∃z,idxI l ((v1,v2):Stp)=z:=⟨_,rfl⟩
  rw[hz]
  by_cases g:((v1,v2):Stp)∈l
  ·have t0:decide (z≥0)=true:=by rw[←hz,idxI_at ⟨g,rfl⟩];simp
   have HD:Hid (decide (((v1,v2):Stp)∈l)=true):=qh (decide_eq_true g)
   clear g hz
   go_wp2_with fail
   go_ret
   exact⟨by rw[HD.out];rfl,HK2.out⟩
  ·have t0:decide (z≥0)=false:=by rw[←hz,idxI_no g];rfl
   have HD:Hid (decide (((v1,v2):Stp)∈l)=false):=qh (decide_eq_false g)
   clear g hz
   go_wp2_with fail
   go_ret
   exact⟨by rw[HD.out];rfl,HK2.out⟩
set_option maxHeartbeats 2000000 in
set_option maxRecDepth 100000 in
theorem kindex_any (A:Option Addr) (n c B:Nat) (l:List Lk) (v:Lk) (w:World) (hr:Rd w B 3 A n (spCells l)) (hn:n≤1000000000) :
    Calls Tryz.prog 105 #[.slice A n c,.agg #[.int .i64 v.1,.int .i64 v.2.1,.int .i64 v.2.2]] w fun e w'=>e=.returned (.int .i64 (idxI l v))∧Keep Never w w':=by
  have qe:=run_eq_lk17
  have HR:=qh hr
  have HLn:Hid (l.length=n):=qh hr.sp_len
  clear hr
  obtain⟨v1,v2,v3⟩:=v
  simp only
  obtain⟨w1,hw1⟩:∃V:World,w.alloc (.cells #[.int .i64 v1,.int .i64 v2,.int .i64 v3] 62)=V:=⟨_,rfl⟩
  have kw1:Keep Never w w1:=by rw[←hw1];exact(Keep.refl _ _).alloc _
  have bw1:=Blk.new w 62 #[.int .i64 v1,.int .i64 v2,.int .i64 v3]
  rw[hw1] at bw1
  have HB1:=qh bw1
  have HK:=qh kw1
  clear kw1 bw1
  go_enter Tryz.func105, Tryz.ntmps105
  go_wp2_with fail
  clear hw1
  go_loopw [5,8] (fun _ i wr=>∃k:Nat,k≤n∧i=.int .i64 k∧Hid (Keep Never w1 wr∧((v1,v2,v3):Lk)∉l.take k)) (fun _ i _=>n - (intOf i).toNat)
  case atStart=>exact⟨0,by omega,rfl,qh ⟨Keep.refl _ _,by simp⟩⟩
  case round=>
   obtain⟨k,hk,rfl,HH⟩:=hrel
   by_cases h0:k<n
   ·have hkz:(k:Int)<(n:Int):=by omega
    obtain⟨ad,s,hA,hab,hs,c0,c1,c2⟩:=(HR.out.keep (HK.out.trans HH.out.1) (fun _ h=>h.elim)).sp h0
    subst hA
    obtain⟨s1,s2,s3⟩:=s
    simp only at c0 c1 c2
    have HBr:=qh (HB1.out.keep HH.out.1 (fun h=>h))
    obtain⟨y0,y1,y2⟩:=bc3 HBr.out
    have HT:Hid (l.take (k+1)=l.take k++[((s1,s2,s3):Lk)]):=qh (by
     obtain⟨h2,h3⟩:=List.getElem?_eq_some_iff.1 hs
     rw[List.take_succ_eq_append_getElem h2,h3])
    have HSk:=qh hs
    clear hs hab
    by_cases g:((v1,v2,v3):Lk)=(s1,s2,s3)
    ·have tq:sameLk v1 v2 v3 s1 s2 s3=true:=decide_eq_true g
     have HF:Hid (((v1,v2,v3):Lk)∈l∧l.idxOf ((v1,v2,v3):Lk)=k):=qh ⟨by rw[g];exact List.mem_of_getElem? HSk.out,idxOf17 (by rw[HSk.out,g]) HH.out.2⟩
     clear g
     go_wp2_with fail
     go_quiet (fail)
     go_wp2_with fail
     go_ret
     exact⟨by rw[idxI_at HF.out];rfl,(HK.out.trans HH.out.1).drewN _⟩
    ·have tq:sameLk v1 v2 v3 s1 s2 s3=false:=decide_eq_false g
     have HE:Hid (((v1,v2,v3):Lk)∉l.take (k+1)):=qh (by
      rw[HT.out,List.mem_append,List.mem_singleton]
      rintro(h | h)
      ·exact HH.out.2 h
      ·exact g h)
     clear g
     go_wp2_with fail
     go_quiet (fail)
     go_wp2_with fail
     refine⟨⟨k+1,by omega,by go_num,qh ⟨HH.out.1.drewN _,HE.out⟩⟩,?_⟩
     simp[intOf];try omega
   ·obtain rfl:k=n:=by omega
    have hkz:¬(k:Int)<(k:Int):=by omega
    have HE:Hid (((v1,v2,v3):Lk)∉l):=qh (by have:=HH.out.2;rwa [List.take_of_length_le (by rw[HLn.out];exact Nat.le_refl _)] at this)
    go_wp2_with fail
    go_ret
    exact⟨by rw[idxI_no HE.out];rfl,HK.out.trans HH.out.1⟩
set_option maxHeartbeats 2000000 in
set_option maxRecDepth 100000 in
theorem kcontains_any (A:Option Addr) (n c B:Nat) (l:List Lk) (v:Lk) (w:World) (hr:Rd w B 3 A n (spCells l)) (hn:n≤1000000000) :
    Calls Tryz.prog 41 #[.slice A n c,.agg #[.int .i64 v.1,.int .i64 v.2.1,.int .i64 v.2.2]] w fun e w'=>e=.returned (.bool (decide (v∈l)))∧Keep Never w w':=by
  have HX:=qh (fun (W:World) (hk:Keep Never w W)=>kindex_any A n c B l v W (hr.keep hk (fun _ h=>h.elim)) hn)
  clear hr
  obtain⟨v1,v2,v3⟩:=v
  simp only at HX ⊢
  obtain⟨w1,hw1⟩:∃V:World,w.alloc (.cells #[.int .i64 v1,.int .i64 v2,.int .i64 v3] 62)=V:=⟨_,rfl⟩
  have kw1:Keep Never w w1:=by rw[←hw1];exact(Keep.refl _ _).alloc _
  have bw1:=Blk.new w 62 #[.int .i64 v1,.int .i64 v2,.int .i64 v3]
  rw[hw1] at bw1
  have HB1:=qh bw1
  have HK:=qh kw1
  obtain⟨y0,y1,y2⟩:=bc3 HB1.out
  clear kw1 bw1
  go_enter Tryz.func41, Tryz.ntmps41
  go_wp2_with fail
  clear hw1 y0 y1 y2
  refine(HX.out w1 HK.out).mono ?_
  rintro en w2 ⟨rfl,hk⟩
  have HK2:=qtr HK hk
  clear hk HX
  obtain⟨z,hz⟩:∃z,idxI l ((v1,v2,v3):Lk)=z:=⟨_,rfl⟩
  rw[hz]
  by_cases g:((v1,v2,v3):Lk)∈l
  ·have t0:decide (z≥0)=true:=by rw[←hz,idxI_at ⟨g,rfl⟩];simp
   have HD:Hid (decide (((v1,v2,v3):Lk)∈l)=true):=qh (decide_eq_true g)
   clear g hz
   go_wp2_with fail
   go_ret
   exact⟨by rw[HD.out];rfl,HK2.out⟩
  ·have t0:decide (z≥0)=false:=by rw[←hz,idxI_no g];rfl
   have HD:Hid (decide (((v1,v2,v3):Lk)∈l)=false):=qh (decide_eq_false g)
   clear g hz
   go_wp2_with fail
   go_ret
   exact⟨by rw[HD.out];rfl,HK2.out⟩
end Go.Proofs.YtpapiojicbbheaaGreatDoor

namespace Go.Proofs.YtpapiojicbbheaaGreatDoor
open Go.RowKit
abbrev rtA (r:Rt) (A:Option Addr) (n c:Nat):Value:=.agg #[.int .i64 r.1,.slice A n c,.int .i64 r.2.2.1,.int .i64 r.2.2.2]
theorem after_len (t:Tp) (s:Stp):(afterM t s).length≤2*t.1.length:=by
 unfold afterM
 split
 ·exact listM_len _ _ _
 ·simp
theorem has_dec (s:Stp) (r:Rt):hasB s r=decide (s∈r.2.1):=by unfold hasB;rw[List.contains_eq_mem]
set_option maxHeartbeats 4000000 in
set_option maxRecDepth 100000 in
theorem ch3_any (r:Rt) (A:Option Addr) (n c B:Nat) (s:Stp) (g:Nat) (w:World) (hr:Rd w B 2 A n (stpCells r.2.1)) (hn:n≤100000000) (h0:w.cell? ⟨g,0,none⟩=some (.int .i64 s.1)) (h1:w.cell? ⟨g,1,none⟩=some (.bool s.2)) :
    Calls Tryz.prog 47 #[rtA r A n c,.pointer (some ⟨g,0,none⟩)] w fun e w'=>e=.returned (.bool (hasB s r))∧Keep Never w w':=by
  rw[has_dec]
  obtain⟨r1,rp,r3,r4⟩:=r
  obtain⟨s1,s2⟩:=s
  simp only at hr h0 h1 ⊢
  have HX:=qh (fun (W:World) (hk:Keep Never w W)=>scontains_any A n c B rp (s1,s2) W (hr.keep hk (fun _ h=>h.elim)) (by omega))
  clear hr
  obtain⟨w1,hw1⟩:∃V:World,w.alloc (.cells #[.int .i64 r1,.slice A n c,.int .i64 r3,.int .i64 r4] 64)=V:=⟨_,rfl⟩
  have kw1:Keep Never w w1:=by rw[←hw1];exact(Keep.refl _ _).alloc _
  have bw1:=Blk.new w 64 #[.int .i64 r1,.slice A n c,.int .i64 r3,.int .i64 r4]
  rw[hw1] at bw1
  have HB1:=qh bw1
  have HK:=qh kw1
  obtain⟨y0,y1,y2,y3⟩:=bc4 HB1.out
  clear kw1 bw1
  have d0:=keepT HK.out h0
  have d1:=keepT HK.out h1
  clear h0 h1
  go_enter Tryz.func47, Tryz.ntmps47
  go_wp2_with fail
  refine(HX.out w1 HK.out).mono ?_
  rintro en w2 ⟨rfl,hk⟩
  have HK2:=qtr HK hk
  clear hk HX y0 y1 y2 y3 d0 d1 hw1
  go_wp2_with fail
  go_ret
  exact⟨rfl,HK2.out⟩
set_option maxHeartbeats 4000000 in
set_option maxRecDepth 100000 in
theorem ch21_any (a:Int) (r:Bool) (A:Option Addr) (n c B:Nat) (l:List Stp) (g:Nat) (w:World) (hr:Rd w B 2 A n (stpCells l)) (hn:n≤1000000) (h0:w.cell? ⟨g,0,none⟩=some (.slice A n c)) :
    Calls Tryz.prog 45 #[.agg #[.int .i64 a,.bool r],.pointer (some ⟨g,0,none⟩)] w fun e w'=>e=.returned (.bool (overB l a))∧Keep Never w w':=by
  have HX:=qh (fun (W:World) (hk:Keep Never w W)=>pover17_any A n c B l a W (hr.keep hk (fun _ h=>h.elim)) hn)
  clear hr
  obtain⟨w1,hw1⟩:∃V:World,w.alloc (.cells #[.int .i64 a,.bool r] 30)=V:=⟨_,rfl⟩
  have kw1:Keep Never w w1:=by rw[←hw1];exact(Keep.refl _ _).alloc _
  have bw1:=Blk.new w 30 #[.int .i64 a,.bool r]
  rw[hw1] at bw1
  have HB1:=qh bw1
  have HK:=qh kw1
  obtain⟨y0,y1⟩:=bc2 HB1.out
  clear kw1 bw1
  have d0:=keepT HK.out h0
  clear h0
  go_enter Tryz.func45, Tryz.ntmps45
  go_wp2_with fail
  refine(HX.out w1 HK.out).mono ?_
  rintro en w2 ⟨rfl,hk⟩
  have HK2:=qtr HK hk
  clear hk HX y0 y1 d0 hw1
  go_wp2_with fail
  go_ret
  exact⟨rfl,HK2.out⟩
set_option maxHeartbeats 8000000 in
set_option maxRecDepth 100000 in
theorem ch2_any (r:Rt) (A:Option Addr) (n c B2:Nat) (x:TA) (t:Tp) (B B3:Nat) (gone:List Stp) (Ag:Option Addr) (ng cg bt bg:Nat) (w:World) (hr:Rd w B2 2 A n (stpCells r.2.1)) (hp:r.2.1≠[]) (hn:n≤1000000) (h:TpAt w B x t) (hs:TpSmall x t) (hg:Rd w B3 2 Ag ng (stpCells gone)) (hg0:gone≠[]) (hng:ng≤1000000) (hbt:Blk w bt 27 x.cs) (hbg:Blk w bg 35 #[.slice Ag ng cg]) :
    Calls Tryz.prog 42 #[rtA r A n c,.pointer (some ⟨bt,0,none⟩),.pointer (some ⟨bg,0,none⟩)] w fun e w'=>e=.returned (.bool (followsB t gone r))∧Keep Never w w':=by
  obtain⟨r1,rp,r3,r4⟩:=r
  simp only at hr hp ⊢
  have HX:=qh (fun (W:World) (hk:Keep Never w W) (v:Stp) (A2 n2 c2 B2 l) (h:Rd W B2 2 A2 n2 (stpCells l)) (h2:n2≤1000000000)=>scontains_any A2 n2 c2 B2 l v W h h2)
  have HAf:=qh (fun (W:World) (hk:Keep Never w W) (s:Stp)=>after_any x t B s W (h.keep hk) hs.j hs.e)
  have HCf:=qh (fun (W:World) (hk:Keep Never w W) (h0:W.cell? ⟨bg,0,none⟩=some (.slice Ag ng cg))=>containsfs_any 45 #[.pointer (some ⟨bg,0,none⟩)] (fun u=>overB gone u.1) (enters_of Tryz.func45 (by kernel_rfl) rfl) A n c B2 rp W (hr.keep hk (fun _ h=>h.elim)) (fun V s hV=>ch21_any s.1 s.2 Ag ng cg B3 gone bg V (hg.keep (hk.trans hV) (fun _ h=>h.elim)) hng (keepT hV h0)) (by omega))
  have hTl:∃m,ng=m+1:=⟨ng - 1,by have:=hg.stp_len;have:=List.length_pos_iff.2 hg0;omega⟩
  obtain⟨m,rfl⟩:=hTl
  obtain⟨ag,gl,hAg,_,hgl,f5,f6⟩:=hg.stp (show m<m+1 by omega)
  subst hAg
  have HNe:Hid (t.1.length≤100000000):=qh (by rw[←h.e.len];exact hs.e)
  have HGl:Hid (gone.getLast?=some gl):=qh (by rw[List.getLast?_eq_getElem?,hg.stp_len];exact hgl)
  have hn0:0<n:=by have:=hr.stp_len;have:=List.length_pos_iff.2 hp;omega
  obtain⟨ap,hd,hAp,_,hhd,e0,e1⟩:=hr.stp hn0
  subst hAp
  have ea:ap.add (0*2)=ap:=by rw[Nat.zero_mul];unfold Addr.add;split <;> simp_all
  rw[ea] at e0 e1
  have HHd:Hid (rp.head?=some hd):=qh (by rw[List.head?_eq_getElem?];exact hhd)
  have HF0:Hid (followsB t gone (r1,rp,r3,r4)=((afterM t gl).contains hd&&!(rp.any fun u=>overB gone u.1))):=qh (by unfold followsB;rw[HGl.out];simp only;rw[HHd.out])
  obtain⟨g1,g2⟩:=gl
  obtain⟨h1,h2⟩:=hd
  simp only at f5 f6 e0 e1
  have f0:=hbt.cell 0
  have f1:=hbt.cell 1
  have f2:=hbt.cell 2
  have f3:=hbt.cell 3
  obtain⟨Ae,ne,ce,Aj,nj,cj,Ab,nb,cb,Ar,nr,cr⟩:=x
  simp only[TA.cs] at HAf f0 f1 f2 f3
  have f4:=hbg.cell 0
  have HW0:=qh (show Hid (w.cell? ⟨bt,0,none⟩=some (.slice Ae ne ce)∧w.cell? ⟨bt,1,none⟩=some (.slice Aj nj cj)∧w.cell? ⟨bt,2,none⟩=some (.slice Ab nb cb)∧w.cell? ⟨bt,3,none⟩=some (.slice Ar nr cr)∧w.cell? ⟨bg,0,none⟩=some (.slice (some ag) (m+1) cg)∧w.cell? (ag.add (m*2))=some (.int .i64 g1)∧w.cell? ⟨(ag.add (m*2)).block,(ag.add (m*2)).off+1,none⟩=some (.bool g2)∧w.cell? ap=some (.int .i64 h1)∧w.cell? ⟨ap.block,ap.off+1,none⟩=some (.bool h2)) from qh ⟨f0,f1,f2,f3,f4,f5,f6,e0,e1⟩)
  have hmw:IntKind.i64.wrap ((m:Int)+1 - 1)=(m:Int):=by rw[show (m:Int)+1 - 1=(m:Int) by omega];exact IntWalk.i64_in _ (by omega)
  have hmw2:IntKind.i64.wrap (((m+1:Nat):Int) - 1)=(m:Int):=by rw[show ((m+1:Nat):Int) - 1=(m:Int) by omega];exact IntWalk.i64_in _ (by omega)
  have hmw3:IntKind.i64.wrap (m:Int)=(m:Int):=IntWalk.i64_in _ (by omega)
  have hmz:(m:Int)<(m:Int)+1:=by omega
  have hmq:(0:Int)≤(m:Int)+1:=by omega
  have hmt:((m:Int)+1).toNat=m+1:=by omega
  have hm0:(0:Int)≤(m:Int):=by omega
  clear f0 f1 f2 f3 f4 f5 f6 e0 e1 ea hr hp hg hg0 h hs hbt hbg hgl hhd
  obtain⟨w1,hw1⟩:∃V:World,w.alloc (.cells #[.int .i64 r1,.slice (some ap) n c,.int .i64 r3,.int .i64 r4] 64)=V:=⟨_,rfl⟩
  have kw1:Keep Never w w1:=by rw[←hw1];exact(Keep.refl _ _).alloc _
  have bw1:=Blk.new w 64 #[.int .i64 r1,.slice (some ap) n c,.int .i64 r3,.int .i64 r4]
  rw[hw1] at bw1
  have HB1:=qh bw1
  have HK:=qh kw1
  clear kw1 bw1
  have f0:=keepT HK.out HW0.out.out.1
  have f1:=keepT HK.out HW0.out.out.2.1
  have f2:=keepT HK.out HW0.out.out.2.2.1
  have f3:=keepT HK.out HW0.out.out.2.2.2.1
  have f4:=keepT HK.out HW0.out.out.2.2.2.2.1
  have f5:=keepT HK.out HW0.out.out.2.2.2.2.2.1
  have f6:=keepT HK.out HW0.out.out.2.2.2.2.2.2.1
  have HS2:Hid (∀W',Keep Never w1 W'→Keep Never w1 W'∧W'.cell? ⟨bt,0,none⟩=some (.slice Ae ne ce)∧W'.cell? ⟨bt,1,none⟩=some (.slice Aj nj cj)∧W'.cell? ⟨bt,2,none⟩=some (.slice Ab nb cb)∧W'.cell? ⟨bt,3,none⟩=some (.slice Ar nr cr)∧W'.cell? ⟨bg,0,none⟩=some (.slice (some ag) (m+1) cg)∧W'.cell? (ag.add (m*2))=some (.int .i64 g1)∧W'.cell? ⟨(ag.add (m*2)).block,(ag.add (m*2)).off+1,none⟩=some (.bool g2)):=qh (fun W' h=>⟨h,keepT h f0,keepT h f1,keepT h f2,keepT h f3,keepT h f4,keepT h f5,keepT h f6⟩)
  go_enter Tryz.func42, Tryz.ntmps42
  go_wp2_with fail
  clear f0 f1 f2 f3 f4 f5 f6 hw1
  go_region_held3 (fun W'=>Keep Never w1 W'∧W'.cell? ⟨bt,0,none⟩=some (.slice Ae ne ce)∧W'.cell? ⟨bt,1,none⟩=some (.slice Aj nj cj)∧W'.cell? ⟨bt,2,none⟩=some (.slice Ab nb cb)∧W'.cell? ⟨bt,3,none⟩=some (.slice Ar nr cr)∧W'.cell? ⟨bg,0,none⟩=some (.slice (some ag) (m+1) cg)∧W'.cell? (ag.add (m*2))=some (.int .i64 g1)∧W'.cell? ⟨(ag.add (m*2)).block,(ag.add (m*2)).off+1,none⟩=some (.bool g2))
    (first| assumption | exact HS2.out _ ((Keep.refl Never w1).drew) | exact HS2.out _ (Keep.trans (And.left (by assumption)) hk3) | exact HS2.out _ (Keep.trans ((Keep.refl Never w1).drew) hk3))
    (first
      | (go_at_call 30; refine(HAf.out _ (HK.out.trans (by first | exact And.left (by assumption) | exact(Keep.refl Never w1).drew | exact Keep.refl Never w1)) (g1,g2)).mono ?_;rintro e w3 ⟨A7,n7,c7,rfl,hn7,ho7,hk3⟩;have HO7:=qh ho7;have HN7:=qh hn7;clear ho7 hn7))
  rename_i hS
  have HK3:=qh (HK.out.trans hS.1)
  have HB3:=qh (HB1.out.keep hS.1 (fun h=>h))
  have Hlen:n7≤1000000000:=by have h1:=HN7.out.out;have h2:=after_len t (g1,g2);have h3:=HNe.out;omega
  have HC:=qh (HX.out w3 HK3.out (h1,h2) A7 n7 c7 _ _ HO7.out.rd Hlen)
  have HCg:=qh (fun V hV=>HCf.out V (HK3.out.trans hV) (keepT hV hS.2.2.2.2.2.1))
  have y1:w3.cell? ⟨w.heap.size,1,none⟩=some (.slice (some ap) n c):=HB3.out.cell 1
  have e0:=keepT HK3.out HW0.out.out.2.2.2.2.2.2.2.1
  have e1:=keepT HK3.out HW0.out.out.2.2.2.2.2.2.2.2
  have HS3:=qh hS.2.2.2.2.2.1
  clear hS HX HCf hmw hmw2 hmw3 hmz hmq hmt hm0 hk3 HAf Hlen HS2
  dsimp only at HC
  rw[show decide ((h1,h2)∈afterM t (g1,g2))=(afterM t (g1,g2)).contains (h1,h2) from by rw[List.contains_eq_mem]] at HC
  obtain⟨ca,hca⟩:∃z,(afterM t (g1,g2)).contains (h1,h2)=z:=⟨_,rfl⟩
  obtain⟨cb,hcb⟩:∃z,(rp.any fun u=>overB gone u.1)=z:=⟨_,rfl⟩
  rw[hca,hcb] at HF0
  rw[hca] at HC
  rw[hcb] at HCg
  clear hca hcb
  cases ca with
  | false=>
   go_wp2_with fail
   refine HC.out.mono ?_
   rintro en w4 ⟨rfl,hk⟩
   have HK4:=qtr HK3 hk
   clear hk HC y1 e0 e1
   go_wp2_with fail
   go_ret
   exact⟨by rw[HF0.out];rfl,HK4.out⟩
  | true=>
   go_wp2_with fail
   refine HC.out.mono ?_
   rintro en w4 ⟨rfl,hk⟩
   have HK4:=qtr HK3 hk
   have HC2:=qh (HCg.out w4 hk)
   have y1:w4.cell? ⟨w.heap.size,1,none⟩=some (.slice (some ap) n c):=(HB3.out.keep hk (fun h=>h)).cell 1
   clear hk HC e0 e1 HCg
   go_wp2_with fail
   refine HC2.out.mono ?_
   rintro en w5 ⟨rfl,hk⟩
   have HK5:=qtr HK4 hk
   clear hk HC2 y1
   go_wp2_with fail
   go_ret
   exact⟨by rw[HF0.out];cases cb <;> rfl,HK5.out⟩
end Go.Proofs.YtpapiojicbbheaaGreatDoor

namespace Go.Proofs.YtpapiojicbbheaaGreatDoor
open Go.RowKit
structure ChS (w0 W:World) (x:TA) (bt bl br bo bg:Nat) (Al:Option Addr) (nl cl:Nat) (train:Int) (Ao:Option Addr) (no co:Nat) (Ag:Option Addr) (ng cg:Nat) (out:List Lk) (gone:List Stp):Prop where
  kp:Keep Never w0 W
  ft:Blk W bt 27 x.cs
  fl:Blk W bl 28 #[.slice Al nl cl]
  fr:Blk W br 3 #[.int .i64 train]
  fo:Blk W bo 28 #[.slice Ao no co]
  fg:Blk W bg 35 #[.slice Ag ng cg]
  oo:Own W w0.heap.size 62 3 Ao no co (spCells out)
  og:Own W w0.heap.size 30 2 Ag ng cg (stpCells gone)
  lo:w0.heap.size≤bo∧w0.heap.size≤bg
  ne:bl≠bo
theorem ChS.never {w0 W W':World}{x:TA}{bt bl br bo bg:Nat}{Al:Option Addr}{nl cl:Nat}{train:Int}{Ao:Option Addr}{no co:Nat}{Ag:Option Addr}{ng cg:Nat}{out:List Lk}{gone:List Stp}
    (h:ChS w0 W x bt bl br bo bg Al nl cl train Ao no co Ag ng cg out gone) (hk:Keep Never W W'):ChS w0 W' x bt bl br bo bg Al nl cl train Ao no co Ag ng cg out gone:=
  ⟨h.kp.trans hk,h.ft.keep hk (fun h=>h),h.fl.keep hk (fun h=>h),h.fr.keep hk (fun h=>h),h.fo.keep hk (fun h=>h),h.fg.keep hk (fun h=>h),h.oo.keep hk (fun _ _ h=>h),h.og.keep hk (fun _ _ h=>h),h.lo,h.ne⟩
theorem ChS.out_ {w0 W W2:World}{x:TA}{bt bl br bo bg:Nat}{Al:Option Addr}{nl cl:Nat}{train:Int}{Ao:Option Addr}{no co:Nat}{Ag:Option Addr}{ng cg:Nat}{out:List Lk}{gone:List Stp}{A2:Option Addr}{c2:Nat}{k:Lk}
    (h:ChS w0 W x bt bl br bo bg Al nl cl train Ao no co Ag ng cg out gone) (ho:Own W2 w0.heap.size 62 3 A2 (no+1) c2 (spCells out++[.int .i64 k.1,.int .i64 k.2.1,.int .i64 k.2.2])) (hk:Keep (InRow Ao) W W2) :
    ChS w0 (W2.setCell ⟨bo,0,none⟩ (.slice A2 (no+1) c2)) x bt bl br bo bg Al nl cl train A2 (no+1) c2 Ag ng cg (out++[k]) gone:=by
  have hft:=h.ft.keep hk (fun hi=>h.oo.ne_blk h.ft (by decide) _ hi rfl)
  have hfl:=h.fl.keep hk (fun hi=>h.oo.ne_blk h.fl (by decide) _ hi rfl)
  have hfr:=h.fr.keep hk (fun hi=>h.oo.ne_blk h.fr (by decide) _ hi rfl)
  have hfo:=h.fo.keep hk (fun hi=>h.oo.ne_blk h.fo (by decide) _ hi rfl)
  have hfg:=h.fg.keep hk (fun hi=>h.oo.ne_blk h.fg (by decide) _ hi rfl)
  have hog:=h.og.keep hk (fun q h1 h2=>h.og.ne_own h.oo (by decide) q h1 h2)
  refine⟨(h.kp.then_ hk (fun i hi h1=>by have:=(h.oo.row h1).1;omega)).set_ (p:=⟨bo,0,none⟩) (.inr h.lo.1) _,hft.far (hft.ne_ hfo (by decide)) _,hfl.far h.ne _,hfr.far (hfr.ne_ hfo (by decide)) _,?_,hfg.far (hfg.ne_ hfo (by decide)) _,?_,hog.far (hog.ne_blk hfo (by decide)) _,h.lo,h.ne⟩
  ·have:=hfo.set_ 0 (.slice A2 (no+1) c2)
   simpa using this
  ·rw[spCells_app]
   exact ho.far (ho.ne_blk hfo (by decide)) _
theorem ChS.gone_ {w0 W W2:World}{x:TA}{bt bl br bo bg:Nat}{Al:Option Addr}{nl cl:Nat}{train:Int}{Ao:Option Addr}{no co:Nat}{Ag:Option Addr}{ng cg:Nat}{out:List Lk}{gone:List Stp}{A2:Option Addr}{n2 c2:Nat}{l:List Stp}
    (h:ChS w0 W x bt bl br bo bg Al nl cl train Ao no co Ag ng cg out gone) (ho:Own W2 w0.heap.size 30 2 A2 n2 c2 (stpCells gone++stpCells l)) (hk:Keep (InRow Ag) W W2) :
    ChS w0 (W2.setCell ⟨bg,0,none⟩ (.slice A2 n2 c2)) x bt bl br bo bg Al nl cl train Ao no co A2 n2 c2 out (gone++l):=by
  have hft:=h.ft.keep hk (fun hi=>h.og.ne_blk h.ft (by decide) _ hi rfl)
  have hfl:=h.fl.keep hk (fun hi=>h.og.ne_blk h.fl (by decide) _ hi rfl)
  have hfr:=h.fr.keep hk (fun hi=>h.og.ne_blk h.fr (by decide) _ hi rfl)
  have hfo:=h.fo.keep hk (fun hi=>h.og.ne_blk h.fo (by decide) _ hi rfl)
  have hfg:=h.fg.keep hk (fun hi=>h.og.ne_blk h.fg (by decide) _ hi rfl)
  have hoo:=h.oo.keep hk (fun q h1 h2=>h.og.ne_own h.oo (by decide) q h2 h1)
  refine⟨(h.kp.then_ hk (fun i hi h1=>by have:=(h.og.row h1).1;omega)).set_ (p:=⟨bg,0,none⟩) (.inr h.lo.2) _,hft.far (hft.ne_ hfg (by decide)) _,hfl.far (hfl.ne_ hfg (by decide)) _,hfr.far (hfr.ne_ hfg (by decide)) _,hfo.far (hfo.ne_ hfg (by decide)) _,?_,hoo.far (hoo.ne_blk hfg (by decide)) _,?_,h.lo,h.ne⟩
  ·have:=hfg.set_ 0 (.slice A2 n2 c2)
   simpa using this
  ·rw[stpCells_app]
   exact ho.far (ho.ne_blk hfg (by decide)) _
def ChX (w0 W:World) (x:TA) (bt bl br bo bg:Nat) (Al:Option Addr) (nl cl:Nat) (train:Int) (out:List Lk) (gone:List Stp):Prop:=
  ∃Ao no co Ag ng cg,no=out.length∧ng=gone.length∧ChS w0 W x bt bl br bo bg Al nl cl train Ao no co Ag ng cg out gone
def NextRet (w0:World) (x:TA) (bt bl br bo bg:Nat) (Al:Option Addr) (nl cl:Nat) (train:Int) (out:List Lk) (gone:List Stp) (o:Option (Lk×Rt)) (e:Ending) (w':World):Prop:=
  e=.returned (.bool o.isSome)∧match o with
   | none=>ChX w0 w' x bt bl br bo bg Al nl cl train out gone
   | some z=>ChX w0 w' x bt bl br bo bg Al nl cl train (out++[z.1]) (gone++z.2.2.1)
def PredRo (g:Nat) (lb:Array Value) (t:Tp) (p:Rt→Bool) (w:World):Prop:=
  ∀(W:World) (r:Rt) (A:Option Addr) (n c:Nat),Keep Never w W→r∈t.2.2.2→Rd W W.heap.size 2 A n (stpCells r.2.1)→Calls Tryz.prog g (#[rtA r A n c]++lb) W fun e w'=>e=.returned (.bool (p r))∧Keep Never W w'
theorem find_at17 {α β:Type}{f:α→Option β}{l:List α}{k:Nat}{s:α}{z:β} (h0:∀x∈l.take k,f x=none) (h1:l[k]?=some s) (h2:f s=some z):l.findSome? f=some z:=by
 have e:l=l.take k++s::l.drop (k+1):=by
  obtain⟨hk,hs⟩:=List.getElem?_eq_some_iff.1 h1
  rw[←hs,List.getElem_cons_drop,List.take_append_drop]
 rw[e,List.findSome?_append,List.findSome?_eq_none_iff.2 h0,List.findSome?_cons,h2]
 rfl
theorem find_no17 {α β:Type}{f:α→Option β}{l:List α} (h:∀x∈l,f x=none):l.findSome? f=none:=List.findSome?_eq_none_iff.2 h
theorem take_next {α:Type}{l:List α}{k:Nat}{s:α} (h:l[k]?=some s) {P:α→Prop} (h0:∀x∈l.take k,P x) (hs:P s):∀x∈l.take (k+1),P x:=by
 intro x hx
 rw[List.take_add_one,h] at hx
 rcases List.mem_append.1 hx with hx | hx
 ·exact h0 x hx
 ·simp at hx;subst hx;exact hs
theorem next_none {t:Tp}{train:Int}{out:List Lk}{may:Rt→Bool}{k:Lk} (h:rtM t.2.2.2 k.1=none):nextK t train out may k=none:=by unfold nextK;rw[h]
theorem next_eq {t:Tp}{train:Int}{out:List Lk}{may:Rt→Bool}{k:Lk}{r:Rt} (h:rtM t.2.2.2 k.1=some r):nextK t train out may k=if (k.2.1==train&&!(out.contains k)&&may r)=true then some (k,r) else none:=by unfold nextK;rw[h]
set_option maxHeartbeats 8000000 in
set_option maxRecDepth 100000 in
theorem ch1_any (g:Nat) (lb:Array Value) (p:Rt→Bool) (eg:∀args w,(callFunc g args).run Tryz.prog w=.ok (.enter g args) w) (x:TA) (t:Tp) (B:Nat) (Al:Option Addr) (nl cl:Nat) (l:List Lk) (train:Int) (w0 w:World) (bt bl br bo bg:Nat) (out:List Lk) (gone:List Stp) (h:TpAt w B x t) (hs:TpSmall x t) (hB:B≤w.heap.size) (hl:SpAt w0 B Al nl cl l) (hnl:nl≤1000000) (h8:out.length≤100) (hg9:gone.length≤10000) (hX:ChX w0 w x bt bl br bo bg Al nl cl train out gone) (hm:PredRo g lb t p w) :
    Calls Tryz.prog 40 #[.func (.func g) #[] lb,.pointer (some ⟨bl,0,none⟩),.pointer (some ⟨bt,0,none⟩),.pointer (some ⟨br,0,none⟩),.pointer (some ⟨bo,0,none⟩),.pointer (some ⟨bg,0,none⟩)] w (NextRet w0 x bt bl br bo bg Al nl cl train out gone (l.findSome? (nextK t train out p))):=by
  obtain⟨Ao,no,co,Ag,ng,cg,hno,hng,hS⟩:=hX
  have HRt:=qh (fun (W:World) (hk:Keep Never w W) (id:Int)=>route_own x t B id W (h.keep hk) hs.r hs.p (Nat.le_trans hB hk.size))
  have HCo:=qh (fun (W:World) (k:Lk) (hr:Rd W W.heap.size 3 Ao no (spCells out))=>kcontains_any Ao no co W.heap.size out k W hr (by omega))
  have HL:=qh hl
  have HLn:Hid (l.length=nl):=qh hl.len
  have HM:=qh hm
  have HS0:=qh hS
  have HNo:=qh hno
  have HNg:=qh hng
  have HSp:=qh hs.p
  obtain⟨Ae,ne,ce,Aj,nj,cj,Ab,nb,cb,Ar,nr,cr⟩:=x
  simp only[TA.cs] at HRt
  have hno8:no≤100:=by omega
  have hng9:ng≤10000:=by omega
  clear h hs hl hm hS hno hng
  have xl:w.cell? ⟨bl,0,none⟩=some (.slice Al nl cl):=HS0.out.fl.cell 0
  go_enter Tryz.func40, Tryz.ntmps40
  go_wp2_with fail
  clear xl
  go_loopw [14] (fun si wr=>∃k:Nat,k≤nl∧si=.int .i64 k∧Hid (Keep Never w wr∧∀s∈l.take k,nextK t train out p s=none)) (fun si _=>nl - (intOf si).toNat)
  case atStart=>exact⟨0,by omega,rfl,qh ⟨Keep.refl _ _,by simp⟩⟩
  case round=>
   obtain⟨k,hk,rfl,HH⟩:=hrel
   by_cases h0:k<nl
   ·have hkz:(k:Int)<(nl:Int):=by omega
    have HSr:=qh (HS0.out.never HH.out.1)
    obtain⟨ad,s,hA,_,hs,c0,c1,c2⟩:=(HL.out.keep (HS0.out.kp.trans HH.out.1)).rd.sp h0
    subst hA
    have Hs:=qh hs
    obtain⟨k1,k2,k3⟩:=s
    simp only at c0 c1 c2
    clear hs
    obtain⟨w4,hw4⟩:∃V:World,wr.alloc (.cells #[.int .i64 k1,.int .i64 k2,.int .i64 k3] 62)=V:=⟨_,rfl⟩
    have k4:Keep Never wr w4:=by rw[←hw4];exact(Keep.refl _ _).alloc _
    have B4:=Blk.new wr 62 #[.int .i64 k1,.int .i64 k2,.int .i64 k3]
    rw[hw4] at B4
    obtain⟨bk,hbk⟩:∃q,wr.heap.size=q:=⟨_,rfl⟩
    rw[hbk] at B4
    have HB4:=qh B4
    have HS4:=qh (HSr.out.never k4)
    have HK4:=qh (HH.out.1.trans k4)
    obtain⟨b0,b1,b2⟩:=bc3 HB4.out
    have hw:=HRt.out w4 HK4.out k1
    obtain⟨o,ho⟩:∃z,rtM t.2.2.2 k1=z:=⟨_,rfl⟩
    rw[ho] at hw
    have HC:=qh hw
    have HO:=qh ho
    clear B4 k4 hw ho
    obtain⟨y0,y1,y2,y3⟩:=bc4 HS4.out.ft
    go_wp2_with fail
    refine HC.out.mono ?_
    rintro en w5 ⟨A5,n5,c5,rfl,hz5,ho5,hin5,hk5⟩
    have HS5:=qh (HS4.out.never hk5)
    have HK5:=qtr HK4 hk5
    have HB5:=qkb HB4 hk5
    have HO5:=qh ho5
    clear hk5 HC y0 y1 y2 y3 b0 b1 b2 c0 c1 c2 ho5 hin5
    cases o with
    | none=>
     have HF:Hid (nextK t train out p (k1,k2,k3)=none):=qh (next_none HO.out)
     simp only[Option.getD,Option.isSome] at HO5 ⊢
     obtain⟨e1,e2,e3⟩:=hz5 rfl
     subst e1 e2 e3
     have HK6:=qh (HK5.out.trans ((Keep.refl Never w5).alloc (.cells #[.int .i64 0,.slice none 0 0,.int .i64 0,.int .i64 0] 64)))
     have b1:(w5.alloc (.cells #[.int .i64 0,.slice none 0 0,.int .i64 0,.int .i64 0] 64)).cell? ⟨bk,1,none⟩=some (.int .i64 k2):=(HB5.out.alloc (.cells #[.int .i64 0,.slice none 0 0,.int .i64 0,.int .i64 0] 64)).cell 1
     have xr:(w5.alloc (.cells #[.int .i64 0,.slice none 0 0,.int .i64 0,.int .i64 0] 64)).cell? ⟨br,0,none⟩=some (.int .i64 train):=(HS5.out.fr.alloc (.cells #[.int .i64 0,.slice none 0 0,.int .i64 0,.int .i64 0] 64)).cell 0
     clear hz5
     by_cases g0:k2=train
     ·have t0:(k2 != train)=false:=by simpa using g0
      clear g0
      go_wp2_with fail
      refine⟨⟨k+1,by omega,by go_num,qh ⟨HK6.out,take_next Hs.out HH.out.2 HF.out⟩⟩,?_⟩
      simp[intOf];try omega
     ·have t0:(k2 != train)=true:=by simpa using g0
      clear g0
      go_wp2_with fail
      refine⟨⟨k+1,by omega,by go_num,qh ⟨HK6.out,take_next Hs.out HH.out.2 HF.out⟩⟩,?_⟩
      simp[intOf];try omega
    | some r=>
     obtain⟨r1,rp,r3,r4⟩:=r
     clear hz5
     have HNx:=qh (next_eq (train:=train) (out:=out) (may:=p) (k:=(k1,k2,k3)) HO.out)
     have HRm:Hid (((r1,rp,r3,r4):Rt)∈t.2.2.2):=qh (List.mem_of_find?_eq_some HO.out)
     simp only[Option.getD,Option.isSome] at HO5 ⊢
     have hn5:n5≤100000000:=by have h1:=HSp.out _ HRm.out;have h2:=HO5.out.len;rw[len_stpCells] at h2;simp only at h1;omega
     have HN5:Hid (n5=rp.length):=qh (by have h2:=HO5.out.len;rw[len_stpCells] at h2;omega)
     obtain⟨w6,hw6⟩:∃V:World,w5.alloc (.cells #[.int .i64 r1,.slice A5 n5 c5,.int .i64 r3,.int .i64 r4] 64)=V:=⟨_,rfl⟩
     have k6:Keep Never w5 w6:=by rw[←hw6];exact(Keep.refl _ _).alloc _
     have B6:=Blk.new w5 64 #[.int .i64 r1,.slice A5 n5 c5,.int .i64 r3,.int .i64 r4]
     rw[hw6] at B6
     obtain⟨bq,hbq⟩:∃q,w5.heap.size=q:=⟨_,rfl⟩
     rw[hbq] at B6
     have HB6:=qkb HB5 k6
     have HR6:=qh B6
     have HS6:=qh (HS5.out.never k6)
     have HK6:=qtr HK5 k6
     have HO6:=qko HO5 k6
     obtain⟨b0,b1,b2⟩:=bc3 HB6.out
     have xr:w6.cell? ⟨br,0,none⟩=some (.int .i64 train):=HS6.out.fr.cell 0
     have xo:w6.cell? ⟨bo,0,none⟩=some (.slice Ao no co):=HS6.out.fo.cell 0
     clear k6 B6
     by_cases g0:k2=train
     case neg=>
      have t0:(k2 != train)=true:=by simpa using g0
      have HF:Hid (nextK t train out p (k1,k2,k3)=none):=qh (by rw[HNx.out,if_neg (by simp[g0])])
      clear g0
      go_wp2_with fail
      refine⟨⟨k+1,by omega,by go_num,qh ⟨HK6.out,take_next Hs.out HH.out.2 HF.out⟩⟩,?_⟩
      simp[intOf];try omega
     have t0:(k2 != train)=false:=by simpa using g0
     have HC:=qh (HCo.out w6 (k1,k2,k3) HS6.out.oo.rd)
     dsimp only at HC
     rw[show decide (((k1,k2,k3):Lk)∈out)=out.contains (k1,k2,k3) from by rw[List.contains_eq_mem]] at HC
     obtain⟨cb,hcb⟩:∃z,out.contains ((k1,k2,k3):Lk)=z:=⟨_,rfl⟩
     rw[hcb] at HC HNx
     have HG0:=qh g0
     clear hcb g0
     go_wp2_with fail
     refine HC.out.mono ?_
     rintro en w7 ⟨rfl,hk7⟩
     have HB7:=qkb HB6 hk7
     have HR7:=qkb HR6 hk7
     have HS7:=qh (HS6.out.never hk7)
     have HK7:=qtr HK6 hk7
     have HO7:=qko HO6 hk7
     clear hk7 HC b0 b1 b2 xr xo t0
     cases cb with
     | true=>
      have HF:Hid (nextK t train out p (k1,k2,k3)=none):=qh (by rw[HNx.out,if_neg (by simp)])
      go_wp2_with fail
      refine⟨⟨k+1,by omega,by go_num,qh ⟨HK7.out,take_next Hs.out HH.out.2 HF.out⟩⟩,?_⟩
      simp[intOf];try omega
     | false=>
     have HC:=qh (HM.out w7 (r1,rp,r3,r4) A5 n5 c5 HK7.out HRm.out HO7.out.rd)
     unfold rtA at HC
     dsimp only at HC
     obtain⟨pb,hpb⟩:∃z,p (r1,rp,r3,r4)=z:=⟨_,rfl⟩
     rw[hpb] at HC HNx
     clear hpb
     cases pb with
     | false=>
      have HF:Hid (nextK t train out p (k1,k2,k3)=none):=qh (by rw[HNx.out,if_neg (by simp)])
      obtain⟨q0,q1,q2,q3⟩:=bc4 HR7.out
      go_wp2_with (go_at_fn g;refine HC.out.mono ?_;rintro e w8 ⟨rfl,hk8⟩;have HB8:=qkb HB7 hk8;have HR8:=qkb HR7 hk8;have HS8:=qh (HS7.out.never hk8);have HK8:=qtr HK7 hk8;have HO8:=qko HO7 hk8;clear hk8 q0 q1 q2 q3)
      clear HC
      go_wp2_with fail
      refine⟨⟨k+1,by omega,by go_num,qh ⟨HK8.out,take_next Hs.out HH.out.2 HF.out⟩⟩,?_⟩
      simp[intOf];try omega
     | true=>
      have HF:Hid (nextK t train out p (k1,k2,k3)=some ((k1,k2,k3),(r1,rp,r3,r4))):=qh (by rw[HNx.out,if_pos (by simp[HG0.out])])
      have HFF:Hid (l.findSome? (nextK t train out p)=some ((k1,k2,k3),(r1,rp,r3,r4))):=qh (find_at17 HH.out.2 Hs.out HF.out)
      obtain⟨q0,q1,q2,q3⟩:=bc4 HR7.out
      go_upto_region 6 with(go_at_fn g;refine HC.out.mono ?_;rintro e w8 ⟨rfl,hk8⟩;have HB8:=qkb HB7 hk8;have HR8:=qkb HR7 hk8;have HS8:=qh (HS7.out.never hk8);have HK8:=qtr HK7 hk8;have HO8:=qko HO7 hk8;clear hk8 q0 q1 q2 q3)
      clear HC
      have xo:w8.cell? ⟨bo,0,none⟩=some (.slice Ao no co):=HS8.out.fo.cell 0
      obtain⟨b0,b1,b2⟩:=bc3 HB8.out
      have hz8:w0.heap.size≤w8.heap.size:=HS8.out.kp.size
      go_upto_region 7 with(at_builtin;refine wpList_app _ rfl (.tmp 44) (.tmp 46) _ rfl elemLk w0.heap.size (A:=Ao) (n:=no) (c:=co) (by go_simp) (HS8.out.oo.alloc _) _ (A':=some ⟨_,0,none⟩) (m:=1) (c':=1) (news:=[.int .i64 k1,.int .i64 k2,.int .i64 k3]) (by go_simp) (Rd.of_blk (n:=1) (cs:=[.int .i64 k1,.int .i64 k2,.int .i64 k3]) (Blk.new _ _ _) rfl) (by simp[Value.oneCell']) (by omega) (by unfold maxLen;omega) (by simp;omega) ?_;intro A9 c9 w9 hown hk9 hrow9;have HO9:=qh hown;have HK9:=qh (((Keep.refl (InRow Ao) w8).alloc _).trans hk9);have HF9:=qh (HS8.out.fo.keep HK9.out (fun hi=>HS8.out.oo.ne_blk HS8.out.fo (by decide) _ hi rfl));have xo9:w9.cell? ⟨bo,0,none⟩=some (.slice Ao no co):=HF9.out.cell 0;have xf9:=HF9.out.frozen 0;clear hown hk9 hrow9 xo b0 b1 b2)
      obtain⟨w10,hw10⟩:∃V:World,w9.setCell ⟨bo,0,none⟩ (.slice A9 (no+1) c9)=V:=⟨_,rfl⟩
      rw[hw10]
      have HS10:=qh (HS8.out.out_ (k:=(k1,k2,k3)) HO9.out HK9.out)
      rw[hw10] at HS10
      have kb:Keep (fun q=>q=bo) w9 w10:=by rw[←hw10];exact(Keep.refl (fun q=>q=bo) w9).set_ (p:=⟨bo,0,none⟩) (.inl rfl) _
      have HO9b:=qh (HO8.out.keep HK9.out (fun q h1 h2=>HO8.out.ne_own HS8.out.oo (by decide) q h1 h2))
      have HO10:=qh (HO9b.out.keep kb (fun q h1 h2=>HO9b.out.ne_blk HF9.out (by decide) q h1 h2))
      have HR9:=qh (HR8.out.keep HK9.out (fun hi=>HS8.out.oo.ne_blk HR8.out (by decide) _ hi rfl))
      have HR10:=qh (HR9.out.keep kb (HR9.out.ne_ HF9.out (by decide)))
      have xg:w10.cell? ⟨bg,0,none⟩=some (.slice Ag ng cg):=HS10.out.fg.cell 0
      have q1:w10.cell? ⟨bq,1,none⟩=some (.slice A5 n5 c5):=HR10.out.cell 1
      have hz10:w0.heap.size≤w10.heap.size:=HS10.out.kp.size
      have HRp:=qh HO10.out.rd
      clear hw10 kb xo9 xf9 hz8
      go_wp2_with (at_builtin;refine wpList_app _ rfl (.tmp 48) (.tmp 50) _ rfl elemStp w0.heap.size (A:=Ag) (n:=ng) (c:=cg) (by go_simp) HS10.out.og _ (A':=A5) (m:=n5) (c':=c5) (by go_simp) HRp.out (stpCells_one _) (by omega) (by unfold maxLen;omega) hz10 ?_;intro A11 c11 w11 hown hk11 hrow11;have HO11:=qh hown;have HK11:=qh hk11;have HG11:=qh (HS10.out.fg.keep hk11 (fun hi=>HS10.out.og.ne_blk HS10.out.fg (by decide) _ hi rfl));have xg11:w11.cell? ⟨bg,0,none⟩=some (.slice Ag ng cg):=HG11.out.cell 0;have xf11:=HG11.out.frozen 0;clear hown hk11 hrow11 xg q1)
      go_ret
      refine⟨by rw[HFF.out];rfl,?_⟩
      rw[HFF.out]
      refine⟨A9,no+1,c9,A11,ng+n5,c11,by rw[HNo.out];simp,by rw[HNg.out,HN5.out];simp,?_⟩
      exact HS10.out.gone_ HO11.out HK11.out
   ·obtain rfl:k=nl:=by omega
    have hkz:¬(k:Int)<(k:Int):=by omega
    have HF:Hid (l.findSome? (nextK t train out p)=none):=qh (find_no17 (fun s hs=>HH.out.2 s (by rw[List.take_of_length_le (by rw[HLn.out];exact Nat.le_refl _)];exact hs)))
    go_wp2_with fail
    go_ret
    refine⟨by rw[HF.out];rfl,?_⟩
    rw[HF.out]
    exact⟨Ao,no,co,Ag,ng,cg,HNo.out,HNg.out,HS0.out.never HH.out.1⟩
end Go.Proofs.YtpapiojicbbheaaGreatDoor
