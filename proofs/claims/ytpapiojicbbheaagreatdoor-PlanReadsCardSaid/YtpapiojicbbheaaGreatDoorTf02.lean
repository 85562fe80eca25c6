/- Texts of this claim, together: TopE, TopN, TopF, SpnJ, SpnL, SpnR, TopH, TopO, TopP, TopQ. -/
import Derived.Test.YtpapiojicbbheaaGreatDoorTf01
import Derived.StillTailTactics
import Derived.Lib.AppendZerosOnto
import Derived.RangeFuncNested
import Derived.RangeFuncBound
import Derived.RangeFuncCalls
import Derived.RangeFuncLeaves
import Derived.OwnWalkIn
import Derived.TacticsInMore
import Derived.LoopNIn
import Derived.LoopIn
import Derived.Laws.EntriesVeiled
import Derived.Test.YtpapiojicbbheaaGreatDoorTf00
import Derived.IntWalk
namespace Go.Proofs.YtpapiojicbbheaaGreatDoor
open Go.RowKit
def okAt (J:List Jt) (p:List Stp) (k:Nat):Bool:=match p[k]?,p[k+1]? with | some s,some u=>mayJ J s u | _,_=>true
def wayM (J:List Jt) (p:List Stp):Bool:=(List.range (p.length - 1)).all (okAt J p)
theorem wayM_t {J:List Jt}{p:List Stp} (h:∀k,k+1<p.length→okAt J p k=true):wayM J p=true:=by
 unfold wayM
 rw[List.all_eq_true]
 intro k hk
 rw[List.mem_range] at hk
 exact h k (by omega)
theorem wayM_f {J:List Jt}{p:List Stp}{k:Nat} (hk:k+1<p.length) (h:okAt J p k=false):wayM J p=false:=by
 unfold wayM
 rw[List.all_eq_false]
 exact⟨k,List.mem_range.2 (by omega),by rw[h];simp⟩
theorem okAt_eq {J:List Jt}{p:List Stp}{k:Nat}{s u:Stp} (h1:p[k]?=some s) (h2:p[k+1]?=some u):okAt J p k=mayJ J s u:=by unfold okAt;rw[h1,h2]
set_option maxHeartbeats 4000000 in
set_option maxRecDepth 100000 in
theorem way_any (x:TA) (t:Tp) (B:Nat) (A:Option Addr) (n c:Nat) (p:List Stp) (w:World) (ht:TpAt w B x t) (hp:repStp.Sl w B A n c p) (hn:x.nj≤100000000) (hn2:n≤100000000) :
    Calls Tryz.prog 174 #[.agg x.cs,.slice A n c] w fun e w'=>e=.returned (.bool (wayM t.2.1 p))∧Keep Never w w':=by
  have HM:Hid (∀(a b:Stp) (w':World),Keep Never w w'→Calls Tryz.prog 205 #[.agg x.cs,.agg #[.int .i64 a.1,.bool a.2],.agg #[.int .i64 b.1,.bool b.2]] w' fun e w''=>e=.returned (.bool (mayJ t.2.1 a b))∧Keep Never w' w''):=qh (fun a b w' h=>mayj_any x t B a b w' (ht.keep h) hn)
  have HPl:Hid (n=p.length):=qh hp.len
  obtain⟨Ae,ne,ce,Aj,nj,cj,Ab,nb,cb,Ar,nr,cr⟩:=x
  simp only[TA.cs] at HM ⊢
  obtain⟨wb,hwb⟩:∃wb:World,w.alloc (.cells #[.slice Ae ne ce,.slice Aj nj cj,.slice Ab nb cb,.slice Ar nr cr] 27)=wb:=⟨_,rfl⟩
  have k1:Keep Never w wb:=by rw[←hwb];exact(Keep.refl _ _).alloc _
  have b1':=Blk.new w 27 #[.slice Ae ne ce,.slice Aj nj cj,.slice Ab nb cb,.slice Ar nr cr]
  rw[hwb] at b1'
  have HB:=qh b1'
  have HK:=qh k1
  have HP:=qh (hp.keep k1 (fun _ h=>h.elim))
  clear k1 b1' hp ht
  go_enter Tryz.func174, Tryz.ntmps174
  go_wp2_with fail
  go_loopw [5] (fun i wr=>∃q:Nat,1≤q∧q≤n+1∧i=.int .i64 q∧Hid (Keep Never wb wr∧∀k,k+1<q→k+1<n→okAt t.2.1 p k=true)) (fun i _=>n+1 - (intOf i).toNat)
  case atStart=>exact⟨1,by omega,by omega,rfl,qh ⟨Keep.refl _ _,fun k h=>by omega⟩⟩
  case round=>
   obtain⟨q,hq1,hq,rfl,HH⟩:=hrel
   by_cases h0:q<n
   ·obtain⟨q0,hq0⟩:∃q0,q=q0+1:=⟨q - 1,by omega⟩
    obtain⟨ad,s,hA,hab,hs,c0,c1,_⟩:=stp_at (HP.out.keep HH.out.1 (fun _ h=>h.elim)) (i:=q0) (by omega)
    obtain⟨ad',u,hA',hab',hu,d0,d1,_⟩:=stp_at (HP.out.keep HH.out.1 (fun _ h=>h.elim)) h0
    subst hA
    obtain rfl:ad=ad':=by injection hA'
    have hqz:(q:Int)<(n:Int):=by omega
    have HOk:Hid (okAt t.2.1 p q0=mayJ t.2.1 s u):=qh (okAt_eq hs (by rw[←hq0];exact hu))
    have hbb:=HB.out.keep HH.out.1 (fun h=>h)
    obtain⟨y0,y1,y2,y3⟩:=bc4 hbb
    have HMa:=qh (HM.out s u)
    obtain⟨s1,s2⟩:=s
    obtain⟨u1,u2⟩:=u
    simp only at c0 c1 d0 d1 HMa
    have HKw:=qh (HK.out.trans HH.out.1)
    have Hq0:=qh hq0
    have z1:q0<n:=by omega
    have z2:(q0:Int)<(n:Int):=by omega
    have z3:(0:Int)≤(q0:Int):=by omega
    have z4:(q:Int) - 1=(q0:Int):=by omega
    have z5:IntKind.i64.wrap ((q:Int) - 1)=(q0:Int):=by rw[z4];exact IntWalk.i64_in _ (by omega)
    have z6:IntKind.i64.wrap (q0:Int)=(q0:Int):=IntWalk.i64_in _ (by omega)
    generalize mayJ t.2.1 (s1,s2) (u1,u2)=mb at HMa HOk
    clear hs hu hab hab' hbb hq0 HM
    go_wp2_with fail
    go_region_held3 (fun w'=>Keep Never wr w'∧w'.cell? ⟨w.heap.size,0,none⟩=some (.slice Ae ne ce)∧w'.cell? ⟨w.heap.size,1,none⟩=some (.slice Aj nj cj)∧w'.cell? ⟨w.heap.size,2,none⟩=some (.slice Ab nb cb)∧w'.cell? ⟨w.heap.size,3,none⟩=some (.slice Ar nr cr)∧w'.cell? (ad.add (q0*2))=some (.int .i64 s1)∧w'.cell? ⟨(ad.add (q0*2)).block,(ad.add (q0*2)).off+1,none⟩=some (.bool s2)∧w'.cell? (ad.add (q*2))=some (.int .i64 u1)∧w'.cell? ⟨(ad.add (q*2)).block,(ad.add (q*2)).off+1,none⟩=some (.bool u2))
      (first| assumption | exact⟨(Keep.refl Never wr).drew,y0,y1,y2,y3,c0,c1,d0,d1⟩ | exact held8_next (by assumption) hk')
      (first
        | (go_at_call 205; refine(HMa.out _ (HKw.out.trans (by first | exact(Keep.refl Never wr).drew | exact And.left (by assumption)))).mono ?_;rintro e w' ⟨rfl,hk'⟩))
    rename_i hS
    have HKe:=qh (HH.out.1.trans (And.left hS))
    have HHo:=qh HH.out.2
    clear hS y0 y1 y2 y3 c0 c1 d0 d1 z1 z2 z3 z4 z5 z6 HMa HH
    cases mb with
    | true=>
     go_wp2_with fail
     refine⟨⟨q+1,by omega,by omega,by go_num,qh ⟨HKe.out,fun k h1 h2=>?_⟩⟩,?_⟩
     ·by_cases hk:k+1<q
      ·exact HHo.out k hk h2
      ·obtain rfl:k=q0:=by have:=Hq0.out;omega
       exact HOk.out
     ·simp[intOf];try omega
    | false=>
     have HF:Hid (wayM t.2.1 p=false):=qh (wayM_f (k:=q0) (by rw[←Hq0.out,←HPl.out];exact h0) HOk.out)
     go_wp2_with fail
     go_ret
     exact⟨by rw[HF.out];rfl,HK.out.trans HKe.out⟩
   ·have hqz:¬(q:Int)<(n:Int):=by omega
    have HF:Hid (wayM t.2.1 p=true):=qh (wayM_t fun k h=>HH.out.2 k (by have:=HPl.out;omega) (by have:=HPl.out;omega))
    go_wp2_with fail
    go_ret
    exact⟨by rw[HF.out];rfl,HK.out.trans HH.out.1⟩
def sumM (es:List Int) (p:List Stp):Int:=p.foldl (fun n s=>IntKind.i64.wrap (n+es.getD s.1.toNat 0)) 0
def lenM (t:Tp) (p:List Stp):Int×Int:=
  if p.length=0∨40<p.length then (0,1) else if p.all (fun s=>thereB t.1.length s.1)=true then (if wayM t.2.1 p=true then (sumM t.1 p,0) else (0,141)) else (0,1)
theorem sumM_take {es:List Int}{p:List Stp}{k:Nat}{s:Stp} (h:p[k]?=some s):sumM es (p.take (k+1))=IntKind.i64.wrap (sumM es (p.take k)+es.getD s.1.toNat 0):=by
 unfold sumM
 rw[List.take_add_one,h]
 simp[List.foldl_append]
set_option maxHeartbeats 4000000 in
set_option maxRecDepth 100000 in
theorem length_any (x:TA) (t:Tp) (B:Nat) (A:Option Addr) (n c:Nat) (p:List Stp) (w:World) (ht:TpAt w B x t) (hp:repStp.Sl w B A n c p) (hn:x.nj≤100000000) (hn2:n≤100000000) :
    Calls Tryz.prog 133 #[.agg x.cs,.slice A n c] w fun e w'=>e=.returned (.tuple #[.int .i64 (lenM t p).1,.int .i64 (lenM t p).2])∧Keep Never w w':=by
  have HW:Hid (∀(w':World),Keep Never w w'→Calls Tryz.prog 174 #[.agg x.cs,.slice A n c] w' fun e w''=>e=.returned (.bool (wayM t.2.1 p))∧Keep Never w' w''):=qh (fun w' h=>way_any x t B A n c p w' (ht.keep h) (hp.keep h (fun _ h=>h.elim)) hn hn2)
  have HT:=qh (fun i W=>there_any x i W)
  have HE:=qh ht.e
  have HPl:Hid (n=p.length):=qh hp.len
  have HEl:Hid (x.ne=t.1.length):=qh ht.e.len
  obtain⟨Ae,ne,ce,Aj,nj,cj,Ab,nb,cb,Ar,nr,cr⟩:=x
  simp only[TA.cs] at HW HT HE HEl ⊢
  obtain⟨wb,hwb⟩:∃wb:World,w.alloc (.cells #[.slice Ae ne ce,.slice Aj nj cj,.slice Ab nb cb,.slice Ar nr cr] 27)=wb:=⟨_,rfl⟩
  have k1:Keep Never w wb:=by rw[←hwb];exact(Keep.refl _ _).alloc _
  have b1':=Blk.new w 27 #[.slice Ae ne ce,.slice Aj nj cj,.slice Ab nb cb,.slice Ar nr cr]
  rw[hwb] at b1'
  have HB:=qh b1'
  have HK:=qh k1
  have HP:=qh (hp.keep k1 (fun _ h=>h.elim))
  have HEb:=qh (HE.out.keep k1 (fun _ h=>h.elim))
  clear k1 b1' hp ht HE
  by_cases hz:n=0∨40<n
  ·have HF:Hid (lenM t p=(0,1)):=qh (by unfold lenM;rw[if_pos (by rw[←HPl.out];exact hz)])
   rw[HF.out]
   by_cases h0:n=0
   ·have t0:((n:Int)==0)=true:=by simp[h0]
    clear hz h0
    go_enter Tryz.func133, Tryz.ntmps133
    go_wp2_with fail
    go_ret2
    exact⟨rfl,HK.out⟩
   ·have t0:((n:Int)==0)=false:=by simp;omega
    have t1:decide ((n:Int)>40)=true:=by simp;omega
    clear hz h0
    go_enter Tryz.func133, Tryz.ntmps133
    go_wp2_with fail
    go_ret2
    exact⟨rfl,HK.out⟩
  ·have t0:((n:Int)==0)=false:=by simp;omega
   have t1:decide ((n:Int)>40)=false:=by simp;omega
   have HNz:=qh hz
   clear hz
   go_enter Tryz.func133, Tryz.ntmps133
   go_wp2_with fail
   go_loopw [6,8,19] (fun sv _ i wr=>∃k:Nat,k≤n∧i=.int .i64 k∧sv=.int .i64 (sumM t.1 (p.take k))∧Hid (Keep Never wb wr∧∀s∈p.take k,thereB ne s.1=true)) (fun _ _ i _=>n - (intOf i).toNat)
   case atStart=>exact⟨0,by omega,rfl,rfl,qh ⟨Keep.refl _ _,by simp⟩⟩
   case round=>
    obtain⟨k,hk,rfl,rfl,HH⟩:=hrel
    by_cases h0:k<n
    ·have hkz:(k:Int)<(n:Int):=by omega
     obtain⟨ad,s,hA,hab,hs,c0,c1,_⟩:=stp_at (HP.out.keep HH.out.1 (fun _ h=>h.elim)) h0
     subst hA
     obtain⟨s1,s2⟩:=s
     simp only at c0 c1
     have HSm:Hid (sumM t.1 (p.take (k+1))=IntKind.i64.wrap (sumM t.1 (p.take k)+t.1.getD s1.toNat 0)):=qh (sumM_take hs)
     have HSk:=qh hs
     have HTk:Hid (p.take (k+1)=p.take k++[(s1,s2)]):=qh (by
      obtain⟨h2,h3⟩:=List.getElem?_eq_some_iff.1 hs
      rw[List.take_succ_eq_append_getElem h2,h3])
     generalize sumM t.1 (p.take k)=S at *
     obtain⟨w2,hw2⟩:∃w2:World,wr.alloc (.cells #[.int .i64 s1,.bool s2] 30)=w2:=⟨_,rfl⟩
     have k2:Keep Never wr w2:=by rw[←hw2];exact(Keep.refl _ _).alloc _
     have b2:=Blk.new wr 30 #[.int .i64 s1,.bool s2]
     rw[hw2] at b2
     have HB2:=qh b2
     have HK2:=qh (HH.out.1.trans k2)
     have HAl:=qh HH.out.2
     have z0:w2.cell? ⟨wr.heap.size,0,none⟩=some (.int .i64 s1):=b2.cell 0
     have hbb:=HB.out.keep HK2.out (fun h=>h)
     obtain⟨y0,y1,y2,y3⟩:=bc4 hbb
     have HTs:=qh (HT.out s1 w2)
     cases htb:thereB ne s1 with
     | false=>
      have HF:Hid (lenM t p=(0,1)):=qh (by
       unfold lenM
       rw[if_neg (by rw[←HPl.out];exact HNz.out),if_neg]
       rw[List.all_eq_true]
       intro h
       have:=h _ (List.mem_of_getElem? HSk.out)
       rw[←HEl.out,htb] at this
       cases this)
      have HTf:Hid (Calls Tryz.prog 84 #[.agg #[.slice Ae ne ce,.slice Aj nj cj,.slice Ab nb cb,.slice Ar nr cr],.int .i64 s1] w2 fun e w'=>e=.returned (.bool false)∧Keep Never w2 w'):=by have h:=HTs.out;rw[htb] at h;exact h
      clear hs hab k2 b2 hbb HTs htb HSm
      go_wp2_with fail
      refine HTf.out.mono ?_
      rintro e w3 ⟨rfl,hk3⟩
      have HK3:=qtr HK2 hk3
      clear hk3
      go_wp2_with fail
      go_ret2
      exact⟨by rw[HF.out];rfl,HK.out.trans HK3.out⟩
     | true=>
      have HTf:Hid (Calls Tryz.prog 84 #[.agg #[.slice Ae ne ce,.slice Aj nj cj,.slice Ab nb cb,.slice Ar nr cr],.int .i64 s1] w2 fun e w'=>e=.returned (.bool true)∧Keep Never w2 w'):=by have h:=HTs.out;rw[htb] at h;exact h
      have HTb:=qh htb
      unfold thereB at htb
      rw[Bool.and_eq_true,decide_eq_true_eq,decide_eq_true_eq] at htb
      obtain⟨j,rfl⟩:∃j:Nat,s1=(j:Int):=⟨s1.toNat,by omega⟩
      have hj:j<ne:=by omega
      obtain⟨ad2,v,hA2,hab2,hv,g0⟩:=(int_rd (HEb.out.keep HK2.out (fun _ h=>h.elim))).at1 hj
      subst hA2
      have HSm2:Hid (sumM t.1 (p.take (k+1))=IntKind.i64.wrap (S+v)):=qh (by rw[HSm.out];congr 2;rw[List.getD_eq_getElem?_getD,Int.toNat_natCast,hv];rfl)
      have hjz:(j:Int)<(ne:Int):=by omega
      have hj0:(0:Int)≤(j:Int):=by omega
      have HG:=qh g0
      clear hs hab k2 b2 hbb HTs htb HSm hv hab2 g0
      go_wp2_with fail
      refine HTf.out.mono ?_
      rintro e w3 ⟨rfl,hk3⟩
      have HK3:=qtr HK2 hk3
      have x0:=keepT hk3 y0
      have x1:=keepT hk3 z0
      have x2:=keepT hk3 HG.out
      clear hk3 y0 y1 y2 y3 z0
      go_wp2_with fail
      refine⟨⟨k+1,by omega,by go_num,by rw[HSm2.out,IntWalk.i64_left],qh ⟨HK3.out,fun s hs=>?_⟩⟩,?_⟩
      ·rw[HTk.out,List.mem_append,List.mem_singleton] at hs
       rcases hs with hs | rfl
       ·exact HAl.out s hs
       ·exact HTb.out
      ·simp[intOf];try omega
    ·obtain rfl:k=n:=by omega
     have hkz:¬(k:Int)<(k:Int):=by omega
     have HTk:Hid (p.take k=p):=qh (List.take_of_length_le (by rw[HPl.out];exact Nat.le_refl _))
     rw[HTk.out] at HH ⊢
     have HAl:Hid (p.all (fun s=>thereB t.1.length s.1)=true):=qh (by
      rw[List.all_eq_true]
      intro s hs
      rw[←HEl.out]
      exact HH.out.2 s hs)
     have hbb:=HB.out.keep HH.out.1 (fun h=>h)
     obtain⟨y0,y1,y2,y3⟩:=bc4 hbb
     have HWw:=qh (HW.out wr (HK.out.trans HH.out.1))
     have HF:Hid (lenM t p=if wayM t.2.1 p=true then (sumM t.1 p,0) else (0,141)):=qh (by
      unfold lenM
      rw[if_neg (by rw[←HPl.out];exact HNz.out),if_pos HAl.out])
     generalize wayM t.2.1 p=wy at HWw HF
     have HKr:=qh HH.out.1
     clear hbb HH
     go_wp2_with fail
     refine HWw.out.mono ?_
     rintro e w3 ⟨rfl,hk3⟩
     have HK3:=qtr HKr hk3
     clear hk3
     cases wy with
     | true=>
      go_wp2_with fail
      go_ret2
      exact⟨by rw[HF.out];rfl,HK.out.trans HK3.out⟩
     | false=>
      go_wp2_with fail
      go_ret2
      exact⟨by rw[HF.out];rfl,HK.out.trans HK3.out⟩
end Go.Proofs.YtpapiojicbbheaaGreatDoor

namespace Go.Proofs.YtpapiojicbbheaaGreatDoor
open Go.RowKit
def endB (ne:Nat) (e:En):Bool:=thereB ne e.1&&(decide (e.2=0) || decide (e.2=1))
set_option maxHeartbeats 1000000 in
set_option maxRecDepth 100000 in
theorem end_any (x:TA) (a:En) (w:World) :
    Calls Tryz.prog 102 #[.agg x.cs,.agg #[.int .i64 a.1,.int .i64 a.2]] w fun e w'=>e=.returned (.bool (endB x.ne a))∧Keep Never w w':=by
  have HT:=qh (fun W=>there_any x a.1 W)
  obtain⟨Ae,ne,ce,Aj,nj,cj,Ab,nb,cb,Ar,nr,cr⟩:=x
  obtain⟨a1,a2⟩:=a
  simp only[TA.cs] at HT ⊢
  obtain⟨w1,hw1⟩:∃wb:World,w.alloc (.cells #[.slice Ae ne ce,.slice Aj nj cj,.slice Ab nb cb,.slice Ar nr cr] 27)=wb:=⟨_,rfl⟩
  obtain⟨w2,hw2⟩:∃wb:World,w1.alloc (.cells #[.int .i64 a1,.int .i64 a2] 132)=wb:=⟨_,rfl⟩
  have z1:w1.heap.size=w.heap.size+1:=by rw[←hw1];simp
  have k1:Keep Never w w1:=by rw[←hw1];exact(Keep.refl _ _).alloc _
  have k2:Keep Never w1 w2:=by rw[←hw2];exact(Keep.refl _ _).alloc _
  have b1:=Blk.new w 27 #[.slice Ae ne ce,.slice Aj nj cj,.slice Ab nb cb,.slice Ar nr cr]
  rw[hw1] at b1
  have b2:=Blk.new w1 132 #[.int .i64 a1,.int .i64 a2]
  rw[hw2,z1] at b2
  have hb1:=b1.keep k2 (fun h=>h)
  have HB2:=qh b2
  have HK:=qh (k1.trans k2)
  obtain⟨y0,y1,y2,y3⟩:=bc4 hb1
  obtain⟨v0,v1⟩:=bc2 HB2.out
  clear k1 k2 b1 b2 hb1
  go_enter Tryz.func102, Tryz.ntmps102
  go_wp2_with fail
  refine(HT.out w2).mono ?_
  rintro e w3 ⟨rfl,hk3⟩
  have HK3:=qtr HK hk3
  have u1:w3.cell? ⟨w.heap.size+1,1,none⟩=some (.int .i64 a2):=keepT hk3 v1
  clear y0 y1 y2 y3 v0 v1 hk3
  cases htb:thereB ne a1 with
  | false=>
   have HF:Hid (endB ne (a1,a2)=false):=qh (by unfold endB;rw[htb];rfl)
   clear htb
   go_wp2_with fail
   go_ret
   exact⟨by rw[HF.out];rfl,HK3.out⟩
  | true=>
   by_cases q0:a2=0
   ·have t0:(a2==0)=true:=by simpa using q0
    have HF:Hid (endB ne (a1,a2)=true):=qh (by unfold endB;rw[htb];simp[q0])
    clear htb q0
    go_wp2_with fail
    go_ret
    exact⟨by rw[HF.out];rfl,HK3.out⟩
   ·have t0:(a2==0)=false:=by simpa using q0
    by_cases q1:a2=1
    ·have t1:(a2==1)=true:=by simpa using q1
     have HF:Hid (endB ne (a1,a2)=true):=qh (by unfold endB;rw[htb];simp[q1])
     clear htb q0 q1
     go_wp2_with fail
     go_ret
     exact⟨by rw[HF.out];rfl,HK3.out⟩
    ·have t1:(a2==1)=false:=by simpa using q1
     have HF:Hid (endB ne (a1,a2)=false):=qh (by unfold endB;rw[htb];simp[q0,q1])
     clear htb q0 q1
     go_wp2_with fail
     go_ret
     exact⟨by rw[HF.out];rfl,HK3.out⟩
def badAt (ne:Nat) (p:List Stp) (k:Nat):Bool:=match p[k]? with | some s=>!thereB ne s.1 || (p.take k).any (fun u=>u.1==s.1) | none=>false
def pathBad (ne:Nat) (p:List Stp):Bool:=(List.range p.length).any (badAt ne p)
theorem pathBad_t {ne:Nat}{p:List Stp}{k:Nat} (h:k<p.length) (hb:badAt ne p k=true):pathBad ne p=true:=List.any_eq_true.2 ⟨k,List.mem_range.2 h,hb⟩
theorem pathBad_f {ne:Nat}{p:List Stp} (h:∀k,k<p.length→badAt ne p k=false):pathBad ne p=false:=by
 unfold pathBad;rw[List.any_eq_false];intro k hk;rw[h k (List.mem_range.1 hk)];simp
def noBal (bs:List Bl) (s:Stp):Bool:=!bs.any (fun b=>b.2.1==s.1)
def routedM (t:Tp) (r:Rt):Int:=
  if r.1<1∨r.2.1.length<1∨8<r.2.1.length then 1
  else if pathBad t.1.length r.2.1=true then 1
  else if (lenM t r.2.1).2≠0 then (lenM t r.2.1).2
  else if r.2.2.1<0∨(lenM t r.2.1).1≤r.2.2.1∨r.2.2.2<1∨1000<r.2.2.2 then 1
  else if r.2.1.any (noBal t.2.2.1)=true then 4
  else 0
theorem flat_take {α:Type}{r:Rep α}{w:World}{B:Nat}:∀{l:List α}{css:List (List Value)},All2 (r.cells w B) l css→∀k,css.flatten.take (k*r.size)=(css.take k).flatten
  | [],[],_,k=>by simp
  | [],_::_,h,_=>h.elim
  | _::_,[],h,_=>h.elim
  | a::l,b::m,h,0=>by simp
  | a::l,b::m,h,k+1=>by
   have hb:=r.len h.1
   rw[List.flatten_cons,List.take_succ_cons,List.flatten_cons,←flat_take h.2 k,show (k+1)*r.size=b.length+k*r.size by rw[Nat.succ_mul,hb];omega,List.take_append]
   rw[List.take_of_length_le (by omega),show b.length+k*r.size - b.length=k*r.size by omega]
theorem Sl.front {α:Type}{r:Rep α}{w:World}{B n c k:Nat}{A:Option Addr}{l:List α} (h:r.Sl w B A n c l) (hk:k≤n):r.Sl w B A k c (l.take k):=by
 obtain⟨h1,h2,h3,h4,css,h5,h6⟩:=h
 refine⟨by rw[List.length_take];omega,by omega,h3,h4,css.take k,?_,h6.take_ k⟩
 rw[←flat_take h6 k]
 exact h5.front hk
theorem add_zero (a:Addr):a.add 0=a:=by unfold Addr.add;split <;> simp_all
theorem run_front {P:Program}{t e size:Nat} (ht:P.underlying t=some (.slice e)) (hsz:∀w,(sizeOf e).run P w=.ok size w) (A:Option Addr) (n c k:Nat) (hj:k≤n) (hc:n≤c) (w:World) :
    (Instr.slice t (.slice A n c) none (some (.int .i64 k)) none).run P w=.ok (.slice A k c) w:=by
  have hjc:k≤c:=by omega
  have e0:(if c=0 then A else A.map (·.add (0*size)))=A:=by
   split
   ·rfl
   ·cases A <;> simp[add_zero]
  have:(Instr.slice t (.slice A n c) none (some (.int .i64 k)) none).run P w=.ok (.slice (if c=0 then A else A.map (·.add (0*size))) (k - 0) (c - 0)) w:=by
   simp[Instr.slice,run_underlying ht,Instr.sliceBounds,Instr.sliceBound,asIntOf,hsz,hjc,Result.andThen]
  rw[this,e0];simp
set_option maxHeartbeats 4000000 in
set_option maxRecDepth 100000 in
theorem routed_any (x:TA) (t:Tp) (B:Nat) (r:Rt) (A:Option Addr) (n c:Nat) (w:World) (ht:TpAt w B x t) (hp:repStp.Sl w B A n c r.2.1) (hn:x.nj≤100000000) (hn1:x.nb≤100000000) (hn2:n≤100000000) :
    Calls Tryz.prog 104 #[.agg x.cs,.agg #[.int .i64 r.1,.slice A n c,.int .i64 r.2.2.1,.int .i64 r.2.2.2]] w fun e w'=>e=.returned (.int .i64 (routedM t r))∧Keep Never w w':=by
  have HLn:Hid (∀(w':World),Keep Never w w'→Calls Tryz.prog 133 #[.agg x.cs,.slice A n c] w' fun e w''=>e=.returned (.tuple #[.int .i64 (lenM t r.2.1).1,.int .i64 (lenM t r.2.1).2])∧Keep Never w' w''):=qh (fun w' h=>length_any x t B A n c r.2.1 w' (ht.keep h) (hp.keep h (fun _ h=>h.elim)) hn hn2)
  have HT:=qh (fun i W=>there_any x i W)
  have HEl:Hid (x.ne=t.1.length):=qh ht.e.len
  have HBl:=qh (bl_rd ht.b)
  have HP:=qh hp
  have HPl:Hid (n=r.2.1.length):=qh hp.len
  obtain⟨Ae,ne,ce,Aj,nj,cj,Ab,nb,cb,Ar,nr,cr⟩:=x
  obtain⟨r1,p,r3,r4⟩:=r
  simp only[TA.cs] at HLn HT HEl HBl HP HPl hn1 ⊢
  have hq:∀(k:Nat) (w:World),k≤n→(Instr.slice 35 (.slice A n c) none (some (.int .i64 k)) none).run Tryz.prog w=.ok (.slice A k c) w:=fun k w hk=>run_front Tryz.underlying35 Tryz.sizeOf30 A n c k hk HP.out.cap w
  have HQ:=qh hq
  obtain⟨w1,hw1⟩:∃wb:World,w.alloc (.cells #[.slice Ae ne ce,.slice Aj nj cj,.slice Ab nb cb,.slice Ar nr cr] 27)=wb:=⟨_,rfl⟩
  obtain⟨w2,hw2⟩:∃wb:World,w1.alloc (.cells #[.int .i64 r1,.slice A n c,.int .i64 r3,.int .i64 r4] 64)=wb:=⟨_,rfl⟩
  have z1:w1.heap.size=w.heap.size+1:=by rw[←hw1];simp
  have k1:Keep Never w w1:=by rw[←hw1];exact(Keep.refl _ _).alloc _
  have k2:Keep Never w1 w2:=by rw[←hw2];exact(Keep.refl _ _).alloc _
  have b1:=Blk.new w 27 #[.slice Ae ne ce,.slice Aj nj cj,.slice Ab nb cb,.slice Ar nr cr]
  rw[hw1] at b1
  have b2:=Blk.new w1 64 #[.int .i64 r1,.slice A n c,.int .i64 r3,.int .i64 r4]
  rw[hw2,z1] at b2
  have HB1:=qh (b1.keep k2 (fun h=>h))
  have HB2:=qh b2
  have HK:=qh (k1.trans k2)
  obtain⟨v0,v1⟩:=bc2 HB2.out
  clear k1 k2 b1 b2 ht hp hq
  by_cases g1:r1<1
  ·have t1:decide (r1<1)=true:=by simpa using g1
   have HF:Hid (routedM t (r1,p,r3,r4)=1):=qh (by unfold routedM;rw[if_pos (.inl g1)])
   clear g1
   go_enter Tryz.func104, Tryz.ntmps104
   go_wp2_with fail
   go_ret
   exact⟨by rw[HF.out];rfl,HK.out⟩
  have t1:decide (r1<1)=false:=by simpa using g1
  by_cases g2:n<1
  ·have t2:decide ((n:Int)<1)=true:=by simp;omega
   have HF:Hid (routedM t (r1,p,r3,r4)=1):=qh (by unfold routedM;rw[if_pos (.inr (.inl (by rw[←HPl.out];exact g2)))])
   clear g1 g2
   go_enter Tryz.func104, Tryz.ntmps104
   go_wp2_with fail
   go_ret
   exact⟨by rw[HF.out];rfl,HK.out⟩
  have t2:decide ((n:Int)<1)=false:=by simp;omega
  by_cases g3:8<n
  ·have t3:decide ((n:Int)>8)=true:=by simp;omega
   have HF:Hid (routedM t (r1,p,r3,r4)=1):=qh (by unfold routedM;rw[if_pos (.inr (.inr (by rw[←HPl.out];exact g3)))])
   clear g1 g2 g3
   go_enter Tryz.func104, Tryz.ntmps104
   go_wp2_with fail
   go_ret
   exact⟨by rw[HF.out];rfl,HK.out⟩
  have t3:decide ((n:Int)>8)=false:=by simp;omega
  have HN1:Hid (¬(r1<1∨p.length<1∨8<p.length)):=qh (by have:=HPl.out;omega)
  have hn8:n≤8:=by omega
  clear g1 g2 g3
  go_enter Tryz.func104, Tryz.ntmps104
  go_wp2_with fail
  clear t1 t2 t3 v0 v1
  go_loopw [5,6,7,30] (fun _ _ _ i wr=>∃k:Nat,k≤n∧i=.int .i64 k∧Hid (Keep Never w2 wr∧∀j,j<k→badAt ne p j=false)) (fun _ _ _ i _=>n - (intOf i).toNat)
  case atStart=>exact⟨0,by omega,rfl,qh ⟨Keep.refl _ _,fun j h=>by omega⟩⟩
  case round=>
   obtain⟨k,hk,rfl,HH⟩:=hrel
   by_cases h0:k<n
   ·have hkz:(k:Int)<(n:Int):=by omega
    obtain⟨ad,s,hA,_,hs,c0,c1,_⟩:=stp_at (HP.out.keep (HK.out.trans HH.out.1) (fun _ h=>h.elim)) h0
    subst hA
    obtain⟨s1,s2⟩:=s
    simp only at c0 c1 hs
    obtain⟨W1,hW1⟩:∃W:World,wr.alloc (.cells #[.int .i64 s1,.bool s2] 30)=W:=⟨_,rfl⟩
    have K1:Keep Never wr W1:=by rw[←hW1];exact(Keep.refl _ _).alloc _
    have B1:=Blk.new wr 30 #[.int .i64 s1,.bool s2]
    rw[hW1] at B1
    have d0:W1.cell? ⟨wr.heap.size,0,none⟩=some (.int .i64 s1):=B1.cell 0
    have hb1:=HB1.out.keep (HH.out.1.trans K1) (fun h=>h)
    have HB2r:=qh (HB2.out.keep (HH.out.1.trans K1) (fun h=>h))
    obtain⟨y0,y1,y2,y3⟩:=bc4 hb1
    have HKW:=qh (HH.out.1.trans K1)
    have HBs:=qh B1
    have HCt:=qh (HT.out s1 W1)
    have Hs:=qh hs
    clear hs K1 B1 hb1
    go_wp2_with fail
    refine HCt.out.mono ?_
    rintro e w3 ⟨rfl,hk3⟩
    have HK3:=qtr HKW hk3
    have v1:w3.cell? ⟨w.heap.size+1,1,none⟩=some (.slice (some ad) n c):=(HB2r.out.keep hk3 (fun h=>h)).cell 1
    have d3:w3.cell? ⟨wr.heap.size,0,none⟩=some (.int .i64 s1):=keepT hk3 d0
    clear hk3 HCt d0 y0 y1 y2 y3 c0 c1
    cases htb:thereB ne s1 with
    | false=>
     have HBd:Hid (badAt ne p k=true):=qh (by unfold badAt;rw[Hs.out];simp[htb])
     have HF:Hid (routedM t (r1,p,r3,r4)=1):=qh (by unfold routedM;rw[if_neg HN1.out,if_pos (pathBad_t (k:=k) (by show k<p.length;have:=HPl.out;omega) (by rw[←HEl.out];exact HBd.out))])
     clear htb
     go_wp2_with fail
     go_ret
     exact⟨by rw[HF.out];rfl,HK.out.trans HK3.out⟩
    | true=>
     have hq:=HQ.out k w3 hk
     have HCf:=qh (containsfs_any 155 #[.pointer (some ⟨wr.heap.size,0,none⟩)] (fun u=>u.1==s1) (enters_of Tryz.func155 (by kernel_rfl) rfl) (some ad) k c B (p.take k) w3 (stps_rd (Sl.front (HP.out.keep (HK.out.trans HK3.out) (fun _ h=>h.elim)) hk)).1 (fun W u hk=>rdF1_any u.1 u.2 s1 _ W (keepT hk d3)) (by omega))
     have HTb:=qh htb
     clear htb
     go_wp2_with fail
     refine HCf.out.mono ?_
     rintro e w4 ⟨rfl,hk4⟩
     have HK4:=qtr HK3 hk4
     clear hk4 HCf hq v1 d3
     cases hany:(p.take k).any (fun u=>u.1==s1) with
     | true=>
      have HBd:Hid (badAt ne p k=true):=qh (by unfold badAt;rw[Hs.out];simp only;rw[hany,Bool.or_true])
      have HF:Hid (routedM t (r1,p,r3,r4)=1):=qh (by unfold routedM;rw[if_neg HN1.out,if_pos (pathBad_t (k:=k) (by show k<p.length;have:=HPl.out;omega) (by rw[←HEl.out];exact HBd.out))])
      clear hany
      go_wp2_with fail
      go_ret
      exact⟨by rw[HF.out];rfl,HK.out.trans HK4.out⟩
     | false=>
      have HBd:Hid (badAt ne p k=false):=qh (by unfold badAt;rw[Hs.out];simp only;rw[hany,HTb.out];rfl)
      clear hany
      go_wp2_with fail
      refine⟨⟨k+1,by omega,by go_num,qh ⟨HK4.out,fun j hj=>?_⟩⟩,?_⟩
      ·by_cases e:j=k
       ·rw[e];exact HBd.out
       ·exact HH.out.2 j (by omega)
      ·simp[intOf];try omega
   ·obtain rfl:k=n:=by omega
    have hkz:¬(k:Int)<(k:Int):=by omega
    have HN2:Hid (¬pathBad t.1.length p=true):=qh (by
     rw[pathBad_f (fun j hj=>by rw[←HEl.out];exact HH.out.2 j (by have:=HPl.out;omega))];simp)
    have HKr:=qh HH.out.1
    have hb1:=HB1.out.keep HH.out.1 (fun h=>h)
    have hb2:=HB2.out.keep HH.out.1 (fun h=>h)
    obtain⟨y0,y1,y2,y3⟩:=bc4 hb1
    have v1:wr.cell? ⟨w.heap.size+1,1,none⟩=some (.slice A k c):=hb2.cell 1
    have HC:=qh (HLn.out wr (HK.out.trans HH.out.1))
    clear HH hb1 hb2 HT HQ HLn
    obtain⟨all,hall⟩:∃z,(lenM t p).1=z:=⟨_,rfl⟩
    obtain⟨er,her⟩:∃z,(lenM t p).2=z:=⟨_,rfl⟩
    have HAl:=qh hall
    have HEr:=qh her
    rw[hall,her] at HC
    clear hall her
    go_wp2_with fail
    refine HC.out.mono ?_
    rintro e w3 ⟨rfl,hk3⟩
    have HK3:=qtr HKr hk3
    have HB2r:=qh ((HB2.out.keep HKr.out (fun h=>h)).keep hk3 (fun h=>h))
    have HB1r:=qh ((HB1.out.keep HKr.out (fun h=>h)).keep hk3 (fun h=>h))
    clear hk3 y0 y1 y2 y3 v1 HC
    by_cases g0:er=0
    case neg=>
     have t0:(er != 0)=true:=by simpa using g0
     have t0':(er==0)=false:=by simpa using g0
     have HF:Hid (routedM t (r1,p,r3,r4)=er):=qh (by unfold routedM;rw[if_neg HN1.out,if_neg HN2.out,if_pos (by simp only;rw[HEr.out];exact g0)];exact HEr.out)
     clear g0
     go_wp2_with fail
     go_ret
     exact⟨by rw[HF.out];rfl,HK.out.trans HK3.out⟩
    subst g0
    have HN3:Hid (¬(lenM t p).2≠0):=qh (by rw[HEr.out];simp)
    have v1:w3.cell? ⟨w.heap.size+1,1,none⟩=some (.slice A k c):=HB2r.out.cell 1
    have v2:w3.cell? ⟨w.heap.size+1,2,none⟩=some (.int .i64 r3):=HB2r.out.cell 2
    have v3:w3.cell? ⟨w.heap.size+1,3,none⟩=some (.int .i64 r4):=HB2r.out.cell 3
    have hF1:(r3<0∨all≤r3∨r4<1∨1000<r4)→routedM t (r1,p,r3,r4)=1:=fun h=>by
     unfold routedM;rw[if_neg HN1.out,if_neg HN2.out,if_neg HN3.out,if_pos (by simp only;rw[HAl.out];exact h)]
    have HF1:=qh hF1
    clear hF1
    by_cases g1:r3<0
    ·have t1:decide (r3<0)=true:=by simpa using g1
     have HF:=qh (HF1.out (.inl g1))
     clear g1
     go_wp2_with fail
     go_ret
     exact⟨by rw[HF.out];rfl,HK.out.trans HK3.out⟩
    have t1:decide (r3<0)=false:=by simpa using g1
    by_cases g2:all≤r3
    ·have t2:decide (r3≥all)=true:=by simpa using g2
     have HF:=qh (HF1.out (.inr (.inl g2)))
     clear g1 g2
     go_wp2_with fail
     go_ret
     exact⟨by rw[HF.out];rfl,HK.out.trans HK3.out⟩
    have t2:decide (r3≥all)=false:=by simpa using g2
    by_cases g3:r4<1
    ·have t3:decide (r4<1)=true:=by simpa using g3
     have HF:=qh (HF1.out (.inr (.inr (.inl g3))))
     clear g1 g2 g3
     go_wp2_with fail
     go_ret
     exact⟨by rw[HF.out];rfl,HK.out.trans HK3.out⟩
    have t3:decide (r4<1)=false:=by simpa using g3
    by_cases g4:1000<r4
    ·have t4:decide (r4>1000)=true:=by simpa using g4
     have HF:=qh (HF1.out (.inr (.inr (.inr g4))))
     clear g1 g2 g3 g4
     go_wp2_with fail
     go_ret
     exact⟨by rw[HF.out];rfl,HK.out.trans HK3.out⟩
    have t4:decide (r4>1000)=false:=by simpa using g4
    have HN4:Hid (¬(r3<0∨(lenM t p).1≤r3∨r4<1∨1000<r4)):=qh (by rw[HAl.out];omega)
    clear g1 g2 g3 g4 HF1
    go_wp2_with fail
    clear t1 t2 t3 t4 v1 v2 v3
    rename World=>w3
    go_loopw [11,82] (fun _ i wr=>∃j:Nat,j≤k∧i=.int .i64 j∧Hid (Keep Never w2 wr∧∀s∈p.take j,noBal t.2.2.1 s=false)) (fun _ i _=>k - (intOf i).toNat)
    case atStart=>exact⟨0,by omega,rfl,qh ⟨HK3.out,by simp⟩⟩
    case round=>
     obtain⟨j,hj,rfl,HH⟩:=hrel
     by_cases h0:j<k
     ·have hjz:(j:Int)<(k:Int):=by omega
      obtain⟨ad,s,hA,_,hs,c0,c1,_⟩:=stp_at (HP.out.keep (HK.out.trans HH.out.1) (fun _ h=>h.elim)) h0
      subst hA
      obtain⟨s1,s2⟩:=s
      simp only at c0 c1
      have HTk:Hid (p.take (j+1)=p.take j++[(s1,s2)]):=qh (by
       obtain⟨h2,h3⟩:=List.getElem?_eq_some_iff.1 hs
       rw[List.take_succ_eq_append_getElem h2,h3])
      have Hs:=qh hs
      obtain⟨W1,hW1⟩:∃W:World,wr.alloc (.cells #[.int .i64 s1,.bool s2] 30)=W:=⟨_,rfl⟩
      have K1:Keep Never wr W1:=by rw[←hW1];exact(Keep.refl _ _).alloc _
      have B1:=Blk.new wr 30 #[.int .i64 s1,.bool s2]
      rw[hW1] at B1
      have d0:W1.cell? ⟨wr.heap.size,0,none⟩=some (.int .i64 s1):=B1.cell 0
      have y2:W1.cell? ⟨w.heap.size,2,none⟩=some (.slice Ab nb cb):=(HB1.out.keep (HH.out.1.trans K1) (fun h=>h)).cell 2
      have HKW:=qh (HH.out.1.trans K1)
      have HCf:=qh (containsfb_any 157 #[.pointer (some ⟨wr.heap.size,0,none⟩)] (fun b=>b.2.1==s1) (enters_of Tryz.func157 (by kernel_rfl) rfl) Ab nb cb B t.2.2.1 W1 (HBl.out.keep (HK.out.trans HKW.out) (fun _ h=>h.elim)) (fun W b hk=>rdF2_any b.1 b.2.1 b.2.2 s1 _ W (keepT hk d0)) (by omega))
      clear hs K1 B1 d0
      go_wp2_with fail
      refine HCf.out.mono ?_
      rintro e w4 ⟨rfl,hk4⟩
      have HK4:=qtr HKW hk4
      clear hk4 HCf c0 c1 y2
      cases hany:t.2.2.1.any (fun b=>b.2.1==s1) with
      | false=>
       have HF:Hid (routedM t (r1,p,r3,r4)=4):=qh (by
        unfold routedM
        rw[if_neg HN1.out,if_neg HN2.out,if_neg HN3.out,if_neg HN4.out,if_pos]
        exact List.any_eq_true.2 ⟨_,List.mem_of_getElem? Hs.out,by unfold noBal;simp only;rw[hany];rfl⟩)
       clear hany
       go_wp2_with fail
       go_ret
       exact⟨by rw[HF.out];rfl,HK.out.trans HK4.out⟩
      | true=>
       have HNb:Hid (noBal t.2.2.1 (s1,s2)=false):=qh (by unfold noBal;simp only;rw[hany];rfl)
       clear hany
       go_wp2_with fail
       refine⟨⟨j+1,by omega,by go_num,qh ⟨HK4.out,fun u hu=>?_⟩⟩,?_⟩
       ·rw[HTk.out] at hu
        rcases List.mem_append.1 hu with hu | hu
        ·exact HH.out.2 u hu
        ·simp at hu;subst hu;exact HNb.out
       ·simp[intOf];try omega
     ·obtain rfl:j=k:=by omega
      have hjz:¬(j:Int)<(j:Int):=by omega
      have HF:Hid (routedM t (r1,p,r3,r4)=0):=qh (by
       unfold routedM
       rw[if_neg HN1.out,if_neg HN2.out,if_neg HN3.out,if_neg HN4.out,if_neg]
       rw[List.any_eq_true]
       rintro⟨s,hs,h⟩
       have:=HH.out.2 s (by rw[List.take_of_length_le (by rw[HPl.out];exact Nat.le_refl _)];exact hs)
       rw[this] at h;cases h)
      have HKe:=qh (HK.out.trans HH.out.1)
      go_wp2_with fail
      go_ret
      exact⟨by rw[HF.out];rfl,HKe.out⟩
end Go.Proofs.YtpapiojicbbheaaGreatDoor

namespace Go.Proofs.YtpapiojicbbheaaGreatDoor
open Go.RowKit
theorem held5_next {W0 w w':World}{a b c d e:Addr}{ua ub uc ud ue:Value} (H:Keep Never W0 w∧w.cell? a=some ua∧w.cell? b=some ub∧w.cell? c=some uc∧w.cell? d=some ud∧w.cell? e=some ue) (hk:Keep Never w w') :
    Keep Never W0 w'∧w'.cell? a=some ua∧w'.cell? b=some ub∧w'.cell? c=some uc∧w'.cell? d=some ud∧w'.cell? e=some ue:=
  ⟨H.1.trans hk,keepT hk H.2.1,keepT hk H.2.2.1,keepT hk H.2.2.2.1,keepT hk H.2.2.2.2.1,keepT hk H.2.2.2.2.2⟩
set_option maxHeartbeats 4000000 in
set_option maxRecDepth 100000 in
theorem rlength_any (x:TA) (t:Tp) (B:Nat) (A:Option Addr) (n c:Nat) (p:List Stp) (w:World) (ht:TpAt w B x t) (hp:repStp.Sl w B A n c p) (hn:x.nj≤100000000) (hn2:n≤100000000) :
    Calls Tryz.prog 130 #[.agg x.cs,.slice A n c] w fun e w'=>e=.returned (.tuple #[.int .i64 (lenM t p).1,.int .i64 (lenM t p).2])∧Keep Never w w':=by
  have HM:Hid (∀(a b:Stp) (w':World),Keep Never w w'→Calls Tryz.prog 52 #[.agg x.cs,.agg #[.int .i64 a.1,.bool a.2],.agg #[.int .i64 b.1,.bool b.2]] w' fun e w''=>e=.returned (.bool (mayJ t.2.1 a b))∧Keep Never w' w''):=qh (fun a b w' h=>rmayj_any x t B a b w' (ht.keep h) hn)
  have HT:=qh (fun i W=>redge_any x i W)
  have HE:=qh ht.e
  have HPl:Hid (n=p.length):=qh hp.len
  have HEl:Hid (x.ne=t.1.length):=qh ht.e.len
  obtain⟨Ae,ne,ce,Aj,nj,cj,Ab,nb,cb,Ar,nr,cr⟩:=x
  simp only[TA.cs] at HM HT HE HEl ⊢
  obtain⟨wb,hwb⟩:∃wb:World,w.alloc (.cells #[.slice Ae ne ce,.slice Aj nj cj,.slice Ab nb cb,.slice Ar nr cr] 27)=wb:=⟨_,rfl⟩
  have k1:Keep Never w wb:=by rw[←hwb];exact(Keep.refl _ _).alloc _
  have b1':=Blk.new w 27 #[.slice Ae ne ce,.slice Aj nj cj,.slice Ab nb cb,.slice Ar nr cr]
  rw[hwb] at b1'
  have HB:=qh b1'
  have HK:=qh k1
  have HP:=qh (hp.keep k1 (fun _ h=>h.elim))
  have HEb:=qh (HE.out.keep k1 (fun _ h=>h.elim))
  clear k1 b1' hp ht HE
  by_cases hz:n=0∨40<n
  ·have HF:Hid (lenM t p=(0,1)):=qh (by unfold lenM;rw[if_pos (by rw[←HPl.out];exact hz)])
   rw[HF.out]
   by_cases h0:n=0
   ·have t0:((n:Int)==0)=true:=by simp[h0]
    clear hz h0
    go_enter Tryz.func130, Tryz.ntmps130
    go_wp2_with fail
    go_ret2
    exact⟨rfl,HK.out⟩
   ·have t0:((n:Int)==0)=false:=by simp;omega
    have t1:decide ((n:Int)>40)=true:=by simp;omega
    clear hz h0
    go_enter Tryz.func130, Tryz.ntmps130
    go_wp2_with fail
    go_ret2
    exact⟨rfl,HK.out⟩
  ·have t0:((n:Int)==0)=false:=by simp;omega
   have t1:decide ((n:Int)>40)=false:=by simp;omega
   have HNz:=qh hz
   clear hz
   go_enter Tryz.func130, Tryz.ntmps130
   go_wp2_with fail
   go_loopw [6,7,8] (fun sv i _ wr=>∃k:Nat,k≤n∧i=.int .i64 k∧sv=.int .i64 (sumM t.1 (p.take k))∧Hid (Keep Never wb wr∧∀s∈p.take k,thereB ne s.1=true)) (fun _ i _ _=>n - (intOf i).toNat)
   case atStart=>exact⟨0,by omega,rfl,rfl,qh ⟨Keep.refl _ _,by simp⟩⟩
   case round=>
    obtain⟨k,hk,rfl,rfl,HH⟩:=hrel
    by_cases h0:k<n
    ·have hkz:(k:Int)<(n:Int):=by omega
     obtain⟨ad,s,hA,hab,hs,c0,c1,_⟩:=stp_at (HP.out.keep HH.out.1 (fun _ h=>h.elim)) h0
     subst hA
     obtain⟨s1,s2⟩:=s
     simp only at c0 c1
     have HSm:Hid (sumM t.1 (p.take (k+1))=IntKind.i64.wrap (sumM t.1 (p.take k)+t.1.getD s1.toNat 0)):=qh (sumM_take hs)
     have HSk:=qh hs
     have HTk:Hid (p.take (k+1)=p.take k++[(s1,s2)]):=qh (by
      obtain⟨h2,h3⟩:=List.getElem?_eq_some_iff.1 hs
      rw[List.take_succ_eq_append_getElem h2,h3])
     generalize sumM t.1 (p.take k)=S at *
     have HK2:=qh HH.out.1
     have HAl:=qh HH.out.2
     have hbb:=HB.out.keep HK2.out (fun h=>h)
     obtain⟨y0,y1,y2,y3⟩:=bc4 hbb
     have HTs:=qh (fun W=>HT.out s1 W)
     cases htb:thereB ne s1 with
     | false=>
      have HF:Hid (lenM t p=(0,1)):=qh (by
       unfold lenM
       rw[if_neg (by rw[←HPl.out];exact HNz.out),if_neg]
       rw[List.all_eq_true]
       intro h
       have:=h _ (List.mem_of_getElem? HSk.out)
       rw[←HEl.out,htb] at this
       cases this)
      have HTf:Hid (∀W:World,Calls Tryz.prog 110 #[.agg #[.slice Ae ne ce,.slice Aj nj cj,.slice Ab nb cb,.slice Ar nr cr],.int .i64 s1] W fun e w'=>e=.returned (.bool false)∧Keep Never W w'):=by have h:=HTs.out;rw[htb] at h;exact h
      clear hs hab hbb HTs htb HSm
      go_wp2_with fail
      go_region_held3 (fun w'=>Keep Never wr w'∧w'.cell? ⟨w.heap.size,0,none⟩=some (.slice Ae ne ce)∧w'.cell? ⟨w.heap.size,1,none⟩=some (.slice Aj nj cj)∧w'.cell? ⟨w.heap.size,2,none⟩=some (.slice Ab nb cb)∧w'.cell? ⟨w.heap.size,3,none⟩=some (.slice Ar nr cr)∧w'.cell? (ad.add (k*2))=some (.int .i64 s1))
        (first| assumption | exact⟨(Keep.refl Never wr).drew,y0,y1,y2,y3,c0⟩ | exact held5_next (by assumption) hk')
        (first
          | (go_at_call 110; refine(HTf.out _).mono ?_;rintro e w' ⟨rfl,hk'⟩))
      rename_i hS
      have HK3:=qh (HK2.out.trans (And.left hS))
      clear hS
      go_wp2_with fail
      go_ret2
      exact⟨by rw[HF.out];rfl,HK.out.trans HK3.out⟩
     | true=>
      have HTf:Hid (∀W:World,Calls Tryz.prog 110 #[.agg #[.slice Ae ne ce,.slice Aj nj cj,.slice Ab nb cb,.slice Ar nr cr],.int .i64 s1] W fun e w'=>e=.returned (.bool true)∧Keep Never W w'):=by have h:=HTs.out;rw[htb] at h;exact h
      have HTb:=qh htb
      unfold thereB at htb
      rw[Bool.and_eq_true,decide_eq_true_eq,decide_eq_true_eq] at htb
      obtain⟨j,rfl⟩:∃j:Nat,s1=(j:Int):=⟨s1.toNat,by omega⟩
      have hj:j<ne:=by omega
      obtain⟨ad2,v,hA2,hab2,hv,g0⟩:=(int_rd (HEb.out.keep HK2.out (fun _ h=>h.elim))).at1 hj
      subst hA2
      have HSm2:Hid (sumM t.1 (p.take (k+1))=IntKind.i64.wrap (S+v)):=qh (by rw[HSm.out];congr 2;rw[List.getD_eq_getElem?_getD,Int.toNat_natCast,hv];rfl)
      have hjz:(j:Int)<(ne:Int):=by omega
      have hj0:(0:Int)≤(j:Int):=by omega
      have HG:=qh g0
      clear hs hab hbb HTs htb HSm hv hab2 g0
      go_wp2_with fail
      go_region_held3 (fun w'=>Keep Never wr w'∧w'.cell? ⟨w.heap.size,0,none⟩=some (.slice (some ad2) ne ce)∧w'.cell? ⟨w.heap.size,1,none⟩=some (.slice Aj nj cj)∧w'.cell? ⟨w.heap.size,2,none⟩=some (.slice Ab nb cb)∧w'.cell? ⟨w.heap.size,3,none⟩=some (.slice Ar nr cr)∧w'.cell? (ad.add (k*2))=some (.int .i64 (j:Int)))
        (first| assumption | exact⟨(Keep.refl Never wr).drew,y0,y1,y2,y3,c0⟩ | exact held5_next (by assumption) hk')
        (first
          | (go_at_call 110; refine(HTf.out _).mono ?_;rintro e w' ⟨rfl,hk'⟩))
      rename_i hS
      have HK3:=qh (HK2.out.trans (And.left hS))
      have x0:=keepT (And.left hS) y0
      have x2:=keepT (And.left hS) HG.out
      have x3:=keepT (And.left hS) c0
      clear hS y0 y1 y2 y3 c0 c1
      go_wp2_with fail
      go_quiet (fail)
      go_wp2_with fail
      refine⟨⟨k+1,by omega,by go_num,by rw[HSm2.out,IntWalk.i64_left],qh ⟨HK3.out.drewN _,fun s hs=>?_⟩⟩,?_⟩
      ·rw[HTk.out,List.mem_append,List.mem_singleton] at hs
       rcases hs with hs | rfl
       ·exact HAl.out s hs
       ·exact HTb.out
      ·simp[intOf];try omega
    ·obtain rfl:k=n:=by omega
     have hkz:¬(k:Int)<(k:Int):=by omega
     have HTk:Hid (p.take k=p):=qh (List.take_of_length_le (by rw[HPl.out];exact Nat.le_refl _))
     rw[HTk.out] at HH ⊢
     have HAl:Hid (p.all (fun s=>thereB t.1.length s.1)=true):=qh (by
      rw[List.all_eq_true]
      intro s hs
      rw[←HEl.out]
      exact HH.out.2 s hs)
     have hbb:=HB.out.keep HH.out.1 (fun h=>h)
     obtain⟨y0,y1,y2,y3⟩:=bc4 hbb
     have HKr:=qh HH.out.1
     have HF:Hid (lenM t p=if wayM t.2.1 p=true then (sumM t.1 p,0) else (0,141)):=qh (by
      unfold lenM
      rw[if_neg (by rw[←HPl.out];exact HNz.out),if_pos HAl.out])
     generalize sumM t.1 p=S at *
     clear hbb HH hkz y0 y1 y2 y3
     rename World=>wz
     go_wp2_with fail
     go_loopw [9,10] (fun i _ wr=>∃q:Nat,1≤q∧q≤k+1∧i=.int .i64 q∧Hid (Keep Never wb wr∧∀m,m+1<q→m+1<k→okAt t.2.1 p m=true)) (fun i _ _=>k+1 - (intOf i).toNat)
     case atStart=>exact⟨1,by omega,by omega,rfl,qh ⟨HKr.out,fun m h=>by omega⟩⟩
     case round=>
      obtain⟨q,hq1,hq,rfl,HH⟩:=hrel
      by_cases h0:q<k
      ·obtain⟨q0,hq0⟩:∃q0,q=q0+1:=⟨q - 1,by omega⟩
       obtain⟨ad,s,hA,hab,hs,c0,c1,_⟩:=stp_at (HP.out.keep HH.out.1 (fun _ h=>h.elim)) (i:=q0) (by omega)
       obtain⟨ad',u,hA',hab',hu,d0,d1,_⟩:=stp_at (HP.out.keep HH.out.1 (fun _ h=>h.elim)) h0
       subst hA
       obtain rfl:ad=ad':=by injection hA'
       have hqz:(q:Int)<(k:Int):=by omega
       have HOk:Hid (okAt t.2.1 p q0=mayJ t.2.1 s u):=qh (okAt_eq hs (by rw[←hq0];exact hu))
       have hbb:=HB.out.keep HH.out.1 (fun h=>h)
       obtain⟨y0,y1,y2,y3⟩:=bc4 hbb
       have HMa:=qh (HM.out s u)
       obtain⟨s1,s2⟩:=s
       obtain⟨u1,u2⟩:=u
       simp only at c0 c1 d0 d1 HMa
       have HKw:=qh (HK.out.trans HH.out.1)
       have Hq0:=qh hq0
       have z1:q0<k:=by omega
       have z2:(q0:Int)<(k:Int):=by omega
       have z3:(0:Int)≤(q0:Int):=by omega
       have z4:(q:Int) - 1=(q0:Int):=by omega
       have z5:IntKind.i64.wrap ((q:Int) - 1)=(q0:Int):=by rw[z4];exact IntWalk.i64_in _ (by omega)
       have z6:IntKind.i64.wrap (q0:Int)=(q0:Int):=IntWalk.i64_in _ (by omega)
       generalize mayJ t.2.1 (s1,s2) (u1,u2)=mb at HMa HOk
       clear hs hu hab hab' hbb hq0 HM
       go_wp2_with fail
       go_region_held3 (fun w'=>Keep Never wr w'∧w'.cell? ⟨w.heap.size,0,none⟩=some (.slice Ae ne ce)∧w'.cell? ⟨w.heap.size,1,none⟩=some (.slice Aj nj cj)∧w'.cell? ⟨w.heap.size,2,none⟩=some (.slice Ab nb cb)∧w'.cell? ⟨w.heap.size,3,none⟩=some (.slice Ar nr cr)∧w'.cell? (ad.add (q0*2))=some (.int .i64 s1)∧w'.cell? ⟨(ad.add (q0*2)).block,(ad.add (q0*2)).off+1,none⟩=some (.bool s2)∧w'.cell? (ad.add (q*2))=some (.int .i64 u1)∧w'.cell? ⟨(ad.add (q*2)).block,(ad.add (q*2)).off+1,none⟩=some (.bool u2))
         (first| assumption | exact⟨(Keep.refl Never wr).drew,y0,y1,y2,y3,c0,c1,d0,d1⟩ | exact held8_next (by assumption) hk')
         (first
           | (go_at_call 52; refine(HMa.out _ (HKw.out.trans (by first | exact(Keep.refl Never wr).drew | exact And.left (by assumption)))).mono ?_;rintro e w' ⟨rfl,hk'⟩))
       rename_i hS
       have HKe:=qh (HH.out.1.trans (And.left hS))
       have HHo:=qh HH.out.2
       clear hS y0 y1 y2 y3 c0 c1 d0 d1 z1 z2 z3 z4 z5 z6 HMa HH
       cases mb with
       | true=>
        go_wp2_with fail
        refine⟨⟨q+1,by omega,by omega,by go_num,qh ⟨HKe.out,fun m h1 h2=>?_⟩⟩,?_⟩
        ·by_cases hm:m+1<q
         ·exact HHo.out m hm h2
         ·obtain rfl:m=q0:=by have:=Hq0.out;omega
          exact HOk.out
        ·simp[intOf];try omega
       | false=>
        have HF2:Hid (wayM t.2.1 p=false):=qh (wayM_f (k:=q0) (by rw[←Hq0.out,←HPl.out];exact h0) HOk.out)
        go_wp2_with fail
        go_ret2
        exact⟨by rw[HF.out,HF2.out];rfl,HK.out.trans HKe.out⟩
      ·have hqz:¬(q:Int)<(k:Int):=by omega
       have HF2:Hid (wayM t.2.1 p=true):=qh (wayM_t fun m h=>HH.out.2 m (by have:=HPl.out;omega) (by have:=HPl.out;omega))
       go_wp2_with fail
       go_ret2
       exact⟨by rw[HF.out,HF2.out];rfl,HK.out.trans HH.out.1⟩
end Go.Proofs.YtpapiojicbbheaaGreatDoor

namespace Go.Proofs.YtpapiojicbbheaaGreatDoor
open Go.RowKit
attribute [local go_sem] Oper.semAt_some
structure KI (w:World) (ob:Nat) (which:Bool) (l:Nat) (lp:Loop) (T:Nat→Prop) (pre:List (Sp×Bool)) (W:World):Prop where
  keep:Keep (fun q=>q=ob∨w.heap.size≤q) w W
  mine:∀q,T q→w.heap.size≤q∧q≠l∧q≠w.heap.size∧q<W.heap.size
  row:∃(Ao:Option Addr) (no co:Nat),no=(keptM which pre).length∧Blk W ob 72 #[.slice Ao no co]∧Own W w.heap.size 145 3 Ao no co (spCells (keptM which pre))∧∀q,InRow Ao q→¬T q
  loop:W.heap[l]?=some (.loop lp)
  dfr:W.heap[w.heap.size]?=some (.deferred (some []))
namespace KI
variable {w W W':World}{ob l:Nat}{which:Bool}{lp:Loop}{T T':Nat→Prop}{pre:List (Sp×Bool)}
theorem lt (h:KI w ob which l lp T pre W):l<W.heap.size∧w.heap.size<W.heap.size:=⟨(Array.getElem?_eq_some_iff.1 h.loop).1,(Array.getElem?_eq_some_iff.1 h.dfr).1⟩
end KI
end Go.Proofs.YtpapiojicbbheaaGreatDoor

namespace Go.Proofs.YtpapiojicbbheaaGreatDoor
open Go.RowKit
structure SpAt (w:World) (B:Nat) (A:Option Addr) (n c:Nat) (l:List Sp):Prop where
  rd:Rd w B 3 A n (spCells l)
  nil:A=none→c=0
  cap:n≤c
theorem SpAt.keep {w w':World}{B n c:Nat}{A:Option Addr}{l:List Sp} (h:SpAt w B A n c l) (hk:Keep Never w w'):SpAt w' B A n c l:=⟨h.rd.keep hk (fun _ h=>h.elim),h.nil,h.cap⟩
theorem SpAt.len {w:World}{B n c:Nat}{A:Option Addr}{l:List Sp} (h:SpAt w B A n c l):l.length=n:=h.rd.sp_len
end Go.Proofs.YtpapiojicbbheaaGreatDoor

namespace Go.Proofs.YtpapiojicbbheaaGreatDoor
open Go.RowKit
def iv (x:Int):Value:=.int .i64 x
end Go.Proofs.YtpapiojicbbheaaGreatDoor

namespace Go.Proofs.YtpapiojicbbheaaGreatDoor
open Go.RowKit
def PredInt (g:Nat) (lb:Array Value) (p:Int→Bool) (w:World):Prop:=
  ∀(W:World) (s:Int),Keep Never w W→Calls Tryz.prog g (#[.int .i64 s]++lb) W fun e w'=>e=.returned (.bool (p s))∧Keep Never W w'
def IdxRetI (p:Int→Bool) (l:List Int) (w:World) (e:Ending) (w':World):Prop:=
  ((∃(i:Nat) (s:Int),e=.returned (.int .i64 i)∧l[i]?=some s∧p s=true∧∀x∈l.take i,p x=false)∨(e=.returned (.int .i64 (-1))∧∀x∈l,p x=false))∧Keep Never w w'
set_option maxHeartbeats 1000000 in
set_option maxRecDepth 100000 in
theorem indexfi_any (g:Nat) (lb:Array Value) (p:Int→Bool) (eg:∀args w,(callFunc g args).run Tryz.prog w=.ok (.enter g args) w) (A:Option Addr) (n c B:Nat) (l:List Int) (w:World) (hr:Rd w B 1 A n (l.map (.int .i64))) (hp:PredInt g lb p w) (hn:n≤100000000000) :
    Calls Tryz.prog 153 #[.slice A n c,.func (.func g) #[] lb] w (IdxRetI p l w):=by
  have HL:Hid (l.length=n):=qh (by have:=hr.1;rw[List.length_map] at this;omega)
  have HR:=qh hr
  have HP:=qh hp
  clear hr hp
  go_enter Tryz.func153, Tryz.ntmps153
  go_wp2_with fail
  go_loopw [5,8] (fun _ s8 wr=>∃k:Nat,k≤n∧s8=.int .i64 k∧Hid (Keep Never w wr∧∀x∈l.take k,p x=false)) (fun _ i _=>n - (intOf i).toNat)
  case atStart=>exact⟨0,by omega,rfl,qh ⟨Keep.refl _ _,by simp⟩⟩
  case round=>
   obtain⟨k,hk,rfl,HH⟩:=hrel
   by_cases h0:k<n
   ·have hki:(k:Int)<(n:Int):=by omega
    obtain⟨ad,s,hA,_,hs,c0⟩:=(HR.out.keep HH.out.1 (fun _ h=>h.elim)).at1 h0
    subst hA
    have hcall:=HP.out wr s HH.out.1
    have Hs:=qh hs
    have htk:Hid (l.take (k+1)=l.take k++[s]):=qh (by
     obtain⟨h2,h3⟩:=List.getElem?_eq_some_iff.1 hs
     rw[List.take_succ_eq_append_getElem h2,h3])
    clear hs
    cases hps:p s with
    | true=>
     rw[hps] at hcall
     have Hps:=qh hps
     clear hps
     go_wp2_with (go_at_fn g;refine hcall.mono ?_;rintro e w' ⟨rfl,hk'⟩)
     go_ret
     exact⟨.inl ⟨k,_,rfl,Hs.out,Hps.out,HH.out.2⟩,HH.out.1.trans hk'⟩
    | false=>
     rw[hps] at hcall
     have Hps:=qh hps
     clear hps
     go_wp2_with (go_at_fn g;refine hcall.mono ?_;rintro e w' ⟨rfl,hk'⟩)
     go_roundw
     case measure=>simp[intOf];try omega
     case rel=>
      refine⟨k+1,by omega,by go_num,qh ⟨HH.out.1.trans hk',fun x hx=>?_⟩⟩
      rw[htk.out] at hx
      rcases List.mem_append.1 hx with hx | hx
      ·exact HH.out.2 x hx
      ·simp at hx;subst hx;exact Hps.out
   ·obtain rfl:k=n:=by omega
    have hki:¬(k:Int)<(k:Int):=by omega
    have HN:Hid (∀x∈l,p x=false):=qh (by have:=HH.out.2;rwa [List.take_of_length_le (by have:=HL.out;omega)] at this)
    go_wp2_with fail
    go_ret
    exact⟨.inr ⟨rfl,HN.out⟩,HH.out.1⟩
set_option maxHeartbeats 1000000 in
set_option maxRecDepth 100000 in
theorem containsfi_any (g:Nat) (lb:Array Value) (p:Int→Bool) (eg:∀args w,(callFunc g args).run Tryz.prog w=.ok (.enter g args) w) (A:Option Addr) (n c B:Nat) (l:List Int) (w:World) (hr:Rd w B 1 A n (l.map (.int .i64))) (hp:PredInt g lb p w) (hn:n≤100000000000) :
    Calls Tryz.prog 100 #[.slice A n c,.func (.func g) #[] lb] w fun e w'=>e=.returned (.bool (l.any p))∧Keep Never w w':=by
  have HI:=qh (indexfi_any g lb p eg A n c B l w hr hp hn)
  clear hr hp
  go_enter Tryz.func100, Tryz.ntmps100
  go_wp2_with fail
  refine HI.out.mono ?_
  rintro e w' ⟨⟨i,s,rfl,h1,h2,h3⟩ | ⟨rfl,h1⟩,hk⟩
  ·have HA:Hid (l.any p=true):=qh (List.any_eq_true.2 ⟨s,List.mem_of_getElem? h1,h2⟩)
   have HK:=qh hk
   have hi:decide ((i:Int)≥0)=true:=by simp
   clear h1 h2 h3 hk
   go_wp2_with fail
   go_ret
   exact⟨by rw[HA.out];rfl,HK.out⟩
  ·have HA:Hid (l.any p=false):=qh (by rw[List.any_eq_false];intro x hx;rw[h1 x hx];simp)
   have HK:=qh hk
   clear h1 hk
   go_wp2_with fail
   go_ret
   exact⟨by rw[HA.out];rfl,HK.out⟩
def wrongB (n:Int):Bool:=decide (n<1) || decide (n>1000000)
def cutS (es:List Int) (lo hi:Int) (at_:Int) (s:Stp):Sp:=
  if s.2=true then (s.1,es.getD s.1.toNat 0 - min (hi - at_) (es.getD s.1.toNat 0),es.getD s.1.toNat 0 - max (lo - at_) 0) else (s.1,max (lo - at_) 0,min (hi - at_) (es.getD s.1.toNat 0))
end Go.Proofs.YtpapiojicbbheaaGreatDoor

namespace Go.Proofs.YtpapiojicbbheaaGreatDoor
open Go.RowKit
def firstE (f:Nat→Int):Nat→Int
  | 0=>0
  | k+1=>if firstE f k≠0 then firstE f k else f k
theorem firstE_zero {f:Nat→Int}:∀{n:Nat},(∀j,j<n→f j=0)→firstE f n=0
  | 0,_=>rfl
  | n+1,h=>by unfold firstE;rw[firstE_zero (fun j hj=>h j (by omega)),if_neg (by simp),h n (by omega)]
theorem firstE_at {f:Nat→Int}{k e:Int}{i:Nat}:∀{n:Nat},i<n→(∀j,j<i→f j=0)→f i=e→e≠0→firstE f n=e
  | 0,h,_,_,_=>by omega
  | n+1,h,h0,h1,h2=>by
   unfold firstE
   by_cases hi:i<n
   ·rw[firstE_at (k:=k) hi h0 h1 h2,if_pos h2]
   ·obtain rfl:i=n:=by omega
    rw[firstE_zero h0,if_neg (by simp),h1]
def jErr (t:Tp) (i:Nat):Int:=match t.2.1[i]? with
  | some j=>if endB t.1.length j.1=false∨endB t.1.length j.2=false∨j.1=j.2 then 1 else if joinB (t.2.1.take i) j.1 j.2=true then 5 else 0
  | none=>0
def bErr (t:Tp) (i:Nat):Int:=match t.2.2.1[i]? with
  | some b=>if b.1<0∨16777214<b.1∨thereB t.1.length b.2.1=false∨b.2.2<0∨t.1.getD b.2.1.toNat 0<b.2.2 then 1 else if (balM (t.2.2.1.take i) b.1).isSome=true then 5 else 0
  | none=>0
def rErr (t:Tp) (i:Nat):Int:=match t.2.2.2[i]? with
  | some r=>if routedM t r≠0 then routedM t r else if (rtM (t.2.2.2.take i) r.1).isSome=true then 5 else 0
  | none=>0
def checkM (t:Tp):Int:=
  if 40<t.1.length∨80<t.2.1.length∨80<t.2.2.1.length∨30<t.2.2.2.length then 2
  else if t.1.any wrongB=true then 1
  else if firstE (jErr t) t.2.1.length≠0 then firstE (jErr t) t.2.1.length
  else if firstE (bErr t) t.2.2.1.length≠0 then firstE (bErr t) t.2.2.1.length
  else firstE (rErr t) t.2.2.2.length
structure TpSmall (x:TA) (t:Tp):Prop where
  e:x.ne≤100000000
  j:x.nj≤100000000
  b:x.nb≤100000000
  r:x.nr≤100000000
  p:∀r∈t.2.2.2,r.2.1.length≤100000000
set_option maxHeartbeats 1000000 in
set_option maxRecDepth 100000 in
theorem chk1_any (n:Int) (w:World):Calls Tryz.prog 101 #[.int .i64 n] w fun e w'=>e=.returned (.bool (wrongB n))∧Keep Never w w':=by
 by_cases h1:n<1
 ·have t1:decide (n<1)=true:=by simpa using h1
  have HF:Hid (wrongB n=true):=qh (by unfold wrongB;rw[t1];rfl)
  clear h1
  go_enter Tryz.func101, Tryz.ntmps101
  go_wp2_with fail
  go_ret
  exact⟨by rw[HF.out];rfl,Keep.refl _ _⟩
 ·have t1:decide (n<1)=false:=by simpa using h1
  by_cases h2:n>1000000
  ·have t2:decide (n>1000000)=true:=by simpa using h2
   have HF:Hid (wrongB n=true):=qh (by unfold wrongB;rw[t1,t2];rfl)
   clear h1 h2
   go_enter Tryz.func101, Tryz.ntmps101
   go_wp2_with fail
   go_ret
   exact⟨by rw[HF.out];rfl,Keep.refl _ _⟩
  ·have t2:decide (n>1000000)=false:=by simpa using h2
   have HF:Hid (wrongB n=false):=qh (by unfold wrongB;rw[t1,t2];rfl)
   clear h1 h2
   go_enter Tryz.func101, Tryz.ntmps101
   go_wp2_with fail
   go_ret
   exact⟨by rw[HF.out];rfl,Keep.refl _ _⟩
theorem wrongc_any (A:Option Addr) (n c B:Nat) (l:List Int) (w:World) (hr:Rd w B 1 A n (l.map (.int .i64))) (hn:n≤100000000000) :
    Calls Tryz.prog 100 #[.slice A n c,.func (.func 101) #[] #[]] w fun e w'=>e=.returned (.bool (l.any wrongB))∧Keep Never w w':=
  containsfi_any _ _ wrongB (enters_of Tryz.func101 (by kernel_rfl) rfl) A n c B l w hr (fun W s _=>chk1_any s W) hn
set_option maxHeartbeats 40000000 in
set_option maxRecDepth 100000 in
theorem check_any (x:TA) (t:Tp) (B:Nat) (w:World) (ht:TpAt w B x t) (hs:TpSmall x t) (hB:B≤w.heap.size) :
    Calls Tryz.prog 39 #[.agg x.cs] w fun e w'=>e=.returned (.int .i64 (checkM t))∧Keep Never w w':=by
  have HT:=qh (fun i W=>there_any x i W)
  have HEn:Hid (∀(a1 a2:Int) W,Calls Tryz.prog 102 #[.agg x.cs,.agg #[.int .i64 a1,.int .i64 a2]] W fun e w'=>e=.returned (.bool (endB x.ne (a1,a2)))∧Keep Never W w'):=qh (fun a1 a2 W=>end_any x (a1,a2) W)
  have HRd:Hid (∀(r:Rt) A n c W,Keep Never w W→repStp.Sl W B A n c r.2.1→n≤100000000→Calls Tryz.prog 104 #[.agg x.cs,.agg #[.int .i64 r.1,.slice A n c,.int .i64 r.2.2.1,.int .i64 r.2.2.2]] W fun e w'=>e=.returned (.int .i64 (routedM t r))∧Keep Never W w'):=qh (fun r A n c W hk hr hn=>routed_any x t B r A n c W (ht.keep hk) hr hs.j hs.b hn)
  have HTp:=qh ht
  have HSm:=qh hs
  have HGB:=qh hB
  have qe:∀(w:World) (x1 x2 y1 y2:Int),(binOp .eql 132 (.agg #[.int .i64 x1,.int .i64 x2]) (.agg #[.int .i64 y1,.int .i64 y2])).run Tryz.prog w=.ok (.bool (sameE x1 x2 y1 y2)) w:=run_eq_end
  have HL:Hid (x.ne=t.1.length∧x.nj=t.2.1.length∧x.nb=t.2.2.1.length∧x.nr=t.2.2.2.length):=qh ⟨ht.e.len,ht.j.len,ht.b.len,ht.r.len⟩
  obtain⟨Ae,ne,ce,Aj,nj,cj,Ab,nb,cb,Ar,nr,cr⟩:=x
  simp only[TA.cs] at HT HEn HRd HL ⊢
  have hns:=hs
  obtain⟨hn1,hn2,hn3,hn4,hn5⟩:=hns
  simp only at hn1 hn2 hn3 hn4
  have HP5:=qh hn5
  obtain⟨w1,hw1⟩:∃wb:World,w.alloc (.cells #[.slice Ae ne ce,.slice Aj nj cj,.slice Ab nb cb,.slice Ar nr cr] 27)=wb:=⟨_,rfl⟩
  have k1:Keep Never w w1:=by rw[←hw1];exact(Keep.refl _ _).alloc _
  have b1:=Blk.new w 27 #[.slice Ae ne ce,.slice Aj nj cj,.slice Ab nb cb,.slice Ar nr cr]
  rw[hw1] at b1
  have HB1:=qh b1
  have HK:=qh k1
  obtain⟨y0,y1,y2,y3⟩:=bc4 HB1.out
  have HWr:=qh (wrongc_any Ae ne ce B t.1 w1 (int_rd (ht.e.keep k1 (fun _ h=>h.elim))) (by omega))
  clear k1 b1 ht hs hB hn5
  by_cases g1:40<ne
  ·have t1:decide ((ne:Int)>40)=true:=by simp;omega
   have HF:Hid (checkM t=2):=qh (by unfold checkM;rw[if_pos (.inl (by rw[←HL.out.1];exact g1))])
   clear g1
   go_enter Tryz.func39, Tryz.ntmps39
   go_wp2_with fail
   go_ret
   exact⟨by rw[HF.out];rfl,HK.out⟩
  have t1:decide ((ne:Int)>40)=false:=by simp;omega
  by_cases g2:80<nj
  ·have t2:decide ((nj:Int)>80)=true:=by simp;omega
   have HF:Hid (checkM t=2):=qh (by unfold checkM;rw[if_pos (.inr (.inl (by rw[←HL.out.2.1];exact g2)))])
   clear g1 g2
   go_enter Tryz.func39, Tryz.ntmps39
   go_wp2_with fail
   go_ret
   exact⟨by rw[HF.out];rfl,HK.out⟩
  have t2:decide ((nj:Int)>80)=false:=by simp;omega
  by_cases g3:80<nb
  ·have t3:decide ((nb:Int)>80)=true:=by simp;omega
   have HF:Hid (checkM t=2):=qh (by unfold checkM;rw[if_pos (.inr (.inr (.inl (by rw[←HL.out.2.2.1];exact g3))))])
   clear g1 g2 g3
   go_enter Tryz.func39, Tryz.ntmps39
   go_wp2_with fail
   go_ret
   exact⟨by rw[HF.out];rfl,HK.out⟩
  have t3:decide ((nb:Int)>80)=false:=by simp;omega
  by_cases g4:30<nr
  ·have t4:decide ((nr:Int)>30)=true:=by simp;omega
   have HF:Hid (checkM t=2):=qh (by unfold checkM;rw[if_pos (.inr (.inr (.inr (by rw[←HL.out.2.2.2];exact g4))))])
   clear g1 g2 g3 g4
   go_enter Tryz.func39, Tryz.ntmps39
   go_wp2_with fail
   go_ret
   exact⟨by rw[HF.out];rfl,HK.out⟩
  have t4:decide ((nr:Int)>30)=false:=by simp;omega
  have HN1:Hid (¬(40<t.1.length∨80<t.2.1.length∨80<t.2.2.1.length∨30<t.2.2.2.length)):=qh (by have:=HL.out;omega)
  clear g1 g2 g3 g4
  go_enter Tryz.func39, Tryz.ntmps39
  go_wp2_with fail
  refine HWr.out.mono ?_
  rintro e w2 ⟨rfl,hk2⟩
  have HK2:=qh hk2
  have y1':w2.cell? ⟨w.heap.size,1,none⟩=some (.slice Aj nj cj):=keepT hk2 y1
  clear hk2 HWr y0 y1 y2 y3 t1 t2 t3 t4
  cases hwr:t.1.any wrongB with
  | true=>
   have HF:Hid (checkM t=1):=qh (by unfold checkM;rw[if_neg HN1.out,if_pos hwr])
   clear hwr
   go_wp2_with fail
   go_ret
   exact⟨by rw[HF.out];rfl,HK.out.trans HK2.out⟩
  | false=>
   have HN2:Hid (¬t.1.any wrongB=true):=qh (by rw[hwr];simp)
   clear hwr
   go_wp2_with fail
   clear y1'
   go_loopw [3,4,42] (fun _ _ i wr=>∃k:Nat,k≤nj∧i=.int .i64 k∧Hid (Keep Never w1 wr∧∀j,j<k→jErr t j=0)) (fun _ _ i _=>nj - (intOf i).toNat)
   case atStart=>exact⟨0,by omega,rfl,qh ⟨HK2.out,fun j h=>by omega⟩⟩
   case round=>
    obtain⟨k,hk,rfl,HH⟩:=hrel
    by_cases h0:k<nj
    ·have hkz:(k:Int)<(nj:Int):=by omega
     obtain⟨ad,j,hA,_,hj,c0,c1,c2,c3⟩:=jt_at (HTp.out.keep (HK.out.trans HH.out.1)).j h0
     subst hA
     obtain⟨⟨x1,x2⟩,x3,x4⟩:=j
     simp only at c0 c1 c2 c3
     obtain⟨W1,hW1⟩:∃W:World,wr.alloc (.cells #[.int .i64 x1,.int .i64 x2,.int .i64 x3,.int .i64 x4] 134)=W:=⟨_,rfl⟩
     have K1:Keep Never wr W1:=by rw[←hW1];exact(Keep.refl _ _).alloc _
     have B1:=Blk.new wr 134 #[.int .i64 x1,.int .i64 x2,.int .i64 x3,.int .i64 x4]
     rw[hW1] at B1
     have HKW:=qh (HH.out.1.trans K1)
     have HJb:=qh B1
     obtain⟨d0,d1,d2,d3⟩:=bc4 B1
     have hb1:=HB1.out.keep HKW.out (fun h=>h)
     obtain⟨y0,y1,y2,y3⟩:=bc4 hb1
     have Hj:=qh hj
     have HJe:Hid ((endB ne (x1,x2)=false∨endB ne (x3,x4)=false∨((x1,x2):En)=(x3,x4))→checkM t=1):=qh (fun h=>by
      have h1:jErr t k=1:=by unfold jErr;rw[hj];simp only;rw[←HL.out.1,if_pos h]
      have h2:firstE (jErr t) t.2.1.length=1:=firstE_at (k:=0) (by rw[←HL.out.2.1];exact h0) HH.out.2 h1 (by decide)
      unfold checkM;rw[if_neg HN1.out,if_neg HN2.out,h2,if_pos (by decide)])
     clear hj K1 B1 hb1
     go_wp2_with fail
     refine(HEn.out _ _ _).mono ?_
     rintro e w3 ⟨rfl,hk3⟩
     have HK3:=qtr HKW hk3
     have HJ3:=qkb HJb hk3
     clear hk3 c0 c1 c2 c3 d0 d1 d2 d3 y0 y1 y2 y3
     obtain⟨d0,d1,d2,d3⟩:=bc4 HJ3.out
     have hb1:=HB1.out.keep HK3.out (fun h=>h)
     obtain⟨y0,y1,y2,y3⟩:=bc4 hb1
     clear hb1
     cases he1:endB ne (x1,x2) with
     | false=>
      have HF:=qh (HJe.out (.inl he1))
      clear he1
      go_wp2_with fail
      go_ret
      exact⟨by rw[HF.out];rfl,HK.out.trans HK3.out⟩
     | true=>
      have HE1:=qh he1
      clear he1
      go_wp2_with fail
      refine(HEn.out _ _ _).mono ?_
      rintro e w4 ⟨rfl,hk4⟩
      have HK4:=qtr HK3 hk4
      have HJ4:=qkb HJ3 hk4
      clear hk4 d0 d1 d2 d3 y0 y1 y2 y3
      obtain⟨d0,d1,d2,d3⟩:=bc4 HJ4.out
      have y1:w4.cell? ⟨w.heap.size,1,none⟩=some (.slice (some ad) nj cj):=(HB1.out.keep HK4.out (fun h=>h)).cell 1
      cases he2:endB ne (x3,x4) with
      | false=>
       have HF:=qh (HJe.out (.inr (.inl he2)))
       clear he2
       go_wp2_with fail
       go_ret
       exact⟨by rw[HF.out];rfl,HK.out.trans HK4.out⟩
      | true=>
       have HE2:=qh he2
       clear he2
       rcases Bool.eq_false_or_eq_true (sameE x1 x2 x3 x4) with t1 | t1
       ·have HF:=qh (HJe.out (.inr (.inr (of_decide_eq_true t1))))
        go_wp2_with fail
        go_ret
        exact⟨by rw[HF.out];rfl,HK.out.trans HK4.out⟩
       ·have HNe:Hid (¬((x1,x2):En)=(x3,x4)):=qh (of_decide_eq_false t1)
        have hq:=run_front Tryz.underlying23 Tryz.sizeOf134 (some ad) nj cj k hk HTp.out.j.cap
        have HJs:Hid (∀W,Keep Never w W→Calls Tryz.prog 103 #[.agg #[.slice none 0 0,.slice (some ad) k cj,.slice none 0 0,.slice none 0 0],.agg #[.int .i64 x1,.int .i64 x2],.agg #[.int .i64 x3,.int .i64 x4]] W fun e w'=>e=.returned (.bool (joinB (t.2.1.take k) (x1,x2) (x3,x4)))∧Keep Never W w'):=qh (fun W hk0=>joins_any ⟨none,0,0,some ad,k,cj,none,0,0,none,0,0⟩ ([],t.2.1.take k,[],[]) B (x1,x2) (x3,x4) W ⟨Rep.Sl.nil _ _ _,Sl.front (HTp.out.keep hk0).j hk,Rep.Sl.nil _ _ _,Rep.Sl.nil _ _ _⟩ (by show k≤100000000;omega))
        have HS4:Hid (∀w',Keep Never w4 w'→Keep Never w4 w'∧w'.cell? ⟨wr.heap.size,0,none⟩=some (.int .i64 x1)∧w'.cell? ⟨wr.heap.size,1,none⟩=some (.int .i64 x2)∧w'.cell? ⟨wr.heap.size,2,none⟩=some (.int .i64 x3)∧w'.cell? ⟨wr.heap.size,3,none⟩=some (.int .i64 x4)∧w'.cell? ⟨w.heap.size,1,none⟩=some (.slice (some ad) nj cj)):=qh (fun w' h=>⟨h,keepT h d0,keepT h d1,keepT h d2,keepT h d3,keepT h y1⟩)
        obtain⟨jb,hjb⟩:∃b,joinB (t.2.1.take k) (x1,x2) (x3,x4)=b:=⟨_,rfl⟩
        rw[hjb] at HJs
        have HJv:=qh hjb
        have HKw:=qh (HK.out.trans HK4.out)
        clear hjb
        go_wp2_with fail
        go_region_held3 (fun w'=>Keep Never w4 w'∧w'.cell? ⟨wr.heap.size,0,none⟩=some (.int .i64 x1)∧w'.cell? ⟨wr.heap.size,1,none⟩=some (.int .i64 x2)∧w'.cell? ⟨wr.heap.size,2,none⟩=some (.int .i64 x3)∧w'.cell? ⟨wr.heap.size,3,none⟩=some (.int .i64 x4)∧w'.cell? ⟨w.heap.size,1,none⟩=some (.slice (some ad) nj cj))
          (first| assumption | exact HS4.out _ ((Keep.refl Never w4).drew) | exact HS4.out _ (Keep.trans (And.left (by assumption)) hk'))
          (first
            | (go_at_call 103; refine(HJs.out _ (HKw.out.trans (by first | exact(Keep.refl Never w4).drew | exact And.left (by assumption)))).mono ?_;rintro e w' ⟨rfl,hk'⟩))
        rename_i hS
        have HKe:=qh (HK4.out.trans (And.left hS))
        clear hS hq d0 d1 d2 d3 y1 HJs HS4 HEn HRd
        cases jb with
        | true=>
         have HF:Hid (checkM t=5):=qh (by
          have h1:jErr t k=5:=by unfold jErr;rw[Hj.out];simp only;rw[←HL.out.1,if_neg (by rw[HE1.out,HE2.out];simpa using HNe.out),if_pos HJv.out]
          have h2:firstE (jErr t) t.2.1.length=5:=firstE_at (k:=0) (by rw[←HL.out.2.1];exact h0) HH.out.2 h1 (by decide)
          unfold checkM;rw[if_neg HN1.out,if_neg HN2.out,h2,if_pos (by decide)])
         go_wp2_with fail
         go_ret
         exact⟨by rw[HF.out];rfl,HK.out.trans HKe.out⟩
        | false=>
         have HZ:Hid (jErr t k=0):=qh (by unfold jErr;rw[Hj.out];simp only;rw[←HL.out.1,if_neg (by rw[HE1.out,HE2.out];simpa using HNe.out),if_neg (by rw[HJv.out];simp)])
         go_wp2_with fail
         refine⟨⟨k+1,by omega,by go_num,qh ⟨HKe.out,fun j hj=>?_⟩⟩,?_⟩
         ·by_cases e:j=k
          ·rw[e];exact HZ.out
          ·exact HH.out.2 j (by omega)
         ·simp[intOf];try omega
    ·obtain rfl:k=nj:=by omega
     have hkz:¬(k:Int)<(k:Int):=by omega
     have HN3:Hid (¬firstE (jErr t) t.2.1.length≠0):=qh (by rw[firstE_zero (fun j hj=>HH.out.2 j (by rw[HL.out.2.1];exact hj))];simp)
     have HKr:=qh HH.out.1
     have y2:wr.cell? ⟨w.heap.size,2,none⟩=some (.slice Ab nb cb):=(HB1.out.keep HH.out.1 (fun h=>h)).cell 2
     clear HH HEn
     go_wp2_with fail
     clear y2
     go_loopw [5,6,7,8,80] (fun _ _ _ _ i wr=>∃q:Nat,q≤nb∧i=.int .i64 q∧Hid (Keep Never w1 wr∧∀j,j<q→bErr t j=0)) (fun _ _ _ _ i _=>nb - (intOf i).toNat)
     case atStart=>exact⟨0,by omega,rfl,qh ⟨HKr.out,fun j h=>by omega⟩⟩
     case round=>
      rename Nat=>nj
      obtain⟨k,hk,rfl,HH⟩:=hrel
      by_cases h0:k<nb
      ·have hkz:(k:Int)<(nb:Int):=by omega
       obtain⟨ad,b,hA,_,hb,c0,c1,c2⟩:=(bl_rd (HTp.out.keep (HK.out.trans HH.out.1)).b).sp h0
       simp only at hA
       subst hA
       obtain⟨x1,x2,x3⟩:=b
       simp only at c0 c1 c2
       obtain⟨W1,hW1⟩:∃W:World,wr.alloc (.cells #[.int .i64 x1,.int .i64 x2,.int .i64 x3] 94)=W:=⟨_,rfl⟩
       have K1:Keep Never wr W1:=by rw[←hW1];exact(Keep.refl _ _).alloc _
       have B1:=Blk.new wr 94 #[.int .i64 x1,.int .i64 x2,.int .i64 x3]
       rw[hW1] at B1
       have HKW:=qh (HH.out.1.trans K1)
       obtain⟨d0,d1,d2⟩:=bc3 B1
       have hb1:=HB1.out.keep HKW.out (fun h=>h)
       have y2o:wr.cell? ⟨w.heap.size,2,none⟩=some (.slice (some ad) nb cb):=(HB1.out.keep HH.out.1 (fun h=>h)).cell 2
       obtain⟨y0,y1,y2,y3⟩:=bc4 hb1
       have Hb:=qh hb
       have HBe:Hid ((x1<0∨16777214<x1∨thereB ne x2=false∨x3<0∨t.1.getD x2.toNat 0<x3)→checkM t=1):=qh (fun h=>by
        have h1:bErr t k=1:=by unfold bErr;rw[hb];simp only;rw[←HL.out.1,if_pos h]
        have h2:firstE (bErr t) t.2.2.1.length=1:=firstE_at (k:=0) (by rw[←HL.out.2.2.1];exact h0) HH.out.2 h1 (by decide)
        unfold checkM;rw[if_neg HN1.out,if_neg HN2.out,if_neg HN3.out,h2,if_pos (by decide)])
       have hTt:=HT.out x2
       clear hb K1 B1 hb1 HRd HT
       go_wp2_with fail
       clear c0 c1 c2 hW1 y2o
       by_cases g1:x1<0
       ·have t1:decide (x1<0)=true:=by simpa using g1
        have HF:=qh (HBe.out (.inl g1))
        have HS8:Hid (∀w',Keep Never W1 w'→Keep Never W1 w'∧w'.cell? ⟨wr.heap.size,0,none⟩=some (.int .i64 x1)∧w'.cell? ⟨wr.heap.size,1,none⟩=some (.int .i64 x2)∧w'.cell? ⟨wr.heap.size,2,none⟩=some (.int .i64 x3)∧w'.cell? ⟨w.heap.size,0,none⟩=some (.slice Ae ne ce)∧w'.cell? ⟨w.heap.size,1,none⟩=some (.slice Aj nj cj)∧w'.cell? ⟨w.heap.size,2,none⟩=some (.slice (some ad) nb cb)∧w'.cell? ⟨w.heap.size,3,none⟩=some (.slice Ar nr cr)∧w'.cell? ⟨wr.heap.size,0,none⟩=some (.int .i64 x1)):=qh (fun w' h=>⟨h,keepT h d0,keepT h d1,keepT h d2,keepT h y0,keepT h y1,keepT h y2,keepT h y3,keepT h d0⟩)
        clear g1 hTt HBe
        refine wp_region_noPanic ?_
        refine wp_region_held_drew (S:=(fun w'=>Keep Never W1 w'∧w'.cell? ⟨wr.heap.size,0,none⟩=some (.int .i64 x1)∧w'.cell? ⟨wr.heap.size,1,none⟩=some (.int .i64 x2)∧w'.cell? ⟨wr.heap.size,2,none⟩=some (.int .i64 x3)∧w'.cell? ⟨w.heap.size,0,none⟩=some (.slice Ae ne ce)∧w'.cell? ⟨w.heap.size,1,none⟩=some (.slice Aj nj cj)∧w'.cell? ⟨w.heap.size,2,none⟩=some (.slice (some ad) nb cb)∧w'.cell? ⟨w.heap.size,3,none⟩=some (.slice Ar nr cr)∧w'.cell? ⟨wr.heap.size,0,none⟩=some (.int .i64 x1))) (by kernel_rfl) ?_ (fun hHeld=>?_)
        ·exact HS8.out _ ((Keep.refl Never W1).drew)
        refine qT 0 ?_
        try simp only[qy]
        refine qT 1 ?_
        try simp only[qy]
        refine qT 2 ?_
        try simp only[qy]
        refine qT 3 ?_
        try simp only[qy]
        refine qU 4 ?_
        try simp only[qy]
        refine qU 5 ?_
        try simp only[qy]
        refine qU 6 ?_
        try simp only[qy]
        refine qT 7 ?_
        try simp only[qy]
        refine qT 8 ?_
        try simp only[qy]
        refine qU 9 ?_
        try simp only[qy]
        refine qU 10 ?_
        try simp only[qy]
        refine qU 11 ?_
        try simp only[qy]
        refine qU 12 ?_
        try simp only[qy]
        refine qU 13 ?_
        try simp only[qy]
        refine qT 14 ?_
        try simp only[qy]
        refine qT 15 ?_
        try simp only[qy]
        refine qU 16 ?_
        try simp only[qy]
        refine qU 17 ?_
        try simp only[qy]
        refine qU 18 ?_
        try simp only[qy]
        refine qT 19 ?_
        try simp only[qy]
        refine qT 20 ?_
        try simp only[qy]
        refine qU 21 ?_
        try simp only[qy]
        refine qU 22 ?_
        try simp only[qy]
        refine qU 23 ?_
        try simp only[qy]
        refine qU 24 ?_
        try simp only[qy]
        refine qU 25 ?_
        try simp only[qy]
        refine qU 26 ?_
        try simp only[qy]
        refine qU 27 ?_
        try simp only[qy]
        refine qU 28 ?_
        try simp only[qy]
        refine qU 29 ?_
        try simp only[qy]
        refine qT 30 ?_
        try simp only[qy]
        refine wpAnyH_done (by kernel_rfl) ?_ _
        refine NoPanic.normal ?_
        have hS:=hHeld
        have HKe:=qh (And.left hS)
        clear hS hHeld HS8 d0 d1 d2 y0 y1 y2 y3
        go_wp2_with fail
        go_ret
        exact⟨by rw[HF.out];rfl,HK.out.trans (HKW.out.trans HKe.out)⟩
       have t1:decide (x1<0)=false:=by simpa using g1
       by_cases g2:16777214<x1
       ·have t2:decide (x1>16777214)=true:=by simpa using g2
        have HF:=qh (HBe.out (.inr (.inl g2)))
        have HS8:Hid (∀w',Keep Never W1 w'→Keep Never W1 w'∧w'.cell? ⟨wr.heap.size,0,none⟩=some (.int .i64 x1)∧w'.cell? ⟨wr.heap.size,1,none⟩=some (.int .i64 x2)∧w'.cell? ⟨wr.heap.size,2,none⟩=some (.int .i64 x3)∧w'.cell? ⟨w.heap.size,0,none⟩=some (.slice Ae ne ce)∧w'.cell? ⟨w.heap.size,1,none⟩=some (.slice Aj nj cj)∧w'.cell? ⟨w.heap.size,2,none⟩=some (.slice (some ad) nb cb)∧w'.cell? ⟨w.heap.size,3,none⟩=some (.slice Ar nr cr)∧w'.cell? ⟨wr.heap.size,0,none⟩=some (.int .i64 x1)):=qh (fun w' h=>⟨h,keepT h d0,keepT h d1,keepT h d2,keepT h y0,keepT h y1,keepT h y2,keepT h y3,keepT h d0⟩)
        clear g1 g2 hTt HBe
        refine wp_region_noPanic ?_
        refine wp_region_held_drew (S:=(fun w'=>Keep Never W1 w'∧w'.cell? ⟨wr.heap.size,0,none⟩=some (.int .i64 x1)∧w'.cell? ⟨wr.heap.size,1,none⟩=some (.int .i64 x2)∧w'.cell? ⟨wr.heap.size,2,none⟩=some (.int .i64 x3)∧w'.cell? ⟨w.heap.size,0,none⟩=some (.slice Ae ne ce)∧w'.cell? ⟨w.heap.size,1,none⟩=some (.slice Aj nj cj)∧w'.cell? ⟨w.heap.size,2,none⟩=some (.slice (some ad) nb cb)∧w'.cell? ⟨w.heap.size,3,none⟩=some (.slice Ar nr cr)∧w'.cell? ⟨wr.heap.size,0,none⟩=some (.int .i64 x1))) (by kernel_rfl) ?_ (fun hHeld=>?_)
        ·exact HS8.out _ ((Keep.refl Never W1).drew)
        refine qT 0 ?_
        try simp only[qy]
        refine qT 1 ?_
        try simp only[qy]
        refine qT 2 ?_
        try simp only[qy]
        refine qT 3 ?_
        try simp only[qy]
        refine qT 4 ?_
        try simp only[qy]
        refine qT 5 ?_
        try simp only[qy]
        refine qT 6 ?_
        try simp only[qy]
        refine qT 7 ?_
        try simp only[qy]
        refine qT 8 ?_
        try simp only[qy]
        refine qU 9 ?_
        try simp only[qy]
        refine qU 10 ?_
        try simp only[qy]
        refine qU 11 ?_
        try simp only[qy]
        refine qU 12 ?_
        try simp only[qy]
        refine qU 13 ?_
        try simp only[qy]
        refine qT 14 ?_
        try simp only[qy]
        refine qT 15 ?_
        try simp only[qy]
        refine qU 16 ?_
        try simp only[qy]
        refine qU 17 ?_
        try simp only[qy]
        refine qU 18 ?_
        try simp only[qy]
        refine qT 19 ?_
        try simp only[qy]
        refine qT 20 ?_
        try simp only[qy]
        refine qU 21 ?_
        try simp only[qy]
        refine qU 22 ?_
        try simp only[qy]
        refine qU 23 ?_
        try simp only[qy]
        refine qU 24 ?_
        try simp only[qy]
        refine qU 25 ?_
        try simp only[qy]
        refine qU 26 ?_
        try simp only[qy]
        refine qU 27 ?_
        try simp only[qy]
        refine qU 28 ?_
        try simp only[qy]
        refine qU 29 ?_
        try simp only[qy]
        refine qT 30 ?_
        try simp only[qy]
        refine wpAnyH_done (by kernel_rfl) ?_ _
        refine NoPanic.normal ?_
        have hS:=hHeld
        have HKe:=qh (And.left hS)
        clear hS hHeld HS8 d0 d1 d2 y0 y1 y2 y3
        go_wp2_with fail
        go_ret
        exact⟨by rw[HF.out];rfl,HK.out.trans (HKW.out.trans HKe.out)⟩
       have t2:decide (x1>16777214)=false:=by simpa using g2
       cases htb:thereB ne x2 with
       | false=>
        rw[htb] at hTt
        have HTt:=qh hTt
        have HF:=qh (HBe.out (.inr (.inr (.inl htb))))
        have HS8:Hid (∀w',Keep Never W1 w'→Keep Never W1 w'∧w'.cell? ⟨wr.heap.size,0,none⟩=some (.int .i64 x1)∧w'.cell? ⟨wr.heap.size,1,none⟩=some (.int .i64 x2)∧w'.cell? ⟨wr.heap.size,2,none⟩=some (.int .i64 x3)∧w'.cell? ⟨w.heap.size,0,none⟩=some (.slice Ae ne ce)∧w'.cell? ⟨w.heap.size,1,none⟩=some (.slice Aj nj cj)∧w'.cell? ⟨w.heap.size,2,none⟩=some (.slice (some ad) nb cb)∧w'.cell? ⟨w.heap.size,3,none⟩=some (.slice Ar nr cr)∧w'.cell? ⟨wr.heap.size,0,none⟩=some (.int .i64 x1)):=qh (fun w' h=>⟨h,keepT h d0,keepT h d1,keepT h d2,keepT h y0,keepT h y1,keepT h y2,keepT h y3,keepT h d0⟩)
        clear g1 g2 hTt htb HBe
        refine wp_region_noPanic ?_
        refine wp_region_held_drew (S:=(fun w'=>Keep Never W1 w'∧w'.cell? ⟨wr.heap.size,0,none⟩=some (.int .i64 x1)∧w'.cell? ⟨wr.heap.size,1,none⟩=some (.int .i64 x2)∧w'.cell? ⟨wr.heap.size,2,none⟩=some (.int .i64 x3)∧w'.cell? ⟨w.heap.size,0,none⟩=some (.slice Ae ne ce)∧w'.cell? ⟨w.heap.size,1,none⟩=some (.slice Aj nj cj)∧w'.cell? ⟨w.heap.size,2,none⟩=some (.slice (some ad) nb cb)∧w'.cell? ⟨w.heap.size,3,none⟩=some (.slice Ar nr cr)∧w'.cell? ⟨wr.heap.size,0,none⟩=some (.int .i64 x1))) (by kernel_rfl) ?_ (fun hHeld=>?_)
        ·exact HS8.out _ ((Keep.refl Never W1).drew)
        refine qT 0 ?_
        try simp only[qy]
        refine qT 1 ?_
        try simp only[qy]
        refine qT 2 ?_
        try simp only[qy]
        refine qT 3 ?_
        try simp only[qy]
        refine qT 4 ?_
        try simp only[qy]
        refine qT 5 ?_
        try simp only[qy]
        refine qT 6 ?_
        try simp only[qy]
        refine qT 7 ?_
        try simp only[qy]
        refine qT 8 ?_
        try simp only[qy]
        refine qT 9 ?_
        try simp only[qy]
        refine qT 10 ?_
        try simp only[qy]
        refine qT 11 ?_
        try simp only[qy]
        refine wpAnyH_ready (rs:=[12]) (by kernel_rfl) (by simp) ?_
        refine AllReadyH.cons (o:=?_) ?_ (fun K hK=>?_) AllReadyH.nil
        rotate_left 1
        ·(simp only[qz];rfl)
        go_simp
        first
         | (go_at_call 84; refine(HTt.out _).mono ?_;rintro e w' ⟨rfl,hk'⟩)
        (try go_wp2_with fail)
        refine hK.out _ _ ?_ (fun hHeld=>?_)
        ·(try dsimp only);exact HS8.out _ (Keep.trans (And.left (by assumption)) hk')
        clear hK K
        try simp only[qy]
        refine qT 13 ?_
        try simp only[qy]
        refine qT 14 ?_
        try simp only[qy]
        refine qT 15 ?_
        try simp only[qy]
        refine qU 16 ?_
        try simp only[qy]
        refine qU 17 ?_
        try simp only[qy]
        refine qU 18 ?_
        try simp only[qy]
        refine qT 19 ?_
        try simp only[qy]
        refine qT 20 ?_
        try simp only[qy]
        refine qU 21 ?_
        try simp only[qy]
        refine qU 22 ?_
        try simp only[qy]
        refine qU 23 ?_
        try simp only[qy]
        refine qU 24 ?_
        try simp only[qy]
        refine qU 25 ?_
        try simp only[qy]
        refine qU 26 ?_
        try simp only[qy]
        refine qU 27 ?_
        try simp only[qy]
        refine qU 28 ?_
        try simp only[qy]
        refine qU 29 ?_
        try simp only[qy]
        refine qT 30 ?_
        try simp only[qy]
        refine wpAnyH_done (by kernel_rfl) ?_ _
        refine NoPanic.normal ?_
        have hS:=hHeld
        have HKe:=qh (And.left hS)
        clear hS hHeld HS8 d0 d1 d2 y0 y1 y2 y3
        go_wp2_with fail
        go_ret
        exact⟨by rw[HF.out];rfl,HK.out.trans (HKW.out.trans HKe.out)⟩
       | true=>
        rw[htb] at hTt
        have HTt:=qh hTt
        by_cases g3:x3<0
        ·have t3:decide (x3<0)=true:=by simpa using g3
         have HF:=qh (HBe.out (.inr (.inr (.inr (.inl g3)))))
         have HS8:Hid (∀w',Keep Never W1 w'→Keep Never W1 w'∧w'.cell? ⟨wr.heap.size,0,none⟩=some (.int .i64 x1)∧w'.cell? ⟨wr.heap.size,1,none⟩=some (.int .i64 x2)∧w'.cell? ⟨wr.heap.size,2,none⟩=some (.int .i64 x3)∧w'.cell? ⟨w.heap.size,0,none⟩=some (.slice Ae ne ce)∧w'.cell? ⟨w.heap.size,1,none⟩=some (.slice Aj nj cj)∧w'.cell? ⟨w.heap.size,2,none⟩=some (.slice (some ad) nb cb)∧w'.cell? ⟨w.heap.size,3,none⟩=some (.slice Ar nr cr)∧w'.cell? ⟨wr.heap.size,0,none⟩=some (.int .i64 x1)):=qh (fun w' h=>⟨h,keepT h d0,keepT h d1,keepT h d2,keepT h y0,keepT h y1,keepT h y2,keepT h y3,keepT h d0⟩)
         clear g1 g2 g3 hTt htb HBe
         refine wp_region_noPanic ?_
         refine wp_region_held_drew (S:=(fun w'=>Keep Never W1 w'∧w'.cell? ⟨wr.heap.size,0,none⟩=some (.int .i64 x1)∧w'.cell? ⟨wr.heap.size,1,none⟩=some (.int .i64 x2)∧w'.cell? ⟨wr.heap.size,2,none⟩=some (.int .i64 x3)∧w'.cell? ⟨w.heap.size,0,none⟩=some (.slice Ae ne ce)∧w'.cell? ⟨w.heap.size,1,none⟩=some (.slice Aj nj cj)∧w'.cell? ⟨w.heap.size,2,none⟩=some (.slice (some ad) nb cb)∧w'.cell? ⟨w.heap.size,3,none⟩=some (.slice Ar nr cr)∧w'.cell? ⟨wr.heap.size,0,none⟩=some (.int .i64 x1))) (by kernel_rfl) ?_ (fun hHeld=>?_)
         ·exact HS8.out _ ((Keep.refl Never W1).drew)
         refine qT 0 ?_
         try simp only[qy]
         refine qT 1 ?_
         try simp only[qy]
         refine qT 2 ?_
         try simp only[qy]
         refine qT 3 ?_
         try simp only[qy]
         refine qT 4 ?_
         try simp only[qy]
         refine qT 5 ?_
         try simp only[qy]
         refine qT 6 ?_
         try simp only[qy]
         refine qT 7 ?_
         try simp only[qy]
         refine qT 8 ?_
         try simp only[qy]
         refine qT 9 ?_
         try simp only[qy]
         refine qT 10 ?_
         try simp only[qy]
         refine qT 11 ?_
         try simp only[qy]
         refine wpAnyH_ready (rs:=[12]) (by kernel_rfl) (by simp) ?_
         refine AllReadyH.cons (o:=?_) ?_ (fun K hK=>?_) AllReadyH.nil
         rotate_left 1
         ·(simp only[qz];rfl)
         go_simp
         first
          | (go_at_call 84; refine(HTt.out _).mono ?_;rintro e w' ⟨rfl,hk'⟩)
         (try go_wp2_with fail)
         refine hK.out _ _ ?_ (fun hHeld=>?_)
         ·(try dsimp only);exact HS8.out _ (Keep.trans (And.left (by assumption)) hk')
         clear hK K
         try simp only[qy]
         refine qT 13 ?_
         try simp only[qy]
         refine qT 14 ?_
         try simp only[qy]
         refine qT 15 ?_
         try simp only[qy]
         refine qT 16 ?_
         try simp only[qy]
         refine qT 17 ?_
         try simp only[qy]
         refine qT 18 ?_
         try simp only[qy]
         refine qT 19 ?_
         try simp only[qy]
         refine qT 20 ?_
         try simp only[qy]
         refine qU 21 ?_
         try simp only[qy]
         refine qU 22 ?_
         try simp only[qy]
         refine qU 23 ?_
         try simp only[qy]
         refine qU 24 ?_
         try simp only[qy]
         refine qU 25 ?_
         try simp only[qy]
         refine qU 26 ?_
         try simp only[qy]
         refine qU 27 ?_
         try simp only[qy]
         refine qU 28 ?_
         try simp only[qy]
         refine qU 29 ?_
         try simp only[qy]
         refine qT 30 ?_
         try simp only[qy]
         refine wpAnyH_done (by kernel_rfl) ?_ _
         refine NoPanic.normal ?_
         have hS:=hHeld
         have HKe:=qh (And.left hS)
         clear hS hHeld HS8 d0 d1 d2 y0 y1 y2 y3
         go_wp2_with fail
         go_ret
         exact⟨by rw[HF.out];rfl,HK.out.trans (HKW.out.trans HKe.out)⟩
        have t3:decide (x3<0)=false:=by simpa using g3
        have hin:=there_in htb
        have HTb:=qh htb
        obtain⟨e,rfl⟩:∃e:Nat,x2=(e:Int):=⟨x2.toNat,by omega⟩
        have hen:e<ne:=by omega
        obtain⟨ad2,v,hA2,_,hv,g0⟩:=(int_rd (HTp.out.keep (HK.out.trans HKW.out)).e).at1 hen
        simp only at hA2
        subst hA2
        have hez:(e:Int)<(ne:Int):=by omega
        have he0:(0:Int)≤(e:Int):=by omega
        have HV:Hid (t.1.getD (e:Int).toNat 0=v):=qh (by rw[List.getD_eq_getElem?_getD,Int.toNat_natCast,hv];rfl)
        clear hv htb hTt hin
        by_cases g4:v<x3
        ·have t4:decide (x3>v)=true:=by simpa using g4
         have HF:=qh (HBe.out (.inr (.inr (.inr (.inr (by rw[HV.out];exact g4))))))
         have HS8:Hid (∀w',Keep Never W1 w'→Keep Never W1 w'∧w'.cell? ⟨wr.heap.size,0,none⟩=some (.int .i64 x1)∧w'.cell? ⟨wr.heap.size,1,none⟩=some (.int .i64 (e:Int))∧w'.cell? ⟨wr.heap.size,2,none⟩=some (.int .i64 x3)∧w'.cell? ⟨w.heap.size,0,none⟩=some (.slice (some ad2) ne ce)∧w'.cell? ⟨w.heap.size,1,none⟩=some (.slice Aj nj cj)∧w'.cell? ⟨w.heap.size,2,none⟩=some (.slice (some ad) nb cb)∧w'.cell? ⟨w.heap.size,3,none⟩=some (.slice Ar nr cr)∧w'.cell? (ad2.add e)=some (.int .i64 v)):=qh (fun w' h=>⟨h,keepT h d0,keepT h d1,keepT h d2,keepT h y0,keepT h y1,keepT h y2,keepT h y3,keepT h g0⟩)
         clear g1 g2 g3 g4 HBe
         refine wp_region_noPanic ?_
         refine wp_region_held_drew (S:=(fun w'=>Keep Never W1 w'∧w'.cell? ⟨wr.heap.size,0,none⟩=some (.int .i64 x1)∧w'.cell? ⟨wr.heap.size,1,none⟩=some (.int .i64 (e:Int))∧w'.cell? ⟨wr.heap.size,2,none⟩=some (.int .i64 x3)∧w'.cell? ⟨w.heap.size,0,none⟩=some (.slice (some ad2) ne ce)∧w'.cell? ⟨w.heap.size,1,none⟩=some (.slice Aj nj cj)∧w'.cell? ⟨w.heap.size,2,none⟩=some (.slice (some ad) nb cb)∧w'.cell? ⟨w.heap.size,3,none⟩=some (.slice Ar nr cr)∧w'.cell? (ad2.add e)=some (.int .i64 v))) (by kernel_rfl) ?_ (fun hHeld=>?_)
         ·exact HS8.out _ ((Keep.refl Never W1).drew)
         refine qT 0 ?_
         try simp only[qy]
         refine qT 1 ?_
         try simp only[qy]
         refine qT 2 ?_
         try simp only[qy]
         refine qT 3 ?_
         try simp only[qy]
         refine qT 4 ?_
         try simp only[qy]
         refine qT 5 ?_
         try simp only[qy]
         refine qT 6 ?_
         try simp only[qy]
         refine qT 7 ?_
         try simp only[qy]
         refine qT 8 ?_
         try simp only[qy]
         refine qT 9 ?_
         try simp only[qy]
         refine qT 10 ?_
         try simp only[qy]
         refine qT 11 ?_
         try simp only[qy]
         refine wpAnyH_ready (rs:=[12]) (by kernel_rfl) (by simp) ?_
         refine AllReadyH.cons (o:=?_) ?_ (fun K hK=>?_) AllReadyH.nil
         rotate_left 1
         ·(simp only[qz];rfl)
         go_simp
         first
          | (go_at_call 84; refine(HTt.out _).mono ?_;rintro e w' ⟨rfl,hk'⟩)
         (try go_wp2_with fail)
         refine hK.out _ _ ?_ (fun hHeld=>?_)
         ·(try dsimp only);exact HS8.out _ (Keep.trans (And.left (by assumption)) hk')
         clear hK K
         try simp only[qy]
         refine qT 13 ?_
         try simp only[qy]
         refine qT 14 ?_
         try simp only[qy]
         refine qT 15 ?_
         try simp only[qy]
         refine qT 16 ?_
         try simp only[qy]
         refine qT 17 ?_
         try simp only[qy]
         refine qT 18 ?_
         try simp only[qy]
         refine qT 19 ?_
         try simp only[qy]
         refine qT 20 ?_
         try simp only[qy]
         refine qT 21 ?_
         try simp only[qy]
         refine qT 22 ?_
         try simp only[qy]
         refine qT 23 ?_
         try simp only[qy]
         refine qT 24 ?_
         try simp only[qy]
         refine qT 25 ?_
         try simp only[qy]
         refine qT 26 ?_
         try simp only[qy]
         refine qT 27 ?_
         try simp only[qy]
         refine qT 28 ?_
         try simp only[qy]
         refine qT 29 ?_
         try simp only[qy]
         refine qT 30 ?_
         try simp only[qy]
         refine wpAnyH_done (by kernel_rfl) ?_ _
         refine NoPanic.normal ?_
         have hS:=hHeld
         have HKe:=qh (And.left hS)
         clear hS hHeld HS8 d0 d1 d2 y0 y1 y2 y3
         go_wp2_with fail
         go_ret
         exact⟨by rw[HF.out];rfl,HK.out.trans (HKW.out.trans HKe.out)⟩
        have t4:decide (x3>v)=false:=by simpa using g4
        have HNb:Hid (¬(x1<0∨16777214<x1∨thereB ne (e:Int)=false∨x3<0∨t.1.getD (e:Int).toNat 0<x3)):=qh (by rw[HV.out,HTb.out];simp;omega)
        have HS8:Hid (∀w',Keep Never W1 w'→Keep Never W1 w'∧w'.cell? ⟨wr.heap.size,0,none⟩=some (.int .i64 x1)∧w'.cell? ⟨wr.heap.size,1,none⟩=some (.int .i64 (e:Int))∧w'.cell? ⟨wr.heap.size,2,none⟩=some (.int .i64 x3)∧w'.cell? ⟨w.heap.size,0,none⟩=some (.slice (some ad2) ne ce)∧w'.cell? ⟨w.heap.size,1,none⟩=some (.slice Aj nj cj)∧w'.cell? ⟨w.heap.size,2,none⟩=some (.slice (some ad) nb cb)∧w'.cell? ⟨w.heap.size,3,none⟩=some (.slice Ar nr cr)∧w'.cell? (ad2.add e)=some (.int .i64 v)):=qh (fun w' h=>⟨h,keepT h d0,keepT h d1,keepT h d2,keepT h y0,keepT h y1,keepT h y2,keepT h y3,keepT h g0⟩)
        clear g1 g2 g3 g4 HBe
        refine wp_region_noPanic ?_
        refine wp_region_held_drew (S:=(fun w'=>Keep Never W1 w'∧w'.cell? ⟨wr.heap.size,0,none⟩=some (.int .i64 x1)∧w'.cell? ⟨wr.heap.size,1,none⟩=some (.int .i64 (e:Int))∧w'.cell? ⟨wr.heap.size,2,none⟩=some (.int .i64 x3)∧w'.cell? ⟨w.heap.size,0,none⟩=some (.slice (some ad2) ne ce)∧w'.cell? ⟨w.heap.size,1,none⟩=some (.slice Aj nj cj)∧w'.cell? ⟨w.heap.size,2,none⟩=some (.slice (some ad) nb cb)∧w'.cell? ⟨w.heap.size,3,none⟩=some (.slice Ar nr cr)∧w'.cell? (ad2.add e)=some (.int .i64 v))) (by kernel_rfl) ?_ (fun hHeld=>?_)
        ·exact HS8.out _ ((Keep.refl Never W1).drew)
        refine qT 0 ?_
        try simp only[qy]
        refine qT 1 ?_
        try simp only[qy]
        refine qT 2 ?_
        try simp only[qy]
        refine qT 3 ?_
        try simp only[qy]
        refine qT 4 ?_
        try simp only[qy]
        refine qT 5 ?_
        try simp only[qy]
        refine qT 6 ?_
        try simp only[qy]
        refine qT 7 ?_
        try simp only[qy]
        refine qT 8 ?_
        try simp only[qy]
        refine qT 9 ?_
        try simp only[qy]
        refine qT 10 ?_
        try simp only[qy]
        refine qT 11 ?_
        try simp only[qy]
        refine wpAnyH_ready (rs:=[12]) (by kernel_rfl) (by simp) ?_
        refine AllReadyH.cons (o:=?_) ?_ (fun K hK=>?_) AllReadyH.nil
        rotate_left 1
        ·(simp only[qz];rfl)
        go_simp
        first
         | (go_at_call 84; refine(HTt.out _).mono ?_;rintro e w' ⟨rfl,hk'⟩)
        (try go_wp2_with fail)
        refine hK.out _ _ ?_ (fun hHeld=>?_)
        ·(try dsimp only);exact HS8.out _ (Keep.trans (And.left (by assumption)) hk')
        clear hK K
        try simp only[qy]
        refine qT 13 ?_
        try simp only[qy]
        refine qT 14 ?_
        try simp only[qy]
        refine qT 15 ?_
        try simp only[qy]
        refine qT 16 ?_
        try simp only[qy]
        refine qT 17 ?_
        try simp only[qy]
        refine qT 18 ?_
        try simp only[qy]
        refine qT 19 ?_
        try simp only[qy]
        refine qT 20 ?_
        try simp only[qy]
        refine qT 21 ?_
        try simp only[qy]
        refine qT 22 ?_
        try simp only[qy]
        refine qT 23 ?_
        try simp only[qy]
        refine qT 24 ?_
        try simp only[qy]
        refine qT 25 ?_
        try simp only[qy]
        refine qT 26 ?_
        try simp only[qy]
        refine qT 27 ?_
        try simp only[qy]
        refine qT 28 ?_
        try simp only[qy]
        refine qT 29 ?_
        try simp only[qy]
        refine qT 30 ?_
        try simp only[qy]
        refine wpAnyH_done (by kernel_rfl) ?_ _
        refine NoPanic.normal ?_
        have hS:=hHeld
        have HKe:=qh (HKW.out.trans (And.left hS))
        have p0:=hS.2.1
        have q2:=hS.2.2.2.2.2.2.1
        clear hS hHeld HS8 HTt g0 d0 d1 d2 y0 y1 y2 y3 t1 t2 t3 t4 hez he0
        have hq:=run_front Tryz.underlying24 Tryz.sizeOf94 (some ad) nb cb k hk HTp.out.b.cap
        obtain⟨ob,hob⟩:∃b,balM (t.2.2.1.take k) x1=b:=⟨_,rfl⟩
        have HBc0:∀W,Keep Never w W→Calls Tryz.prog 55 #[.agg #[.slice none 0 0,.slice none 0 0,.slice (some ad) k cb,.slice none 0 0],.int .i64 x1] W (BalRet ob W):=fun W hk0=>by
         have:=bal_any ⟨none,0,0,none,0,0,some ad,k,cb,none,0,0⟩ ([],[],t.2.2.1.take k,[]) B x1 W ⟨Rep.Sl.nil _ _ _,Rep.Sl.nil _ _ _,Sl.front (HTp.out.keep hk0).b hk,Rep.Sl.nil _ _ _⟩ (by show k≤100000000;omega)
         simp only at this
         rw[hob] at this
         exact this
        obtain⟨o1,ho1⟩:∃z,(ob.getD (0,0,0)).1=z:=⟨_,rfl⟩
        obtain⟨o2,ho2⟩:∃z,(ob.getD (0,0,0)).2.1=z:=⟨_,rfl⟩
        obtain⟨o3,ho3⟩:∃z,(ob.getD (0,0,0)).2.2=z:=⟨_,rfl⟩
        obtain⟨os,hos⟩:∃z,ob.isSome=z:=⟨_,rfl⟩
        unfold BalRet at HBc0
        rw[ho1,ho2,ho3,hos] at HBc0
        have HBc:=qh HBc0
        have HOs:Hid ((balM (t.2.2.1.take k) x1).isSome=os):=qh (by rw[hob];exact hos)
        have HS2:Hid (∀W,Keep Never w' W→Keep Never w' W∧W.cell? ⟨wr.heap.size,0,none⟩=some (.int .i64 x1)∧W.cell? ⟨w.heap.size,2,none⟩=some (.slice (some ad) nb cb)):=qh (fun W h=>⟨h,keepT h p0,keepT h q2⟩)
        have HKw:=qh (HK.out.trans HKe.out)
        clear hob ho1 ho2 ho3 hos HBc0 hk'
        go_wp2_with fail
        go_region_held3 (fun W=>Keep Never w' W∧W.cell? ⟨wr.heap.size,0,none⟩=some (.int .i64 x1)∧W.cell? ⟨w.heap.size,2,none⟩=some (.slice (some ad) nb cb))
          (first| assumption | exact HS2.out _ ((Keep.refl Never w').drew) | exact HS2.out _ (Keep.trans (And.left (by assumption)) hk9) | exact HS2.out _ (Keep.alloc (And.left (by assumption)) _) | exact HS2.out _ (Keep.alloc (Keep.trans ((Keep.refl Never w').drew) hk9) _) | exact HS2.out _ (put3_keep (And.left (by assumption)) (by first | exact Nat.le_refl _ | exact(Keep.size (And.left (by assumption))) | omega) _ _ _))
          (first
            | (go_at_call 55; refine(HBc.out _ (HKw.out.trans (by first | exact And.left (by assumption) | exact(Keep.refl Never w').drew))).mono ?_;rintro e w9 ⟨rfl,hk9⟩;have nb9:Blk w9 w'.heap.size 94 #[.int .i64 0,.int .i64 0,.int .i64 0]:=(by first | exact Blk.keep (Blk.new _ _ _) hk9 (fun h=>h) | exact Blk.keep (Blk.drew (Blk.new _ _ _)) hk9 (fun h=>h));have n0:w9.cell? ⟨w'.heap.size,0,none⟩=some (.int .i64 0):=nb9.cell 0;have n1:w9.cell? ⟨w'.heap.size,1,none⟩=some (.int .i64 0):=nb9.cell 1;have n2:w9.cell? ⟨w'.heap.size,2,none⟩=some (.int .i64 0):=nb9.cell 2;have m0:w9.frozen? ⟨w'.heap.size,0,none⟩=false:=nb9.frozen 0;have m1:w9.frozen? ⟨w'.heap.size,1,none⟩=false:=nb9.frozen 1;have m2:w9.frozen? ⟨w'.heap.size,2,none⟩=false:=nb9.frozen 2)
            | (go_at_call 55; refine(HBc.out _ (HKw.out.trans (by first | exact And.left (by assumption) | exact(Keep.refl Never w').drew))).mono ?_;rintro e w9 ⟨rfl,hk9⟩))
        all_goals
         rename_i hS
         have HKf:=qh (HKe.out.trans (And.left hS))
         clear hS
         clear p0 q2 hq HBc HS2 hk9
         (try clear nb9 n0 n1 n2 m0 m1 m2)
         cases os with
         | true=>
          have HF:Hid (checkM t=5):=qh (by
           have h1:bErr t k=5:=by unfold bErr;rw[Hb.out];simp only;rw[←HL.out.1,if_neg HNb.out,if_pos HOs.out]
           have h2:firstE (bErr t) t.2.2.1.length=5:=firstE_at (k:=0) (by rw[←HL.out.2.2.1];exact h0) HH.out.2 h1 (by decide)
           unfold checkM;rw[if_neg HN1.out,if_neg HN2.out,if_neg HN3.out,h2,if_pos (by decide)])
          go_wp2_with fail
          go_ret
          exact⟨by rw[HF.out];rfl,HK.out.trans HKf.out⟩
         | false=>
          have HZ:Hid (bErr t k=0):=qh (by unfold bErr;rw[Hb.out];simp only;rw[←HL.out.1,if_neg HNb.out,if_neg (by rw[HOs.out];simp)])
          go_wp2_with fail
          refine⟨⟨k+1,by omega,by go_num,qh ⟨HKf.out,fun j hj=>?_⟩⟩,?_⟩
          ·by_cases e:j=k
           ·rw[e];exact HZ.out
           ·exact HH.out.2 j (by omega)
          ·simp[intOf];try omega
      ·obtain rfl:k=nb:=by omega
       have hkz:¬(k:Int)<(k:Int):=by omega
       have HN4:Hid (¬firstE (bErr t) t.2.2.1.length≠0):=qh (by rw[firstE_zero (fun j hj=>HH.out.2 j (by rw[HL.out.2.2.1];exact hj))];simp)
       have HKr:=qh HH.out.1
       have y3:wr.cell? ⟨w.heap.size,3,none⟩=some (.slice Ar nr cr):=(HB1.out.keep HH.out.1 (fun h=>h)).cell 3
       clear HH HT
       go_wp2_with fail
       clear y3
       go_loopw [9,10,11,12,13,132] (fun _ _ _ _ _ i wr=>∃q:Nat,q≤nr∧i=.int .i64 q∧Hid (Keep Never w1 wr∧∀j,j<q→rErr t j=0)) (fun _ _ _ _ _ i _=>nr - (intOf i).toNat)
       case atStart=>exact⟨0,by omega,rfl,qh ⟨HKr.out,fun j h=>by omega⟩⟩
       case round=>
        rename Nat=>nb
        obtain⟨k,hk,rfl,HH⟩:=hrel
        by_cases h0:k<nr
        ·have hkz:(k:Int)<(nr:Int):=by omega
         obtain⟨ad,r,A2,n2,d2,hA,_,hr,c0,c1,c2,c3,hsl⟩:=rt_at2 (HTp.out.keep (HK.out.trans HH.out.1)).r h0
         simp only at hA
         subst hA
         obtain⟨x1,p,x2,x3⟩:=r
         simp only at c0 c1 c2 c3 hsl
         obtain⟨W1,hW1⟩:∃W:World,wr.alloc (.cells #[.int .i64 x1,.slice A2 n2 d2,.int .i64 x2,.int .i64 x3] 64)=W:=⟨_,rfl⟩
         have K1:Keep Never wr W1:=by rw[←hW1];exact(Keep.refl _ _).alloc _
         have B1:=Blk.new wr 64 #[.int .i64 x1,.slice A2 n2 d2,.int .i64 x2,.int .i64 x3]
         rw[hW1] at B1
         have HKW:=qh (HH.out.1.trans K1)
         obtain⟨d0,d1⟩:=bc2 B1
         have d2':W1.cell? ⟨wr.heap.size,2,none⟩=some (.int .i64 x2):=B1.cell 2
         have d3:W1.cell? ⟨wr.heap.size,3,none⟩=some (.int .i64 x3):=B1.cell 3
         have hb1:=HB1.out.keep HKW.out (fun h=>h)
         have y3o:wr.cell? ⟨w.heap.size,3,none⟩=some (.slice (some ad) nr cr):=(HB1.out.keep HH.out.1 (fun h=>h)).cell 3
         obtain⟨y0,y1,y2,y3⟩:=bc4 hb1
         have hn2:n2≤100000000:=by have h5:p.length≤100000000:=HP5.out _ (List.mem_of_getElem? hr);have:=hsl.len;omega
         have HRr:=HRd.out (x1,p,x2,x3) A2 n2 d2 W1 (HK.out.trans HKW.out) (hsl.keep K1 (fun _ h=>h.elim)) hn2
         obtain⟨re,hre⟩:∃z,routedM t (x1,p,x2,x3)=z:=⟨_,rfl⟩
         rw[hre] at HRr
         have HRc:=qh HRr
         have HRe:=qh hre
         have Hr:=qh hr
         have HBr:=qh B1
         clear hr K1 B1 hb1 HRr hre hsl HRd
         go_wp2_with fail
         refine HRc.out.mono ?_
         rintro e w5 ⟨rfl,hk5⟩
         have HK5:=qtr HKW hk5
         have p0:w5.cell? ⟨wr.heap.size,0,none⟩=some (.int .i64 x1):=keepT hk5 d0
         have q3:w5.cell? ⟨w.heap.size,3,none⟩=some (.slice (some ad) nr cr):=keepT hk5 y3
         clear hk5 HRc c0 c1 c2 c3 hW1 d0 d1 d2' d3 y0 y1 y2 y3 y3o
         by_cases g0:re=0
         case neg=>
          have t0:(re != 0)=true:=by simpa using g0
          have t0':(re==0)=false:=by simpa using g0
          have HF:Hid (checkM t=re):=qh (by
           have h1:rErr t k=re:=by unfold rErr;rw[Hr.out];simp only;rw[HRe.out,if_pos g0]
           have h2:firstE (rErr t) t.2.2.2.length=re:=firstE_at (k:=0) (by rw[←HL.out.2.2.2];exact h0) HH.out.2 h1 g0
           unfold checkM;rw[if_neg HN1.out,if_neg HN2.out,if_neg HN3.out,if_neg HN4.out,h2])
          clear g0
          go_wp2_with fail
          go_ret
          exact⟨by rw[HF.out];rfl,HK.out.trans HK5.out⟩
         subst g0
         have hq:=run_front Tryz.underlying25 Tryz.sizeOf64 (some ad) nr cr k hk HTp.out.r.cap
         obtain⟨ob,hob⟩:∃b,rtM (t.2.2.2.take k) x1=b:=⟨_,rfl⟩
         have HBc0:∀W,Keep Never w W→Calls Tryz.prog 28 #[.agg #[.slice none 0 0,.slice none 0 0,.slice none 0 0,.slice (some ad) k cr],.int .i64 x1] W (RtRet ob W):=fun W hk0=>by
          have:=route_any ⟨none,0,0,none,0,0,none,0,0,some ad,k,cr⟩ ([],[],[],t.2.2.2.take k) B x1 W ⟨Rep.Sl.nil _ _ _,Rep.Sl.nil _ _ _,Rep.Sl.nil _ _ _,Sl.front (HTp.out.keep hk0).r hk⟩ (by show k≤100000000;omega) (fun r hr=>HP5.out r (List.mem_of_mem_take hr)) (Nat.le_trans HGB.out hk0.size)
          simp only at this
          rw[hob] at this
          exact this
         obtain⟨o1,ho1⟩:∃z,(ob.getD (0,[],0,0)).1=z:=⟨_,rfl⟩
         obtain⟨o2,ho2⟩:∃z,(ob.getD (0,[],0,0)).2.2.1=z:=⟨_,rfl⟩
         obtain⟨o3,ho3⟩:∃z,(ob.getD (0,[],0,0)).2.2.2=z:=⟨_,rfl⟩
         obtain⟨os,hos⟩:∃z,ob.isSome=z:=⟨_,rfl⟩
         unfold RtRet at HBc0
         rw[ho1,ho2,ho3,hos] at HBc0
         have HBc:=qh HBc0
         have HOs:Hid ((rtM (t.2.2.2.take k) x1).isSome=os):=qh (by rw[hob];exact hos)
         have HS2:Hid (∀W,Keep Never w5 W→Keep Never w5 W∧W.cell? ⟨wr.heap.size,0,none⟩=some (.int .i64 x1)∧W.cell? ⟨w.heap.size,3,none⟩=some (.slice (some ad) nr cr)):=qh (fun W h=>⟨h,keepT h p0,keepT h q3⟩)
         have HKw:=qh (HK.out.trans HK5.out)
         clear hob ho1 ho2 ho3 hos HBc0
         go_wp2_with fail
         go_region_held3 (fun W=>Keep Never w5 W∧W.cell? ⟨wr.heap.size,0,none⟩=some (.int .i64 x1)∧W.cell? ⟨w.heap.size,3,none⟩=some (.slice (some ad) nr cr))
           (first| assumption | exact HS2.out _ ((Keep.refl Never w5).drew) | exact HS2.out _ (Keep.trans (And.left (by assumption)) hk9) | exact HS2.out _ (Keep.alloc (And.left (by assumption)) _) | exact HS2.out _ (Keep.alloc (Keep.trans ((Keep.refl Never w5).drew) hk9) _) | exact HS2.out _ (put4_keep (And.left (by assumption)) (.inr (by first | exact Nat.le_refl _ | exact(Keep.size (And.left (by assumption))) | omega)) _ _ _ _))
           (first
             | (go_at_call 28; refine(HBc.out _ (HKw.out.trans (by first | exact And.left (by assumption) | exact(Keep.refl Never w5).drew))).mono ?_;rintro e w9 ⟨A9,n9,c9,rfl,hsl9,hk9⟩;have nb9:Blk w9 w5.heap.size 64 #[.int .i64 0,.slice none 0 0,.int .i64 0,.int .i64 0]:=(by first | exact Blk.keep (Blk.new _ _ _) hk9 (fun h=>h) | exact Blk.keep (Blk.drew (Blk.new _ _ _)) hk9 (fun h=>h));have n0:w9.cell? ⟨w5.heap.size,0,none⟩=some (.int .i64 0):=nb9.cell 0;have n1:w9.cell? ⟨w5.heap.size,1,none⟩=some (.slice none 0 0):=nb9.cell 1;have n2:w9.cell? ⟨w5.heap.size,2,none⟩=some (.int .i64 0):=nb9.cell 2;have n3:w9.cell? ⟨w5.heap.size,3,none⟩=some (.int .i64 0):=nb9.cell 3;have m0:w9.frozen? ⟨w5.heap.size,0,none⟩=false:=nb9.frozen 0;have m1:w9.frozen? ⟨w5.heap.size,1,none⟩=false:=nb9.frozen 1;have m2:w9.frozen? ⟨w5.heap.size,2,none⟩=false:=nb9.frozen 2;have m3:w9.frozen? ⟨w5.heap.size,3,none⟩=false:=nb9.frozen 3)
             | (go_at_call 28; refine(HBc.out _ (HKw.out.trans (by first | exact And.left (by assumption) | exact(Keep.refl Never w5).drew))).mono ?_;rintro e w9 ⟨A9,n9,c9,rfl,hsl9,hk9⟩))
         all_goals
          rename_i hS
          have HKf:=qh (HK5.out.trans (And.left hS))
          clear hS
          clear p0 q3 hq HBc HS2 hk9 hsl9
          (try clear nb9 n0 n1 n2 n3 m0 m1 m2 m3)
          cases os with
          | true=>
           have HF:Hid (checkM t=5):=qh (by
            have h1:rErr t k=5:=by unfold rErr;rw[Hr.out];simp only;rw[if_neg (by rw[HRe.out];simp),if_pos HOs.out]
            have h2:firstE (rErr t) t.2.2.2.length=5:=firstE_at (k:=0) (by rw[←HL.out.2.2.2];exact h0) HH.out.2 h1 (by decide)
            unfold checkM;rw[if_neg HN1.out,if_neg HN2.out,if_neg HN3.out,if_neg HN4.out,h2])
           go_wp2_with fail
           go_ret
           exact⟨by rw[HF.out];rfl,HK.out.trans HKf.out⟩
          | false=>
           have HZ:Hid (rErr t k=0):=qh (by unfold rErr;rw[Hr.out];simp only;rw[if_neg (by rw[HRe.out];simp),if_neg (by rw[HOs.out];simp)])
           go_wp2_with fail
           refine⟨⟨k+1,by omega,by go_num,qh ⟨HKf.out,fun j hj=>?_⟩⟩,?_⟩
           ·by_cases e:j=k
            ·rw[e];exact HZ.out
            ·exact HH.out.2 j (by omega)
           ·simp[intOf];try omega
        ·obtain rfl:k=nr:=by omega
         have hkz:¬(k:Int)<(k:Int):=by omega
         have HF:Hid (checkM t=0):=qh (by unfold checkM;rw[if_neg HN1.out,if_neg HN2.out,if_neg HN3.out,if_neg HN4.out,firstE_zero (fun j hj=>HH.out.2 j (by rw[HL.out.2.2.2];exact hj))])
         have HKe:=qh (HK.out.trans HH.out.1)
         clear HH
         go_wp2_with fail
         go_ret
         exact⟨by rw[HF.out];rfl,HKe.out⟩
end Go.Proofs.YtpapiojicbbheaaGreatDoor

namespace Go.Proofs.YtpapiojicbbheaaGreatDoor
open Go.RowKit
def sameS (x1:Int) (x2:Bool) (y1:Int) (y2:Bool):Bool:=decide (((x1,x2):Stp)=(y1,y2))
theorem run_eq_stp (w:World) (x1:Int) (x2:Bool) (y1:Int) (y2:Bool):(binOp .eql 30 (.agg #[.int .i64 x1,.bool x2]) (.agg #[.int .i64 y1,.bool y2])).run Tryz.prog w=.ok (.bool (sameS x1 x2 y1 y2)) w:=by
 by_cases h1:x1=y1
 ·have t1:(x1==y1)=true:=by simpa using h1
  by_cases h2:x2=y2
  ·have t2:(x2==y2)=true:=by simpa using h2
   have hd:sameS x1 x2 y1 y2=true:=decide_eq_true (by rw[h1,h2])
   rw[hd]
   clear h1 h2 hd
   go_simp
  ·have t2:(x2==y2)=false:=by simpa using h2
   have hd:sameS x1 x2 y1 y2=false:=decide_eq_false (by simp[h2])
   rw[hd]
   clear h1 h2 hd
   go_simp
 ·have t1:(x1==y1)=false:=by simpa using h1
  have hd:sameS x1 x2 y1 y2=false:=decide_eq_false (by simp[h1])
  rw[hd]
  clear h1 hd
  go_simp
end Go.Proofs.YtpapiojicbbheaaGreatDoor

namespace Go.Proofs.YtpapiojicbbheaaGreatDoor
open Go.RowKit
structure TpLight (x:TA) (t:Tp):Prop where
  e:x.ne≤100
  j:x.nj≤100
  b:x.nb≤100
  r:x.nr≤100
  p:∀r∈t.2.2.2,r.2.1.length≤100
theorem TpLight.small {x:TA}{t:Tp} (h:TpLight x t):TpSmall x t:=⟨by have:=h.e;omega,by have:=h.j;omega,by have:=h.b;omega,by have:=h.r;omega,fun r hr=>by have:=h.p r hr;omega⟩
set_option maxHeartbeats 4000000 in
set_option maxRecDepth 100000 in
theorem light13r_any (x:TA) (t:Tp) (B:Nat) (w:World) (ht:TpAt w B x t) :
    Calls Tryz.prog 10 #[.agg x.cs] w fun e w'=>∃b,e=.returned (.bool b)∧Hid (b=true→TpLight x t)∧Keep Never w w':=by
  have HR:=qh ht.r
  obtain⟨Ae,ne,ce,Aj,nj,cj,Ab,nb,cb,Ar,nr,cr⟩:=x
  simp only[TA.cs] at HR ⊢
  obtain⟨wb,hwb⟩:∃wb:World,w.alloc (.cells #[.slice Ae ne ce,.slice Aj nj cj,.slice Ab nb cb,.slice Ar nr cr] 27)=wb:=⟨_,rfl⟩
  have k1:Keep Never w wb:=by rw[←hwb];exact(Keep.refl _ _).alloc _
  have b1':=Blk.new w 27 #[.slice Ae ne ce,.slice Aj nj cj,.slice Ab nb cb,.slice Ar nr cr]
  rw[hwb] at b1'
  obtain⟨y0,y1,y2,y3⟩:=bc4 (b1')
  have HB:=qh b1'
  have HK:=qh k1
  have HRb:=qh (HR.out.keep k1 (fun _ h=>h.elim))
  clear k1 b1' ht HR
  by_cases g1:ne≤100
  case neg=>
   have t1:decide ((ne:Int)>100)=true:=by simp;omega
   clear g1
   go_enter Tryz.func10, Tryz.ntmps10
   go_wp2_with fail
   go_ret
   exact⟨false,rfl,qh (fun h=>(by cases h)),HK.out⟩
  have t1:decide ((ne:Int)>100)=false:=by simp;omega
  by_cases g2:nj≤100
  case neg=>
   have t2:decide ((nj:Int)>100)=true:=by simp;omega
   clear g1 g2
   go_enter Tryz.func10, Tryz.ntmps10
   go_wp2_with fail
   go_ret
   exact⟨false,rfl,qh (fun h=>(by cases h)),HK.out⟩
  have t2:decide ((nj:Int)>100)=false:=by simp;omega
  by_cases g3:nb≤100
  case neg=>
   have t3:decide ((nb:Int)>100)=true:=by simp;omega
   clear g1 g2 g3
   go_enter Tryz.func10, Tryz.ntmps10
   go_wp2_with fail
   go_ret
   exact⟨false,rfl,qh (fun h=>(by cases h)),HK.out⟩
  have t3:decide ((nb:Int)>100)=false:=by simp;omega
  by_cases g4:nr≤100
  case neg=>
   have t4:decide ((nr:Int)>100)=true:=by simp;omega
   clear g1 g2 g3 g4
   go_enter Tryz.func10, Tryz.ntmps10
   go_wp2_with fail
   go_ret
   exact⟨false,rfl,qh (fun h=>(by cases h)),HK.out⟩
  have t4:decide ((nr:Int)>100)=false:=by simp;omega
  have HG:Hid (ne≤100∧nj≤100∧nb≤100∧nr≤100):=qh ⟨g1,g2,g3,g4⟩
  clear g1 g2 g3
  go_enter Tryz.func10, Tryz.ntmps10
  go_wp2_with fail
  clear y0 y1 y2 y3
  go_loopw [3] (fun i wr=>∃k:Nat,k≤nr∧i=.int .i64 k∧Hid (Keep Never wb wr∧∀r∈t.2.2.2.take k,r.2.1.length≤100)) (fun i _=>nr - (intOf i).toNat)
  case atStart=>exact⟨0,by omega,rfl,qh ⟨Keep.refl _ _,by simp⟩⟩
  case round=>
   obtain⟨k,hk,rfl,HH⟩:=hrel
   have hbb:=HB.out.keep HH.out.1 (fun h=>h)
   have y3:wr.cell? ⟨w.heap.size,3,none⟩=some (.slice Ar nr cr):=hbb.cell 3
   clear hbb
   by_cases h0:k<nr
   ·have hkz:(k:Int)<(nr:Int):=by omega
    obtain⟨ad,r,A2,n2,d2,hA,_,hr,_,hc,_,_,hsl⟩:=rt_at2 (HRb.out.keep HH.out.1 (fun _ h=>h.elim)) h0
    subst hA
    have hn2:n2=r.2.1.length:=hsl.len
    have HTk:Hid (t.2.2.2.take (k+1)=t.2.2.2.take k++[r]):=qh (by
     obtain⟨h2,h3⟩:=List.getElem?_eq_some_iff.1 hr
     rw[List.take_succ_eq_append_getElem h2,h3])
    have HRl:=qh hn2
    clear hr hsl hn2
    by_cases g5:n2≤100
    ·have t5:decide ((n2:Int)>100)=false:=by simp;omega
     have HN2:=qh g5
     clear g5
     go_wp2_with fail
     refine⟨⟨k+1,by omega,by go_num,qh ⟨HH.out.1,fun u hu=>?_⟩⟩,?_⟩
     ·rw[HTk.out] at hu
      rcases List.mem_append.1 hu with hu | hu
      ·exact HH.out.2 u hu
      ·simp at hu;subst hu;rw[←HRl.out];exact HN2.out
     simp[intOf];try omega
    ·have t5:decide ((n2:Int)>100)=true:=by simp;omega
     clear g5
     go_wp2_with fail
     go_ret
     exact⟨false,rfl,qh (fun h=>(by cases h)),HK.out.trans HH.out.1⟩
   ·obtain rfl:k=nr:=by omega
    have hkz:¬(k:Int)<(k:Int):=by omega
    go_wp2_with fail
    go_ret
    have HTL:=qh (TpLight.mk (x:=⟨Ae,ne,ce,Aj,nj,cj,Ab,nb,cb,Ar,k,cr⟩) (t:=t) HG.out.1 HG.out.2.1 HG.out.2.2.1 HG.out.2.2.2 (fun r hr=>HH.out.2 r (by rw[List.take_of_length_le (by rw[HRb.out.len];exact Nat.le_refl _)];exact hr)))
    first
     | exact .inr ⟨rfl,qh HTL.out,HK.out.trans HH.out.1⟩
     | exact⟨true,rfl,qh (fun _=>HTL.out),HK.out.trans HH.out.1⟩
     | exact .inr ⟨rfl,HTL,HK.out.trans HH.out.1⟩
end Go.Proofs.YtpapiojicbbheaaGreatDoor
