/- Texts of this claim, together: PlcI, PmT, PmS, Rf13B, Rf13C, Rf13D, PlcH. -/
import Derived.Test.YtpapiojicbbheaaGreatDoorTc00
import Derived.Test.YtpapiojicbbheaaGreatDoorTc01
import Derived.Test.YtpapiojicbbheaaGreatDoorTc02
import Derived.Test.YtpapiojicbbheaaGreatDoorTc03
import Derived.Test.YtpapiojicbbheaaGreatDoorTc04
import Derived.Test.YtpapiojicbbheaaGreatDoorTc05
import Derived.Test.YtpapiojicbbheaaGreatDoorTc06
import Derived.Test.YtpapiojicbbheaaGreatDoorTc07
import Derived.Test.YtpapiojicbbheaaGreatDoorTc08
import Derived.Test.YtpapiojicbbheaaGreatDoorTc09
import Derived.Test.YtpapiojicbbheaaGreatDoorTc10
import Derived.Test.YtpapiojicbbheaaGreatDoorTc11
import Derived.Test.YtpapiojicbbheaaGreatDoorTe12
import Derived.Test.YtpapiojicbbheaaGreatDoorRows
import Derived.WalkKit
import Derived.WalkSpells
import Derived.WalkLawsBesides
import Derived.Lib.Hide
import Derived.Deep.QuietTactic
import Derived.BigQuiet
import Derived.Maps.AppendAt
import Derived.Deep.AppendLies
import Derived.Deep.Draws
import Derived.Laws.CopyOwn
import Derived.ProofKit
import Derived.Deep.Slices
import Derived.Maps.RangeWalk
import Derived.DeepKeys4
import Derived.Shelf.SlSortCmp.WholeK
import Derived.Deep.RegionHeld3
import Derived.Shelf.GgClosure.Gives
import Derived.Lib.SliceRun
import Derived.StillTailTactics
import Derived.IntWalk
import Derived.WalkMore
import Derived.Deep.DeepCutAuto
namespace Go.Proofs.YtpapiojicbbheaaGreatDoor
open Go.RowKit
set_option maxHeartbeats 8000000 in
set_option maxRecDepth 100000 in
theorem rafter_any (x:TA) (t:Tp) (B:Nat) (s:Stp) (w:World) (h:TpAt w B x t) (hj:x.nj≤100000000) (he:x.ne≤100000000) :
    Calls Tryz.prog 117 #[.agg x.cs,.agg #[.int .i64 s.1,.bool s.2]] w (AftRet (afterM t s) w):=by
  have HE:=qh (fun (i:Int) (W:World)=>redge_any x i W)
  have HM:=qh (fun (W:World) (hk:Keep Never w W) (a b:Stp)=>rmayj_any x t B a b W (h.keep hk) hj)
  have HEl:Hid (x.ne=t.1.length):=qh h.e.len
  obtain⟨Ae,ne,ce,Aj,nj,cj,Ab,nb,cb,Ar,nr,cr⟩:=x
  obtain⟨s1,s2⟩:=s
  simp only[TA.cs] at HE HM HEl he hj ⊢
  clear h
  obtain⟨w1,hw1⟩:∃V:World,w.alloc (.cells #[.slice Ae ne ce,.slice Aj nj cj,.slice Ab nb cb,.slice Ar nr cr] 27)=V:=⟨_,rfl⟩
  have zw1:w1.heap.size=w.heap.size+1:=by rw[←hw1];simp
  have kw1:Keep Never w w1:=by rw[←hw1];exact(Keep.refl _ _).alloc _
  have bw1:=Blk.new w 27 #[.slice Ae ne ce,.slice Aj nj cj,.slice Ab nb cb,.slice Ar nr cr]
  rw[hw1] at bw1
  obtain⟨w2,hw2⟩:∃V:World,w1.alloc (.cells #[.int .i64 s1,.bool s2] 30)=V:=⟨_,rfl⟩
  have kw2:Keep Never w1 w2:=by rw[←hw2];exact(Keep.refl _ _).alloc _
  have bw2:=Blk.new w1 30 #[.int .i64 s1,.bool s2]
  rw[hw2,zw1] at bw2
  have HB1:=qh (bw1.keep kw2 (fun h=>h))
  have HB2:=qh bw2
  have HK:=qh (kw1.trans kw2)
  clear kw1 kw2 bw1 bw2
  obtain⟨y0,y1,y2,y3⟩:=bc4 HB1.out
  obtain⟨p0,p1⟩:=bc2 HB2.out
  have HLo:Hid (w2.heap.size=w.heap.size+2):=qh (by rw[←hw2,←hw1];simp)
  have HC:=qh (HE.out s1 w2)
  cases ht:thereB ne s1 with
  | false=>
   have HF:Hid (afterM t (s1,s2)=[]):=qh (by unfold afterM;rw[if_neg (by simp only;rw[←HEl.out,ht];simp)])
   rw[ht] at HC
   clear ht
   go_enter Tryz.func117, Tryz.ntmps117
   go_wp2_with fail
   refine HC.out.mono ?_
   rintro en w4 ⟨rfl,hk4⟩
   have HK4:=qtr HK hk4
   clear hk4 HC y0 y1 y2 y3 p0 p1
   go_wp2_with fail
   go_ret
   exact⟨none,0,0,rfl,qh (by rw[HF.out];rfl),by rw[HF.out];exact Own.nil _ _ _ _,HK4.out⟩
  | true=>
   have HF:Hid (afterM t (s1,s2)=listM t.2.1 (s1,s2) ne):=qh (by unfold afterM;rw[if_pos (by simp only;rw[←HEl.out,ht]),HEl.out])
   rw[ht] at HC
   clear ht
   go_enter Tryz.func117, Tryz.ntmps117
   go_wp2_with fail
   refine HC.out.mono ?_
   rintro en w4 ⟨rfl,hk4⟩
   have HK4:=qh hk4
   clear hk4 HC y0 y1 y2 y3 p0 p1 hw1 hw2 zw1
   go_wp2_with fail
   go_loopw [6,7,8,9,10,11] (fun o i _ _ _ _ wr=>∃(k n c:Nat) (A:Option Addr),k≤ne∧i=.int .i64 k∧o=.slice A n c∧Hid (Keep Never w2 wr∧Own wr w2.heap.size 30 2 A n c (stpCells (listM t.2.1 (s1,s2) k))∧n=(listM t.2.1 (s1,s2) k).length)) (fun _ i _ _ _ _ _=>ne - (intOf i).toNat)
   case atStart=>exact⟨0,0,0,none,by omega,rfl,rfl,qh ⟨HK4.out,Own.nil _ _ _ _,rfl⟩⟩
   case round=>
    obtain⟨k,n,c,A,hk,rfl,rfl,HH⟩:=hrel
    have y0:wr.cell? ⟨w.heap.size,0,none⟩=some (.slice Ae ne ce):=(HB1.out.keep HH.out.1 (fun h=>h)).cell 0
    by_cases h0:k<ne
    ·have hkz:(k:Int)<(ne:Int):=by omega
     obtain⟨br,hbr⟩:∃q,wr.heap.size=q:=⟨_,rfl⟩
     have hbr2:w.heap.size+2≤br:=by rw[←hbr,←HLo.out];exact HH.out.1.size
     have HBr:=qh hbr2
     obtain⟨w7,hw7⟩:∃V:World,(wr.alloc (.cells #[.int .i64 ((k:Nat):Int),.bool false] 30)).alloc (.cells #[.int .i64 ((k:Nat):Int),.bool true] 30)=V:=⟨_,rfl⟩
     have k7:Keep Never wr w7:=by rw[←hw7];exact((Keep.refl _ _).alloc _).alloc _
     have ba:=(Blk.new wr 30 #[.int .i64 ((k:Nat):Int),.bool false]).alloc (.cells #[.int .i64 ((k:Nat):Int),.bool true] 30)
     have bb:=Blk.new (wr.alloc (.cells #[.int .i64 ((k:Nat):Int),.bool false] 30)) 30 #[.int .i64 ((k:Nat):Int),.bool true]
     rw[hw7,hbr] at ba
     rw[hw7,show (wr.alloc (.cells #[.int .i64 ((k:Nat):Int),.bool false] 30)).heap.size=br+1 by rw[←hbr];simp] at bb
     have HK7:=qh (HH.out.1.trans k7)
     have K7:=qh k7
     have HBa:=qh ba
     have HBb:=qh bb
     have HT7:=qh (HB1.out.keep HK7.out (fun h=>h))
     have HS7:=qh (HB2.out.keep HK7.out (fun h=>h))
     obtain⟨a0,a1⟩:=bc2 HBa.out
     have HC:=qh (HM.out w7 (HK.out.trans HK7.out) (s1,s2) (((k:Nat):Int),false))
     have HC2:=qh (fun (V:World) (hk:Keep Never w7 V)=>HM.out V (HK.out.trans (HK7.out.trans hk)) (s1,s2) (((k:Nat):Int),true))
     dsimp only at HC HC2
     have HLs:=qh (listM_succ t.2.1 (s1,s2) k)
     unfold pairM at HLs
     obtain⟨m1,hm1⟩:∃z,mayJ t.2.1 (s1,s2) (((k:Nat):Int),false)=z:=⟨_,rfl⟩
     obtain⟨m2,hm2⟩:∃z,mayJ t.2.1 (s1,s2) (((k:Nat):Int),true)=z:=⟨_,rfl⟩
     rw[hm1] at HC HLs
     rw[hm2] at HC2 HLs
     obtain⟨y0,y1,y2,y3⟩:=bc4 HT7.out
     obtain⟨p0,p1⟩:=bc2 HS7.out
     clear k7 ba bb hm1 hm2 hbr2
     go_wp2_with fail
     refine HC.out.mono ?_
     clear hw7
     rintro en w8 ⟨rfl,hk8⟩
     have K78:=qh hk8
     have HC:=qh (HC2.out w8 hk8)
     have HT8:=qkb HT7 hk8
     have HS8:=qkb HS7 hk8
     clear y0 y1 y2 y3 p0 p1 a0 a1
     obtain⟨b0,b1⟩:=bc2 (HBb.out.keep hk8 (fun h=>h))
     obtain⟨y0,y1,y2,y3⟩:=bc4 HT8.out
     obtain⟨p0,p1⟩:=bc2 HS8.out
     clear hk8 HC2
     go_wp2_with fail
     refine HC.out.mono ?_
     rintro en w9 ⟨rfl,hk9⟩
     have K79:=qtr K78 hk9
     have HBa9:=qh (HBa.out.keep K79.out (fun h=>h))
     have HBb9:=qh (HBb.out.keep K79.out (fun h=>h))
     have HO:=qh ((HH.out.2.1.keep K7.out (fun _ _ h=>h.elim)).keep K79.out (fun _ _ h=>h.elim))
     have HRw:=qh (fun q (h:InRow A q)=>HH.out.2.1.row h)
     have hlen:=listM_len t.2.1 (s1,s2) k
     have hnl:=HH.out.2.2
     have hn5:n≤200000000:=by omega
     have HZ9:Hid (w2.heap.size≤w9.heap.size):=qh (Nat.le_trans HK7.out.size K79.out.size)
     have HK9:=qh (HK7.out.trans K79.out)
     obtain⟨a0,a1⟩:=bc2 HBa9.out
     obtain⟨b0,b1⟩:=bc2 HBb9.out
     have hbrs:=hbr
     rw[←hbr] at HBr
     have HRn:Hid (∀q,InRow A q→q<br):=qh (fun q h=>by rw[←hbr];exact(HRw.out q h).2)
     have HNl:=qh hnl
     clear hk9 HC y0 y1 y2 y3 p0 p1 hlen hnl hbr hbrs
     cases m1 with
     | false=>
      cases m2 with
      | false=>
       go_wp2_with fail
       have e:listM t.2.1 (s1,s2) (k+1)=listM t.2.1 (s1,s2) k:=by rw[HLs.out];simp
       refine⟨⟨k+1,n,c,A,by omega,by go_num,rfl,qh ⟨HK9.out,by rw[e];exact HO.out,by rw[e];exact HNl.out⟩⟩,?_⟩
       simp[intOf];try omega
      | true=>
       go_wp2_with (at_builtin;refine wpList_app _ rfl (.tmp 43) (.tmp 45) _ rfl elemStp w2.heap.size (A:=A) (n:=n) (c:=c) (by go_simp) (HO.out.alloc _) _ (A':=some ⟨_,0,none⟩) (m:=1) (c':=1) (news:=[.int .i64 ((k:Nat):Int),.bool true]) (by go_simp) (Rd.of_blk (n:=1) (cs:=[.int .i64 ((k:Nat):Int),.bool true]) (Blk.new _ _ _) rfl) (by simp[Value.oneCell']) (by omega) (by unfold maxLen;omega) (by have:=HZ9.out;simp;omega) ?_;intro A5 c5 w5 hown hk5 hrow5;have HO5:=qh hown;have HKa5:=qh hk5;clear hown hk5 hrow5)
       have e:listM t.2.1 (s1,s2) (k+1)=listM t.2.1 (s1,s2) k++[(((k:Nat):Int),true)]:=by rw[HLs.out];simp
       go_wp2_with fail
       refine⟨⟨k+1,n+1,c5,A5,by omega,by go_num,rfl,qh ⟨(HK9.out.alloc _).then_ HKa5.out (fun i hi h=>by have:=(HO.out.row h).1;omega),by rw[e,stpCells_app];exact HO5.out,by rw[e,List.length_append,←HNl.out];rfl⟩⟩,?_⟩
       simp[intOf];try omega
     | true=>
      cases m2 with
      | false=>
       go_wp2_with (at_builtin;refine wpList_app _ rfl (.tmp 38) (.tmp 40) _ rfl elemStp w2.heap.size (A:=A) (n:=n) (c:=c) (by go_simp) (HO.out.alloc _) _ (A':=some ⟨_,0,none⟩) (m:=1) (c':=1) (news:=[.int .i64 ((k:Nat):Int),.bool false]) (by go_simp) (Rd.of_blk (n:=1) (cs:=[.int .i64 ((k:Nat):Int),.bool false]) (Blk.new _ _ _) rfl) (by simp[Value.oneCell']) (by omega) (by unfold maxLen;omega) (by have:=HZ9.out;simp;omega) ?_;intro A5 c5 w5 hown hk5 hrow5;have hb5:=(HBb9.out.alloc (.cells #[.int .i64 ((k:Nat):Int),.bool false] 30)).keep hk5 (fun h=>by have:=HRn.out _ h;omega);have b0':w5.cell? ⟨br+1,0,none⟩=some (.int .i64 ((k:Nat):Int)):=hb5.cell 0;have b1':w5.cell? ⟨br+1,1,none⟩=some (.bool true):=hb5.cell 1;have HZ5:Hid (w2.heap.size≤w5.heap.size):=qh (Nat.le_trans HZ9.out (Nat.le_trans ((Keep.refl Never w9).alloc (.cells #[.int .i64 ((k:Nat):Int),.bool false] 30)).size hk5.size));clear hb5;have HO5:=qh hown;have HKa5:=qh hk5;clear hown hk5 hrow5)
       have e:listM t.2.1 (s1,s2) (k+1)=listM t.2.1 (s1,s2) k++[(((k:Nat):Int),false)]:=by rw[HLs.out];simp
       go_wp2_with fail
       refine⟨⟨k+1,n+1,c5,A5,by omega,by go_num,rfl,qh ⟨(HK9.out.alloc _).then_ HKa5.out (fun i hi h=>by have:=(HO.out.row h).1;omega),by rw[e,stpCells_app];exact HO5.out,by rw[e,List.length_append,←HNl.out];rfl⟩⟩,?_⟩
       simp[intOf];try omega
      | true=>
       go_wp2_with (first| (at_builtin;refine wpList_app _ rfl (.tmp 38) (.tmp 40) _ rfl elemStp w2.heap.size (A:=A) (n:=n) (c:=c) (by go_simp) (HO.out.alloc _) _ (A':=some ⟨_,0,none⟩) (m:=1) (c':=1) (news:=[.int .i64 ((k:Nat):Int),.bool false]) (by go_simp) (Rd.of_blk (n:=1) (cs:=[.int .i64 ((k:Nat):Int),.bool false]) (Blk.new _ _ _) rfl) (by simp[Value.oneCell']) (by omega) (by unfold maxLen;omega) (by have:=HZ9.out;simp;omega) ?_;intro A5 c5 w5 hown hk5 hrow5;have hb5:=(HBb9.out.alloc (.cells #[.int .i64 ((k:Nat):Int),.bool false] 30)).keep hk5 (fun h=>by have:=HRn.out _ h;omega);have b0':w5.cell? ⟨br+1,0,none⟩=some (.int .i64 ((k:Nat):Int)):=hb5.cell 0;have b1':w5.cell? ⟨br+1,1,none⟩=some (.bool true):=hb5.cell 1;have HZ5:Hid (w2.heap.size≤w5.heap.size):=qh (Nat.le_trans HZ9.out (Nat.le_trans ((Keep.refl Never w9).alloc (.cells #[.int .i64 ((k:Nat):Int),.bool false] 30)).size hk5.size));clear hb5;have HO5:=qh hown;have HKa5:=qh hk5;clear hown hk5 hrow5) | (at_builtin;refine wpList_app _ rfl (.tmp 43) (.tmp 45) _ rfl elemStp w2.heap.size (A:=A5) (n:=(n+1)) (c:=c5) (by go_simp) (HO5.out.alloc _) _ (A':=some ⟨_,0,none⟩) (m:=1) (c':=1) (news:=[.int .i64 ((k:Nat):Int),.bool true]) (by go_simp) (Rd.of_blk (n:=1) (cs:=[.int .i64 ((k:Nat):Int),.bool true]) (Blk.new _ _ _) rfl) (by simp[Value.oneCell']) (by omega) (by unfold maxLen;omega) (by have:=HZ5.out;simp;omega) ?_;intro A6 c6 w6 hown hk5 hrow5;have HO6:=qh hown;have HKa6:=qh hk5;clear hown hk5 hrow5))
       have e:listM t.2.1 (s1,s2) (k+1)=(listM t.2.1 (s1,s2) k++[(((k:Nat):Int),false)])++[(((k:Nat):Int),true)]:=by rw[HLs.out];simp
       go_wp2_with fail
       refine⟨⟨k+1,n+1+1,c6,A6,by omega,by go_num,rfl,qh ⟨(((HK9.out.alloc _).then_ HKa5.out (fun i hi h=>by have:=(HO.out.row h).1;omega)).alloc _).then_ HKa6.out (fun i hi h=>by have:=(HO5.out.row h).1;omega),by rw[e,stpCells_app,stpCells_app];exact HO6.out,by rw[e,List.length_append,List.length_append,←HNl.out];rfl⟩⟩,?_⟩
       simp[intOf];try omega
    ·obtain rfl:ne=k:=by omega
     have hkz:¬(ne:Int)<(ne:Int):=by omega
     have HKe:=qh (HK.out.trans HH.out.1)
     have HOe:=qh (HH.out.2.1.less (b:=w.heap.size) (by rw[HLo.out];omega))
     have HNe:=qh HH.out.2.2
     go_wp2_with fail
     go_ret
     exact⟨A,n,c,rfl,qh (by rw[HF.out];exact HNe.out),by rw[HF.out];exact HOe.out,HKe.out⟩
end Go.Proofs.YtpapiojicbbheaaGreatDoor

namespace Go.Proofs.YtpapiojicbbheaaGreatDoor
open Go.RowKit
set_option maxHeartbeats 8000000 in
set_option maxRecDepth 100000 in
theorem rgone_any (x:TA) (t:Tp) (B:Nat) (e a:Int) (r:Bool) (n:Int) (w:World) (h:TpAt w B x t) (hs:TpSmall x t) (hck:checkM t=0) (hth:thereB t.1.length e=true) (ha0:0≤a) (ha1:a≤edgeM t e) (hn0:0≤n) (hn1:n≤1099511627776) (hok:(goM t 40 (e,r) (n+alongP t (e,a,r))).2=0) :
    Calls Tryz.prog 62 #[.agg x.cs,.agg #[.int .i64 e,.int .i64 a,.bool r],.int .i64 n] w (StpsRet (strP t (e,a,r) n) w):=by
  have HAf:=qh (fun (W:World) (hk:Keep Never w W) (s:Stp)=>rafter_any x t B s W (h.keep hk) hs.j hs.e)
  have HED:=qh (fun (W:World) (hk:Keep Never w W) (i:Int) (h0:0≤i) (h1:i<(x.ne:Int))=>edge_at (h.keep hk) h0 h1)
  have HEl:Hid (x.ne=t.1.length):=qh h.e.len
  have HEs:=qh hs.e
  have HCk:=qh hck
  have hin:=edge_in hck hth
  have hal:=along_in (t:=t) (p:=(e,a,r)) ha0 ha1
  have HTh:=qh hth
  simp only at hal
  unfold thereB at hth
  simp only[Bool.and_eq_true,decide_eq_true_eq] at hth
  rw[←HEl.out] at hth
  obtain⟨ad,k,v,hA,he,hk,d0,hv⟩:=HED.out w (Keep.refl _ _) e hth.1 hth.2
  obtain⟨Ae,ne,ce,Aj,nj,cj,Ab,nb,cb,Ar,nr,cr⟩:=x
  simp only[TA.cs] at HAf HED HEl HEs hth hA hk ⊢
  subst hA
  subst he
  have hkz:(k:Int)<(ne:Int):=by omega
  rw[hv] at hin ha1
  have HV:=qh hv
  have HI0:Hid (GnI w t (strP t (((k:Nat):Int),a,r) n) [(((k:Nat):Int),r)] 40 (((k:Nat):Int),r) (n+alongP t (((k:Nat):Int),a,r))):=qh ⟨⟨[],rfl,rfl⟩,hok,HTh.out,by omega,by omega,rfl,by omega,fun u hu=>by simp at hu;subst hu;exact in64_there HTh.out (by rw[←HEl.out];exact HEs.out)⟩
  have hAl:alongP t (((k:Nat):Int),a,r)=if r=true then v - a else a:=by rw[←hv];rfl
  obtain⟨m0,hm0⟩:∃z,n+alongP t (((k:Nat):Int),a,r)=z:=⟨_,rfl⟩
  obtain⟨res,hres⟩:∃z,strP t (((k:Nat):Int),a,r) n=z:=⟨_,rfl⟩
  rw[hm0,hres] at HI0
  have HRes:=qh hres
  have HD0:=qh d0
  obtain⟨z8,hz8,hcase⟩:∃z8:Int,z8=m0 - v∧((r=true∧n - a=z8)∨(r=false∧n - (v - a)=z8)):=by
   refine⟨m0 - v,rfl,?_⟩
   rw[hAl] at hm0
   cases r with
   | true=>simp only[if_true] at hm0;exact .inl ⟨rfl,by omega⟩
   | false=>simp only[Bool.false_eq_true,if_false] at hm0;exact .inr ⟨rfl,by omega⟩
  have HZ8:=qh hz8
  have hwz:IntKind.i64.wrap z8=z8:=IntWalk.i64_in _ (by omega)
  have hwz2:wrap64 z8=z8:=by have:=hwz;rwa [IntWalk.i64_left] at this
  have hwa:IntKind.i64.wrap (v - a)=v - a:=IntWalk.i64_in _ (by omega)
  have hwa2:wrap64 (v - a)=v - a:=by have:=hwa;rwa [IntWalk.i64_left] at this
  have hwb:IntKind.i64.wrap (n - (v - a))=n - (v - a):=IntWalk.i64_in _ (by omega)
  have hwb2:wrap64 (n - (v - a))=n - (v - a):=by have:=hwb;rwa [IntWalk.i64_left] at this
  have hwc:IntKind.i64.wrap (n - a)=n - a:=IntWalk.i64_in _ (by omega)
  have hwc2:wrap64 (n - a)=n - a:=by have:=hwc;rwa [IntWalk.i64_left] at this
  clear h hs hck hok hm0 hres hv hth hal hAl hin ha0 ha1 hn0 hn1 d0 hz8
  obtain⟨w1,hw1⟩:∃V:World,w.alloc (.cells #[.slice (some ad) ne ce,.slice Aj nj cj,.slice Ab nb cb,.slice Ar nr cr] 27)=V:=⟨_,rfl⟩
  have zw1:w1.heap.size=w.heap.size+1:=by rw[←hw1];simp
  have kw1:Keep Never w w1:=by rw[←hw1];exact(Keep.refl _ _).alloc _
  have bw1:=Blk.new w 27 #[.slice (some ad) ne ce,.slice Aj nj cj,.slice Ab nb cb,.slice Ar nr cr]
  rw[hw1] at bw1
  obtain⟨w2,hw2⟩:∃V:World,w1.alloc (.cells #[.int .i64 ((k:Nat):Int),.int .i64 a,.bool r] 71)=V:=⟨_,rfl⟩
  have zw2:w2.heap.size=w.heap.size+1+1:=by rw[←hw2];simp[zw1]
  have kw2:Keep Never w1 w2:=by rw[←hw2];exact(Keep.refl _ _).alloc _
  have bw2:=Blk.new w1 71 #[.int .i64 ((k:Nat):Int),.int .i64 a,.bool r]
  rw[hw2,zw1] at bw2
  obtain⟨w3,hw3⟩:∃V:World,w2.alloc (.cells #[.int .i64 ((k:Nat):Int),.bool r] 30)=V:=⟨_,rfl⟩
  have kw3:Keep Never w2 w3:=by rw[←hw3];exact(Keep.refl _ _).alloc _
  have bw3:=Blk.new w2 30 #[.int .i64 ((k:Nat):Int),.bool r]
  rw[hw3,zw2] at bw3
  have p0:w2.cell? ⟨w.heap.size+1,0,none⟩=some (.int .i64 ((k:Nat):Int)):=bw2.cell 0
  have p2:w2.cell? ⟨w.heap.size+1,2,none⟩=some (.bool r):=bw2.cell 2
  have HB1:=qh ((bw1.keep kw2 (fun h=>h)).keep kw3 (fun h=>h))
  have HB2:=qh (bw2.keep kw3 (fun h=>h))
  have HB3:=qh bw3
  have HK:=qh ((kw1.trans kw2).trans kw3)
  clear kw1 kw2 kw3 bw1 bw2 bw3
  have HT3:=HB1
  have HP3:=HB2
  have HK3:=HK
  obtain⟨y0,y1,y2,y3⟩:=bc4 HT3.out
  obtain⟨q0,q1,q2⟩:=bc3 HP3.out
  have d0:=keepT HK3.out HD0.out
  have HBlo:Hid (w2.heap.size=w.heap.size+2):=qh zw2
  go_enter Tryz.func62, Tryz.ntmps62
  go_wp2_with fail
  go_quiet (fail)
  obtain⟨w4,hw4⟩:∃V:World,w3.drewN nq=V:=⟨_,rfl⟩
  rw[hw4]
  have hk:Keep Never w3 w4:=by rw[←hw4];exact(Keep.refl Never _).drewN _
  clear hw4
  have HK4:=qtr HK3 hk
  have HT4:=qkb HT3 hk
  have HP4:=qkb HP3 hk
  have HLit:=Own.lit w2 30 #[.int .i64 ((k:Nat):Int),.bool r] 1 2 (by unfold maxLen;omega) rfl
  rw[hw3,HBlo.out] at HLit
  have HO4:Hid (Own w4 (w.heap.size+2) 30 2 (some ⟨w.heap.size+2,0,none⟩) 1 1 (stpCells [(((k:Nat):Int),r)])):=qh (HLit.keep hk (fun _ _ h=>h))
  have p2:w4.cell? ⟨w.heap.size+1,2,none⟩=some (.bool r):=HP4.out.cell 2
  have p1:w4.cell? ⟨w.heap.size+1,1,none⟩=some (.int .i64 a):=HP4.out.cell 1
  clear hk HLit HB1 HB2 HB3 HK HT3 HP3 HK3 y0 y1 y2 y3 q0 q1 q2 d0 p0 hw1 hw2 hw3 zw1 zw2 hwa hwa2
  rcases hcase with⟨hr,hx⟩ | ⟨hr,hx⟩
  all_goals
   go_wp2_with fail
   clear p1 p2 hwb hwb2 hwc hwc2 hwz hwz2
   go_loopw [7,8] (fun o m wr=>∃(f:Nat) (s:Stp) (mm lf:Int) (acc:List Stp) (Ao:Option Addr) (no co:Nat),m=.int .i64 lf∧o=.slice Ao no co∧no≤41∧Hid (Keep Never w wr∧Blk wr w.heap.size 27 #[.slice (some ad) ne ce,.slice Aj nj cj,.slice Ab nb cb,.slice Ar nr cr]∧Own wr (w.heap.size+2) 30 2 Ao no co (stpCells acc)∧GnI w t res acc f s mm∧no=acc.length∧lf=mm - edgeM t s.1)) (fun _ m _=>(intOf m).toNat)
   case atStart=>exact⟨40,(((k:Nat):Int),r),m0,z8,[(((k:Nat):Int),r)],_,1,1,(by first | rfl | rw[hx]),rfl,by omega,qh ⟨HK4.out,HT4.out,HO4.out,HI0.out,rfl,by rw[HZ8.out,HV.out]⟩⟩
   case round=>
    obtain⟨f,s,mm,lf,acc,Ao,no,co,rfl,rfl,hno,HH⟩:=hrel
    clear hx hr
    have HKr:=qh HH.out.1
    have HTr:=qh HH.out.2.1
    have HOr:=qh HH.out.2.2.1
    have HIr:=qh HH.out.2.2.2.1
    have HNr:=qh HH.out.2.2.2.2.1
    have HLf:=qh HH.out.2.2.2.2.2
    clear HH
    by_cases g:lf>0
    case neg=>
     have t2:decide (lf>0)=false:=by simpa using g
     have HF:Hid (acc=res):=qh (HIr.out.fin (by have:=HLf.out;omega))
     clear g
     go_wp2_with fail
     go_ret
     exact⟨Ao,no,co,rfl,qh (by rw[HRes.out,←HF.out];exact HNr.out),by rw[HRes.out,←HF.out];exact HOr.out.less (by omega),qh (by rw[HRes.out,←HF.out];exact HIr.out.all),HKr.out⟩
    have t2:decide (lf>0)=true:=by simpa using g
    have t3:decide ((no:Int)<60)=true:=by simp;omega
    obtain⟨aa,hacc,_⟩:=HIr.out.wy
    obtain⟨m,rfl⟩:∃m,no=m+1:=⟨aa.length,by rw[HNr.out,hacc];simp⟩
    obtain⟨ad1,s',hA,_,hs',c0,c1⟩:=HOr.out.rd.stp (show m<m+1 by omega)
    obtain rfl:s=s':=by
     have h1:aa.length=m:=by have:=HNr.out;rw[hacc] at this;simp at this;omega
     rw[hacc,←h1] at hs'
     simpa using hs'
    subst hA
    obtain⟨es,er⟩:=s
    have hin:=edge_in HCk.out HIr.out.there
    obtain⟨f',x,hf',hax,hIx⟩:=HIr.out.next (by simp only;have:=HLf.out;simp only at this;omega) (by have:=hin.1;omega) (by rw[←HEl.out];exact HEs.out)
    simp only at hin
    have hlf:=HLf.out
    simp only at hlf hIx
    rw[←hlf] at hIx
    have htop:=hIx.top
    have hpos:=hIx.pos
    have hin2:=edge_in HCk.out hIx.there
    have hth:=hIx.there
    unfold thereB at hth
    simp only[Bool.and_eq_true,decide_eq_true_eq] at hth
    rw[←HEl.out] at hth
    obtain⟨x0,x1⟩:=x
    simp only at hth hin2 htop hpos
    obtain⟨ad2,k2,v2,hA2,he2,hk2,d0,hv2⟩:=HED.out w (Keep.refl _ _) x0 hth.1 hth.2
    obtain rfl:ad=ad2:=by simpa using hA2
    subst he2
    rw[hv2] at hin2
    have HV2:=qh hv2
    have HD2:=qh (fun (V:World) (hk:Keep Never w V)=>keepT hk d0)
    have hkz2:(k2:Int)<(ne:Int):=by omega
    have HIx:=qh hIx
    have HW:Hid (IntKind.i64.wrap (lf - v2)=lf - v2):=qh (IntWalk.i64_in _ (by omega))
    have HMs:Hid ((lf - v2).toNat<lf.toNat):=qh (by omega)
    have hz5:IntKind.i64.wrap ((m:Int)+1 - 1)=(m:Int):=by rw[show (m:Int)+1 - 1=m by omega];exact IntWalk.i64_in _ (by omega)
    have hz5b:wrap64 ((m:Int)+1 - 1)=(m:Int):=by have:=hz5;rwa [IntWalk.i64_left] at this
    have hz6:IntKind.i64.wrap (m:Int)=(m:Int):=IntWalk.i64_in _ (by omega)
    have hza:(m:Int)<(m:Int)+1:=by omega
    have hzb:(0:Int)≤(m:Int)+1:=by omega
    have hzc:((m:Int)+1).toNat=m+1:=by omega
    have HCa:Hid (∀V,Keep Never wr V→Calls Tryz.prog 117 #[.agg #[.slice (some ad) ne ce,.slice Aj nj cj,.slice Ab nb cb,.slice Ar nr cr],.agg #[.int .i64 es,.bool er]] V (AftRet [(((k2:Nat):Int),x1)] V)):=qh (fun V hV=>by have:=HAf.out V (HKr.out.trans hV) (es,er);rw[hax] at this;exact this)
    obtain⟨y0,y1,y2,y3⟩:=bc4 HTr.out
    have HS2:Hid (∀W',Keep Never wr W'→Keep Never wr W'∧W'.cell? ⟨w.heap.size,0,none⟩=some (.slice (some ad) ne ce)∧W'.cell? ⟨w.heap.size,1,none⟩=some (.slice Aj nj cj)∧W'.cell? ⟨w.heap.size,2,none⟩=some (.slice Ab nb cb)∧W'.cell? ⟨w.heap.size,3,none⟩=some (.slice Ar nr cr)∧W'.cell? (ad1.add (m*2))=some (.int .i64 es)∧W'.cell? ⟨(ad1.add (m*2)).block,(ad1.add (m*2)).off+1,none⟩=some (.bool er)):=qh (fun W' h=>⟨h,keepT h y0,keepT h y1,keepT h y2,keepT h y3,keepT h c0,keepT h c1⟩)
    clear hin hin2 htop hpos hth hlf hIx hax hf' hs' hacc d0 hv2 hA2 hk2 g
    go_wp2_with fail
    clear y0 y1 y2 y3 c0 c1
    go_region_held3 (fun W'=>Keep Never wr W'∧W'.cell? ⟨w.heap.size,0,none⟩=some (.slice (some ad) ne ce)∧W'.cell? ⟨w.heap.size,1,none⟩=some (.slice Aj nj cj)∧W'.cell? ⟨w.heap.size,2,none⟩=some (.slice Ab nb cb)∧W'.cell? ⟨w.heap.size,3,none⟩=some (.slice Ar nr cr)∧W'.cell? (ad1.add (m*2))=some (.int .i64 es)∧W'.cell? ⟨(ad1.add (m*2)).block,(ad1.add (m*2)).off+1,none⟩=some (.bool er))
      (first| assumption | exact HS2.out _ ((Keep.refl Never wr).drew) | exact HS2.out _ (Keep.trans (And.left (by assumption)) hk7) | exact HS2.out _ (Keep.trans ((Keep.refl Never wr).drew) hk7))
      (first
        | (go_at_call 117; refine(HCa.out _ (by first | exact And.left (by assumption) | exact(Keep.refl Never wr).drew | exact Keep.refl Never wr)).mono ?_;rintro e w7 ⟨A7,n7,c7,rfl,hn7,ho7,hk7⟩))
    rename_i hS
    have hk:=hS.1
    have HK7:=qtr HKr hk
    have HT7:=qkb HTr hk
    have HO7:=qko HOr hk
    have hr7:∀q,InRow (some ad1) q→q<wr.heap.size:=fun q h=>(HOr.out.row h).2
    obtain rfl:n7=1:=hn7.out
    have HA7:Hid (Own w7 wr.heap.size 30 2 A7 1 c7 (stpCells [(((k2:Nat):Int),x1)])):=qh (ho7.less (Nat.le_refl _))
    have HR7:=qh hr7
    clear hS hk hk7 hn7 ho7 hr7 hz5 hz5b hz6 hza hzb hzc HCa HS2
    obtain⟨ad3,s3,hA3,_,hs3,e0,e1⟩:=HA7.out.rd.stp (k:=0) (by omega)
    obtain rfl:(((k2:Nat):Int),x1)=s3:=by simpa using hs3
    subst hA3
    simp only[Nat.zero_mul] at e0 e1
    have ea:ad3.add 0=ad3:=by unfold Addr.add;split <;> simp_all
    have e0':=e0
    have e1':=e1
    rw[ea] at e0' e1'
    have hz7:w.heap.size+2<w7.heap.size:=by have:=(HTr.out.lt);have:=HK7.out.size;have:=HO7.out.row (k:=ad1.block) ⟨ad1,rfl,rfl⟩;omega
    clear hs3
    go_upto_region 10 with(at_builtin;refine wpList_app _ rfl (.tmp 52) (.tmp 56) _ rfl elemStp (w.heap.size+2) (A:=some ad1) (n:=m+1) (c:=co) (by go_simp) (HO7.out.alloc _) _ (A':=some ⟨_,0,none⟩) (m:=1) (c':=1) (news:=[.int .i64 ((k2:Nat):Int),.bool x1]) (by go_simp) (Rd.of_blk (n:=1) (cs:=[.int .i64 ((k2:Nat):Int),.bool x1]) (Blk.new _ _ _) rfl) (by simp[Value.oneCell']) (by omega) (by unfold maxLen;omega) (by simp;omega) ?_;intro A9 c9 w9 hown hk9 hrow9;have HO9:=qh hown;have HK9:=qh hk9;clear hown hk9 hrow9)
    have hk9:Keep (InRow (some ad1)) w7 w9:=((Keep.refl _ w7).alloc _).trans HK9.out
    have HT9:=qh (HT7.out.keep hk9 (fun h=>by have:=(HO7.out.row h).1;omega))
    have HK9b:=qh (HK7.out.then_ hk9 (fun i hi h=>by have:=(HO7.out.row h).1;omega))
    have HA9:=qh (HA7.out.keep hk9 (fun q h h2=>by have h3:=(HA7.out.row h).1;have h4:=HR7.out q h2;omega))
    obtain⟨ad4,s4,hA4,_,hs4,g0,g1⟩:=HA9.out.rd.stp (k:=0) (by omega)
    obtain rfl:(((k2:Nat):Int),x1)=s4:=by simpa using hs4
    obtain rfl:ad3=ad4:=by simpa using hA4
    simp only[Nat.zero_mul] at g0 g1
    have g0':=g0
    have g1':=g1
    rw[ea] at g0' g1'
    have d0:w9.cell? (ad.add k2)=some (.int .i64 v2):=(HD2.out w9 HK9b.out)
    obtain⟨y0,y1,y2,y3⟩:=bc4 HT9.out
    have hW:=HW.out
    have hW2:wrap64 (lf - v2)=lf - v2:=by have:=hW;rwa [IntWalk.i64_left] at this
    clear hs4 hA4 e0 e1 e0' e1' ea hk9
    go_quiet (fail)
    clear d0 y0 y1 y2 y3 g0 g1 g0' g1' hW hW2
    obtain⟨w10,hw10⟩:∃V:World,w9.drewN nq=V:=⟨_,rfl⟩
    rw[hw10]
    have hk:Keep Never w9 w10:=by rw[←hw10];exact(Keep.refl Never _).drewN _
    clear hw10
    go_wp2_with fail
    go_roundw
    case measure=>first | (simp[intOf];done) | (simp[intOf];have:=HMs.out;omega)
    case rel=>
     refine⟨f',(((k2:Nat):Int),x1),lf,lf - v2,acc++[(((k2:Nat):Int),x1)],A9,m+1+1,c9,rfl,rfl,by have h1:=HIx.out.len;have h2:=HNr.out;simp only[List.length_append,List.length_cons,List.length_nil] at h1;omega,qh ⟨HK9b.out.trans hk,HT9.out.keep hk (fun h=>h),by rw[stpCells_app];exact HO9.out.keep hk (fun _ _ h=>h),HIx.out,by rw[HNr.out];simp,by rw[HV2.out]⟩⟩
end Go.Proofs.YtpapiojicbbheaaGreatDoor

namespace Go.Proofs.YtpapiojicbbheaaGreatDoor
open Go.RowKit
def StrRet (t:Tp) (p:Ps) (n:Int) (w:World) (e:Ending) (w':World):Prop:=
  ∃m A n' c,e=.returned (.tuple #[.slice A n' c,.int .i64 (strE t p n)])∧Hid (n'=m.length)∧Hid (n'≤100000000)∧SpAt w' w'.heap.size A n' c m∧Keep Never w w'∧Hid (if strE t p n=0 then NormOf (overK t.1 (alongP t p) (alongP t p+n) (strP t p n) (strP t p n).length) m else m=[])
theorem str_bad {t:Tp}{p:Ps}{n:Int} (h:(walkP t p n).2≠0):strE t p n=(walkP t p n).2:=by unfold strE;rw[if_neg h]
theorem str_ok {t:Tp}{p:Ps}{n:Int} (h:(walkP t p n).2=0):strE t p n=overE t (strP t p n) (alongP t p) (alongP t p+n):=by unfold strE;rw[if_pos h]
theorem str_edge {t:Tp} (h:checkM t=0) {e:Int} (ht:thereB t.1.length e=true):0≤e∧e<(t.1.length:Int)∧1≤edgeM t e∧edgeM t e≤1000000:=by
 unfold thereB at ht
 rw[Bool.and_eq_true,decide_eq_true_eq,decide_eq_true_eq] at ht
 refine⟨ht.1,ht.2,?_⟩
 unfold edgeM
 have h1:e.toNat<t.1.length:=by omega
 have h2:=check_edges h (t.1.getD e.toNat 0) (by rw[List.getD_eq_getElem?_getD,List.getElem?_eq_getElem h1];exact List.getElem_mem h1)
 exact h2
theorem walk_fine {t:Tp}{p:Ps}{n:Int} (h:(walkP t p n).2=0):checkM t=0∧thereB t.1.length p.1=true∧0≤p.2.1∧p.2.1≤edgeM t p.1∧0≤n∧n≤1099511627776∧(goM t 40 (p.1,p.2.2) (n+alongP t p)).2=0:=by
 unfold walkP at h
 split at h
 ·rename_i hw
  obtain⟨a,b,c,d⟩:=right_iff.1 hw.1
  exact⟨a,b,c,d,hw.2.1,hw.2.2,h⟩
 ·exact absurd h (by decide)
set_option maxHeartbeats 4000000 in
set_option maxRecDepth 100000 in
theorem str17_any (x:TA) (t:Tp) (B:Nat) (e a:Int) (r:Bool) (n:Int) (w:World) (h:TpAt w B x t) (hs:TpSmall x t) (hB:B≤w.heap.size) :
    Calls Tryz.prog 31 #[.agg x.cs,.agg #[.int .i64 e,.int .i64 a,.bool r],.int .i64 n] w (StrRet t (e,a,r) n w):=by
  have HWk:=qh (fun (W:World) (hk:Keep Never w W)=>pwalk_any x t B e a r n W (h.keep hk) hs (Nat.le_trans hB hk.size))
  have HBh:=qh (fun (W:World) (hk:Keep Never w W) (hf:(walkP t (e,a,r) n).2=0)=>(show Calls Tryz.prog 57 #[.agg x.cs,.agg #[.int .i64 e,.int .i64 a,.bool r]] W fun en w'=>en=.returned (.int .i64 (alongP t (e,a,r)))∧Keep Never W w' by
   obtain⟨f1,f2,f3,f4,_⟩:=walk_fine hf
   have h1:=str_edge f1 f2
   simp only at f3 f4 h1
   exact behind_any x t B e a r W (h.keep hk) h1.1 (by have:=h.e.len;have:=h1.2.1;omega) (by omega) (by omega) f3 (by omega)))
  have HGo:=qh (fun (W:World) (hk:Keep Never w W) (hf:(walkP t (e,a,r) n).2=0)=>gone_any x t B 0 e a r n W (h.keep hk) hs (walk_fine hf).1 (walk_fine hf).2.1 (walk_fine hf).2.2.1 (walk_fine hf).2.2.2.1 (walk_fine hf).2.2.2.2.1 (walk_fine hf).2.2.2.2.2.1 (walk_fine hf).2.2.2.2.2.2)
  have HOv:=qh (fun (W:World) (hk:Keep Never w W) (A:Option Addr) (m c:Nat) (l:List Stp) (hp:repStp.Sl W W.heap.size A m c l) (hm:m≤100000000) (lo hi:Int) (l1:-9223372036854775808≤lo) (l2:lo≤9223372036854775807) (l3:-9223372036854775808≤hi) (l4:hi≤9223372036854775807)=>over_any x t W.heap.size A m c l lo hi W ((h.keep hk).wide (Nat.le_trans hB hk.size)) hp hs.j hs.e hm (Nat.le_refl _) l1 l2 l3 l4)
  obtain⟨Ae,ne,ce,Aj,nj,cj,Ab,nb,cb,Ar,nr,cr⟩:=x
  simp only[TA.cs] at HWk HBh HGo HOv ⊢
  clear h hs hB
  obtain⟨w1,hw1⟩:∃V:World,w.alloc (.cells #[.slice Ae ne ce,.slice Aj nj cj,.slice Ab nb cb,.slice Ar nr cr] 27)=V:=⟨_,rfl⟩
  have zw1:w1.heap.size=w.heap.size+1:=by rw[←hw1];simp
  have kw1:Keep Never w w1:=by rw[←hw1];exact(Keep.refl _ _).alloc _
  have bw1:=Blk.new w 27 #[.slice Ae ne ce,.slice Aj nj cj,.slice Ab nb cb,.slice Ar nr cr]
  rw[hw1] at bw1
  obtain⟨w2,hw2⟩:∃V:World,w1.alloc (.cells #[.int .i64 e,.int .i64 a,.bool r] 71)=V:=⟨_,rfl⟩
  have kw2:Keep Never w1 w2:=by rw[←hw2];exact(Keep.refl _ _).alloc _
  have bw2:=Blk.new w1 71 #[.int .i64 e,.int .i64 a,.bool r]
  rw[hw2,zw1] at bw2
  have HB1:=qh (bw1.keep kw2 (fun h=>h))
  have HB2:=qh bw2
  have HK:=qh (kw1.trans kw2)
  clear kw1 kw2 bw1 bw2
  have HT2:=HB1
  have HP2:=HB2
  have HK2:=HK
  have hw:=HWk.out w2 HK.out
  unfold PsRet2 at hw
  obtain⟨wp,hwp⟩:∃z,walkP t (e,a,r) n=z:=⟨_,rfl⟩
  rw[hwp] at hw
  have HWp:=qh hwp
  obtain⟨⟨v1,v2,v3⟩,er⟩:=wp
  simp only[psV] at hw
  have HC:=qh hw
  obtain⟨y0,y1,y2,y3⟩:=bc4 HT2.out
  obtain⟨p0,p1,p2⟩:=bc3 HP2.out
  clear hw hwp HWk HB1 HB2 HK
  go_enter Tryz.func31, Tryz.ntmps31
  go_wp2_with fail
  refine HC.out.mono ?_
  rintro en w3 ⟨rfl,hk⟩
  have HK3:=qtr HK2 hk
  have HT3:=qkb HT2 hk
  have HP3:=qkb HP2 hk
  clear hk HC y0 y1 y2 y3 p0 p1 p2 HT2 HP2 HK2 hw1 hw2 zw1
  by_cases g0:er=0
  case neg=>
   have t0:(er != 0)=true:=by simpa using g0
   have HF:Hid (strE t (e,a,r) n=er):=qh (by rw[str_bad (by rw[HWp.out];exact g0),HWp.out])
   have HN:=qh g0
   clear g0
   go_wp2_with fail
   go_ret2
   exact⟨[],none,0,0,by rw[HF.out];rfl,qh rfl,qh (by omega),nilAt _,HK3.out.alloc _,qh (by rw[HF.out,if_neg HN.out])⟩
  have t0:(er != 0)=false:=by simpa using g0
  have hf:(walkP t (e,a,r) n).2=0:=by rw[HWp.out];exact g0
  have HF:=qh hf
  obtain⟨f1,f2,f3,f4,f5,f6,f7⟩:=walk_fine hf
  have hal:=along_in (t:=t) (p:=(e,a,r)) f3 f4
  have hed:=str_edge f1 f2
  simp only at hal hed
  have HGl:Hid ((strP t (e,a,r) n).length≤41):=qh (gone_good f2 f7).few
  have HSt:Hid (strE t (e,a,r) n=overE t (strP t (e,a,r) n) (alongP t (e,a,r)) (alongP t (e,a,r)+n)):=qh (str_ok hf)
  obtain⟨al,hal2⟩:∃z,alongP t (e,a,r)=z:=⟨_,rfl⟩
  rw[hal2] at hal HSt
  have HAl:=qh hal2
  have hw3:IntKind.i64.wrap (al+n)=al+n:=IntWalk.i64_in _ (by omega)
  have hw3b:wrap64 (al+n)=al+n:=by have:=hw3;rwa [IntWalk.i64_left] at this
  have HRg:Hid (-9223372036854775808≤al∧al≤9223372036854775807∧-9223372036854775808≤al+n∧al+n≤9223372036854775807):=qh (by omega)
  go_upto_region 4 with(fail)
  obtain⟨w4,hw4⟩:∃V:World,w3.alloc (.cells #[.int .i64 v1,.int .i64 v2,.bool v3] 71)=V:=⟨_,rfl⟩
  have hk:Keep Never w3 w4:=by rw[←hw4];exact(Keep.refl _ _).alloc _
  have B4:=Blk.new w3 71 #[.int .i64 v1,.int .i64 v2,.bool v3]
  rw[hw4] at B4
  obtain⟨bv,hbv⟩:∃q,w3.heap.size=q:=⟨_,rfl⟩
  rw[hbv] at B4
  rw[hw4,hbv]
  have HK4:=qtr HK3 hk
  have HT4:=qkb HT3 hk
  have HP4:=qkb HP3 hk
  clear hk B4 hw4 hbv HT3 HP3 HK3 t0
  have hw:=HBh.out w4 HK4.out HF.out
  rw[HAl.out] at hw
  have HC:=qh hw
  obtain⟨y0,y1,y2,y3⟩:=bc4 HT4.out
  obtain⟨p0,p1,p2⟩:=bc3 HP4.out
  clear hw HBh hf f1 f2 f3 f4 f5 f6 f7 hal hed hal2 g0
  go_wp2_with fail
  refine HC.out.mono ?_
  rintro en w5 ⟨rfl,hk⟩
  have HK5:=qtr HK4 hk
  have HT5:=qkb HT4 hk
  have HP5:=qkb HP4 hk
  clear hk HC y0 y1 y2 y3 p0 p1 p2 HT4 HP4 HK4
  have HCg:Hid (∀V,Keep Never w5 V→Calls Tryz.prog 56 #[.agg #[.slice Ae ne ce,.slice Aj nj cj,.slice Ab nb cb,.slice Ar nr cr],.agg #[.int .i64 0,.int .i64 e,.int .i64 a],.bool r,.int .i64 n] V (StpsRet (strP t (e,a,r) n) V)):=qh (fun V hV=>HGo.out V (HK5.out.trans hV) HF.out)
  unfold StpsRet at HCg
  obtain⟨y0,y1,y2,y3⟩:=bc4 HT5.out
  obtain⟨p0,p1,p2⟩:=bc3 HP5.out
  have HS25:Hid (∀W',Keep Never w5 W'→Keep Never w5 W'∧W'.cell? ⟨w.heap.size,0,none⟩=some (.slice Ae ne ce)∧W'.cell? ⟨w.heap.size,1,none⟩=some (.slice Aj nj cj)∧W'.cell? ⟨w.heap.size,2,none⟩=some (.slice Ab nb cb)∧W'.cell? ⟨w.heap.size,3,none⟩=some (.slice Ar nr cr)∧W'.cell? ⟨w.heap.size+1,0,none⟩=some (.int .i64 e)∧W'.cell? ⟨w.heap.size+1,1,none⟩=some (.int .i64 a)∧W'.cell? ⟨w.heap.size+1,2,none⟩=some (.bool r)):=qh (fun W' h=>⟨h,keepT h y0,keepT h y1,keepT h y2,keepT h y3,keepT h p0,keepT h p1,keepT h p2⟩)
  go_upto_region 5 with(fail)
  clear y0 y1 y2 y3 p0 p1 p2
  go_region_held3 (fun W'=>Keep Never w5 W'∧W'.cell? ⟨w.heap.size,0,none⟩=some (.slice Ae ne ce)∧W'.cell? ⟨w.heap.size,1,none⟩=some (.slice Aj nj cj)∧W'.cell? ⟨w.heap.size,2,none⟩=some (.slice Ab nb cb)∧W'.cell? ⟨w.heap.size,3,none⟩=some (.slice Ar nr cr)∧W'.cell? ⟨w.heap.size+1,0,none⟩=some (.int .i64 e)∧W'.cell? ⟨w.heap.size+1,1,none⟩=some (.int .i64 a)∧W'.cell? ⟨w.heap.size+1,2,none⟩=some (.bool r))
    (first| assumption | exact HS25.out _ ((Keep.refl Never w5).drew) | exact HS25.out _ (Keep.trans (And.left (by assumption)) hk21) | exact HS25.out _ (Keep.trans ((Keep.refl Never w5).drew) hk21) | exact HS25.out _ (Keep.trans (And.left (by assumption)) hk22))
    (first
      | (go_at_call 56; refine(HCg.out _ (by first | exact And.left (by assumption) | exact(Keep.refl Never w5).drew | exact Keep.refl Never w5)).mono ?_;rintro en w21 ⟨A8,n8,c8,rfl,hn8,ho8,h64,hk21⟩;have HK21:Hid (Keep Never w5 w21):=qh (by first | exact Keep.trans (And.left (by assumption)) hk21 | exact Keep.trans ((Keep.refl Never w5).drew) hk21);have HOm:Hid (∀w',Keep Never w21 w'→Calls Tryz.prog 92 #[.agg #[.slice Ae ne ce,.slice Aj nj cj,.slice Ab nb cb,.slice Ar nr cr],.slice A8 n8 c8,.int .i64 al,.int .i64 (al+n)] w' (OverRet t (strP t (e,a,r) n) al (al+n) w')):=qh (fun w' h=>HOv.out w' (HK5.out.trans (HK21.out.trans h)) A8 n8 c8 _ (stps_own (ho8.keep h (fun _ _ h=>h)) h64.out) (by have h1:=hn8.out;have h2:=HGl.out;omega) al (al+n) HRg.out.1 HRg.out.2.1 HRg.out.2.2.1 HRg.out.2.2.2))
      | (go_at_call 92; refine(HOm.out _ (by first | exact Keep.refl Never _ | exact(Keep.refl Never _).drew)).mono ?_;rintro en w22 ⟨mm,A9,n9,c9,rfl,q1,q2,q3,hk22,q4⟩;have HQ:=qh (And.intro q1.out (And.intro q2.out (And.intro q3 q4.out)));clear q1 q2 q3 q4))
  all_goals
   rename_i hS
   have hk:=HK5.out.trans hS.1
   clear hS
   go_wp2_with fail
   go_ret2
   rw[←HSt.out] at HQ
   refine⟨mm,A9,n9,c9,by rw[HSt.out];rfl,qh HQ.out.1,qh HQ.out.2.1,HQ.out.2.2.1,hk,qh (by rw[HAl.out];exact HQ.out.2.2.2)⟩
end Go.Proofs.YtpapiojicbbheaaGreatDoor

namespace Go.Proofs.YtpapiojicbbheaaGreatDoor
open Go.RowKit
set_option maxHeartbeats 1000000 in
set_option maxRecDepth 100000 in
theorem rend_any (x:TA) (a:En) (w:World) :
    Calls Tryz.prog 108 #[.agg x.cs,.agg #[.int .i64 a.1,.int .i64 a.2]] w fun e w'=>e=.returned (.bool (endB x.ne a))∧Keep Never w w':=by
  have HT:=qh (fun W=>redge_any x a.1 W)
  obtain⟨Ae,ne,ce,Aj,nj,cj,Ab,nb,cb,Ar,nr,cr⟩:=x
  obtain⟨a1,a2⟩:=a
  simp only[TA.cs] at HT ⊢
  obtain⟨w1,hw1⟩:∃wb:World,w.alloc (.cells #[.slice Ae ne ce,.slice Aj nj cj,.slice Ab nb cb,.slice Ar nr cr] 27)=wb:=⟨_,rfl⟩
  obtain⟨w2,hw2⟩:∃wb:World,w1.alloc (.cells #[.int .i64 a1,.int .i64 a2] 132)=wb:=⟨_,rfl⟩
  have z1:w1.heap.size=w.heap.size+1:=by rw[←hw1];simp
  have k1:Keep Never w w1:=by rw[←hw1];exact(Keep.refl _ _).alloc _
  have k2:Keep Never w1 w2:=by rw[←hw2];exact(Keep.refl _ _).alloc _
  have b1:=Blk.new w 27 #[.slice Ae ne ce,.slice Aj nj cj,.slice Ab nb cb,.slice Ar nr cr]
  rw[hw1] at b1
  have b2:=Blk.new w1 132 #[.int .i64 a1,.int .i64 a2]
  rw[hw2,z1] at b2
  have hb1:=b1.keep k2 (fun h=>h)
  have HB2:=qh b2
  have HK:=qh (k1.trans k2)
  obtain⟨y0,y1,y2,y3⟩:=bc4 hb1
  obtain⟨v0,v1⟩:=bc2 HB2.out
  clear k1 k2 b1 b2 hb1
  go_enter Tryz.func108, Tryz.ntmps108
  go_wp2_with fail
  refine(HT.out w2).mono ?_
  rintro e w3 ⟨rfl,hk3⟩
  have HK3:=qtr HK hk3
  have u1:w3.cell? ⟨w.heap.size+1,1,none⟩=some (.int .i64 a2):=keepT hk3 v1
  clear y0 y1 y2 y3 v0 v1 hk3
  cases htb:thereB ne a1 with
  | false=>
   have HF:Hid (endB ne (a1,a2)=false):=qh (by unfold endB;rw[htb];rfl)
   clear htb
   go_wp2_with fail
   go_ret
   exact⟨by rw[HF.out];rfl,HK3.out⟩
  | true=>
   by_cases q0:a2=0
   ·have t0:(a2==0)=true:=by simpa using q0
    have HF:Hid (endB ne (a1,a2)=true):=qh (by unfold endB;rw[htb];simp[q0])
    clear htb q0
    go_wp2_with fail
    go_ret
    exact⟨by rw[HF.out];rfl,HK3.out⟩
   ·have t0:(a2==0)=false:=by simpa using q0
    by_cases q1:a2=1
    ·have t1:(a2==1)=true:=by simpa using q1
     have HF:Hid (endB ne (a1,a2)=true):=qh (by unfold endB;rw[htb];simp[q1])
     clear htb q0 q1
     go_wp2_with fail
     go_ret
     exact⟨by rw[HF.out];rfl,HK3.out⟩
    ·have t1:(a2==1)=false:=by simpa using q1
     have HF:Hid (endB ne (a1,a2)=false):=qh (by unfold endB;rw[htb];simp[q0,q1])
     clear htb q0 q1
     go_wp2_with fail
     go_ret
     exact⟨by rw[HF.out];rfl,HK3.out⟩
end Go.Proofs.YtpapiojicbbheaaGreatDoor

namespace Go.Proofs.YtpapiojicbbheaaGreatDoor
open Go.RowKit
set_option maxHeartbeats 4000000 in
set_option maxRecDepth 100000 in
theorem rroute_any (x:TA) (t:Tp) (B:Nat) (r:Rt) (A:Option Addr) (n c:Nat) (w:World) (ht:TpAt w B x t) (hp:repStp.Sl w B A n c r.2.1) (hn:x.nj≤100000000) (hn1:x.nb≤100000000) (hn2:n≤100000000) (hw:t.1.any wrongB=false) :
    Calls Tryz.prog 111 #[.agg x.cs,.agg #[.int .i64 r.1,.slice A n c,.int .i64 r.2.2.1,.int .i64 r.2.2.2]] w fun e w'=>e=.returned (.int .i64 (routedM t r))∧Keep Never w w':=by
  have HLn:Hid (∀(w':World),Keep Never w w'→Calls Tryz.prog 130 #[.agg x.cs,.slice A n c] w' fun e w''=>e=.returned (.tuple #[.int .i64 (lenM t r.2.1).1,.int .i64 (lenM t r.2.1).2])∧Keep Never w' w''):=qh (fun w' h=>rlength_any x t B A n c r.2.1 w' (ht.keep h) (hp.keep h (fun _ h=>h.elim)) hn hn2)
  have HT:=qh (fun i W=>redge_any x i W)
  have HEl:Hid (x.ne=t.1.length):=qh ht.e.len
  have HBl:=qh (bl_rd ht.b)
  have HP:=qh hp
  have HPl:Hid (n=r.2.1.length):=qh hp.len
  have HBn:Hid (x.nb=t.2.2.1.length):=qh ht.b.len
  obtain⟨Ae,ne,ce,Aj,nj,cj,Ab,nb,cb,Ar,nr,cr⟩:=x
  obtain⟨r1,p,r3,r4⟩:=r
  simp only[TA.cs] at HLn HT HEl HBl HP HPl HBn hn1 ⊢
  have HWr:=qh hw
  obtain⟨w1,hw1⟩:∃wb:World,w.alloc (.cells #[.slice Ae ne ce,.slice Aj nj cj,.slice Ab nb cb,.slice Ar nr cr] 27)=wb:=⟨_,rfl⟩
  obtain⟨w2,hw2⟩:∃wb:World,w1.alloc (.cells #[.int .i64 r1,.slice A n c,.int .i64 r3,.int .i64 r4] 64)=wb:=⟨_,rfl⟩
  have z1:w1.heap.size=w.heap.size+1:=by rw[←hw1];simp
  have k1:Keep Never w w1:=by rw[←hw1];exact(Keep.refl _ _).alloc _
  have k2:Keep Never w1 w2:=by rw[←hw2];exact(Keep.refl _ _).alloc _
  have b1:=Blk.new w 27 #[.slice Ae ne ce,.slice Aj nj cj,.slice Ab nb cb,.slice Ar nr cr]
  rw[hw1] at b1
  have b2:=Blk.new w1 64 #[.int .i64 r1,.slice A n c,.int .i64 r3,.int .i64 r4]
  rw[hw2,z1] at b2
  have HB1:=qh (b1.keep k2 (fun h=>h))
  have HB2:=qh b2
  have HK:=qh (k1.trans k2)
  obtain⟨v0,v1⟩:=bc2 HB2.out
  clear k1 k2 b1 b2 ht hp hw
  by_cases g1:r1<1
  ·have t1:decide (r1<1)=true:=by simpa using g1
   have HF:Hid (routedM t (r1,p,r3,r4)=1):=qh (by unfold routedM;rw[if_pos (.inl g1)])
   clear g1
   go_enter Tryz.func111, Tryz.ntmps111
   go_wp2_with fail
   go_ret
   exact⟨by rw[HF.out];rfl,HK.out⟩
  have t1:decide (r1<1)=false:=by simpa using g1
  by_cases g2:n<1
  ·have t2:((n:Int)==0)=true:=by simp;omega
   have HF:Hid (routedM t (r1,p,r3,r4)=1):=qh (by unfold routedM;rw[if_pos (.inr (.inl (by rw[←HPl.out];exact g2)))])
   clear g1 g2
   go_enter Tryz.func111, Tryz.ntmps111
   go_wp2_with fail
   go_ret
   exact⟨by rw[HF.out];rfl,HK.out⟩
  have t2:((n:Int)==0)=false:=by simp;omega
  by_cases g3:8<n
  ·have t3:decide ((n:Int)>8)=true:=by simp;omega
   have HF:Hid (routedM t (r1,p,r3,r4)=1):=qh (by unfold routedM;rw[if_pos (.inr (.inr (by rw[←HPl.out];exact g3)))])
   clear g1 g2 g3
   go_enter Tryz.func111, Tryz.ntmps111
   go_wp2_with fail
   go_ret
   exact⟨by rw[HF.out];rfl,HK.out⟩
  have t3:decide ((n:Int)>8)=false:=by simp;omega
  have HN1:Hid (¬(r1<1∨p.length<1∨8<p.length)):=qh (by have:=HPl.out;omega)
  have hn8:n≤8:=by omega
  clear g1 g2 g3
  go_enter Tryz.func111, Tryz.ntmps111
  go_wp2_with fail
  clear t1 t2 t3 v0 v1
  go_loopw [5] (fun i wr=>∃k:Nat,k≤n∧i=.int .i64 k∧Hid (Keep Never w2 wr∧∀j,j<k→badAt ne p j=false)) (fun i _=>n - (intOf i).toNat)
  case atStart=>exact⟨0,by omega,rfl,qh ⟨Keep.refl _ _,fun j h=>by omega⟩⟩
  case round=>
   obtain⟨k,hk,rfl,HH⟩:=hrel
   have hb1:=HB1.out.keep HH.out.1 (fun h=>h)
   have hb2:=HB2.out.keep HH.out.1 (fun h=>h)
   have v1:wr.cell? ⟨w.heap.size+1,1,none⟩=some (.slice A n c):=hb2.cell 1
   by_cases h0:k<n
   ·have hkz:(k:Int)<(n:Int):=by omega
    obtain⟨ad,s,hA,_,hs,c0,c1,_⟩:=stp_at (HP.out.keep (HK.out.trans HH.out.1) (fun _ h=>h.elim)) h0
    subst hA
    obtain⟨s1,s2⟩:=s
    simp only at c0 c1 hs
    obtain⟨y0,y1,y2,y3⟩:=bc4 hb1
    have Hs:=qh hs
    have HS2:Hid (∀W',Keep Never wr W'→Keep Never wr W'∧W'.cell? ⟨w.heap.size,0,none⟩=some (.slice Ae ne ce)∧W'.cell? ⟨w.heap.size,1,none⟩=some (.slice Aj nj cj)∧W'.cell? ⟨w.heap.size,2,none⟩=some (.slice Ab nb cb)∧W'.cell? ⟨w.heap.size,3,none⟩=some (.slice Ar nr cr)∧W'.cell? ⟨w.heap.size+1,1,none⟩=some (.slice (some ad) n c)∧W'.cell? (ad.add (k*2))=some (.int .i64 s1)):=qh (fun W' h=>⟨h,keepT h y0,keepT h y1,keepT h y2,keepT h y3,keepT h v1,keepT h c0⟩)
    clear hs hb1 hb2 c1
    go_wp2_with fail
    clear y0 y1 y2 y3 v1 c0
    go_region_held3 (fun W'=>Keep Never wr W'∧W'.cell? ⟨w.heap.size,0,none⟩=some (.slice Ae ne ce)∧W'.cell? ⟨w.heap.size,1,none⟩=some (.slice Aj nj cj)∧W'.cell? ⟨w.heap.size,2,none⟩=some (.slice Ab nb cb)∧W'.cell? ⟨w.heap.size,3,none⟩=some (.slice Ar nr cr)∧W'.cell? ⟨w.heap.size+1,1,none⟩=some (.slice (some ad) n c)∧W'.cell? (ad.add (k*2))=some (.int .i64 s1))
      (first| assumption | exact HS2.out _ ((Keep.refl Never wr).drew) | exact HS2.out _ (Keep.trans (And.left (by assumption)) hk3) | exact HS2.out _ (Keep.trans ((Keep.refl Never wr).drew) hk3))
      (first
        | (go_at_call 110; refine(HT.out s1 _).mono ?_;rintro e w3 ⟨rfl,hk3⟩))
    rename_i hS
    have HK3:=qh (HH.out.1.trans hS.1)
    clear hS HS2 hk3
    cases htb:thereB ne s1 with
    | false=>
     have HBd:Hid (badAt ne p k=true):=qh (by unfold badAt;rw[Hs.out];simp[htb])
     have HF:Hid (routedM t (r1,p,r3,r4)=1):=qh (by unfold routedM;rw[if_neg HN1.out,if_pos (pathBad_t (k:=k) (by show k<p.length;have:=HPl.out;omega) (by rw[←HEl.out];exact HBd.out))])
     clear htb
     go_wp2_with fail
     go_ret
     exact⟨by rw[HF.out];rfl,HK.out.trans HK3.out⟩
    | true=>
     have HTb:=qh htb
     clear htb
     go_wp2_with fail
     go_loopw [7] (fun i wr=>∃j:Nat,j≤k∧i=.int .i64 j∧Hid (Keep Never w2 wr∧∀(i:Nat) (u:Stp),i<j→p[i]?=some u→u.1≠s1)) (fun i _=>k - (intOf i).toNat)
     case atStart=>exact⟨0,by omega,rfl,qh ⟨HK3.out,fun i u h=>by omega⟩⟩
     case round=>
      obtain⟨j,hj,rfl,HJ⟩:=hrel
      by_cases h1:j<k
      ·have hjz:(j:Int)<(k:Int):=by omega
       have hj1:j<n:=by omega
       have hjn:(j:Int)<(n:Int):=by omega
       have hpk:=HP.out.keep (HK.out.trans HJ.out.1) (fun _ h=>h.elim)
       obtain⟨ad6,sj,hA6,_,hv,c0,_,_⟩:=stp_at hpk hj1
       obtain⟨ad7,sk,hA7,_,hu,d0,_,_⟩:=stp_at hpk h0
       injection hA6 with hA6
       injection hA7 with hA7
       subst hA6 hA7
       rw[Hs.out] at hu
       injection hu with hu
       subst hu
       obtain⟨o1,o2⟩:=sj
       simp only at c0 d0
       have Hv:=qh hv
       have v1:wr.cell? ⟨w.heap.size+1,1,none⟩=some (.slice (some ad) n c):=(HB2.out.keep HJ.out.1 (fun h=>h)).cell 1
       clear hv hpk
       by_cases gq:o1=s1
       ·have t1:(o1==s1)=true:=by simpa using gq
        have HBd:Hid (badAt ne p k=true):=qh (by
         unfold badAt
         rw[Hs.out]
         simp only[Bool.or_eq_true]
         right
         rw[List.any_eq_true]
         refine⟨(o1,o2),?_,by simpa using gq⟩
         rw[List.mem_iff_getElem?]
         exact⟨j,by rw[List.getElem?_take,if_pos h1];exact Hv.out⟩)
        have HF:Hid (routedM t (r1,p,r3,r4)=1):=qh (by unfold routedM;rw[if_neg HN1.out,if_pos (pathBad_t (k:=k) (by show k<p.length;have:=HPl.out;omega) (by rw[←HEl.out];exact HBd.out))])
        clear gq
        go_wp2_with fail
        go_quiet (fail)
        go_wp2_with fail
        go_ret
        exact⟨by rw[HF.out];rfl,HK.out.trans (HJ.out.1.drewN _)⟩
       ·have t1:(o1==s1)=false:=by simpa using gq
        have HN:Hid (∀(i:Nat) (u:Stp),i<j+1→p[i]?=some u→u.1≠s1):=qh (fun i u hi hs=>by
         by_cases e:i=j
         ·rw[e,Hv.out] at hs;injection hs with hs;rw[←hs];exact gq
         ·exact HJ.out.2 i u (by omega) hs)
        clear gq
        go_wp2_with fail
        go_quiet (fail)
        go_wp2_with fail
        refine⟨⟨j+1,by omega,by go_num,qh ⟨HJ.out.1.drewN _,HN.out⟩⟩,?_⟩
        simp[intOf];try omega
      ·obtain rfl:k=j:=by omega
       have hjz:¬(k:Int)<(k:Int):=by omega
       have HBd:Hid (badAt ne p k=false):=qh (by
        unfold badAt
        rw[Hs.out]
        simp only
        rw[HTb.out]
        simp only[Bool.not_true,Bool.false_or]
        rw[List.any_eq_false]
        intro u hu
        obtain⟨i,hi⟩:=List.mem_iff_getElem?.1 hu
        rw[List.getElem?_take] at hi
        split at hi
        ·rename_i hik
         simpa using HJ.out.2 i u hik hi
        ·cases hi)
       go_wp2_with fail
       refine⟨⟨k+1,by omega,by go_num,qh ⟨HJ.out.1,fun j hj=>?_⟩⟩,?_⟩
       ·by_cases e:j=k
        ·rw[e];exact HBd.out
        ·exact HH.out.2 j (by omega)
       ·simp[intOf];try omega
   ·obtain rfl:k=n:=by omega
    have hkz:¬(k:Int)<(k:Int):=by omega
    have HN2:Hid (¬pathBad t.1.length p=true):=qh (by
     rw[pathBad_f (fun j hj=>by rw[←HEl.out];exact HH.out.2 j (by have:=HPl.out;omega))];simp)
    have HKr:=qh HH.out.1
    obtain⟨y0,y1,y2,y3⟩:=bc4 hb1
    have HC:=qh (HLn.out wr (HK.out.trans HH.out.1))
    clear HH hb1 hb2 HT HLn
    obtain⟨all,hall⟩:∃z,(lenM t p).1=z:=⟨_,rfl⟩
    obtain⟨er,her⟩:∃z,(lenM t p).2=z:=⟨_,rfl⟩
    have HAl:=qh hall
    have HEr:=qh her
    rw[hall,her] at HC
    clear hall her
    go_wp2_with fail
    refine HC.out.mono ?_
    rintro e w3 ⟨rfl,hk3⟩
    have HK3:=qtr HKr hk3
    have HB2r:=qh ((HB2.out.keep HKr.out (fun h=>h)).keep hk3 (fun h=>h))
    have HB1r:=qh ((HB1.out.keep HKr.out (fun h=>h)).keep hk3 (fun h=>h))
    clear hk3 y0 y1 y2 y3 v1 HC
    by_cases g0:er=0
    case neg=>
     have t0:(er != 0)=true:=by simpa using g0
     have t0':(er==0)=false:=by simpa using g0
     have HF:Hid (routedM t (r1,p,r3,r4)=er):=qh (by unfold routedM;rw[if_neg HN1.out,if_neg HN2.out,if_pos (by simp only;rw[HEr.out];exact g0)];exact HEr.out)
     clear g0
     go_wp2_with fail
     go_ret
     exact⟨by rw[HF.out];rfl,HK.out.trans HK3.out⟩
    subst g0
    have HN3:Hid (¬(lenM t p).2≠0):=qh (by rw[HEr.out];simp)
    have hgl:=len_good (HEr.out) HWr.out
    have hsg:=sum_good hgl.1 p.length (Nat.le_refl _)
    rw[List.take_of_length_le (Nat.le_refl _),←hgl.2] at hsg
    have hall0:0≤all:=by rw[←HAl.out];exact hsg.1
    have hall1:all≤8000000:=by rw[←HAl.out];have:=hsg.2;have:=HPl.out;omega
    clear hsg hgl
    have v1:w3.cell? ⟨w.heap.size+1,1,none⟩=some (.slice A k c):=HB2r.out.cell 1
    have v2:w3.cell? ⟨w.heap.size+1,2,none⟩=some (.int .i64 r3):=HB2r.out.cell 2
    have v3:w3.cell? ⟨w.heap.size+1,3,none⟩=some (.int .i64 r4):=HB2r.out.cell 3
    have hF1:(r3<0∨all≤r3∨r4<1∨1000<r4)→routedM t (r1,p,r3,r4)=1:=fun h=>by
     unfold routedM;rw[if_neg HN1.out,if_neg HN2.out,if_neg HN3.out,if_pos (by simp only;rw[HAl.out];exact h)]
    have HF1:=qh hF1
    clear hF1
    by_cases g1:r3<0
    ·have t1:decide (r3<0)=true:=by simpa using g1
     have HF:=qh (HF1.out (.inl g1))
     clear g1
     go_wp2_with fail
     go_ret
     exact⟨by rw[HF.out];rfl,HK.out.trans HK3.out⟩
    have t1:decide (r3<0)=false:=by simpa using g1
    by_cases g2:all≤r3
    ·have t2:decide (r3>all - 1)=true:=by simp;omega
     have HF:=qh (HF1.out (.inr (.inl g2)))
     clear g1 g2
     go_wp2_with fail
     go_ret
     exact⟨by rw[HF.out];rfl,HK.out.trans HK3.out⟩
    have t2:decide (r3>all - 1)=false:=by simp;omega
    by_cases g3:r4<1
    ·have t3:decide (r4<1)=true:=by simpa using g3
     have HF:=qh (HF1.out (.inr (.inr (.inl g3))))
     clear g1 g2 g3
     go_wp2_with fail
     go_ret
     exact⟨by rw[HF.out];rfl,HK.out.trans HK3.out⟩
    have t3:decide (r4<1)=false:=by simpa using g3
    by_cases g4:1000<r4
    ·have t4:decide (r4>1000)=true:=by simpa using g4
     have HF:=qh (HF1.out (.inr (.inr (.inr g4))))
     clear g1 g2 g3 g4
     go_wp2_with fail
     go_ret
     exact⟨by rw[HF.out];rfl,HK.out.trans HK3.out⟩
    have t4:decide (r4>1000)=false:=by simpa using g4
    have HN4:Hid (¬(r3<0∨(lenM t p).1≤r3∨r4<1∨1000<r4)):=qh (by rw[HAl.out];omega)
    clear g1 g2 g3 g4 HF1
    go_wp2_with fail
    clear t1 t2 t3 t4 v1 v2 v3 hall0 hall1
    rename World=>w3
    go_loopw [10] (fun i wr=>∃j:Nat,j≤k∧i=.int .i64 j∧Hid (Keep Never w2 wr∧∀s∈p.take j,noBal t.2.2.1 s=false)) (fun i _=>k - (intOf i).toNat)
    case atStart=>exact⟨0,by omega,rfl,qh ⟨HK3.out,by simp⟩⟩
    case round=>
     obtain⟨j,hj,rfl,HH⟩:=hrel
     have v1:wr.cell? ⟨w.heap.size+1,1,none⟩=some (.slice A k c):=(HB2.out.keep HH.out.1 (fun h=>h)).cell 1
     by_cases h0:j<k
     ·have hjz:(j:Int)<(k:Int):=by omega
      obtain⟨wk,hwk⟩:∃z,wr=z:=⟨_,rfl⟩
      rw[hwk] at HH v1
      rw[hwk]
      clear hwk
      go_wp2_with fail
      clear v1
      go_loopw [11,12] (fun h q wr=>∃q':Nat,q'≤nb∧h=.bool ((t.2.2.1.take q').any (fun b=>b.2.1==(p.getD j (0,false)).1))∧q=.int .i64 q'∧Hid (Keep Never wk wr)) (fun _ i _=>nb - (intOf i).toNat)
      case atStart=>exact⟨0,by omega,by simp,rfl,qh (Keep.refl _ _)⟩
      case round=>
       obtain⟨q,hq,rfl,rfl,HH3⟩:=hrel
       have HK4:=qh (HH.out.1.trans HH3.out)
       have y2:wr.cell? ⟨w.heap.size,2,none⟩=some (.slice Ab nb cb):=(HB1.out.keep HK4.out (fun h=>h)).cell 2
       have v1:wr.cell? ⟨w.heap.size+1,1,none⟩=some (.slice A k c):=(HB2.out.keep HK4.out (fun h=>h)).cell 1
       obtain⟨ad,s,hA,_,hs,c0,_,_⟩:=stp_at (HP.out.keep (HK.out.trans HK4.out) (fun _ h=>h.elim)) h0
       subst hA
       obtain⟨s1,s2⟩:=s
       simp only at c0
       have hgd:(p.getD j (0,false)).1=s1:=by rw[List.getD_eq_getElem?_getD,hs];rfl
       rw[hgd]
       have Hs:=qh hs
       clear hs hgd
       by_cases hqb:q<nb
       ·have hqz:(q:Int)<(nb:Int):=by omega
        obtain⟨ad6,b,hA6,_,hb,f0,f1,f2⟩:=(HBl.out.keep (HK.out.trans HK4.out) (fun _ h=>h.elim)).sp hqb
        (try simp only at hA6)
        subst hA6
        obtain⟨b1,b2,b3⟩:=b
        simp only at f0 f1 f2
        have HNx:Hid ((t.2.2.1.take (q+1)).any (fun b=>b.2.1==s1)=((t.2.2.1.take q).any (fun b=>b.2.1==s1) || (b2==s1))):=qh (by
         obtain⟨h2,h3⟩:=List.getElem?_eq_some_iff.1 hb
         rw[List.take_succ_eq_append_getElem h2,h3]
         simp[List.any_append])
        obtain⟨hs,hhs⟩:∃z,(t.2.2.1.take q).any (fun b=>b.2.1==s1)=z:=⟨_,rfl⟩
        obtain⟨z,hz⟩:∃z,(b2==s1)=z:=⟨_,rfl⟩
        rw[hhs,hz] at HNx
        rw[hhs]
        clear hhs hb f0 f2
        cases hs with
        | true=>
         clear f1 hz
         go_wp2_with fail
         go_quiet (fail)
         go_wp2_with fail
         refine⟨⟨q+1,by omega,by rw[HNx.out];rfl,by go_num,qh (HH3.out.drewN _)⟩,?_⟩
         simp[intOf];try omega
        | false=>
         go_wp2_with fail
         go_quiet (fail)
         go_wp2_with fail
         refine⟨⟨q+1,by omega,by rw[HNx.out];rfl,by go_num,qh (HH3.out.drewN _)⟩,?_⟩
         simp[intOf];try omega
       ·obtain rfl:nb=q:=by omega
        have hqz:¬(nb:Int)<(nb:Int):=by omega
        have HTl:Hid (t.2.2.1.take nb=t.2.2.1):=qh (by rw[List.take_of_length_le (by rw[←HBn.out];exact Nat.le_refl _)])
        rw[HTl.out]
        clear v1 c0
        cases hany:t.2.2.1.any (fun b=>b.2.1==s1) with
        | false=>
         have HF:Hid (routedM t (r1,p,r3,r4)=4):=qh (by
          unfold routedM
          rw[if_neg HN1.out,if_neg HN2.out,if_neg HN3.out,if_neg HN4.out,if_pos]
          exact List.any_eq_true.2 ⟨_,List.mem_of_getElem? Hs.out,by unfold noBal;simp only;rw[hany];rfl⟩)
         clear hany
         go_wp2_with fail
         go_ret
         exact⟨by rw[HF.out];rfl,HK.out.trans HK4.out⟩
        | true=>
         have HNb:Hid (noBal t.2.2.1 (s1,s2)=false):=qh (by unfold noBal;simp only;rw[hany];rfl)
         have HTk:Hid (p.take (j+1)=p.take j++[(s1,s2)]):=qh (by
          obtain⟨h2,h3⟩:=List.getElem?_eq_some_iff.1 Hs.out
          rw[List.take_succ_eq_append_getElem h2,h3])
         clear hany
         go_wp2_with fail
         refine⟨⟨j+1,by omega,by go_num,qh ⟨HK4.out,fun u hu=>?_⟩⟩,?_⟩
         ·rw[HTk.out] at hu
          rcases List.mem_append.1 hu with hu | hu
          ·exact HH.out.2 u hu
          ·simp at hu;subst hu;exact HNb.out
         ·simp[intOf];try omega
     ·obtain rfl:j=k:=by omega
      have hjz:¬(j:Int)<(j:Int):=by omega
      have HF:Hid (routedM t (r1,p,r3,r4)=0):=qh (by
       unfold routedM
       rw[if_neg HN1.out,if_neg HN2.out,if_neg HN3.out,if_neg HN4.out,if_neg]
       rw[List.any_eq_true]
       rintro⟨s,hs,h⟩
       have:=HH.out.2 s (by rw[List.take_of_length_le (by rw[HPl.out];exact Nat.le_refl _)];exact hs)
       rw[this] at h;cases h)
      have HKe:=qh (HK.out.trans HH.out.1)
      go_wp2_with fail
      go_ret
      exact⟨by rw[HF.out];rfl,HKe.out⟩
end Go.Proofs.YtpapiojicbbheaaGreatDoor

namespace Go.Proofs.YtpapiojicbbheaaGreatDoor
open Go.RowKit
set_option maxHeartbeats 40000000 in
set_option maxRecDepth 100000 in
theorem rcheck_any (x:TA) (t:Tp) (B:Nat) (w:World) (ht:TpAt w B x t) (hs:TpSmall x t) (hB:B≤w.heap.size) :
    Calls Tryz.prog 48 #[.agg x.cs] w fun e w'=>e=.returned (.int .i64 (checkM t))∧Keep Never w w':=by
  have HT:=qh (fun i W=>redge_any x i W)
  have HEn:Hid (∀(a1 a2:Int) W,Calls Tryz.prog 108 #[.agg x.cs,.agg #[.int .i64 a1,.int .i64 a2]] W fun e w'=>e=.returned (.bool (endB x.ne (a1,a2)))∧Keep Never W w'):=qh (fun a1 a2 W=>rend_any x (a1,a2) W)
  have HRd:Hid (∀(r:Rt) A n c W,Keep Never w W→repStp.Sl W B A n c r.2.1→n≤100000000→t.1.any wrongB=false→Calls Tryz.prog 111 #[.agg x.cs,.agg #[.int .i64 r.1,.slice A n c,.int .i64 r.2.2.1,.int .i64 r.2.2.2]] W fun e w'=>e=.returned (.int .i64 (routedM t r))∧Keep Never W w'):=qh (fun r A n c W hk hr hn hw=>rroute_any x t B r A n c W (ht.keep hk) hr hs.j hs.b hn hw)
  have HTp:=qh ht
  have HSm:=qh hs
  have HGB:=qh hB
  have qe:∀(w:World) (x1 x2 y1 y2:Int),(binOp .eql 132 (.agg #[.int .i64 x1,.int .i64 x2]) (.agg #[.int .i64 y1,.int .i64 y2])).run Tryz.prog w=.ok (.bool (sameE x1 x2 y1 y2)) w:=run_eq_end
  have HL:Hid (x.ne=t.1.length∧x.nj=t.2.1.length∧x.nb=t.2.2.1.length∧x.nr=t.2.2.2.length):=qh ⟨ht.e.len,ht.j.len,ht.b.len,ht.r.len⟩
  obtain⟨Ae,ne,ce,Aj,nj,cj,Ab,nb,cb,Ar,nr,cr⟩:=x
  simp only[TA.cs] at HT HEn HRd HL ⊢
  have hns:=hs
  obtain⟨hn1,hn2,hn3,hn4,hn5⟩:=hns
  simp only at hn1 hn2 hn3 hn4
  have HP5:=qh hn5
  have HJo:Hid (∀(k:Nat) (A:Option Addr) (a1 a2 b1 b2:Int) W,Keep Never w W→A=Aj→k≤nj→Calls Tryz.prog 109 #[.slice A k cj,.agg #[.int .i64 a1,.int .i64 a2],.agg #[.int .i64 b1,.int .i64 b2]] W fun e w'=>e=.returned (.bool (joinB (t.2.1.take k) (a1,a2) (b1,b2)))∧Keep Never W w'):=qh (fun k A a1 a2 b1 b2 W hk hA hkn=>by subst hA;exact rjoined_any A k cj B (t.2.1.take k) (a1,a2) (b1,b2) W (Sl.front ((ht.keep hk).j) hkn) (by omega))
  obtain⟨w1,hw1⟩:∃wb:World,w.alloc (.cells #[.slice Ae ne ce,.slice Aj nj cj,.slice Ab nb cb,.slice Ar nr cr] 27)=wb:=⟨_,rfl⟩
  have k1:Keep Never w w1:=by rw[←hw1];exact(Keep.refl _ _).alloc _
  have b1:=Blk.new w 27 #[.slice Ae ne ce,.slice Aj nj cj,.slice Ab nb cb,.slice Ar nr cr]
  rw[hw1] at b1
  have HB1:=qh b1
  have HK:=qh k1
  obtain⟨y0,y1,y2,y3⟩:=bc4 HB1.out
  clear k1 b1 ht hs hB hn5
  by_cases g1:40<ne
  ·have t1:decide ((ne:Int)>40)=true:=by simp;omega
   have HF:Hid (checkM t=2):=qh (by unfold checkM;rw[if_pos (.inl (by rw[←HL.out.1];exact g1))])
   clear g1
   go_enter Tryz.func48, Tryz.ntmps48
   go_wp2_with fail
   go_ret
   exact⟨by rw[HF.out];rfl,HK.out⟩
  have t1:decide ((ne:Int)>40)=false:=by simp;omega
  by_cases g2:80<nj
  ·have t2:decide ((nj:Int)>80)=true:=by simp;omega
   have HF:Hid (checkM t=2):=qh (by unfold checkM;rw[if_pos (.inr (.inl (by rw[←HL.out.2.1];exact g2)))])
   clear g1 g2
   go_enter Tryz.func48, Tryz.ntmps48
   go_wp2_with fail
   go_ret
   exact⟨by rw[HF.out];rfl,HK.out⟩
  have t2:decide ((nj:Int)>80)=false:=by simp;omega
  by_cases g3:80<nb
  ·have t3:decide ((nb:Int)>80)=true:=by simp;omega
   have HF:Hid (checkM t=2):=qh (by unfold checkM;rw[if_pos (.inr (.inr (.inl (by rw[←HL.out.2.2.1];exact g3))))])
   clear g1 g2 g3
   go_enter Tryz.func48, Tryz.ntmps48
   go_wp2_with fail
   go_ret
   exact⟨by rw[HF.out];rfl,HK.out⟩
  have t3:decide ((nb:Int)>80)=false:=by simp;omega
  by_cases g4:30<nr
  ·have t4:decide ((nr:Int)>30)=true:=by simp;omega
   have HF:Hid (checkM t=2):=qh (by unfold checkM;rw[if_pos (.inr (.inr (.inr (by rw[←HL.out.2.2.2];exact g4))))])
   clear g1 g2 g3 g4
   go_enter Tryz.func48, Tryz.ntmps48
   go_wp2_with fail
   go_ret
   exact⟨by rw[HF.out];rfl,HK.out⟩
  have t4:decide ((nr:Int)>30)=false:=by simp;omega
  have HN1:Hid (¬(40<t.1.length∨80<t.2.1.length∨80<t.2.2.1.length∨30<t.2.2.2.length)):=qh (by have:=HL.out;omega)
  clear g1 g2 g3 g4
  go_enter Tryz.func48, Tryz.ntmps48
  go_wp2_with fail
  clear y0 y1 y2 y3 t1 t2 t3 t4
  go_loopw [3] (fun i wr=>∃k:Nat,k≤ne∧i=.int .i64 k∧Hid (Keep Never w1 wr∧(t.1.take k).any wrongB=false)) (fun i _=>ne - (intOf i).toNat)
  case atStart=>exact⟨0,by omega,rfl,qh ⟨Keep.refl _ _,rfl⟩⟩
  case round=>
   obtain⟨k,hk,rfl,HH⟩:=hrel
   have y0:wr.cell? ⟨w.heap.size,0,none⟩=some (.slice Ae ne ce):=(HB1.out.keep HH.out.1 (fun h=>h)).cell 0
   by_cases h0:k<ne
   ·have hkz:(k:Int)<(ne:Int):=by omega
    obtain⟨ad2,v,hA2,_,hv,d0⟩:=(int_rd ((HTp.out.keep (HK.out.trans HH.out.1)).e)).at1 h0
    simp only at hA2
    subst hA2
    have HTk:Hid (t.1.take (k+1)=t.1.take k++[v]):=qh (by
     obtain⟨h2,h3⟩:=List.getElem?_eq_some_iff.1 hv
     rw[List.take_succ_eq_append_getElem h2,h3])
    have Hv:=qh hv
    clear hv
    by_cases g1:v<1
    ·have t1:decide (v<1)=true:=by simpa using g1
     have hW:t.1.any wrongB=true:=List.any_eq_true.2 ⟨v,List.mem_of_getElem? Hv.out,by unfold wrongB;rw[t1];rfl⟩
     have HF:Hid (checkM t=1):=qh (by unfold checkM;rw[if_neg HN1.out,if_pos hW])
     clear g1 hW
     go_wp2_with fail
     go_ret
     exact⟨by rw[HF.out];rfl,HK.out.trans HH.out.1⟩
    have t1:decide (v<1)=false:=by simpa using g1
    by_cases g2:v>1000000
    ·have t2:decide (v>1000000)=true:=by simpa using g2
     have hW:t.1.any wrongB=true:=List.any_eq_true.2 ⟨v,List.mem_of_getElem? Hv.out,by unfold wrongB;rw[t1,t2];rfl⟩
     have HF:Hid (checkM t=1):=qh (by unfold checkM;rw[if_neg HN1.out,if_pos hW])
     clear g1 g2 hW
     go_wp2_with fail
     go_ret
     exact⟨by rw[HF.out];rfl,HK.out.trans HH.out.1⟩
    have t2:decide (v>1000000)=false:=by simpa using g2
    have HN:Hid ((t.1.take (k+1)).any wrongB=false):=qh (by
     rw[HTk.out,List.any_append,HH.out.2]
     simp only[List.any_cons,List.any_nil,Bool.or_false,Bool.false_or]
     unfold wrongB;rw[t1,t2];rfl)
    clear g1 g2
    go_wp2_with fail
    refine⟨⟨k+1,by omega,by go_num,qh ⟨HH.out.1,HN.out⟩⟩,?_⟩
    simp[intOf];try omega
   ·obtain rfl:ne=k:=by omega
    have hkz:¬(ne:Int)<(ne:Int):=by omega
    have HWf:Hid (t.1.any wrongB=false):=qh (by have:=HH.out.2;rwa [List.take_of_length_le (by rw[←HL.out.1];exact Nat.le_refl _)] at this)
    have HN2:Hid (¬t.1.any wrongB=true):=qh (by rw[HWf.out];simp)
    have HK2:=qh HH.out.1
    clear HH h0
    go_wp2_with fail
    clear y0
    rename World=>wz
    go_loopw [4] (fun i wr=>∃k:Nat,k≤nj∧i=.int .i64 k∧Hid (Keep Never w1 wr∧∀j,j<k→jErr t j=0)) (fun i _=>nj - (intOf i).toNat)
    case atStart=>exact⟨0,by omega,rfl,qh ⟨HK2.out,fun j h=>by omega⟩⟩
    case round=>
     obtain⟨k,hk,rfl,HH⟩:=hrel
     have hb1:=HB1.out.keep HH.out.1 (fun h=>h)
     by_cases h0:k<nj
     ·have hkz:(k:Int)<(nj:Int):=by omega
      obtain⟨ad,j,hA,_,hj,c0,c1,c2,c3⟩:=jt_at (HTp.out.keep (HK.out.trans HH.out.1)).j h0
      subst hA
      obtain⟨⟨x1,x2⟩,x3,x4⟩:=j
      simp only at c0 c1 c2 c3
      have Hj:=qh hj
      obtain⟨y0,y1,y2,y3⟩:=bc4 hb1
      replace c3:wr.cell? ⟨(ad.add (k*4)).block,(ad.add (k*4)).off+2+1,none⟩=some (.int .i64 x4):=c3
      have HS2:Hid (∀W',Keep Never wr W'→Keep Never wr W'∧W'.cell? ⟨w.heap.size,0,none⟩=some (.slice Ae ne ce)∧W'.cell? ⟨w.heap.size,1,none⟩=some (.slice (some ad) nj cj)∧W'.cell? ⟨w.heap.size,2,none⟩=some (.slice Ab nb cb)∧W'.cell? ⟨w.heap.size,3,none⟩=some (.slice Ar nr cr)∧W'.cell? (ad.add (k*4))=some (.int .i64 x1)∧W'.cell? ⟨(ad.add (k*4)).block,(ad.add (k*4)).off+1,none⟩=some (.int .i64 x2)∧W'.cell? ⟨(ad.add (k*4)).block,(ad.add (k*4)).off+2,none⟩=some (.int .i64 x3)∧W'.cell? ⟨(ad.add (k*4)).block,(ad.add (k*4)).off+2+1,none⟩=some (.int .i64 x4)):=qh (fun W' h=>⟨h,keepT h y0,keepT h y1,keepT h y2,keepT h y3,keepT h c0,keepT h c1,keepT h c2,keepT h c3⟩)
      clear hj hb1
      go_wp2_with fail
      clear y0 y1 y2 y3 c0 c1 c2 c3
      go_region_held3 (fun W'=>Keep Never wr W'∧W'.cell? ⟨w.heap.size,0,none⟩=some (.slice Ae ne ce)∧W'.cell? ⟨w.heap.size,1,none⟩=some (.slice (some ad) nj cj)∧W'.cell? ⟨w.heap.size,2,none⟩=some (.slice Ab nb cb)∧W'.cell? ⟨w.heap.size,3,none⟩=some (.slice Ar nr cr)∧W'.cell? (ad.add (k*4))=some (.int .i64 x1)∧W'.cell? ⟨(ad.add (k*4)).block,(ad.add (k*4)).off+1,none⟩=some (.int .i64 x2)∧W'.cell? ⟨(ad.add (k*4)).block,(ad.add (k*4)).off+2,none⟩=some (.int .i64 x3)∧W'.cell? ⟨(ad.add (k*4)).block,(ad.add (k*4)).off+2+1,none⟩=some (.int .i64 x4))
        (first| assumption | exact HS2.out _ ((Keep.refl Never wr).drew) | exact HS2.out _ (Keep.trans (And.left (by assumption)) hk3) | exact HS2.out _ (Keep.trans ((Keep.refl Never wr).drew) hk3))
        (first
          | (go_at_call 108; refine(HEn.out x1 x2 _).mono ?_;rintro e w3 ⟨rfl,hk3⟩))
      rename_i hS
      (try rename World=>w5)
      obtain⟨hK5,y0,y1,y2,y3,c0,c1,c2,c3⟩:=hS
      have HK3:=qh (HH.out.1.trans hK5)
      clear HS2 hK5
      (try clear hk3)
      have HS2:Hid (∀W',Keep Never w5 W'→Keep Never w5 W'∧W'.cell? ⟨w.heap.size,0,none⟩=some (.slice Ae ne ce)∧W'.cell? ⟨w.heap.size,1,none⟩=some (.slice (some ad) nj cj)∧W'.cell? ⟨w.heap.size,2,none⟩=some (.slice Ab nb cb)∧W'.cell? ⟨w.heap.size,3,none⟩=some (.slice Ar nr cr)∧W'.cell? (ad.add (k*4))=some (.int .i64 x1)∧W'.cell? ⟨(ad.add (k*4)).block,(ad.add (k*4)).off+1,none⟩=some (.int .i64 x2)∧W'.cell? ⟨(ad.add (k*4)).block,(ad.add (k*4)).off+2,none⟩=some (.int .i64 x3)∧W'.cell? ⟨(ad.add (k*4)).block,(ad.add (k*4)).off+2+1,none⟩=some (.int .i64 x4)):=qh (fun W' h=>⟨h,keepT h y0,keepT h y1,keepT h y2,keepT h y3,keepT h c0,keepT h c1,keepT h c2,keepT h c3⟩)
      go_wp2_with fail
      clear y0 y1 y2 y3 c0 c1 c2 c3
      go_region_held3 (fun W'=>Keep Never w5 W'∧W'.cell? ⟨w.heap.size,0,none⟩=some (.slice Ae ne ce)∧W'.cell? ⟨w.heap.size,1,none⟩=some (.slice (some ad) nj cj)∧W'.cell? ⟨w.heap.size,2,none⟩=some (.slice Ab nb cb)∧W'.cell? ⟨w.heap.size,3,none⟩=some (.slice Ar nr cr)∧W'.cell? (ad.add (k*4))=some (.int .i64 x1)∧W'.cell? ⟨(ad.add (k*4)).block,(ad.add (k*4)).off+1,none⟩=some (.int .i64 x2)∧W'.cell? ⟨(ad.add (k*4)).block,(ad.add (k*4)).off+2,none⟩=some (.int .i64 x3)∧W'.cell? ⟨(ad.add (k*4)).block,(ad.add (k*4)).off+2+1,none⟩=some (.int .i64 x4))
        (first| assumption | exact HS2.out _ ((Keep.refl Never w5).drew) | exact HS2.out _ (Keep.trans (And.left (by assumption)) hk3) | exact HS2.out _ (Keep.trans ((Keep.refl Never w5).drew) hk3))
        (first
          | (go_at_call 108; refine(HEn.out x3 x4 _).mono ?_;rintro e w3 ⟨rfl,hk3⟩))
      rename_i hS
      (try rename World=>w6)
      obtain⟨hK6,y0,y1,y2,y3,c0,c1,c2,c3⟩:=hS
      have HK4:=qtr HK3 hK6
      clear HS2 hK6
      (try clear hk3)
      cases he1:endB ne (x1,x2) with
      | false=>
       have HZ1:Hid (jErr t k=1):=qh (by unfold jErr;rw[Hj.out];simp only;rw[←HL.out.1,if_pos (.inl he1)])
       have HF:Hid (checkM t=1):=qh (by
        have h2:firstE (jErr t) t.2.1.length=1:=firstE_at (k:=0) (by rw[←HL.out.2.1];exact h0) HH.out.2 HZ1.out (by decide)
        unfold checkM;rw[if_neg HN1.out,if_neg HN2.out,h2,if_pos (by decide)])
       clear he1
       go_wp2_with fail
       go_quiet (fail)
       go_wp2_with fail
       go_ret
       exact⟨by rw[HF.out];rfl,(HK.out.trans HK4.out).drewN _⟩
      | true=>
       cases he2:endB ne (x3,x4) with
       | false=>
        have HZ1:Hid (jErr t k=1):=qh (by unfold jErr;rw[Hj.out];simp only;rw[←HL.out.1,if_pos (.inr (.inl he2))])
        have HF:Hid (checkM t=1):=qh (by
         have h2:firstE (jErr t) t.2.1.length=1:=firstE_at (k:=0) (by rw[←HL.out.2.1];exact h0) HH.out.2 HZ1.out (by decide)
         unfold checkM;rw[if_neg HN1.out,if_neg HN2.out,h2,if_pos (by decide)])
        clear he1 he2
        go_wp2_with fail
        go_quiet (fail)
        go_wp2_with fail
        go_ret
        exact⟨by rw[HF.out];rfl,(HK.out.trans HK4.out).drewN _⟩
       | true=>
        cases he3:sameE x1 x2 x3 x4 with
        | true=>
         have hxx:x1=x3∧x2=x4:=by unfold sameE at he3;simpa using he3
         have HZ1:Hid (jErr t k=1):=qh (by unfold jErr;rw[Hj.out];simp only;rw[←HL.out.1,if_pos (.inr (.inr (by rw[hxx.1,hxx.2])))])
         have HF:Hid (checkM t=1):=qh (by
          have h2:firstE (jErr t) t.2.1.length=1:=firstE_at (k:=0) (by rw[←HL.out.2.1];exact h0) HH.out.2 HZ1.out (by decide)
          unfold checkM;rw[if_neg HN1.out,if_neg HN2.out,h2,if_pos (by decide)])
         clear he1 he2 hxx
         go_wp2_with fail
         go_quiet (fail)
         go_wp2_with fail
         go_ret
         exact⟨by rw[HF.out];rfl,(HK.out.trans HK4.out).drewN _⟩
        | false=>
         have HNb:Hid (¬(endB t.1.length (x1,x2)=false∨endB t.1.length (x3,x4)=false∨((x1,x2):En)=(x3,x4))):=qh (by
          rw[←HL.out.1,he1,he2]
          unfold sameE at he3
          simp only[Bool.true_eq_false,false_or]
          exact of_decide_eq_false he3)
         clear he1 he2
         have HFc:=qh (And.intro c0 (And.intro c1 (And.intro c2 c3)))
         go_wp2_with fail
         go_quiet (fail)
         clear he3 y0 y1 y2 y3 c0 c1 c2 c3
         obtain⟨w7,hw7⟩:∃W,w6.drewN nq=W:=⟨_,rfl⟩
         rw[hw7]
         have hk7:Keep Never w6 w7:=by rw[←hw7];exact(Keep.refl Never w6).drewN _
         have HK7:=qtr HK4 hk7
         have hb1:=HB1.out.keep HK7.out (fun h=>h)
         obtain⟨y0,y1,y2,y3⟩:=bc4 hb1
         have c0:=keepT hk7 HFc.out.1
         have c1:=keepT hk7 HFc.out.2.1
         have c2:=keepT hk7 HFc.out.2.2.1
         have c3:=keepT hk7 HFc.out.2.2.2
         have hq:=run_front Tryz.underlying23 Tryz.sizeOf134 (some ad) nj cj k hk HTp.out.j.cap
         have HJk:=qh (fun W (h:Keep Never w7 W)=>HJo.out k (some ad) x1 x2 x3 x4 W (HK.out.trans (HK7.out.trans h)) rfl hk)
         clear hk7 hb1 hw7
         have HS2:Hid (∀W',Keep Never w7 W'→Keep Never w7 W'∧W'.cell? ⟨w.heap.size,0,none⟩=some (.slice Ae ne ce)∧W'.cell? ⟨w.heap.size,1,none⟩=some (.slice (some ad) nj cj)∧W'.cell? ⟨w.heap.size,2,none⟩=some (.slice Ab nb cb)∧W'.cell? ⟨w.heap.size,3,none⟩=some (.slice Ar nr cr)∧W'.cell? (ad.add (k*4))=some (.int .i64 x1)∧W'.cell? ⟨(ad.add (k*4)).block,(ad.add (k*4)).off+1,none⟩=some (.int .i64 x2)∧W'.cell? ⟨(ad.add (k*4)).block,(ad.add (k*4)).off+2,none⟩=some (.int .i64 x3)∧W'.cell? ⟨(ad.add (k*4)).block,(ad.add (k*4)).off+2+1,none⟩=some (.int .i64 x4)):=qh (fun W' h=>⟨h,keepT h y0,keepT h y1,keepT h y2,keepT h y3,keepT h c0,keepT h c1,keepT h c2,keepT h c3⟩)
         go_wp2_with fail
         clear y0 y1 y2 y3 c0 c1 c2 c3
         go_region_held3 (fun W'=>Keep Never w7 W'∧W'.cell? ⟨w.heap.size,0,none⟩=some (.slice Ae ne ce)∧W'.cell? ⟨w.heap.size,1,none⟩=some (.slice (some ad) nj cj)∧W'.cell? ⟨w.heap.size,2,none⟩=some (.slice Ab nb cb)∧W'.cell? ⟨w.heap.size,3,none⟩=some (.slice Ar nr cr)∧W'.cell? (ad.add (k*4))=some (.int .i64 x1)∧W'.cell? ⟨(ad.add (k*4)).block,(ad.add (k*4)).off+1,none⟩=some (.int .i64 x2)∧W'.cell? ⟨(ad.add (k*4)).block,(ad.add (k*4)).off+2,none⟩=some (.int .i64 x3)∧W'.cell? ⟨(ad.add (k*4)).block,(ad.add (k*4)).off+2+1,none⟩=some (.int .i64 x4))
           (first| assumption | exact HS2.out _ ((Keep.refl Never w7).drew) | exact HS2.out _ (Keep.trans (And.left (by assumption)) hk3) | exact HS2.out _ (Keep.trans ((Keep.refl Never w7).drew) hk3))
           (first
             | (go_at_call 109; refine(HJk.out _ (by first | exact And.left (by assumption) | exact(Keep.refl Never w7).drew | exact Keep.refl Never w7)).mono ?_;rintro e w3 ⟨rfl,hk3⟩))
         rename_i hS
         (try rename World=>w8)
         have HK8:=qh (HK7.out.trans hS.1)
         clear HS2 hS hq HJk
         (try clear hk3)
         cases hjb:joinB (t.2.1.take k) (x1,x2) (x3,x4) with
         | true=>
          have HZ1:Hid (jErr t k=5):=qh (by unfold jErr;rw[Hj.out];simp only;rw[if_neg HNb.out,if_pos hjb])
          have HF:Hid (checkM t=5):=qh (by
           have h2:firstE (jErr t) t.2.1.length=5:=firstE_at (k:=0) (by rw[←HL.out.2.1];exact h0) HH.out.2 HZ1.out (by decide)
           unfold checkM;rw[if_neg HN1.out,if_neg HN2.out,h2,if_pos (by decide)])
          clear hjb
          go_wp2_with fail
          go_ret
          exact⟨by rw[HF.out];rfl,HK.out.trans HK8.out⟩
         | false=>
          have HZ1:Hid (jErr t k=0):=qh (by unfold jErr;rw[Hj.out];simp only;rw[if_neg HNb.out,if_neg (by rw[hjb];simp)])
          clear hjb
          go_wp2_with fail
          refine⟨⟨k+1,by omega,by go_num,qh ⟨HK8.out,fun j hj=>?_⟩⟩,?_⟩
          ·by_cases e:j=k
           ·rw[e];exact HZ1.out
           ·exact HH.out.2 j (by omega)
          ·simp[intOf];try omega
     ·obtain rfl:nj=k:=by omega
      have hkz:¬(nj:Int)<(nj:Int):=by omega
      have HN3:Hid (¬firstE (jErr t) t.2.1.length≠0):=qh (by rw[firstE_zero (fun j hj=>HH.out.2 j (by rw[HL.out.2.1];exact hj))];simp)
      have HK2:=qh HH.out.1
      have y1:wr.cell? ⟨w.heap.size,1,none⟩=some (.slice Aj nj cj):=hb1.cell 1
      clear HH h0 hb1
      go_wp2_with fail
      clear y1
      rename World=>wz
      go_loopw [8] (fun i wr=>∃q:Nat,q≤nb∧i=.int .i64 q∧Hid (Keep Never w1 wr∧∀j,j<q→bErr t j=0)) (fun i _=>nb - (intOf i).toNat)
      case atStart=>exact⟨0,by omega,rfl,qh ⟨HK2.out,fun j h=>by omega⟩⟩
      case round=>
       obtain⟨k,hk,rfl,HH⟩:=hrel
       have y2:wr.cell? ⟨w.heap.size,2,none⟩=some (.slice Ab nb cb):=(HB1.out.keep HH.out.1 (fun h=>h)).cell 2
       by_cases h0:k<nb
       ·have hkz:(k:Int)<(nb:Int):=by omega
        obtain⟨ad,b,hA,_,hb,c0,c1,c2⟩:=(bl_rd (HTp.out.keep (HK.out.trans HH.out.1)).b).sp h0
        simp only at hA
        subst hA
        obtain⟨x1,x2,x3⟩:=b
        simp only at c0 c1 c2
        obtain⟨W1,hW1⟩:∃W:World,wr.alloc (.cells #[.int .i64 x1,.int .i64 x2,.int .i64 x3] 94)=W:=⟨_,rfl⟩
        have K1:Keep Never wr W1:=by rw[←hW1];exact(Keep.refl _ _).alloc _
        have B1:=Blk.new wr 94 #[.int .i64 x1,.int .i64 x2,.int .i64 x3]
        rw[hW1] at B1
        obtain⟨bq,hbq⟩:∃q,wr.heap.size=q:=⟨_,rfl⟩
        rw[hbq] at B1
        have HKW:=qh (HH.out.1.trans K1)
        have HBb:=qh B1
        have d1:W1.cell? ⟨bq,1,none⟩=some (.int .i64 x2):=B1.cell 1
        have d0:W1.cell? ⟨bq,0,none⟩=some (.int .i64 x1):=B1.cell 0
        have d2:W1.cell? ⟨bq,2,none⟩=some (.int .i64 x3):=B1.cell 2
        have hb1:=HB1.out.keep HKW.out (fun h=>h)
        have y2o:=y2
        clear y2
        obtain⟨y0,y1,y2,y3⟩:=bc4 hb1
        have Hb:=qh hb
        have HBe:Hid ((x1<0∨16777214<x1∨thereB ne x2=false∨x3<0∨t.1.getD x2.toNat 0<x3)→checkM t=1):=qh (fun h=>by
         have h1:bErr t k=1:=by unfold bErr;rw[hb];simp only;rw[←HL.out.1,if_pos h]
         have h2:firstE (bErr t) t.2.2.1.length=1:=firstE_at (k:=0) (by rw[←HL.out.2.2.1];exact h0) HH.out.2 h1 (by decide)
         unfold checkM;rw[if_neg HN1.out,if_neg HN2.out,if_neg HN3.out,h2,if_pos (by decide)])
        have hTt:=qh (HT.out x2 W1)
        clear hb K1 B1 hb1
        go_wp2_with fail
        refine hTt.out.mono ?_
        rintro e w4 ⟨rfl,hk4⟩
        have HK4:=qtr HKW hk4
        have HBb4:=qkb HBb hk4
        clear hk4 hTt c0 c1 c2 hW1 y2o d0 d1 d2 y0 y1 y2 y3 hbq
        obtain⟨d0,d1,d2⟩:=bc3 HBb4.out
        have y0:w4.cell? ⟨w.heap.size,0,none⟩=some (.slice Ae ne ce):=(HB1.out.keep HK4.out (fun h=>h)).cell 0
        by_cases g1:x1<0
        ·have t1:decide (x1<0)=true:=by simpa using g1
         have HF:=qh (HBe.out (.inl g1))
         clear g1
         go_wp2_with fail
         go_quiet (fail)
         go_wp2_with fail
         go_ret
         exact⟨by rw[HF.out];rfl,(HK.out.trans HK4.out).drewN _⟩
        have t1':decide (x1<0)=false:=by simpa using g1
        by_cases g2:16777214<x1
        ·have t1:decide (x1>16777214)=true:=by simpa using g2
         have HF:=qh (HBe.out (.inr (.inl g2)))
         clear g1 g2
         go_wp2_with fail
         go_quiet (fail)
         go_wp2_with fail
         go_ret
         exact⟨by rw[HF.out];rfl,(HK.out.trans HK4.out).drewN _⟩
        have t2':decide (x1>16777214)=false:=by simpa using g2
        cases g3:thereB ne x2 with
        | false=>
         have t1:True:=trivial
         have HF:=qh (HBe.out (.inr (.inr (.inl g3))))
         clear g1 g2 g3
         go_wp2_with fail
         go_quiet (fail)
         go_wp2_with fail
         go_ret
         exact⟨by rw[HF.out];rfl,(HK.out.trans HK4.out).drewN _⟩
        | true=>
         by_cases g4:x3<0
         ·have t1:decide (x3<0)=true:=by simpa using g4
          have HF:=qh (HBe.out (.inr (.inr (.inr (.inl g4)))))
          clear g1 g2 g3 g4
          go_wp2_with fail
          go_quiet (fail)
          go_wp2_with fail
          go_ret
          exact⟨by rw[HF.out];rfl,(HK.out.trans HK4.out).drewN _⟩
         have t4':decide (x3<0)=false:=by simpa using g4
         have hth:0≤x2∧x2<(ne:Int):=by unfold thereB at g3;simpa using g3
         obtain⟨m,rfl⟩:∃m:Nat,x2=(m:Int):=⟨x2.toNat,by omega⟩
         have hmn:m<ne:=by omega
         have hmz:(m:Int)<(ne:Int):=by omega
         obtain⟨ad2,v,hA2,_,hv,e0⟩:=(int_rd ((HTp.out.keep (HK.out.trans HK4.out)).e)).at1 hmn
         simp only at hA2
         subst hA2
         have hgd:t.1.getD (m:Int).toNat 0=v:=by rw[Int.toNat_natCast,List.getD_eq_getElem?_getD,hv];rfl
         rw[hgd] at HBe
         clear hv
         by_cases g5:v<x3
         ·have t1:decide (x3>v)=true:=by simpa using g5
          have HF:=qh (HBe.out (.inr (.inr (.inr (.inr g5)))))
          clear g1 g2 g3 g4 g5 hth
          go_wp2_with fail
          go_quiet (fail)
          go_wp2_with fail
          go_ret
          exact⟨by rw[HF.out];rfl,(HK.out.trans HK4.out).drewN _⟩
         have t5':decide (x3>v)=false:=by simpa using g5
         have HNb:Hid (¬(x1<0∨16777214<x1∨thereB t.1.length (m:Int)=false∨x3<0∨t.1.getD (m:Int).toNat 0<x3)):=qh (by
          rw[hgd,←HL.out.1,g3]
          rintro(h | h | h | h | h)
          ·exact g1 h
          ·exact g2 h
          ·cases h
          ·exact g4 h
          ·exact g5 h)
         clear g1 g2 g3 g4 g5 hth hgd
         go_wp2_with fail
         go_quiet (fail)
         clear t1' t2' t4' t5' e0 y0 d0 d1 d2
         obtain⟨w7,hw7⟩:∃W,w4.drewN nq=W:=⟨_,rfl⟩
         rw[hw7]
         have hk7:Keep Never w4 w7:=by rw[←hw7];exact(Keep.refl Never w4).drewN _
         have HK7:=qtr HK4 hk7
         have HBb7:=qkb HBb4 hk7
         clear hk7 hw7
         go_wp2_with fail
         go_loopw [11] (fun i wr=>∃j:Nat,j≤k∧i=.int .i64 j∧Hid (Keep Never w7 wr∧∀y∈t.2.2.1.take j,y.1≠x1)) (fun i _=>k - (intOf i).toNat)
         case atStart=>exact⟨0,by omega,rfl,qh ⟨Keep.refl _ _,by simp⟩⟩
         case round=>
          obtain⟨j,hj,rfl,HJ⟩:=hrel
          by_cases h1:j<k
          ·have hjz:(j:Int)<(k:Int):=by omega
           have hj1:j<nb:=by omega
           have hjn:(j:Int)<(nb:Int):=by omega
           obtain⟨ad6,b,hA6,_,hv,f0,_,_⟩:=(bl_rd (HTp.out.keep (HK.out.trans (HK7.out.trans HJ.out.1))).b).sp hj1
           simp only at hA6
           injection hA6 with hA6
           subst hA6
           obtain⟨o1,o2,o3⟩:=b
           simp only at f0
           have Hv:=qh hv
           have d0:wr.cell? ⟨bq,0,none⟩=some (.int .i64 x1):=(HBb7.out.keep HJ.out.1 (fun h=>h)).cell 0
           have y2:wr.cell? ⟨w.heap.size,2,none⟩=some (.slice (some ad) nb cb):=(HB1.out.keep (HK7.out.trans HJ.out.1) (fun h=>h)).cell 2
           clear hv
           by_cases gq:o1=x1
           ·have t1:(o1==x1)=true:=by simpa using gq
            have HZ1:Hid (bErr t k=5):=qh (by
             unfold bErr;rw[Hb.out];simp only;rw[if_neg HNb.out,if_pos]
             unfold balM
             rw[List.find?_isSome]
             refine⟨(o1,o2,o3),?_,by simpa using gq⟩
             rw[List.mem_iff_getElem?]
             exact⟨j,by rw[List.getElem?_take,if_pos h1];exact Hv.out⟩)
            have HF:Hid (checkM t=5):=qh (by
             have h2:firstE (bErr t) t.2.2.1.length=5:=firstE_at (k:=0) (by rw[←HL.out.2.2.1];exact h0) HH.out.2 HZ1.out (by decide)
             unfold checkM;rw[if_neg HN1.out,if_neg HN2.out,if_neg HN3.out,h2,if_pos (by decide)])
            clear gq
            go_wp2_with fail
            go_quiet (fail)
            go_wp2_with fail
            go_ret
            exact⟨by rw[HF.out];rfl,(HK.out.trans (HK7.out.trans HJ.out.1)).drewN _⟩
           ·have t1:(o1==x1)=false:=by simpa using gq
            have HN:Hid (∀y∈t.2.2.1.take (j+1),y.1≠x1):=qh (all_take Hv.out HJ.out.2 gq)
            clear gq
            go_wp2_with fail
            go_quiet (fail)
            go_wp2_with fail
            refine⟨⟨j+1,by omega,by go_num,qh ⟨HJ.out.1.drewN _,HN.out⟩⟩,?_⟩
            simp[intOf];try omega
          ·obtain rfl:j=k:=by omega
           have hjz:¬(j:Int)<(j:Int):=by omega
           have HZ1:Hid (bErr t j=0):=qh (by
            unfold bErr;rw[Hb.out];simp only;rw[if_neg HNb.out,if_neg]
            unfold balM
            rw[List.find?_isSome]
            rintro⟨y,hy,e⟩
            exact HJ.out.2 y hy (by simpa using e))
           go_wp2_with fail
           refine⟨⟨j+1,by omega,by go_num,qh ⟨HK7.out.trans HJ.out.1,fun i hi=>?_⟩⟩,?_⟩
           ·by_cases e:i=j
            ·rw[e];exact HZ1.out
            ·exact HH.out.2 i (by omega)
           ·simp[intOf];try omega
       ·obtain rfl:nb=k:=by omega
        have hkz:¬(nb:Int)<(nb:Int):=by omega
        have HN4:Hid (¬firstE (bErr t) t.2.2.1.length≠0):=qh (by rw[firstE_zero (fun j hj=>HH.out.2 j (by rw[HL.out.2.2.1];exact hj))];simp)
        have HK2:=qh HH.out.1
        clear HH h0
        go_wp2_with fail
        clear y2
        rename World=>wz
        go_loopw [12] (fun i wr=>∃q:Nat,q≤nr∧i=.int .i64 q∧Hid (Keep Never w1 wr∧∀j,j<q→rErr t j=0)) (fun i _=>nr - (intOf i).toNat)
        case atStart=>exact⟨0,by omega,rfl,qh ⟨HK2.out,fun j h=>by omega⟩⟩
        case round=>
         obtain⟨k,hk,rfl,HH⟩:=hrel
         have hb1:=HB1.out.keep HH.out.1 (fun h=>h)
         by_cases h0:k<nr
         ·have hkz:(k:Int)<(nr:Int):=by omega
          obtain⟨ad,r,A2,n2,d2,hA,_,hr,c0,c1,c2,c3,hsl⟩:=rt_at2 (HTp.out.keep (HK.out.trans HH.out.1)).r h0
          simp only at hA
          subst hA
          obtain⟨x1,p,x2,x3⟩:=r
          simp only at c0 c1 c2 c3 hsl
          have hn2:n2≤100000000:=by have h5:p.length≤100000000:=HP5.out _ (List.mem_of_getElem? hr);have:=hsl.len;omega
          have HRc:=qh (fun W (h:Keep Never wr W)=>HRd.out (x1,p,x2,x3) A2 n2 d2 W (HK.out.trans (HH.out.1.trans h)) (hsl.keep h (fun _ h=>h.elim)) hn2 HWf.out)
          obtain⟨re,hre⟩:∃z,routedM t (x1,p,x2,x3)=z:=⟨_,rfl⟩
          rw[hre] at HRc
          have HRe:=qh hre
          have Hr:=qh hr
          obtain⟨y0,y1,y2,y3⟩:=bc4 hb1
          have HS2:Hid (∀W',Keep Never wr W'→Keep Never wr W'∧W'.cell? ⟨w.heap.size,0,none⟩=some (.slice Ae ne ce)∧W'.cell? ⟨w.heap.size,1,none⟩=some (.slice Aj nj cj)∧W'.cell? ⟨w.heap.size,2,none⟩=some (.slice Ab nb cb)∧W'.cell? ⟨w.heap.size,3,none⟩=some (.slice (some ad) nr cr)∧W'.cell? (ad.add (k*4))=some (.int .i64 x1)∧W'.cell? ⟨(ad.add (k*4)).block,(ad.add (k*4)).off+1,none⟩=some (.slice A2 n2 d2)∧W'.cell? ⟨(ad.add (k*4)).block,(ad.add (k*4)).off+2,none⟩=some (.int .i64 x2)∧W'.cell? ⟨(ad.add (k*4)).block,(ad.add (k*4)).off+3,none⟩=some (.int .i64 x3)):=qh (fun W' h=>⟨h,keepT h y0,keepT h y1,keepT h y2,keepT h y3,keepT h c0,keepT h c1,keepT h c2,keepT h c3⟩)
          clear hr hre hsl hb1 hn2
          go_wp2_with fail
          clear y0 y1 y2 y3 c0 c1 c2 c3
          go_region_held3 (fun W'=>Keep Never wr W'∧W'.cell? ⟨w.heap.size,0,none⟩=some (.slice Ae ne ce)∧W'.cell? ⟨w.heap.size,1,none⟩=some (.slice Aj nj cj)∧W'.cell? ⟨w.heap.size,2,none⟩=some (.slice Ab nb cb)∧W'.cell? ⟨w.heap.size,3,none⟩=some (.slice (some ad) nr cr)∧W'.cell? (ad.add (k*4))=some (.int .i64 x1)∧W'.cell? ⟨(ad.add (k*4)).block,(ad.add (k*4)).off+1,none⟩=some (.slice A2 n2 d2)∧W'.cell? ⟨(ad.add (k*4)).block,(ad.add (k*4)).off+2,none⟩=some (.int .i64 x2)∧W'.cell? ⟨(ad.add (k*4)).block,(ad.add (k*4)).off+3,none⟩=some (.int .i64 x3))
            (first| assumption | exact HS2.out _ ((Keep.refl Never wr).drew) | exact HS2.out _ (Keep.trans (And.left (by assumption)) hk3) | exact HS2.out _ (Keep.trans ((Keep.refl Never wr).drew) hk3))
            (first
              | (go_at_call 111; refine(HRc.out _ (by first | exact And.left (by assumption) | exact(Keep.refl Never wr).drew | exact Keep.refl Never wr)).mono ?_;rintro e w3 ⟨rfl,hk3⟩))
          rename_i hS
          (try rename World=>w8)
          have HK8:=qh (HH.out.1.trans hS.1)
          clear HS2 hS HRc
          (try clear hk3)
          by_cases g0:re=0
          case neg=>
           have t0:(re != 0)=true:=by simpa using g0
           have t0':(re==0)=false:=by simpa using g0
           have HF:Hid (checkM t=re):=qh (by
            have h1:rErr t k=re:=by unfold rErr;rw[Hr.out];simp only;rw[HRe.out,if_pos g0]
            have h2:firstE (rErr t) t.2.2.2.length=re:=firstE_at (k:=0) (by rw[←HL.out.2.2.2];exact h0) HH.out.2 h1 g0
            unfold checkM;rw[if_neg HN1.out,if_neg HN2.out,if_neg HN3.out,if_neg HN4.out,h2])
           clear g0
           go_wp2_with fail
           go_ret
           exact⟨by rw[HF.out];rfl,HK.out.trans HK8.out⟩
          subst g0
          go_wp2_with fail
          go_loopw [14] (fun i wr=>∃j:Nat,j≤k∧i=.int .i64 j∧Hid (Keep Never w8 wr∧∀y∈t.2.2.2.take j,y.1≠x1)) (fun i _=>k - (intOf i).toNat)
          case atStart=>exact⟨0,by omega,rfl,qh ⟨Keep.refl _ _,by simp⟩⟩
          case round=>
           obtain⟨j,hj,rfl,HJ⟩:=hrel
           by_cases h1:j<k
           ·have hjz:(j:Int)<(k:Int):=by omega
            have hj1:j<nr:=by omega
            have hjn:(j:Int)<(nr:Int):=by omega
            have htp:=(HTp.out.keep (HK.out.trans (HK8.out.trans HJ.out.1))).r
            obtain⟨ad6,b,_,_,_,hA6,_,hv,f0,_,_,_,_⟩:=rt_at2 htp hj1
            obtain⟨ad7,b7,_,_,_,hA7,_,hu,e0,_,_,_,_⟩:=rt_at2 htp h0
            simp only at hA6 hA7
            injection hA6 with hA6
            injection hA7 with hA7
            subst hA6 hA7
            rw[Hr.out] at hu
            injection hu with hu
            subst hu
            obtain⟨o1,o2,o3,o4⟩:=b
            simp only at f0 e0
            have Hv:=qh hv
            have y3:wr.cell? ⟨w.heap.size,3,none⟩=some (.slice (some ad) nr cr):=(HB1.out.keep (HK8.out.trans HJ.out.1) (fun h=>h)).cell 3
            clear hv htp
            by_cases gq:o1=x1
            ·have t1:(o1==x1)=true:=by simpa using gq
             have HZ1:Hid (rErr t k=5):=qh (by
              unfold rErr;rw[Hr.out];simp only;rw[if_neg (by rw[HRe.out];simp),if_pos]
              unfold rtM
              rw[List.find?_isSome]
              refine⟨(o1,o2,o3,o4),?_,by simpa using gq⟩
              rw[List.mem_iff_getElem?]
              exact⟨j,by rw[List.getElem?_take,if_pos h1];exact Hv.out⟩)
             have HF:Hid (checkM t=5):=qh (by
              have h2:firstE (rErr t) t.2.2.2.length=5:=firstE_at (k:=0) (by rw[←HL.out.2.2.2];exact h0) HH.out.2 HZ1.out (by decide)
              unfold checkM;rw[if_neg HN1.out,if_neg HN2.out,if_neg HN3.out,if_neg HN4.out,h2])
             clear gq
             go_wp2_with fail
             go_quiet (fail)
             go_wp2_with fail
             go_ret
             exact⟨by rw[HF.out];rfl,(HK.out.trans (HK8.out.trans HJ.out.1)).drewN _⟩
            ·have t1:(o1==x1)=false:=by simpa using gq
             have HN:Hid (∀y∈t.2.2.2.take (j+1),y.1≠x1):=qh (all_take Hv.out HJ.out.2 gq)
             clear gq
             go_wp2_with fail
             go_quiet (fail)
             go_wp2_with fail
             refine⟨⟨j+1,by omega,by go_num,qh ⟨HJ.out.1.drewN _,HN.out⟩⟩,?_⟩
             simp[intOf];try omega
           ·obtain rfl:j=k:=by omega
            have hjz:¬(j:Int)<(j:Int):=by omega
            have HZ1:Hid (rErr t j=0):=qh (by
             unfold rErr;rw[Hr.out];simp only;rw[if_neg (by rw[HRe.out];simp),if_neg]
             unfold rtM
             rw[List.find?_isSome]
             rintro⟨y,hy,e⟩
             exact HJ.out.2 y hy (by simpa using e))
            go_wp2_with fail
            refine⟨⟨j+1,by omega,by go_num,qh ⟨HK8.out.trans HJ.out.1,fun i hi=>?_⟩⟩,?_⟩
            ·by_cases e:i=j
             ·rw[e];exact HZ1.out
             ·exact HH.out.2 i (by omega)
            ·simp[intOf];try omega
         ·obtain rfl:nr=k:=by omega
          have hkz:¬(nr:Int)<(nr:Int):=by omega
          have HF:Hid (checkM t=0):=qh (by unfold checkM;rw[if_neg HN1.out,if_neg HN2.out,if_neg HN3.out,if_neg HN4.out,firstE_zero (fun j hj=>HH.out.2 j (by rw[HL.out.2.2.2];exact hj))])
          have HKe:=qh (HK.out.trans HH.out.1)
          have y3:wr.cell? ⟨w.heap.size,3,none⟩=some (.slice Ar nr cr):=hb1.cell 3
          clear HH hb1
          go_wp2_with fail
          go_ret
          exact⟨by rw[HF.out];rfl,HKe.out⟩
end Go.Proofs.YtpapiojicbbheaaGreatDoor

namespace Go.Proofs.YtpapiojicbbheaaGreatDoor
open Go.RowKit
def movedP (p:Ps) (n:Int):Ps:=if p.2.2=true then (p.1,p.2.1 - n,true) else (p.1,p.2.1+n,false)
def beginP (t:Tp) (s:Stp):Ps:=if s.2=true then (s.1,edgeM t s.1,true) else (s.1,0,false)
theorem moved_on (t:Tp) (p:Ps) (n:Int):movedP p n=overP t (p.1,p.2.2) (n+alongP t p):=by
 obtain⟨e,a,r⟩:=p
 cases r <;> simp[movedP,overP,alongP] <;> omega
set_option maxHeartbeats 4000000 in
set_option maxRecDepth 100000 in
theorem rright_any (x:TA) (t:Tp) (B:Nat) (e a:Int) (r:Bool) (w:World) (h:TpAt w B x t) (hs:TpSmall x t) (hB:B≤w.heap.size) :
    Calls Tryz.prog 141 #[.agg x.cs,.agg #[.int .i64 e,.int .i64 a,.bool r]] w fun en w'=>en=.returned (.bool (rightB t (e,a,r)))∧Keep Never w w':=by
  have HCh:=qh (fun (W:World) (hk:Keep Never w W)=>rcheck_any x t B W (h.keep hk) hs (Nat.le_trans hB hk.size))
  have HEl:Hid (x.ne=t.1.length):=qh h.e.len
  have HED:=qh (fun (W:World) (hk:Keep Never w W) (i:Int) (h0:0≤i) (h1:i<(x.ne:Int))=>edge_at (h.keep hk) h0 h1)
  obtain⟨Ae,ne,ce,Aj,nj,cj,Ab,nb,cb,Ar,nr,cr⟩:=x
  simp only[TA.cs] at HCh HEl HED ⊢
  clear h hs hB
  have HR:Hid (rightB t (e,a,r)=(decide (checkM t=0)&&(decide (0≤e)&&decide (e<(ne:Int)))&&decide (0≤a)&&decide (a≤edgeM t e))):=qh (by rw[HEl.out];rfl)
  obtain⟨ck,hck⟩:∃z,checkM t=z:=⟨_,rfl⟩
  rw[hck] at HR HCh
  clear hck
  obtain⟨w1,hw1⟩:∃V:World,w.alloc (.cells #[.slice Ae ne ce,.slice Aj nj cj,.slice Ab nb cb,.slice Ar nr cr] 27)=V:=⟨_,rfl⟩
  have zw1:w1.heap.size=w.heap.size+1:=by rw[←hw1];simp
  have kw1:Keep Never w w1:=by rw[←hw1];exact(Keep.refl _ _).alloc _
  have bw1:=Blk.new w 27 #[.slice Ae ne ce,.slice Aj nj cj,.slice Ab nb cb,.slice Ar nr cr]
  rw[hw1] at bw1
  obtain⟨w2,hw2⟩:∃V:World,w1.alloc (.cells #[.int .i64 e,.int .i64 a,.bool r] 71)=V:=⟨_,rfl⟩
  have kw2:Keep Never w1 w2:=by rw[←hw2];exact(Keep.refl _ _).alloc _
  have bw2:=Blk.new w1 71 #[.int .i64 e,.int .i64 a,.bool r]
  rw[hw2,zw1] at bw2
  have HB1:=qh (bw1.keep kw2 (fun h=>h))
  have HB2:=qh bw2
  have HK:=qh (kw1.trans kw2)
  clear kw1 kw2 bw1 bw2
  have HC:=qh (HCh.out w2 HK.out)
  clear HCh
  by_cases g0:ck=0
  case neg=>
   have t0:(ck==0)=false:=by simpa using g0
   have HF:Hid (rightB t (e,a,r)=false):=qh (by rw[HR.out,decide_eq_false g0];rfl)
   clear g0
   obtain⟨y0,y1,y2,y3⟩:=bc4 HB1.out
   obtain⟨q0,q1,q2⟩:=bc3 HB2.out
   go_enter Tryz.func141, Tryz.ntmps141
   go_wp2_with fail
   refine HC.out.mono ?_
   rintro en w3 ⟨rfl,hk3⟩
   have HK3:=qtr HK hk3
   have HX1:=qkb HB1 hk3
   have HX2:=qkb HB2 hk3
   clear hk3 HC HB1 HB2 y0 y1 y2 y3 q0 q1 q2 hw1 hw2 zw1
   obtain⟨y0,y1,y2,y3⟩:=bc4 HX1.out
   obtain⟨q0,q1,q2⟩:=bc3 HX2.out
   go_wp2_with fail
   go_quiet (fail)
   go_wp2_with fail
   go_ret
   exact⟨by rw[HF.out];rfl,HK3.out.drewN _⟩
  have t0:(ck==0)=true:=by simpa using g0
  by_cases g1:0≤e
  case neg=>
   have t1:decide (e≥0)=false:=by simpa using g1
   have HF:Hid (rightB t (e,a,r)=false):=qh (by rw[HR.out,decide_eq_false g1];simp)
   clear g0 g1
   obtain⟨y0,y1,y2,y3⟩:=bc4 HB1.out
   obtain⟨q0,q1,q2⟩:=bc3 HB2.out
   go_enter Tryz.func141, Tryz.ntmps141
   go_wp2_with fail
   refine HC.out.mono ?_
   rintro en w3 ⟨rfl,hk3⟩
   have HK3:=qtr HK hk3
   have HX1:=qkb HB1 hk3
   have HX2:=qkb HB2 hk3
   clear hk3 HC HB1 HB2 y0 y1 y2 y3 q0 q1 q2 hw1 hw2 zw1
   obtain⟨y0,y1,y2,y3⟩:=bc4 HX1.out
   obtain⟨q0,q1,q2⟩:=bc3 HX2.out
   go_wp2_with fail
   go_quiet (fail)
   go_wp2_with fail
   go_ret
   exact⟨by rw[HF.out];rfl,HK3.out.drewN _⟩
  have t1:decide (e≥0)=true:=by simpa using g1
  by_cases g2:e<(ne:Int)
  case neg=>
   have t2:decide (e<(ne:Int))=false:=by simpa using g2
   have HF:Hid (rightB t (e,a,r)=false):=qh (by rw[HR.out,decide_eq_false g2];simp)
   clear g0 g1 g2
   obtain⟨y0,y1,y2,y3⟩:=bc4 HB1.out
   obtain⟨q0,q1,q2⟩:=bc3 HB2.out
   go_enter Tryz.func141, Tryz.ntmps141
   go_wp2_with fail
   refine HC.out.mono ?_
   rintro en w3 ⟨rfl,hk3⟩
   have HK3:=qtr HK hk3
   have HX1:=qkb HB1 hk3
   have HX2:=qkb HB2 hk3
   clear hk3 HC HB1 HB2 y0 y1 y2 y3 q0 q1 q2 hw1 hw2 zw1
   obtain⟨y0,y1,y2,y3⟩:=bc4 HX1.out
   obtain⟨q0,q1,q2⟩:=bc3 HX2.out
   go_wp2_with fail
   go_quiet (fail)
   go_wp2_with fail
   go_ret
   exact⟨by rw[HF.out];rfl,HK3.out.drewN _⟩
  have t2:decide (e<(ne:Int))=true:=by simpa using g2
  by_cases g3:0≤a
  case neg=>
   have t3:decide (a≥0)=false:=by simpa using g3
   have HF:Hid (rightB t (e,a,r)=false):=qh (by rw[HR.out,decide_eq_false g3];simp)
   clear g0 g1 g2 g3
   obtain⟨y0,y1,y2,y3⟩:=bc4 HB1.out
   obtain⟨q0,q1,q2⟩:=bc3 HB2.out
   go_enter Tryz.func141, Tryz.ntmps141
   go_wp2_with fail
   refine HC.out.mono ?_
   rintro en w3 ⟨rfl,hk3⟩
   have HK3:=qtr HK hk3
   have HX1:=qkb HB1 hk3
   have HX2:=qkb HB2 hk3
   clear hk3 HC HB1 HB2 y0 y1 y2 y3 q0 q1 q2 hw1 hw2 zw1
   obtain⟨y0,y1,y2,y3⟩:=bc4 HX1.out
   obtain⟨q0,q1,q2⟩:=bc3 HX2.out
   go_wp2_with fail
   go_quiet (fail)
   go_wp2_with fail
   go_ret
   exact⟨by rw[HF.out];rfl,HK3.out.drewN _⟩
  have t3:decide (a≥0)=true:=by simpa using g3
  obtain⟨ad,k,v,hA,he,hk,d0,hv⟩:=HED.out w2 HK.out e g1 g2
  subst hA
  rw[hv] at HR
  have hkz:(k:Int)<(ne:Int):=by omega
  have HRb:Hid (rightB t (e,a,r)=decide (a≤v)):=qh (by rw[HR.out,decide_eq_true g0,decide_eq_true g1,decide_eq_true g2,decide_eq_true g3];rfl)
  have HD0:=qh d0
  clear g0 g1 g2 g3 HED HR hv d0
  subst he
  by_cases g4:a≤v
  ·have t4:decide (a≤v)=true:=by simpa using g4
   have HF:Hid (rightB t (((k:Nat):Int),a,r)=true):=qh (by rw[HRb.out];exact t4)
   clear g4 HRb
   obtain⟨y0,y1,y2,y3⟩:=bc4 HB1.out
   obtain⟨q0,q1,q2⟩:=bc3 HB2.out
   go_enter Tryz.func141, Tryz.ntmps141
   go_wp2_with fail
   refine HC.out.mono ?_
   rintro en w3 ⟨rfl,hk3⟩
   have HK3:=qtr HK hk3
   have HX1:=qkb HB1 hk3
   have HX2:=qkb HB2 hk3
   have d0:=keepT hk3 HD0.out
   clear hk3 HC HB1 HB2 y0 y1 y2 y3 q0 q1 q2 hw1 hw2 zw1
   obtain⟨y0,y1,y2,y3⟩:=bc4 HX1.out
   obtain⟨q0,q1,q2⟩:=bc3 HX2.out
   go_wp2_with fail
   go_quiet (fail)
   go_wp2_with fail
   go_ret
   exact⟨by rw[HF.out];rfl,HK3.out.drewN _⟩
  ·have t4:decide (a≤v)=false:=by simpa using g4
   have HF:Hid (rightB t (((k:Nat):Int),a,r)=false):=qh (by rw[HRb.out];exact t4)
   clear g4 HRb
   obtain⟨y0,y1,y2,y3⟩:=bc4 HB1.out
   obtain⟨q0,q1,q2⟩:=bc3 HB2.out
   go_enter Tryz.func141, Tryz.ntmps141
   go_wp2_with fail
   refine HC.out.mono ?_
   rintro en w3 ⟨rfl,hk3⟩
   have HK3:=qtr HK hk3
   have HX1:=qkb HB1 hk3
   have HX2:=qkb HB2 hk3
   have d0:=keepT hk3 HD0.out
   clear hk3 HC HB1 HB2 y0 y1 y2 y3 q0 q1 q2 hw1 hw2 zw1
   obtain⟨y0,y1,y2,y3⟩:=bc4 HX1.out
   obtain⟨q0,q1,q2⟩:=bc3 HX2.out
   go_wp2_with fail
   go_quiet (fail)
   go_wp2_with fail
   go_ret
   exact⟨by rw[HF.out];rfl,HK3.out.drewN _⟩
set_option maxHeartbeats 4000000 in
set_option maxRecDepth 100000 in
theorem rahead_any (x:TA) (t:Tp) (B:Nat) (e a:Int) (r:Bool) (w:World) (h:TpAt w B x t) (h0:0≤e) (h1:e<(x.ne:Int)) (hv1:0≤edgeM t e) (hv2:edgeM t e≤1000000) (ha1:0≤a) (ha2:a≤1000000) :
    Calls Tryz.prog 142 #[.agg x.cs,.agg #[.int .i64 e,.int .i64 a,.bool r]] w fun en w'=>en=.returned (.int .i64 (aheadP t (e,a,r)))∧Keep Never w w':=by
  obtain⟨ad,k,v,hA,he,hk,d0,hv⟩:=edge_at h h0 h1
  have HD:Hid (∀W,Keep Never w W→W.cell? (ad.add k)=some (.int .i64 v)):=qh (fun W hk=>keepT hk d0)
  obtain⟨Ae,ne,ce,Aj,nj,cj,Ab,nb,cb,Ar,nr,cr⟩:=x
  simp only[TA.cs] at hA hk ⊢
  subst hA he
  have hkz:(k:Int)<(ne:Int):=by omega
  rw[hv] at hv1 hv2
  have hw:IntKind.i64.wrap (v - a)=v - a:=IntWalk.i64_in _ (by omega)
  cases r with
  | true=>
   have HF:Hid (aheadP t (((k:Nat):Int),a,true)=a):=qh (by unfold aheadP;rw[if_pos rfl])
   clear h d0 hv h0 h1 hv1 hv2 ha1 ha2
   obtain⟨w1,hw1⟩:∃V:World,w.alloc (.cells #[.slice (some ad) ne ce,.slice Aj nj cj,.slice Ab nb cb,.slice Ar nr cr] 27)=V:=⟨_,rfl⟩
   have zw1:w1.heap.size=w.heap.size+1:=by rw[←hw1];simp
   have kw1:Keep Never w w1:=by rw[←hw1];exact(Keep.refl _ _).alloc _
   have bw1:=Blk.new w 27 #[.slice (some ad) ne ce,.slice Aj nj cj,.slice Ab nb cb,.slice Ar nr cr]
   rw[hw1] at bw1
   obtain⟨w2,hw2⟩:∃V:World,w1.alloc (.cells #[.int .i64 ((k:Nat):Int),.int .i64 a,.bool true] 71)=V:=⟨_,rfl⟩
   have kw2:Keep Never w1 w2:=by rw[←hw2];exact(Keep.refl _ _).alloc _
   have bw2:=Blk.new w1 71 #[.int .i64 ((k:Nat):Int),.int .i64 a,.bool true]
   rw[hw2,zw1] at bw2
   have HB1:=qh (bw1.keep kw2 (fun h=>h))
   have HB2:=qh bw2
   have HK:=qh (kw1.trans kw2)
   clear kw1 kw2 bw1 bw2
   obtain⟨y0,y1,y2,y3⟩:=bc4 HB1.out
   obtain⟨q0,q1,q2⟩:=bc3 HB2.out
   have d0:=HD.out w2 HK.out
   go_enter Tryz.func142, Tryz.ntmps142
   go_wp2_with fail
   go_ret
   exact⟨by rw[HF.out];rfl,HK.out⟩
  | false=>
   have HF:Hid (aheadP t (((k:Nat):Int),a,false)=v - a):=qh (by unfold aheadP;rw[if_neg (by simp)];simp only;rw[hv])
   clear h d0 hv h0 h1 hv1 hv2 ha1 ha2
   obtain⟨w1,hw1⟩:∃V:World,w.alloc (.cells #[.slice (some ad) ne ce,.slice Aj nj cj,.slice Ab nb cb,.slice Ar nr cr] 27)=V:=⟨_,rfl⟩
   have zw1:w1.heap.size=w.heap.size+1:=by rw[←hw1];simp
   have kw1:Keep Never w w1:=by rw[←hw1];exact(Keep.refl _ _).alloc _
   have bw1:=Blk.new w 27 #[.slice (some ad) ne ce,.slice Aj nj cj,.slice Ab nb cb,.slice Ar nr cr]
   rw[hw1] at bw1
   obtain⟨w2,hw2⟩:∃V:World,w1.alloc (.cells #[.int .i64 ((k:Nat):Int),.int .i64 a,.bool false] 71)=V:=⟨_,rfl⟩
   have kw2:Keep Never w1 w2:=by rw[←hw2];exact(Keep.refl _ _).alloc _
   have bw2:=Blk.new w1 71 #[.int .i64 ((k:Nat):Int),.int .i64 a,.bool false]
   rw[hw2,zw1] at bw2
   have HB1:=qh (bw1.keep kw2 (fun h=>h))
   have HB2:=qh bw2
   have HK:=qh (kw1.trans kw2)
   clear kw1 kw2 bw1 bw2
   obtain⟨y0,y1,y2,y3⟩:=bc4 HB1.out
   obtain⟨q0,q1,q2⟩:=bc3 HB2.out
   have d0:=HD.out w2 HK.out
   go_enter Tryz.func142, Tryz.ntmps142
   go_wp2_with fail
   go_quiet (fail)
   go_wp2_with fail
   go_ret
   exact⟨by rw[HF.out];rfl,HK.out.drewN _⟩
set_option maxHeartbeats 4000000 in
set_option maxRecDepth 100000 in
theorem rmoved_any (e a:Int) (r:Bool) (n:Int) (w:World) (ha1:0≤a) (ha2:a≤1000000) (hn1:0≤n) (hn2:n≤4398046511104) :
    Calls Tryz.prog 144 #[.agg #[.int .i64 e,.int .i64 a,.bool r],.int .i64 n] w (PsRet (movedP (e,a,r) n) w):=by
  have hw1':wrap64 (a+n)=a+n:=by have:=IntWalk.i64_in (a+n) (by omega);rwa [IntWalk.i64_left] at this
  have hw2':wrap64 (a - n)=a - n:=by have:=IntWalk.i64_in (a - n) (by omega);rwa [IntWalk.i64_left] at this
  have hw3':IntKind.i64.wrap (a+n)=a+n:=IntWalk.i64_in (a+n) (by omega)
  have hw4':IntKind.i64.wrap (a - n)=a - n:=IntWalk.i64_in (a - n) (by omega)
  cases r with
  | true=>
   have HF:Hid (movedP (e,a,true) n=(e,a - n,true)):=qh (by unfold movedP;rw[if_pos rfl])
   clear ha1 ha2 hn1 hn2
   obtain⟨w1,hw1⟩:∃V:World,w.alloc (.cells #[.int .i64 e,.int .i64 a,.bool true] 71)=V:=⟨_,rfl⟩
   have zw1:w1.heap.size=w.heap.size+1:=by rw[←hw1];simp
   have kw1:Keep Never w w1:=by rw[←hw1];exact(Keep.refl _ _).alloc _
   have bw1:=Blk.new w 71 #[.int .i64 e,.int .i64 a,.bool true]
   rw[hw1] at bw1
   obtain⟨w2,hw2⟩:∃V:World,w1.alloc (.cells #[.int .i64 0,.int .i64 0,.bool false] 71)=V:=⟨_,rfl⟩
   have kw2:Keep Never w1 w2:=by rw[←hw2];exact(Keep.refl _ _).alloc _
   have bw2:=Blk.new w1 71 #[.int .i64 0,.int .i64 0,.bool false]
   rw[hw2,zw1] at bw2
   have HB1:=qh (bw1.keep kw2 (fun h=>h))
   have HB2:=qh bw2
   have HK:=qh (kw1.trans kw2)
   clear kw1 kw2 bw1 bw2
   obtain⟨q0,q1,q2⟩:=bc3 HB1.out
   go_enter Tryz.func144, Tryz.ntmps144
   obtain⟨z0,z1,z2⟩:=bc3 HB2.out
   have zf0:=HB2.out.frozen 0
   have zf1:=HB2.out.frozen 1
   have zf2:=HB2.out.frozen 2
   go_wp2_with fail
   (try simp only[Exit.inBlock,Exit.then])
   have hp:=ps3_keep HK.out (b:=w.heap.size+1) (.inr (by omega)) (.int .i64 e) (.int .i64 (a - n)) (.bool true)
   refine bodyPost_ret (ps_results (fn:=Tryz.f144) (r:=4) rfl (ps3_blk HB2.out (.int .i64 e) (.int .i64 (a - n)) (.bool true)) _ rfl) rfl ⟨by rw[HF.out],hp⟩
  | false=>
   have HF:Hid (movedP (e,a,false) n=(e,a+n,false)):=qh (by unfold movedP;rw[if_neg (by simp)])
   clear ha1 ha2 hn1 hn2
   obtain⟨w1,hw1⟩:∃V:World,w.alloc (.cells #[.int .i64 e,.int .i64 a,.bool false] 71)=V:=⟨_,rfl⟩
   have zw1:w1.heap.size=w.heap.size+1:=by rw[←hw1];simp
   have kw1:Keep Never w w1:=by rw[←hw1];exact(Keep.refl _ _).alloc _
   have bw1:=Blk.new w 71 #[.int .i64 e,.int .i64 a,.bool false]
   rw[hw1] at bw1
   obtain⟨w2,hw2⟩:∃V:World,w1.alloc (.cells #[.int .i64 0,.int .i64 0,.bool false] 71)=V:=⟨_,rfl⟩
   have kw2:Keep Never w1 w2:=by rw[←hw2];exact(Keep.refl _ _).alloc _
   have bw2:=Blk.new w1 71 #[.int .i64 0,.int .i64 0,.bool false]
   rw[hw2,zw1] at bw2
   have HB1:=qh (bw1.keep kw2 (fun h=>h))
   have HB2:=qh bw2
   have HK:=qh (kw1.trans kw2)
   clear kw1 kw2 bw1 bw2
   obtain⟨q0,q1,q2⟩:=bc3 HB1.out
   go_enter Tryz.func144, Tryz.ntmps144
   obtain⟨z0,z1,z2⟩:=bc3 HB2.out
   have zf0:=HB2.out.frozen 0
   have zf1:=HB2.out.frozen 1
   have zf2:=HB2.out.frozen 2
   go_wp2_with fail
   (try simp only[Exit.inBlock,Exit.then])
   have hp:=ps3_keep HK.out (b:=w.heap.size+1) (.inr (by omega)) (.int .i64 e) (.int .i64 (a+n)) (.bool false)
   refine bodyPost_ret (ps_results (fn:=Tryz.f144) (r:=4) rfl (ps3_blk HB2.out (.int .i64 e) (.int .i64 (a+n)) (.bool false)) _ rfl) rfl ⟨by rw[HF.out],hp⟩
set_option maxHeartbeats 4000000 in
set_option maxRecDepth 100000 in
theorem rbegin_any (x:TA) (t:Tp) (B:Nat) (e:Int) (r:Bool) (w:World) (h:TpAt w B x t) (h0:0≤e) (h1:e<(x.ne:Int)) :
    Calls Tryz.prog 143 #[.agg x.cs,.agg #[.int .i64 e,.bool r]] w (PsRet (beginP t (e,r)) w):=by
  obtain⟨ad,k,v,hA,he,hk,d0,hv⟩:=edge_at h h0 h1
  have HD:Hid (∀W,Keep Never w W→W.cell? (ad.add k)=some (.int .i64 v)):=qh (fun W hk=>keepT hk d0)
  obtain⟨Ae,ne,ce,Aj,nj,cj,Ab,nb,cb,Ar,nr,cr⟩:=x
  simp only[TA.cs] at hA hk ⊢
  subst hA he
  have hkz:(k:Int)<(ne:Int):=by omega
  cases r with
  | true=>
   have HF:Hid (beginP t (((k:Nat):Int),true)=(((k:Nat):Int),v,true)):=qh (by unfold beginP;rw[if_pos rfl];simp only;rw[hv])
   clear h d0 hv h0 h1
   obtain⟨w1,hw1⟩:∃V:World,w.alloc (.cells #[.slice (some ad) ne ce,.slice Aj nj cj,.slice Ab nb cb,.slice Ar nr cr] 27)=V:=⟨_,rfl⟩
   have zw1:w1.heap.size=w.heap.size+1:=by rw[←hw1];simp
   have kw1:Keep Never w w1:=by rw[←hw1];exact(Keep.refl _ _).alloc _
   have bw1:=Blk.new w 27 #[.slice (some ad) ne ce,.slice Aj nj cj,.slice Ab nb cb,.slice Ar nr cr]
   rw[hw1] at bw1
   obtain⟨w2,hw2⟩:∃V:World,w1.alloc (.cells #[.int .i64 ((k:Nat):Int),.bool true] 30)=V:=⟨_,rfl⟩
   have zw2:w2.heap.size=w.heap.size+1+1:=by rw[←hw2];simp[zw1]
   have kw2:Keep Never w1 w2:=by rw[←hw2];exact(Keep.refl _ _).alloc _
   have bw2:=Blk.new w1 30 #[.int .i64 ((k:Nat):Int),.bool true]
   rw[hw2,zw1] at bw2
   obtain⟨w3,hw3⟩:∃V:World,w2.alloc (.cells #[.int .i64 0,.int .i64 0,.bool false] 71)=V:=⟨_,rfl⟩
   have kw3:Keep Never w2 w3:=by rw[←hw3];exact(Keep.refl _ _).alloc _
   have bw3:=Blk.new w2 71 #[.int .i64 0,.int .i64 0,.bool false]
   rw[hw3,zw2] at bw3
   have HB1:=qh ((bw1.keep kw2 (fun h=>h)).keep kw3 (fun h=>h))
   have HB2:=qh (bw2.keep kw3 (fun h=>h))
   have HB3:=qh bw3
   have HK:=qh ((kw1.trans kw2).trans kw3)
   clear kw1 kw2 kw3 bw1 bw2 bw3
   obtain⟨y0,y1,y2,y3⟩:=bc4 HB1.out
   obtain⟨q0,q1⟩:=bc2 HB2.out
   have d0:=HD.out w3 HK.out
   go_enter Tryz.func143, Tryz.ntmps143
   go_wp2_with fail
   go_still_tail 9,(by kernel_rfl)
   change wpList _ _ _ _ _ w3.drew
   obtain⟨w5,hw5⟩:∃V:World,w3.drew=V:=⟨_,rfl⟩
   rw[hw5]
   have HKd:Hid (Keep Never w w5):=qh (by rw[←hw5];exact HK.out.drew)
   have HBd:Hid (Blk w5 (w.heap.size+1+1) 71 #[.int .i64 0,.int .i64 0,.bool false]):=qh (by rw[←hw5];exact HB3.out.drew)
   clear hw5
   obtain⟨z0,z1,z2⟩:=bc3 HBd.out
   have zf0:=HBd.out.frozen 0
   have zf1:=HBd.out.frozen 1
   have zf2:=HBd.out.frozen 2
   go_wp2_with fail
   (try simp only[Exit.inBlock,Exit.then])
   have hp:=ps3_keep HKd.out (b:=w.heap.size+1+1) (.inr (by omega)) (.int .i64 ((k:Nat):Int)) (.int .i64 v) (.bool true)
   refine bodyPost_ret (ps_results (fn:=Tryz.f143) (r:=4) rfl (ps3_blk HBd.out (.int .i64 ((k:Nat):Int)) (.int .i64 v) (.bool true)) _ rfl) rfl ⟨by rw[HF.out],hp⟩
  | false=>
   have HF:Hid (beginP t (((k:Nat):Int),false)=(((k:Nat):Int),0,false)):=qh (by unfold beginP;rw[if_neg (by simp)])
   clear h d0 hv h0 h1
   obtain⟨w1,hw1⟩:∃V:World,w.alloc (.cells #[.slice (some ad) ne ce,.slice Aj nj cj,.slice Ab nb cb,.slice Ar nr cr] 27)=V:=⟨_,rfl⟩
   have zw1:w1.heap.size=w.heap.size+1:=by rw[←hw1];simp
   have kw1:Keep Never w w1:=by rw[←hw1];exact(Keep.refl _ _).alloc _
   have bw1:=Blk.new w 27 #[.slice (some ad) ne ce,.slice Aj nj cj,.slice Ab nb cb,.slice Ar nr cr]
   rw[hw1] at bw1
   obtain⟨w2,hw2⟩:∃V:World,w1.alloc (.cells #[.int .i64 ((k:Nat):Int),.bool false] 30)=V:=⟨_,rfl⟩
   have zw2:w2.heap.size=w.heap.size+1+1:=by rw[←hw2];simp[zw1]
   have kw2:Keep Never w1 w2:=by rw[←hw2];exact(Keep.refl _ _).alloc _
   have bw2:=Blk.new w1 30 #[.int .i64 ((k:Nat):Int),.bool false]
   rw[hw2,zw1] at bw2
   obtain⟨w3,hw3⟩:∃V:World,w2.alloc (.cells #[.int .i64 0,.int .i64 0,.bool false] 71)=V:=⟨_,rfl⟩
   have kw3:Keep Never w2 w3:=by rw[←hw3];exact(Keep.refl _ _).alloc _
   have bw3:=Blk.new w2 71 #[.int .i64 0,.int .i64 0,.bool false]
   rw[hw3,zw2] at bw3
   have HB1:=qh ((bw1.keep kw2 (fun h=>h)).keep kw3 (fun h=>h))
   have HB2:=qh (bw2.keep kw3 (fun h=>h))
   have HB3:=qh bw3
   have HK:=qh ((kw1.trans kw2).trans kw3)
   clear kw1 kw2 kw3 bw1 bw2 bw3
   obtain⟨y0,y1,y2,y3⟩:=bc4 HB1.out
   obtain⟨q0,q1⟩:=bc2 HB2.out
   have d0:=HD.out w3 HK.out
   go_enter Tryz.func143, Tryz.ntmps143
   obtain⟨z0,z1,z2⟩:=bc3 HB3.out
   have zf0:=HB3.out.frozen 0
   have zf1:=HB3.out.frozen 1
   have zf2:=HB3.out.frozen 2
   go_wp2_with fail
   (try simp only[Exit.inBlock,Exit.then])
   have hp:=ps3_keep HK.out (b:=w.heap.size+1+1) (.inr (by omega)) (.int .i64 ((k:Nat):Int)) (.int .i64 0) (.bool false)
   refine bodyPost_ret (ps_results (fn:=Tryz.f143) (r:=4) rfl (ps3_blk HB3.out (.int .i64 ((k:Nat):Int)) (.int .i64 0) (.bool false)) _ rfl) rfl ⟨by rw[HF.out],hp⟩
end Go.Proofs.YtpapiojicbbheaaGreatDoor
