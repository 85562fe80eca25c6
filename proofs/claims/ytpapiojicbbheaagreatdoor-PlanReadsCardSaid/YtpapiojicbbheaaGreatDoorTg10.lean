/- Texts of this claim, together: PlnJ, PmH, PnC, PnF. -/
import Derived.Test.YtpapiojicbbheaaGreatDoorTf09
namespace Go.Proofs.YtpapiojicbbheaaGreatDoor
open Go.RowKit
theorem may_no {t:Tp}{m:Ma} (h:∀z,MayA t m z→False):mayMA t m=false:=by
 cases hm:mayMA t m with
 | false=>rfl
 | true=>obtain⟨z,hz⟩:=may_iff.1 hm;exact(h z hz).elim
def fitO (o:Option (Int×Int)) (n:Int):Bool:=match o with | some z=>decide (n≤z.1) | none=>false
theorem fits_eq (t:Tp) (m:Ma):fitsB t m=fitO (leftA t m) (endS m.2.2.2.1+m.2.2.2.2):=rfl
theorem may_last {t:Tp}{m:Ma} (h0:checkM t=0) (h1:m.2.2.1.length≤24) (h2:twiceB m.2.2.1=false) (h3:1≤m.2.2.2.1.length) (h4:m.2.2.2.1.length≤8) (h5:0≤m.2.2.2.2) (h6:m.2.2.2.2≤1099511627776) (h7:sectsB m.2.2.2.1=true):mayMA t m=fitsB t m:=by
 unfold mayMA
 simp[h0,h1,h2,h3,h4,h5,h6,h7]
theorem sects_no {l:List Sc}{k:Nat} (hk:k<l.length) (h:sectAt l k=false):sectsB l=false:=by
 unfold sectsB
 rw[List.all_eq_false]
 exact⟨k,List.mem_range.2 hk,by rw[h];simp⟩
theorem sects_yes {l:List Sc} (h:∀k,k<l.length→sectAt l k=true):sectsB l=true:=by
 unfold sectsB
 rw[List.all_eq_true]
 intro k hk
 exact h k (List.mem_range.1 hk)
theorem sectAt_eq {l:List Sc}{k:Nat}{s:Sc} (h:l[k]?=some s):sectAt l k=(decide (endS (l.take k)<s.1)&&decide (s.1≤1099511627776)&&decide (1≤s.2)&&decide (s.2≤1000)):=by unfold sectAt;rw[h]
theorem sects_end {l:List Sc}{k:Nat} (hk:k≤l.length) (h:∀j,j<k→sectAt l j=true):0≤endS (l.take k)∧endS (l.take k)≤1099511627776:=by
 induction k with
 | zero=>simp[endS_nil]
 | succ k ih=>
  obtain⟨h1,h2⟩:=ih (by omega) (fun j hj=>h j (by omega))
  have hs:l[k]?=some l[k]:=List.getElem?_eq_getElem (by omega)
  have h3:=h k (by omega)
  rw[sectAt_eq hs] at h3
  simp only[Bool.and_eq_true,decide_eq_true_eq] at h3
  rw[endS_take hs]
  omega
set_option maxHeartbeats 8000000 in
set_option maxRecDepth 100000 in
theorem may17_any (x:TA) (t:Tp) (B:Nat) (ref:Int) (rv:Bool) (P:List Stp) (S:List Sc) (g:Int) (Ap:Option Addr) (np cp:Nat) (As:Option Addr) (ns cs:Nat) (w:World) (h:TpAt w B x t) (hs:TpSmall x t) (hB:B≤w.heap.size) (hp:repStp.Sl w B Ap np cp P) (hS:ScAt w B As ns cs S) (hnp:np≤1000000) (hns:ns≤1000000) :
    Calls Tryz.prog 22 #[.agg x.cs,.agg #[.int .i64 ref,.bool rv,.slice Ap np cp,.slice As ns cs,.int .i64 g]] w fun en w'=>en=.returned (.bool (mayMA t (ref,rv,P,S,g)))∧Keep Never w w':=by
  have HCh:=qh (fun (W:World) (hk:Keep Never w W)=>check_any x t B W (h.keep hk) hs (Nat.le_trans hB hk.size))
  have HTw:=qh (fun (W:World) (hk:Keep Never w W)=>twice_any Ap np cp B P W ((stps_rd hp).1.keep hk (fun _ h=>h.elim)) hp.cap hnp)
  have HLf:=qh (fun (W:World) (hk:Keep Never w W) (hck:checkM t=0)=>pleft_any x t B ref rv P S g Ap np cp As ns cs W (h.keep hk) hs (hp.keep hk (fun _ h=>h.elim)) hck (by omega))
  have HPl:Hid (np=P.length):=qh hp.len
  have HS:=qh hS
  have HSl:Hid (S.length=ns):=qh hS.len
  obtain⟨Ae,ne,ce,Aj,nj,cj,Ab,nb,cb,Ar,nr,cr⟩:=x
  simp only[TA.cs] at HCh HLf ⊢
  clear h hs hp hS hB
  obtain⟨w1,hw1⟩:∃V:World,w.alloc (.cells #[.slice Ae ne ce,.slice Aj nj cj,.slice Ab nb cb,.slice Ar nr cr] 27)=V:=⟨_,rfl⟩
  have zw1:w1.heap.size=w.heap.size+1:=by rw[←hw1];simp
  have kw1:Keep Never w w1:=by rw[←hw1];exact(Keep.refl _ _).alloc _
  have bw1:=Blk.new w 27 #[.slice Ae ne ce,.slice Aj nj cj,.slice Ab nb cb,.slice Ar nr cr]
  rw[hw1] at bw1
  obtain⟨w2,hw2⟩:∃V:World,w1.alloc (.cells #[.int .i64 ref,.bool rv,.slice Ap np cp,.slice As ns cs,.int .i64 g] 38)=V:=⟨_,rfl⟩
  have kw2:Keep Never w1 w2:=by rw[←hw2];exact(Keep.refl _ _).alloc _
  have bw2:=Blk.new w1 38 #[.int .i64 ref,.bool rv,.slice Ap np cp,.slice As ns cs,.int .i64 g]
  rw[hw2,zw1] at bw2
  have HB1:=qh (bw1.keep kw2 (fun h=>h))
  have HB2:=qh bw2
  have HK:=qh (kw1.trans kw2)
  clear kw1 kw2 bw1 bw2
  obtain⟨ck,hck⟩:∃z,checkM t=z:=⟨_,rfl⟩
  have HC:=qh (HCh.out w2 HK.out)
  rw[hck] at HC
  have HCk:=qh hck
  clear hck HCh
  by_cases g0:ck=0
  case neg=>
   have t0:(ck != 0)=true:=by simpa using g0
   have HF:Hid (mayMA t (ref,rv,P,S,g)=false):=qh (may_no (fun z hz=>by exact g0 (HCk.out.symm.trans hz.chk)))
   clear g0
   obtain⟨y0,y1,y2,y3⟩:=bc4 HB1.out
   obtain⟨q0,q1,q2,q3,q4⟩:=bc5 HB2.out
   go_enter Tryz.func22, Tryz.ntmps22
   go_wp2_with fail
   refine HC.out.mono ?_
   rintro en w4 ⟨rfl,hk4⟩
   have HK1:=qtr HK hk4
   have Hy1:=qkb HB1 hk4
   have Hq1:=qkb HB2 hk4
   clear y0 y1 y2 y3 q0 q1 q2 q3 q4 hk4 HC hw1 hw2 zw1
   obtain⟨y0,y1,y2,y3⟩:=bc4 Hy1.out
   obtain⟨q0,q1,q2,q3,q4⟩:=bc5 Hq1.out
   go_wp2_with fail
   go_ret
   exact⟨by rw[HF.out];rfl,HK1.out⟩
  have t0:(ck != 0)=false:=by simpa using g0
  have HC0:Hid (checkM t=0):=qh (HCk.out.trans g0)
  clear g0
  by_cases g1:np≤24
  case neg=>
   have t1:decide ((np:Int)>24)=true:=by simp;omega
   have t1b:decide (24<np)=true:=by simp;omega
   have HF:Hid (mayMA t (ref,rv,P,S,g)=false):=qh (may_no (fun z hz=>by have h1:=hz.few;have h2:=HPl.out;simp only at h1;omega))
   clear g1
   obtain⟨y0,y1,y2,y3⟩:=bc4 HB1.out
   obtain⟨q0,q1,q2,q3,q4⟩:=bc5 HB2.out
   go_enter Tryz.func22, Tryz.ntmps22
   go_wp2_with fail
   refine HC.out.mono ?_
   rintro en w4 ⟨rfl,hk4⟩
   have HK1:=qtr HK hk4
   have Hy1:=qkb HB1 hk4
   have Hq1:=qkb HB2 hk4
   clear y0 y1 y2 y3 q0 q1 q2 q3 q4 hk4 HC hw1 hw2 zw1
   obtain⟨y0,y1,y2,y3⟩:=bc4 Hy1.out
   obtain⟨q0,q1,q2,q3,q4⟩:=bc5 Hq1.out
   go_wp2_with fail
   go_ret
   exact⟨by rw[HF.out];rfl,HK1.out⟩
  have t1:decide ((np:Int)>24)=false:=by simp;omega
  have t1b:decide (24<np)=false:=by simp;omega
  have HG1:=qh g1
  clear g1
  obtain⟨y0,y1,y2,y3⟩:=bc4 HB1.out
  obtain⟨q0,q1,q2,q3,q4⟩:=bc5 HB2.out
  go_enter Tryz.func22, Tryz.ntmps22
  go_wp2_with fail
  refine HC.out.mono ?_
  rintro en w4 ⟨rfl,hk4⟩
  have HK1:=qtr HK hk4
  have Hy1:=qkb HB1 hk4
  have Hq1:=qkb HB2 hk4
  clear y0 y1 y2 y3 q0 q1 q2 q3 q4 hk4 HC hw1 hw2 zw1
  obtain⟨y0,y1,y2,y3⟩:=bc4 Hy1.out
  obtain⟨q0,q1,q2,q3,q4⟩:=bc5 Hq1.out
  go_wp2_with fail
  obtain⟨tb,htb⟩:∃z,twiceB P=z:=⟨_,rfl⟩
  have hT:=HTw.out w4 HK1.out
  rw[htb] at hT
  have HT:=qh hT
  have HTb:=qh htb
  clear hT htb HTw
  refine HT.out.mono ?_
  rintro en w5 ⟨rfl,hk5⟩
  have HK2:=qtr HK1 hk5
  have Hy2:=qkb Hy1 hk5
  have Hq2:=qkb Hq1 hk5
  clear y0 y1 y2 y3 q0 q1 q2 q3 q4 hk5 HT
  cases tb with
  | true=>
   have HF:Hid (mayMA t (ref,rv,P,S,g)=false):=qh (may_no (fun z hz=>by have h1:=twice_no.2 hz.once;simp only at h1;rw[HTb.out] at h1;exact absurd h1 (by decide)))
   obtain⟨y0,y1,y2,y3⟩:=bc4 Hy2.out
   obtain⟨q0,q1,q2,q3,q4⟩:=bc5 Hq2.out
   go_wp2_with fail
   go_ret
   exact⟨by rw[HF.out];rfl,HK2.out⟩
  | false=>
   by_cases g2:1≤ns
   case neg=>
    have t2a:decide ((ns:Int)<1)=true:=by simp;omega
    have t2b:decide (ns<1)=true:=by simp;omega
    have t2c:decide (ns=0)=true:=by simp;omega
    have HF:Hid (mayMA t (ref,rv,P,S,g)=false):=qh (may_no (fun z hz=>by have h1:=hz.some_;have h2:=HSl.out;simp only at h1;omega))
    clear g2
    obtain⟨y0,y1,y2,y3⟩:=bc4 Hy2.out
    obtain⟨q0,q1,q2,q3,q4⟩:=bc5 Hq2.out
    go_wp2_with fail
    go_ret
    exact⟨by rw[HF.out];rfl,HK2.out⟩
   have t2a:decide ((ns:Int)<1)=false:=by simp;omega
   have t2b:decide (ns<1)=false:=by simp;omega
   have t2c:decide (ns=0)=false:=by simp;omega
   have HG2:=qh g2
   clear g2
   by_cases g3:ns≤8
   case neg=>
    have t3a:decide ((ns:Int)>8)=true:=by simp;omega
    have t3b:decide (8<ns)=true:=by simp;omega
    have HF:Hid (mayMA t (ref,rv,P,S,g)=false):=qh (may_no (fun z hz=>by have h1:=hz.eight;have h2:=HSl.out;simp only at h1;omega))
    clear g3
    obtain⟨y0,y1,y2,y3⟩:=bc4 Hy2.out
    obtain⟨q0,q1,q2,q3,q4⟩:=bc5 Hq2.out
    go_wp2_with fail
    go_ret
    exact⟨by rw[HF.out];rfl,HK2.out⟩
   have t3a:decide ((ns:Int)>8)=false:=by simp;omega
   have t3b:decide (8<ns)=false:=by simp;omega
   have HG3:=qh g3
   clear g3
   by_cases g4:0≤g
   case neg=>
    have t4a:decide (g<0)=true:=by simp;omega
    have HF:Hid (mayMA t (ref,rv,P,S,g)=false):=qh (may_no (fun z hz=>by have h1:=hz.gap0;simp only at h1;omega))
    clear g4
    obtain⟨y0,y1,y2,y3⟩:=bc4 Hy2.out
    obtain⟨q0,q1,q2,q3,q4⟩:=bc5 Hq2.out
    go_wp2_with fail
    go_ret
    exact⟨by rw[HF.out];rfl,HK2.out⟩
   have t4a:decide (g<0)=false:=by simp;omega
   have HG4:=qh g4
   clear g4
   by_cases g5:g≤1099511627776
   case neg=>
    have t5a:decide (g>1099511627776)=true:=by simp;omega
    have HF:Hid (mayMA t (ref,rv,P,S,g)=false):=qh (may_no (fun z hz=>by have h1:=hz.gap1;simp only at h1;omega))
    clear g5
    obtain⟨y0,y1,y2,y3⟩:=bc4 Hy2.out
    obtain⟨q0,q1,q2,q3,q4⟩:=bc5 Hq2.out
    go_wp2_with fail
    go_ret
    exact⟨by rw[HF.out];rfl,HK2.out⟩
   have t5a:decide (g>1099511627776)=false:=by simp;omega
   have HG5:=qh g5
   clear g5
   obtain⟨y0,y1,y2,y3⟩:=bc4 Hy2.out
   obtain⟨q0,q1,q2,q3,q4⟩:=bc5 Hq2.out
   go_wp2_with fail
   clear y0 y1 y2 y3 q0 q1 q2 q3 q4 t0 t1 t1b t2a t2b t2c t3a t3b t4a t5a
   go_loopw [5,50] (fun la si wr=>∃k:Nat,k≤ns∧si=.int .i64 k∧la=.int .i64 (endS (S.take k))∧Hid (Keep Never w5 wr∧∀j,j<k→sectAt S j=true)) (fun _ si _=>ns - (intOf si).toNat)
   case atStart=>exact⟨0,by omega,rfl,rfl,qh ⟨Keep.refl _ _,fun j hj=>absurd hj (by omega)⟩⟩
   case round=>
    obtain⟨k,hk,rfl,rfl,HH⟩:=hrel
    have hkr:=HH.out.1
    have HK3:=qtr HK2 hkr
    have Hy3:=qkb Hy2 hkr
    have Hq3:=qkb Hq2 hkr
    clear hkr
    by_cases h0:k<ns
    ·have hki:(k:Int)<(ns:Int):=by omega
     obtain⟨ad,s,hA,_,hs,c0,c1⟩:=(HS.out.keep HK3.out).rd.sc h0
     have HSa:=qh (sectAt_eq hs)
     have HSn:=qh (endS_take hs)
     obtain⟨s1,s2⟩:=s
     simp only at c0 c1 HSa HSn
     subst hA
     obtain⟨la,hla⟩:∃z,endS (S.take k)=z:=⟨_,rfl⟩
     rw[hla] at HSa ⊢
     clear hs hla
     obtain⟨w8,hw8⟩:∃V:World,wr.alloc (.cells #[.int .i64 s1,.int .i64 s2] 58)=V:=⟨_,rfl⟩
     have k8:Keep Never wr w8:=by rw[←hw8];exact(Keep.refl _ _).alloc _
     have B8:=Blk.new wr 58 #[.int .i64 s1,.int .i64 s2]
     rw[hw8] at B8
     obtain⟨br,hbr⟩:∃q,wr.heap.size=q:=⟨_,rfl⟩
     rw[hbr] at B8
     have HB8:=qh B8
     have HK4:=qtr HK3 k8
     have Hy4:=qkb Hy3 k8
     have Hq4:=qkb Hq3 k8
     clear k8 B8
     obtain⟨b0,b1⟩:=bc2 HB8.out
     by_cases e0:s1≤la
     ·have u0:decide (s1≤la)=true:=by simpa using e0
      have HF:Hid (mayMA t (ref,rv,P,S,g)=false):=qh (may_no (fun z hz=>by have h1:=sects_iff.2 hz.sects;simp only at h1;rw[sects_no (k:=k) (by rw[HSl.out];exact h0) (by rw[HSa.out];simp;omega)] at h1;exact absurd h1 (by decide)))
      clear e0
      go_wp2_with fail
      go_ret
      exact⟨by rw[HF.out];rfl,HK4.out⟩
     have u0:decide (s1≤la)=false:=by simpa using e0
     by_cases e1:s1>1099511627776
     ·have u1:decide (s1>1099511627776)=true:=by simpa using e1
      have HF:Hid (mayMA t (ref,rv,P,S,g)=false):=qh (may_no (fun z hz=>by have h1:=sects_iff.2 hz.sects;simp only at h1;rw[sects_no (k:=k) (by rw[HSl.out];exact h0) (by rw[HSa.out];simp;omega)] at h1;exact absurd h1 (by decide)))
      clear e0 e1
      go_wp2_with fail
      go_ret
      exact⟨by rw[HF.out];rfl,HK4.out⟩
     have u1:decide (s1>1099511627776)=false:=by simpa using e1
     by_cases e2:s2<1
     ·have u2:decide (s2<1)=true:=by simpa using e2
      have HF:Hid (mayMA t (ref,rv,P,S,g)=false):=qh (may_no (fun z hz=>by have h1:=sects_iff.2 hz.sects;simp only at h1;rw[sects_no (k:=k) (by rw[HSl.out];exact h0) (by rw[HSa.out];simp;omega)] at h1;exact absurd h1 (by decide)))
      clear e0 e1 e2
      go_wp2_with fail
      go_ret
      exact⟨by rw[HF.out];rfl,HK4.out⟩
     have u2:decide (s2<1)=false:=by simpa using e2
     by_cases e3:s2>1000
     ·have u3:decide (s2>1000)=true:=by simpa using e3
      have HF:Hid (mayMA t (ref,rv,P,S,g)=false):=qh (may_no (fun z hz=>by have h1:=sects_iff.2 hz.sects;simp only at h1;rw[sects_no (k:=k) (by rw[HSl.out];exact h0) (by rw[HSa.out];simp;omega)] at h1;exact absurd h1 (by decide)))
      clear e0 e1 e2 e3
      go_wp2_with fail
      go_ret
      exact⟨by rw[HF.out];rfl,HK4.out⟩
     have u3:decide (s2>1000)=false:=by simpa using e3
     have HOk:Hid (sectAt S k=true):=qh (by rw[HSa.out];simp;omega)
     clear e0 e1 e2 e3
     go_wp2_with fail
     refine⟨⟨k+1,by omega,by go_num,by rw[HSn.out],qh ⟨HH.out.1.trans (show Keep Never wr w8 from by rw[←hw8];exact(Keep.refl _ _).alloc _),fun j hj=>?_⟩⟩,?_⟩
     ·rcases Nat.lt_or_ge j k with h | h
      ·exact HH.out.2 j h
      ·obtain rfl:j=k:=by omega
       exact HOk.out
     ·simp[intOf];try omega
    ·obtain rfl:k=ns:=by omega
     have hki:¬(k:Int)<(k:Int):=by omega
     have HSt:Hid (S.take k=S):=qh (by rw[List.take_of_length_le (by rw[HSl.out];exact Nat.le_refl _)])
     have HSy:Hid (sectsB S=true):=qh (sects_yes (fun j hj=>HH.out.2 j (by rw[←HSl.out];exact hj)))
     have hen:=sects_end (l:=S) (k:=k) (by rw[HSl.out];exact Nat.le_refl _) HH.out.2
     rw[HSt.out] at hen ⊢
     have HML:Hid (mayMA t (ref,rv,P,S,g)=fitsB t (ref,rv,P,S,g)):=qh (may_last HC0.out (by simp only;have:=HG1.out;have:=HPl.out;omega) HTb.out (by simp only;have:=HG2.out;have:=HSl.out;omega) (by simp only;have:=HG3.out;have:=HSl.out;omega) HG4.out HG5.out HSy.out)
     have hL0:=HLf.out wr HK3.out HC0.out
     unfold LeftRet at hL0
     obtain⟨o,ho⟩:∃z,leftA t (ref,rv,P,S,g)=z:=⟨_,rfl⟩
     rw[ho] at hL0
     have HL:=qh hL0
     obtain⟨la,hla⟩:∃z,endS S=z:=⟨_,rfl⟩
     have HFi:Hid (fitsB t (ref,rv,P,S,g)=fitO o (la+g)):=qh (by rw[fits_eq,ho];simp only;rw[hla])
     rw[hla] at hen ⊢
     have hw:IntKind.i64.wrap (la+g)=la+g:=IntWalk.i64_in _ (by have:=HG4.out;have:=HG5.out;omega)
     have hw':wrap64 (la+g)=la+g:=by have:=hw;rwa [IntWalk.i64_left] at this
     clear hla ho hL0 HLf
     obtain⟨y0,y1,y2,y3⟩:=bc4 Hy3.out
     obtain⟨q0,q1,q2,q3,q4⟩:=bc5 Hq3.out
     go_wp2_with fail
     refine HL.out.mono ?_
     rintro en w9 ⟨rfl,hk9⟩
     have HK4:=qtr HK3 hk9
     have Hy4:=qkb Hy3 hk9
     have Hq4:=qkb Hq3 hk9
     clear y0 y1 y2 y3 q0 q1 q2 q3 q4 hk9 HL
     cases o with
     | none=>
      have HF:Hid (mayMA t (ref,rv,P,S,g)=false):=qh (by rw[HML.out,HFi.out];rfl)
      simp only[Option.getD,Option.isSome]
      obtain⟨y0,y1,y2,y3⟩:=bc4 Hy4.out
      obtain⟨q0,q1,q2,q3,q4⟩:=bc5 Hq4.out
      go_wp2_with fail
      go_ret
      exact⟨by rw[HF.out];rfl,HK4.out⟩
     | some z=>
      obtain⟨z1,z2⟩:=z
      simp only[Option.getD,Option.isSome]
      by_cases e:la+g≤z1
      ·have u0:decide (la+g≤z1)=true:=by simpa using e
       have HF:Hid (mayMA t (ref,rv,P,S,g)=true):=qh (by rw[HML.out,HFi.out];exact u0)
       clear e
       obtain⟨y0,y1,y2,y3⟩:=bc4 Hy4.out
       obtain⟨q0,q1,q2,q3,q4⟩:=bc5 Hq4.out
       go_wp2_with fail
       (try rw[hw'])
       (try rw[u0])
       go_ret
       exact⟨by rw[HF.out];rfl,HK4.out⟩
      ·have u0:decide (la+g≤z1)=false:=by simpa using e
       have HF:Hid (mayMA t (ref,rv,P,S,g)=false):=qh (by rw[HML.out,HFi.out];exact u0)
       clear e
       obtain⟨y0,y1,y2,y3⟩:=bc4 Hy4.out
       obtain⟨q0,q1,q2,q3,q4⟩:=bc5 Hq4.out
       go_wp2_with fail
       (try rw[hw'])
       (try rw[u0])
       go_ret
       exact⟨by rw[HF.out];rfl,HK4.out⟩
theorem reach_stop {l:List Sc}{k:Nat}{s:Sc}{age:Int} (h:∀j x,j<k→l[j]?=some x→age<x.2) (hs:l[k]?=some s) (hage:s.2≤age):reachM l age=endS (l.take k):=by
 rw[reach_take,while_is (j:=k) (fun j x hj hx=>by simpa using h j x hj hx) (fun x hx=>by rw[hs] at hx;injection hx with hx;subst hx;simpa using hage) (by have:=(List.getElem?_eq_some_iff.1 hs).1;omega)]
theorem reach_end {l:List Sc}{age:Int} (h:∀j x,j<l.length→l[j]?=some x→age<x.2):reachM l age=endS l:=by
 rw[reach_take,while_is (j:=l.length) (fun j x hj hx=>by simpa using h j x hj hx) (fun x hx=>by simp at hx) (Nat.le_refl _),List.take_length]
set_option maxHeartbeats 8000000 in
set_option maxRecDepth 100000 in
theorem reach_any (B:Nat) (ref:Int) (rv:Bool) (S:List Sc) (g age:Int) (Ap:Option Addr) (np cp:Nat) (As:Option Addr) (ns cs:Nat) (w:World) (hS:ScAt w B As ns cs S) (hns:ns≤1000000) :
    Calls Tryz.prog 27 #[.agg #[.int .i64 ref,.bool rv,.slice Ap np cp,.slice As ns cs,.int .i64 g],.int .i64 age] w fun en w'=>en=.returned (.int .i64 (reachM S age))∧Keep Never w w':=by
  have HS:=qh hS
  have HSl:Hid (S.length=ns):=qh hS.len
  clear hS
  obtain⟨w1,hw1⟩:∃V:World,w.alloc (.cells #[.int .i64 ref,.bool rv,.slice Ap np cp,.slice As ns cs,.int .i64 g] 38)=V:=⟨_,rfl⟩
  have kw1:Keep Never w w1:=by rw[←hw1];exact(Keep.refl _ _).alloc _
  have bw1:=Blk.new w 38 #[.int .i64 ref,.bool rv,.slice Ap np cp,.slice As ns cs,.int .i64 g]
  rw[hw1] at bw1
  have HB1:=qh bw1
  have HK:=qh kw1
  clear kw1 bw1
  obtain⟨q0,q1,q2,q3,q4⟩:=bc5 HB1.out
  go_enter Tryz.func27, Tryz.ntmps27
  go_wp2_with fail
  clear q0 q1 q2 q3 q4 hw1
  go_loopw [5,11] (fun la si wr=>∃k:Nat,k≤ns∧si=.int .i64 k∧la=.int .i64 (endS (S.take k))∧Hid (Keep Never w wr∧∀j x,j<k→S[j]?=some x→age<x.2)) (fun _ si _=>ns - (intOf si).toNat)
  case atStart=>exact⟨0,by omega,rfl,rfl,qh ⟨HK.out,fun j x hj=>absurd hj (by omega)⟩⟩
  case round=>
   obtain⟨k,hk,rfl,rfl,HH⟩:=hrel
   by_cases h0:k<ns
   ·have hki:(k:Int)<(ns:Int):=by omega
    obtain⟨ad,s,hA,_,hs,c0,c1⟩:=(HS.out.keep HH.out.1).rd.sc h0
    have HSn:=qh (endS_take hs)
    have HSs:=qh hs
    obtain⟨s1,s2⟩:=s
    simp only at c0 c1 HSn
    subst hA
    clear hs
    obtain⟨la,hla⟩:∃z,endS (S.take k)=z:=⟨_,rfl⟩
    have HLa:=qh hla
    rw[hla]
    clear hla
    obtain⟨w8,hw8⟩:∃V:World,wr.alloc (.cells #[.int .i64 s1,.int .i64 s2] 58)=V:=⟨_,rfl⟩
    have k8:Keep Never wr w8:=by rw[←hw8];exact(Keep.refl _ _).alloc _
    have B8:=Blk.new wr 58 #[.int .i64 s1,.int .i64 s2]
    rw[hw8] at B8
    obtain⟨br,hbr⟩:∃q,wr.heap.size=q:=⟨_,rfl⟩
    rw[hbr] at B8
    have HB8:=qh B8
    have HK8:=qh (HH.out.1.trans k8)
    obtain⟨b0,b1⟩:=bc2 HB8.out
    clear B8 k8
    by_cases e:s2≤age
    ·have u0:decide (s2≤age)=true:=by simpa using e
     have HF:Hid (reachM S age=la):=qh (by rw[reach_stop HH.out.2 HSs.out e,HLa.out])
     clear e
     go_wp2_with fail
     go_ret
     exact⟨by rw[HF.out];rfl,HK8.out⟩
    ·have u0:decide (s2≤age)=false:=by simpa using e
     have HN:Hid (age<s2):=qh (by omega)
     clear e
     go_wp2_with fail
     refine⟨⟨k+1,by omega,by go_num,by rw[HSn.out],qh ⟨HK8.out,fun j x hj hx=>?_⟩⟩,?_⟩
     ·rcases Nat.lt_or_ge j k with h | h
      ·exact HH.out.2 j x h hx
      ·obtain rfl:j=k:=by omega
       rw[HSs.out] at hx
       injection hx with hx
       subst hx
       exact HN.out
     ·simp[intOf];try omega
   ·obtain rfl:k=ns:=by omega
    have hki:¬(k:Int)<(k:Int):=by omega
    have HF:Hid (reachM S age=endS (S.take k)):=qh (by rw[List.take_of_length_le (by rw[HSl.out];exact Nat.le_refl _)];exact reach_end (fun j x hj hx=>HH.out.2 j x (by rw[←HSl.out];exact hj) hx))
    go_wp2_with fail
    go_ret
    exact⟨by rw[HF.out];rfl,HH.out.1⟩
end Go.Proofs.YtpapiojicbbheaaGreatDoor

namespace Go.Proofs.YtpapiojicbbheaaGreatDoor
open Go.RowKit
theorem nums_in:∀{tr:List (Int×Int)}{x:Int},x∈nums tr→∃v,(v,x)∈tr∧v≠7
  | [],x,h=>by simp[nums] at h
  | (v,m)::tr,x,h=>by
   unfold nums at h
   by_cases h7:v=7
   ·rw[if_pos h7] at h
    obtain⟨a,h1,h2⟩:=nums_in h
    exact⟨a,List.mem_cons_of_mem _ h1,h2⟩
   ·rw[if_neg h7] at h
    rcases List.mem_cons.1 h with h | h
    ·exact⟨v,by rw[h];simp,h7⟩
    ·obtain⟨a,h1,h2⟩:=nums_in h
     exact⟨a,List.mem_cons_of_mem _ h1,h2⟩
theorem items_num {id:Int}{V:List Int} (h:badP (id,V)=false):(∃l,ItemsM id V=.ok l)∧∀x∈V,0≤x∧x<4294967296:=by
 unfold badP at h
 simp only at h
 cases hi:ItemsM id V with
 | error e=>rw[hi] at h;cases h
 | ok l=>
  refine⟨⟨l,rfl⟩,fun x hx=>?_⟩
  unfold ItemsM at hi
  cases hj:itemsM id V with
  | error e=>rw[hj] at hi;cases hi
  | ok out=>
   obtain⟨T,tr,_,_,_,hV,hm⟩:=itemsM_ok hj
   rw[←hV] at hx
   obtain⟨v,h1,h2⟩:=nums_in hx
   rcases hm _ h1 with h3 | h3
   ·exact absurd h3.1 h2
   ·have hr:_:=vMay_range (v:=v) h3.2
    have hp:(2:Nat) ^ (vWidth v).toNat≤2 ^ 32:=Nat.pow_le_pow_right (by omega) (by omega)
    have e32:(2:Nat) ^ 32=4294967296:=rfl
    exact⟨hr.2.2.1,by have:=hr.2.2.2;simp only at this;omega⟩
def MaRet (r:Ma×Int) (w:World) (e:Ending) (w':World):Prop:=∃y:MX,e=.returned (.tuple #[.agg (y.vs r.1),.int .i64 r.2])∧MaAt w' w'.heap.size y r.1∧Keep Never w w'
set_option maxRecDepth 100000 in
theorem ma_results2 {fn:Func}{r s:Nat} (h:fn.results=#[.cell r 38, .tmp s]) {w:World}{b:Nat}{v0 v1 v2 v3 v4:Value} (hb:Blk w b 38 #[v0,v1,v2,v3,v4]) (tmps:Array Value) (ht:tmps.getD r undef=.pointer (some ⟨b,0,none⟩)) :
    (results fn tmps).run Tryz.prog w=.ok (.tuple #[.agg #[v0,v1,v2,v3,v4],tmps.getD s undef]) w:=by
  have q0:w.cell? ⟨b,0,none⟩=some v0:=hb.cell 0
  have q1:w.cell? ⟨b,1,none⟩=some v1:=hb.cell 1
  have q2:w.cell? ⟨b,2,none⟩=some v2:=hb.cell 2
  have q3:w.cell? ⟨b,3,none⟩=some v3:=hb.cell 3
  have q4:w.cell? ⟨b,4,none⟩=some v4:=hb.cell 4
  have ht':tmps[r]?.getD undef=.pointer (some ⟨b,0,none⟩):=by rw[←Array.getD_eq_getD_getElem?];exact ht
  simp[results,h,ht',go_sem,q0,q1,q2,q3,q4]
abbrev put5 (w:World) (b:Nat) (v0 v1 v2 v3 v4:Value):World:=((((w.setCell ⟨b,0,none⟩ v0).setCell ⟨b,1,none⟩ v1).setCell ⟨b,2,none⟩ v2).setCell ⟨b,3,none⟩ v3).setCell ⟨b,4,none⟩ v4
theorem put5_blk {w:World}{b t:Nat}{u0 u1 u2 u3 u4:Value} (h:Blk w b t #[u0,u1,u2,u3,u4]) (v0 v1 v2 v3 v4:Value):Blk (put5 w b v0 v1 v2 v3 v4) b t #[v0,v1,v2,v3,v4]:=by
 have:=((((h.set_ 0 v0).set_ 1 v1).set_ 2 v2).set_ 3 v3).set_ 4 v4
 simpa using this
theorem put5_own {S:Nat→Prop}{w0 w:World}{b:Nat} (h:Keep S w0 w) (hb:S b∨w0.heap.size≤b) (v0 v1 v2 v3 v4:Value):Keep S w0 (put5 w b v0 v1 v2 v3 v4):=
  ((((h.set_ (p:=⟨b,0,none⟩) hb v0).set_ (p:=⟨b,1,none⟩) hb v1).set_ (p:=⟨b,2,none⟩) hb v2).set_ (p:=⟨b,3,none⟩) hb v3).set_ (p:=⟨b,4,none⟩) hb v4
theorem ma_nil {w:World}:MaAt w w.heap.size ⟨none,0,0,none,0,0⟩ noMa:=⟨Rep.Sl.nil _ _ _,ScAt.nil_ _ _⟩
theorem head_id {l:List Pk}{p:Pk} (h:l[0]?=some p):headId l=p.1∧headV l=p.2:=by
 cases l with
 | nil=>cases h
 | cons x l=>simp at h;subst h;exact⟨rfl,rfl⟩
theorem read_chk {t:Tp}{ref:Int}{rv:Bool}{l:List Pk} (h:checkM t≠0):readM badP t ref rv l=(noMa,1):=by unfold readM;rw[if_pos h]
def readT (t:Tp) (ref:Int) (rv:Bool) (r:Except Int (List Sc×Int)) (y:Except Int (List Stp)):Ma×Int:=match r with
  | .error e=>(noMa,e)
  | .ok z=>match y with
    | .error e=>(noMa,e)
    | .ok P=>if mayMA t (ref,rv,P,z.1,z.2)=true then ((ref,rv,P,z.1,z.2),0) else (noMa,7)
theorem read_bal {t:Tp}{ref:Int}{rv:Bool}{l:List Pk} (h:checkM t=0):readM badP t ref rv l=match balM t.2.2.1 ref with
  | none=>(noMa,4)
  | some b=>if headId l≠15∨l.any badP=true then (noMa,50) else readT t ref rv (secsM rv (headV l)) (wayR t (b.2.1,rv) l):=by
  unfold readM
  rw[if_neg (by simpa using h)]
  cases balM t.2.2.1 ref <;> rfl
theorem way_none {t:Tp}{s:Stp}{l:List Pk} (h:∀x∈l,(x.1==5)=false):wayR t s l=.ok [s]:=by
 unfold wayR
 rw[List.find?_eq_none.2 (fun x hx=>by simpa using h x hx)]
theorem way_some {t:Tp}{s:Stp}{l:List Pk}{i:Nat}{p:Pk} (h:l[i]?=some p) (h5:(p.1==5)=true) (hb:∀x∈l.take i,(x.1==5)=false):wayR t s l=linkedR t [s] p.2:=by
 unfold wayR
 have:l.find? (fun p=>p.1==5)=some p:=by
  obtain⟨h1,h2⟩:=List.getElem?_eq_some_iff.1 h
  rw[←List.take_append_drop i l,List.find?_append,List.find?_eq_none.2 (fun x hx=>by simpa using hb x hx),List.drop_eq_getElem_cons h1,h2]
  simp[h5]
 rw[this]
theorem readT_bad {t:Tp}{ref:Int}{rv:Bool}{e:Int}{y:Except Int (List Stp)}:readT t ref rv (.error e) y=(noMa,e):=rfl
theorem readT_way {t:Tp}{ref:Int}{rv:Bool}{z:List Sc×Int}{e:Int}:readT t ref rv (.ok z) (.error e)=(noMa,e):=rfl
theorem readT_ok {t:Tp}{ref:Int}{rv:Bool}{z:List Sc×Int}{P:List Stp}:readT t ref rv (.ok z) (.ok P)=if mayMA t (ref,rv,P,z.1,z.2)=true then ((ref,rv,P,z.1,z.2),0) else (noMa,7):=rfl
theorem sectsR_len {u:Int}:∀{k:Nat}{a:Int}{v:List Int}{z:List Sc×List Int},sectsR u k a v=.ok z→z.1.length=k
  | 0,a,v,z,h=>by unfold sectsR at h;cases h;rfl
  | k+1,a,v,z,h=>by
   unfold sectsR at h
   by_cases h0:(sectR u a v 0).e≠0
   ·rw[if_pos h0] at h;cases h
   ·rw[if_neg h0] at h
    cases hs:sectsR u k (sectR u a v 0).s.1 (sectR u a v 0).v with
    | error e=>rw[hs] at h;cases h
    | ok q=>
     rw[hs] at h
     have h1:=sectsR_len hs
     obtain⟨l,x⟩:=q
     simp only at h h1
     cases h
     simp[h1]
theorem secs_len {rv:Bool}{v:List Int}{z:List Sc×Int} (h:secsM rv v=.ok z):z.1.length≤8:=by
 unfold secsM at h
 split at h
 ·cases h
 ·unfold secs2 at h
  split at h
  ·cases h
  ·rename_i h8
   unfold secs4 at h
   split at h
   ·cases h
   ·rename_i q hq
    have h1:=sectsR_len hq
    unfold secs3 at h
    split at h
    ·cases h
    ·cases h;simp only;omega
theorem LinkRet.drewL {r:Except Int (List Stp)}{bm base:Nat}{Ap:Option Addr}{v0 v1 v3 v4:Value}{w w':World}{e:Ending} (h:LinkRet r bm base Ap v0 v1 v3 v4 w.drew e w'):LinkRet r bm base Ap v0 v1 v3 v4 w e w':=⟨h.1.drewL,h.2⟩
theorem LinkRet.int {r:Except Int (List Stp)}{bm base:Nat}{Ap:Option Addr}{v0 v1 v3 v4:Value}{w w':World}{e:Ending} (h:LinkRet r bm base Ap v0 v1 v3 v4 w e w'):∃z:Int,e=.returned (.int .i64 z):=by
 cases r with
 | ok P=>exact⟨0,h.2.1⟩
 | error x=>exact⟨x,h.2.2.1⟩
theorem any_not {l:List Pk} (h:l.any badP=false) {i:Nat}{p:Pk} (hi:l[i]?=some p):badP p=false:=by
 cases hb:badP p with
 | false=>rfl
 | true=>rw[List.any_eq_true.2 ⟨p,List.mem_of_getElem? hi,hb⟩] at h;cases h
set_option maxHeartbeats 8000000 in
set_option maxRecDepth 100000 in
theorem plread_any (x:TA) (t:Tp) (B:Nat) (ref:Int) (rv:Bool) (A:Option Addr) (n c:Nat) (l:List Pk) (w:World) (h:TpAt w B x t) (hs:TpSmall x t) (hB:B≤w.heap.size) (hl:PksAt w B A n c l) (hn:n≤1000000) (hW:Widths w) (hg : 0 < B) :
    Calls Tryz.prog 18 #[.agg x.cs,.int .i64 ref,.bool rv,.slice A n c] w (MaRet (readM badP t ref rv l) w):=by
  have HCh:=qh (fun (W:World) (hk:Keep Never w W)=>check_any x t B W (h.keep hk) hs (Nat.le_trans hB hk.size))
  have HBa:=qh (fun (W:World) (hk:Keep Never w W)=>bal_any x t B ref W (h.keep hk) hs.b)
  have HCf:=qh (fun (W:World) (hk:Keep Never w W)=>containsfp_any 64 #[] badP (enters_of Tryz.func64 (by kernel_rfl) rfl) A n c B l W (hl.keep hk) (fun V p A2 n2 c2 hV q1 q2 q3 q4 q5=>rd1_any B p.1 p.2 A2 n2 c2 V q1 (by have:=q1.1;simpa using this) q2 q3 q4 q5 (hW.keep (hk.trans hV) (fun h=>h)) hg (Nat.le_trans hB (hk.trans hV).size)) (by omega))
  have HIf:=qh (fun (W:World) (hk:Keep Never w W)=>indexfp_any 69 #[] (fun p=>p.1==5) (enters_of Tryz.func69 (by kernel_rfl) rfl) A n c B l W (hl.keep hk) (fun V p A2 n2 c2 hV q1 q2 q3 q4 q5=>rd2_any p.1 A2 n2 c2 V) (by omega))
  have HLk:=qh (fun (W:World) (hk:Keep Never w W) (bm base:Nat) (v0 v1 v3 v4:Value) (path:List Stp) (Ap:Option Addr) (np cp:Nat) (A:Option Addr) (n c:Nat) (V:List Int) (hck:checkM t=0) (hr:Rd W B 1 A n (V.map (.int .i64))) (hc:n≤c) (hBm:B≤bm) (hbB:B≤base) (hbw:base≤W.heap.size) (hV:∀x∈V,0≤x∧x<4294967296) (hm:Blk W bm 38 #[v0,v1,.slice Ap np cp,v3,v4]) (hnp:np=path.length) (ho:Own W base 30 2 Ap np cp (stpCells path)) (hp0:path≠[]) (hp24:path.length≤24) (hin:∀s∈path,in64 s)=>linked_any B bm base v0 v1 v3 v4 x t path Ap np cp A n c V W (h.keep hk) hs hck hr hc (Nat.le_trans hB hk.size) hBm hbB hbw hV hm hnp ho hp0 hp24 hin)
  have HMy:=qh (fun (W:World) (hk:Keep Never w W) (rv:Bool) (P:List Stp) (S:List Sc) (g:Int) (Ap:Option Addr) (np cp:Nat) (As:Option Addr) (ns cs:Nat) (hp:repStp.Sl W W.heap.size Ap np cp P) (hS:ScAt W W.heap.size As ns cs S) (hnp:np≤1000000) (hns:ns≤1000000)=>may17_any x t W.heap.size ref rv P S g Ap np cp As ns cs W ((h.keep hk).wide (Nat.le_trans hB hk.size)) hs (Nat.le_refl _) hp hS hnp hns)
  have HPk:=qh hl
  have HBw:=qh hB
  have HNe:Hid (t.1.length≤100000000):=qh (by rw[←h.e.len];exact hs.e)
  obtain⟨Ae,ne,ce,Aj,nj,cj,Ab,nb,cb,Ar,nr,cr⟩:=x
  simp only[TA.cs] at HCh HBa HLk HMy ⊢
  clear h hs hl hW hg
  obtain⟨w1,hw1⟩:∃V:World,w.alloc (.cells #[.slice Ae ne ce,.slice Aj nj cj,.slice Ab nb cb,.slice Ar nr cr] 27)=V:=⟨_,rfl⟩
  have zw1:w1.heap.size=w.heap.size+1:=by rw[←hw1];simp
  have kw1:Keep Never w w1:=by rw[←hw1];exact(Keep.refl _ _).alloc _
  have bw1:=Blk.new w 27 #[.slice Ae ne ce,.slice Aj nj cj,.slice Ab nb cb,.slice Ar nr cr]
  rw[hw1] at bw1
  obtain⟨w2,hw2⟩:∃V:World,w1.alloc (.cells #[.int .i64 0,.bool false,.slice none 0 0,.slice none 0 0,.int .i64 0] 38)=V:=⟨_,rfl⟩
  have kw2:Keep Never w1 w2:=by rw[←hw2];exact(Keep.refl _ _).alloc _
  have bw2:=Blk.new w1 38 #[.int .i64 0,.bool false,.slice none 0 0,.slice none 0 0,.int .i64 0]
  rw[hw2,zw1] at bw2
  have HB1:=qh (bw1.keep kw2 (fun h=>h))
  have HB2:=qh bw2
  have HK:=qh (kw1.trans kw2)
  clear kw1 kw2 bw1 bw2
  obtain⟨ck,hck⟩:∃z,checkM t=z:=⟨_,rfl⟩
  have HC:=qh (HCh.out w2 HK.out)
  rw[hck] at HC
  have HCk:=qh hck
  clear hck HCh
  obtain⟨y0,y1,y2,y3⟩:=bc4 HB1.out
  go_enter Tryz.func18, Tryz.ntmps18
  go_wp2_with fail
  refine HC.out.mono ?_
  rintro en w3 ⟨rfl,hk⟩
  have HK3:=qtr HK hk
  have HT3:=qkb HB1 hk
  have HR3:=qkb HB2 hk
  clear hk HC HB1 HB2 y0 y1 y2 y3 hw1 hw2 zw1
  by_cases g0:ck=0
  case neg=>
   have t0:(ck != 0)=true:=by simpa using g0
   have HF:Hid (readM badP t ref rv l=(noMa,1)):=qh (read_chk (by rw[HCk.out];exact g0))
   clear g0
   obtain⟨r0,r1,r2,r3,r4⟩:=bc5 HR3.out
   have rf0:=HR3.out.frozen 0
   have rf1:=HR3.out.frozen 1
   have rf2:=HR3.out.frozen 2
   have rf3:=HR3.out.frozen 3
   have rf4:=HR3.out.frozen 4
   go_wp2_with fail
   (try simp only[Exit.inBlock,Exit.then])
   refine bodyPost_ret (ma_results2 (fn:=Tryz.f18) (r:=8) (s:=9) rfl (put5_blk HR3.out (.int .i64 0) (.bool false) (.slice none 0 0) (.slice none 0 0) (.int .i64 0)) _ rfl) rfl ?_
   rw[HF.out]
   exact⟨⟨none,0,0,none,0,0⟩,rfl,ma_nil,put5_own HK3.out (.inr (by omega)) _ _ _ _ _⟩
  have t0:(ck != 0)=false:=by simpa using g0
  have HC0:Hid (checkM t=0):=qh (HCk.out.trans g0)
  have HD0:=qh (read_bal (ref:=ref) (rv:=rv) (l:=l) HC0.out)
  have hw:=HBa.out w3 HK3.out
  unfold BalRet at hw
  obtain⟨ob,hob⟩:∃z,balM t.2.2.1 ref=z:=⟨_,rfl⟩
  rw[hob] at hw HD0
  have HC:=qh hw
  have HOb:=qh hob
  clear g0 HCk hw hob HBa
  obtain⟨y0,y1,y2,y3⟩:=bc4 HT3.out
  go_wp2_with fail
  refine HC.out.mono ?_
  rintro en w4 ⟨rfl,hk⟩
  have HK4:=qtr HK3 hk
  have HT4:=qkb HT3 hk
  have HR4:=qkb HR3 hk
  clear hk HC HT3 HR3 y0 y1 y2 y3 t0
  cases ob with
  | none=>
   have HF:Hid (readM badP t ref rv l=(noMa,4)):=qh HD0.out
   simp only[Option.getD,Option.isSome]
   have HKz:=qh (HK4.out.alloc (.cells #[.int .i64 0,.int .i64 0,.int .i64 0] 94))
   have HRz:=qh (HR4.out.alloc (.cells #[.int .i64 0,.int .i64 0,.int .i64 0] 94))
   obtain⟨r0,r1,r2,r3,r4⟩:=bc5 HRz.out
   have rf0:=HRz.out.frozen 0
   have rf1:=HRz.out.frozen 1
   have rf2:=HRz.out.frozen 2
   have rf3:=HRz.out.frozen 3
   have rf4:=HRz.out.frozen 4
   go_wp2_with fail
   (try simp only[Exit.inBlock,Exit.then])
   refine bodyPost_ret (ma_results2 (fn:=Tryz.f18) (r:=8) (s:=9) rfl (put5_blk HRz.out (.int .i64 0) (.bool false) (.slice none 0 0) (.slice none 0 0) (.int .i64 0)) _ rfl) rfl ?_
   rw[HF.out]
   exact⟨⟨none,0,0,none,0,0⟩,rfl,ma_nil,put5_own HKz.out (.inr (by omega)) _ _ _ _ _⟩
  | some b=>
   obtain⟨b1,b2,b3⟩:=b
   simp only[Option.getD,Option.isSome] at HD0 ⊢
   obtain⟨w5,hw5⟩:∃V:World,w4.alloc (.cells #[.int .i64 b1,.int .i64 b2,.int .i64 b3] 94)=V:=⟨_,rfl⟩
   have hk:Keep Never w4 w5:=by rw[←hw5];exact(Keep.refl _ _).alloc _
   have B5:=Blk.new w4 94 #[.int .i64 b1,.int .i64 b2,.int .i64 b3]
   rw[hw5] at B5
   obtain⟨bb,hbb⟩:∃q,w4.heap.size=q:=⟨_,rfl⟩
   rw[hbb] at B5
   have HK5:=qtr HK4 hk
   have HT5:=qkb HT4 hk
   have HR5:=qkb HR4 hk
   have HD5:=qh B5
   have d1:w5.cell? ⟨bb,1,none⟩=some (.int .i64 b2):=HD5.out.cell 1
   clear hk B5 HT4 HR4
   by_cases g1:0<n
   case neg=>
    obtain rfl:n=0:=by omega
    have HF:Hid (readM badP t ref rv l=(noMa,50)):=qh (by
     have:l=[]:=List.length_eq_zero_iff.1 HPk.out.len
     rw[HD0.out,this,if_pos (.inl (by decide))])
    obtain⟨r0,r1,r2,r3,r4⟩:=bc5 HR5.out
    have rf0:=HR5.out.frozen 0
    have rf1:=HR5.out.frozen 1
    have rf2:=HR5.out.frozen 2
    have rf3:=HR5.out.frozen 3
    have rf4:=HR5.out.frozen 4
    go_wp2_with fail
    (try simp only[Exit.inBlock,Exit.then])
    refine bodyPost_ret (ma_results2 (fn:=Tryz.f18) (r:=8) (s:=9) rfl (put5_blk HR5.out (.int .i64 0) (.bool false) (.slice none 0 0) (.slice none 0 0) (.int .i64 0)) _ rfl) rfl ?_
    rw[HF.out]
    exact⟨⟨none,0,0,none,0,0⟩,rfl,ma_nil,put5_own HK5.out (.inr (by omega)) _ _ _ _ _⟩
   have t1:((n:Int)==0)=false:=by simp;omega
   obtain⟨p0,hp0⟩:∃p0,l[0]?=some p0:=⟨_,List.getElem?_eq_getElem (by have:=HPk.out.len;omega)⟩
   obtain⟨ad,A1,n1,c1,hA,hab,_,e0,e1,q1,q2,q3,q4,q5⟩:=(HPk.out.keep HK5.out).one 0 p0 hp0
   subst hA
   have ea:ad.add (0*2)=ad:=by rw[Nat.zero_mul];unfold Addr.add;split <;> simp_all
   rw[ea] at e0 e1
   have HHd:=qh (head_id hp0)
   have HP0:=qh hp0
   have HQ:=qh (⟨q1,q2,q4⟩:Rd w5 B 1 A1 n1 (p0.2.map (.int .i64))∧n1≤c1∧∀x∈p0.2,i64_ x)
   obtain⟨id0,V0⟩:=p0
   simp only at e0 e1 HHd HQ
   rw[HHd.out.1,HHd.out.2] at HD0
   have HAb:=qh hab
   clear hp0 ea q1 q2 q3 q4 q5 hab
   by_cases g2:id0=15
   case neg=>
    have t2:(id0 != 15)=true:=by simpa using g2
    have HF:Hid (readM badP t ref rv l=(noMa,50)):=qh (by rw[HD0.out,if_pos (.inl g2)])
    clear g2
    obtain⟨r0,r1,r2,r3,r4⟩:=bc5 HR5.out
    have rf0:=HR5.out.frozen 0
    have rf1:=HR5.out.frozen 1
    have rf2:=HR5.out.frozen 2
    have rf3:=HR5.out.frozen 3
    have rf4:=HR5.out.frozen 4
    go_wp2_with fail
    (try simp only[Exit.inBlock,Exit.then])
    refine bodyPost_ret (ma_results2 (fn:=Tryz.f18) (r:=8) (s:=9) rfl (put5_blk HR5.out (.int .i64 0) (.bool false) (.slice none 0 0) (.slice none 0 0) (.int .i64 0)) _ rfl) rfl ?_
    rw[HF.out]
    exact⟨⟨none,0,0,none,0,0⟩,rfl,ma_nil,put5_own HK5.out (.inr (by omega)) _ _ _ _ _⟩
   subst g2
   have hw:=HCf.out w5 HK5.out
   obtain⟨ab,hab⟩:∃z,l.any badP=z:=⟨_,rfl⟩
   rw[hab] at hw HD0
   have HAny:=qh hab
   have HC:=qh hw
   clear hw hab HCf
   go_wp2_with fail
   refine HC.out.mono ?_
   rintro en w6 ⟨rfl,hk⟩
   have HK6:=qtr HK5 hk
   have HT6:=qkb HT5 hk
   have HR6:=qkb HR5 hk
   have HD6:=qkb HD5 hk
   have HE1:=qh (keepT hk e1)
   have HQ6:=qh (HQ.out.1.keep hk (fun _ h=>h.elim))
   clear hk HC HT5 HR5 HD5 e0 e1 d1 t1
   cases ab with
   | true=>
    have HF:Hid (readM badP t ref rv l=(noMa,50)):=qh (by rw[HD0.out,if_pos (.inr rfl)])
    obtain⟨r0,r1,r2,r3,r4⟩:=bc5 HR6.out
    have rf0:=HR6.out.frozen 0
    have rf1:=HR6.out.frozen 1
    have rf2:=HR6.out.frozen 2
    have rf3:=HR6.out.frozen 3
    have rf4:=HR6.out.frozen 4
    go_wp2_with fail
    (try simp only[Exit.inBlock,Exit.then])
    refine bodyPost_ret (ma_results2 (fn:=Tryz.f18) (r:=8) (s:=9) rfl (put5_blk HR6.out (.int .i64 0) (.bool false) (.slice none 0 0) (.slice none 0 0) (.int .i64 0)) _ rfl) rfl ?_
    rw[HF.out]
    exact⟨⟨none,0,0,none,0,0⟩,rfl,ma_nil,put5_own HK6.out (.inr (by omega)) _ _ _ _ _⟩
   | false=>
   have HD7:Hid (readM badP t ref rv l=readT t ref rv (secsM rv V0) (wayR t (b2,rv) l)):=qh (by rw[HD0.out,if_neg (by simp)])
   have d1:w6.cell? ⟨bb,1,none⟩=some (.int .i64 b2):=HD6.out.cell 1
   clear HD0
   go_upto_region 10 with(fail)
   obtain⟨w7,hw7⟩:∃V:World,(w6.alloc (.cells #[.int .i64 b2,.bool rv] 30)).alloc (.cells #[.int .i64 ref,.bool rv,.slice (some ⟨w6.heap.size,0,none⟩) 1 1,.slice none 0 0,.int .i64 0] 38)=V:=⟨_,rfl⟩
   rw[hw7]
   have hk:Keep Never w6 w7:=by rw[←hw7];exact((Keep.refl _ _).alloc _).alloc _
   have R7:=(Blk.new w6 30 #[.int .i64 b2,.bool rv]).alloc (.cells #[.int .i64 ref,.bool rv,.slice (some ⟨w6.heap.size,0,none⟩) 1 1,.slice none 0 0,.int .i64 0] 38)
   have M7:=Blk.new (w6.alloc (.cells #[.int .i64 b2,.bool rv] 30)) 38 #[.int .i64 ref,.bool rv,.slice (some ⟨w6.heap.size,0,none⟩) 1 1,.slice none 0 0,.int .i64 0]
   rw[hw7] at R7 M7
   have ez:(w6.alloc (.cells #[.int .i64 b2,.bool rv] 30)).heap.size=w6.heap.size+1:=by simp
   rw[ez] at M7
   have hz7:w7.heap.size=w6.heap.size+2:=by rw[←hw7];simp
   obtain⟨br,hbr⟩:∃q,w6.heap.size=q:=⟨_,rfl⟩
   have hbrw:w.heap.size+1<br:=by rw[←hbr];exact HR6.out.lt
   rw[hbr] at R7 M7 hz7 ⊢
   obtain⟨bm,hbm⟩:∃q,br+1=q:=⟨_,rfl⟩
   rw[hbm] at M7 ⊢
   have HBm:Hid (w.heap.size+1<br∧br<bm∧bm<w7.heap.size):=qh (by omega)
   have HK7:=qtr HK6 hk
   have HT7:=qkb HT6 hk
   have HR7:=qkb HR6 hk
   have HM7:=qh M7
   have HO7:Hid (Own w7 w.heap.size 30 2 (some ⟨br,0,none⟩) 1 1 (stpCells [((b2,rv):Stp)])):=qh (Own.of_blk2 (xs:=[.int .i64 b2,.bool rv]) R7 rfl (by unfold maxLen;omega) (by omega))
   have HE7:=keepT hk HE1.out
   have HB2:Hid (in64 ((b2,rv):Stp)):=qh (in64_there (check_bal HC0.out (bal_mem HOb.out).1).2.2.1 HNe.out)
   have hw:=secs_any B bm ref rv (.slice (some ⟨br,0,none⟩) 1 1) A1 n1 c1 V0 w7 (HQ6.out.keep hk (fun _ h=>h.elim)) HQ.out.2.1 (Nat.le_trans HBw.out HK7.out.size) (by have:=HBm.out;have:=HBw.out;omega) HQ.out.2.2 M7
   obtain⟨sr,hsr⟩:∃z,secsM rv V0=z:=⟨_,rfl⟩
   rw[hsr] at hw HD7
   have HSl:=qh hsr
   have HC:=qh hw
   clear hk R7 M7 hz7 hbr hbrw hbm hw7 hw hsr HT6 HR6 HD6 HE1 HQ6 d1 ez
   go_wp2_with fail
   refine HC.out.mono ?_
   rintro en w8 ⟨hk,hm⟩
   have HK8:=qh (HK7.out.then_ hk (fun i hi (h:i=bm)=>by have:=HBm.out;omega))
   have HT8:=qh (HT7.out.keep hk (fun (h:w.heap.size=bm)=>by have:=HBm.out;omega))
   have HR8:=qh (HR7.out.keep hk (fun (h:w.heap.size+1=bm)=>by have:=HBm.out;omega))
   have HO8:=qh (HO7.out.keep hk (fun q hq (h:q=bm)=>by obtain⟨_,he,rfl⟩:=hq;cases he;have:=HBm.out;simp only at h;omega))
   have HB8:Hid (bm<w8.heap.size):=qh (Nat.lt_of_lt_of_le HBm.out.2.2 hk.size)
   have HI8:=qh (HIf.out w8 HK8.out)
   clear hk HC HT7 HR7 HO7 HE7 HIf
   cases sr with
   | error x=>
    obtain⟨hx0,rfl,_⟩:=hm
    have te:(x==0)=false:=by simpa using hx0
    have te2:(x != 0)=true:=by simpa using hx0
    have HF:Hid (readM badP t ref rv l=(noMa,x)):=qh (by rw[HD7.out,readT_bad])
    clear hx0
    go_wp2_with fail
    refine HI8.out.mono ?_
    rintro en w9 ⟨hc,hk⟩
    have HK9:=qtr HK8 hk
    have HR9:=qkb HR8 hk
    clear hk
    rcases hc with⟨i,s,rfl,_⟩ | ⟨rfl,_⟩
    ·have r0:w9.cell? ⟨w.heap.size+1,0,none⟩=some (.int .i64 0):=HR9.out.cell 0
     have r1:w9.cell? ⟨w.heap.size+1,1,none⟩=some (.bool false):=HR9.out.cell 1
     have r2:w9.cell? ⟨w.heap.size+1,2,none⟩=some (.slice none 0 0):=HR9.out.cell 2
     have r3:w9.cell? ⟨w.heap.size+1,3,none⟩=some (.slice none 0 0):=HR9.out.cell 3
     have r4:w9.cell? ⟨w.heap.size+1,4,none⟩=some (.int .i64 0):=HR9.out.cell 4
     have rf0:=HR9.out.frozen 0
     have rf1:=HR9.out.frozen 1
     have rf2:=HR9.out.frozen 2
     have rf3:=HR9.out.frozen 3
     have rf4:=HR9.out.frozen 4
     go_wp2_with fail
     (try simp only[Exit.inBlock,Exit.then])
     refine bodyPost_ret (ma_results2 (fn:=Tryz.f18) (r:=8) (s:=9) rfl (put5_blk HR9.out (.int .i64 0) (.bool false) (.slice none 0 0) (.slice none 0 0) (.int .i64 0)) _ rfl) rfl ?_
     rw[HF.out]
     exact⟨⟨none,0,0,none,0,0⟩,rfl,ma_nil,put5_own HK9.out (.inr (by omega)) _ _ _ _ _⟩
    ·have r0:w9.cell? ⟨w.heap.size+1,0,none⟩=some (.int .i64 0):=HR9.out.cell 0
     have r1:w9.cell? ⟨w.heap.size+1,1,none⟩=some (.bool false):=HR9.out.cell 1
     have r2:w9.cell? ⟨w.heap.size+1,2,none⟩=some (.slice none 0 0):=HR9.out.cell 2
     have r3:w9.cell? ⟨w.heap.size+1,3,none⟩=some (.slice none 0 0):=HR9.out.cell 3
     have r4:w9.cell? ⟨w.heap.size+1,4,none⟩=some (.int .i64 0):=HR9.out.cell 4
     have rf0:=HR9.out.frozen 0
     have rf1:=HR9.out.frozen 1
     have rf2:=HR9.out.frozen 2
     have rf3:=HR9.out.frozen 3
     have rf4:=HR9.out.frozen 4
     go_wp2_with fail
     (try simp only[Exit.inBlock,Exit.then])
     refine bodyPost_ret (ma_results2 (fn:=Tryz.f18) (r:=8) (s:=9) rfl (put5_blk HR9.out (.int .i64 0) (.bool false) (.slice none 0 0) (.slice none 0 0) (.int .i64 0)) _ rfl) rfl ?_
     rw[HF.out]
     exact⟨⟨none,0,0,none,0,0⟩,rfl,ma_nil,put5_own HK9.out (.inr (by omega)) _ _ _ _ _⟩
   | ok z=>
   obtain⟨zs,zg⟩:=z
   obtain⟨rfl,As,ns,cs,hm8,hns,hos⟩:=hm
   have HNs:Hid (ns≤8):=qh (by rw[hns];exact secs_len HSl.out)
   have HM8:=qh hm8
   have HS8:=qh hos
   clear hm8 hns hos
   go_wp2_with fail
   refine HI8.out.mono ?_
   rintro en w9 ⟨hc,hk⟩
   have HK9:=qtr HK8 hk
   have HT9:=qkb HT8 hk
   have HR9:=qkb HR8 hk
   have HM9:=qkb HM8 hk
   have HO9:=qko HO8 hk
   have HS9:=qko HS8 hk
   clear hk HT8 HR8 HM8 HO8 HS8 HI8
   rcases hc with⟨i,s,rfl,hi,h5,hbf⟩ | ⟨rfl,hall⟩
   case inr=>
    have HF:Hid (readM badP t ref rv l=if mayMA t (ref,rv,[((b2,rv):Stp)],zs,zg)=true then ((ref,rv,[((b2,rv):Stp)],zs,zg),0) else (noMa,7)):=qh (by rw[HD7.out,way_none hall,readT_ok])
    clear hall
    obtain⟨y0,y1,y2,y3⟩:=bc4 HT9.out
    obtain⟨m0,m1,m2,m3,m4⟩:=bc5 HM9.out
    have hw:=HMy.out w9 HK9.out rv ([((b2,rv):Stp)]) zs zg (some ⟨br,0,none⟩) 1 1 As ns cs (stps_own HO9.out ((fun s hs=>by rw[List.mem_singleton.1 hs];exact HB2.out))) (scAt_own HS9.out) (by omega) (by have:=HNs.out;omega)
    obtain⟨my,hmy⟩:∃z,mayMA t (ref,rv,[((b2,rv):Stp)],zs,zg)=z:=⟨_,rfl⟩
    rw[hmy] at hw HF
    have HC:=qh hw
    clear hw hmy
    go_wp2_with fail
    refine HC.out.mono ?_
    rintro en w12 ⟨rfl,hk⟩
    have HK12:=qtr HK9 hk
    have HR12:=qkb HR9 hk
    have HM12:=qkb HM9 hk
    have HO12:=qko HO9 hk
    have HS12:=qko HS9 hk
    clear hk HC y0 y1 y2 y3 m0 m1 m2 m3 m4
    cases my with
    | false=>
     have HG:Hid (readM badP t ref rv l=(noMa,7)):=qh (by rw[HF.out,if_neg (by decide)])
     obtain⟨r0,r1,r2,r3,r4⟩:=bc5 HR12.out
     have rf0:=HR12.out.frozen 0
     have rf1:=HR12.out.frozen 1
     have rf2:=HR12.out.frozen 2
     have rf3:=HR12.out.frozen 3
     have rf4:=HR12.out.frozen 4
     go_wp2_with fail
     (try simp only[Exit.inBlock,Exit.then])
     refine bodyPost_ret (ma_results2 (fn:=Tryz.f18) (r:=8) (s:=9) rfl (put5_blk HR12.out (.int .i64 0) (.bool false) (.slice none 0 0) (.slice none 0 0) (.int .i64 0)) _ rfl) rfl ?_
     rw[HG.out]
     exact⟨⟨none,0,0,none,0,0⟩,rfl,ma_nil,put5_own HK12.out (.inr (by omega)) _ _ _ _ _⟩
    | true=>
     have HG:Hid (readM badP t ref rv l=((ref,rv,[((b2,rv):Stp)],zs,zg),0)):=qh (by rw[HF.out,if_pos rfl])
     obtain⟨m0,m1,m2,m3,m4⟩:=bc5 HM12.out
     obtain⟨r0,r1,r2,r3,r4⟩:=bc5 HR12.out
     have rf0:=HR12.out.frozen 0
     have rf1:=HR12.out.frozen 1
     have rf2:=HR12.out.frozen 2
     have rf3:=HR12.out.frozen 3
     have rf4:=HR12.out.frozen 4
     go_wp2_with fail
     (try simp only[Exit.inBlock,Exit.then])
     refine bodyPost_ret (ma_results2 (fn:=Tryz.f18) (r:=8) (s:=9) rfl (put5_blk HR12.out (.int .i64 ref) (.bool rv) (.slice (some ⟨br,0,none⟩) 1 1) (.slice As ns cs) (.int .i64 zg)) _ rfl) rfl ?_
     have hk5:=put5_own (Keep.refl (fun q=>q=w.heap.size+1) w12) (b:=w.heap.size+1) (.inl rfl) (.int .i64 ref) (.bool rv) (.slice (some ⟨br,0,none⟩) 1 1) (.slice As ns cs) (.int .i64 zg)
     rw[HG.out]
     exact⟨⟨(some ⟨br,0,none⟩),1,1,As,ns,cs⟩,rfl,⟨stps_own (HO12.out.keep hk5 (HO12.out.ne_blk HR12.out (by decide))) ((fun s hs=>by rw[List.mem_singleton.1 hs];exact HB2.out)),scAt_own (HS12.out.keep hk5 (HS12.out.ne_blk HR12.out (by decide)))⟩,put5_own HK12.out (.inr (by omega)) _ _ _ _ _⟩
   case inl=>
   have HD8:Hid (readM badP t ref rv l=readT t ref rv (.ok (zs,zg)) (linkedR t [((b2,rv):Stp)] s.2)):=qh (by rw[HD7.out,way_some hi h5 hbf])
   have hki:(i:Int)<(n:Int):=by obtain⟨h1,_⟩:=List.getElem?_eq_some_iff.1 hi;have:=HPk.out.len;omega
   obtain⟨ad2,A2,n2,c2,hA2,hab2,_,e0,e1,q1,q2,q3,q4,q5⟩:=(HPk.out.keep HK9.out).one i s hi
   cases hA2
   have HNum:=qh (items_num (any_not HAny.out hi)).2
   obtain⟨y0,y1,y2,y3⟩:=bc4 HT9.out
   have HC:=qh (fun (W:World) (hk:Keep Never w9 W)=>HLk.out W (HK9.out.trans hk) bm w.heap.size (.int .i64 ref) (.bool rv) (.slice As ns cs) (.int .i64 zg) [((b2,rv):Stp)] (some ⟨br,0,none⟩) 1 1 A2 n2 c2 s.2 HC0.out (q1.keep hk (fun _ h=>h.elim)) q2 (by have:=HBm.out;have:=HBw.out;omega) HBw.out (Nat.le_trans HK9.out.size hk.size) HNum.out (HM9.out.keep hk (fun h=>h)) rfl (HO9.out.keep hk (fun _ _ h=>h)) (by simp) (by simp) (fun s hs=>by rw[List.mem_singleton.1 hs];exact HB2.out))
   obtain⟨s1,s2⟩:=s
   simp only at e0 e1 HC HD8
   clear hi h5 hbf q1 q2 q3 q4 q5 e0 hab2 HLk HNum
   go_wp2_with fail
   go_cut [14] (fun s14 wc=>∃z:Int,s14=.int .i64 z∧Hid (LinkRet (linkedR t [((b2,rv):Stp)] s2) bm w.heap.size (some ⟨br,0,none⟩) (.int .i64 ref) (.bool rv) (.slice As ns cs) (.int .i64 zg) w9 (.returned (.int .i64 z)) wc))
   case first=>
    go_region_law (go_simp;go_at_call 70; refine(HC.out _ (by first | exact Keep.refl Never w9 | exact(Keep.refl Never w9).drew)).mono ?_;rintro en w10 hr;obtain⟨ez,rfl⟩:=hr.int;have HX:Hid (LinkRet (linkedR t [((b2,rv):Stp)] s2) bm w.heap.size (some ⟨br,0,none⟩) (.int .i64 ref) (.bool rv) (.slice As ns cs) (.int .i64 zg) w9 (.returned (.int .i64 ez)) w10):=qh (by first | exact hr | exact hr.drewL);clear hr)
    all_goals
     go_wp2_with fail
     go_meet
     exact⟨_,rfl,HX⟩
   case rest=>
   obtain⟨z14,rfl,hR⟩:=hcut
   rename World=>w10
   obtain⟨hk,hm⟩:=hR.out
   clear y0 y1 y2 y3 e1 HC hR
   have HK10:=qh (HK9.out.then_ hk (fun i hi (h:i=bm∨InRow (some ⟨br,0,none⟩) i)=>by have:=HBm.out;rcases h with h | ⟨_,h,h2⟩ <;> first | omega | (cases h;simp only at h2;omega)))
   have HT10:=qh (HT9.out.keep hk (fun (h:w.heap.size=bm∨InRow (some ⟨br,0,none⟩) w.heap.size)=>by have:=HBm.out;rcases h with h | ⟨_,h,h2⟩ <;> first | omega | (cases h;simp only at h2;omega)))
   have HR10:=qh (HR9.out.keep hk (fun (h:w.heap.size+1=bm∨InRow (some ⟨br,0,none⟩) (w.heap.size+1))=>by have:=HBm.out;rcases h with h | ⟨_,h,h2⟩ <;> first | omega | (cases h;simp only at h2;omega)))
   have HS10:=qh (HS9.out.keep hk (fun q hq (h:q=bm∨InRow (some ⟨br,0,none⟩) q)=>by have:=HBm.out;have:=(HS9.out.row hq).1;rcases h with h | ⟨_,h,h2⟩ <;> first | omega | (cases h;simp only at h2;omega)))
   clear hk HT9 HR9 HS9 HO9 HM9
   obtain⟨lr,hlr⟩:∃z,linkedR t [((b2,rv):Stp)] s2=z:=⟨_,rfl⟩
   rw[hlr] at hm HD8
   clear hlr
   cases lr with
   | error x=>
    obtain⟨hx0,hxe,_⟩:=hm
    cases hxe
    have te:(z14==0)=false:=by simpa using hx0
    have te2:(z14 != 0)=true:=by simpa using hx0
    have HF:Hid (readM badP t ref rv l=(noMa,z14)):=qh (by rw[HD8.out,readT_way])
    clear hx0
    ·have r0:w10.cell? ⟨w.heap.size+1,0,none⟩=some (.int .i64 0):=HR10.out.cell 0
     have r1:w10.cell? ⟨w.heap.size+1,1,none⟩=some (.bool false):=HR10.out.cell 1
     have r2:w10.cell? ⟨w.heap.size+1,2,none⟩=some (.slice none 0 0):=HR10.out.cell 2
     have r3:w10.cell? ⟨w.heap.size+1,3,none⟩=some (.slice none 0 0):=HR10.out.cell 3
     have r4:w10.cell? ⟨w.heap.size+1,4,none⟩=some (.int .i64 0):=HR10.out.cell 4
     have rf0:=HR10.out.frozen 0
     have rf1:=HR10.out.frozen 1
     have rf2:=HR10.out.frozen 2
     have rf3:=HR10.out.frozen 3
     have rf4:=HR10.out.frozen 4
     go_wp2_with fail
     (try simp only[Exit.inBlock,Exit.then])
     refine bodyPost_ret (ma_results2 (fn:=Tryz.f18) (r:=8) (s:=9) rfl (put5_blk HR10.out (.int .i64 0) (.bool false) (.slice none 0 0) (.slice none 0 0) (.int .i64 0)) _ rfl) rfl ?_
     rw[HF.out]
     exact⟨⟨none,0,0,none,0,0⟩,rfl,ma_nil,put5_own HK10.out (.inr (by omega)) _ _ _ _ _⟩
   | ok P=>
   obtain⟨hxe,Ap,np,cp,hmm,hnp,hoo,hin,h24⟩:=hm
   cases hxe
   have HM10:=qh hmm
   have HO10:=qh hoo
   have HN10:=qh hin
   have hnp24:np≤24:=by omega
   have HF:Hid (readM badP t ref rv l=if mayMA t (ref,rv,P,zs,zg)=true then ((ref,rv,P,zs,zg),0) else (noMa,7)):=qh (by rw[HD8.out,readT_ok])
   clear hmm hoo hin hnp h24
   obtain⟨y0,y1,y2,y3⟩:=bc4 HT10.out
   obtain⟨m0,m1,m2,m3,m4⟩:=bc5 HM10.out
   have hw:=HMy.out w10 HK10.out rv (P) zs zg Ap np cp As ns cs (stps_own HO10.out (HN10.out)) (scAt_own HS10.out) (by omega) (by have:=HNs.out;omega)
   obtain⟨my,hmy⟩:∃z,mayMA t (ref,rv,P,zs,zg)=z:=⟨_,rfl⟩
   rw[hmy] at hw HF
   have HC:=qh hw
   clear hw hmy
   go_wp2_with fail
   refine HC.out.mono ?_
   rintro en w12 ⟨rfl,hk⟩
   have HK12:=qtr HK10 hk
   have HR12:=qkb HR10 hk
   have HM12:=qkb HM10 hk
   have HO12:=qko HO10 hk
   have HS12:=qko HS10 hk
   clear hk HC y0 y1 y2 y3 m0 m1 m2 m3 m4
   cases my with
   | false=>
    have HG:Hid (readM badP t ref rv l=(noMa,7)):=qh (by rw[HF.out,if_neg (by decide)])
    obtain⟨r0,r1,r2,r3,r4⟩:=bc5 HR12.out
    have rf0:=HR12.out.frozen 0
    have rf1:=HR12.out.frozen 1
    have rf2:=HR12.out.frozen 2
    have rf3:=HR12.out.frozen 3
    have rf4:=HR12.out.frozen 4
    go_wp2_with fail
    (try simp only[Exit.inBlock,Exit.then])
    refine bodyPost_ret (ma_results2 (fn:=Tryz.f18) (r:=8) (s:=9) rfl (put5_blk HR12.out (.int .i64 0) (.bool false) (.slice none 0 0) (.slice none 0 0) (.int .i64 0)) _ rfl) rfl ?_
    rw[HG.out]
    exact⟨⟨none,0,0,none,0,0⟩,rfl,ma_nil,put5_own HK12.out (.inr (by omega)) _ _ _ _ _⟩
   | true=>
    have HG:Hid (readM badP t ref rv l=((ref,rv,P,zs,zg),0)):=qh (by rw[HF.out,if_pos rfl])
    obtain⟨m0,m1,m2,m3,m4⟩:=bc5 HM12.out
    obtain⟨r0,r1,r2,r3,r4⟩:=bc5 HR12.out
    have rf0:=HR12.out.frozen 0
    have rf1:=HR12.out.frozen 1
    have rf2:=HR12.out.frozen 2
    have rf3:=HR12.out.frozen 3
    have rf4:=HR12.out.frozen 4
    go_wp2_with fail
    (try simp only[Exit.inBlock,Exit.then])
    refine bodyPost_ret (ma_results2 (fn:=Tryz.f18) (r:=8) (s:=9) rfl (put5_blk HR12.out (.int .i64 ref) (.bool rv) (.slice Ap np cp) (.slice As ns cs) (.int .i64 zg)) _ rfl) rfl ?_
    have hk5:=put5_own (Keep.refl (fun q=>q=w.heap.size+1) w12) (b:=w.heap.size+1) (.inl rfl) (.int .i64 ref) (.bool rv) (.slice Ap np cp) (.slice As ns cs) (.int .i64 zg)
    rw[HG.out]
    exact⟨⟨Ap,np,cp,As,ns,cs⟩,rfl,⟨stps_own (HO12.out.keep hk5 (HO12.out.ne_blk HR12.out (by decide))) (HN10.out),scAt_own (HS12.out.keep hk5 (HS12.out.ne_blk HR12.out (by decide)))⟩,put5_own HK12.out (.inr (by omega)) _ _ _ _ _⟩
end Go.Proofs.YtpapiojicbbheaaGreatDoor

namespace Go.Proofs.YtpapiojicbbheaaGreatDoor
open Go.RowKit
set_option maxHeartbeats 4000000 in
set_option maxRecDepth 100000 in
theorem runit3_any (s:Int) (w:World) :
    Calls Tryz.prog 171 #[.int .i64 s] w fun e w'=>e=.returned (.int .i64 (unitM s))∧Keep Never w w':=by
  by_cases h0:s=0
  ·subst h0
   have HF:Hid (unitM 0=1):=qh rfl
   obtain⟨w1,hh1⟩:∃V:World,w.alloc (.cells #[.int .i64 1,.int .i64 10,.int .i64 100] 3)=V:=⟨_,rfl⟩
   have K1:Keep Never w w1:=by rw[←hh1];exact(Keep.refl _ _).alloc _
   have B1:=Blk.new w 3 #[.int .i64 1,.int .i64 10,.int .i64 100]
   rw[hh1] at B1
   have d0:w1.cell? ⟨w.heap.size,0,none⟩=some (.int .i64 1):=B1.cell 0
   have HK:=qh K1
   clear K1 B1
   go_enter Tryz.func171, Tryz.ntmps171
   go_wp2_with fail
   go_ret
   exact⟨by rw[HF.out];rfl,HK.out⟩
  by_cases h1:s=1
  ·subst h1
   clear h0
   have HF:Hid (unitM 1=10):=qh rfl
   obtain⟨w1,hh1⟩:∃V:World,w.alloc (.cells #[.int .i64 1,.int .i64 10,.int .i64 100] 3)=V:=⟨_,rfl⟩
   have K1:Keep Never w w1:=by rw[←hh1];exact(Keep.refl _ _).alloc _
   have B1:=Blk.new w 3 #[.int .i64 1,.int .i64 10,.int .i64 100]
   rw[hh1] at B1
   have d0:w1.cell? ⟨w.heap.size,1,none⟩=some (.int .i64 10):=B1.cell 1
   have HK:=qh K1
   clear K1 B1
   go_enter Tryz.func171, Tryz.ntmps171
   go_wp2_with fail
   go_ret
   exact⟨by rw[HF.out];rfl,HK.out⟩
  by_cases h2:s=2
  ·subst h2
   clear h0 h1
   have HF:Hid (unitM 2=100):=qh rfl
   obtain⟨w1,hh1⟩:∃V:World,w.alloc (.cells #[.int .i64 1,.int .i64 10,.int .i64 100] 3)=V:=⟨_,rfl⟩
   have K1:Keep Never w w1:=by rw[←hh1];exact(Keep.refl _ _).alloc _
   have B1:=Blk.new w 3 #[.int .i64 1,.int .i64 10,.int .i64 100]
   rw[hh1] at B1
   have d0:w1.cell? ⟨w.heap.size,2,none⟩=some (.int .i64 100):=B1.cell 2
   have HK:=qh K1
   clear K1 B1
   go_enter Tryz.func171, Tryz.ntmps171
   go_wp2_with fail
   go_ret
   exact⟨by rw[HF.out];rfl,HK.out⟩
  have HF:Hid (unitM s=0):=qh (by unfold unitM;rw[if_neg h0,if_neg h1,if_neg h2])
  obtain⟨w1,hh1⟩:∃V:World,w.alloc (.cells #[.int .i64 1,.int .i64 10,.int .i64 100] 3)=V:=⟨_,rfl⟩
  have K1:Keep Never w w1:=by rw[←hh1];exact(Keep.refl _ _).alloc _
  have B1:=Blk.new w 3 #[.int .i64 1,.int .i64 10,.int .i64 100]
  rw[hh1] at B1
  have HK:=qh K1
  clear K1 B1 hh1
  by_cases h3:s<0
  ·have t1:decide (s<0)=true:=by simpa using h3
   clear h0 h1 h2 h3
   go_enter Tryz.func171, Tryz.ntmps171
   go_wp2_with fail
   go_ret
   exact⟨by rw[HF.out];rfl,by first | exact HK.out | exact(Keep.refl _ _).alloc _⟩
  ·have t1:decide (s<0)=false:=by simpa using h3
   have t2:decide (s>2)=true:=by simp;omega
   clear h0 h1 h2 h3
   go_enter Tryz.func171, Tryz.ntmps171
   go_wp2_with fail
   go_ret
   exact⟨by rw[HF.out];rfl,by first | exact HK.out | exact(Keep.refl _ _).alloc _⟩
set_option maxHeartbeats 4000000 in
set_option maxRecDepth 100000 in
theorem rdm3_any (n s:Int) (w:World) :
    Calls Tryz.prog 129 #[.int .i64 n,.int .i64 s] w fun e w'=>e=.returned (.tuple #[.int .i64 (dmM n s).1,.int .i64 (dmM n s).2])∧Keep Never w w':=by
  have hr:=unit_range s
  have HC:=qh (runit3_any s w)
  have HD:Hid (dmM n s=if unitM s=0 then (0,1) else if n<0∨32766<n then (0,7) else (n*unitM s,0)):=qh rfl
  obtain⟨u,hu⟩:∃z,unitM s=z:=⟨_,rfl⟩
  rw[hu] at HC HD hr
  clear hu
  by_cases h0:u=0
  ·have t0:(u==0)=true:=by simpa using h0
   have HF:Hid (dmM n s=(0,1)):=qh (by rw[HD.out,if_pos h0])
   clear h0 hr
   go_enter Tryz.func129, Tryz.ntmps129
   go_wp2_with fail
   refine HC.out.mono ?_
   rintro en w2 ⟨rfl,hk2⟩
   have HK2:=qh hk2
   clear hk2 HC
   go_wp2_with fail
   go_ret2
   exact⟨by rw[HF.out];rfl,HK2.out⟩
  have t0:(u==0)=false:=by simpa using h0
  by_cases h1:n<0
  ·have t1:decide (n<0)=true:=by simpa using h1
   have HF:Hid (dmM n s=(0,7)):=qh (by rw[HD.out,if_neg h0,if_pos (.inl h1)])
   clear h0 h1 hr
   go_enter Tryz.func129, Tryz.ntmps129
   go_wp2_with fail
   refine HC.out.mono ?_
   rintro en w2 ⟨rfl,hk2⟩
   have HK2:=qh hk2
   clear hk2 HC
   go_wp2_with fail
   go_ret2
   exact⟨by rw[HF.out];rfl,HK2.out⟩
  have t1:decide (n<0)=false:=by simpa using h1
  by_cases h2:n>32766
  ·have t2:decide (n>32766)=true:=by simpa using h2
   have HF:Hid (dmM n s=(0,7)):=qh (by rw[HD.out,if_neg h0,if_pos (.inr h2)])
   clear h0 h1 h2 hr
   go_enter Tryz.func129, Tryz.ntmps129
   go_wp2_with fail
   refine HC.out.mono ?_
   rintro en w2 ⟨rfl,hk2⟩
   have HK2:=qh hk2
   clear hk2 HC
   go_wp2_with fail
   go_ret2
   exact⟨by rw[HF.out];rfl,HK2.out⟩
  have t2:decide (n>32766)=false:=by simpa using h2
  have HF:Hid (dmM n s=(n*u,0)):=qh (by rw[HD.out,if_neg h0,if_neg (by omega)])
  have hm:0≤n*u∧n*u≤32766*100:=⟨Int.mul_nonneg (by omega) hr.1,Int.mul_le_mul (by omega) hr.2 hr.1 (by omega)⟩
  have hw:IntKind.i64.wrap (n*u)=n*u:=IntWalk.i64_in _ (by omega)
  have hw':wrap64 (n*u)=n*u:=by have:=hw;rwa [IntWalk.i64_left] at this
  clear h0 h1 h2 hr hm
  go_enter Tryz.func129, Tryz.ntmps129
  go_wp2_with fail
  refine HC.out.mono ?_
  rintro en w2 ⟨rfl,hk2⟩
  have HK2:=qh hk2
  clear hk2 HC
  go_wp2_with fail
  (try rw[hw'])
  go_ret2
  exact⟨by rw[HF.out];rfl,HK2.out⟩
set_option maxHeartbeats 4000000 in
set_option maxRecDepth 100000 in
theorem rdir17_any (r:Bool) (w:World) :
    Calls Tryz.prog 72 #[.bool r] w fun e w'=>e=.returned (.int .i64 (nomI r))∧Keep Never w w':=by
  cases r with
  | true=>
   go_enter Tryz.func72, Tryz.ntmps72
   go_wp2_with fail
   go_ret
   exact⟨rfl,Keep.refl _ _⟩
  | false=>
   go_enter Tryz.func72, Tryz.ntmps72
   go_wp2_with fail
   go_ret
   exact⟨rfl,Keep.refl _ _⟩
def GapFit (V:List Int):Prop:=2≤V.length∧(V.getD 0 0=1→4≤V.length∧(V.getD 3 0=1→5≤V.length))∧(V.getD 0 0≠1→V.getD 1 0=1→3≤V.length)
theorem gap_fit {V:List Int} (h:SecFit 0 V):GapFit V:=by
 unfold SecFit at h
 obtain⟨h1,h2⟩:=h
 unfold GapFit
 by_cases g:V.getD 0 0=1
 ·rw[if_pos g] at h2
  exact⟨by omega,fun _=>h2,fun h=>absurd g h⟩
 ·rw[if_neg g] at h2
  exact⟨h2.1,fun h=>absurd h g,fun _=>h2.2⟩
theorem add_zero18 (a:Addr):a.add 0=a:=by unfold Addr.add;split <;> simp_all
def gapU (u:Int) (v:List Int):Int×Int:=if v.headD 0=1 then ((dmM (v.tail.headD 0) u).1,if (dmM (v.tail.headD 0) u).2≠0 then 7 else 0) else (0,0)
theorem gap_is (u x:Int) (V:List Int):gapR u (x::V)=gapU u ((if x=1 then (x::V).drop 2 else x::V).tail):=by
 unfold gapR gapU
 by_cases h:x=1
 ·subst h
  rcases V with _ | ⟨b,l⟩ <;> simp
 ·simp[h]
theorem gapU_no {u y:Int}{W:List Int} (h:y≠1):gapU u (y::W)=(0,0):=by unfold gapU;simp[h]
def gapA (u:Int) (V:List Int):Int:=if (gapR u V).2=0 then (gapR u V).1 else 0
theorem ints_at {w:World}{B n:Nat}{A:Option Addr}{V:List Int} (h:Rd w B 1 A n (V.map (.int .i64))) (h0:0<n):∃ad,A=some ad∧ad.block<B∧V.length=n∧(∀x,V[0]?=some x→w.cell? ad=some (.int .i64 x))∧∀k x,0<k→V[k]?=some x→w.cell? ⟨ad.block,ad.off+k,none⟩=some (.int .i64 x):=by
 have hl:V.length=n:=by have:=h.1;simpa using this
 obtain⟨ad,x0,hA,hb,h2,h3⟩:=h.at1 h0
 refine⟨ad,hA,hb,hl,fun x hx=>?_,fun k x hk hx=>?_⟩
 ·rw[h2] at hx
  injection hx with hx
  rw[←hx]
  rw[add_zero18] at h3
  exact h3
 ·obtain⟨ad',x',hA',_,h4,h5⟩:=h.at1 (show k<n by have:=(List.getElem?_eq_some_iff.1 hx).1;omega)
  rw[hA] at hA'
  injection hA' with hA'
  subst hA'
  rw[h4] at hx
  injection hx with hx
  rw[←hx]
  have e:ad.add k=⟨ad.block,ad.off+k,none⟩:=by unfold Addr.add;rw[if_neg (by omega)]
  rw[e] at h5
  exact h5
set_option maxHeartbeats 4000000 in
set_option maxRecDepth 100000 in
theorem rgap17_any (A:Option Addr) (n c B:Nat) (V:List Int) (u:Int) (w:World) (hr:Rd w B 1 A n (V.map (.int .i64))) (hc:n≤c) (hf:GapFit V) :
    Calls Tryz.prog 74 #[.slice A n c,.int .i64 u] w fun e w'=>e=.returned (.tuple #[.int .i64 (gapA u V),.int .i64 (gapR u V).2])∧Keep Never w w':=by
  have HR:=qh hr
  obtain⟨f1,f2,f3⟩:=hf
  have hl9:V.length=n:=by have:=hr.1;simpa using this
  obtain⟨ad,rfl,_,hl,e0,e1⟩:=ints_at hr (by omega)
  clear hl9
  obtain⟨x0,V1,rfl⟩:∃x l,V=x::l:=by
   cases V with
   | nil=>simp at f1
   | cons x l=>exact⟨x,l,rfl⟩
  have c0:=e0 x0 rfl
  have HE1:=qh e1
  have hl2:2≤n:=by omega
  have hn0:(0:Int)<(n:Int):=by omega
  have HF0:=qh (And.intro f2 f3)
  have HL:=qh hl
  have HGi:=qh (gap_is u x0 V1)
  have HCc:=qh hc
  clear hr e0 e1 f1 f2 f3 hl
  go_enter Tryz.func74, Tryz.ntmps74
  go_upto_if 11 with(fail)
  go_cut [0] (fun s0 wx=>w=wx∧∃(A':Option Addr) (n' c':Nat) (W:List Int),s0=.slice A' n' c'∧Hid (Rd w B 1 A' n' (W.map (.int .i64))∧gapR u (x0::V1)=gapU u W.tail∧2≤n'∧(W.getD 1 0=1→3≤n')))
  case first=>
   by_cases g0:x0=1
   ·subst g0
    have h4:=HF0.out.1 rfl
    have HW:Hid (gapR u (1::V1)=gapU u ((1::V1).drop 2).tail):=qh (by rw[HGi.out];rfl)
    have HLn:Hid (4≤n∧(((1::V1).drop 2).getD 1 0=1→5≤n)):=qh (by
     have h1:=HL.out
     refine⟨by omega,fun h=>?_⟩
     have h5:=h4.2 (by simpa[List.getD_eq_getElem?_getD,List.getElem?_drop] using h)
     omega)
    clear h4
    go_wp2_with (refine wpList_from rfl (.tmp 12) (.const (.int .i64 2)) _ rfl Tryz.underlying22 Tryz.sizeOf3 (some ad) n c 2 (by go_simp) 2 (by go_simp) rfl hl2 ?_;intro A9 c9 HS9)
    go_meet
    exact⟨rfl,A9,n - 2,c9,(1::V1).drop 2,rfl,qh ⟨by have h:=HS9.out.1 w B _ HCc.out HR.out;rw[List.map_drop];simpa using h,HW.out,by have:=HLn.out.1;omega,fun h=>by have:=HLn.out.2 h;omega⟩⟩
   ·have t0:(x0==1)=false:=by simpa using g0
    have HW:Hid (gapR u (x0::V1)=gapU u (x0::V1).tail):=qh (by rw[HGi.out,if_neg g0])
    have HLn:Hid ((x0::V1).getD 1 0=1→3≤n):=qh (fun h=>by have h1:=HF0.out.2 g0 h;have h2:=HL.out;omega)
    clear g0
    go_wp2_with fail
    go_meet
    exact⟨rfl,some ad,n,c,x0::V1,rfl,qh ⟨HR.out,HW.out,hl2,HLn.out⟩⟩
  case rest=>
  obtain⟨rfl,A',n',c',W,rfl,HH⟩:=hcut
  clear HF0 HGi HR HE1 HL c0 hn0 hl2
  have hn2:=HH.out.2.2.1
  obtain⟨ad',rfl,_,hl,_,e1⟩:=ints_at HH.out.1 (by omega)
  obtain⟨y0,y1,W1,rfl⟩:∃x y l,W=x::y::l:=by
   rcases W with _ | ⟨x,_ | ⟨y,l⟩⟩
   ·simp at hl;omega
   ·simp at hl;omega
   ·exact⟨x,y,l,rfl⟩
  have c1:=e1 1 y1 (by omega) rfl
  have hn1:(1:Int)<(n':Int):=by omega
  have HG:Hid (gapR u (x0::V1)=gapU u (y1::W1)):=qh HH.out.2.1
  by_cases g1:y1=1
  case neg=>
   have t1:(y1 != 1)=true:=by simpa using g1
   have HF:Hid (gapR u (x0::V1)=(0,0)):=qh (by rw[HG.out,gapU_no g1])
   clear g1 e1 hl
   go_wp2_with fail
   go_ret2
   exact⟨by unfold gapA;rw[HF.out];rfl,Keep.refl _ _⟩
  subst g1
  have h3:=HH.out.2.2.2 rfl
  obtain⟨y2,W2,rfl⟩:∃x l,W1=x::l:=by
   cases W1 with
   | nil=>simp at hl;omega
   | cons x l=>exact⟨x,l,rfl⟩
  have c2:=e1 2 y2 (by omega) rfl
  have hn3:(2:Int)<(n':Int):=by omega
  have HF:Hid (gapR u (x0::V1)=((dmM y2 u).1,if (dmM y2 u).2≠0 then 7 else 0)):=qh (by rw[HG.out];unfold gapU;simp)
  have hw:=rdm3_any y2 u w
  obtain⟨⟨d1,d2⟩,hd⟩:∃z,dmM y2 u=z:=⟨_,rfl⟩
  rw[hd] at hw HF
  simp only at hw HF
  have HC:=qh hw
  clear hw hd h3 e1 hl HG HH
  go_wp2_with fail
  refine HC.out.mono ?_
  rintro en w2 ⟨rfl,hk⟩
  have HK2:=qh hk
  clear hk HC c1 c2 hn1 hn2 hn3
  by_cases g2:d2=0
  ·have t2:(d2 != 0)=false:=by simpa using g2
   have HF2:Hid (gapR u (x0::V1)=(d1,0)):=qh (by rw[HF.out,if_neg (by simpa using g2)])
   clear g2
   go_wp2_with fail
   go_ret2
   exact⟨by unfold gapA;rw[HF2.out];rfl,HK2.out⟩
  ·have t2:(d2 != 0)=true:=by simpa using g2
   have HF2:Hid (gapR u (x0::V1)=(d1,7)):=qh (by rw[HF.out,if_pos g2])
   clear g2
   go_wp2_with fail
   go_ret2
   exact⟨by unfold gapA;rw[HF2.out];rfl,HK2.out⟩
end Go.Proofs.YtpapiojicbbheaaGreatDoor

namespace Go.Proofs.YtpapiojicbbheaaGreatDoor
open Go.RowKit
theorem may_no17 {t:Tp}{m:Ma} (h:∀z,MayA t m z→False):mayMA t m=false:=by
 cases hm:mayMA t m with
 | false=>rfl
 | true=>obtain⟨z,hz⟩:=may_iff.1 hm;exact(h z hz).elim
theorem may_small {t:Tp}{m:Ma}{z:Int×Int} (h:MayA t m z):m.2.2.2.2≤40000000∧∀s∈m.2.2.2.1,s.1≤40000000:=by
 have hz1:z.1≤40000000:=by
  obtain⟨b0,_,_,q2,q4⟩:=left_some h.left
  have h5:=sum_in h.chk q2 (i:=m.2.2.1.length) (Nat.le_refl _)
  have h6:=(good_of h.chk q2).2.2
  have h7:=h.behind
  rw[List.take_length,←h6] at h5
  rw[q4] at h7 ⊢
  simp only at h5 h7 ⊢
  omega
 have hf:=h.fits
 have hp:=h.sects.pos (j:=m.2.2.2.1.length) (Nat.le_refl _)
 rw[List.take_length] at hp
 have hg:=h.gap0
 refine⟨by omega,fun s hs=>?_⟩
 obtain⟨k,hk⟩:=List.mem_iff_getElem?.1 hs
 have hkl:=(List.getElem?_eq_some_iff.1 hk).1
 have h2:=h.sects.mono (i:=k+1) (j:=m.2.2.2.1.length) (by omega) (Nat.le_refl _)
 rw[endS_take hk,←endS_all] at h2
 omega
structure SecK (S:List Sc) (k:Nat) (s:Sc):Prop where
  lo:1≤s.1
  hi:s.1≤100000000
  t1:1≤s.2
  t2:s.2≤1000
  up:0<k→endS (S.take k)<s.1
theorem may_of {t:Tp}{ref:Int}{rv:Bool}{P:List Stp}{S:List Sc}{g:Int}{b:Bl} (hc:checkM t=0) (hb:balM t.2.2.1 ref=some b) (hp:P.head?=some (b.2.1,rv)) (few:P.length≤24) (once:twiceB P=false) (hl:(lenM t P).2=0) (s1:1≤S.length) (s8:S.length≤8) (g0:0≤g) (g1:g≤100000000) (hs:∀k s,S[k]?=some s→SecK S k s) :
    mayMA t (ref,rv,P,S,g)=decide (endS S+g≤(lenM t P).1 - alongP t (b.2.1,b.2.2,rv)):=by
  have hle:leftA t (ref,rv,P,S,g)=some ((lenM t P).1 - alongP t (b.2.1,b.2.2,rv),alongP t (b.2.1,b.2.2,rv)):=by
   unfold leftA
   simp only[hb]
   rw[if_pos ⟨hp,hl⟩]
  by_cases hf:endS S+g≤(lenM t P).1 - alongP t (b.2.1,b.2.2,rv)
  ·rw[decide_eq_true hf]
   refine may_iff.2 ⟨_,hc,few,twice_no.1 once,s1,s8,g0,by simp only;omega,⟨fun k s hk=>?_,fun s hsm=>?_,fun s hsm=>?_⟩,hle,hf⟩
   ·have h1:=hs k s hk
    by_cases h0:0<k
    ·exact h1.up h0
    ·obtain rfl:k=0:=by omega
     have:=h1.lo
     simp[endS_nil]
     omega
   ·obtain⟨k,hk⟩:=List.mem_iff_getElem?.1 hsm
    have:=(hs k s hk).hi
    omega
   ·obtain⟨k,hk⟩:=List.mem_iff_getElem?.1 hsm
    exact⟨(hs k s hk).t1,(hs k s hk).t2⟩
  ·rw[decide_eq_false hf]
   refine may_no17 (fun z hz=>hf ?_)
   have h1:=hz.left
   rw[hle] at h1
   injection h1 with h1
   have h2:=hz.fits
   rw[←h1] at h2
   exact h2
theorem onP_first {t:Tp}{P:List Stp}{e a:Int}{r:Bool} (hr:rightB t (e,a,r)=true) (hl:(lenM t P).2=0) (hp:P.head?=some (e,r)):(onP t P (e,a,r)).1=alongP t (e,a,r):=by
 unfold onP
 rw[if_pos hr,if_pos hl]
 cases P with
 | nil=>cases hp
 | cons s l=>
  simp only[List.head?_cons,Option.some.injEq] at hp
  subst hp
  rw[List.findIdx?_cons]
  simp[sumM]
set_option maxHeartbeats 8000000 in
set_option maxRecDepth 100000 in
theorem rmay17_any (x:TA) (t:Tp) (B:Nat) (y:MX) (m:Ma) (w:World) (h:TpAt w B x t) (hs:TpSmall x t) (hB:B≤w.heap.size) (hm:MaAt w B y m) (hnp:y.np≤1000000) (hns:y.ns≤1000000) :
    Calls Tryz.prog 76 #[.agg x.cs,.agg (y.vs m)] w fun e w'=>e=.returned (.bool (mayMA t m))∧Keep Never w w':=by
  obtain⟨ref,rv,P,S,g⟩:=m
  have HPl:=qh (fun (W:World) (hk:Keep Never w W)=>rplace17_any x t B y (ref,rv,P,S,g) W (h.keep hk) hs.b)
  have HCh:=qh (fun (W:World) (hk:Keep Never w W)=>rcheck_any x t B W (h.keep hk) hs (Nat.le_trans hB hk.size))
  have HTw:=qh (fun (W:World) (hk:Keep Never w W)=>rtwice17_any y.Ap y.np y.cp B P W ((stps_rd hm.p).1.keep hk (fun _ h=>h.elim)) hnp)
  have HLn:=qh (fun (W:World) (hk:Keep Never w W)=>rlength_any x t B y.Ap y.np y.cp P W (h.keep hk) (hm.p.keep hk (fun _ h=>h.elim)) hs.j (by omega))
  have HEn:=qh (fun (W:World) (hk:Keep Never w W)=>rend17_any B y (ref,rv,P,S,g) W (hm.keep hk))
  have HBh:=qh (fun (W:World) (hk:Keep Never w W)=>rbehind17_any x t B y (ref,rv,P,S,g) W (h.keep hk) hs (Nat.le_trans hB hk.size) (hm.keep hk) (by omega))
  have HRp:=qh (stps_rd hm.p).1
  have HRs:=qh hm.s
  have HNp:Hid (y.np=P.length):=qh (stps_rd hm.p).2.1
  have HNs:Hid (S.length=y.ns):=qh hm.s.len
  obtain⟨Ae,ne,ce,Aj,nj,cj,Ab,nb,cb,Ar,nr,cr⟩:=x
  obtain⟨Ap,np,cp,As,ns,cs⟩:=y
  simp only[TA.cs,MX.vs] at HPl HCh HTw HLn HEn HBh HRp HRs HNp HNs hnp hns ⊢
  clear h hs hB hm
  obtain⟨w1,hw1⟩:∃V:World,w.alloc (.cells #[.slice Ae ne ce,.slice Aj nj cj,.slice Ab nb cb,.slice Ar nr cr] 27)=V:=⟨_,rfl⟩
  have zw1:w1.heap.size=w.heap.size+1:=by rw[←hw1];simp
  have kw1:Keep Never w w1:=by rw[←hw1];exact(Keep.refl _ _).alloc _
  have bw1:=Blk.new w 27 #[.slice Ae ne ce,.slice Aj nj cj,.slice Ab nb cb,.slice Ar nr cr]
  rw[hw1] at bw1
  obtain⟨w2,hw2⟩:∃V:World,w1.alloc (.cells #[.int .i64 ref,.bool rv,.slice Ap np cp,.slice As ns cs,.int .i64 g] 38)=V:=⟨_,rfl⟩
  have kw2:Keep Never w1 w2:=by rw[←hw2];exact(Keep.refl _ _).alloc _
  have bw2:=Blk.new w1 38 #[.int .i64 ref,.bool rv,.slice Ap np cp,.slice As ns cs,.int .i64 g]
  rw[hw2,zw1] at bw2
  have HB1:=qh (bw1.keep kw2 (fun h=>h))
  have HB2:=qh bw2
  have HK:=qh (kw1.trans kw2)
  clear kw1 kw2 bw1 bw2
  have hw:=HPl.out w2 HK.out
  (try simp only at hw)
  obtain⟨ob,hob⟩:∃z,balM t.2.2.1 ref=z:=⟨_,rfl⟩
  rw[hob] at hw HBh
  have HOb:=qh hob
  obtain⟨⟨b1,b2,b3⟩,hb⟩:∃z,ob.getD (0,0,0)=z:=⟨_,rfl⟩
  obtain⟨os,hos⟩:∃z,ob.isSome=z:=⟨_,rfl⟩
  rw[hb,hos] at hw
  rw[hb] at HBh
  have HGb:=qh hb
  have HOs:=qh hos
  simp only at hw HBh
  have HC:=qh hw
  clear hw hb hos HPl hob
  obtain⟨y0,y1,y2,y3⟩:=bc4 HB1.out
  obtain⟨m0,m1,m2,m3,m4⟩:=bc5 HB2.out
  go_enter Tryz.func76, Tryz.ntmps76
  go_wp2_with fail
  refine HC.out.mono ?_
  rintro en w3 ⟨rfl,hk⟩
  have HK3:=qtr HK hk
  have HT3:=qkb HB1 hk
  have HM3:=qkb HB2 hk
  clear hk HC HB1 HB2 HK y0 y1 y2 y3 m0 m1 m2 m3 m4 hw1 hw2 zw1
  go_upto_region 2 with(fail)
  obtain⟨w4,hw4⟩:∃V:World,w3.alloc (.cells #[.int .i64 b2,.int .i64 b3,.bool rv] 71)=V:=⟨_,rfl⟩
  have hk:Keep Never w3 w4:=by rw[←hw4];exact(Keep.refl _ _).alloc _
  have B4:=Blk.new w3 71 #[.int .i64 b2,.int .i64 b3,.bool rv]
  rw[hw4] at B4
  obtain⟨bp,hbp⟩:∃q,w3.heap.size=q:=⟨_,rfl⟩
  rw[hbp] at B4
  rw[hw4,hbp]
  have HP4:=qh B4
  have HK4:=qtr HK3 hk
  have HT4:=qkb HT3 hk
  have HM4:=qkb HM3 hk
  clear hk B4 hw4 hbp HT3 HM3 HK3
  have hw:=HCh.out w4 HK4.out
  obtain⟨ck,hck⟩:∃z,checkM t=z:=⟨_,rfl⟩
  rw[hck] at hw
  have HCk:=qh hck
  have HC:=qh hw
  clear hw hck HCh
  obtain⟨y0,y1,y2,y3⟩:=bc4 HT4.out
  obtain⟨m0,m1,m2,m3,m4⟩:=bc5 HM4.out
  go_wp2_with fail
  refine HC.out.mono ?_
  rintro en w5 ⟨rfl,hk⟩
  have HK5:=qtr HK4 hk
  have HT5:=qkb HT4 hk
  have HM5:=qkb HM4 hk
  have HP5:=qkb HP4 hk
  clear hk HC HT4 HM4 HP4 HK4 y0 y1 y2 y3 m0 m1 m2 m3 m4
  obtain⟨m0,m1,m2,m3,m4⟩:=bc5 HM5.out
  by_cases g0:ck=0
  case neg=>
   have HF:Hid (mayMA t (ref,rv,P,S,g)=false):=qh (may_no17 (fun z hz=>g0 (by rw[←HCk.out];exact hz.chk)))
   have t0:(ck != 0)=true:=by simpa using g0
   clear g0
   go_wp2_with fail
   go_ret
   exact⟨by rw[HF.out];rfl,HK5.out⟩
  have t0:(ck != 0)=false:=by simpa using g0
  cases os with
  | false=>
   have HF:Hid (mayMA t (ref,rv,P,S,g)=false):=qh (may_no17 (fun z hz=>by obtain⟨b,h1,_⟩:=left_some hz.left;simp only at h1;have h2:=HOs.out;rw[←HOb.out,h1] at h2;cases h2))
   clear g0
   go_wp2_with fail
   go_ret
   exact⟨by rw[HF.out];rfl,HK5.out⟩
  | true=>
  by_cases g1:np≠0
  case neg=>
   have HF:Hid (mayMA t (ref,rv,P,S,g)=false):=qh (may_no17 (fun z hz=>g1 (fun h=>by obtain⟨b,_,h2,_⟩:=left_some hz.left;simp only at h2;have h3:=HNp.out;cases P with | nil=>cases h2 | cons s l=>simp at h3;omega)))
   have t1:((np:Int)==0)=true:=by simp at g1 ⊢;omega
   have t1b:(np==0)=true:=by simp at g1 ⊢;omega
   clear g0 g1
   go_wp2_with fail
   go_ret
   exact⟨by rw[HF.out];rfl,HK5.out⟩
  have t1:((np:Int)==0)=false:=by simp;omega
  have t1b:(np==0)=false:=by simp;omega
  by_cases g2:np≤24
  case neg=>
   have HF:Hid (mayMA t (ref,rv,P,S,g)=false):=qh (may_no17 (fun z hz=>g2 (by have:=hz.few;simp only at this;rw[←HNp.out] at this;exact this)))
   have t2:decide ((np:Int)>24)=true:=by simp;omega
   have t2b:decide (24<np)=true:=by simp;omega
   clear g0 g1 g2
   go_wp2_with fail
   go_ret
   exact⟨by rw[HF.out];rfl,HK5.out⟩
  have t2:decide ((np:Int)>24)=false:=by simp;omega
  have t2b:decide (24<np)=false:=by simp;omega
  by_cases g3:ns≠0
  case neg=>
   have HF:Hid (mayMA t (ref,rv,P,S,g)=false):=qh (may_no17 (fun z hz=>g3 (fun h=>by have:=hz.some_;simp only at this;rw[HNs.out] at this;omega)))
   have t3:((ns:Int)==0)=true:=by simp at g3 ⊢;omega
   have t3b:(ns==0)=true:=by simp at g3 ⊢;omega
   clear g0 g1 g2 g3
   go_wp2_with fail
   go_ret
   exact⟨by rw[HF.out];rfl,HK5.out⟩
  have t3:((ns:Int)==0)=false:=by simp;omega
  have t3b:(ns==0)=false:=by simp;omega
  by_cases g4:ns≤8
  case neg=>
   have HF:Hid (mayMA t (ref,rv,P,S,g)=false):=qh (may_no17 (fun z hz=>g4 (by have:=hz.eight;simp only at this;rw[HNs.out] at this;exact this)))
   have t4:decide ((ns:Int)>8)=true:=by simp;omega
   have t4b:decide (8<ns)=true:=by simp;omega
   clear g0 g1 g2 g3 g4
   go_wp2_with fail
   go_ret
   exact⟨by rw[HF.out];rfl,HK5.out⟩
  have t4:decide ((ns:Int)>8)=false:=by simp;omega
  have t4b:decide (8<ns)=false:=by simp;omega
  by_cases g5:0≤g
  case neg=>
   have HF:Hid (mayMA t (ref,rv,P,S,g)=false):=qh (may_no17 (fun z hz=>g5 (by have:=hz.gap0;exact this)))
   have t5:decide (g<0)=true:=by simp;omega
   clear g0 g1 g2 g3 g4 g5
   go_wp2_with fail
   go_ret
   exact⟨by rw[HF.out];rfl,HK5.out⟩
  have t5:decide (g<0)=false:=by simp;omega
  by_cases g6:g≤100000000
  case neg=>
   have HF:Hid (mayMA t (ref,rv,P,S,g)=false):=qh (may_no17 (fun z hz=>g6 (by have:=(may_small hz).1;simp only at this;omega)))
   have t6:decide (g>100000000)=true:=by simp;omega
   clear g0 g1 g2 g3 g4 g5 g6
   go_wp2_with fail
   go_ret
   exact⟨by rw[HF.out];rfl,HK5.out⟩
  have t6:decide (g>100000000)=false:=by simp;omega
  obtain⟨bx,hbx⟩:=Option.isSome_iff_exists.1 HOs.out
  have HBal:Hid (balM t.2.2.1 ref=some (b1,b2,b3)):=qh (by rw[HOb.out,hbx];have h:=HGb.out;rw[hbx] at h;congr 1)
  have HC0:Hid (checkM t=0):=qh (by rw[HCk.out];exact g0)
  have HRt:Hid (rightB t (b2,b3,rv)=true∧0≤b3∧b3≤edgeM t b2):=qh (by
   obtain⟨_,_,c3,c4,c5⟩:=check_bal HC0.out (bal_mem HBal.out).1
   exact⟨right_iff.2 ⟨HC0.out,c3,c4,c5⟩,c4,c5⟩)
  obtain⟨ap,s0,hAp,_,hs0,c0,c1⟩:=(HRp.out.keep HK5.out (fun _ h=>h.elim)).stp (show 0<np by omega)
  rw[Nat.zero_mul,add_zero18] at c0 c1
  subst hAp
  have HHd:Hid (P.head?=some s0):=qh (by rw[List.head?_eq_getElem?];exact hs0)
  have HG:Hid (np≤24∧1≤ns∧ns≤8∧0≤g∧g≤100000000):=qh ⟨g2,by omega,g4,g5,g6⟩
  obtain⟨e0,r0⟩:=s0
  simp only at c0 c1
  have hnp0:(0:Int)<(np:Int):=by omega
  have HHz:Hid (∀z,MayA t (ref,rv,P,S,g) z→(e0,r0)=(b2,rv)):=qh (fun z hz=>by
   obtain⟨b,h1,h2,_⟩:=left_some hz.left
   simp only at h1 h2
   rw[HBal.out] at h1
   injection h1 with h1
   subst h1
   rw[HHd.out] at h2
   exact Option.some.inj h2)
  clear hbx hs0 g0 g1 g2 g3 g4 g5 g6
  go_upto_region 4 with(fail)
  clear t0 t1 t1b t2 t2b t3 t3b t4 t4b t5 t6
  obtain⟨q0,q1,q2⟩:=bc3 HP5.out
  by_cases g7:e0=b2
  case neg=>
   have HF:Hid (mayMA t (ref,rv,P,S,g)=false):=qh (may_no17 (fun z hz=>g7 (by have h:=HHz.out z hz;injection h)))
   have t7:(e0 != b2)=true:=by simpa using g7
   clear g7
   go_wp2_with fail
   go_quiet (fail)
   go_wp2_with fail
   go_ret
   exact⟨by rw[HF.out];rfl,HK5.out.drewN _⟩
  have t7:(e0 != b2)=false:=by simpa using g7
  by_cases g8:r0=rv
  case neg=>
   have HF:Hid (mayMA t (ref,rv,P,S,g)=false):=qh (may_no17 (fun z hz=>g8 (by have h:=HHz.out z hz;injection h)))
   have t8:(r0 != rv)=true:=by simpa using g8
   have t8b:(r0==rv)=false:=by simpa using g8
   have t8c:¬r0=rv:=g8
   clear g7 g8
   go_wp2_with fail
   go_quiet (fail)
   go_wp2_with fail
   go_ret
   exact⟨by rw[HF.out];rfl,HK5.out.drewN _⟩
  have t8:(r0 != rv)=false:=by simpa using g8
  have t8b:(r0==rv)=true:=by simpa using g8
  have HHd2:Hid (P.head?=some (b2,rv)):=qh (by rw[HHd.out,g7,g8])
  clear g7 g8
  go_wp2_with fail
  go_quiet (fail)
  obtain⟨w6,hw6⟩:∃V:World,w5.drewN nq=V:=⟨_,rfl⟩
  rw[hw6]
  have hk:Keep Never w5 w6:=by rw[←hw6];exact(Keep.refl Never _).drewN _
  have HK6:=qtr HK5 hk
  have HT6:=qkb HT5 hk
  have HM6:=qkb HM5 hk
  clear hk hw6 HT5 HM5 HP5 HK5 m0 m1 m2 m3 m4 q0 q1 q2 c0 c1 t7 t8 t8b HHd HHz
  have hw:=HTw.out w6 HK6.out
  obtain⟨tb,htb⟩:∃z,twiceB P=z:=⟨_,rfl⟩
  rw[htb] at hw
  have HTb:=qh htb
  have HC:=qh hw
  have m2:w6.cell? ⟨w.heap.size+1,2,none⟩=some (.slice (some ap) np cp):=HM6.out.cell 2
  clear hw htb HTw
  go_wp2_with fail
  refine HC.out.mono ?_
  rintro en w7 ⟨rfl,hk⟩
  have HK7:=qtr HK6 hk
  have HT7:=qkb HT6 hk
  have HM7:=qkb HM6 hk
  clear hk HC HT6 HM6 HK6 m2
  have hw:=HLn.out w7 HK7.out
  obtain⟨⟨ln,le⟩,hln⟩:∃z,lenM t P=z:=⟨_,rfl⟩
  rw[hln] at hw
  have HLm:=qh hln
  have HC:=qh hw
  have m2:w7.cell? ⟨w.heap.size+1,2,none⟩=some (.slice (some ap) np cp):=HM7.out.cell 2
  obtain⟨y0,y1,y2,y3⟩:=bc4 HT7.out
  clear hw hln HLn
  go_wp2_with fail
  refine HC.out.mono ?_
  rintro en w8 ⟨rfl,hk⟩
  have HK8:=qtr HK7 hk
  have HT8:=qkb HT7 hk
  have HM8:=qkb HM7 hk
  clear hk HC HT7 HM7 HK7 m2 y0 y1 y2 y3
  cases tb with
  | true=>
   have HF:Hid (mayMA t (ref,rv,P,S,g)=false):=qh (may_no17 (fun z hz=>by have h1:=twice_no.2 hz.once;simp only at h1;rw[HTb.out] at h1;cases h1))
   clear hnp0
   go_wp2_with fail
   go_ret
   exact⟨by rw[HF.out];rfl,HK8.out⟩
  | false=>
  by_cases g9:le=0
  case neg=>
   have HF:Hid (mayMA t (ref,rv,P,S,g)=false):=qh (may_no17 (fun z hz=>g9 (by obtain⟨b,_,_,h3,_⟩:=left_some hz.left;simp only at h3;rw[HLm.out] at h3;exact h3)))
   have t9:(le != 0)=true:=by simpa using g9
   clear g9
   go_wp2_with fail
   go_ret
   exact⟨by rw[HF.out];rfl,HK8.out⟩
  have t9:(le != 0)=false:=by simpa using g9
  have HL0:Hid ((lenM t P).2=0):=qh (by rw[HLm.out];exact g9)
  clear g9
  go_wp2_with fail
  clear t9
  go_loopw [10] (fun si wr=>∃k:Nat,k≤ns∧si=.int .i64 k∧Hid (Keep Never w8 wr∧∀j s,j<k→S[j]?=some s→SecK S j s)) (fun si _=>ns - (intOf si).toNat)
  case atStart=>exact⟨0,by omega,rfl,qh ⟨Keep.refl _ _,fun j s hj=>absurd hj (by omega)⟩⟩
  case round=>
   obtain⟨k,hk,rfl,HH⟩:=hrel
   have HKr:=qh (HK8.out.trans HH.out.1)
   have HMr:=qh (HM8.out.keep HH.out.1 (fun h=>h))
   have HTr:=qh (HT8.out.keep HH.out.1 (fun h=>h))
   have m3:wr.cell? ⟨w.heap.size+1,3,none⟩=some (.slice As ns cs):=HMr.out.cell 3
   by_cases h0:k<ns
   case neg=>
    obtain rfl:k=ns:=by omega
    have hki:¬(k:Int)<(k:Int):=by omega
    have hSk:∀j s,S[j]?=some s→SecK S j s:=fun j s hs=>HH.out.2 j s (by have:=(List.getElem?_eq_some_iff.1 hs).1;rw[HNs.out] at this;exact this) hs
    have HSk:=qh hSk
    have hgg:=HG.out
    have hes:0≤endS S∧endS S≤100000000:=by
     obtain⟨q,hq⟩:∃q,S.length=q+1:=⟨S.length - 1,by rw[HNs.out];omega⟩
     have hx:S[q]?=some (S[q]'(by omega)):=List.getElem?_eq_getElem (by omega)
     have h1:=hSk q _ hx
     have h2:=endS_take hx
     rw[←hq,List.take_length] at h2
     rw[h2]
     have:=h1.lo
     have:=h1.hi
     omega
    have HEs:=qh hes
    have HC:=qh (HEn.out wr HKr.out hgg.2.1 (by omega) ⟨hes.1,by omega⟩ ⟨hgg.2.2.2.1,by omega⟩)
    obtain⟨m0,m1,m2,m3,m4⟩:=bc5 HMr.out
    clear hSk hes hgg HH
    go_wp2_with fail
    refine HC.out.mono ?_
    rintro en w9 ⟨rfl,hk9⟩
    have HK9:=qtr HKr hk9
    have HM9:=qkb HMr hk9
    have HT9:=qkb HTr hk9
    clear hk9 HC m0 m1 m2 m3 m4
    have hw:=HBh.out w9 HK9.out
    rw[onP_first HRt.out.1 HL0.out HHd2.out] at hw
    obtain⟨al,hal⟩:∃z,alongP t (b2,b3,rv)=z:=⟨_,rfl⟩
    rw[hal] at hw
    have HAl:=qh hal
    have HC:=qh hw
    have hab:=along_in (t:=t) (p:=(b2,b3,rv)) HRt.out.2.1 HRt.out.2.2
    have hlb:=sum_in HC0.out HL0.out (i:=P.length) (Nat.le_refl _)
    rw[List.take_length,←(good_of HC0.out HL0.out).2.2,HLm.out] at hlb
    rw[hal] at hab
    have hin:=edge_in HC0.out (check_bal HC0.out (bal_mem HBal.out).1).2.2.1
    simp only at hab hlb hin
    have hwl:IntKind.i64.wrap (ln - al)=ln - al:=IntWalk.i64_in _ (by omega)
    have hwl2:wrap64 (ln - al)=ln - al:=by have:=hwl;rwa [IntWalk.i64_left] at this
    have HFin:Hid (mayMA t (ref,rv,P,S,g)=decide (endS S+g≤ln - al)):=qh (by
     rw[may_of HC0.out HBal.out HHd2.out (by have:=HG.out.1;rw[HNp.out] at this;exact this) HTb.out HL0.out (by rw[HNs.out];exact HG.out.2.1) (by rw[HNs.out];exact HG.out.2.2.1) HG.out.2.2.2.1 HG.out.2.2.2.2 HSk.out,HLm.out,←hal])
    obtain⟨y0,y1,y2,y3⟩:=bc4 HT9.out
    obtain⟨m0,m1,m2,m3,m4⟩:=bc5 HM9.out
    clear hw hab hlb hin hal
    go_wp2_with fail
    refine HC.out.mono ?_
    rintro en w10 ⟨rfl,hk10⟩
    have HK10:=qtr HK9 hk10
    clear hk10 HC y0 y1 y2 y3 m0 m1 m2 m3 m4
    go_wp2_with fail
    go_ret
    exact⟨by rw[HFin.out];rfl,HK10.out⟩
   have hki:(k:Int)<(ns:Int):=by omega
   obtain⟨as_,s,hAs,_,hs,c0,c1⟩:=(HRs.out.rd.keep HKr.out (fun _ h=>h.elim)).sc h0
   subst hAs
   have HSs:=qh hs
   obtain⟨s1,s2⟩:=s
   simp only at c0 c1
   clear hs
   go_upto_region 14 with(fail)
   obtain⟨w11,hw11⟩:∃V:World,wr.alloc (.cells #[.int .i64 s1,.int .i64 s2] 58)=V:=⟨_,rfl⟩
   have hk11:Keep Never wr w11:=by rw[←hw11];exact(Keep.refl _ _).alloc _
   have B11:=Blk.new wr 58 #[.int .i64 s1,.int .i64 s2]
   rw[hw11] at B11
   obtain⟨bl,hbl⟩:∃q,wr.heap.size=q:=⟨_,rfl⟩
   rw[hbl] at B11
   rw[hw11,hbl]
   obtain⟨l0,l1⟩:=bc2 B11
   have HK11:=qtr HKr hk11
   have HKs:=qh (HH.out.1.trans hk11)
   have m3:=keepT hk11 m3
   have HIn:Hid (∀z,MayA t (ref,rv,P,S,g) z→endS (S.take k)<s1∧s1≤40000000∧1≤s2∧s2≤1000∧0≤endS (S.take k)):=qh (fun z hz=>by
    have h1:=hz.sects.up k _ HSs.out
    have h2:=(may_small hz).2 _ (List.mem_of_getElem? HSs.out)
    have h3:=hz.sects.time _ (List.mem_of_getElem? HSs.out)
    have h4:=hz.sects.pos (j:=k) (by simp only;rw[HNs.out];omega)
    exact⟨h1,h2,h3.1,h3.2,h4⟩)
   clear c0 c1 hw11 hbl hk11 B11
   by_cases k1:1≤s1
   case neg=>
    have HF:Hid (mayMA t (ref,rv,P,S,g)=false):=qh (may_no17 (fun z hz=>k1 (by have:=HIn.out z hz;omega)))
    have u1:decide (s1<1)=true:=by simp;omega
    clear k1
    go_wp2_with fail
    go_quiet (fail)
    go_wp2_with fail
    go_ret
    exact⟨by rw[HF.out];rfl,HK11.out.drewN _⟩
   have u1:decide (s1<1)=false:=by simp;omega
   by_cases k2:s1≤100000000
   case neg=>
    have HF:Hid (mayMA t (ref,rv,P,S,g)=false):=qh (may_no17 (fun z hz=>k2 (by have:=HIn.out z hz;omega)))
    have u2:decide (s1>100000000)=true:=by simp;omega
    clear k1 k2
    go_wp2_with fail
    go_quiet (fail)
    go_wp2_with fail
    go_ret
    exact⟨by rw[HF.out];rfl,HK11.out.drewN _⟩
   have u2:decide (s1>100000000)=false:=by simp;omega
   by_cases k3:1≤s2
   case neg=>
    have HF:Hid (mayMA t (ref,rv,P,S,g)=false):=qh (may_no17 (fun z hz=>k3 (by have:=HIn.out z hz;omega)))
    have u3:decide (s2<1)=true:=by simp;omega
    clear k1 k2 k3
    go_wp2_with fail
    go_quiet (fail)
    go_wp2_with fail
    go_ret
    exact⟨by rw[HF.out];rfl,HK11.out.drewN _⟩
   have u3:decide (s2<1)=false:=by simp;omega
   by_cases k4:s2≤1000
   case neg=>
    have HF:Hid (mayMA t (ref,rv,P,S,g)=false):=qh (may_no17 (fun z hz=>k4 (by have:=HIn.out z hz;omega)))
    have u4:decide (s2>1000)=true:=by simp;omega
    clear k1 k2 k3 k4
    go_wp2_with fail
    go_quiet (fail)
    go_wp2_with fail
    go_ret
    exact⟨by rw[HF.out];rfl,HK11.out.drewN _⟩
   have u4:decide (s2>1000)=false:=by simp;omega
   cases k with
   | zero=>
    have HNx:Hid (∀j s,j<0+1→S[j]?=some s→SecK S j s):=qh (fun j s hj hs=>by
     by_cases e:j=0
     ·subst e
      rw[HSs.out] at hs
      injection hs with hs
      subst hs
      exact⟨k1,k2,k3,k4,fun h=>absurd h (by omega)⟩
     ·exact HH.out.2 j s (by omega) hs)
    clear k1 k2 k3 k4
    go_wp2_with fail
    go_quiet (fail)
    go_wp2_with fail
    refine⟨⟨0+1,by omega,by go_num,qh ⟨HKs.out.drewN _,HNx.out⟩⟩,?_⟩
    simp[intOf];try omega
   | succ k0=>
    obtain⟨sp,hsp⟩:∃sp,S[k0]?=some sp:=⟨_,List.getElem?_eq_getElem (by rw[HNs.out];omega)⟩
    obtain⟨as2,sp',hAs2,_,hsp',d0,_⟩:=(HRs.out.rd.keep HK11.out (fun _ h=>h.elim)).sc (show k0<ns by omega)
    obtain rfl:as_=as2:=by injection hAs2
    obtain rfl:sp=sp':=by rw[hsp] at hsp';exact Option.some.inj hsp'
    obtain⟨p1,p2⟩:=sp
    simp only at d0
    have HEp:Hid (endS (S.take (k0+1))=p1):=qh (endS_take hsp)
    have u5:decide ((((k0+1:Nat)):Int)>0)=true:=by first | (simp;done) | (simp;omega)
    have u5b:decide ((k0:Int)+1>0)=true:=by first | (simp;done) | (simp;omega)
    have hz5:IntKind.i64.wrap ((k0:Int)+1 - 1)=(k0:Int):=by rw[show (k0:Int)+1 - 1=k0 by omega];exact IntWalk.i64_in _ (by omega)
    have hz5b:wrap64 ((k0:Int)+1 - 1)=(k0:Int):=by have:=hz5;rwa [IntWalk.i64_left] at this
    have hz6:IntKind.i64.wrap (k0:Int)=(k0:Int):=IntWalk.i64_in _ (by omega)
    have hk0:(k0:Int)<(ns:Int):=by omega
    clear hsp hsp' hAs2
    by_cases k5:p1<s1
    case neg=>
     have HF:Hid (mayMA t (ref,rv,P,S,g)=false):=qh (may_no17 (fun z hz=>k5 (by have:=HIn.out z hz;rw[HEp.out] at this;omega)))
     have u6:decide (s1≤p1)=true:=by simp;omega
     clear k1 k2 k3 k4 k5
     go_wp2_with fail
     go_quiet (fail)
     go_wp2_with fail
     go_ret
     exact⟨by rw[HF.out];rfl,HK11.out.drewN _⟩
    have u6:decide (s1≤p1)=false:=by simp;omega
    have HNx:Hid (∀j s,j<(k0+1)+1→S[j]?=some s→SecK S j s):=qh (fun j s hj hs=>by
     by_cases e:j=(k0+1)
     ·subst e
      rw[HSs.out] at hs
      injection hs with hs
      subst hs
      exact⟨k1,k2,k3,k4,fun _=>by rw[HEp.out];exact k5⟩
     ·exact HH.out.2 j s (by omega) hs)
    clear k1 k2 k3 k4 k5
    go_wp2_with fail
    go_quiet (fail)
    go_wp2_with fail
    refine⟨⟨(k0+1)+1,by omega,by go_num,qh ⟨HKs.out.drewN _,HNx.out⟩⟩,?_⟩
    simp[intOf];try omega
end Go.Proofs.YtpapiojicbbheaaGreatDoor
