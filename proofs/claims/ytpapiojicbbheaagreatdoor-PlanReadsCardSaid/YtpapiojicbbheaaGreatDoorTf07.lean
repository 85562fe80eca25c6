/- Texts of this claim, together: PmD, PlnP, PlcG, PlcK, PnE, SclB, PlnK, PlnL. -/
import Derived.Test.YtpapiojicbbheaaGreatDoorTf06
import Derived.Test.YtpapiojicbbheaaGreatDoorTf02
import Derived.Deep.LoopGhost
import Derived.Test.YtpapiojicbbheaaGreatDoorTf04
import Derived.Test.YtpapiojicbbheaaGreatDoorTf03
import Derived.Test.YtpapiojicbbheaaGreatDoorTf05
import Derived.Test.YtpapiojicbbheaaGreatDoorTf01
import Derived.Test.YtpapiojicbbheaaGreatDoorTf00
import Derived.Deep.RegionLawGrows
namespace Go.Proofs.YtpapiojicbbheaaGreatDoor
open Go.RowKit
theorem chain_path {t:Tp} (hc:checkM t=0) {r:Rt} (hr:r∈t.2.2.2):r.2.1≠[]∧r.2.1.length≤8:=by
 obtain⟨i,hi⟩:=List.mem_iff_getElem?.1 hr
 have hg:=check_good hc hi
 exact⟨(good_of hc hg.err).2.1,hg.few⟩
theorem nextK_mem {t:Tp}{train:Int}{out:List Lk}{may:Rt→Bool}{l:List Lk}{z:Lk×Rt} (h:l.findSome? (nextK t train out may)=some z):z.2∈t.2.2.2:=by
 obtain⟨k,_,hz⟩:=List.exists_of_findSome?_eq_some h
 exact List.mem_of_find?_eq_some (nextK_some hz).2.1
structure ChR (t:Tp) (l:List Lk) (train:Int) (res:List Lk) (k:Nat) (ok:Bool) (out:List Lk) (gone:List Stp):Prop where
  go:ok=true→out≠[]∧gone≠[]∧out.length+k=8∧(chainK t l train k out gone).1=res
  stop:ok=false→out=res
  few:out.length≤8
  len:gone.length≤8*out.length
theorem ChR.start {t:Tp}{l:List Lk}{train:Int}{s:Stp} (hc:checkM t=0):ChR t l train (chainM t l train s) 7 (l.findSome? (nextK t train [] (hasB s))).isSome (match l.findSome? (nextK t train [] (hasB s)) with | none=>[] | some z=>[z.1]) (match l.findSome? (nextK t train [] (hasB s)) with | none=>[] | some z=>z.2.2.1):=by
 unfold chainM
 rw[if_pos hc]
 cases h:l.findSome? (nextK t train [] (hasB s)) with
 | none=>exact⟨fun h=>by simp at h,fun _=>rfl,by simp,by simp⟩
 | some z=>
  obtain⟨h1,h2⟩:=chain_path hc (nextK_mem h)
  exact⟨fun _=>⟨by simp,h1,rfl,rfl⟩,fun h=>by simp at h,by simp,by simpa using h2⟩
theorem ChR.next {t:Tp}{l:List Lk}{train:Int}{res:List Lk}{k:Nat}{out:List Lk}{gone:List Stp} (hc:checkM t=0) (h:ChR t l train res (k+1) true out gone) :
    ChR t l train res k (l.findSome? (nextK t train out (followsB t gone))).isSome (match l.findSome? (nextK t train out (followsB t gone)) with | none=>out | some z=>out++[z.1]) (match l.findSome? (nextK t train out (followsB t gone)) with | none=>gone | some z=>gone++z.2.2.1):=by
  obtain⟨g1,g2,g3,g4⟩:=h.go rfl
  unfold chainK at g4
  have hl:=h.len
  cases hz:l.findSome? (nextK t train out (followsB t gone)) with
  | none=>
   rw[hz] at g4
   exact⟨fun h=>by simp at h,fun _=>g4,h.few,h.len⟩
  | some z=>
   rw[hz] at g4
   obtain⟨h1,h2⟩:=chain_path hc (nextK_mem hz)
   exact⟨fun _=>⟨by simp,by simp[g2],by simp;omega,g4⟩,fun h=>by simp at h,by simp;omega,by simp;omega⟩
theorem ChR.fin {t:Tp}{l:List Lk}{train:Int}{res:List Lk}{k:Nat}{out:List Lk}{gone:List Stp} (h:ChR t l train res k true out gone) (h8:¬out.length<8):out=res:=by
 obtain⟨g1,g2,g3,g4⟩:=h.go rfl
 obtain rfl:k=0:=by omega
 exact g4
set_option maxHeartbeats 8000000 in
set_option maxRecDepth 100000 in
theorem chain_any (x:TA) (t:Tp) (B:Nat) (Al:Option Addr) (nl cl:Nat) (l:List Lk) (train:Int) (s:Stp) (w:World) (h:TpAt w B x t) (hs:TpSmall x t) (hB:B≤w.heap.size) (hl:SpAt w B Al nl cl l) (hnl:nl≤1000000) :
    Calls Tryz.prog 12 #[.agg x.cs,.slice Al nl cl,.int .i64 train,.agg #[.int .i64 s.1,.bool s.2]] w (LksRet (chainM t l train s) w):=by
  have HCh:=qh (fun (W:World) (hk:Keep Never w W)=>check_any x t B W (h.keep hk) hs (Nat.le_trans hB hk.size))
  have HN1:=qh (fun (g:Nat) (lb:Array Value) (p:Rt→Bool) (eg:∀args w,(callFunc g args).run Tryz.prog w=.ok (.enter g args) w) (W:World) (bt bl br bo bg:Nat) (out:List Lk) (gone:List Stp) (hk:Keep Never w W) (h8:out.length≤100) (hg9:gone.length≤10000) (hX:ChX w W x bt bl br bo bg Al nl cl train out gone) (hm:PredRo g lb t p W)=>ch1_any g lb p eg x t B Al nl cl l train w W bt bl br bo bg out gone (h.keep hk) hs (Nat.le_trans hB hk.size) hl hnl h8 hg9 hX hm)
  have HP2:Hid (∀(W:World) (bt bl br bo bg:Nat) (out:List Lk) (gone:List Stp),Keep Never w W→ChX w W x bt bl br bo bg Al nl cl train out gone→gone≠[]→gone.length≤10000→checkM t=0→PredRo 42 #[.pointer (some ⟨bt,0,none⟩),.pointer (some ⟨bg,0,none⟩)] t (followsB t gone) W):=qh (fun W bt bl br bo bg out gone hk hX hg0 hg9 hc V r A n c hV hr hp=>by
   obtain⟨Ao,no,co,Ag,ng,cg,_,hng,hS⟩:=hX
   have hS2:=hS.never hV
   have hpl:=hs.p r hr
   obtain⟨c1,c2⟩:=chain_path hc hr
   exact ch2_any r A n c V.heap.size x t B V.heap.size gone Ag ng cg bt bg V hp c1 (by have:=hp.stp_len;omega) (h.keep (hk.trans hV)) hs (hS2.og.rd) hg0 (by omega) hS2.ft hS2.fg)
  have HSp:=qh hs.p
  have eg1:=enters_of Tryz.func40 (by kernel_rfl) rfl
  have eg3:=enters_of Tryz.func47 (by kernel_rfl) rfl
  have HE2:=qh (enters_of Tryz.func42 (by kernel_rfl) rfl)
  have HE3:=qh eg3
  clear eg3
  obtain⟨s1,s2⟩:=s
  obtain⟨X,hX⟩:∃X,x=X:=⟨_,rfl⟩
  obtain⟨Ae,ne,ce,Aj,nj,cj,Ab,nb,cb,Ar,nr,cr⟩:=x
  simp only[TA.cs] at HCh ⊢
  rw[hX] at HN1 HP2
  have HX:=qh hX
  clear h hs hl hX
  obtain⟨w1,hw1⟩:∃V:World,w.alloc (.cells #[.slice Ae ne ce,.slice Aj nj cj,.slice Ab nb cb,.slice Ar nr cr] 27)=V:=⟨_,rfl⟩
  have zw1:w1.heap.size=w.heap.size+1:=by rw[←hw1];simp
  have kw1:Keep Never w w1:=by rw[←hw1];exact(Keep.refl _ _).alloc _
  have bw1:=Blk.new w 27 #[.slice Ae ne ce,.slice Aj nj cj,.slice Ab nb cb,.slice Ar nr cr]
  rw[hw1] at bw1
  obtain⟨w2,hw2⟩:∃V:World,w1.alloc (.cells #[.slice Al nl cl] 28)=V:=⟨_,rfl⟩
  have zw2:w2.heap.size=w.heap.size+1+1:=by rw[←hw2];simp[zw1]
  have kw2:Keep Never w1 w2:=by rw[←hw2];exact(Keep.refl _ _).alloc _
  have bw2:=Blk.new w1 28 #[.slice Al nl cl]
  rw[hw2,zw1] at bw2
  obtain⟨w3,hw3⟩:∃V:World,w2.alloc (.cells #[.int .i64 train] 3)=V:=⟨_,rfl⟩
  have zw3:w3.heap.size=w.heap.size+1+1+1:=by rw[←hw3];simp[zw2]
  have kw3:Keep Never w2 w3:=by rw[←hw3];exact(Keep.refl _ _).alloc _
  have bw3:=Blk.new w2 3 #[.int .i64 train]
  rw[hw3,zw2] at bw3
  obtain⟨w4,hw4⟩:∃V:World,w3.alloc (.cells #[.int .i64 s1,.bool s2] 30)=V:=⟨_,rfl⟩
  have kw4:Keep Never w3 w4:=by rw[←hw4];exact(Keep.refl _ _).alloc _
  have bw4:=Blk.new w3 30 #[.int .i64 s1,.bool s2]
  rw[hw4,zw3] at bw4
  have HB1:=qh (((bw1.keep kw2 (fun h=>h)).keep kw3 (fun h=>h)).keep kw4 (fun h=>h))
  have HB2:=qh ((bw2.keep kw3 (fun h=>h)).keep kw4 (fun h=>h))
  have HB3:=qh (bw3.keep kw4 (fun h=>h))
  have HB4:=qh bw4
  have HK:=qh (((kw1.trans kw2).trans kw3).trans kw4)
  clear kw1 kw2 kw3 kw4 bw1 bw2 bw3 bw4
  obtain⟨ck,hck⟩:∃z,checkM t=z:=⟨_,rfl⟩
  have HC:=qh (HCh.out w4 HK.out)
  rw[hck] at HC
  have HCk:=qh hck
  clear hck HCh
  obtain⟨y0,y1,y2,y3⟩:=bc4 HB1.out
  go_enter Tryz.func12, Tryz.ntmps12
  go_wp2_with fail
  refine HC.out.mono ?_
  rintro en w5 ⟨rfl,hk5⟩
  have HK5:=qtr HK hk5
  have HT5:=qkb HB1 hk5
  have HL5:=qkb HB2 hk5
  have HR5:=qkb HB3 hk5
  have HS5:=qkb HB4 hk5
  clear hk5 HC y0 y1 y2 y3 HB1 HB2 HB3 HB4 hw1 hw2 hw3 hw4 zw1 zw2 zw3
  by_cases g0:ck=0
  case neg=>
   have t0:(ck != 0)=true:=by simpa using g0
   have HF:Hid (chainM t l train (s1,s2)=[]):=qh (by unfold chainM;rw[if_neg (by rw[HCk.out];exact g0)])
   clear g0
   go_wp2_with fail
   go_ret
   exact⟨none,0,0,rfl,qh (by rw[HF.out];rfl),by rw[HF.out];exact Own.nil _ _ _ _,HK5.out⟩
  have t0:(ck != 0)=false:=by simpa using g0
  have HC0:Hid (checkM t=0):=qh (HCk.out.trans g0)
  clear g0 HCk
  obtain⟨w6,hw6⟩:∃V:World,w5.alloc (.cells #[.slice none 0 0] 28)=V:=⟨_,rfl⟩
  have k6:Keep Never w5 w6:=by rw[←hw6];exact(Keep.refl _ _).alloc _
  have B6:=Blk.new w5 28 #[.slice none 0 0]
  rw[hw6] at B6
  obtain⟨bo,hbo⟩:∃q,w5.heap.size=q:=⟨_,rfl⟩
  rw[hbo] at B6
  have HK6:=qtr HK5 k6
  have HL6:=qkb HL5 k6
  have HT6:=qkb HT5 k6
  have HR6:=qkb HR5 k6
  have HS6:=qkb HS5 k6
  have HO6:=qh B6
  clear k6 B6
  obtain⟨w7,hw7⟩:∃V:World,w6.alloc (.cells #[.slice none 0 0] 35)=V:=⟨_,rfl⟩
  have k7:Keep Never w6 w7:=by rw[←hw7];exact(Keep.refl _ _).alloc _
  have B7:=Blk.new w6 35 #[.slice none 0 0]
  rw[hw7] at B7
  obtain⟨bg,hbg⟩:∃q,w6.heap.size=q:=⟨_,rfl⟩
  rw[hbg] at B7
  have HK7:=qtr HK6 k7
  have HS7:=qkb HS6 k7
  have HX7:Hid (ChX w w7 X w.heap.size (w.heap.size+1) (w.heap.size+1+1) bo bg Al nl cl train [] []):=qh ⟨none,0,0,none,0,0,rfl,rfl,⟨HK7.out,by rw[←HX.out];exact HT6.out.keep k7 (fun h=>h),HL6.out.keep k7 (fun h=>h),HR6.out.keep k7 (fun h=>h),HO6.out.keep k7 (fun h=>h),B7,by simpa[spCells_nil] using Own.nil _ _ _ _,by simpa[stpCells_nil] using Own.nil _ _ _ _,⟨by have:=HK5.out.size;omega,by have:=HK6.out.size;omega⟩,by have:=HL5.out.lt;omega⟩⟩
  clear k7 B7
  have HC:=qh (HN1.out 47 #[.pointer (some ⟨w.heap.size+1+1+1,0,none⟩)] (hasB (s1,s2)) HE3.out w7 w.heap.size (w.heap.size+1) (w.heap.size+1+1) bo bg [] [] HK7.out (by simp) (by simp) HX7.out (fun V r A n c hV hr hp=>ch3_any r A n c V.heap.size (s1,s2) _ V hp (by have h1:=HSp.out r hr;have h2:=hp.stp_len;omega) ((HS7.out.keep hV (fun h=>h)).cell 0) ((HS7.out.keep hV (fun h=>h)).cell 1)))
  have HI0:=qh (ChR.start (l:=l) (train:=train) (s:=(s1,s2)) HC0.out)
  unfold NextRet at HC
  obtain⟨o,ho⟩:∃z,l.findSome? (nextK t train [] (hasB (s1,s2)))=z:=⟨_,rfl⟩
  rw[ho] at HC HI0
  clear ho
  obtain⟨res,hres⟩:∃z,chainM t l train (s1,s2)=z:=⟨_,rfl⟩
  rw[hres] at HI0
  have HRes:=qh hres
  clear hres
  go_wp2_with fail
  refine HC.out.mono ?_
  rintro en w8 ⟨rfl,hx8⟩
  have HI8:Hid (∃out gone,ChR t l train res 7 o.isSome out gone∧ChX w w8 X w.heap.size (w.heap.size+1) (w.heap.size+1+1) bo bg Al nl cl train out gone):=qh (by
   cases o with
   | none=>exact⟨_,_,HI0.out,hx8⟩
   | some z=>exact⟨_,_,HI0.out,hx8⟩)
  clear hx8 HC HI0 hw6 hw7 hbo hbg
  obtain⟨ok,hok⟩:∃z,o.isSome=z:=⟨_,rfl⟩
  rw[hok] at HI8
  (try rw[hok])
  clear hok
  go_wp2_with fail
  go_loopg [13] 7 (fun k okv wr=>∃(ok:Bool) (out:List Lk) (gone:List Stp),okv=.bool ok∧Hid (ChR t l train res k ok out gone∧ChX w wr X w.heap.size (w.heap.size+1) (w.heap.size+1+1) bo bg Al nl cl train out gone))
  case atStart=>
   obtain⟨out,gone,h1,h2⟩:=HI8.out
   exact⟨ok,out,gone,rfl,qh ⟨h1,h2⟩⟩
  case round=>
   obtain⟨ok,out,gone,rfl,HH⟩:=hrel
   obtain⟨Ao,no,co,Ag,ng,cg,hno,hng,hS⟩:=HH.out.2
   have HSr:=qh hS
   have HNo:=qh hno
   have xo:wr.cell? ⟨bo,0,none⟩=some (.slice Ao no co):=hS.fo.cell 0
   clear hS hno hng
   cases ok with
   | false=>
    have HF:Hid (out=res):=qh (HH.out.1.stop rfl)
    go_wp2_with fail
    go_ret
    exact⟨Ao,no,co,rfl,qh (by rw[HRes.out,←HF.out];exact HNo.out),by rw[HRes.out,←HF.out];exact HSr.out.oo,HSr.out.kp⟩
   | true=>
    by_cases g8:no<8
    ·have t8:decide ((no:Int)<8)=true:=by simp;omega
     have t8b:decide (no<8)=true:=by simpa using g8
     have HG:Hid (∃k',gk=k'+1):=qh (by have h1:=(HH.out.1.go rfl).2.2.1;have h2:=HNo.out;exact⟨gk - 1,by omega⟩)
     obtain⟨k',hk'⟩:=HG.out
     subst hk'
     have HI:=qh (HH.out.1.next HC0.out)
     have hgn:=(HH.out.1.go rfl).2.1
     have hfew:=HH.out.1.few
     have hln:=HH.out.1.len
     have HC:=qh (HN1.out 42 #[.pointer (some ⟨w.heap.size,0,none⟩),.pointer (some ⟨bg,0,none⟩)] (followsB t gone) HE2.out wr w.heap.size (w.heap.size+1) (w.heap.size+1+1) bo bg out gone HSr.out.kp (by omega) (by omega) HH.out.2 (HP2.out wr w.heap.size (w.heap.size+1) (w.heap.size+1+1) bo bg out gone HSr.out.kp HH.out.2 hgn (by omega) HC0.out))
     unfold NextRet at HC
     obtain⟨o,ho⟩:∃z,l.findSome? (nextK t train out (followsB t gone))=z:=⟨_,rfl⟩
     rw[ho] at HC HI
     clear ho hgn hfew hln HG g8
     go_wp2_with fail
     refine HC.out.mono ?_
     rintro en w9 ⟨rfl,hx9⟩
     have HI9:Hid (∃out gone,ChR t l train res k' o.isSome out gone∧ChX w w9 X w.heap.size (w.heap.size+1) (w.heap.size+1+1) bo bg Al nl cl train out gone):=qh (by
      cases o with
      | none=>exact⟨_,_,HI.out,hx9⟩
      | some z=>exact⟨_,_,HI.out,hx9⟩)
     obtain⟨ok,hok⟩:∃z,o.isSome=z:=⟨_,rfl⟩
     rw[hok] at HI9
     (try rw[hok])
     clear hok hx9 HC HI xo
     go_wp2_with fail
     go_roundg k'
     case measure=>omega
     case rel=>
      obtain⟨out',gone',h1,h2⟩:=HI9.out
      exact⟨ok,out',gone',rfl,qh ⟨h1,h2⟩⟩
    ·have t8:decide ((no:Int)<8)=false:=by simp;omega
     have t8b:decide (no<8)=false:=by simpa using g8
     have HF:Hid (out=res):=qh (HH.out.1.fin (by rw[←HNo.out];exact g8))
     clear g8
     go_wp2_with fail
     go_ret
     exact⟨Ao,no,co,rfl,qh (by rw[HRes.out,←HF.out];exact HNo.out),by rw[HRes.out,←HF.out];exact HSr.out.oo,HSr.out.kp⟩
end Go.Proofs.YtpapiojicbbheaaGreatDoor

namespace Go.Proofs.YtpapiojicbbheaaGreatDoor
open Go.RowKit
structure Lkd17 (t:Tp) (res:Except Int (List Stp)) (i many:Nat) (path:List Stp) (W:List Int):Prop where
  fst:i=0→many=1∧Fit5 W∧res=(if W.getD 1 0≠1 then .error 20 else match stepL t path W with | .error e=>.error e | .ok p=>linksR t (W.getD 7 0).toNat p (W.drop 8))
  nxt:0<i→LinkFit (many - i) W∧res=linksR t (many - i) path W
  top:i≤many∧many≤32
structure Lkr17 (W:List Int):Prop where
  len:2≤W.length
  on:W.getD 1 0=1→7≤W.length∧(0≤W.getD 2 0∧W.getD 2 0<1024)∧(0≤W.getD 3 0∧W.getD 3 0<16384)
theorem Lkd17.start {t:Tp}{V:List Int}{path:List Stp} (h:Fit5 (V.drop 2)):Lkd17 t (linkedR t path V) 0 1 path (V.drop 2):=⟨fun _=>⟨rfl,h,rfl⟩,fun h=>absurd h (by omega),by omega⟩
theorem Lkd17.done {t:Tp}{res:Except Int (List Stp)}{i many:Nat}{path:List Stp}{W:List Int} (h:Lkd17 t res i many path W) (hi:¬i<many):res=.ok path:=by
 by_cases h0:i=0
 ·have:=(h.fst h0).1;omega
 ·have h1:=(h.nxt (by omega)).2
  rw[show many - i=0 by omega] at h1
  exact h1
theorem Lkd17.has {t:Tp}{res:Except Int (List Stp)}{i many:Nat}{path:List Stp}{W:List Int} (h:Lkd17 t res i many path W) (hi:i<many):Lkr17 W:=by
 by_cases h0:i=0
 ·obtain⟨_,h1,_⟩:=h.fst h0
  exact⟨h1.len,fun hq=>by obtain⟨a,b,c,_⟩:=h1.fst hq;exact⟨by omega,b,c⟩⟩
 ·obtain⟨h1,_⟩:=h.nxt (by omega)
  obtain⟨f,hf⟩:∃f,many - i=f+1:=⟨many - i - 1,by omega⟩
  rw[hf] at h1
  unfold LinkFit at h1
  exact⟨h1.1,fun hq=>by obtain⟨a,b,c,_⟩:=h1.2 hq;exact⟨a,b,c⟩⟩
theorem Lkd17.off {t:Tp}{res:Except Int (List Stp)}{i many:Nat}{path:List Stp}{W:List Int} (h:Lkd17 t res i many path W) (hi:i<many) (hq:W.getD 1 0≠1):res=.error 20:=by
 by_cases h0:i=0
 ·obtain⟨_,_,h1⟩:=h.fst h0
  rw[h1,if_pos hq]
 ·obtain⟨_,h1⟩:=h.nxt (by omega)
  obtain⟨f,hf⟩:∃f,many - i=f+1:=⟨many - i - 1,by omega⟩
  rw[hf] at h1
  rw[h1]
  unfold linksR
  rw[if_pos hq]
theorem Lkd17.err {t:Tp}{res:Except Int (List Stp)}{i many:Nat}{path:List Stp}{W:List Int}{e:Int} (h:Lkd17 t res i many path W) (hi:i<many) (hq:W.getD 1 0=1) (hs:stepL t path W=.error e):res=.error e:=by
 by_cases h0:i=0
 ·obtain⟨_,_,h1⟩:=h.fst h0
  rw[h1,if_neg (by simpa using hq),hs]
 ·obtain⟨_,h1⟩:=h.nxt (by omega)
  obtain⟨f,hf⟩:∃f,many - i=f+1:=⟨many - i - 1,by omega⟩
  rw[hf] at h1
  rw[h1]
  unfold linksR
  rw[if_neg (by simpa using hq),hs]
def manyL (i many:Nat) (W:List Int):Nat:=if i=0 then 1+(W.getD 7 0).toNat else many
def leftL (i:Nat) (W:List Int):List Int:=if i=0 then W.drop 8 else W.drop 7
theorem Lkd17.next {t:Tp}{res:Except Int (List Stp)}{i many:Nat}{path p:List Stp}{W:List Int} (h:Lkd17 t res i many path W) (hi:i<many) (hq:W.getD 1 0=1) (hs:stepL t path W=.ok p):Lkd17 t res (i+1) (manyL i many W) p (leftL i W):=by
 have ht:=h.top
 by_cases h0:i=0
 ·obtain⟨_,hf,h1⟩:=h.fst h0
  obtain⟨_,_,_,h8,h9⟩:=hf.fst hq
  rw[if_neg (by simpa using hq),hs] at h1
  subst h0
  refine⟨fun h=>absurd h (by omega),fun _=>?_,?_⟩
  ·unfold manyL leftL
   rw[if_pos rfl,if_pos rfl,show 1+(W.getD 7 0).toNat - (0+1)=(W.getD 7 0).toNat by omega]
   exact⟨h9,h1⟩
  ·unfold manyL
   rw[if_pos rfl]
   omega
 ·obtain⟨hf,h1⟩:=h.nxt (by omega)
  obtain⟨f,hf2⟩:∃f,many - i=f+1:=⟨many - i - 1,by omega⟩
  rw[hf2] at h1 hf
  unfold LinkFit at hf
  unfold linksR at h1
  rw[if_neg (by simpa using hq),hs] at h1
  refine⟨fun h=>absurd h (by omega),fun _=>?_,?_⟩
  ·unfold manyL leftL
   rw[if_neg h0,if_neg h0,show many - (i+1)=f by omega]
   exact⟨(hf.2 hq).2.2.2,h1⟩
  ·unfold manyL
   rw[if_neg h0]
   omega
theorem Lkd17.room {t:Tp}{res:Except Int (List Stp)}{many:Nat}{path:List Stp}{W:List Int} (h:Lkd17 t res 0 many path W) (hq:W.getD 1 0=1):8≤W.length∧0≤W.getD 7 0∧W.getD 7 0≤31:=by
 obtain⟨_,hf,_⟩:=h.fst rfl
 obtain⟨a,_,_,b,_⟩:=hf.fst hq
 exact⟨a,b.1,b.2⟩
theorem id_sum {W:List Int} (h2:0≤W.getD 2 0∧W.getD 2 0<1024) (h3:0≤W.getD 3 0∧W.getD 3 0<16384):idL W=W.getD 2 0*16384+W.getD 3 0:=by
 unfold idL
 exact or14 _ _ h2.1 (by omega) h3.1 h3.2
theorem step_none {t:Tp}{path:List Stp}{W:List Int} (h:balM t.2.2.1 (idL W)=none):stepL t path W=.error 4:=by
 unfold stepL;rw[h]
theorem step_some {t:Tp}{path:List Stp}{W:List Int}{b:Bl}{last:Stp} (h:balM t.2.2.1 (idL W)=some b) (hl:path.getLast?=some last):stepL t path W=(if b.2.1=last.1 then .ok path else
    if (afterM t last).contains (b.2.1,decide (W.getD 4 0=0))=false then .error 141 else
    if overB path b.2.1=true∨path.length=24 then .error 2 else .ok (path++[(b.2.1,decide (W.getD 4 0=0))])):=by
  unfold stepL;rw[h,hl]
theorem after_may {t:Tp}{a b:Stp} (ha:thereB t.1.length a.1=true) (hb:thereB t.1.length b.1=true):(afterM t a).contains b=mayJ t.2.1 a b:=by
 rw[Bool.eq_iff_iff]
 simp only[List.contains_eq_mem,decide_eq_true_eq]
 rw[afterM_mem]
 exact⟨fun h=>h.2.2,fun h=>⟨ha,hb,h⟩⟩
structure WayI (t:Tp) (path:List Stp):Prop where
  ne:path≠[]
  few:path.length≤24
  there:∀u∈path,thereB t.1.length u.1=true
theorem WayI.snoc {t:Tp}{path:List Stp}{s:Stp} (h:WayI t path) (hs:thereB t.1.length s.1=true) (hl:path.length≠24):WayI t (path++[s]):=by
 refine⟨by simp,by have:=h.few;simp;omega,fun u hu=>?_⟩
 rcases List.mem_append.1 hu with hu | hu
 ·exact h.there u hu
 ·simp at hu;subst hu;exact hs
end Go.Proofs.YtpapiojicbbheaaGreatDoor

namespace Go.Proofs.YtpapiojicbbheaaGreatDoor
open Go.RowKit
theorem way_there {t:Tp}{path:List Stp} (hl:(lenM t path).2=0) {k:Nat}{s:Stp} (h:path[k]?=some s):thereB t.1.length s.1=true:=by
 have h1:=(len_way hl).1
 rw[List.all_eq_true] at h1
 exact h1 s (List.mem_of_getElem? h)
theorem take_not {path:List Stp}{u:Stp}{k:Nat}{s:Stp} (h:path[k]?=some s) (hn:∀x∈path.take k,x≠u) (hs:s≠u):∀x∈path.take (k+1),x≠u:=by
 intro x hx
 obtain⟨h2,h3⟩:=List.getElem?_eq_some_iff.1 h
 rw[List.take_succ_eq_append_getElem h2,h3,List.mem_append,List.mem_singleton] at hx
 rcases hx with hx | rfl
 ·exact hn x hx
 ·exact hs
end Go.Proofs.YtpapiojicbbheaaGreatDoor

namespace Go.Proofs.YtpapiojicbbheaaGreatDoor
open Go.RowKit
set_option maxHeartbeats 8000000 in
set_option maxRecDepth 100000 in
theorem ron_any (x:TA) (t:Tp) (B:Nat) (A:Option Addr) (n c:Nat) (path:List Stp) (e a:Int) (r:Bool) (w:World) (h:TpAt w B x t) (hs:TpSmall x t) (hB:B≤w.heap.size) (hp:repStp.Sl w B A n c path) (hn:n≤100000000) :
    Calls Tryz.prog 172 #[.agg x.cs,.slice A n c,.agg #[.int .i64 e,.int .i64 a,.bool r]] w fun en w'=>en=.returned (.tuple #[.int .i64 (onP t path (e,a,r)).1,.int .i64 (onP t path (e,a,r)).2])∧Keep Never w w':=by
  have HRi:=qh (fun (W:World) (hk:Keep Never w W)=>rright_any x t B e a r W (h.keep hk) hs (Nat.le_trans hB hk.size))
  have HLn:=qh (fun (W:World) (hk:Keep Never w W)=>rlength_any x t B A n c path W (h.keep hk) (hp.keep hk (fun _ h=>h.elim)) hs.j hn)
  have HAh:=qh (fun (W:World) (hk:Keep Never w W)=>rahead_any x t B e a r W (h.keep hk))
  have HED:=qh (fun (W:World) (hk:Keep Never w W) (i:Int) (h0:0≤i) (h1:i<(x.ne:Int))=>edge_at (h.keep hk) h0 h1)
  have HEl:Hid (x.ne=t.1.length):=qh h.e.len
  have HPl:Hid (n=path.length):=qh hp.len
  have HP:=qh hp
  obtain⟨Ae,ne,ce,Aj,nj,cj,Ab,nb,cb,Ar,nr,cr⟩:=x
  simp only[TA.cs] at HRi HLn HAh HED HEl ⊢
  clear h hs hB hp
  obtain⟨w1,hw1⟩:∃V:World,w.alloc (.cells #[.slice Ae ne ce,.slice Aj nj cj,.slice Ab nb cb,.slice Ar nr cr] 27)=V:=⟨_,rfl⟩
  have zw1:w1.heap.size=w.heap.size+1:=by rw[←hw1];simp
  have kw1:Keep Never w w1:=by rw[←hw1];exact(Keep.refl _ _).alloc _
  have bw1:=Blk.new w 27 #[.slice Ae ne ce,.slice Aj nj cj,.slice Ab nb cb,.slice Ar nr cr]
  rw[hw1] at bw1
  obtain⟨w2,hw2⟩:∃V:World,w1.alloc (.cells #[.int .i64 e,.int .i64 a,.bool r] 71)=V:=⟨_,rfl⟩
  have kw2:Keep Never w1 w2:=by rw[←hw2];exact(Keep.refl _ _).alloc _
  have bw2:=Blk.new w1 71 #[.int .i64 e,.int .i64 a,.bool r]
  rw[hw2,zw1] at bw2
  have HB1:=qh (bw1.keep kw2 (fun h=>h))
  have HB2:=qh bw2
  have HK:=qh (kw1.trans kw2)
  clear kw1 kw2 bw1 bw2
  obtain⟨y0,y1,y2,y3⟩:=bc4 HB1.out
  obtain⟨q0,q1,q2⟩:=bc3 HB2.out
  have HC:=qh (HRi.out w2 HK.out)
  clear HRi
  cases hr:rightB t (e,a,r) with
  | false=>
   have HF:Hid (onP t path (e,a,r)=(0,1)):=qh (on_wrong hr)
   rw[hr] at HC
   clear hr
   go_enter Tryz.func172, Tryz.ntmps172
   go_wp2_with fail
   refine HC.out.mono ?_
   rintro en w4 ⟨rfl,hk4⟩
   have HK4:=qtr HK hk4
   clear hk4 HC y0 y1 y2 y3 q0 q1 q2 hw1 hw2 zw1
   go_wp2_with fail
   go_ret2
   exact⟨by rw[HF.out];rfl,HK4.out⟩
  | true=>
   have HR:=qh hr
   rw[hr] at HC
   clear hr
   go_enter Tryz.func172, Tryz.ntmps172
   go_wp2_with fail
   refine HC.out.mono ?_
   rintro en w4 ⟨rfl,hk4⟩
   have HK4:=qtr HK hk4
   have HT4:=qkb HB1 hk4
   have HP4:=qkb HB2 hk4
   clear hk4 HC HB1 HB2 y0 y1 y2 y3 q0 q1 q2 hw1 hw2 zw1
   have HC:=qh (HLn.out w4 HK4.out)
   obtain⟨l1,hl1⟩:∃z,(lenM t path).1=z:=⟨_,rfl⟩
   obtain⟨l2,hl2⟩:∃z,(lenM t path).2=z:=⟨_,rfl⟩
   rw[hl1,hl2] at HC
   have HL2:=qh hl2
   obtain⟨y0,y1,y2,y3⟩:=bc4 HT4.out
   clear HLn hl1 hl2
   by_cases g:l2=0
   case neg=>
    have t0:(l2 != 0)=true:=by simpa using g
    have HF:Hid (onP t path (e,a,r)=(0,l2)):=qh (by rw[on_err HR.out (by rw[HL2.out];exact g),HL2.out])
    clear g
    go_wp2_with fail
    refine HC.out.mono ?_
    rintro en w5 ⟨rfl,hk5⟩
    have HK5:=qtr HK4 hk5
    clear hk5 HC y0 y1 y2 y3
    go_wp2_with fail
    go_ret2
    exact⟨by rw[HF.out];rfl,HK5.out⟩
   subst g
   go_wp2_with fail
   refine HC.out.mono ?_
   rintro en w5 ⟨rfl,hk5⟩
   have HK5:=qtr HK4 hk5
   have HT5:=qkb HT4 hk5
   have HP5:=qkb HP4 hk5
   have HRr:=right_iff.1 HR.out
   have HCk:=qh HRr.1
   have HRin:=qh HRr.2
   clear hk5 HC y0 y1 y2 y3 HT4 HP4 HRr
   go_wp2_with fail
   go_loopw [11,12] (fun sv i wr=>∃k:Nat,k≤n∧i=.int .i64 k∧sv=.int .i64 (sumM t.1 (path.take k))∧Hid (Keep Never w5 wr∧∀s∈path.take k,s≠((e,r):Stp))) (fun _ i _=>n - (intOf i).toNat)
   case atStart=>exact⟨0,by omega,rfl,rfl,qh ⟨Keep.refl _ _,by simp⟩⟩
   case round=>
    obtain⟨k,hk,rfl,rfl,HH⟩:=hrel
    by_cases h0:k<n
    ·have hkz:(k:Int)<(n:Int):=by omega
     have HKr:=qh (HK5.out.trans HH.out.1)
     obtain⟨ad,s,hA,hab,hs,c0,c1,_⟩:=stp_at (HP.out.keep HKr.out (fun _ h=>h.elim)) h0
     subst hA
     obtain⟨s1,s2⟩:=s
     simp only at c0 c1
     have hsum:=sum_in HCk.out HL2.out (i:=k) (by rw[←HPl.out];omega)
     have hth:=way_there HL2.out hs
     have hin:=edge_in HCk.out hth
     unfold thereB at hth
     simp only[Bool.and_eq_true,decide_eq_true_eq] at hth
     rw[←HEl.out] at hth
     have HNx:=qh (sum_next HCk.out HL2.out hs)
     have HHit:=qh (fun (e1:s1=e) (e2:s2=r)=>on_found (p:=(e,a,r)) HR.out HL2.out (i:=k) (by rw[hs,e1,e2]) HH.out.2)
     have HMis:=qh (fun (hne:((s1,s2):Stp)≠(e,r))=>take_not hs HH.out.2 hne)
     obtain⟨S,hS⟩:∃z,sumM t.1 (path.take k)=z:=⟨_,rfl⟩
     rw[hS] at hsum HNx HHit
     rw[hS]
     obtain⟨ad2,j,v,hA2,he,hj,d0,hv⟩:=HED.out wr HKr.out s1 hth.1 hth.2
     subst hA2
     simp only at hin HNx
     rw[hv] at hin HNx
     have HTr:=qh (HT5.out.keep HH.out.1 (fun h=>h))
     have HPr:=qh (HP5.out.keep HH.out.1 (fun h=>h))
     have hjz:(j:Int)<(ne:Int):=by omega
     have hw7:IntKind.i64.wrap (S+v)=S+v:=IntWalk.i64_in _ (by omega)
     have hw7':wrap64 (S+v)=S+v:=by have:=hw7;rwa [IntWalk.i64_left] at this
     have HV:=qh hv
     subst he
     obtain⟨y0,y1,y2,y3⟩:=bc4 HTr.out
     obtain⟨q0,q1,q2⟩:=bc3 HPr.out
     clear hs hS hab hth
     by_cases hq1:(((j:Nat):Int))=e
     ·have tq1:(((j:Nat):Int)==e)=true:=by simpa using hq1
      by_cases hq2:s2=r
      ·have tq2:(s2==r)=true:=by simpa using hq2
       have HF:Hid (onP t path (e,a,r)=(S+alongP t (e,a,r),0)):=qh (HHit.out hq1 hq2)
       have hr1:=HRin.out.1
       unfold thereB at hr1
       simp only[Bool.and_eq_true,decide_eq_true_eq] at hr1
       rw[←HEl.out] at hr1
       have hein:=edge_in HCk.out HRin.out.1
       have hal:=along_in (t:=t) (p:=(e,a,r)) HRin.out.2.1 HRin.out.2.2
       have haa:=ahead_along t (e,a,r)
       simp only at hal hein haa
       have hve:edgeM t e=v:=by rw[←hq1];exact HV.out
       rw[hve] at hal hein haa
       have hrt:=HRin.out.2
       (try simp only at hrt)
       have HA2:=qh (fun (V:World) (hk:Keep Never w V)=>HAh.out V hk hr1.1 hr1.2 (by rw[hve];omega) (by rw[hve];omega) hrt.1 (by rw[hve] at hrt;omega))
       obtain⟨al,hal2⟩:∃z,alongP t (e,a,r)=z:=⟨_,rfl⟩
       rw[hal2] at HF hal haa
       rw[haa] at HA2
       have hwa:wrap64 (S+v - (v - al))=S+al:=by have:=IntWalk.i64_in (S+v - (v - al)) (by omega);rw[IntWalk.i64_left] at this;omega
       clear hq1 hq2 hr1 hein hrt hal2 hin HHit HMis hve haa hal hsum HV
       go_wp2_with fail
       go_quiet (fail)
       go_wp2_with fail
       go_quiet (fail)
       have HK6:=qh ((HKr.out.drewN 1).drewN 1)
       go_wp2_with fail
       refine(HA2.out _ (by first | exact HKr.out.drewN _ | exact(HKr.out.drewN _).drewN _)).mono ?_
       rintro en w7 ⟨rfl,hk7⟩
       have HK7:Hid (Keep Never w w7):=qh (by first | exact(HKr.out.drewN _).trans hk7 | exact((HKr.out.drewN _).drewN _).trans hk7)
       clear hk7 HA2
       go_wp2_with fail
       (try rw[hw7'])
       (try rw[hwa])
       go_ret2
       exact⟨by rw[HF.out];rfl,HK7.out⟩
      ·have tq2:(s2==r)=false:=by simpa using hq2
       have HM:=qh (HMis.out (fun h=>hq2 (by injection h)))
       clear hq1 hq2 hin hsum HHit HMis HV
       go_wp2_with fail
       go_quiet (fail)
       go_wp2_with fail
       go_quiet (fail)
       go_wp2_with fail
       (try rw[hw7'])
       refine⟨⟨k+1,by omega,by go_num,by rw[HNx.out],qh ⟨HH.out.1.drewN _,HM.out⟩⟩,?_⟩
       simp[intOf];try omega
     ·have tq1:(((j:Nat):Int)==e)=false:=by simpa using hq1
      have HM:=qh (HMis.out (fun h=>hq1 (by injection h)))
      clear hq1 hin hsum HHit HMis HV
      go_wp2_with fail
      go_quiet (fail)
      go_wp2_with fail
      go_quiet (fail)
      go_wp2_with fail
      (try rw[hw7'])
      refine⟨⟨k+1,by omega,by go_num,by rw[HNx.out],qh ⟨HH.out.1.drewN _,HM.out⟩⟩,?_⟩
      simp[intOf];try omega
    ·obtain rfl:n=k:=by omega
     have hkz:¬(n:Int)<(n:Int):=by omega
     have HF:Hid (onP t path (e,a,r)=(0,4)):=qh (on_none HR.out HL2.out (fun s hs=>HH.out.2 s (by rw[List.take_of_length_le (by rw[←HPl.out];exact Nat.le_refl _)];exact hs)))
     have HKr:=qh (HK5.out.trans HH.out.1)
     go_wp2_with fail
     go_ret2
     exact⟨by rw[HF.out];rfl,HKr.out⟩
end Go.Proofs.YtpapiojicbbheaaGreatDoor

namespace Go.Proofs.YtpapiojicbbheaaGreatDoor
open Go.RowKit
set_option maxHeartbeats 4000000 in
set_option maxRecDepth 100000 in
theorem rend17_any (B:Nat) (y:MX) (m:Ma) (w:World) (hm:MaAt w B y m) (hn:1≤y.ns) (hn2:y.ns≤100000000) (h0:0≤endS m.2.2.2.1∧endS m.2.2.2.1≤1099511627776) (h1:0≤m.2.2.2.2∧m.2.2.2.2≤1099511627776) :
    Calls Tryz.prog 23 #[.agg (y.vs m)] w fun e w'=>e=.returned (.tuple #[.int .i64 (endS m.2.2.2.1),.int .i64 (endS m.2.2.2.1+m.2.2.2.2)])∧Keep Never w w':=by
  obtain⟨ref,rv,P,S,g⟩:=m
  obtain⟨Ap,np,cp,As,ns,cs⟩:=y
  simp only[MX.vs] at hn hn2 h0 h1 ⊢
  have hl:S.length=ns:=hm.s.len
  obtain⟨k,rfl⟩:∃k,ns=k+1:=⟨ns - 1,by omega⟩
  obtain⟨ad,sl,hA,_,hsl,c0,_⟩:=hm.s.rd.sc (show k<k+1 by omega)
  subst hA
  have hse:endS S=sl.1:=by have h9:=endS_take hsl;rwa [List.take_of_length_le (Nat.le_of_eq hl)] at h9
  obtain⟨s1,s2⟩:=sl
  simp only at c0 hse
  rw[hse]
  rw[hse] at h0
  have HC0:=qh c0
  have HSe:=qh hse
  have hk8:k≤100000000:=by omega
  clear hm hsl hl c0 hse
  obtain⟨w1,hw1⟩:∃V:World,w.alloc (.cells #[.int .i64 ref,.bool rv,.slice Ap np cp,.slice (some ad) (k+1) cs,.int .i64 g] 38)=V:=⟨_,rfl⟩
  have kw1:Keep Never w w1:=by rw[←hw1];exact(Keep.refl _ _).alloc _
  have bw1:=Blk.new w 38 #[.int .i64 ref,.bool rv,.slice Ap np cp,.slice (some ad) (k+1) cs,.int .i64 g]
  rw[hw1] at bw1
  have HB1:=qh bw1
  have HK:=qh kw1
  clear kw1 bw1
  obtain⟨m0,m1,m2,m3,m4⟩:=bc5 HB1.out
  have c0:=keepT HK.out HC0.out
  have hz5:IntKind.i64.wrap ((k:Int)+1 - 1)=(k:Int):=by rw[show (k:Int)+1 - 1=k by omega];exact IntWalk.i64_in _ (by omega)
  have hz5b:wrap64 ((k:Int)+1 - 1)=(k:Int):=by have:=hz5;rwa [IntWalk.i64_left] at this
  have hz6:IntKind.i64.wrap (k:Int)=(k:Int):=IntWalk.i64_in _ (by omega)
  have hza:(k:Int)<(k:Int)+1:=by omega
  have hzb:(0:Int)≤(k:Int)+1:=by omega
  have hzc:((k:Int)+1).toNat=k+1:=by omega
  have t0:((k:Int)+1==0)=false:=by simp;omega
  have hw9:IntKind.i64.wrap (s1+g)=s1+g:=IntWalk.i64_in _ (by omega)
  have hw9b:wrap64 (s1+g)=s1+g:=by have:=hw9;rwa [IntWalk.i64_left] at this
  clear h0 h1
  go_enter Tryz.func23, Tryz.ntmps23
  go_wp2_with fail
  go_quiet (fail)
  go_wp2_with fail
  go_ret2
  exact⟨rfl,HK.out.drewN _⟩
set_option maxHeartbeats 4000000 in
set_option maxRecDepth 100000 in
theorem rbehind17_any (x:TA) (t:Tp) (B:Nat) (y:MX) (m:Ma) (w:World) (h:TpAt w B x t) (hs:TpSmall x t) (hB:B≤w.heap.size) (hm:MaAt w B y m) (hnp:y.np≤100000000) :
    Calls Tryz.prog 131 #[.agg x.cs,.agg (y.vs m)] w fun e w'=>e=.returned (.int .i64 (onP t m.2.2.1 (((balM t.2.2.1 m.1).getD (0,0,0)).2.1,((balM t.2.2.1 m.1).getD (0,0,0)).2.2,m.2.1)).1)∧Keep Never w w':=by
  have HPl:=qh (fun (W:World) (hk:Keep Never w W)=>rplace17_any x t B y m W (h.keep hk) hs.b)
  have HOn:=qh (fun (W:World) (hk:Keep Never w W) (e a:Int) (r:Bool)=>ron_any x t B y.Ap y.np y.cp m.2.2.1 e a r W (h.keep hk) hs (Nat.le_trans hB hk.size) (hm.p.keep hk (fun _ h=>h.elim)) hnp)
  obtain⟨ref,rv,P,S,g⟩:=m
  obtain⟨Ae,ne,ce,Aj,nj,cj,Ab,nb,cb,Ar,nr,cr⟩:=x
  obtain⟨Ap,np,cp,As,ns,cs⟩:=y
  simp only[TA.cs,MX.vs] at HPl HOn ⊢
  clear h hs hB hm hnp
  obtain⟨w1,hw1⟩:∃V:World,w.alloc (.cells #[.slice Ae ne ce,.slice Aj nj cj,.slice Ab nb cb,.slice Ar nr cr] 27)=V:=⟨_,rfl⟩
  have zw1:w1.heap.size=w.heap.size+1:=by rw[←hw1];simp
  have kw1:Keep Never w w1:=by rw[←hw1];exact(Keep.refl _ _).alloc _
  have bw1:=Blk.new w 27 #[.slice Ae ne ce,.slice Aj nj cj,.slice Ab nb cb,.slice Ar nr cr]
  rw[hw1] at bw1
  obtain⟨w2,hw2⟩:∃V:World,w1.alloc (.cells #[.int .i64 ref,.bool rv,.slice Ap np cp,.slice As ns cs,.int .i64 g] 38)=V:=⟨_,rfl⟩
  have kw2:Keep Never w1 w2:=by rw[←hw2];exact(Keep.refl _ _).alloc _
  have bw2:=Blk.new w1 38 #[.int .i64 ref,.bool rv,.slice Ap np cp,.slice As ns cs,.int .i64 g]
  rw[hw2,zw1] at bw2
  have HB1:=qh (bw1.keep kw2 (fun h=>h))
  have HB2:=qh bw2
  have HK:=qh (kw1.trans kw2)
  clear kw1 kw2 bw1 bw2
  have hw:=HPl.out w2 HK.out
  (try simp only at hw)
  obtain⟨⟨b1,b2,b3⟩,hb⟩:∃z,(balM t.2.2.1 ref).getD (0,0,0)=z:=⟨_,rfl⟩
  obtain⟨os,hos⟩:∃z,(balM t.2.2.1 ref).isSome=z:=⟨_,rfl⟩
  rw[hb,hos] at hw
  rw[hb]
  simp only at hw ⊢
  have HC:=qh hw
  clear hw hb hos HPl
  obtain⟨y0,y1,y2,y3⟩:=bc4 HB1.out
  obtain⟨m0,m1,m2,m3,m4⟩:=bc5 HB2.out
  go_enter Tryz.func131, Tryz.ntmps131
  go_wp2_with fail
  refine HC.out.mono ?_
  rintro en w3 ⟨rfl,hk⟩
  have HK3:=qtr HK hk
  have HT3:=qkb HB1 hk
  have HM3:=qkb HB2 hk
  clear hk HC HB1 HB2 HK y0 y1 y2 y3 m0 m1 m2 m3 m4 hw1 hw2 zw1
  go_upto_region 2 with(fail)
  obtain⟨w4,hw4⟩:∃V:World,w3.alloc (.cells #[.int .i64 b2,.int .i64 b3,.bool rv] 71)=V:=⟨_,rfl⟩
  have hk:Keep Never w3 w4:=by rw[←hw4];exact(Keep.refl _ _).alloc _
  have B4:=Blk.new w3 71 #[.int .i64 b2,.int .i64 b3,.bool rv]
  rw[hw4] at B4
  obtain⟨bp,hbp⟩:∃q,w3.heap.size=q:=⟨_,rfl⟩
  rw[hbp] at B4
  rw[hw4,hbp]
  have HP4:=qh B4
  have HK4:=qtr HK3 hk
  have HT4:=qkb HT3 hk
  have HM4:=qkb HM3 hk
  clear hk B4 hw4 hbp HT3 HM3 HK3
  have HC:=qh (HOn.out w4 HK4.out b2 b3 rv)
  obtain⟨⟨o1,o2⟩,ho⟩:∃z,onP t P (b2,b3,rv)=z:=⟨_,rfl⟩
  rw[ho] at HC
  have HF:=qh ho
  clear ho HOn
  obtain⟨y0,y1,y2,y3⟩:=bc4 HT4.out
  obtain⟨q0,q1,q2⟩:=bc3 HP4.out
  have m2:w4.cell? ⟨w.heap.size+1,2,none⟩=some (.slice Ap np cp):=HM4.out.cell 2
  go_wp2_with fail
  refine HC.out.mono ?_
  rintro en w5 ⟨rfl,hk⟩
  have HK5:=qtr HK4 hk
  clear hk HC y0 y1 y2 y3 q0 q1 q2 m2
  go_wp2_with fail
  go_ret
  exact⟨by rw[HF.out];rfl,HK5.out⟩
end Go.Proofs.YtpapiojicbbheaaGreatDoor

namespace Go.Proofs.YtpapiojicbbheaaGreatDoor
open Go.RowKit
set_option maxHeartbeats 4000000 in
set_option maxRecDepth 100000 in
theorem unit_any (s:Int) (w:World) :
    Calls Tryz.prog 24 #[.int .i64 s] w fun e w'=>e=.returned (.int .i64 (unitM s))∧Keep Never w w':=by
  by_cases h0:s=0
  ·subst h0
   have HF:Hid (unitM 0=1):=qh rfl
   go_enter Tryz.func24, Tryz.ntmps24
   go_wp2_with fail
   go_ret
   exact⟨by rw[HF.out];rfl,Keep.refl _ _⟩
  have t0:(s==0)=false:=by simpa using h0
  by_cases h1:s=1
  ·subst h1
   have HF:Hid (unitM 1=10):=qh rfl
   clear h0
   go_enter Tryz.func24, Tryz.ntmps24
   go_wp2_with fail
   go_ret
   exact⟨by rw[HF.out];rfl,Keep.refl _ _⟩
  have t1:(s==1)=false:=by simpa using h1
  by_cases h2:s=2
  ·subst h2
   have HF:Hid (unitM 2=100):=qh rfl
   clear h0 h1
   go_enter Tryz.func24, Tryz.ntmps24
   go_wp2_with fail
   go_ret
   exact⟨by rw[HF.out];rfl,Keep.refl _ _⟩
  have t2:(s==2)=false:=by simpa using h2
  have HF:Hid (unitM s=0):=qh (by unfold unitM;rw[if_neg h0,if_neg h1,if_neg h2])
  clear h0 h1 h2
  go_enter Tryz.func24, Tryz.ntmps24
  go_wp2_with fail
  go_ret
  exact⟨by rw[HF.out];rfl,Keep.refl _ _⟩
set_option maxHeartbeats 4000000 in
set_option maxRecDepth 100000 in
theorem dm_any (n s:Int) (w:World) :
    Calls Tryz.prog 166 #[.int .i64 n,.int .i64 s] w fun e w'=>e=.returned (.tuple #[.int .i64 (dmM n s).1,.int .i64 (dmM n s).2])∧Keep Never w w':=by
  have hr:=unit_range s
  have HC:=qh (unit_any s w)
  have HD:Hid (dmM n s=if unitM s=0 then (0,1) else if n<0∨32766<n then (0,7) else (n*unitM s,0)):=qh rfl
  obtain⟨u,hu⟩:∃z,unitM s=z:=⟨_,rfl⟩
  rw[hu] at HC HD hr
  clear hu
  by_cases h0:u=0
  ·have t0:(u==0)=true:=by simpa using h0
   have HF:Hid (dmM n s=(0,1)):=qh (by rw[HD.out,if_pos h0])
   clear h0 hr
   go_enter Tryz.func166, Tryz.ntmps166
   go_wp2_with fail
   refine HC.out.mono ?_
   rintro en w2 ⟨rfl,hk2⟩
   have HK2:=qh hk2
   clear hk2 HC
   go_wp2_with fail
   go_ret2
   exact⟨by rw[HF.out];rfl,HK2.out⟩
  have t0:(u==0)=false:=by simpa using h0
  by_cases h1:n<0
  ·have t1:decide (n<0)=true:=by simpa using h1
   have HF:Hid (dmM n s=(0,7)):=qh (by rw[HD.out,if_neg h0,if_pos (.inl h1)])
   clear h0 h1 hr
   go_enter Tryz.func166, Tryz.ntmps166
   go_wp2_with fail
   refine HC.out.mono ?_
   rintro en w2 ⟨rfl,hk2⟩
   have HK2:=qh hk2
   clear hk2 HC
   go_wp2_with fail
   go_ret2
   exact⟨by rw[HF.out];rfl,HK2.out⟩
  have t1:decide (n<0)=false:=by simpa using h1
  by_cases h2:n>32766
  ·have t2:decide (n>32766)=true:=by simpa using h2
   have HF:Hid (dmM n s=(0,7)):=qh (by rw[HD.out,if_neg h0,if_pos (.inr h2)])
   clear h0 h1 h2 hr
   go_enter Tryz.func166, Tryz.ntmps166
   go_wp2_with fail
   refine HC.out.mono ?_
   rintro en w2 ⟨rfl,hk2⟩
   have HK2:=qh hk2
   clear hk2 HC
   go_wp2_with fail
   go_ret2
   exact⟨by rw[HF.out];rfl,HK2.out⟩
  have t2:decide (n>32766)=false:=by simpa using h2
  have HF:Hid (dmM n s=(n*u,0)):=qh (by rw[HD.out,if_neg h0,if_neg (by omega)])
  have hm:0≤n*u∧n*u≤32766*100:=⟨Int.mul_nonneg (by omega) hr.1,Int.mul_le_mul (by omega) hr.2 hr.1 (by omega)⟩
  have hw:IntKind.i64.wrap (n*u)=n*u:=IntWalk.i64_in _ (by omega)
  have hw':wrap64 (n*u)=n*u:=by have:=hw;rwa [IntWalk.i64_left] at this
  clear h0 h1 h2 hr hm
  go_enter Tryz.func166, Tryz.ntmps166
  go_wp2_with fail
  refine HC.out.mono ?_
  rintro en w2 ⟨rfl,hk2⟩
  have HK2:=qh hk2
  clear hk2 HC
  go_wp2_with fail
  (try rw[hw'])
  go_ret2
  exact⟨by rw[HF.out];rfl,HK2.out⟩
set_option maxHeartbeats 4000000 in
set_option maxRecDepth 100000 in
theorem scaled_any (d s:Int) (up:Bool) (w:World) :
    Calls Tryz.prog 78 #[.int .i64 d,.int .i64 s,.bool up] w fun e w'=>e=.returned (.tuple #[.int .i64 (scaledM d s up).1,.int .i64 (scaledM d s up).2])∧Keep Never w w':=by
  have hr:=unit_range s
  have HC:=qh (unit_any s w)
  have HD:Hid (scaledM d s up=if unitM s=0 then (0,1) else if d<0∨1099511627776<d then (0,7) else if 32766<raiseM d s up / unitM s then (0,7) else (raiseM d s up / unitM s,0)):=qh rfl
  have HRs0:Hid (raiseM d s up=if up=true then d+(unitM s - 1) else d):=qh rfl
  obtain⟨u,hu⟩:∃z,unitM s=z:=⟨_,rfl⟩
  rw[hu] at HC HD hr HRs0
  clear hu
  by_cases h0:u=0
  ·have t0:(u==0)=true:=by simpa using h0
   have HF:Hid (scaledM d s up=(0,1)):=qh (by rw[HD.out,if_pos h0])
   clear h0 hr
   go_enter Tryz.func78, Tryz.ntmps78
   go_wp2_with fail
   refine HC.out.mono ?_
   rintro en w2 ⟨rfl,hk2⟩
   have HK2:=qh hk2
   clear hk2 HC
   go_wp2_with fail
   go_ret2
   exact⟨by rw[HF.out];rfl,HK2.out⟩
  have t0:(u==0)=false:=by simpa using h0
  have t9:(u != 0)=true:=by simpa using h0
  by_cases h1:d<0
  ·have t1:decide (d<0)=true:=by simpa using h1
   have HF:Hid (scaledM d s up=(0,7)):=qh (by rw[HD.out,if_neg h0,if_pos (.inl h1)])
   clear h0 h1 hr
   go_enter Tryz.func78, Tryz.ntmps78
   go_wp2_with fail
   refine HC.out.mono ?_
   rintro en w2 ⟨rfl,hk2⟩
   have HK2:=qh hk2
   clear hk2 HC
   go_wp2_with fail
   go_ret2
   exact⟨by rw[HF.out];rfl,HK2.out⟩
  have t1:decide (d<0)=false:=by simpa using h1
  by_cases h2:d>1099511627776
  ·have t2:decide (d>1099511627776)=true:=by simpa using h2
   have HF:Hid (scaledM d s up=(0,7)):=qh (by rw[HD.out,if_neg h0,if_pos (.inr h2)])
   clear h0 h1 h2 hr
   go_enter Tryz.func78, Tryz.ntmps78
   go_wp2_with fail
   refine HC.out.mono ?_
   rintro en w2 ⟨rfl,hk2⟩
   have HK2:=qh hk2
   clear hk2 HC
   go_wp2_with fail
   go_ret2
   exact⟨by rw[HF.out];rfl,HK2.out⟩
  have t2:decide (d>1099511627776)=false:=by simpa using h2
  have hw1:IntKind.i64.wrap (u - 1)=u - 1:=IntWalk.i64_in _ (by omega)
  have hw2:IntKind.i64.wrap (d+(u - 1))=d+(u - 1):=IntWalk.i64_in _ (by omega)
  have hw1':wrap64 (u - 1)=u - 1:=by have:=hw1;rwa [IntWalk.i64_left] at this
  have hw2':wrap64 (d+(u - 1))=d+(u - 1):=by have:=hw2;rwa [IntWalk.i64_left] at this
  have hq1:IntKind.i64.wrap (d.tdiv u)=d / u:=wrap_tdiv (by omega) (by omega) (by omega)
  have hq2:IntKind.i64.wrap ((d+(u - 1)).tdiv u)=(d+(u - 1)) / u:=wrap_tdiv (by omega) (by omega) (by omega)
  have hq1':wrap64 (d.tdiv u)=d / u:=by have:=hq1;rwa [IntWalk.i64_left] at this
  have hq2':wrap64 ((d+(u - 1)).tdiv u)=(d+(u - 1)) / u:=by have:=hq2;rwa [IntWalk.i64_left] at this
  have hdiv:True:=trivial
  cases up with
  | true=>
   have HRs:Hid (raiseM d s true=d+(u - 1)):=qh HRs0.out
   clear HRs0
   by_cases h3:(d+(u - 1)) / u>32766
   ·have t3:decide ((d+(u - 1)) / u>32766)=true:=by simpa using h3
    have HF:Hid (scaledM d s true=(0,7)):=qh (by rw[HD.out,if_neg h0,if_neg (by omega)];simp only[HRs.out];rw[if_pos (by omega)])
    clear h1 h2 h3 hr hdiv
    go_enter Tryz.func78, Tryz.ntmps78
    go_wp2_with fail
    refine HC.out.mono ?_
    rintro en w2 ⟨rfl,hk2⟩
    have HK2:=qh hk2
    clear hk2 HC
    go_wp2_with fail
    go_ret2
    exact⟨by rw[HF.out];rfl,HK2.out⟩
   have t3:decide ((d+(u - 1)) / u>32766)=false:=by simpa using h3
   have HF:Hid (scaledM d s true=((d+(u - 1)) / u,0)):=qh (by rw[HD.out,if_neg h0,if_neg (by omega)];simp only[HRs.out];rw[if_neg (by omega)])
   clear h1 h2 h3 hr hdiv
   go_enter Tryz.func78, Tryz.ntmps78
   go_wp2_with fail
   refine HC.out.mono ?_
   rintro en w2 ⟨rfl,hk2⟩
   have HK2:=qh hk2
   clear hk2 HC
   go_wp2_with fail
   go_ret2
   exact⟨by rw[HF.out];rfl,HK2.out⟩
  | false=>
   have HRs:Hid (raiseM d s false=d):=qh HRs0.out
   clear HRs0
   by_cases h3:(d) / u>32766
   ·have t3:decide ((d) / u>32766)=true:=by simpa using h3
    have HF:Hid (scaledM d s false=(0,7)):=qh (by rw[HD.out,if_neg h0,if_neg (by omega)];simp only[HRs.out];rw[if_pos (by omega)])
    clear h1 h2 h3 hr hdiv
    go_enter Tryz.func78, Tryz.ntmps78
    go_wp2_with fail
    refine HC.out.mono ?_
    rintro en w2 ⟨rfl,hk2⟩
    have HK2:=qh hk2
    clear hk2 HC
    go_wp2_with fail
    go_ret2
    exact⟨by rw[HF.out];rfl,HK2.out⟩
   have t3:decide ((d) / u>32766)=false:=by simpa using h3
   have HF:Hid (scaledM d s false=((d) / u,0)):=qh (by rw[HD.out,if_neg h0,if_neg (by omega)];simp only[HRs.out];rw[if_neg (by omega)])
   clear h1 h2 h3 hr hdiv
   go_enter Tryz.func78, Tryz.ntmps78
   go_wp2_with fail
   refine HC.out.mono ?_
   rintro en w2 ⟨rfl,hk2⟩
   have HK2:=qh hk2
   clear hk2 HC
   go_wp2_with fail
   go_ret2
   exact⟨by rw[HF.out];rfl,HK2.out⟩
theorem best_at {d:Int}{k:Nat} (h:∀j:Nat,j<k→(scaledM d (j:Int) true).2≠0) (hk:k<3) (h0:(scaledM d (k:Int) true).2=0):bestM d=(k:Int):=by
 unfold bestM
 match k,hk with
 | 0,_=>exact if_pos h0
 | 1,_=>rw[if_neg (show ¬(scaledM d 0 true).2=0 from h 0 (by omega))];exact if_pos h0
 | 2,_=>rw[if_neg (show ¬(scaledM d 0 true).2=0 from h 0 (by omega)),if_neg (show ¬(scaledM d 1 true).2=0 from h 1 (by omega))];exact if_pos h0
theorem best_no {d:Int} (h:∀j:Nat,j<3→(scaledM d (j:Int) true).2≠0):bestM d=-1:=by
 unfold bestM
 rw[if_neg (show ¬(scaledM d 0 true).2=0 from h 0 (by omega)),if_neg (show ¬(scaledM d 1 true).2=0 from h 1 (by omega)),if_neg (show ¬(scaledM d 2 true).2=0 from h 2 (by omega))]
set_option maxHeartbeats 4000000 in
set_option maxRecDepth 100000 in
theorem best_any (d:Int) (w:World) :
    Calls Tryz.prog 25 #[.int .i64 d] w fun e w'=>e=.returned (.int .i64 (bestM d))∧Keep Never w w':=by
  have HC:=qh (fun (W:World) (s:Int)=>scaled_any d s true W)
  go_enter Tryz.func25, Tryz.ntmps25
  go_wp2_with fail
  go_loopw [6] (fun si wr=>∃k:Nat,k≤3∧si=.int .i64 k∧Hid (Keep Never w wr∧∀j:Nat,j<k→(scaledM d (j:Int) true).2≠0)) (fun si _=>3 - (intOf si).toNat)
  case atStart=>exact⟨0,by omega,rfl,qh ⟨Keep.refl _ _,fun j hj=>absurd hj (by omega)⟩⟩
  case round=>
   obtain⟨k,hk,rfl,HH⟩:=hrel
   by_cases h0:k<3
   ·have hkz:(k:Int)<3:=by omega
    have HCk:=qh (HC.out wr (k:Int))
    obtain⟨a,ha⟩:∃z,(scaledM d (k:Int) true).1=z:=⟨_,rfl⟩
    obtain⟨e,he⟩:∃z,(scaledM d (k:Int) true).2=z:=⟨_,rfl⟩
    rw[ha,he] at HCk
    have HE:=qh he
    clear ha he
    by_cases g:e=0
    ·have t0:(e==0)=true:=by simpa using g
     have HF:Hid (bestM d=(k:Int)):=qh (best_at HH.out.2 (by omega) (HE.out.trans g))
     clear g h0
     go_wp2_with fail
     refine HCk.out.mono ?_
     rintro en w2 ⟨rfl,hk2⟩
     have HK2:=qh (HH.out.1.trans hk2)
     clear hk2 HCk
     go_wp2_with fail
     go_ret
     exact⟨by rw[HF.out];rfl,HK2.out⟩
    ·have t0:(e==0)=false:=by simpa using g
     have HN:Hid (∀j:Nat,j<k+1→(scaledM d (j:Int) true).2≠0):=qh (fun j hj=>by
      rcases Nat.lt_or_ge j k with h | h
      ·exact HH.out.2 j h
      ·obtain rfl:j=k:=by omega
       rw[HE.out];exact g)
     clear g
     go_wp2_with fail
     refine HCk.out.mono ?_
     rintro en w2 ⟨rfl,hk2⟩
     have HK2:=qh (HH.out.1.trans hk2)
     clear hk2 HCk
     go_wp2_with fail
     refine⟨⟨k+1,by omega,by go_num,qh ⟨HK2.out,HN.out⟩⟩,?_⟩
     simp[intOf];try omega
   ·obtain rfl:k=3:=by omega
    have HF:Hid (bestM d=-1):=qh (best_no HH.out.2)
    go_wp2_with fail
    go_ret
    exact⟨by rw[HF.out];rfl,HH.out.1⟩
end Go.Proofs.YtpapiojicbbheaaGreatDoor

namespace Go.Proofs.YtpapiojicbbheaaGreatDoor
open Go.RowKit
def RAt (w:World) (B p:Nat) (v:List Int) (u e:Int):Prop:=∃A n c,Blk w p 165 #[.slice A n c,.int .i64 u,.int .i64 e]∧Rd w B 1 A n (v.map (.int .i64))∧n≤c
theorem RAt.keep {S:Nat→Prop}{w w':World}{B p:Nat}{v:List Int}{u e:Int} (h:RAt w B p v u e) (hk:Keep S w w') (hS:∀k,S k→B≤k∧k≠p):RAt w' B p v u e:=by
 obtain⟨A,n,c,h1,h2,h3⟩:=h
 exact⟨A,n,c,h1.keep hk (fun h=>(hS _ h).2 rfl),h2.keep hk (fun k h=>(hS k h).1),h3⟩
theorem RAt.never {w w':World}{B p:Nat}{v:List Int}{u e:Int} (h:RAt w B p v u e) (hk:Keep Never w w'):RAt w' B p v u e:=h.keep hk (fun _ h=>h.elim)
theorem RAt.lt {w:World}{B p:Nat}{v:List Int}{u e:Int} (h:RAt w B p v u e):p<w.heap.size:=by
 obtain⟨A,n,c,h1,_⟩:=h
 exact h1.lt
theorem rd_tail {w:World}{B n:Nat}{A:Option Addr}{v:List Int} (h:Rd w B 1 A n (v.map (.int .i64))):v.length=n:=by
 have:=h.1
 simpa using this
theorem put1_keep {w:World}{b i:Nat} (v:Value):Keep (fun q=>q=b) w (w.setCell ⟨b,i,none⟩ v):=(Keep.refl (fun q=>q=b) w).set_ (p:=⟨b,i,none⟩) (.inl rfl) v
def OneRet (w:World) (B p:Nat) (v:List Int) (u x:Int) (e:Ending) (w':World):Prop:=e=.returned (.int .i64 (v.headD 0))∧RAt w' B p v.tail u x∧Keep (fun q=>q=p) w w'
set_option maxHeartbeats 4000000 in
set_option maxRecDepth 100000 in
theorem ro_any (p B:Nat) (v:List Int) (u x:Int) (w:World) (h:RAt w B p v u x) (hp:B≤p) :
    Calls Tryz.prog 120 #[.pointer (some ⟨p,0,none⟩)] w (OneRet w B p v u x):=by
  obtain⟨A,n,c,hb,hr,hc⟩:=h
  have hl:=rd_tail hr
  have HB:=qh hb
  have HR:=qh hr
  have HC:=qh hc
  cases v with
  | nil=>
   obtain rfl:n=0:=by simpa using hl.symm
   have c0:w.cell? ⟨p,0,none⟩=some (.slice A 0 c):=HB.out.cell 0
   clear hb hr hc hl
   go_enter Tryz.func120, Tryz.ntmps120
   go_wp2_with fail
   go_ret
   exact⟨rfl,⟨A,0,c,HB.out,HR.out,HC.out⟩,Keep.refl _ _⟩
  | cons x v=>
   have hn0:0<n:=by simp at hl;omega
   have t0:((n:Int)==0)=false:=by simp;omega
   obtain⟨ad,y,hA,_,hy,d0⟩:=hr.at1 hn0
   simp only[List.getElem?_cons_zero,Option.some.injEq] at hy
   subst hy
   subst hA
   have ea:ad.add 0=ad:=by unfold Addr.add;split <;> simp_all
   have d0':=d0
   rw[ea] at d0'
   have f0:=HB.out.frozen 0
   obtain⟨A',c',_,h2,h3,_,_,h6,h7⟩:=run_from Tryz.underlying22 Tryz.sizeOf3 (some ad) n c 1 hn0 1 rfl
   have HR2:=h2 w B _ hc hr
   have HC2:=qh (h3 hc)
   by_cases g:c=1
   ·rw[if_pos g] at h6
    subst h6
    have hcc:c'=0:=by omega
    subst hcc
    have HRx:=qh HR2
    subst g
    have c0:w.cell? ⟨p,0,none⟩=some (.slice (some ad) n 1):=HB.out.cell 0
    clear hb hr hc hl h2 h3 ea HR2 h7
    go_enter Tryz.func120, Tryz.ntmps120
    go_wp2_with fail
    go_ret
    have hk:=put1_keep (w:=w) (b:=p) (i:=0) (.slice (some ad) (n - 1) 0)
    refine⟨rfl,⟨(some ad),n - 1,0,?_,?_,HC2.out⟩,hk⟩
    ·have:=HB.out.set_ 0 (.slice (some ad) (n - 1) 0)
     simpa using this
    ·have h:=HRx.out.keep hk (fun k h=>by omega)
     simpa using h
   ·rw[if_neg g] at h6
    have e1:Option.map (fun z:Addr=>z.add (1*1)) (some ad)=some ⟨ad.block,ad.off+1,none⟩:=by simp[Addr.add]
    rw[e1] at h6
    subst h6
    subst h7
    have HRx:=qh HR2
    have c0:w.cell? ⟨p,0,none⟩=some (.slice (some ad) n c):=HB.out.cell 0
    clear hb hr hc hl h2 h3 ea HR2 e1
    go_enter Tryz.func120, Tryz.ntmps120
    go_wp2_with fail
    go_ret
    have hk:=put1_keep (w:=w) (b:=p) (i:=0) (.slice (some ⟨ad.block,ad.off+1,none⟩) (n - 1) (c - 1))
    refine⟨rfl,⟨(some ⟨ad.block,ad.off+1,none⟩),n - 1,(c - 1),?_,?_,HC2.out⟩,hk⟩
    ·have:=HB.out.set_ 0 (.slice (some ⟨ad.block,ad.off+1,none⟩) (n - 1) (c - 1))
     simpa using this
    ·have h:=HRx.out.keep hk (fun k h=>by omega)
     simpa using h
set_option maxHeartbeats 4000000 in
set_option maxRecDepth 100000 in
theorem fail_any (p B:Nat) (v:List Int) (u e0 x:Int) (w:World) (h:RAt w B p v u e0) (hp:B≤p) :
    Calls Tryz.prog 165 #[.pointer (some ⟨p,0,none⟩),.int .i64 x] w fun e w'=>e=.returned (.tuple #[])∧RAt w' B p v u (failR e0 x)∧Keep (fun q=>q=p) w w':=by
  obtain⟨A,n,c,hb,hr,hc⟩:=h
  have HB:=qh hb
  have HR:=qh hr
  have HC:=qh hc
  have c2:w.cell? ⟨p,2,none⟩=some (.int .i64 e0):=HB.out.cell 2
  have f2:=HB.out.frozen 2
  clear hb hr hc
  by_cases g:e0=0
  ·have t0:(e0==0)=true:=by simpa using g
   have HF:Hid (failR e0 x=x):=qh (if_pos g)
   clear g
   go_enter Tryz.func165, Tryz.ntmps165
   go_wp2_with fail
   (try simp only[Exit.inBlock,Exit.then])
   refine bodyPost_end (results_none rfl _ _ _) rfl ?_
   have hk:=put1_keep (w:=w) (b:=p) (i:=2) (.int .i64 x)
   refine⟨rfl,⟨A,n,c,?_,HR.out.keep hk (fun k h=>by omega),HC.out⟩,hk⟩
   rw[HF.out]
   have:=HB.out.set_ 2 (.int .i64 x)
   simpa using this
  ·have t0:(e0==0)=false:=by simpa using g
   have HF:Hid (failR e0 x=e0):=qh (if_neg g)
   clear g
   go_enter Tryz.func165, Tryz.ntmps165
   go_wp2_with fail
   (try simp only[Exit.inBlock,Exit.then])
   refine bodyPost_end (results_none rfl _ _ _) rfl ?_
   exact⟨rfl,⟨A,n,c,by rw[HF.out];exact HB.out,HR.out,HC.out⟩,Keep.refl _ _⟩
set_option maxHeartbeats 8000000 in
set_option maxRecDepth 100000 in
theorem far_any (p B:Nat) (v:List Int) (u e0:Int) (w:World) (h:RAt w B p v u e0) (hp:B≤p) :
    Calls Tryz.prog 122 #[.pointer (some ⟨p,0,none⟩)] w fun e w'=>e=.returned (.int .i64 (farR u v e0).1)∧RAt w' B p (farR u v e0).2.1 u (farR u v e0).2.2∧Keep (fun q=>q=p) w w':=by
  have HA:=qh h
  have HO:=qh (fun (W:World) (hW:RAt W B p v u e0)=>ro_any p B v u e0 W hW hp)
  have HDm:=qh (fun (W:World)=>dm_any (v.headD 0) u W)
  have HFl:=qh (fun (W:World) (hW:RAt W B p v.tail u e0)=>fail_any p B v.tail u e0 7 W hW hp)
  have c1:w.cell? ⟨p,1,none⟩=some (.int .i64 u):=by obtain⟨A,n,c,hb,_⟩:=h;exact hb.cell 1
  have HD:Hid (farR u v e0=((dmM (v.headD 0) u).1,v.tail,if (dmM (v.headD 0) u).2≠0 then failR e0 7 else e0)):=qh rfl
  obtain⟨d1,hd1⟩:∃z,(dmM (v.headD 0) u).1=z:=⟨_,rfl⟩
  obtain⟨d2,hd2⟩:∃z,(dmM (v.headD 0) u).2=z:=⟨_,rfl⟩
  rw[hd1,hd2] at HDm HD
  obtain⟨hd,hhd⟩:∃z,v.headD 0=z:=⟨_,rfl⟩
  rw[hhd] at HDm
  unfold OneRet at HO
  rw[hhd] at HO
  clear hd1 hd2 hhd h
  go_enter Tryz.func122, Tryz.ntmps122
  go_wp2_with fail
  go_region_law (first
    | (go_simp;refine(HO.out _ (by first | exact HA.out | exact HA.out.drew)).mono ?_;rintro en w3 ⟨rfl,hr3,hk3⟩;have HA3:=qh hr3;have HK3:Hid (Keep (fun q=>q=p) w w3):=qh (by first | exact hk3 | exact hk3.drewL);have m1:w3.cell? ⟨p,1,none⟩=some (.int .i64 u):=(by obtain⟨A,n,c,hb,_⟩:=hr3;exact hb.cell 1);clear hr3 hk3)
    | (go_simp;refine(HDm.out _).mono ?_;rintro en w4 ⟨rfl,hk4⟩;have HA4:=qh (HA3.out.never (by first | exact hk4 | exact hk4.drewL));have HK4:=qh (HK3.out.then_ (by first | exact hk4 | exact hk4.drewL) (fun _ _ h=>False.elim h));clear hk4))
  all_goals
   by_cases g:d2=0
   ·have t0:(d2 != 0)=false:=by simpa using g
    have HF:Hid (farR u v e0=(d1,v.tail,e0)):=qh (by rw[HD.out,if_neg (by simpa using g)])
    clear g
    go_wp2_with fail
    go_ret
    exact⟨by rw[HF.out];rfl,by rw[HF.out];exact HA4.out,HK4.out⟩
   ·have t0:(d2 != 0)=true:=by simpa using g
    have HF:Hid (farR u v e0=(d1,v.tail,failR e0 7)):=qh (by rw[HD.out,if_pos g])
    clear g
    go_wp2_with fail
    refine(HFl.out _ HA4.out).mono ?_
    rintro en w5 ⟨rfl,hr5,hk5⟩
    have HA5:=qh hr5
    have HK5:=qtr HK4 hk5
    clear hr5 hk5
    go_wp2_with fail
    go_ret
    exact⟨by rw[HF.out];rfl,by rw[HF.out];exact HA5.out,HK5.out⟩
end Go.Proofs.YtpapiojicbbheaaGreatDoor

namespace Go.Proofs.YtpapiojicbbheaaGreatDoor
open Go.RowKit
set_option maxRecDepth 100000 in
theorem sc_results {fn:Func}{r:Nat} (h:fn.results=#[.cell r 58]) {w:World}{b:Nat}{v0 v1:Value} (hb:Blk w b 58 #[v0,v1]) (tmps:Array Value) (ht:tmps.getD r undef=.pointer (some ⟨b,0,none⟩)) :
    (results fn tmps).run Tryz.prog w=.ok (.agg #[v0,v1]) w:=by
  have q0:w.cell? ⟨b,0,none⟩=some v0:=hb.cell 0
  have q1:w.cell? ⟨b,1,none⟩=some v1:=hb.cell 1
  have ht':tmps[r]?.getD undef=.pointer (some ⟨b,0,none⟩):=by rw[←Array.getD_eq_getD_getElem?];exact ht
  simp[results,h,ht',go_sem,q0,q1]
theorem RAt.u {w:World}{B p:Nat}{v:List Int}{u e:Int} (h:RAt w B p v u e):w.cell? ⟨p,1,none⟩=some (.int .i64 u):=by obtain⟨A,n,c,hb,_⟩:=h;exact hb.cell 1
theorem RAt.e {w:World}{B p:Nat}{v:List Int}{u e:Int} (h:RAt w B p v u e):w.cell? ⟨p,2,none⟩=some (.int .i64 e):=by obtain⟨A,n,c,hb,_⟩:=h;exact hb.cell 2
theorem sect_no {u from_:Int}{v:List Int}{e:Int} (h:v.tail.headD 0≠1):sectR u from_ v e=⟨(from_+(dmM (v.headD 0) u).1,0),v.tail.tail,if (dmM (v.headD 0) u).2≠0 then failR (failR e 20) 7 else failR e 20⟩:=by
 unfold sectR
 simp only[decide_eq_false h,Bool.false_eq_true,if_false,true_or,if_true]
theorem sect_bad {u from_:Int}{v:List Int}{e:Int} (h:v.tail.headD 0=1) (hb:v.tail.tail.headD 0<1∨1000<v.tail.tail.headD 0∨v.headD 0=0):sectR u from_ v e=⟨(from_+(dmM (v.headD 0) u).1,v.tail.tail.headD 0),v.tail.tail.tail.tail,if (dmM (v.headD 0) u).2≠0 then failR (failR e 20) 7 else failR e 20⟩:=by
 unfold sectR
 simp only[decide_eq_true h,if_true]
 rw[if_pos (Or.inr hb)]
theorem sect_good {u from_:Int}{v:List Int}{e:Int} (h:v.tail.headD 0=1) (hb:¬(v.tail.tail.headD 0<1∨1000<v.tail.tail.headD 0∨v.headD 0=0)):sectR u from_ v e=⟨(from_+(dmM (v.headD 0) u).1,v.tail.tail.headD 0),v.tail.tail.tail.tail,if (dmM (v.headD 0) u).2≠0 then failR e 7 else e⟩:=by
 unfold sectR
 simp only[decide_eq_true h,if_true]
 rw[if_neg (show ¬(true=false∨v.tail.tail.headD 0<1∨1000<v.tail.tail.headD 0∨v.headD 0=0) from fun h=>h.elim (fun h=>Bool.noConfusion h) hb)]
theorem dm_range (n s:Int):0≤(dmM n s).1∧(dmM n s).1≤3276600:=by
 have hr:=unit_range s
 unfold dmM
 split
 ·simp
 split
 ·simp
 ·rename_i h1 h2
  have hn1:n≤32766:=by omega
  have hm:=Int.mul_le_mul hn1 hr.2 hr.1 (by decide:(0:Int)≤32766)
  exact⟨Int.mul_nonneg (by omega) hr.1,by omega⟩
theorem put_two {w:World}{b t:Nat}{u0 u1:Value} (h:Blk w b t #[u0,u1]) (v0 v1:Value):Blk ((w.setCell ⟨b,0,none⟩ v0).setCell ⟨b,1,none⟩ v1) b t #[v0,v1]:=by
 have:=(h.set_ 0 v0).set_ 1 v1
 simpa using this
set_option maxHeartbeats 8000000 in
set_option maxRecDepth 100000 in
theorem sect_any (p B:Nat) (v:List Int) (u from_ e0:Int) (w:World) (h:RAt w B p v u e0) (hp:B≤p) (hf0:0≤from_) (hf1:from_≤1000000000) :
    Calls Tryz.prog 121 #[.pointer (some ⟨p,0,none⟩),.int .i64 from_] w fun e w'=>e=.returned (.agg #[.int .i64 (sectR u from_ v e0).s.1,.int .i64 (sectR u from_ v e0).s.2])∧RAt w' B p (sectR u from_ v e0).v u (sectR u from_ v e0).e∧Keep (fun q=>q=p) w w':=by
  have HO:=qh (fun (W:World) (v:List Int) (e:Int) (hW:RAt W B p v u e)=>ro_any p B v u e W hW hp)
  have HFl:=qh (fun (W:World) (v:List Int) (e x:Int) (hW:RAt W B p v u e)=>fail_any p B v u e x W hW hp)
  have HDm:=qh (fun (W:World)=>dm_any (v.headD 0) u W)
  unfold OneRet at HO
  obtain⟨raw,hraw⟩:∃z,v.headD 0=z:=⟨_,rfl⟩
  obtain⟨q,hq⟩:∃z,v.tail.headD 0=z:=⟨_,rfl⟩
  obtain⟨tm,htm⟩:∃z,v.tail.tail.headD 0=z:=⟨_,rfl⟩
  have HO1:=qh (fun W h=>HO.out W v e0 h)
  have HO2:=qh (fun W h=>HO.out W v.tail e0 h)
  have HO3:=qh (fun W h=>HO.out W v.tail.tail e0 h)
  have HO4:=qh (fun W h=>HO.out W v.tail.tail.tail e0 h)
  rw[hraw] at HO1
  rw[hq] at HO2
  rw[htm] at HO3
  have HXn:=qh (fun h=>sect_no (u:=u) (from_:=from_) (v:=v) (e:=e0) h)
  have HXb:=qh (fun h hb=>sect_bad (u:=u) (from_:=from_) (v:=v) (e:=e0) h hb)
  have HXg:=qh (fun h hb=>sect_good (u:=u) (from_:=from_) (v:=v) (e:=e0) h hb)
  have hdr:=dm_range (v.headD 0) u
  obtain⟨d1,hd1⟩:∃z,(dmM (v.headD 0) u).1=z:=⟨_,rfl⟩
  obtain⟨d2,hd2⟩:∃z,(dmM (v.headD 0) u).2=z:=⟨_,rfl⟩
  rw[hd1,hd2] at HDm HXn HXb HXg
  rw[hd1] at hdr
  rw[hraw] at HDm
  rw[hq] at HXn HXb HXg
  rw[hraw,htm] at HXb HXg
  have HWr:Hid (wrap64 (from_+d1)=from_+d1):=qh (by have:=IntWalk.i64_in (from_+d1) (by omega);rwa [IntWalk.i64_left] at this)
  have HpL:=h.lt
  clear hd1 hd2 hdr hraw hq htm HO
  obtain⟨w1,hw1⟩:∃V:World,w.alloc (.cells #[.int .i64 0,.int .i64 0] 58)=V:=⟨_,rfl⟩
  have k1:Keep Never w w1:=by rw[←hw1];exact(Keep.refl _ _).alloc _
  have b1:=Blk.new w 58 #[.int .i64 0,.int .i64 0]
  rw[hw1] at b1
  obtain⟨br,hbr⟩:∃q,w.heap.size=q:=⟨_,rfl⟩
  rw[hbr] at b1
  have HA1:=qh (h.never k1)
  have HK1:Hid (Keep (fun q=>q=p) w w1):=qh (k1.mono (fun _ _ h=>False.elim h))
  have HR1:=qh b1
  have HNe:Hid (¬br=p∧B≤br):=qh ⟨by omega,by omega⟩
  have HBr:Hid (w.heap.size=br):=qh hbr
  have HPl:=qh HpL
  clear k1 b1 h HpL
  go_enter Tryz.func121, Tryz.ntmps121
  go_wp2_with fail
  clear hw1 hbr
  refine(HO1.out w1 HA1.out).mono ?_
  rintro en w2 ⟨rfl,hr,hk⟩
  have HA2:=qh hr
  have HK2:=qtr HK1 hk
  have HR2:=qh (HR1.out.keep hk HNe.out.1)
  clear hr hk
  go_wp2_with fail
  refine(HO2.out w2 HA2.out).mono ?_
  rintro en w3 ⟨rfl,hr,hk⟩
  have HA3:=qh hr
  have HK3:=qtr HK2 hk
  have HR3:=qh (HR2.out.keep hk HNe.out.1)
  clear hr hk
  by_cases gq:q=1
  case neg=>
   have tq:(q==1)=false:=by simpa using gq
   have HX:=qh (HXn.out gq)
   clear gq
   have y0:(w3.alloc (.cells #[.int .i64 0,.int .i64 0] 58)).cell? ⟨w3.heap.size,0,none⟩=some (.int .i64 0):=(Blk.new w3 58 #[.int .i64 0,.int .i64 0]).cell 0
   have yf0:(w3.alloc (.cells #[.int .i64 0,.int .i64 0] 58)).frozen? ⟨w3.heap.size,0,none⟩=false:=(Blk.new w3 58 #[.int .i64 0,.int .i64 0]).frozen 0
   have y1:(w3.alloc (.cells #[.int .i64 0,.int .i64 0] 58)).cell? ⟨w3.heap.size,1,none⟩=some (.int .i64 0):=(Blk.new w3 58 #[.int .i64 0,.int .i64 0]).cell 1
   have yf1:(w3.alloc (.cells #[.int .i64 0,.int .i64 0] 58)).frozen? ⟨w3.heap.size,1,none⟩=false:=(Blk.new w3 58 #[.int .i64 0,.int .i64 0]).frozen 1
   go_upto_region 4 with(fail)
   obtain⟨w4,hW⟩:∃V:World,w3.alloc (.cells #[.int .i64 0,.int .i64 0] 58)=V:=⟨_,rfl⟩
   have k1:Keep Never w3 w4:=by rw[←hW];exact(Keep.refl _ _).alloc _
   have b1:=Blk.new w3 58 #[.int .i64 0,.int .i64 0]
   rw[hW] at b1 ⊢
   obtain⟨bs,hbs⟩:∃q,w3.heap.size=q:=⟨_,rfl⟩
   rw[hbs] at b1 ⊢
   have HLo:Hid (w.heap.size≤br∧w.heap.size≤bs):=qh ⟨by have:=HBr.out;omega,by rw[←hbs];exact HK3.out.size⟩
   have HNs:Hid (¬bs=p∧¬br=bs∧B≤bs):=qh ⟨by have:=HA3.out.lt;omega,by have:=HR3.out.lt;omega,by have:=HA3.out.lt;omega⟩
   have HA4:=qh (HA3.out.never k1)
   have HK4:=qh (HK3.out.then_ k1 (fun _ _ h=>False.elim h))
   have HR4:=qkb HR3 k1
   have HS4:=qh b1
   clear k1 b1 hW hbs y0 y1 yf0 yf1
   have z0:w4.cell? ⟨bs,0,none⟩=some (.int .i64 0):=HS4.out.cell 0
   have zf0:=HS4.out.frozen 0
   have z1:w4.cell? ⟨bs,1,none⟩=some (.int .i64 0):=HS4.out.cell 1
   have zf1:=HS4.out.frozen 1
   go_wp2_with fail
   clear z0 z1 zf0 zf1
   refine(HFl.out w4 v.tail.tail e0 20 HA4.out).mono ?_
   rintro en w5 ⟨rfl,hr,hk⟩
   have HA5:=qh hr
   have HK5:=qtr HK4 hk
   have HR5:=qh (HR4.out.keep hk HNe.out.1)
   have HS5:=qh (HS4.out.keep hk HNs.out.1)
   clear hr hk
   have m1:w5.cell? ⟨p,1,none⟩=some (.int .i64 u):=HA5.out.u
   go_wp2_with fail
   clear m1
   refine(HDm.out w5).mono ?_
   rintro en w6 ⟨rfl,hk⟩
   have HA6:=qh (HA5.out.never hk)
   have HK6:=qh (HK5.out.then_ hk (fun _ _ h=>False.elim h))
   have HR6:=qkb HR5 hk
   have HS6:=qkb HS5 hk
   clear hk
   by_cases gd:d2=0
   ·have td:(d2 != 0)=false:=by simpa using gd
    have HF:Hid (sectR u from_ v e0=⟨(from_+d1,0),v.tail.tail,(failR e0 20)⟩):=qh (by rw[HX.out,if_neg (by simpa using gd)])
    clear gd
    have z0:w6.cell? ⟨bs,0,none⟩=some (.int .i64 0):=HS6.out.cell 0
    have zf0:=HS6.out.frozen 0
    have z1:w6.cell? ⟨bs,1,none⟩=some (.int .i64 0):=HS6.out.cell 1
    have zf1:=HS6.out.frozen 1
    go_upto_region 13 with(fail)
    (try rw[HWr.out])
    obtain⟨wz,hW⟩:∃V:World,w6.setCell ⟨bs,0,none⟩ (.int .i64 (from_+d1))=V:=⟨_,rfl⟩
    rw[hW]
    have k1:Keep (fun q=>q=bs) w6 wz:=by rw[←hW];exact put1_keep _
    have HA50:=qh (HA6.out.keep k1 (fun k h=>by subst h;exact⟨HNs.out.2.2,HNs.out.1⟩))
    have HK50:=qh (HK6.out.then_ k1 (fun i hi h=>by subst h;have:=HLo.out.2;omega))
    have HR50:=qh (HR6.out.keep k1 HNs.out.2.1)
    have HS50:Hid (Blk wz bs 58 #[.int .i64 (from_+d1),.int .i64 0]):=qh (by rw[←hW];have:=HS6.out.set_ 0 (.int .i64 (from_+d1));simpa using this)
    clear hW k1 z0 z1 zf0 zf1
    have z0:wz.cell? ⟨bs,0,none⟩=some (.int .i64 (from_+d1)):=HS50.out.cell 0
    have zf0:=HS50.out.frozen 0
    have z1:wz.cell? ⟨bs,1,none⟩=some (.int .i64 0):=HS50.out.cell 1
    have zf1:=HS50.out.frozen 1
    have r0:wz.cell? ⟨br,0,none⟩=some (.int .i64 0):=HR50.out.cell 0
    have rf0:=HR50.out.frozen 0
    have r1:wz.cell? ⟨br,1,none⟩=some (.int .i64 0):=HR50.out.cell 1
    have rf1:=HR50.out.frozen 1
    go_wp2_with fail
    (try simp only[Exit.inBlock,Exit.then])
    have ha2:=HA50.out.keep (S:=fun q=>q=br) ((Keep.refl (fun q=>q=br) wz).set_ (p:=⟨br,0,none⟩) (.inl rfl) (.int .i64 (from_+d1))) (fun k (h:k=br)=>by rw[h];exact⟨HNe.out.2,HNe.out.1⟩)
    have ha3:=ha2.keep (S:=fun q=>q=br) ((Keep.refl (fun q=>q=br) _).set_ (p:=⟨br,1,none⟩) (.inl rfl) (.int .i64 0)) (fun k (h:k=br)=>by rw[h];exact⟨HNe.out.2,HNe.out.1⟩)
    refine bodyPost_ret (sc_results (fn:=Tryz.f121) (r:=4) rfl (put_two HR50.out (.int .i64 (from_+d1)) (.int .i64 0)) _ rfl) rfl ⟨by rw[HF.out],by rw[HF.out];exact ha3,?_⟩
    exact(HK50.out.set_ (p:=⟨br,0,none⟩) (.inr HLo.out.1) _).set_ (p:=⟨br,1,none⟩) (.inr HLo.out.1) _
   ·have td:(d2 != 0)=true:=by simpa using gd
    have HF:Hid (sectR u from_ v e0=⟨(from_+d1,0),v.tail.tail,failR (failR e0 20) 7⟩):=qh (by rw[HX.out,if_pos gd])
    clear gd
    go_wp2_with fail
    refine(HFl.out w6 v.tail.tail (failR e0 20) 7 HA6.out).mono ?_
    rintro en w7 ⟨rfl,hr,hk⟩
    have HA7:=qh hr
    have HK7:=qtr HK6 hk
    have HR7:=qh (HR6.out.keep hk HNe.out.1)
    have HS7:=qh (HS6.out.keep hk HNs.out.1)
    clear hr hk
    have z0:w7.cell? ⟨bs,0,none⟩=some (.int .i64 0):=HS7.out.cell 0
    have zf0:=HS7.out.frozen 0
    have z1:w7.cell? ⟨bs,1,none⟩=some (.int .i64 0):=HS7.out.cell 1
    have zf1:=HS7.out.frozen 1
    go_upto_region 13 with(fail)
    (try rw[HWr.out])
    obtain⟨wz,hW⟩:∃V:World,w7.setCell ⟨bs,0,none⟩ (.int .i64 (from_+d1))=V:=⟨_,rfl⟩
    rw[hW]
    have k1:Keep (fun q=>q=bs) w7 wz:=by rw[←hW];exact put1_keep _
    have HA50:=qh (HA7.out.keep k1 (fun k h=>by subst h;exact⟨HNs.out.2.2,HNs.out.1⟩))
    have HK50:=qh (HK7.out.then_ k1 (fun i hi h=>by subst h;have:=HLo.out.2;omega))
    have HR50:=qh (HR7.out.keep k1 HNs.out.2.1)
    have HS50:Hid (Blk wz bs 58 #[.int .i64 (from_+d1),.int .i64 0]):=qh (by rw[←hW];have:=HS7.out.set_ 0 (.int .i64 (from_+d1));simpa using this)
    clear hW k1 z0 z1 zf0 zf1
    have z0:wz.cell? ⟨bs,0,none⟩=some (.int .i64 (from_+d1)):=HS50.out.cell 0
    have zf0:=HS50.out.frozen 0
    have z1:wz.cell? ⟨bs,1,none⟩=some (.int .i64 0):=HS50.out.cell 1
    have zf1:=HS50.out.frozen 1
    have r0:wz.cell? ⟨br,0,none⟩=some (.int .i64 0):=HR50.out.cell 0
    have rf0:=HR50.out.frozen 0
    have r1:wz.cell? ⟨br,1,none⟩=some (.int .i64 0):=HR50.out.cell 1
    have rf1:=HR50.out.frozen 1
    go_wp2_with fail
    (try simp only[Exit.inBlock,Exit.then])
    have ha2:=HA50.out.keep (S:=fun q=>q=br) ((Keep.refl (fun q=>q=br) wz).set_ (p:=⟨br,0,none⟩) (.inl rfl) (.int .i64 (from_+d1))) (fun k (h:k=br)=>by rw[h];exact⟨HNe.out.2,HNe.out.1⟩)
    have ha3:=ha2.keep (S:=fun q=>q=br) ((Keep.refl (fun q=>q=br) _).set_ (p:=⟨br,1,none⟩) (.inl rfl) (.int .i64 0)) (fun k (h:k=br)=>by rw[h];exact⟨HNe.out.2,HNe.out.1⟩)
    refine bodyPost_ret (sc_results (fn:=Tryz.f121) (r:=4) rfl (put_two HR50.out (.int .i64 (from_+d1)) (.int .i64 0)) _ rfl) rfl ⟨by rw[HF.out],by rw[HF.out];exact ha3,?_⟩
    exact(HK50.out.set_ (p:=⟨br,0,none⟩) (.inr HLo.out.1) _).set_ (p:=⟨br,1,none⟩) (.inr HLo.out.1) _
  have tq:(q==1)=true:=by simpa using gq
  have y0:(w3.alloc (.cells #[.int .i64 0,.int .i64 0] 58)).cell? ⟨w3.heap.size,0,none⟩=some (.int .i64 0):=(Blk.new w3 58 #[.int .i64 0,.int .i64 0]).cell 0
  have yf0:(w3.alloc (.cells #[.int .i64 0,.int .i64 0] 58)).frozen? ⟨w3.heap.size,0,none⟩=false:=(Blk.new w3 58 #[.int .i64 0,.int .i64 0]).frozen 0
  have y1:(w3.alloc (.cells #[.int .i64 0,.int .i64 0] 58)).cell? ⟨w3.heap.size,1,none⟩=some (.int .i64 0):=(Blk.new w3 58 #[.int .i64 0,.int .i64 0]).cell 1
  have yf1:(w3.alloc (.cells #[.int .i64 0,.int .i64 0] 58)).frozen? ⟨w3.heap.size,1,none⟩=false:=(Blk.new w3 58 #[.int .i64 0,.int .i64 0]).frozen 1
  go_upto_region 4 with(fail)
  obtain⟨w4,hW⟩:∃V:World,w3.alloc (.cells #[.int .i64 0,.int .i64 0] 58)=V:=⟨_,rfl⟩
  have k1:Keep Never w3 w4:=by rw[←hW];exact(Keep.refl _ _).alloc _
  have b1:=Blk.new w3 58 #[.int .i64 0,.int .i64 0]
  rw[hW] at b1 ⊢
  obtain⟨bs,hbs⟩:∃q,w3.heap.size=q:=⟨_,rfl⟩
  rw[hbs] at b1 ⊢
  have HLo:Hid (w.heap.size≤br∧w.heap.size≤bs):=qh ⟨by have:=HBr.out;omega,by rw[←hbs];exact HK3.out.size⟩
  have HNs:Hid (¬bs=p∧¬br=bs∧B≤bs):=qh ⟨by have:=HA3.out.lt;omega,by have:=HR3.out.lt;omega,by have:=HA3.out.lt;omega⟩
  have HA4:=qh (HA3.out.never k1)
  have HK4:=qh (HK3.out.then_ k1 (fun _ _ h=>False.elim h))
  have HR4:=qkb HR3 k1
  have HS4:=qh b1
  clear k1 b1 hW hbs y0 y1 yf0 yf1
  have z0:w4.cell? ⟨bs,0,none⟩=some (.int .i64 0):=HS4.out.cell 0
  have zf0:=HS4.out.frozen 0
  have z1:w4.cell? ⟨bs,1,none⟩=some (.int .i64 0):=HS4.out.cell 1
  have zf1:=HS4.out.frozen 1
  go_wp2_with fail
  clear z0 z1 zf0 zf1
  refine(HO3.out w4 HA4.out).mono ?_
  rintro en w5 ⟨rfl,hr,hk⟩
  have HA5:=qh hr
  have HK5:=qtr HK4 hk
  have HR5:=qh (HR4.out.keep hk HNe.out.1)
  have HS5:=qh (HS4.out.keep hk HNs.out.1)
  clear hr hk
  have z0:w5.cell? ⟨bs,0,none⟩=some (.int .i64 0):=HS5.out.cell 0
  have zf0:=HS5.out.frozen 0
  have z1:w5.cell? ⟨bs,1,none⟩=some (.int .i64 0):=HS5.out.cell 1
  have zf1:=HS5.out.frozen 1
  go_upto_region 6 with(fail)
  obtain⟨w6,hW⟩:∃V:World,w5.setCell ⟨bs,1,none⟩ (.int .i64 tm)=V:=⟨_,rfl⟩
  rw[hW]
  have k1:Keep (fun q=>q=bs) w5 w6:=by rw[←hW];exact put1_keep _
  have HA6:=qh (HA5.out.keep k1 (fun k h=>by subst h;exact⟨HNs.out.2.2,HNs.out.1⟩))
  have HK6:=qh (HK5.out.then_ k1 (fun i hi h=>by subst h;have:=HLo.out.2;omega))
  have HR6:=qh (HR5.out.keep k1 HNs.out.2.1)
  have HS6:Hid (Blk w6 bs 58 #[.int .i64 0,.int .i64 tm]):=qh (by rw[←hW];have:=HS5.out.set_ 1 (.int .i64 tm);simpa using this)
  clear hW k1 z0 z1 zf0 zf1
  go_wp2_with fail
  refine(HO4.out w6 HA6.out).mono ?_
  rintro en w7 ⟨rfl,hr,hk⟩
  have HA7:=qh hr
  have HK7:=qtr HK6 hk
  have HR7:=qh (HR6.out.keep hk HNe.out.1)
  have HS7:=qh (HS6.out.keep hk HNs.out.1)
  clear hr hk
  have z0:w7.cell? ⟨bs,0,none⟩=some (.int .i64 0):=HS7.out.cell 0
  have zf0:=HS7.out.frozen 0
  have z1:w7.cell? ⟨bs,1,none⟩=some (.int .i64 tm):=HS7.out.cell 1
  have zf1:=HS7.out.frozen 1
  by_cases g0:tm<1
  ·have u0:decide (tm<1)=true:=by simpa using g0
   have HX:=qh (HXb.out gq (.inl g0))
   clear gq g0
   go_wp2_with fail
   clear z0 z1 zf0 zf1
   refine(HFl.out w7 v.tail.tail.tail.tail e0 20 HA7.out).mono ?_
   rintro en w8 ⟨rfl,hr,hk⟩
   have HA8:=qh hr
   have HK8:=qtr HK7 hk
   have HR8:=qh (HR7.out.keep hk HNe.out.1)
   have HS8:=qh (HS7.out.keep hk HNs.out.1)
   clear hr hk
   have m1:w8.cell? ⟨p,1,none⟩=some (.int .i64 u):=HA8.out.u
   go_wp2_with fail
   clear m1
   refine(HDm.out w8).mono ?_
   rintro en w9 ⟨rfl,hk⟩
   have HA9:=qh (HA8.out.never hk)
   have HK9:=qh (HK8.out.then_ hk (fun _ _ h=>False.elim h))
   have HR9:=qkb HR8 hk
   have HS9:=qkb HS8 hk
   clear hk
   by_cases gd:d2=0
   ·have td:(d2 != 0)=false:=by simpa using gd
    have HF:Hid (sectR u from_ v e0=⟨(from_+d1,tm),v.tail.tail.tail.tail,(failR e0 20)⟩):=qh (by rw[HX.out,if_neg (by simpa using gd)])
    clear gd
    have z0:w9.cell? ⟨bs,0,none⟩=some (.int .i64 0):=HS9.out.cell 0
    have zf0:=HS9.out.frozen 0
    have z1:w9.cell? ⟨bs,1,none⟩=some (.int .i64 tm):=HS9.out.cell 1
    have zf1:=HS9.out.frozen 1
    go_upto_region 13 with(fail)
    (try rw[HWr.out])
    obtain⟨wz,hW⟩:∃V:World,w9.setCell ⟨bs,0,none⟩ (.int .i64 (from_+d1))=V:=⟨_,rfl⟩
    rw[hW]
    have k1:Keep (fun q=>q=bs) w9 wz:=by rw[←hW];exact put1_keep _
    have HA50:=qh (HA9.out.keep k1 (fun k h=>by subst h;exact⟨HNs.out.2.2,HNs.out.1⟩))
    have HK50:=qh (HK9.out.then_ k1 (fun i hi h=>by subst h;have:=HLo.out.2;omega))
    have HR50:=qh (HR9.out.keep k1 HNs.out.2.1)
    have HS50:Hid (Blk wz bs 58 #[.int .i64 (from_+d1),.int .i64 tm]):=qh (by rw[←hW];have:=HS9.out.set_ 0 (.int .i64 (from_+d1));simpa using this)
    clear hW k1 z0 z1 zf0 zf1
    have z0:wz.cell? ⟨bs,0,none⟩=some (.int .i64 (from_+d1)):=HS50.out.cell 0
    have zf0:=HS50.out.frozen 0
    have z1:wz.cell? ⟨bs,1,none⟩=some (.int .i64 tm):=HS50.out.cell 1
    have zf1:=HS50.out.frozen 1
    have r0:wz.cell? ⟨br,0,none⟩=some (.int .i64 0):=HR50.out.cell 0
    have rf0:=HR50.out.frozen 0
    have r1:wz.cell? ⟨br,1,none⟩=some (.int .i64 0):=HR50.out.cell 1
    have rf1:=HR50.out.frozen 1
    go_wp2_with fail
    (try simp only[Exit.inBlock,Exit.then])
    have ha2:=HA50.out.keep (S:=fun q=>q=br) ((Keep.refl (fun q=>q=br) wz).set_ (p:=⟨br,0,none⟩) (.inl rfl) (.int .i64 (from_+d1))) (fun k (h:k=br)=>by rw[h];exact⟨HNe.out.2,HNe.out.1⟩)
    have ha3:=ha2.keep (S:=fun q=>q=br) ((Keep.refl (fun q=>q=br) _).set_ (p:=⟨br,1,none⟩) (.inl rfl) (.int .i64 tm)) (fun k (h:k=br)=>by rw[h];exact⟨HNe.out.2,HNe.out.1⟩)
    refine bodyPost_ret (sc_results (fn:=Tryz.f121) (r:=4) rfl (put_two HR50.out (.int .i64 (from_+d1)) (.int .i64 tm)) _ rfl) rfl ⟨by rw[HF.out],by rw[HF.out];exact ha3,?_⟩
    exact(HK50.out.set_ (p:=⟨br,0,none⟩) (.inr HLo.out.1) _).set_ (p:=⟨br,1,none⟩) (.inr HLo.out.1) _
   ·have td:(d2 != 0)=true:=by simpa using gd
    have HF:Hid (sectR u from_ v e0=⟨(from_+d1,tm),v.tail.tail.tail.tail,failR (failR e0 20) 7⟩):=qh (by rw[HX.out,if_pos gd])
    clear gd
    go_wp2_with fail
    refine(HFl.out w9 v.tail.tail.tail.tail (failR e0 20) 7 HA9.out).mono ?_
    rintro en w10 ⟨rfl,hr,hk⟩
    have HA10:=qh hr
    have HK10:=qtr HK9 hk
    have HR10:=qh (HR9.out.keep hk HNe.out.1)
    have HS10:=qh (HS9.out.keep hk HNs.out.1)
    clear hr hk
    have z0:w10.cell? ⟨bs,0,none⟩=some (.int .i64 0):=HS10.out.cell 0
    have zf0:=HS10.out.frozen 0
    have z1:w10.cell? ⟨bs,1,none⟩=some (.int .i64 tm):=HS10.out.cell 1
    have zf1:=HS10.out.frozen 1
    go_upto_region 13 with(fail)
    (try rw[HWr.out])
    obtain⟨wz,hW⟩:∃V:World,w10.setCell ⟨bs,0,none⟩ (.int .i64 (from_+d1))=V:=⟨_,rfl⟩
    rw[hW]
    have k1:Keep (fun q=>q=bs) w10 wz:=by rw[←hW];exact put1_keep _
    have HA50:=qh (HA10.out.keep k1 (fun k h=>by subst h;exact⟨HNs.out.2.2,HNs.out.1⟩))
    have HK50:=qh (HK10.out.then_ k1 (fun i hi h=>by subst h;have:=HLo.out.2;omega))
    have HR50:=qh (HR10.out.keep k1 HNs.out.2.1)
    have HS50:Hid (Blk wz bs 58 #[.int .i64 (from_+d1),.int .i64 tm]):=qh (by rw[←hW];have:=HS10.out.set_ 0 (.int .i64 (from_+d1));simpa using this)
    clear hW k1 z0 z1 zf0 zf1
    have z0:wz.cell? ⟨bs,0,none⟩=some (.int .i64 (from_+d1)):=HS50.out.cell 0
    have zf0:=HS50.out.frozen 0
    have z1:wz.cell? ⟨bs,1,none⟩=some (.int .i64 tm):=HS50.out.cell 1
    have zf1:=HS50.out.frozen 1
    have r0:wz.cell? ⟨br,0,none⟩=some (.int .i64 0):=HR50.out.cell 0
    have rf0:=HR50.out.frozen 0
    have r1:wz.cell? ⟨br,1,none⟩=some (.int .i64 0):=HR50.out.cell 1
    have rf1:=HR50.out.frozen 1
    go_wp2_with fail
    (try simp only[Exit.inBlock,Exit.then])
    have ha2:=HA50.out.keep (S:=fun q=>q=br) ((Keep.refl (fun q=>q=br) wz).set_ (p:=⟨br,0,none⟩) (.inl rfl) (.int .i64 (from_+d1))) (fun k (h:k=br)=>by rw[h];exact⟨HNe.out.2,HNe.out.1⟩)
    have ha3:=ha2.keep (S:=fun q=>q=br) ((Keep.refl (fun q=>q=br) _).set_ (p:=⟨br,1,none⟩) (.inl rfl) (.int .i64 tm)) (fun k (h:k=br)=>by rw[h];exact⟨HNe.out.2,HNe.out.1⟩)
    refine bodyPost_ret (sc_results (fn:=Tryz.f121) (r:=4) rfl (put_two HR50.out (.int .i64 (from_+d1)) (.int .i64 tm)) _ rfl) rfl ⟨by rw[HF.out],by rw[HF.out];exact ha3,?_⟩
    exact(HK50.out.set_ (p:=⟨br,0,none⟩) (.inr HLo.out.1) _).set_ (p:=⟨br,1,none⟩) (.inr HLo.out.1) _
  have u0:decide (tm<1)=false:=by simpa using g0
  by_cases g1:tm>1000
  ·have u1:decide (tm>1000)=true:=by simpa using g1
   have HX:=qh (HXb.out gq (.inr (.inl g1)))
   clear gq g0 g1
   go_wp2_with fail
   clear z0 z1 zf0 zf1
   refine(HFl.out w7 v.tail.tail.tail.tail e0 20 HA7.out).mono ?_
   rintro en w8 ⟨rfl,hr,hk⟩
   have HA8:=qh hr
   have HK8:=qtr HK7 hk
   have HR8:=qh (HR7.out.keep hk HNe.out.1)
   have HS8:=qh (HS7.out.keep hk HNs.out.1)
   clear hr hk
   have m1:w8.cell? ⟨p,1,none⟩=some (.int .i64 u):=HA8.out.u
   go_wp2_with fail
   clear m1
   refine(HDm.out w8).mono ?_
   rintro en w9 ⟨rfl,hk⟩
   have HA9:=qh (HA8.out.never hk)
   have HK9:=qh (HK8.out.then_ hk (fun _ _ h=>False.elim h))
   have HR9:=qkb HR8 hk
   have HS9:=qkb HS8 hk
   clear hk
   by_cases gd:d2=0
   ·have td:(d2 != 0)=false:=by simpa using gd
    have HF:Hid (sectR u from_ v e0=⟨(from_+d1,tm),v.tail.tail.tail.tail,(failR e0 20)⟩):=qh (by rw[HX.out,if_neg (by simpa using gd)])
    clear gd
    have z0:w9.cell? ⟨bs,0,none⟩=some (.int .i64 0):=HS9.out.cell 0
    have zf0:=HS9.out.frozen 0
    have z1:w9.cell? ⟨bs,1,none⟩=some (.int .i64 tm):=HS9.out.cell 1
    have zf1:=HS9.out.frozen 1
    go_upto_region 13 with(fail)
    (try rw[HWr.out])
    obtain⟨wz,hW⟩:∃V:World,w9.setCell ⟨bs,0,none⟩ (.int .i64 (from_+d1))=V:=⟨_,rfl⟩
    rw[hW]
    have k1:Keep (fun q=>q=bs) w9 wz:=by rw[←hW];exact put1_keep _
    have HA50:=qh (HA9.out.keep k1 (fun k h=>by subst h;exact⟨HNs.out.2.2,HNs.out.1⟩))
    have HK50:=qh (HK9.out.then_ k1 (fun i hi h=>by subst h;have:=HLo.out.2;omega))
    have HR50:=qh (HR9.out.keep k1 HNs.out.2.1)
    have HS50:Hid (Blk wz bs 58 #[.int .i64 (from_+d1),.int .i64 tm]):=qh (by rw[←hW];have:=HS9.out.set_ 0 (.int .i64 (from_+d1));simpa using this)
    clear hW k1 z0 z1 zf0 zf1
    have z0:wz.cell? ⟨bs,0,none⟩=some (.int .i64 (from_+d1)):=HS50.out.cell 0
    have zf0:=HS50.out.frozen 0
    have z1:wz.cell? ⟨bs,1,none⟩=some (.int .i64 tm):=HS50.out.cell 1
    have zf1:=HS50.out.frozen 1
    have r0:wz.cell? ⟨br,0,none⟩=some (.int .i64 0):=HR50.out.cell 0
    have rf0:=HR50.out.frozen 0
    have r1:wz.cell? ⟨br,1,none⟩=some (.int .i64 0):=HR50.out.cell 1
    have rf1:=HR50.out.frozen 1
    go_wp2_with fail
    (try simp only[Exit.inBlock,Exit.then])
    have ha2:=HA50.out.keep (S:=fun q=>q=br) ((Keep.refl (fun q=>q=br) wz).set_ (p:=⟨br,0,none⟩) (.inl rfl) (.int .i64 (from_+d1))) (fun k (h:k=br)=>by rw[h];exact⟨HNe.out.2,HNe.out.1⟩)
    have ha3:=ha2.keep (S:=fun q=>q=br) ((Keep.refl (fun q=>q=br) _).set_ (p:=⟨br,1,none⟩) (.inl rfl) (.int .i64 tm)) (fun k (h:k=br)=>by rw[h];exact⟨HNe.out.2,HNe.out.1⟩)
    refine bodyPost_ret (sc_results (fn:=Tryz.f121) (r:=4) rfl (put_two HR50.out (.int .i64 (from_+d1)) (.int .i64 tm)) _ rfl) rfl ⟨by rw[HF.out],by rw[HF.out];exact ha3,?_⟩
    exact(HK50.out.set_ (p:=⟨br,0,none⟩) (.inr HLo.out.1) _).set_ (p:=⟨br,1,none⟩) (.inr HLo.out.1) _
   ·have td:(d2 != 0)=true:=by simpa using gd
    have HF:Hid (sectR u from_ v e0=⟨(from_+d1,tm),v.tail.tail.tail.tail,failR (failR e0 20) 7⟩):=qh (by rw[HX.out,if_pos gd])
    clear gd
    go_wp2_with fail
    refine(HFl.out w9 v.tail.tail.tail.tail (failR e0 20) 7 HA9.out).mono ?_
    rintro en w10 ⟨rfl,hr,hk⟩
    have HA10:=qh hr
    have HK10:=qtr HK9 hk
    have HR10:=qh (HR9.out.keep hk HNe.out.1)
    have HS10:=qh (HS9.out.keep hk HNs.out.1)
    clear hr hk
    have z0:w10.cell? ⟨bs,0,none⟩=some (.int .i64 0):=HS10.out.cell 0
    have zf0:=HS10.out.frozen 0
    have z1:w10.cell? ⟨bs,1,none⟩=some (.int .i64 tm):=HS10.out.cell 1
    have zf1:=HS10.out.frozen 1
    go_upto_region 13 with(fail)
    (try rw[HWr.out])
    obtain⟨wz,hW⟩:∃V:World,w10.setCell ⟨bs,0,none⟩ (.int .i64 (from_+d1))=V:=⟨_,rfl⟩
    rw[hW]
    have k1:Keep (fun q=>q=bs) w10 wz:=by rw[←hW];exact put1_keep _
    have HA50:=qh (HA10.out.keep k1 (fun k h=>by subst h;exact⟨HNs.out.2.2,HNs.out.1⟩))
    have HK50:=qh (HK10.out.then_ k1 (fun i hi h=>by subst h;have:=HLo.out.2;omega))
    have HR50:=qh (HR10.out.keep k1 HNs.out.2.1)
    have HS50:Hid (Blk wz bs 58 #[.int .i64 (from_+d1),.int .i64 tm]):=qh (by rw[←hW];have:=HS10.out.set_ 0 (.int .i64 (from_+d1));simpa using this)
    clear hW k1 z0 z1 zf0 zf1
    have z0:wz.cell? ⟨bs,0,none⟩=some (.int .i64 (from_+d1)):=HS50.out.cell 0
    have zf0:=HS50.out.frozen 0
    have z1:wz.cell? ⟨bs,1,none⟩=some (.int .i64 tm):=HS50.out.cell 1
    have zf1:=HS50.out.frozen 1
    have r0:wz.cell? ⟨br,0,none⟩=some (.int .i64 0):=HR50.out.cell 0
    have rf0:=HR50.out.frozen 0
    have r1:wz.cell? ⟨br,1,none⟩=some (.int .i64 0):=HR50.out.cell 1
    have rf1:=HR50.out.frozen 1
    go_wp2_with fail
    (try simp only[Exit.inBlock,Exit.then])
    have ha2:=HA50.out.keep (S:=fun q=>q=br) ((Keep.refl (fun q=>q=br) wz).set_ (p:=⟨br,0,none⟩) (.inl rfl) (.int .i64 (from_+d1))) (fun k (h:k=br)=>by rw[h];exact⟨HNe.out.2,HNe.out.1⟩)
    have ha3:=ha2.keep (S:=fun q=>q=br) ((Keep.refl (fun q=>q=br) _).set_ (p:=⟨br,1,none⟩) (.inl rfl) (.int .i64 tm)) (fun k (h:k=br)=>by rw[h];exact⟨HNe.out.2,HNe.out.1⟩)
    refine bodyPost_ret (sc_results (fn:=Tryz.f121) (r:=4) rfl (put_two HR50.out (.int .i64 (from_+d1)) (.int .i64 tm)) _ rfl) rfl ⟨by rw[HF.out],by rw[HF.out];exact ha3,?_⟩
    exact(HK50.out.set_ (p:=⟨br,0,none⟩) (.inr HLo.out.1) _).set_ (p:=⟨br,1,none⟩) (.inr HLo.out.1) _
  have u1:decide (tm>1000)=false:=by simpa using g1
  by_cases g2:raw=0
  ·have u2:(raw==0)=true:=by simpa using g2
   have HX:=qh (HXb.out gq (.inr (.inr g2)))
   clear gq g0 g1 g2
   go_wp2_with fail
   clear z0 z1 zf0 zf1
   refine(HFl.out w7 v.tail.tail.tail.tail e0 20 HA7.out).mono ?_
   rintro en w8 ⟨rfl,hr,hk⟩
   have HA8:=qh hr
   have HK8:=qtr HK7 hk
   have HR8:=qh (HR7.out.keep hk HNe.out.1)
   have HS8:=qh (HS7.out.keep hk HNs.out.1)
   clear hr hk
   have m1:w8.cell? ⟨p,1,none⟩=some (.int .i64 u):=HA8.out.u
   go_wp2_with fail
   clear m1
   refine(HDm.out w8).mono ?_
   rintro en w9 ⟨rfl,hk⟩
   have HA9:=qh (HA8.out.never hk)
   have HK9:=qh (HK8.out.then_ hk (fun _ _ h=>False.elim h))
   have HR9:=qkb HR8 hk
   have HS9:=qkb HS8 hk
   clear hk
   by_cases gd:d2=0
   ·have td:(d2 != 0)=false:=by simpa using gd
    have HF:Hid (sectR u from_ v e0=⟨(from_+d1,tm),v.tail.tail.tail.tail,(failR e0 20)⟩):=qh (by rw[HX.out,if_neg (by simpa using gd)])
    clear gd
    have z0:w9.cell? ⟨bs,0,none⟩=some (.int .i64 0):=HS9.out.cell 0
    have zf0:=HS9.out.frozen 0
    have z1:w9.cell? ⟨bs,1,none⟩=some (.int .i64 tm):=HS9.out.cell 1
    have zf1:=HS9.out.frozen 1
    go_upto_region 13 with(fail)
    (try rw[HWr.out])
    obtain⟨wz,hW⟩:∃V:World,w9.setCell ⟨bs,0,none⟩ (.int .i64 (from_+d1))=V:=⟨_,rfl⟩
    rw[hW]
    have k1:Keep (fun q=>q=bs) w9 wz:=by rw[←hW];exact put1_keep _
    have HA50:=qh (HA9.out.keep k1 (fun k h=>by subst h;exact⟨HNs.out.2.2,HNs.out.1⟩))
    have HK50:=qh (HK9.out.then_ k1 (fun i hi h=>by subst h;have:=HLo.out.2;omega))
    have HR50:=qh (HR9.out.keep k1 HNs.out.2.1)
    have HS50:Hid (Blk wz bs 58 #[.int .i64 (from_+d1),.int .i64 tm]):=qh (by rw[←hW];have:=HS9.out.set_ 0 (.int .i64 (from_+d1));simpa using this)
    clear hW k1 z0 z1 zf0 zf1
    have z0:wz.cell? ⟨bs,0,none⟩=some (.int .i64 (from_+d1)):=HS50.out.cell 0
    have zf0:=HS50.out.frozen 0
    have z1:wz.cell? ⟨bs,1,none⟩=some (.int .i64 tm):=HS50.out.cell 1
    have zf1:=HS50.out.frozen 1
    have r0:wz.cell? ⟨br,0,none⟩=some (.int .i64 0):=HR50.out.cell 0
    have rf0:=HR50.out.frozen 0
    have r1:wz.cell? ⟨br,1,none⟩=some (.int .i64 0):=HR50.out.cell 1
    have rf1:=HR50.out.frozen 1
    go_wp2_with fail
    (try simp only[Exit.inBlock,Exit.then])
    have ha2:=HA50.out.keep (S:=fun q=>q=br) ((Keep.refl (fun q=>q=br) wz).set_ (p:=⟨br,0,none⟩) (.inl rfl) (.int .i64 (from_+d1))) (fun k (h:k=br)=>by rw[h];exact⟨HNe.out.2,HNe.out.1⟩)
    have ha3:=ha2.keep (S:=fun q=>q=br) ((Keep.refl (fun q=>q=br) _).set_ (p:=⟨br,1,none⟩) (.inl rfl) (.int .i64 tm)) (fun k (h:k=br)=>by rw[h];exact⟨HNe.out.2,HNe.out.1⟩)
    refine bodyPost_ret (sc_results (fn:=Tryz.f121) (r:=4) rfl (put_two HR50.out (.int .i64 (from_+d1)) (.int .i64 tm)) _ rfl) rfl ⟨by rw[HF.out],by rw[HF.out];exact ha3,?_⟩
    exact(HK50.out.set_ (p:=⟨br,0,none⟩) (.inr HLo.out.1) _).set_ (p:=⟨br,1,none⟩) (.inr HLo.out.1) _
   ·have td:(d2 != 0)=true:=by simpa using gd
    have HF:Hid (sectR u from_ v e0=⟨(from_+d1,tm),v.tail.tail.tail.tail,failR (failR e0 20) 7⟩):=qh (by rw[HX.out,if_pos gd])
    clear gd
    go_wp2_with fail
    refine(HFl.out w9 v.tail.tail.tail.tail (failR e0 20) 7 HA9.out).mono ?_
    rintro en w10 ⟨rfl,hr,hk⟩
    have HA10:=qh hr
    have HK10:=qtr HK9 hk
    have HR10:=qh (HR9.out.keep hk HNe.out.1)
    have HS10:=qh (HS9.out.keep hk HNs.out.1)
    clear hr hk
    have z0:w10.cell? ⟨bs,0,none⟩=some (.int .i64 0):=HS10.out.cell 0
    have zf0:=HS10.out.frozen 0
    have z1:w10.cell? ⟨bs,1,none⟩=some (.int .i64 tm):=HS10.out.cell 1
    have zf1:=HS10.out.frozen 1
    go_upto_region 13 with(fail)
    (try rw[HWr.out])
    obtain⟨wz,hW⟩:∃V:World,w10.setCell ⟨bs,0,none⟩ (.int .i64 (from_+d1))=V:=⟨_,rfl⟩
    rw[hW]
    have k1:Keep (fun q=>q=bs) w10 wz:=by rw[←hW];exact put1_keep _
    have HA50:=qh (HA10.out.keep k1 (fun k h=>by subst h;exact⟨HNs.out.2.2,HNs.out.1⟩))
    have HK50:=qh (HK10.out.then_ k1 (fun i hi h=>by subst h;have:=HLo.out.2;omega))
    have HR50:=qh (HR10.out.keep k1 HNs.out.2.1)
    have HS50:Hid (Blk wz bs 58 #[.int .i64 (from_+d1),.int .i64 tm]):=qh (by rw[←hW];have:=HS10.out.set_ 0 (.int .i64 (from_+d1));simpa using this)
    clear hW k1 z0 z1 zf0 zf1
    have z0:wz.cell? ⟨bs,0,none⟩=some (.int .i64 (from_+d1)):=HS50.out.cell 0
    have zf0:=HS50.out.frozen 0
    have z1:wz.cell? ⟨bs,1,none⟩=some (.int .i64 tm):=HS50.out.cell 1
    have zf1:=HS50.out.frozen 1
    have r0:wz.cell? ⟨br,0,none⟩=some (.int .i64 0):=HR50.out.cell 0
    have rf0:=HR50.out.frozen 0
    have r1:wz.cell? ⟨br,1,none⟩=some (.int .i64 0):=HR50.out.cell 1
    have rf1:=HR50.out.frozen 1
    go_wp2_with fail
    (try simp only[Exit.inBlock,Exit.then])
    have ha2:=HA50.out.keep (S:=fun q=>q=br) ((Keep.refl (fun q=>q=br) wz).set_ (p:=⟨br,0,none⟩) (.inl rfl) (.int .i64 (from_+d1))) (fun k (h:k=br)=>by rw[h];exact⟨HNe.out.2,HNe.out.1⟩)
    have ha3:=ha2.keep (S:=fun q=>q=br) ((Keep.refl (fun q=>q=br) _).set_ (p:=⟨br,1,none⟩) (.inl rfl) (.int .i64 tm)) (fun k (h:k=br)=>by rw[h];exact⟨HNe.out.2,HNe.out.1⟩)
    refine bodyPost_ret (sc_results (fn:=Tryz.f121) (r:=4) rfl (put_two HR50.out (.int .i64 (from_+d1)) (.int .i64 tm)) _ rfl) rfl ⟨by rw[HF.out],by rw[HF.out];exact ha3,?_⟩
    exact(HK50.out.set_ (p:=⟨br,0,none⟩) (.inr HLo.out.1) _).set_ (p:=⟨br,1,none⟩) (.inr HLo.out.1) _
  have u2:(raw==0)=false:=by simpa using g2
  have HX:=qh (HXg.out gq (by rintro(h | h | h);exact g0 h;exact g1 h;exact g2 h))
  clear gq g0 g1 g2
  have m1:w7.cell? ⟨p,1,none⟩=some (.int .i64 u):=HA7.out.u
  go_wp2_with fail
  clear m1 z0 z1 zf0 zf1
  refine(HDm.out w7).mono ?_
  rintro en w8 ⟨rfl,hk⟩
  have HA8:=qh (HA7.out.never hk)
  have HK8:=qh (HK7.out.then_ hk (fun _ _ h=>False.elim h))
  have HR8:=qkb HR7 hk
  have HS8:=qkb HS7 hk
  clear hk
  by_cases gd:d2=0
  ·have td:(d2 != 0)=false:=by simpa using gd
   have HF:Hid (sectR u from_ v e0=⟨(from_+d1,tm),v.tail.tail.tail.tail,e0⟩):=qh (by rw[HX.out,if_neg (by simpa using gd)])
   clear gd
   have z0:w8.cell? ⟨bs,0,none⟩=some (.int .i64 0):=HS8.out.cell 0
   have zf0:=HS8.out.frozen 0
   have z1:w8.cell? ⟨bs,1,none⟩=some (.int .i64 tm):=HS8.out.cell 1
   have zf1:=HS8.out.frozen 1
   go_upto_region 13 with(fail)
   (try rw[HWr.out])
   obtain⟨wz,hW⟩:∃V:World,w8.setCell ⟨bs,0,none⟩ (.int .i64 (from_+d1))=V:=⟨_,rfl⟩
   rw[hW]
   have k1:Keep (fun q=>q=bs) w8 wz:=by rw[←hW];exact put1_keep _
   have HA50:=qh (HA8.out.keep k1 (fun k h=>by subst h;exact⟨HNs.out.2.2,HNs.out.1⟩))
   have HK50:=qh (HK8.out.then_ k1 (fun i hi h=>by subst h;have:=HLo.out.2;omega))
   have HR50:=qh (HR8.out.keep k1 HNs.out.2.1)
   have HS50:Hid (Blk wz bs 58 #[.int .i64 (from_+d1),.int .i64 tm]):=qh (by rw[←hW];have:=HS8.out.set_ 0 (.int .i64 (from_+d1));simpa using this)
   clear hW k1 z0 z1 zf0 zf1
   have z0:wz.cell? ⟨bs,0,none⟩=some (.int .i64 (from_+d1)):=HS50.out.cell 0
   have zf0:=HS50.out.frozen 0
   have z1:wz.cell? ⟨bs,1,none⟩=some (.int .i64 tm):=HS50.out.cell 1
   have zf1:=HS50.out.frozen 1
   have r0:wz.cell? ⟨br,0,none⟩=some (.int .i64 0):=HR50.out.cell 0
   have rf0:=HR50.out.frozen 0
   have r1:wz.cell? ⟨br,1,none⟩=some (.int .i64 0):=HR50.out.cell 1
   have rf1:=HR50.out.frozen 1
   go_wp2_with fail
   (try simp only[Exit.inBlock,Exit.then])
   have ha2:=HA50.out.keep (S:=fun q=>q=br) ((Keep.refl (fun q=>q=br) wz).set_ (p:=⟨br,0,none⟩) (.inl rfl) (.int .i64 (from_+d1))) (fun k (h:k=br)=>by rw[h];exact⟨HNe.out.2,HNe.out.1⟩)
   have ha3:=ha2.keep (S:=fun q=>q=br) ((Keep.refl (fun q=>q=br) _).set_ (p:=⟨br,1,none⟩) (.inl rfl) (.int .i64 tm)) (fun k (h:k=br)=>by rw[h];exact⟨HNe.out.2,HNe.out.1⟩)
   refine bodyPost_ret (sc_results (fn:=Tryz.f121) (r:=4) rfl (put_two HR50.out (.int .i64 (from_+d1)) (.int .i64 tm)) _ rfl) rfl ⟨by rw[HF.out],by rw[HF.out];exact ha3,?_⟩
   exact(HK50.out.set_ (p:=⟨br,0,none⟩) (.inr HLo.out.1) _).set_ (p:=⟨br,1,none⟩) (.inr HLo.out.1) _
  ·have td:(d2 != 0)=true:=by simpa using gd
   have HF:Hid (sectR u from_ v e0=⟨(from_+d1,tm),v.tail.tail.tail.tail,failR e0 7⟩):=qh (by rw[HX.out,if_pos gd])
   clear gd
   go_wp2_with fail
   refine(HFl.out w8 v.tail.tail.tail.tail e0 7 HA8.out).mono ?_
   rintro en w9 ⟨rfl,hr,hk⟩
   have HA9:=qh hr
   have HK9:=qtr HK8 hk
   have HR9:=qh (HR8.out.keep hk HNe.out.1)
   have HS9:=qh (HS8.out.keep hk HNs.out.1)
   clear hr hk
   have z0:w9.cell? ⟨bs,0,none⟩=some (.int .i64 0):=HS9.out.cell 0
   have zf0:=HS9.out.frozen 0
   have z1:w9.cell? ⟨bs,1,none⟩=some (.int .i64 tm):=HS9.out.cell 1
   have zf1:=HS9.out.frozen 1
   go_upto_region 13 with(fail)
   (try rw[HWr.out])
   obtain⟨wz,hW⟩:∃V:World,w9.setCell ⟨bs,0,none⟩ (.int .i64 (from_+d1))=V:=⟨_,rfl⟩
   rw[hW]
   have k1:Keep (fun q=>q=bs) w9 wz:=by rw[←hW];exact put1_keep _
   have HA50:=qh (HA9.out.keep k1 (fun k h=>by subst h;exact⟨HNs.out.2.2,HNs.out.1⟩))
   have HK50:=qh (HK9.out.then_ k1 (fun i hi h=>by subst h;have:=HLo.out.2;omega))
   have HR50:=qh (HR9.out.keep k1 HNs.out.2.1)
   have HS50:Hid (Blk wz bs 58 #[.int .i64 (from_+d1),.int .i64 tm]):=qh (by rw[←hW];have:=HS9.out.set_ 0 (.int .i64 (from_+d1));simpa using this)
   clear hW k1 z0 z1 zf0 zf1
   have z0:wz.cell? ⟨bs,0,none⟩=some (.int .i64 (from_+d1)):=HS50.out.cell 0
   have zf0:=HS50.out.frozen 0
   have z1:wz.cell? ⟨bs,1,none⟩=some (.int .i64 tm):=HS50.out.cell 1
   have zf1:=HS50.out.frozen 1
   have r0:wz.cell? ⟨br,0,none⟩=some (.int .i64 0):=HR50.out.cell 0
   have rf0:=HR50.out.frozen 0
   have r1:wz.cell? ⟨br,1,none⟩=some (.int .i64 0):=HR50.out.cell 1
   have rf1:=HR50.out.frozen 1
   go_wp2_with fail
   (try simp only[Exit.inBlock,Exit.then])
   have ha2:=HA50.out.keep (S:=fun q=>q=br) ((Keep.refl (fun q=>q=br) wz).set_ (p:=⟨br,0,none⟩) (.inl rfl) (.int .i64 (from_+d1))) (fun k (h:k=br)=>by rw[h];exact⟨HNe.out.2,HNe.out.1⟩)
   have ha3:=ha2.keep (S:=fun q=>q=br) ((Keep.refl (fun q=>q=br) _).set_ (p:=⟨br,1,none⟩) (.inl rfl) (.int .i64 tm)) (fun k (h:k=br)=>by rw[h];exact⟨HNe.out.2,HNe.out.1⟩)
   refine bodyPost_ret (sc_results (fn:=Tryz.f121) (r:=4) rfl (put_two HR50.out (.int .i64 (from_+d1)) (.int .i64 tm)) _ rfl) rfl ⟨by rw[HF.out],by rw[HF.out];exact ha3,?_⟩
   exact(HK50.out.set_ (p:=⟨br,0,none⟩) (.inr HLo.out.1) _).set_ (p:=⟨br,1,none⟩) (.inr HLo.out.1) _
end Go.Proofs.YtpapiojicbbheaaGreatDoor
