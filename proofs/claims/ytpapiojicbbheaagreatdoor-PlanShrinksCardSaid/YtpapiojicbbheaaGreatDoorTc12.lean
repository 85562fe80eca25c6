/- Texts of this claim, together: PmM, PmN, PmP, PmQ, SlgB, PmR, VarsK. -/
import Derived.Test.YtpapiojicbbheaaGreatDoorTc11
import Derived.Test.YtpapiojicbbheaaGreatDoorTc04
import Derived.Test.YtpapiojicbbheaaGreatDoorTc03
import Derived.Test.YtpapiojicbbheaaGreatDoorRows
import Derived.Shelf.SlicesQ.Reverse
import Derived.Test.YtpapiojicbbheaaGreatDoorTc02
import Derived.Test.YtpapiojicbbheaaGreatDoorTc07
import Derived.Test.YtpapiojicbbheaaGreatDoorTc00
import Derived.Lib.LaidTab
namespace Go.Proofs.YtpapiojicbbheaaGreatDoor
open Go.RowKit
def sameC (a b c d:Int):Bool:=decide (((a,b):Sc)=(c,d))
theorem run_ne_sc (w:World) (a b c d:Int):(binOp .neq 58 (.agg #[.int .i64 a,.int .i64 b]) (.agg #[.int .i64 c,.int .i64 d])).run Tryz.prog w=.ok (.bool (!sameC a b c d)) w:=by
 by_cases h1:a=c
 ·have t1:(a==c)=true:=by simpa using h1
  by_cases h2:b=d
  ·have t2:(b==d)=true:=by simpa using h2
   have hd:sameC a b c d=true:=decide_eq_true (by rw[h1,h2])
   rw[hd]
   clear h1 h2 hd
   go_simp
   (try simp[t1,t2])
  ·have t2:(b==d)=false:=by simpa using h2
   have hd:sameC a b c d=false:=decide_eq_false (by intro h;injection h with _ h;exact h2 h)
   rw[hd]
   clear h1 h2 hd
   go_simp
   (try simp[t1,t2])
 ·have t1:(a==c)=false:=by simpa using h1
  have hd:sameC a b c d=false:=decide_eq_false (by intro h;injection h with h _;exact h1 h)
  rw[hd]
  clear h1 hd
  go_simp
  (try simp[t1])
set_option maxHeartbeats 4000000 in
set_option maxRecDepth 100000 in
theorem same17_self (x y:MX) (m:Ma) (B1 B2:Nat) (w:World) (hx:MaAt w B1 x m) (hy:MaAt w B2 y m) (hnp:x.np≤100000000) (hns:x.ns≤100000000) :
    Calls Tryz.prog 16 #[.agg (x.vs m),.agg (y.vs m)] w fun en w'=>en=.returned (.bool true)∧Keep Never w w':=by
  obtain⟨ref,rv,P,S,g⟩:=m
  have HP1:=qh hx.p
  have HP2:=qh hy.p
  have HS1:=qh hx.s
  have HS2:=qh hy.s
  obtain⟨Ap,np,cp,As,ns,cs⟩:=x
  obtain⟨Aq,nq,cq,At,nt,ct⟩:=y
  simp only at HP1 HP2 HS1 HS2 hnp hns
  have hn1:ns=nt:=by have h1:=HS1.out.len;have h2:=HS2.out.len;omega
  have hn2:np=nq:=by have h1:=(stps_rd HP1.out).2.1;have h2:=(stps_rd HP2.out).2.1;omega
  subst hn1 hn2
  have HLe:Hid (S.length=ns):=qh HS1.out.len
  clear hx hy
  simp only[MX.vs]
  obtain⟨w1,hw1⟩:∃V:World,w.alloc (.cells #[.int .i64 ref,.bool rv,.slice Ap np cp,.slice As ns cs,.int .i64 g] 38)=V:=⟨_,rfl⟩
  have zw1:w1.heap.size=w.heap.size+1:=by rw[←hw1];simp
  have kw1:Keep Never w w1:=by rw[←hw1];exact(Keep.refl _ _).alloc _
  have bw1:=Blk.new w 38 #[.int .i64 ref,.bool rv,.slice Ap np cp,.slice As ns cs,.int .i64 g]
  rw[hw1] at bw1
  obtain⟨w2,hw2⟩:∃V:World,w1.alloc (.cells #[.int .i64 ref,.bool rv,.slice Aq np cq,.slice At ns ct,.int .i64 g] 38)=V:=⟨_,rfl⟩
  have kw2:Keep Never w1 w2:=by rw[←hw2];exact(Keep.refl _ _).alloc _
  have bw2:=Blk.new w1 38 #[.int .i64 ref,.bool rv,.slice Aq np cq,.slice At ns ct,.int .i64 g]
  rw[hw2,zw1] at bw2
  have HB1:=qh (bw1.keep kw2 (fun h=>h))
  have HB2:=qh bw2
  have HK:=qh (kw1.trans kw2)
  clear kw1 kw2 bw1 bw2
  have HSt:=qh (fun (W:World) (hk:Keep Never w W)=>steps_any Ap Aq np np cp cq B1 B2 P P W ((stps_rd HP1.out).1.keep hk (fun _ h=>h.elim)) ((stps_rd HP2.out).1.keep hk (fun _ h=>h.elim)) hnp hnp)
  have hw:=HSt.out w2 HK.out
  rw[show decide (P=P)=true from by simp] at hw
  have HC:=qh hw
  obtain⟨x0,x1,x2,x3,x4⟩:=bc5 HB1.out
  obtain⟨z0,z1,z2,z3,z4⟩:=bc5 HB2.out
  clear hw HSt hnp
  go_enter Tryz.func16, Tryz.ntmps16
  go_wp2_with fail
  refine HC.out.mono ?_
  rintro en w3 ⟨rfl,hk⟩
  have HK3:=qtr HK hk
  have HX3:=qkb HB1 hk
  have HY3:=qkb HB2 hk
  clear hk HC HB1 HB2 HK x0 z0 x1 z1 x2 z2 x3 z3 x4 z4 hw1 hw2 zw1
  obtain⟨x0,x1,x2,x3,x4⟩:=bc5 HX3.out
  obtain⟨z0,z1,z2,z3,z4⟩:=bc5 HY3.out
  go_upto_region 5 with(fail)
  clear x0 z0 x1 z1 x2 z2 x3 z3 x4 z4
  go_loopw [6] (fun s6 wr=>∃k:Nat,k≤ns∧s6=.int .i64 k∧Hid (Keep Never w3 wr)) (fun si _=>ns - (intOf si).toNat)
  case atStart=>exact⟨0,by omega,rfl,qh (Keep.refl _ _)⟩
  case round=>
   obtain⟨k,hk,rfl,HH⟩:=hrel
   have HXr:=qh (HX3.out.keep HH.out (fun h=>h))
   have HYr:=qh (HY3.out.keep HH.out (fun h=>h))
   have x3:wr.cell? ⟨w.heap.size,3,none⟩=some (.slice As ns cs):=HXr.out.cell 3
   have z3:wr.cell? ⟨w.heap.size+1,3,none⟩=some (.slice At ns ct):=HYr.out.cell 3
   by_cases h0:k<ns
   ·have hki:(k:Int)<(ns:Int):=by omega
    obtain⟨ad,s,hA,_,hs,c0,c1⟩:=((HS1.out.keep (HK3.out.trans HH.out)).rd).sc h0
    obtain⟨ae,s',hA',_,hs',d0,d1⟩:=((HS2.out.keep (HK3.out.trans HH.out)).rd).sc h0
    rw[hs] at hs'
    injection hs' with hs'
    subst hs' hA hA'
    obtain⟨s1,s2⟩:=s
    simp only at c0 c1 d0 d1
    have qn:=run_ne_sc
    have t1:(!sameC s1 s2 s1 s2)=false:=by unfold sameC;simp
    clear hs
    go_wp2_with fail
    go_quiet (fail)
    go_wp2_with fail
    refine⟨⟨k+1,by omega,by go_num,qh (HH.out.drewN _)⟩,?_⟩
    simp[intOf];try omega
   ·obtain rfl:k=ns:=by omega
    have hki:¬(k:Int)<(k:Int):=by omega
    go_wp2_with fail
    go_ret
    exact⟨rfl,HK3.out.trans HH.out⟩
theorem wake_build:buildM lineT [(1,5,1),(2,5,2)] 5 7 false 40=((7,false,[(0,false),(1,false)],[(290,30)],0),0):=by kernel_rfl
theorem wake_packs:packsM17 lineT (7,false,[(0,false),(1,false)],[(290,30)],0)=.ok [(15,[1,0,0,0,0,290,1,30,0,0,0,0]),(5,[1,0,110,1,0,8,1,2,12,0])]:=by kernel_rfl
theorem wake_read:readM badP lineT 7 false [(15,[1,0,0,0,0,290,1,30,0,0,0,0]),(5,[1,0,110,1,0,8,1,2,12,0])]=((7,false,[(0,false),(1,false)],[(290,30)],0),0):=by kernel_rfl
theorem wake_may:mayMA lineT (7,false,[(0,false),(1,false)],[(290,30)],0)=true:=by decide +kernel
theorem wake_reach:reachM [((290:Int),(30:Int))] 29=290∧reachM [((290:Int),(30:Int))] 30=0:=by decide +kernel
set_option maxHeartbeats 8000000 in
set_option maxRecDepth 100000 in
theorem awake17_any (w:World) (hW:Widths w) (hg : 0 < w.heap.size) :
    Calls Tryz.prog 9 #[] w fun en w'=>en=.returned (.bool true)∧Keep Never w w':=by
  have HLn:=qh line_any
  have HBu:=qh (fun (W:World) (x:TA) (A:Option Addr) (n c:Nat) (l:List Lk) (ht:TpAt W W.heap.size x lineT) (hl:SpAt W W.heap.size A n c l) (hn:n≤1000000)=>build_any x lineT W.heap.size A n c l 5 7 false 40 W ht (line_small ht) (Nat.le_refl _) hl hn)
  have HPa:=qh (fun (W:World) (x:TA) (y:MX) (m:Ma) (ht:TpAt W W.heap.size x lineT) (hm:MaAt W W.heap.size y m) (hp:y.np≤1000000) (hs:y.ns≤1000000)=>packets_any x lineT W.heap.size m.1 m.2.1 m.2.2.1 m.2.2.2.1 m.2.2.2.2 y.Ap y.np y.cp y.As y.ns y.cs W ht (line_small ht) (Nat.le_refl _) hm.p hm.s hp hs)
  have HRd:=qh (fun (W:World) (hk:Keep Never w W) (x:TA) (A:Option Addr) (n c:Nat) (l:List Pk) (ht:TpAt W W.heap.size x lineT) (hl:PksAt W W.heap.size A n c l) (hn:n≤1000000)=>read_any x lineT W.heap.size 7 false A n c l W ht (line_small ht) (Nat.le_refl _) hl hn (hW.keep hk (fun h=>h)) (Nat.lt_of_lt_of_le hg hk.size))
  have HSm:=qh (fun (W:World) (x y:MX) (m:Ma) (hx:MaAt W W.heap.size x m) (hy:MaAt W W.heap.size y m) (hnp:x.np≤100000000) (hns:x.ns≤100000000)=>same17_self x y m W.heap.size W.heap.size W hx hy hnp hns)
  have HMy:=qh (fun (W:World) (x:TA) (y:MX) (m:Ma) (ht:TpAt W W.heap.size x lineT) (hm:MaAt W W.heap.size y m) (hp:y.np≤1000000) (hs:y.ns≤1000000)=>may17_any x lineT W.heap.size m.1 m.2.1 m.2.2.1 m.2.2.2.1 m.2.2.2.2 y.Ap y.np y.cp y.As y.ns y.cs W ht (line_small ht) (Nat.le_refl _) hm.p hm.s hp hs)
  have HRe:=qh (fun (W:World) (y:MX) (m:Ma) (age:Int) (hm:MaAt W W.heap.size y m) (hs:y.ns≤1000000)=>reach_any W.heap.size m.1 m.2.1 m.2.2.2.1 m.2.2.2.2 age y.Ap y.np y.cp y.As y.ns y.cs W hm.s hs)
  clear hW hg
  go_enter Tryz.func9, Tryz.ntmps9
  go_wp2_with fail
  refine(HLn.out _).mono ?_
  rintro en w1 ⟨x,rfl,ht,hk⟩
  have HK1:=qh hk
  have HT1:=qh ht
  clear ht hk
  obtain⟨Ae,ne,ce,Aj,nj,cj,Ab,nb,cb,Ar,nr,cr⟩:=x
  simp only[TA.cs]
  obtain⟨w2,hw2⟩:∃V:World,w1.alloc (.cells #[.slice Ae ne ce,.slice Aj nj cj,.slice Ab nb cb,.slice Ar nr cr] 27)=V:=⟨_,rfl⟩
  have hk:Keep Never w1 w2:=by rw[←hw2];exact(Keep.refl _ _).alloc _
  have B2:=Blk.new w1 27 #[.slice Ae ne ce,.slice Aj nj cj,.slice Ab nb cb,.slice Ar nr cr]
  rw[hw2] at B2
  obtain⟨bt,hbt⟩:∃q,w1.heap.size=q:=⟨_,rfl⟩
  rw[hbt] at B2
  have HK2:=qtr HK1 hk
  have HT2:=qh ((HT1.out.keep hk).wide hk.size)
  have HB2:=qh B2
  clear hk B2 HT1 HK1
  go_upto_region 3 with(fail)
  clear hw2 hbt
  obtain⟨w3,hw3⟩:∃V:World,w2.alloc (.cells #[.int .i64 1,.int .i64 5,.int .i64 1,.int .i64 2,.int .i64 5,.int .i64 2] 62)=V:=⟨_,rfl⟩
  have hk:Keep Never w2 w3:=by rw[←hw3];exact(Keep.refl _ _).alloc _
  have B3:=Blk.new w2 62 #[.int .i64 1,.int .i64 5,.int .i64 1,.int .i64 2,.int .i64 5,.int .i64 2]
  rw[hw3] at B3
  obtain⟨bl,hbl⟩:∃q,w2.heap.size=q:=⟨_,rfl⟩
  rw[hbl] at B3
  rw[hw3,hbl]
  have HK3:=qtr HK2 hk
  have HT3:=qh ((HT2.out.keep hk).wide hk.size)
  have HB3:=qkb HB2 hk
  have HL3:Hid (SpAt w3 w3.heap.size (some ⟨bl,0,none⟩) 2 2 [(1,5,1),(2,5,2)]):=qh (lkAt_own (base:=0) (Own.of_blk2 (xs:=[.int .i64 1,.int .i64 5,.int .i64 1,.int .i64 2,.int .i64 5,.int .i64 2]) B3 rfl (by unfold maxLen;omega) (by omega)))
  have hw:=HBu.out w3 ⟨Ae,ne,ce,Aj,nj,cj,Ab,nb,cb,Ar,nr,cr⟩ _ 2 2 [(1,5,1),(2,5,2)] HT3.out HL3.out (by omega)
  rw[wake_build] at hw
  unfold MaRet at hw
  simp only[TA.cs] at hw
  have HC:=qh hw
  obtain⟨y0,y1,y2,y3⟩:=bc4 HB3.out
  clear hk B3 HT2 HB2 HK2 hw hw3 hbl HBu
  go_wp2_with fail
  refine HC.out.mono ?_
  rintro en w4 ⟨y,rfl,hm,hk⟩
  have HK4:=qtr HK3 hk
  have HT4:=qh ((HT3.out.keep hk).wide hk.size)
  have HB4:=qkb HB3 hk
  have HY4:=qh hm
  clear hk hm HC HT3 HB3 HK3 HL3 y0 y1 y2 y3
  obtain⟨Ap,np,cp,As,ns,cs⟩:=y
  obtain rfl:ns=1:=HY4.out.s.len.symm
  have hnp2:np=2:=(stps_rd HY4.out.p).2.1
  subst hnp2
  simp only[MX.vs]
  have BZ:=Blk.new w4 38 #[.int .i64 0,.bool false,.slice none 0 0,.slice none 0 0,.int .i64 0]
  have u0:(w4.alloc (.cells #[.int .i64 0,.bool false,.slice none 0 0,.slice none 0 0,.int .i64 0] 38)).cell? ⟨w4.heap.size,0,none⟩=some (.int .i64 0):=BZ.cell 0
  have uf0:=BZ.frozen 0
  have u1:(w4.alloc (.cells #[.int .i64 0,.bool false,.slice none 0 0,.slice none 0 0,.int .i64 0] 38)).cell? ⟨w4.heap.size,1,none⟩=some (.bool false):=BZ.cell 1
  have uf1:=BZ.frozen 1
  have u2:(w4.alloc (.cells #[.int .i64 0,.bool false,.slice none 0 0,.slice none 0 0,.int .i64 0] 38)).cell? ⟨w4.heap.size,2,none⟩=some (.slice none 0 0):=BZ.cell 2
  have uf2:=BZ.frozen 2
  have u3:(w4.alloc (.cells #[.int .i64 0,.bool false,.slice none 0 0,.slice none 0 0,.int .i64 0] 38)).cell? ⟨w4.heap.size,3,none⟩=some (.slice none 0 0):=BZ.cell 3
  have uf3:=BZ.frozen 3
  have u4:(w4.alloc (.cells #[.int .i64 0,.bool false,.slice none 0 0,.slice none 0 0,.int .i64 0] 38)).cell? ⟨w4.heap.size,4,none⟩=some (.int .i64 0):=BZ.cell 4
  have uf4:=BZ.frozen 4
  go_upto_region 4 with(fail)
  clear BZ u0 u1 u2 u3 u4 uf0 uf1 uf2 uf3 uf4
  obtain⟨w5,hw5⟩:∃V:World,w4.alloc (.cells #[.int .i64 7,.bool false,.slice Ap 2 cp,.slice As 1 cs,.int .i64 0] 38)=V:=⟨_,rfl⟩
  have hk:Keep Never w4 w5:=by rw[←hw5];exact(Keep.refl _ _).alloc _
  have B:=Blk.new w4 38 #[.int .i64 7,.bool false,.slice Ap 2 cp,.slice As 1 cs,.int .i64 0]
  rw[hw5] at B
  obtain⟨bm,hbm⟩:∃q,w4.heap.size=q:=⟨_,rfl⟩
  rw[hbm] at B
  rw[hw5,hbm]
  have HK5:=qtr HK4 hk
  have HT5:=qh ((HT4.out.keep hk).wide hk.size)
  have HB5:=qkb HB4 hk
  have HY5:=qh ((HY4.out.keep hk).more hk.size)
  have HM5:=qh B
  have hw:=HPa.out w5 ⟨Ae,ne,ce,Aj,nj,cj,Ab,nb,cb,Ar,nr,cr⟩ ⟨Ap,2,cp,As,1,cs⟩ (7,false,[(0,false),(1,false)],[(290,30)],0) HT5.out HY5.out (by simp) (by simp)
  simp only[TA.cs] at hw
  rw[wake_packs] at hw
  unfold PksRet at hw
  simp only at hw
  have HC:=qh hw
  obtain⟨y0,y1,y2,y3⟩:=bc4 HB5.out
  obtain⟨m0,m1,m2,m3,m4⟩:=bc5 HM5.out
  clear hk B HT4 HB4 HY4 HK4 hw HPa
  go_wp2_with fail
  refine HC.out.mono ?_
  rintro en w6 ⟨hk,A2,n2,c2,rfl,hp⟩
  have HK6:=qtr HK5 hk
  have HT6:=qh ((HT5.out.keep hk).wide hk.size)
  have HB6:=qkb HB5 hk
  have HY6:=qh ((HY5.out.keep hk).more hk.size)
  have HM6:=qkb HM5 hk
  have HP6:=qh hp
  have hn2:n2=2:=hp.len.symm
  subst hn2
  clear hk hp HC HT5 HB5 HY5 HM5 HK5 y0 y1 y2 y3 m0 m1 m2 m3 m4 hw5 hbm
  have hw:=HRd.out w6 HK6.out ⟨Ae,ne,ce,Aj,nj,cj,Ab,nb,cb,Ar,nr,cr⟩ A2 2 c2 [(15,[1,0,0,0,0,290,1,30,0,0,0,0]),(5,[1,0,110,1,0,8,1,2,12,0])] HT6.out HP6.out (by omega)
  rw[wake_read] at hw
  unfold MaRet at hw
  simp only[TA.cs] at hw
  have HC:=qh hw
  obtain⟨y0,y1,y2,y3⟩:=bc4 HB6.out
  clear hw HRd
  go_wp2_with fail
  refine HC.out.mono ?_
  rintro en w7 ⟨yz,rfl,hm,hk⟩
  have HK7:=qtr HK6 hk
  have HT7:=qh ((HT6.out.keep hk).wide hk.size)
  have HB7:=qkb HB6 hk
  have HY7:=qh ((HY6.out.keep hk).more hk.size)
  have HM7:=qkb HM6 hk
  have HZ7:=qh hm
  clear hk hm HC HT6 HB6 HY6 HM6 HK6 HP6 y0 y1 y2 y3
  obtain⟨Aq,nq,cq,At,nt,ct⟩:=yz
  obtain rfl:nt=1:=HZ7.out.s.len.symm
  have hnq2:nq=2:=(stps_rd HZ7.out.p).2.1
  subst hnq2
  simp only[MX.vs]
  have BZ:=Blk.new w7 38 #[.int .i64 0,.bool false,.slice none 0 0,.slice none 0 0,.int .i64 0]
  have u0:(w7.alloc (.cells #[.int .i64 0,.bool false,.slice none 0 0,.slice none 0 0,.int .i64 0] 38)).cell? ⟨w7.heap.size,0,none⟩=some (.int .i64 0):=BZ.cell 0
  have uf0:=BZ.frozen 0
  have u1:(w7.alloc (.cells #[.int .i64 0,.bool false,.slice none 0 0,.slice none 0 0,.int .i64 0] 38)).cell? ⟨w7.heap.size,1,none⟩=some (.bool false):=BZ.cell 1
  have uf1:=BZ.frozen 1
  have u2:(w7.alloc (.cells #[.int .i64 0,.bool false,.slice none 0 0,.slice none 0 0,.int .i64 0] 38)).cell? ⟨w7.heap.size,2,none⟩=some (.slice none 0 0):=BZ.cell 2
  have uf2:=BZ.frozen 2
  have u3:(w7.alloc (.cells #[.int .i64 0,.bool false,.slice none 0 0,.slice none 0 0,.int .i64 0] 38)).cell? ⟨w7.heap.size,3,none⟩=some (.slice none 0 0):=BZ.cell 3
  have uf3:=BZ.frozen 3
  have u4:(w7.alloc (.cells #[.int .i64 0,.bool false,.slice none 0 0,.slice none 0 0,.int .i64 0] 38)).cell? ⟨w7.heap.size,4,none⟩=some (.int .i64 0):=BZ.cell 4
  have uf4:=BZ.frozen 4
  go_upto_region 6 with(fail)
  clear BZ u0 u1 u2 u3 u4 uf0 uf1 uf2 uf3 uf4
  obtain⟨w8,hw8⟩:∃V:World,w7.alloc (.cells #[.int .i64 7,.bool false,.slice Aq 2 cq,.slice At 1 ct,.int .i64 0] 38)=V:=⟨_,rfl⟩
  have hk:Keep Never w7 w8:=by rw[←hw8];exact(Keep.refl _ _).alloc _
  have B:=Blk.new w7 38 #[.int .i64 7,.bool false,.slice Aq 2 cq,.slice At 1 ct,.int .i64 0]
  rw[hw8] at B
  obtain⟨bn,hbn⟩:∃q,w7.heap.size=q:=⟨_,rfl⟩
  rw[hbn] at B
  rw[hw8,hbn]
  have HK8:=qtr HK7 hk
  have HT8:=qh ((HT7.out.keep hk).wide hk.size)
  have HB8:=qkb HB7 hk
  have HY8:=qh ((HY7.out.keep hk).more hk.size)
  have HM8:=qkb HM7 hk
  have HZ8:=qh ((HZ7.out.keep hk).more hk.size)
  have HN8:=qh B
  clear hk B HT7 HB7 HY7 HM7 HZ7 HK7
  have hw:=HSm.out w8 ⟨Ap,2,cp,As,1,cs⟩ ⟨Aq,2,cq,At,1,ct⟩ (7,false,[(0,false),(1,false)],[(290,30)],0) HY8.out HZ8.out (by simp) (by simp)
  simp only[MX.vs] at hw
  have HC:=qh hw
  obtain⟨m0,m1,m2,m3,m4⟩:=bc5 HM8.out
  obtain⟨n0,n1,n2,n3,n4⟩:=bc5 HN8.out
  clear hw HSm
  go_wp2_with fail
  refine HC.out.mono ?_
  rintro en w9 ⟨rfl,hk⟩
  have HK9:=qtr HK8 hk
  have HT9:=qh ((HT8.out.keep hk).wide hk.size)
  have HB9:=qkb HB8 hk
  have HY9:=qh ((HY8.out.keep hk).more hk.size)
  have HM9:=qkb HM8 hk
  clear hk HC HT8 HB8 HY8 HM8 HN8 HZ8 HK8 hw8 hbn m0 n0 m1 n1 m2 n2 m3 n3 m4 n4
  obtain⟨ad,sl,hA,_,hsl,c0,c1⟩:=HY9.out.s.rd.sc (show 0<1 by omega)
  simp only[List.getElem?_cons_zero,Option.some.injEq] at hsl
  subst hsl hA
  have ea:ad.add (0*2)=ad:=by rw[Nat.zero_mul];unfold Addr.add;split <;> simp_all
  rw[ea] at c0 c1
  have hw:=HMy.out w9 ⟨Ae,ne,ce,Aj,nj,cj,Ab,nb,cb,Ar,nr,cr⟩ ⟨Ap,2,cp,some ad,1,cs⟩ (7,false,[(0,false),(1,false)],[(290,30)],0) HT9.out HY9.out (by simp) (by simp)
  simp only[TA.cs] at hw
  rw[wake_may] at hw
  have HC:=qh hw
  obtain⟨y0,y1,y2,y3⟩:=bc4 HB9.out
  obtain⟨m0,m1,m2,m3,m4⟩:=bc5 HM9.out
  clear hw ea
  go_wp2_with fail
  refine HC.out.mono ?_
  rintro en w10 ⟨rfl,hk⟩
  have HK10:=qtr HK9 hk
  have HY10:=qh ((HY9.out.keep hk).more hk.size)
  have HM10:=qkb HM9 hk
  clear hk HC c0 c1 y0 y1 y2 y3 m0 m1 m2 m3 m4 HT9 HB9 HY9 HM9 HK9 HMy
  have hw:=HRe.out w10 ⟨Ap,2,cp,some ad,1,cs⟩ (7,false,[(0,false),(1,false)],[(290,30)],0) 29 HY10.out (by simp)
  simp only at hw
  rw[wake_reach.1] at hw
  have HC:=qh hw
  obtain⟨m0,m1,m2,m3,m4⟩:=bc5 HM10.out
  clear hw
  go_wp2_with fail
  refine HC.out.mono ?_
  rintro en w11 ⟨rfl,hk⟩
  have HK11:=qtr HK10 hk
  have HY11:=qh ((HY10.out.keep hk).more hk.size)
  have HM11:=qkb HM10 hk
  clear hk HC m0 m1 m2 m3 m4 HY10 HM10 HK10
  have hw:=HRe.out w11 ⟨Ap,2,cp,some ad,1,cs⟩ (7,false,[(0,false),(1,false)],[(290,30)],0) 30 HY11.out (by simp)
  simp only at hw
  rw[wake_reach.2] at hw
  have HC:=qh hw
  obtain⟨m0,m1,m2,m3,m4⟩:=bc5 HM11.out
  clear hw
  go_wp2_with fail
  refine HC.out.mono ?_
  rintro en w12 ⟨rfl,hk⟩
  have HK12:=qtr HK11 hk
  clear hk HC m0 m1 m2 m3 m4
  go_wp2_with fail
  go_ret
  exact⟨rfl,HK12.out⟩
end Go.Proofs.YtpapiojicbbheaaGreatDoor

namespace Go.Proofs.YtpapiojicbbheaaGreatDoor
open Go.RowKit
set_option maxHeartbeats 4000000 in
set_option maxRecDepth 100000 in
theorem light17_any (x:TA) (t:Tp) (B:Nat) (y:MX) (m:Ma) (w:World) (ht:TpAt w B x t) :
    Calls Tryz.prog 20 #[.agg x.cs,.agg (y.vs m)] w fun e w'=>∃b,e=.returned (.bool b)∧Hid (b=true→TpLight x t∧y.np≤100∧y.ns≤100)∧Keep Never w w':=by
  obtain⟨ref,rv,P,S,g⟩:=m
  have HLt:Hid (∀V,Keep Never w V→Calls Tryz.prog 10 #[.agg x.cs] V fun e w''=>∃b,e=.returned (.bool b)∧Hid (b=true→TpLight x t)∧Keep Never V w''):=qh (fun V h=>light13r_any x t B V (ht.keep h))
  obtain⟨Ae,ne,ce,Aj,nj,cj,Ab,nb,cb,Ar,nr,cr⟩:=x
  obtain⟨Ap,np,cp,As,ns,cs⟩:=y
  simp only[TA.cs,MX.vs] at HLt ⊢
  clear ht
  obtain⟨w1,hw1⟩:∃V:World,w.alloc (.cells #[.slice Ae ne ce,.slice Aj nj cj,.slice Ab nb cb,.slice Ar nr cr] 27)=V:=⟨_,rfl⟩
  have zw1:w1.heap.size=w.heap.size+1:=by rw[←hw1];simp
  have kw1:Keep Never w w1:=by rw[←hw1];exact(Keep.refl _ _).alloc _
  have bw1:=Blk.new w 27 #[.slice Ae ne ce,.slice Aj nj cj,.slice Ab nb cb,.slice Ar nr cr]
  rw[hw1] at bw1
  obtain⟨w2,hw2⟩:∃V:World,w1.alloc (.cells #[.int .i64 ref,.bool rv,.slice Ap np cp,.slice As ns cs,.int .i64 g] 38)=V:=⟨_,rfl⟩
  have kw2:Keep Never w1 w2:=by rw[←hw2];exact(Keep.refl _ _).alloc _
  have bw2:=Blk.new w1 38 #[.int .i64 ref,.bool rv,.slice Ap np cp,.slice As ns cs,.int .i64 g]
  rw[hw2,zw1] at bw2
  have HB1:=qh (bw1.keep kw2 (fun h=>h))
  have HB2:=qh bw2
  have HK:=qh (kw1.trans kw2)
  clear kw1 kw2 bw1 bw2
  have HC:=qh (HLt.out w2 HK.out)
  obtain⟨y0,y1,y2,y3⟩:=bc4 HB1.out
  have HM2:=HB2
  clear HB1 HB2
  go_enter Tryz.func20, Tryz.ntmps20
  go_wp2_with fail
  refine HC.out.mono ?_
  rintro e w3 ⟨lt,rfl,hlt,hk⟩
  have HK3:=qtr HK hk
  have HM3:=qkb HM2 hk
  clear hk y0 y1 y2 y3 hw1 hw2 zw1 HC HLt HM2 HK
  cases lt with
  | false=>
   go_wp2_with fail
   go_ret
   exact⟨false,rfl,qh (fun h=>Bool.noConfusion h),HK3.out⟩
  | true=>
   have HLI:=qh (hlt.out rfl)
   clear hlt
   have m2:w3.cell? ⟨w.heap.size+1,2,none⟩=some (.slice Ap np cp):=HM3.out.cell 2
   have m3:w3.cell? ⟨w.heap.size+1,3,none⟩=some (.slice As ns cs):=HM3.out.cell 3
   by_cases g1:np≤100
   case neg=>
    have t0:decide ((np:Int)≤100)=false:=by simp;omega
    clear g1
    go_wp2_with fail
    go_ret
    exact⟨false,rfl,qh (fun h=>Bool.noConfusion h),HK3.out⟩
   have t0:decide ((np:Int)≤100)=true:=by simp;omega
   have Hg1:=qh g1
   clear g1
   by_cases g2:ns≤100
   ·have t1:decide ((ns:Int)≤100)=true:=by simp;omega
    have Hg2:=qh g2
    clear g2
    go_wp2_with fail
    go_ret
    exact⟨true,rfl,qh (fun _=>⟨HLI.out,Hg1.out,Hg2.out⟩),HK3.out⟩
   ·have t1:decide ((ns:Int)≤100)=false:=by simp;omega
    clear g2
    go_wp2_with fail
    go_ret
    exact⟨false,rfl,qh (fun h=>Bool.noConfusion h),HK3.out⟩
end Go.Proofs.YtpapiojicbbheaaGreatDoor

namespace Go.Proofs.YtpapiojicbbheaaGreatDoor
open Go.RowKit
set_option maxHeartbeats 4000000 in
set_option maxRecDepth 100000 in
theorem ext17_any (x:TA) (t:Tp) (B:Nat) (y:MX) (m:Ma) (z:Int×Int) (lo hi:Int) (w:World) (h:TpAt w B x t) (hs:TpSmall x t) (hB:B≤w.heap.size) (hm:MaAt w B y m) (ha:MayA t m z) (hnp:y.np≤1000000) (hns:y.ns≤1000000) (h0:0≤lo) (hlh:lo≤hi) (h2:hi≤endS m.2.2.2.1+m.2.2.2.2) :
    Calls Tryz.prog 36 #[.agg x.cs,.agg (y.vs m),.int .i64 lo,.int .i64 hi] w (OverRet t m.2.2.1 (z.2+lo) (z.2+hi) w):=by
  obtain⟨ref,rv,P,S,g⟩:=m
  have HMy:=qh (fun (W:World) (hk:Keep Never w W)=>may17_any x t B ref rv P S g y.Ap y.np y.cp y.As y.ns y.cs W (h.keep hk) hs (Nat.le_trans hB hk.size) (hm.p.keep hk (fun _ h=>h.elim)) (hm.s.keep hk) hnp hns)
  have HLf:=qh (fun (W:World) (hk:Keep Never w W)=>pleft_any x t B ref rv P S g y.Ap y.np y.cp y.As y.ns y.cs W (h.keep hk) hs (hm.p.keep hk (fun _ h=>h.elim)) ha.chk (by omega))
  have HOv:=qh (fun (W:World) (hk:Keep Never w W) (a b:Int) (l1:-9223372036854775808≤a) (l2:a≤9223372036854775807) (l3:-9223372036854775808≤b) (l4:b≤9223372036854775807)=>over_any x t B y.Ap y.np y.cp P a b W (h.keep hk) (hm.p.keep hk (fun _ h=>h.elim)) hs.j hs.e (by omega) (Nat.le_trans hB hk.size) l1 l2 l3 l4)
  have HSt:=qh hm.s
  have HMb:Hid (mayMA t (ref,rv,P,S,g)=true):=qh (may_iff.2 ⟨z,ha⟩)
  have HLe:Hid (leftA t (ref,rv,P,S,g)=some z):=qh ha.left
  have hz2:=ha.behind
  have hfit:=ha.fits
  have hz1:z.1≤40000000:=by
   obtain⟨b0,_,_,q2,q4⟩:=left_some ha.left
   have h5:=sum_in ha.chk q2 (i:=P.length) (Nat.le_refl _)
   have h6:=(good_of ha.chk q2).2.2
   have h7:=ha.behind
   rw[List.take_length,←h6] at h5
   rw[q4] at h7 ⊢
   simp only at h5 h7 ⊢
   omega
  have hz3:z.2≤40000000:=by
   obtain⟨b0,_,_,q2,q4⟩:=left_some ha.left
   have h5:=sum_in ha.chk q2 (i:=P.length) (Nat.le_refl _)
   have h6:=(good_of ha.chk q2).2.2
   have h8:=ha.fits
   have h9:=ha.sects.pos (j:=S.length) (Nat.le_refl _)
   rw[List.take_length] at h9
   have h10:=ha.gap0
   rw[List.take_length,←h6] at h5
   rw[q4] at h8 ⊢
   simp only at h5 h8 h9 h10 ⊢
   omega
  obtain⟨Ae,ne,ce,Aj,nj,cj,Ab,nb,cb,Ar,nr,cr⟩:=x
  obtain⟨Ap,np,cp,As,ns,cs⟩:=y
  simp only[TA.cs,MX.vs] at HMy HLf HOv HSt ⊢
  have h1:=ha.some_
  simp only at h1 h2 hfit
  have hl:=HSt.out.len
  obtain⟨k,rfl⟩:∃k,ns=k+1:=⟨ns - 1,by omega⟩
  obtain⟨sad,sl,hAs,_,hsl,c0,c1⟩:=HSt.out.rd.sc (show k<k+1 by omega)
  subst hAs
  have hse:endS S=sl.1:=by have:=endS_take hsl;rwa [List.take_of_length_le (by omega)] at this
  have hbig:=ha.sects.big sl (List.mem_of_getElem? hsl)
  have hlow:=ha.sects.up k sl hsl
  have hp0:=ha.sects.pos (j:=k) (by simp only;omega)
  have hg0:=ha.gap0
  have hg1:=ha.gap1
  have h8:=ha.eight
  simp only at hg0 hg1 hlow hp0 h8
  obtain⟨sl1,sl2⟩:=sl
  obtain⟨z1,z2⟩:=z
  simp only at c0 c1 hse hbig hlow hz1 hz2 hz3 hfit
  rw[hse] at h2 hfit
  have hz5:IntKind.i64.wrap ((k:Int)+1 - 1)=(k:Int):=by rw[show (k:Int)+1 - 1=k by omega];exact IntWalk.i64_in _ (by omega)
  have hz5b:wrap64 ((k:Int)+1 - 1)=(k:Int):=by have:=hz5;rwa [IntWalk.i64_left] at this
  have hz6:IntKind.i64.wrap (k:Int)=(k:Int):=IntWalk.i64_in _ (by omega)
  have hza:(k:Int)<(k:Int)+1:=by omega
  have hzb:(0:Int)≤(k:Int)+1:=by omega
  have hzc:((k:Int)+1).toNat=k+1:=by omega
  have hz7:IntKind.i64.wrap (sl1+g)=sl1+g:=IntWalk.i64_in _ (by omega)
  have t1:decide (lo<0)=false:=by simp;omega
  have t2:decide (lo>hi)=false:=by simp;omega
  have t3:decide (hi>sl1+g)=false:=by simp;omega
  have hwa:IntKind.i64.wrap (z2+lo)=z2+lo:=IntWalk.i64_in _ (by omega)
  have hwa2:wrap64 (z2+lo)=z2+lo:=by have:=hwa;rwa [IntWalk.i64_left] at this
  have hwb:IntKind.i64.wrap (z2+hi)=z2+hi:=IntWalk.i64_in _ (by omega)
  have hwb2:wrap64 (z2+hi)=z2+hi:=by have:=hwb;rwa [IntWalk.i64_left] at this
  have HR:Hid (-9223372036854775808≤z2+lo∧z2+lo≤9223372036854775807∧-9223372036854775808≤z2+hi∧z2+hi≤9223372036854775807):=qh (by omega)
  clear hsl hse hbig hlow hp0 hg0 hg1 h8 h1 h2 h0 hlh hl hm ha h hs hB hnp hns hz1 hz2 hz3 hfit
  obtain⟨w1,hw1⟩:∃V:World,w.alloc (.cells #[.slice Ae ne ce,.slice Aj nj cj,.slice Ab nb cb,.slice Ar nr cr] 27)=V:=⟨_,rfl⟩
  have zw1:w1.heap.size=w.heap.size+1:=by rw[←hw1];simp
  have kw1:Keep Never w w1:=by rw[←hw1];exact(Keep.refl _ _).alloc _
  have bw1:=Blk.new w 27 #[.slice Ae ne ce,.slice Aj nj cj,.slice Ab nb cb,.slice Ar nr cr]
  rw[hw1] at bw1
  obtain⟨w2,hw2⟩:∃V:World,w1.alloc (.cells #[.int .i64 ref,.bool rv,.slice Ap np cp,.slice (some sad) (k+1) cs,.int .i64 g] 38)=V:=⟨_,rfl⟩
  have kw2:Keep Never w1 w2:=by rw[←hw2];exact(Keep.refl _ _).alloc _
  have bw2:=Blk.new w1 38 #[.int .i64 ref,.bool rv,.slice Ap np cp,.slice (some sad) (k+1) cs,.int .i64 g]
  rw[hw2,zw1] at bw2
  have HB1:=qh (bw1.keep kw2 (fun h=>h))
  have HB2:=qh bw2
  have HK:=qh (kw1.trans kw2)
  clear kw1 kw2 bw1 bw2
  have HT2:=HB1
  have HM2:=HB2
  have HK2:=HK
  have HCm:Hid (∀V,Keep Never w2 V→Calls Tryz.prog 22 #[.agg #[.slice Ae ne ce,.slice Aj nj cj,.slice Ab nb cb,.slice Ar nr cr],.agg #[.int .i64 ref,.bool rv,.slice Ap np cp,.slice (some sad) (k+1) cs,.int .i64 g]] V fun en w'=>en=.returned (.bool true)∧Keep Never V w'):=qh (fun V hV=>by have hw:=HMy.out V (HK2.out.trans hV);rw[HMb.out] at hw;exact hw)
  have c0:=keepT HK.out c0
  clear HMy HB1 HB2 HK
  obtain⟨y0,y1,y2,y3⟩:=bc4 HT2.out
  obtain⟨m0,m1,m2,m3,m4⟩:=bc5 HM2.out
  have HS2:Hid (∀W',Keep Never w2 W'→Keep Never w2 W'∧W'.cell? ⟨w.heap.size,0,none⟩=some (.slice Ae ne ce)∧W'.cell? ⟨w.heap.size,1,none⟩=some (.slice Aj nj cj)∧W'.cell? ⟨w.heap.size,2,none⟩=some (.slice Ab nb cb)∧W'.cell? ⟨w.heap.size,3,none⟩=some (.slice Ar nr cr)∧W'.cell? ⟨w.heap.size+1,0,none⟩=some (.int .i64 ref)∧W'.cell? ⟨w.heap.size+1,1,none⟩=some (.bool rv)∧W'.cell? ⟨w.heap.size+1,2,none⟩=some (.slice Ap np cp)∧W'.cell? ⟨w.heap.size+1,3,none⟩=some (.slice (some sad) (k+1) cs)∧W'.cell? ⟨w.heap.size+1,4,none⟩=some (.int .i64 g)∧W'.cell? (sad.add (k*2))=some (.int .i64 sl1)):=qh (fun W' h=>⟨h,keepT h y0,keepT h y1,keepT h y2,keepT h y3,keepT h m0,keepT h m1,keepT h m2,keepT h m3,keepT h m4,keepT h c0⟩)
  go_enter Tryz.func36, Tryz.ntmps36
  go_wp2_with fail
  clear y0 y1 y2 y3 m0 m1 m2 m3 m4 c0 hw1 hw2 zw1
  go_region_held3 (fun W'=>Keep Never w2 W'∧W'.cell? ⟨w.heap.size,0,none⟩=some (.slice Ae ne ce)∧W'.cell? ⟨w.heap.size,1,none⟩=some (.slice Aj nj cj)∧W'.cell? ⟨w.heap.size,2,none⟩=some (.slice Ab nb cb)∧W'.cell? ⟨w.heap.size,3,none⟩=some (.slice Ar nr cr)∧W'.cell? ⟨w.heap.size+1,0,none⟩=some (.int .i64 ref)∧W'.cell? ⟨w.heap.size+1,1,none⟩=some (.bool rv)∧W'.cell? ⟨w.heap.size+1,2,none⟩=some (.slice Ap np cp)∧W'.cell? ⟨w.heap.size+1,3,none⟩=some (.slice (some sad) (k+1) cs)∧W'.cell? ⟨w.heap.size+1,4,none⟩=some (.int .i64 g)∧W'.cell? (sad.add (k*2))=some (.int .i64 sl1))
    (first| assumption | exact HS2.out _ ((Keep.refl Never w2).drew) | exact HS2.out _ (Keep.trans (And.left (by assumption)) hk3) | exact HS2.out _ (Keep.trans ((Keep.refl Never w2).drew) hk3))
    (first
      | (go_at_call 22; refine(HCm.out _ (by first | exact And.left (by assumption) | exact(Keep.refl Never w2).drew | exact Keep.refl Never w2)).mono ?_;rintro e w3 ⟨rfl,hk3⟩))
  rename_i hS
  have hk:=hS.1
  have HK3:=qtr HK2 hk
  have HT3:=qkb HT2 hk
  have HM3:=qkb HM2 hk
  clear hS hk hk3 HT2 HM2 HK2 HS2 t1 t2 t3
  have hw:=HLf.out w3 HK3.out
  unfold LeftRet at hw
  rw[HLe.out] at hw
  simp only[Option.getD,Option.isSome] at hw
  have HC:=qh hw
  obtain⟨y0,y1,y2,y3⟩:=bc4 HT3.out
  obtain⟨m0,m1,m2,m3,m4⟩:=bc5 HM3.out
  clear hw HLf
  go_wp2_with fail
  refine HC.out.mono ?_
  rintro en w4 ⟨rfl,hk⟩
  have HK4:=qtr HK3 hk
  have HT4:=qkb HT3 hk
  have HM4:=qkb HM3 hk
  clear hk HC y0 y1 y2 y3 m0 m1 m2 m3 m4 HT3 HM3 HK3
  have HC:=qh (HOv.out w4 HK4.out (z2+lo) (z2+hi) HR.out.1 HR.out.2.1 HR.out.2.2.1 HR.out.2.2.2)
  obtain⟨y0,y1,y2,y3⟩:=bc4 HT4.out
  have m2:w4.cell? ⟨w.heap.size+1,2,none⟩=some (.slice Ap np cp):=HM4.out.cell 2
  clear HOv
  go_wp2_with fail
  refine HC.out.mono ?_
  rintro en w5 ⟨mm,A5,n5,c5,rfl,q1,q2,q3,hk,q4⟩
  have HQ:=qh (And.intro q1.out (And.intro q2.out (And.intro q3 q4.out)))
  have HK5:=qtr HK4 hk
  clear hk HC q1 q2 q3 q4 y0 y1 y2 y3 m2
  go_wp2_with fail
  go_ret2
  exact⟨mm,A5,n5,c5,rfl,qh HQ.out.1,qh HQ.out.2.1,HQ.out.2.2.1,HK5.out,qh HQ.out.2.2.2⟩
end Go.Proofs.YtpapiojicbbheaaGreatDoor

namespace Go.Proofs.YtpapiojicbbheaaGreatDoor
open Go.RowKit
theorem cut1_any (a b far:Int) (g:Nat) (w:World) (h:w.cell? ⟨g,0,none⟩=some (.int .i64 far)):Calls Tryz.prog 98 #[.agg #[.int .i64 a,.int .i64 b],.pointer (some ⟨g,0,none⟩)] w fun e w'=>e=.returned (.bool (decide (far≤a)))∧Keep Never w w':=by
 obtain⟨w1,hw1⟩:∃W:World,w.alloc (.cells #[.int .i64 a,.int .i64 b] 58)=W:=⟨_,rfl⟩
 have k1:Keep Never w w1:=by rw[←hw1];exact(Keep.refl _ _).alloc _
 have b1:=Blk.new w 58 #[.int .i64 a,.int .i64 b]
 rw[hw1] at b1
 have c0:=b1.cell 0
 have c1:=b1.cell 1
 have d0:=keepT k1 h
 have HK:=qh k1
 clear k1 b1 h
 by_cases e1:far≤a
 ·have t1:decide (a≥far)=true:=by simpa using e1
  have HF:Hid (decide (far≤a)=true):=qh (by simpa using e1)
  clear e1
  go_enter Tryz.func98, Tryz.ntmps98
  go_wp2_with fail
  go_ret
  exact⟨by rw[HF.out];rfl,HK.out⟩
 ·have t1:decide (a≥far)=false:=by simp;omega
  have HF:Hid (decide (far≤a)=false):=qh (by simp;omega)
  clear e1
  go_enter Tryz.func98, Tryz.ntmps98
  go_wp2_with fail
  go_ret
  exact⟨by rw[HF.out];rfl,HK.out⟩
set_option maxRecDepth 100000 in
theorem ma_results1 {fn:Func}{r:Nat} (h:fn.results=#[.cell r 38]) {w:World}{b:Nat}{v0 v1 v2 v3 v4:Value} (hb:Blk w b 38 #[v0,v1,v2,v3,v4]) (tmps:Array Value) (ht:tmps.getD r undef=.pointer (some ⟨b,0,none⟩)) :
    (results fn tmps).run Tryz.prog w=.ok (.agg #[v0,v1,v2,v3,v4]) w:=by
  have q0:w.cell? ⟨b,0,none⟩=some v0:=hb.cell 0
  have q1:w.cell? ⟨b,1,none⟩=some v1:=hb.cell 1
  have q2:w.cell? ⟨b,2,none⟩=some v2:=hb.cell 2
  have q3:w.cell? ⟨b,3,none⟩=some v3:=hb.cell 3
  have q4:w.cell? ⟨b,4,none⟩=some v4:=hb.cell 4
  have ht':tmps[r]?.getD undef=.pointer (some ⟨b,0,none⟩):=by rw[←Array.getD_eq_getD_getElem?];exact ht
  simp[results,h,ht',go_sem,q0,q1,q2,q3,q4]
theorem scCells_take (l:List Sc):∀k,scCells (l.take k)=(scCells l).take (k*2):=by
 induction l with
 | nil=>intro k;simp[scCells_nil]
 | cons s l ih=>
  intro k
  cases k with
  | zero=>simp[scCells_nil]
  | succ k=>rw[List.take_succ_cons,scCells_cons,ih k,scCells_cons,show (k+1)*2=k*2+1+1 by omega];rfl
theorem cutm_set {S:List Sc}{i:Nat}{s:Sc} (h:S[i]?=some s) (v:Int):(S.take (i+1)).set i (v,s.2)=cutSc S v i:=by
 have hi:=(List.getElem?_eq_some_iff.1 h).1
 unfold cutSc
 rw[List.getD_eq_getElem?_getD,h,List.take_add_one,h]
 simp only[Option.getD_some,Option.toList_some]
 rw[List.set_append_right _ _ (by rw[List.length_take];omega),List.length_take,Nat.min_eq_left (by omega)]
 simp
theorem cutm_at {t:Ma}{far:Int}{i:Nat}{s:Sc} (h1:¬far<1) (h:t.2.2.2.1[i]?=some s) (hp:far≤s.1) (hb:∀x∈t.2.2.2.1.take i,¬far≤x.1):cutM t far=(t.1,t.2.1,t.2.2.1,cutSc t.2.2.2.1 far i,0):=by
 have:t.2.2.2.1.findIdx? (fun s=>decide (far≤s.1))=some i:=by
  rw[List.findIdx?_eq_some_iff_getElem]
  obtain⟨h2,h3⟩:=List.getElem?_eq_some_iff.1 h
  refine⟨h2,by rw[h3];simpa using hp,fun j hj=>?_⟩
  have:=hb (t.2.2.2.1[j]) (by rw[List.mem_iff_getElem?];exact⟨j,by rw[List.getElem?_take,if_pos hj];exact List.getElem?_eq_getElem _⟩)
  simpa using this
 unfold cutM
 rw[if_neg h1,this]
theorem cutm_none {t:Ma}{far:Int} (h1:¬far<1) (hb:∀x∈t.2.2.2.1,¬far≤x.1):cutM t far=t:=by
 have:t.2.2.2.1.findIdx? (fun s=>decide (far≤s.1))=none:=by
  rw[List.findIdx?_eq_none_iff]
  intro x hx
  simpa using hb x hx
 unfold cutM
 rw[if_neg h1,this]
set_option maxHeartbeats 4000000 in
set_option maxRecDepth 100000 in
theorem cut17_any (B:Nat) (y:MX) (m:Ma) (far:Int) (w:World) (hB:B≤w.heap.size) (hm:MaAt w B y m) (hnp:y.np≤1000000) (hns:y.ns≤1000000) :
    Calls Tryz.prog 35 #[.agg (y.vs m),.int .i64 far] w fun en w'=>∃y':MX,en=.returned (.agg (y'.vs (cutM m far)))∧MaAt w' w'.heap.size y' (cutM m far)∧y'.np=y.np∧y'.ns≤y.ns∧Keep Never w w':=by
  obtain⟨ref,rv,P,S,g⟩:=m
  have HCp:=qh (fun (W:World) (hk:Keep Never w W)=>cloneT_any y.Ap y.np y.cp B P W ((stps_rd hm.p).1.keep hk (fun _ h=>h.elim)) (stps_rd hm.p).2.2.2.2.1 (stps_rd hm.p).2.2.1 (by omega) (Nat.le_trans hB hk.size))
  have HCs:=qh (fun (W:World) (hk:Keep (fun q=>w.heap.size≤q) w W)=>cloneC_any y.As y.ns y.cs B S W (hm.s.rd.keep hk (fun q hq=>Nat.le_trans hB hq)) hm.s.nil hm.s.cap (by omega) (Nat.le_trans hB hk.size))
  have H6:Hid (∀u∈P,in64 u):=qh (stps_rd hm.p).2.2.2.2.2
  have HSl:Hid (S.length=y.ns):=qh hm.s.len
  obtain⟨Ap,np,cp,As,ns,cs⟩:=y
  simp only[MX.vs] at HCp HCs HSl hns ⊢
  clear hm hnp hB
  obtain⟨w1,hw1⟩:∃V:World,w.alloc (.cells #[.int .i64 ref,.bool rv,.slice Ap np cp,.slice As ns cs,.int .i64 g] 38)=V:=⟨_,rfl⟩
  have zw1:w1.heap.size=w.heap.size+1:=by rw[←hw1];simp
  have kw1:Keep Never w w1:=by rw[←hw1];exact(Keep.refl _ _).alloc _
  have bw1:=Blk.new w 38 #[.int .i64 ref,.bool rv,.slice Ap np cp,.slice As ns cs,.int .i64 g]
  rw[hw1] at bw1
  obtain⟨w2,hw2⟩:∃V:World,w1.alloc (.cells #[.int .i64 far] 3)=V:=⟨_,rfl⟩
  have zw2:w2.heap.size=w.heap.size+1+1:=by rw[←hw2];simp[zw1]
  have kw2:Keep Never w1 w2:=by rw[←hw2];exact(Keep.refl _ _).alloc _
  have bw2:=Blk.new w1 3 #[.int .i64 far]
  rw[hw2,zw1] at bw2
  obtain⟨w3,hw3⟩:∃V:World,w2.alloc (.cells #[.int .i64 0,.bool false,.slice none 0 0,.slice none 0 0,.int .i64 0] 38)=V:=⟨_,rfl⟩
  have kw3:Keep Never w2 w3:=by rw[←hw3];exact(Keep.refl _ _).alloc _
  have bw3:=Blk.new w2 38 #[.int .i64 0,.bool false,.slice none 0 0,.slice none 0 0,.int .i64 0]
  rw[hw3,zw2] at bw3
  have HB1:=qh ((bw1.keep kw2 (fun h=>h)).keep kw3 (fun h=>h))
  have HB2:=qh (bw2.keep kw3 (fun h=>h))
  have HB3:=qh bw3
  have HK:=qh ((kw1.trans kw2).trans kw3)
  clear kw1 kw2 kw3 bw1 bw2 bw3
  have HM3:=HB1
  have HI3:=HB2
  have HR3:=HB3
  have HK3:=HK
  have HC:=qh (HCp.out w3 HK3.out)
  have m2:w3.cell? ⟨w.heap.size,2,none⟩=some (.slice Ap np cp):=HM3.out.cell 2
  clear HB1 HB2 HB3 HK HCp
  go_enter Tryz.func35, Tryz.ntmps35
  go_wp2_with fail
  refine HC.out.mono ?_
  rintro en w4 ⟨Ac,cc,rfl,ho,hk⟩
  have HK4:=qtr HK3 hk
  have HM4:=qkb HM3 hk
  have HI4:=qkb HI3 hk
  have HR4:=qkb HR3 hk
  have HOp4:=qh ho
  clear hk HC ho m2 HM3 HI3 HR3 HK3 hw1 hw2 hw3 zw1 zw2
  have q2:w4.cell? ⟨w.heap.size,2,none⟩=some (.slice Ap np cp):=HM4.out.cell 2
  have qf2:=HM4.out.frozen 2
  go_upto_region 2 with(fail)
  clear q2 qf2
  obtain⟨w5,hw5⟩:∃V:World,w4.setCell ⟨w.heap.size,2,none⟩ (.slice Ac np cc)=V:=⟨_,rfl⟩
  rw[hw5]
  have hk:Keep (fun q=>q=w.heap.size) w4 w5:=by rw[←hw5];exact put1_keep _
  have HM5:Hid (Blk w5 w.heap.size 38 #[.int .i64 ref,.bool rv,.slice Ac np cc,.slice As ns cs,.int .i64 g]):=qh (by rw[←hw5];have:=HM4.out.set_ 2 (.slice Ac np cc);simpa using this)
  have HI5:=qh (HI4.out.keep hk (fun h=>by omega))
  have HR5:=qh (HR4.out.keep hk (fun h=>by omega))
  have HOp5:=qh (HOp4.out.keep hk (fun q h=>HOp4.out.ne_blk HM4.out (by decide) q h))
  have HK5:=qh (HK4.out.then_ hk (fun i hi h=>by omega))
  clear hk hw5
  have HZ5:Hid (w.heap.size≤w5.heap.size):=qh HK5.out.size
  clear HM4 HI4 HR4 HOp4 HK4
  have HC:=qh (HCs.out w5 (HK5.out.mono (fun _ _ h=>h.elim)))
  have m3:w5.cell? ⟨w.heap.size,3,none⟩=some (.slice As ns cs):=HM5.out.cell 3
  clear HCs
  go_wp2_with fail
  refine HC.out.mono ?_
  rintro en w6 ⟨Ad,cd,rfl,ho,hk⟩
  have HK6:=qtr HK5 hk
  have HM6:=qkb HM5 hk
  have HI6:=qkb HI5 hk
  have HR6:=qkb HR5 hk
  have HOp6:=qko HOp5 hk
  have HOs6:=qh ho
  clear hk HC ho m3 HM5 HI5 HR5 HOp5 HK5
  have q3:w6.cell? ⟨w.heap.size,3,none⟩=some (.slice As ns cs):=HM6.out.cell 3
  have qf3:=HM6.out.frozen 3
  go_upto_region 3 with(fail)
  clear q3 qf3
  obtain⟨w7,hw7⟩:∃V:World,w6.setCell ⟨w.heap.size,3,none⟩ (.slice Ad ns cd)=V:=⟨_,rfl⟩
  rw[hw7]
  have hk:Keep (fun q=>q=w.heap.size) w6 w7:=by rw[←hw7];exact put1_keep _
  have HM7:Hid (Blk w7 w.heap.size 38 #[.int .i64 ref,.bool rv,.slice Ac np cc,.slice Ad ns cd,.int .i64 g]):=qh (by rw[←hw7];have:=HM6.out.set_ 3 (.slice Ad ns cd);simpa using this)
  have HI7:=qh (HI6.out.keep hk (fun h=>by omega))
  have HR7:=qh (HR6.out.keep hk (fun h=>by omega))
  have HOp7:=qh (HOp6.out.keep hk (fun q h=>HOp6.out.ne_blk HM6.out (by decide) q h))
  have HOs7:=qh (HOs6.out.keep hk (fun q h=>HOs6.out.ne_blk HM6.out (by decide) q h))
  have HK7:=qh (HK6.out.then_ hk (fun i hi h=>by omega))
  clear hk hw7
  clear HM6 HI6 HR6 HOp6 HOs6 HK6
  have i0:w7.cell? ⟨w.heap.size+1,0,none⟩=some (.int .i64 far):=HI7.out.cell 0
  by_cases g0:far<1
  case pos=>
   have t0:decide (far<1)=true:=by simpa using g0
   have HG:Hid (cutM (ref,rv,P,S,g) far=(ref,rv,P,[],0)):=qh (by unfold cutM;rw[if_pos g0])
   clear g0
   have q3:w7.cell? ⟨w.heap.size,3,none⟩=some (.slice Ad ns cd):=HM7.out.cell 3
   have qf3:=HM7.out.frozen 3
   have q4:w7.cell? ⟨w.heap.size,4,none⟩=some (.int .i64 g):=HM7.out.cell 4
   have qf4:=HM7.out.frozen 4
   go_upto_region 5 with(fail)
   clear q3 qf3 q4 qf4
   obtain⟨w9,hw9⟩:∃V:World,(w7.setCell ⟨w.heap.size,3,none⟩ (.slice none 0 0)).setCell ⟨w.heap.size,4,none⟩ (.int .i64 0)=V:=⟨_,rfl⟩
   rw[hw9]
   have hk:Keep (fun q=>q=w.heap.size) w7 w9:=by rw[←hw9];exact(put1_keep _).trans (put1_keep _)
   have HM9:Hid (Blk w9 w.heap.size 38 #[.int .i64 ref,.bool rv,.slice Ac np cc,.slice none 0 0,.int .i64 0]):=qh (by rw[←hw9];have:=(HM7.out.set_ 3 (.slice none 0 0)).set_ 4 (.int .i64 0);simpa using this)
   have HOp9:=qh (HOp7.out.keep hk (fun q h=>HOp7.out.ne_blk HM7.out (by decide) q h))
   have HR9:=qh (HR7.out.keep hk (fun h=>by omega))
   have HK9:=qh (HK7.out.then_ hk (fun i hi h=>by omega))
   clear hk hw9 i0
   obtain⟨m0,m1,m2,m3,m4⟩:=bc5 HM9.out
   have r0:w9.cell? ⟨w.heap.size+1+1,0,none⟩=some (.int .i64 0):=HR9.out.cell 0
   have rf0:=HR9.out.frozen 0
   have r1:w9.cell? ⟨w.heap.size+1+1,1,none⟩=some (.bool false):=HR9.out.cell 1
   have rf1:=HR9.out.frozen 1
   have r2:w9.cell? ⟨w.heap.size+1+1,2,none⟩=some (.slice none 0 0):=HR9.out.cell 2
   have rf2:=HR9.out.frozen 2
   have r3:w9.cell? ⟨w.heap.size+1+1,3,none⟩=some (.slice none 0 0):=HR9.out.cell 3
   have rf3:=HR9.out.frozen 3
   have r4:w9.cell? ⟨w.heap.size+1+1,4,none⟩=some (.int .i64 0):=HR9.out.cell 4
   have rf4:=HR9.out.frozen 4
   go_wp2_with fail
   (try simp only[Exit.inBlock,Exit.then])
   refine bodyPost_ret (ma_results1 (fn:=Tryz.f35) (r:=4) rfl (put5_blk HR9.out (.int .i64 ref) (.bool rv) (.slice Ac np cc) (.slice none 0 0) (.int .i64 0)) _ rfl) rfl ?_
   have hkz:=put5_own (Keep.refl (fun q=>q=w.heap.size+1+1) w9) (b:=w.heap.size+1+1) (.inl rfl) (.int .i64 ref) (.bool rv) (.slice Ac np cc) (.slice none 0 0) (.int .i64 0)
   refine⟨⟨Ac,np,cc,none,0,0⟩,?_,?_⟩
   ·rw[HG.out];try rfl
   rw[HG.out]
   exact⟨⟨stps_own (HOp9.out.keep hkz (HOp9.out.ne_blk HR9.out (by decide))) H6.out,ScAt.nil_ _ _⟩,rfl,Nat.zero_le _,put5_own HK9.out (.inr (by omega)) _ _ _ _ _⟩
  have t0:decide (far<1)=false:=by simpa using g0
  have H0:=qh g0
  clear g0
  have HC:=qh (indexfc_any 98 #[.pointer (some ⟨w.heap.size+1,0,none⟩)] (fun s=>decide (far≤s.1)) (enters_of Tryz.func98 (by kernel_rfl) rfl) Ad ns cd w7.heap.size S w7 HOs7.out.rd (fun W s hW=>cut1_any s.1 s.2 far _ W (keepT hW i0)) (by omega))
  have m3:w7.cell? ⟨w.heap.size,3,none⟩=some (.slice Ad ns cd):=HM7.out.cell 3
  go_wp2_with fail
  refine HC.out.mono ?_
  rintro en w8 ⟨hx,hk⟩
  have HK8:=qtr HK7 hk
  have HM8:=qkb HM7 hk
  have HI8:=qkb HI7 hk
  have HR8:=qkb HR7 hk
  have HOp8:=qko HOp7 hk
  have HOs8:=qko HOs7 hk
  clear hk HC m3 i0 HM7 HI7 HR7 HOp7 HOs7 HK7
  rcases hx with⟨i,s,rfl,hs,hp,hb⟩ | ⟨rfl,hb⟩
  ·have HG:Hid (cutM (ref,rv,P,S,g) far=(ref,rv,P,cutSc S far i,0)):=qh (cutm_at (by have:=H0.out;omega) hs (by simpa using hp) (fun x hx=>by simpa using hb x hx))
   have hin:i<ns:=by have:=(List.getElem?_eq_some_iff.1 hs).1;rw[HSl.out] at this;exact this
   have HSe:=qh hs
   obtain⟨gc,hgc⟩:∃gc,Ad=some ⟨gc,0,none⟩:=by
    rcases HOs8.out.form with⟨_,h9,_⟩ | ⟨gc,_,h9,_⟩
    ·exact absurd h9 (by omega)
    ·exact⟨gc,h9⟩
   subst hgc
   have hcap:=HOs8.out.cap_le
   have t1:decide ((i:Int)<0)=false:=by simp
   have hwi:IntKind.i64.wrap ((i:Int)+1)=(i:Int)+1:=IntWalk.i64_in _ (by omega)
   have hwi2:wrap64 ((i:Int)+1)=(i:Int)+1:=by have:=hwi;rwa [IntWalk.i64_left] at this
   clear hs hp hb
   have m3:w8.cell? ⟨w.heap.size,3,none⟩=some (.slice (some ⟨gc,0,none⟩) ns cd):=HM8.out.cell 3
   have q3:=m3
   have qf3:=HM8.out.frozen 3
   go_upto_region 10 with(refine wpList_upto0 rfl (.tmp 27) (.tmp 29) _ rfl Tryz.underlying36 Tryz.sizeOf58 gc ns cd (i+1) (by go_simp) ((i:Int)+1) (by go_simp) (by omega) (by omega) hcap ?_)
   clear m3 q3 qf3 hwi hwi2 t1
   obtain⟨w10,hw10⟩:∃V:World,w8.setCell ⟨w.heap.size,3,none⟩ (.slice (some ⟨gc,0,none⟩) (i+1) cd)=V:=⟨_,rfl⟩
   rw[hw10]
   have hk:Keep (fun q=>q=w.heap.size) w8 w10:=by rw[←hw10];exact put1_keep _
   have HM10:Hid (Blk w10 w.heap.size 38 #[.int .i64 ref,.bool rv,.slice Ac np cc,.slice (some ⟨gc,0,none⟩) (i+1) cd,.int .i64 g]):=qh (by rw[←hw10];have:=HM8.out.set_ 3 (.slice (some ⟨gc,0,none⟩) (i+1) cd);simpa using this)
   have HI10:=qh (HI8.out.keep hk (fun h=>by omega))
   have HR10:=qh (HR8.out.keep hk (fun h=>by omega))
   have HOp10:=qh (HOp8.out.keep hk (fun q h=>HOp8.out.ne_blk HM8.out (by decide) q h))
   have HOs10:=qh (HOs8.out.keep hk (fun q h=>HOs8.out.ne_blk HM8.out (by decide) q h))
   have HK10:=qh (HK8.out.then_ hk (fun i hi h=>by omega))
   clear hk hw10
   have HOt10:Hid (Own w10 w5.heap.size 58 2 (some ⟨gc,0,none⟩) (i+1) cd (scCells (S.take (i+1)))):=qh (by rw[scCells_take];exact HOs10.out.front (by omega))
   clear HM8 HI8 HR8 HOp8 HOs8 HK8
   have hS0:=(scCells_at (S.take (i+1)) (i:=i) (s:=s) (by rw[List.getElem?_take,if_pos (by omega)];exact HSe.out)).1
   have d0:w10.cell? ⟨gc,i*2,none⟩=some (.int .i64 s.1):=HOt10.out.cell0 hS0
   have df:w10.frozen? ⟨gc,i*2,none⟩=false:=HOt10.out.frozen0 (i*2)
   have ea:(⟨gc,0,none⟩:Addr).add (i*2)=⟨gc,i*2,none⟩:=by unfold Addr.add;split <;> simp_all
   have m3:w10.cell? ⟨w.heap.size,3,none⟩=some (.slice (some ⟨gc,0,none⟩) (i+1) cd):=HM10.out.cell 3
   have i0:w10.cell? ⟨w.heap.size+1,0,none⟩=some (.int .i64 far):=HI10.out.cell 0
   have hi1:(i:Int)<(i:Int)+1:=by omega
   have d0a:w10.cell? ((⟨gc,0,none⟩:Addr).add (i*2))=some (.int .i64 s.1):=by rw[ea];exact d0
   have dfa:w10.frozen? ((⟨gc,0,none⟩:Addr).add (i*2))=false:=by rw[ea];exact df
   clear hS0
   go_upto_region 11 with(fail)
   (try rw[ea])
   obtain⟨w11,hw11⟩:∃V:World,w10.setCell ⟨gc,i*2,none⟩ (.int .i64 far)=V:=⟨_,rfl⟩
   rw[hw11]
   have hk:Keep (InRow (some ⟨gc,0,none⟩)) w10 w11:=by rw[←hw11];exact(Keep.refl _ w10).set_ (.inl ⟨_,rfl,rfl⟩) _
   have HOt11:Hid (Own w11 w5.heap.size 58 2 (some ⟨gc,0,none⟩) (i+1) cd (scCells (cutSc S far i))):=qh (by
    have h:=HOt10.out.stored rfl (i*2) (.int .i64 far)
    rw[ea,hw11,←sc_set0 (S:=S.take (i+1)) (m:=i) (sl:=s) (by rw[List.getElem?_take,if_pos (by omega)];exact HSe.out) far,cutm_set HSe.out] at h
    exact h)
   have HM11:=qh (HM10.out.keep hk (fun h=>HOt10.out.ne_blk HM10.out (by decide) _ h rfl))
   have HR11:=qh (HR10.out.keep hk (fun h=>HOt10.out.ne_blk HR10.out (by decide) _ h rfl))
   have HOp11:=qh (HOp10.out.keep hk (fun q h=>HOp10.out.ne_own HOt10.out (by decide) q h))
   have HK11:=qh (HK10.out.then_ hk (fun i hi h=>by have:=(HOt10.out.row h).1;have:=HZ5.out;omega))
   clear hk hw11 d0 df d0a dfa m3 i0 hi1 ea HM10 HI10 HR10 HOp10 HOs10 HOt10 HK10
   have q4:w11.cell? ⟨w.heap.size,4,none⟩=some (.int .i64 g):=HM11.out.cell 4
   have qf4:=HM11.out.frozen 4
   go_upto_region 12 with(fail)
   clear q4 qf4
   obtain⟨w12,hw12⟩:∃V:World,w11.setCell ⟨w.heap.size,4,none⟩ (.int .i64 0)=V:=⟨_,rfl⟩
   rw[hw12]
   have hk:Keep (fun q=>q=w.heap.size) w11 w12:=by rw[←hw12];exact put1_keep _
   have HM12:Hid (Blk w12 w.heap.size 38 #[.int .i64 ref,.bool rv,.slice Ac np cc,.slice (some ⟨gc,0,none⟩) (i+1) cd,.int .i64 0]):=qh (by rw[←hw12];have:=HM11.out.set_ 4 (.int .i64 0);simpa using this)
   have HR12:=qh (HR11.out.keep hk (fun h=>by omega))
   have HOp12:=qh (HOp11.out.keep hk (fun q h=>HOp11.out.ne_blk HM11.out (by decide) q h))
   have HOt12:=qh (HOt11.out.keep hk (fun q h=>HOt11.out.ne_blk HM11.out (by decide) q h))
   have HK12:=qh (HK11.out.then_ hk (fun i hi h=>by omega))
   clear hk hw12
   clear HM11 HR11 HOp11 HOt11 HK11
   obtain⟨m0,m1,m2,m3,m4⟩:=bc5 HM12.out
   have r0:w12.cell? ⟨w.heap.size+1+1,0,none⟩=some (.int .i64 0):=HR12.out.cell 0
   have rf0:=HR12.out.frozen 0
   have r1:w12.cell? ⟨w.heap.size+1+1,1,none⟩=some (.bool false):=HR12.out.cell 1
   have rf1:=HR12.out.frozen 1
   have r2:w12.cell? ⟨w.heap.size+1+1,2,none⟩=some (.slice none 0 0):=HR12.out.cell 2
   have rf2:=HR12.out.frozen 2
   have r3:w12.cell? ⟨w.heap.size+1+1,3,none⟩=some (.slice none 0 0):=HR12.out.cell 3
   have rf3:=HR12.out.frozen 3
   have r4:w12.cell? ⟨w.heap.size+1+1,4,none⟩=some (.int .i64 0):=HR12.out.cell 4
   have rf4:=HR12.out.frozen 4
   go_wp2_with fail
   (try simp only[Exit.inBlock,Exit.then])
   refine bodyPost_ret (ma_results1 (fn:=Tryz.f35) (r:=4) rfl (put5_blk HR12.out (.int .i64 ref) (.bool rv) (.slice Ac np cc) (.slice (some ⟨gc,0,none⟩) (i+1) cd) (.int .i64 0)) _ rfl) rfl ?_
   have hkz:=put5_own (Keep.refl (fun q=>q=w.heap.size+1+1) w12) (b:=w.heap.size+1+1) (.inl rfl) (.int .i64 ref) (.bool rv) (.slice Ac np cc) (.slice (some ⟨gc,0,none⟩) (i+1) cd) (.int .i64 0)
   refine⟨⟨Ac,np,cc,some ⟨gc,0,none⟩,i+1,cd⟩,?_,?_⟩
   ·rw[HG.out];try rfl
   rw[HG.out]
   exact⟨⟨stps_own (HOp12.out.keep hkz (HOp12.out.ne_blk HR12.out (by decide))) H6.out,scAt_own (HOt12.out.keep hkz (HOt12.out.ne_blk HR12.out (by decide)))⟩,rfl,(by simp only;omega),put5_own HK12.out (.inr (by omega)) _ _ _ _ _⟩
  ·have HG:Hid (cutM (ref,rv,P,S,g) far=(ref,rv,P,S,g)):=qh (cutm_none (by have:=H0.out;omega) (fun x hx=>by simpa using hb x hx))
   clear hb
   obtain⟨m0,m1,m2,m3,m4⟩:=bc5 HM8.out
   have r0:w8.cell? ⟨w.heap.size+1+1,0,none⟩=some (.int .i64 0):=HR8.out.cell 0
   have rf0:=HR8.out.frozen 0
   have r1:w8.cell? ⟨w.heap.size+1+1,1,none⟩=some (.bool false):=HR8.out.cell 1
   have rf1:=HR8.out.frozen 1
   have r2:w8.cell? ⟨w.heap.size+1+1,2,none⟩=some (.slice none 0 0):=HR8.out.cell 2
   have rf2:=HR8.out.frozen 2
   have r3:w8.cell? ⟨w.heap.size+1+1,3,none⟩=some (.slice none 0 0):=HR8.out.cell 3
   have rf3:=HR8.out.frozen 3
   have r4:w8.cell? ⟨w.heap.size+1+1,4,none⟩=some (.int .i64 0):=HR8.out.cell 4
   have rf4:=HR8.out.frozen 4
   go_wp2_with fail
   (try simp only[Exit.inBlock,Exit.then])
   refine bodyPost_ret (ma_results1 (fn:=Tryz.f35) (r:=4) rfl (put5_blk HR8.out (.int .i64 ref) (.bool rv) (.slice Ac np cc) (.slice Ad ns cd) (.int .i64 g)) _ rfl) rfl ?_
   have hkz:=put5_own (Keep.refl (fun q=>q=w.heap.size+1+1) w8) (b:=w.heap.size+1+1) (.inl rfl) (.int .i64 ref) (.bool rv) (.slice Ac np cc) (.slice Ad ns cd) (.int .i64 g)
   refine⟨⟨Ac,np,cc,Ad,ns,cd⟩,?_,?_⟩
   ·rw[HG.out];try rfl
   rw[HG.out]
   exact⟨⟨stps_own (HOp8.out.keep hkz (HOp8.out.ne_blk HR8.out (by decide))) H6.out,scAt_own (HOs8.out.keep hkz (HOs8.out.ne_blk HR8.out (by decide)))⟩,rfl,Nat.le_refl _,put5_own HK8.out (.inr (by omega)) _ _ _ _ _⟩
end Go.Proofs.YtpapiojicbbheaaGreatDoor

namespace Go.Proofs.YtpapiojicbbheaaGreatDoor
open Go.RowKit
instance leS_dec (a b:Sp):Decidable (leS a b):=inferInstanceAs (Decidable (a.1<b.1∨(a.1=b.1∧a.2.1≤b.2.1)))
theorem norm_short {l m:List Sp} (h:NormOf l m):m.length≤l.length:=by
 have hp:((l.filter someS).mergeSort (fun a b=>decide (leS a b))).Perm (l.filter someS):=List.mergeSort_perm _ _
 have hs:=List.pairwise_mergeSort (le:=fun a b=>decide (leS a b)) (fun a b c h1 h2=>decide_eq_true (by have h1:=of_decide_eq_true h1;have h2:=of_decide_eq_true h2;unfold leS at *;omega)) (fun a b=>by simp only[Bool.or_eq_true,decide_eq_true_eq];unfold leS;omega) (l.filter someS)
 have e:=h.one (norm_of hp (hs.imp (fun h=>of_decide_eq_true h)))
 rw[e]
 have h1:=normFold_len ((l.filter someS).mergeSort (fun a b=>decide (leS a b))) []
 rw[hp.length_eq] at h1
 have:=List.length_filter_le someS l
 simp at h1
 omega
theorem over_short {t:Tp}{p:List Stp}{lo hi:Int}{m:List Sp} (hg:goodM t.1 p) (h:NormOf (overK t.1 lo hi p p.length) m):m.length≤40:=by
 have h1:=norm_short h
 have h2:=overK_len t.1 lo hi p p.length
 have:=hg.2.2
 omega
end Go.Proofs.YtpapiojicbbheaaGreatDoor

namespace Go.Proofs.YtpapiojicbbheaaGreatDoor
open Go.RowKit
set_option maxHeartbeats 4000000 in
set_option maxRecDepth 100000 in
theorem planShrinks_walk (w:World) (hW:Widths w) (cs0:Array Value) (t:Tp) (s0:repTp.cells w w.heap.size t cs0.toList) (cs1:Array Value) (m:Ma) (s1:repMa.cells w w.heap.size m cs1.toList) (age more far:Int) :
    Calls Tryz.prog 8 #[.agg cs0,.agg cs1,.int .i64 age,.int .i64 more,.int .i64 far] w fun e w'=>e=.returned (.bool true)∧Keep Never w w':=by
  obtain⟨x,hx,ht⟩:=TpAt.of s0
  obtain rfl:cs0=x.cs:=by apply Array.ext';exact hx
  obtain⟨y,hy,hm,_,_⟩:=ma_of s1
  obtain rfl:cs1=y.vs m:=by apply Array.ext';exact hy
  clear hx hy s0 s1
  have hgv : 0 < w.heap.size:=cell_lt (hW 0 (by decide))
  have HAw:=qh (fun (V:World) (hk:Keep Never w V)=>awake17_any V (hW.keep hk (fun h=>h)) (Nat.lt_of_lt_of_le hgv hk.size))
  have HLi:=qh (fun (V:World) (hk:Keep Never w V)=>light17_any x t w.heap.size y m V (ht.keep hk))
  have HMy:=qh (fun (V:World) (hk:Keep Never w V) (hl:TpLight x t) (h1:y.np≤100) (h2:y.ns≤100)=>may17_any x t w.heap.size m.1 m.2.1 m.2.2.1 m.2.2.2.1 m.2.2.2.2 y.Ap y.np y.cp y.As y.ns y.cs V (ht.keep hk) hl.small hk.size (hm.p.keep hk (fun _ h=>h.elim)) (hm.s.keep hk) (by omega) (by omega))
  have HCu:=qh (fun (V:World) (hk:Keep Never w V) (h1:y.np≤100) (h2:y.ns≤100)=>cut17_any w.heap.size y m far V hk.size (hm.keep hk) (by omega) (by omega))
  have HRe:=qh (fun (V:World) (hk:Keep Never w V) (a:Int) (h2:y.ns≤100)=>reach_any w.heap.size m.1 m.2.1 m.2.2.2.1 m.2.2.2.2 a y.Ap y.np y.cp y.As y.ns y.cs V (hm.s.keep hk) (by omega))
  have HEx:=qh (fun (V:World) (hk:Keep Never w V) (hl:TpLight x t) (h1:y.np≤100) (h2:y.ns≤100) (z:Int×Int) (ha:MayA t m z) (hi:Int) (h3:0≤hi) (h4:hi≤endS m.2.2.2.1+m.2.2.2.2)=>ext17_any x t w.heap.size y m z 0 hi V (ht.keep hk) hl.small hk.size (hm.keep hk) ha (by omega) (by omega) (Int.le_refl _) h3 h4)
  have HMc:=qh (fun (V:World) (hk:Keep Never w V) (hl:TpLight x t) (y':MX) (c:Ma) (hc:MaAt V V.heap.size y' c) (h1:y'.np≤100) (h2:y'.ns≤100)=>may17_any x t V.heap.size c.1 c.2.1 c.2.2.1 c.2.2.2.1 c.2.2.2.2 y'.Ap y'.np y'.cp y'.As y'.ns y'.cs V ((ht.keep hk).wide hk.size) hl.small (Nat.le_refl _) hc.p hc.s (by omega) (by omega))
  obtain⟨ref,rv,P,S,g⟩:=m
  obtain⟨Ae,ne,ce,Aj,nj,cj,Ab,nb,cb,Ar,nr,cr⟩:=x
  obtain⟨Ap,np,cp,As,ns,cs⟩:=y
  simp only[TA.cs,MX.vs] at HLi HMy HCu HRe HEx HMc ⊢
  clear ht hm hgv hW
  obtain⟨w1,hw1⟩:∃V:World,w.alloc (.cells #[.slice Ae ne ce,.slice Aj nj cj,.slice Ab nb cb,.slice Ar nr cr] 27)=V:=⟨_,rfl⟩
  have zw1:w1.heap.size=w.heap.size+1:=by rw[←hw1];simp
  have kw1:Keep Never w w1:=by rw[←hw1];exact(Keep.refl _ _).alloc _
  have bw1:=Blk.new w 27 #[.slice Ae ne ce,.slice Aj nj cj,.slice Ab nb cb,.slice Ar nr cr]
  rw[hw1] at bw1
  obtain⟨w2,hw2⟩:∃V:World,w1.alloc (.cells #[.int .i64 ref,.bool rv,.slice Ap np cp,.slice As ns cs,.int .i64 g] 38)=V:=⟨_,rfl⟩
  have kw2:Keep Never w1 w2:=by rw[←hw2];exact(Keep.refl _ _).alloc _
  have bw2:=Blk.new w1 38 #[.int .i64 ref,.bool rv,.slice Ap np cp,.slice As ns cs,.int .i64 g]
  rw[hw2,zw1] at bw2
  have HB1:=qh (bw1.keep kw2 (fun h=>h))
  have HB2:=qh bw2
  have HK:=qh (kw1.trans kw2)
  clear kw1 kw2 bw1 bw2
  have HT2:=HB1
  have HM2:=HB2
  have HK2:=HK
  have HC:=qh (HAw.out w2 HK.out)
  clear HB1 HB2 HK HAw
  go_enter Tryz.func8, Tryz.ntmps8
  go_wp2_with fail
  refine HC.out.mono ?_
  rintro en w3 ⟨rfl,hk⟩
  have HK3:=qtr HK2 hk
  have HT3:=qkb HT2 hk
  have HM3:=qkb HM2 hk
  clear hk HC HT2 HM2 HK2 hw1 hw2 zw1
  have HC:=qh (HLi.out w3 HK3.out)
  obtain⟨y0,y1,y2,y3⟩:=bc4 HT3.out
  obtain⟨m0,m1,m2,m3,m4⟩:=bc5 HM3.out
  clear HLi
  go_wp2_with fail
  refine HC.out.mono ?_
  rintro en w4 ⟨lt,rfl,hlt,hk⟩
  have HK4:=qtr HK3 hk
  have HT4:=qkb HT3 hk
  have HM4:=qkb HM3 hk
  clear hk HC HT3 HM3 HK3 y0 y1 y2 y3 m0 m1 m2 m3 m4
  cases lt with
  | false=>
   go_wp2_with fail
   go_ret
   exact⟨rfl,HK4.out⟩
  | true=>
  have HLi:=qh (hlt.out rfl)
  clear hlt
  have hw:=HMy.out w4 HK4.out HLi.out.1 HLi.out.2.1 HLi.out.2.2
  obtain⟨mb,hmb⟩:∃z,mayMA t (ref,rv,P,S,g)=z:=⟨_,rfl⟩
  rw[hmb] at hw
  have HMb:=qh hmb
  have HC:=qh hw
  obtain⟨y0,y1,y2,y3⟩:=bc4 HT4.out
  obtain⟨m0,m1,m2,m3,m4⟩:=bc5 HM4.out
  clear hw hmb HMy
  go_wp2_with fail
  refine HC.out.mono ?_
  rintro en w5 ⟨rfl,hk⟩
  have HK5:=qtr HK4 hk
  have HT5:=qkb HT4 hk
  have HM5:=qkb HM4 hk
  clear hk HC HT4 HM4 HK4 y0 y1 y2 y3 m0 m1 m2 m3 m4
  cases mb with
  | false=>
   go_wp2_with fail
   go_ret
   exact⟨rfl,HK5.out⟩
  | true=>
  by_cases g0:more<age
  case pos=>
   have t0:decide (more<age)=true:=by simpa using g0
   clear g0
   go_wp2_with fail
   go_ret
   exact⟨rfl,HK5.out⟩
  have t0:decide (more<age)=false:=by simpa using g0
  obtain⟨z,hmz⟩:=may_iff.1 HMb.out
  have HMz:=qh hmz
  obtain⟨h1,h2,h3,h4,h5,h6,h7,h8⟩:=@shrink_all t (ref,rv,P,S,g) z age more far hmz hmz.behind (by omega)
  have ha:=reach_le hmz.sects age
  have hg0:=hmz.gap0
  obtain⟨b9,_,_,_,hgood,_⟩:=hmz.place
  have HGd:Hid (goodM t.1 P):=qh hgood
  simp only at h1 h2 h3 h4 h5 h6 h7 h8 ha hg0
  have hx1:=(ext_ok hmz hmz.behind (lo:=0) (hi:=reachM S age) (Int.le_refl _) ha.1 (by simp only;omega)).2
  have hx2:=(ext_ok hmz hmz.behind (lo:=0) (hi:=reachM (cutM (ref,rv,P,S,g) far).2.2.2.1 age) (Int.le_refl _) h5 (by simp only;omega)).2
  obtain⟨ra,hra⟩:∃q,reachM S age=q:=⟨_,rfl⟩
  obtain⟨rb,hrb⟩:∃q,reachM S more=q:=⟨_,rfl⟩
  obtain⟨cm,hcm⟩:∃q,cutM (ref,rv,P,S,g) far=q:=⟨_,rfl⟩
  rw[hcm] at h2 h3 h4 h5 h8 hx2
  obtain⟨rd,hrd⟩:∃q,reachM cm.2.2.2.1 age=q:=⟨_,rfl⟩
  rw[hrd] at h2 h3 h4 h5 hx2
  rw[hra] at h1 h2 ha hx1
  rw[hrb] at h1
  have hw:=HCu.out w5 HK5.out HLi.out.2.1 HLi.out.2.2
  rw[hcm] at hw
  have HC:=qh hw
  have HRa:=qh hra
  have HRb:=qh hrb
  have HRd:=qh hrd
  have H1:=qh h1
  have H2:=qh h2
  have H3:=qh h3
  have H4:=qh h4
  have H5:=qh h5
  have H8:=qh h8
  have Ha:=qh (And.intro ha hg0)
  have HX1:=qh hx1
  have HX2:=qh hx2
  obtain⟨m0,m1,m2,m3,m4⟩:=bc5 HM5.out
  clear g0 hw hra hrb hrd hcm h1 h2 h3 h4 h5 h6 h7 h8 ha hg0 hx1 hx2 hmz hgood HCu
  go_wp2_with fail
  refine HC.out.mono ?_
  rintro en w6 ⟨y',rfl,hmc,hnp',hns',hk⟩
  have HK6:=qtr HK5 hk
  have HT6:=qkb HT5 hk
  have HM6:=qkb HM5 hk
  have HY6:=qh hmc
  have HN':Hid (y'.np≤100∧y'.ns≤100):=qh (by have h1:np≤100:=HLi.out.2.1;have h2:ns≤100:=HLi.out.2.2;omega)
  clear hk HC HT5 HM5 HK5 t0 hmc hnp' hns' m0 m1 m2 m3 m4
  obtain⟨Aq,nq,cq,At,nt,ct⟩:=y'
  obtain⟨c1,c2,c3,c4,c5⟩:=cm
  simp only at HN' HRd H8 ⊢
  go_upto_region 6 with(fail)
  obtain⟨w7,hw7⟩:∃V:World,w6.alloc (.cells #[.int .i64 c1,.bool c2,.slice Aq nq cq,.slice At nt ct,.int .i64 c5] 38)=V:=⟨_,rfl⟩
  have hk:Keep Never w6 w7:=by rw[←hw7];exact(Keep.refl _ _).alloc _
  have B7:=Blk.new w6 38 #[.int .i64 c1,.bool c2,.slice Aq nq cq,.slice At nt ct,.int .i64 c5]
  rw[hw7] at B7
  obtain⟨bc,hbc⟩:∃q,w6.heap.size=q:=⟨_,rfl⟩
  rw[hbc] at B7
  rw[hw7,hbc]
  have HK7:=qtr HK6 hk
  have HT7:=qkb HT6 hk
  have HM7:=qkb HM6 hk
  have HN7:=qh B7
  have HY7:=qh ((HY6.out.keep hk).more hk.size)
  clear hk B7 hw7 hbc HT6 HM6 HK6 HY6
  have hw:=HRe.out w7 HK7.out age HLi.out.2.2
  rw[HRa.out] at hw
  have HC:=qh hw
  obtain⟨m0,m1,m2,m3,m4⟩:=bc5 HM7.out
  clear hw
  go_wp2_with fail
  refine HC.out.mono ?_
  rintro en w8 ⟨rfl,hk⟩
  have HK8:=qtr HK7 hk
  have HT8:=qkb HT7 hk
  have HM8:=qkb HM7 hk
  have HN8:=qkb HN7 hk
  have HY8:=qh ((HY7.out.keep hk).more hk.size)
  clear hk HC HT7 HM7 HN7 HY7 HK7 m0 m1 m2 m3 m4
  have hw:=HRe.out w8 HK8.out more HLi.out.2.2
  rw[HRb.out] at hw
  have HC:=qh hw
  obtain⟨m0,m1,m2,m3,m4⟩:=bc5 HM8.out
  clear hw HRe
  go_wp2_with fail
  refine HC.out.mono ?_
  rintro en w9 ⟨rfl,hk⟩
  have HK9:=qtr HK8 hk
  have HT9:=qkb HT8 hk
  have HM9:=qkb HM8 hk
  have HN9:=qkb HN8 hk
  have HY9:=qh ((HY8.out.keep hk).more hk.size)
  clear hk HC HT8 HM8 HN8 HY8 HK8 m0 m1 m2 m3 m4
  have hw:=reach_any w9.heap.size c1 c2 c4 c5 age Aq nq cq At nt ct w9 HY9.out.s (by have:=HN'.out.2;omega)
  rw[HRd.out] at hw
  have HC:=qh hw
  obtain⟨n0,n1,n2,n3,n4⟩:=bc5 HN9.out
  clear hw
  go_wp2_with fail
  refine HC.out.mono ?_
  rintro en w10 ⟨rfl,hk⟩
  have HK10:=qtr HK9 hk
  have HT10:=qkb HT9 hk
  have HM10:=qkb HM9 hk
  have HN10:=qkb HN9 hk
  have HY10:=qh ((HY9.out.keep hk).more hk.size)
  clear hk HC HT9 HM9 HN9 HY9 HK9 n0 n1 n2 n3 n4
  go_upto_region 9 with(fail)
  go_cut [79] (fun s wx=>s=.bool false∧w10=wx)
  case first=>
   have u1:=H1.out
   have u2:=H2.out
   have u3:=H3.out
   have u4:=H4.out
   have t1:decide (rb>ra)=false:=by simp;omega
   have t2:decide (rd>ra)=false:=by simp;omega
   by_cases e1:far<1
   ·have e2:rd=0:=u4 e1
    subst e2
    have t5:decide (far<1)=true:=by simpa using e1
    have t6:((0:Int) != 0)=false:=by simp
    by_cases e3:0≤far
    ·have t3:decide ((0:Int)>far)=false:=by simp;omega
     clear u1 u2 u3 u4 e1 e3
     go_wp2_with fail
     go_meet
     exact⟨rfl,rfl⟩
    ·have t3:decide ((0:Int)>far)=true:=by simp;omega
     have t4:decide (far≥0)=false:=by simp;omega
     clear u1 u2 u3 u4 e1 e3
     go_wp2_with fail
     go_meet
     exact⟨rfl,rfl⟩
   ·have t5:decide (far<1)=false:=by simpa using e1
    have t3:decide (rd>far)=false:=by have:=u3 (by omega);simp;omega
    clear u1 u2 u3 u4 e1
    go_wp2_with fail
    go_meet
    exact⟨rfl,rfl⟩
  case rest=>
  obtain⟨rfl,rfl⟩:=hcut
  have hw:=HEx.out w10 HK10.out HLi.out.1 HLi.out.2.1 HLi.out.2.2 z HMz.out ra (by have:=Ha.out.1.1;omega) (by have:=Ha.out;(try simp only);omega)
  have HC:=qh hw
  obtain⟨y0,y1,y2,y3⟩:=bc4 HT10.out
  obtain⟨m0,m1,m2,m3,m4⟩:=bc5 HM10.out
  clear hw
  go_wp2_with fail
  refine HC.out.mono ?_
  rintro en w11 ⟨x1,A1,na1,k1,rfl,q1,q2,q3,hk,q4⟩
  have HK11:=qtr HK10 hk
  have HT11:=qkb HT10 hk
  have HM11:=qkb HM10 hk
  have HN11:=qkb HN10 hk
  have HY11:=qh ((HY10.out.keep hk).more hk.size)
  (try simp only at q4)
  rw[HX1.out] at q4 ⊢
  have HXa:Hid (NormOf (overK t.1 (z.2+0) (z.2+ra) P P.length) x1):=qh (by have:=q4.out;rwa [if_pos rfl] at this)
  have HXn:Hid (na1≤200000):=qh (by have h1:=over_short HGd.out HXa.out;have h2:=q1.out;omega)
  have HS11:=qh q3
  clear hk HC q1 q2 q3 q4 HT10 HM10 HN10 HY10 HK10 y0 y1 y2 y3 m0 m1 m2 m3 m4
  have hw:=HEx.out w11 HK11.out HLi.out.1 HLi.out.2.1 HLi.out.2.2 z HMz.out rd H5.out (by have:=Ha.out;have:=H2.out;(try simp only);omega)
  have HC:=qh hw
  obtain⟨y0,y1,y2,y3⟩:=bc4 HT11.out
  obtain⟨m0,m1,m2,m3,m4⟩:=bc5 HM11.out
  clear hw
  go_wp2_with fail
  refine HC.out.mono ?_
  rintro en w12 ⟨xs2,A2,na2,k2,rfl,q1,q2,q3,hk,q4⟩
  have HK12:=qtr HK11 hk
  have HT12:=qkb HT11 hk
  have HM12:=qkb HM11 hk
  have HN12:=qkb HN11 hk
  have HY12:=qh ((HY11.out.keep hk).more hk.size)
  have HS12:=qh ((HS11.out.keep hk).more hk.size)
  (try simp only at q4)
  rw[HX2.out] at q4 ⊢
  have HYa:Hid (NormOf (overK t.1 (z.2+0) (z.2+rd) P P.length) xs2):=qh (by have:=q4.out;rwa [if_pos rfl] at this)
  have HYn:Hid (na2≤200000):=qh (by have h1:=over_short HGd.out HYa.out;have h2:=q1.out;omega)
  have HZ12:=qh q3
  clear hk HC q1 q2 q3 q4 HT11 HM11 HN11 HY11 HK11 HS11 m0 m1 m2 m3 m4 y0 y1 y2 y3
  have HC:=qh (within_any w12.heap.size A2 na2 k2 A1 na1 k1 xs2 x1 w12 HZ12.out HS12.out HYn.out HXn.out (Nat.le_refl _))
  go_wp2_with fail
  refine HC.out.mono ?_
  rintro en w13 ⟨r,rfl,hr,hk⟩
  have HK13:=qtr HK12 hk
  have HT13:=qkb HT12 hk
  have HM13:=qkb HM12 hk
  have HN13:=qkb HN12 hk
  have HY13:=qh ((HY12.out.keep hk).more hk.size)
  have hrt:r=true:=hr.2 (ext_within HGd.out (by have:=H2.out;omega) HYa.out HXa.out)
  subst hrt
  clear hk hr HC HT12 HM12 HN12 HY12 HK12 HS12 HZ12
  by_cases e1:far<1
  ·have t5:decide (far<1)=true:=by simpa using e1
   clear e1
   go_wp2_with fail
   go_ret
   exact⟨rfl,HK13.out⟩
  ·have t5:decide (far<1)=false:=by simpa using e1
   have hmt:=H8.out (by omega)
   have hw:=HMc.out w13 HK13.out HLi.out.1 ⟨Aq,nq,cq,At,nt,ct⟩ (c1,c2,c3,c4,c5) HY13.out HN'.out.1 HN'.out.2
   simp only at hw
   rw[hmt] at hw
   have HC:=qh hw
   obtain⟨y0,y1,y2,y3⟩:=bc4 HT13.out
   obtain⟨n0,n1,n2,n3,n4⟩:=bc5 HN13.out
   clear hw hmt e1
   go_wp2_with fail
   refine HC.out.mono ?_
   rintro en w14 ⟨rfl,hk⟩
   have HK14:=qtr HK13 hk
   clear hk HC y0 y1 y2 y3 n0 n1 n2 n3 n4
   go_wp2_with fail
   go_ret
   exact⟨rfl,HK14.out⟩
end Go.Proofs.YtpapiojicbbheaaGreatDoor

namespace Go.Proofs.YtpapiojicbbheaaGreatDoor
open Go.RowKit Go.ChangeShapes Go.WideShapes Go.ChangeAt
theorem gTab:Tryz.prog.globalNamed "lineside/vars.widths" = some 0 := by kernel_rfl
theorem gTabType:(Tryz.prog.globals[0]?).map (·.type)=some 238 := by kernel_rfl
theorem cellsTab:Tryz.prog.cellsOf 238 = 96:=by kernel_rfl
theorem laid_gives {W:World} (h:laidMetH Tryz.prog [("lineside/vars.widths", Rows.laid_lineside_vars_widths)] W):Widths W:=by
 have hT:Lib.TabIs Tryz.prog W "lineside/vars.widths" .i64 wtab:=Lib.tabIs_of_head (rest:=[]) gTab gTabType Tryz.underlying238 Tryz.underlying3 cellsInt cellsTab h
 intro i hi
 have:=hT.cell gTab i (by show i<96;exact hi)
 rw[this]
noncomputable def laidWorld (os:Os):World:=
  { World.holding Tryz.prog os ⟨#[],#[],[]⟩ with heap:=(World.holding Tryz.prog os ⟨#[],#[],[]⟩).heap.modify 0 fun
      | .cells _ t frozen=>.cells (wtab.map (Value.int .i64)).toArray t frozen
      | o=>o }
end Go.Proofs.YtpapiojicbbheaaGreatDoor
