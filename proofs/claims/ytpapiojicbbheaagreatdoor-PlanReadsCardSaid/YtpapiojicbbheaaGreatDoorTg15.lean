/- Texts of this claim, together: PmL, PmM, PnJ, VarsK. -/
import Derived.Test.YtpapiojicbbheaaGreatDoorTg14
namespace Go.Proofs.YtpapiojicbbheaaGreatDoor
open Go.RowKit
set_option maxHeartbeats 8000000 in
set_option maxRecDepth 100000 in
theorem build_any (x:TA) (t:Tp) (B:Nat) (Al:Option Addr) (nl cl:Nat) (l:List Lk) (train ref:Int) (rv:Bool) (n:Int) (w:World) (h:TpAt w B x t) (hs:TpSmall x t) (hB:B≤w.heap.size) (hl:SpAt w B Al nl cl l) (hnl:nl≤1000000) :
    Calls Tryz.prog 14 #[.agg x.cs,.slice Al nl cl,.int .i64 train,.int .i64 ref,.bool rv,.int .i64 n] w (MaRet (buildM t l train ref rv n) w):=by
  have HLo:=qh (fun (W:World) (hk:Keep Never w W)=>plocate_any x t B ref rv n W (h.keep hk) hs (Nat.le_trans hB hk.size))
  have HCh:=qh (fun (W:World) (hk:Keep Never w W) (s1:Int) (s2:Bool)=>chain_any x t B Al nl cl l train (s1,s2) W (h.keep hk) hs (Nat.le_trans hB hk.size) (hl.keep hk) hnl)
  have HBa:=qh (fun (W:World) (hk:Keep Never w W)=>bal_any x t B ref W (h.keep hk) hs.b)
  have HRo:=qh (fun (W:World) (hk:Keep Never w W) (id:Int)=>route_own x t B id W (h.keep hk) hs.r hs.p (Nat.le_trans hB hk.size))
  have HGo:=qh (fun (W:World) (hk:Keep Never w W) (b1 b2 b3:Int) (hL:LocOk t ref rv n (b1,b2,b3))=>gone_any x t B b1 b2 b3 rv n W (h.keep hk) hs hL.chk hL.there hL.a0 hL.a1 hL.n0 hL.n1 hL.go)
  have HBh:=qh (fun (W:World) (hk:Keep Never w W) (b1 b2 b3:Int) (hL:LocOk t ref rv n (b1,b2,b3))=>(show Calls Tryz.prog 57 #[.agg x.cs,.agg #[.int .i64 b2,.int .i64 b3,.bool rv]] W fun en w'=>en=.returned (.int .i64 (alongP t (b2,b3,rv)))∧Keep Never W w' by
   have h1:=there_edge hL.chk hL.there
   simp only at h1
   exact behind_any x t B b2 b3 rv W (h.keep hk) h1.1 (by have:=h.e.len;have:=h1.2.1;omega) (by omega) (by omega) hL.a0 (by have:=hL.a1;simp only at *;omega)))
  have HTw:=qh (fun (W:World) (A:Option Addr) (n c:Nat) (l:List Stp) (h:Rd W W.heap.size 2 A n (stpCells l)) (hc:n≤c) (hn:n≤1000000)=>twice_any A n c W.heap.size l W h hc hn)
  have HSi:=qh (fun (W:World) (A:Option Addr) (n c:Nat) (l:List Stp) (v1:Int) (v2:Bool) (h:Rd W W.heap.size 2 A n (stpCells l)) (hn:n≤1000000000)=>sindex_any A n c W.heap.size l (v1,v2) W h hn)
  have HEd:=qh (fun (W:World) (hk:Keep Never w W) (e:Int) (hc:checkM t=0) (hth:thereB t.1.length e=true)=>(show ∃ad k v,x.Ae=some ad∧e=((k:Nat):Int)∧k<x.ne∧W.cell? (ad.add k)=some (.int .i64 v)∧edgeM t e=v∧0≤v∧v≤1000000 by
   obtain⟨d1,d2,d3⟩:=there_edge hc hth
   obtain⟨ad,k,v,e1,e2,e3,e4,e5⟩:=edge_at (h.keep hk) d1 (by have:=h.e.len;omega)
   exact⟨ad,k,v,e1,e2,e3,e4,e5,by omega,by omega⟩))
  have HBw:=qh hB
  obtain⟨Ae,ne,ce,Aj,nj,cj,Ab,nb,cb,Ar,nr,cr⟩:=x
  simp only[TA.cs] at HLo HCh HBa HRo HGo HBh HEd ⊢
  clear h hs hl hB hnl
  obtain⟨w1,hw1⟩:∃V:World,w.alloc (.cells #[.slice Ae ne ce,.slice Aj nj cj,.slice Ab nb cb,.slice Ar nr cr] 27)=V:=⟨_,rfl⟩
  have zw1:w1.heap.size=w.heap.size+1:=by rw[←hw1];simp
  have kw1:Keep Never w w1:=by rw[←hw1];exact(Keep.refl _ _).alloc _
  have bw1:=Blk.new w 27 #[.slice Ae ne ce,.slice Aj nj cj,.slice Ab nb cb,.slice Ar nr cr]
  rw[hw1] at bw1
  obtain⟨w2,hw2⟩:∃V:World,w1.alloc (.cells #[.int .i64 0,.bool false,.slice none 0 0,.slice none 0 0,.int .i64 0] 38)=V:=⟨_,rfl⟩
  have kw2:Keep Never w1 w2:=by rw[←hw2];exact(Keep.refl _ _).alloc _
  have bw2:=Blk.new w1 38 #[.int .i64 0,.bool false,.slice none 0 0,.slice none 0 0,.int .i64 0]
  rw[hw2,zw1] at bw2
  have HB1:=qh (bw1.keep kw2 (fun h=>h))
  have HB2:=qh bw2
  have HK:=qh (kw1.trans kw2)
  clear kw1 kw2 bw1 bw2
  have HT2:=HB1
  have HR2:=HB2
  have HK2:=HK
  have hw:=HLo.out w2 HK.out
  obtain⟨lp,hlp⟩:∃z,locP t ref rv n=z:=⟨_,rfl⟩
  rw[hlp] at hw
  have HLp:=qh hlp
  obtain⟨⟨l1,l2,l3⟩,er⟩:=lp
  have HC:=qh hw
  clear hw hlp HLo HB1 HB2 HK
  obtain⟨y0,y1,y2,y3⟩:=bc4 HT2.out
  go_enter Tryz.func14, Tryz.ntmps14
  go_wp2_with fail
  refine HC.out.mono ?_
  rintro en w3 ⟨rfl,hk⟩
  have HK3:=qtr HK2 hk
  have HT3:=qkb HT2 hk
  have HR3:=qkb HR2 hk
  clear hk HC HT2 HR2 HK2 y0 y1 y2 y3 hw1 hw2 zw1
  simp only[psV]
  obtain⟨w4,hw4⟩:∃V:World,w3.alloc (.cells #[.int .i64 l1,.int .i64 l2,.bool l3] 71)=V:=⟨_,rfl⟩
  have hk:Keep Never w3 w4:=by rw[←hw4];exact(Keep.refl _ _).alloc _
  have B4:=Blk.new w3 71 #[.int .i64 l1,.int .i64 l2,.bool l3]
  rw[hw4] at B4
  obtain⟨bp,hbp⟩:∃q,w3.heap.size=q:=⟨_,rfl⟩
  rw[hbp] at B4
  have HK4:=qtr HK3 hk
  have HT4:=qkb HT3 hk
  have HR4:=qkb HR3 hk
  have HP4:=qh B4
  clear hk B4 HT3 HR3 HK3
  by_cases g0:er=0
  case neg=>
   have t0:(er != 0)=true:=by simpa using g0
   have HF:Hid (buildM t l train ref rv n=(noMa,er)):=qh (build_far HLp.out g0)
   clear g0
   obtain⟨r0,r1,r2,r3,r4⟩:=bc5 HR4.out
   have rf0:=HR4.out.frozen 0
   have rf1:=HR4.out.frozen 1
   have rf2:=HR4.out.frozen 2
   have rf3:=HR4.out.frozen 3
   have rf4:=HR4.out.frozen 4
   go_wp2_with fail
   (try simp only[Exit.inBlock,Exit.then])
   refine bodyPost_ret (ma_results2 (fn:=Tryz.f14) (r:=12) (s:=13) rfl (put5_blk HR4.out (.int .i64 0) (.bool false) (.slice none 0 0) (.slice none 0 0) (.int .i64 0)) _ rfl) rfl ?_
   rw[HF.out]
   exact⟨⟨none,0,0,none,0,0⟩,rfl,ma_nil,put5_own HK4.out (.inr (by omega)) _ _ _ _ _⟩
  have t0:(er != 0)=false:=by simpa using g0
  obtain⟨b,hL⟩:=loc_ok (show (locP t ref rv n).2=0 by rw[HLp.out];exact g0)
  obtain⟨b1,b2,b3⟩:=b
  have HL:=qh hL
  clear hL g0
  have p0:w4.cell? ⟨bp,0,none⟩=some (.int .i64 l1):=HP4.out.cell 0
  have p2:w4.cell? ⟨bp,2,none⟩=some (.bool l3):=HP4.out.cell 2
  go_upto_region 5 with(fail)
  obtain⟨w5,hw5⟩:∃V:World,w4.alloc (.cells #[.int .i64 l1,.bool l3] 30)=V:=⟨_,rfl⟩
  have hk:Keep Never w4 w5:=by rw[←hw5];exact(Keep.refl _ _).alloc _
  have B5:=Blk.new w4 30 #[.int .i64 l1,.bool l3]
  rw[hw5] at B5
  obtain⟨bs,hbs⟩:∃q,w4.heap.size=q:=⟨_,rfl⟩
  rw[hbs] at B5
  rw[hw5,hbs]
  have HBs:Hid (w.heap.size≤bs):=qh (by rw[←hbs];exact HK4.out.size)
  have HK5:=qtr HK4 hk
  have HT5:=qkb HT4 hk
  have HR5:=qkb HR4 hk
  have HS5:=qh B5
  clear hk B5 HT4 HR4 HK4 HP4 p0 p2 t0 hw5 hbs
  have hw:=HCh.out w5 HK5.out l1 l3
  obtain⟨c,hc⟩:∃z,chainM t l train (l1,l3)=z:=⟨_,rfl⟩
  rw[hc] at hw
  have HCe:=qh hc
  have HC:=qh hw
  clear hw hc HCh
  obtain⟨y0,y1,y2,y3⟩:=bc4 HT5.out
  obtain⟨s0,s1⟩:=bc2 HS5.out
  go_wp2_with fail
  refine HC.out.mono ?_
  rintro en w6 ⟨Ac,nc,cc,rfl,hnc,hoc,hk⟩
  have HK6:=qtr HK5 hk
  have HT6:=qkb HT5 hk
  have HR6:=qkb HR5 hk
  have HS6:=qkb HS5 hk
  have HOc6:=qh (hoc.less HK5.out.size)
  have HNc:Hid (nc=c.length):=hnc
  clear hk hoc hnc HC HT5 HR5 HS5 HK5 y0 y1 y2 y3 s0 s1
  by_cases g1:c=[]
  case pos=>
   obtain rfl:nc=0:=by rw[HNc.out,g1];rfl
   have HF:Hid (buildM t l train ref rv n=(noMa,4)):=qh (build_none HLp.out HL.out (by rw[HCe.out];exact g1))
   clear g1
   obtain⟨r0,r1,r2,r3,r4⟩:=bc5 HR6.out
   have rf0:=HR6.out.frozen 0
   have rf1:=HR6.out.frozen 1
   have rf2:=HR6.out.frozen 2
   have rf3:=HR6.out.frozen 3
   have rf4:=HR6.out.frozen 4
   go_wp2_with fail
   (try simp only[Exit.inBlock,Exit.then])
   refine bodyPost_ret (ma_results2 (fn:=Tryz.f14) (r:=12) (s:=13) rfl (put5_blk HR6.out (.int .i64 0) (.bool false) (.slice none 0 0) (.slice none 0 0) (.int .i64 0)) _ rfl) rfl ?_
   rw[HF.out]
   exact⟨⟨none,0,0,none,0,0⟩,rfl,ma_nil,put5_own HK6.out (.inr (by omega)) _ _ _ _ _⟩
  have hnc1:1≤nc:=by rw[HNc.out];cases c with | nil=>exact absurd rfl g1 | cons _ _=>simp
  have t1:((nc:Int)==0)=false:=by simp;omega
  have t1b:(nc==0)=false:=by simp;omega
  have hF:=build_go HLp.out HL.out (by rw[HCe.out];exact g1)
  rw[HCe.out] at hF
  have HCG:Hid (ChG t l train (l1,l3) c):=qh (by rw[←HCe.out];exact chg_of)
  have HF:=qh hF
  clear hF g1
  have hw:=HBa.out w6 HK6.out
  unfold BalRet at hw
  rw[HL.out.bal] at hw
  simp only[Option.getD,Option.isSome] at hw
  have HC:=qh hw
  clear hw HBa
  obtain⟨y0,y1,y2,y3⟩:=bc4 HT6.out
  go_wp2_with fail
  refine HC.out.mono ?_
  rintro en w7 ⟨rfl,hk⟩
  have HK7:=qtr HK6 hk
  have HT7:=qkb HT6 hk
  have HR7:=qkb HR6 hk
  have HS7:=qkb HS6 hk
  have HOc7:=qko HOc6 hk
  clear hk HC HT6 HR6 HS6 HOc6 HK6 y0 y1 y2 y3 t1 t1b
  obtain⟨w8,hw8⟩:∃V:World,w7.alloc (.cells #[.int .i64 b1,.int .i64 b2,.int .i64 b3] 94)=V:=⟨_,rfl⟩
  have hk:Keep Never w7 w8:=by rw[←hw8];exact(Keep.refl _ _).alloc _
  have B8:=Blk.new w7 94 #[.int .i64 b1,.int .i64 b2,.int .i64 b3]
  rw[hw8] at B8
  obtain⟨bb,hbb⟩:∃q,w7.heap.size=q:=⟨_,rfl⟩
  rw[hbb] at B8
  have HK8:=qtr HK7 hk
  have HT8:=qkb HT7 hk
  have HR8:=qkb HR7 hk
  have HS8:=qkb HS7 hk
  have HOc8:=qko HOc7 hk
  have HD8:=qh B8
  clear hk B8 HT7 HR7 HS7 HOc7 HK7
  have hw:=HGo.out w8 HK8.out b1 b2 b3 HL.out
  obtain⟨g,hg⟩:∃z,goneM t 40 (b2,rv) (n+alongP t (b2,b3,rv))=z:=⟨_,rfl⟩
  rw[hg] at hw
  have HGg:Hid (g.length≤41∧∀u∈g,thereB t.1.length u.1=true):=qh (by rw[←hg];have:=gone_good HL.out.there HL.out.go;exact⟨this.few,this.in_⟩)
  have HC:=qh hw
  have HGe:=qh hg
  clear hw hg HGo
  obtain⟨y0,y1,y2,y3⟩:=bc4 HT8.out
  obtain⟨d0,d1,d2⟩:=bc3 HD8.out
  go_wp2_with fail
  refine HC.out.mono ?_
  rintro en w9 ⟨Ap,np,cp,rfl,hnp,hop,h64,hk⟩
  have HK9:=qtr HK8 hk
  have HT9:=qkb HT8 hk
  have HR9:=qkb HR8 hk
  have HS9:=qkb HS8 hk
  have HOc9:=qko HOc8 hk
  have HD9:=qkb HD8 hk
  have HOp9:=qh (hop.less (show bs+1≤w8.heap.size from HS8.out.lt))
  have HNp:Hid (np=g.length):=hnp
  have H64:Hid (∀u∈g,in64 u):=h64
  clear hk hop hnp h64 HC HT8 HR8 HS8 HOc8 HD8 HK8 y0 y1 y2 y3 d0 d1 d2 hw8 hbb
  go_upto_region 10 with(fail)
  obtain⟨w10,hw10⟩:∃V:World,w9.alloc (.cells #[.int .i64 ref,.bool rv,.slice Ap np cp,.slice none 0 0,.int .i64 0] 38)=V:=⟨_,rfl⟩
  have hk:Keep Never w9 w10:=by rw[←hw10];exact(Keep.refl _ _).alloc _
  have B10:=Blk.new w9 38 #[.int .i64 ref,.bool rv,.slice Ap np cp,.slice none 0 0,.int .i64 0]
  rw[hw10] at B10
  obtain⟨bm,hbm⟩:∃q,w9.heap.size=q:=⟨_,rfl⟩
  rw[hbm] at B10
  rw[hw10,hbm]
  have HBm:Hid (w.heap.size≤bm∧bm≠w.heap.size∧bm≠w.heap.size+1):=qh (by have h1:=HK9.out.size;have h2:=HR9.out.lt;omega)
  have HK10:=qtr HK9 hk
  have HT10:=qkb HT9 hk
  have HR10:=qkb HR9 hk
  have HS10:=qkb HS9 hk
  have HOc10:=qko HOc9 hk
  have HD10:=qkb HD9 hk
  have HOp10:=qko HOp9 hk
  have HM10:=qh B10
  clear hk B10 HT9 HR9 HS9 HOc9 HD9 HOp9 HK9 hw10 hbm
  obtain⟨back,hback⟩:∃z,alongP t (b2,b3,rv)=z:=⟨_,rfl⟩
  have hb01:=along_in (t:=t) (p:=(b2,b3,rv)) HL.out.a0 HL.out.a1
  have hbe:=there_edge HL.out.chk HL.out.there
  simp only at hb01 hbe
  rw[hback] at hb01
  have HBk:Hid (0≤back∧back≤1000000):=qh (by omega)
  have hw:=HBh.out w10 HK10.out b1 b2 b3 HL.out
  rw[hback] at hw
  rw[HGe.out,hback] at HF
  have HC:=qh hw
  have HC0:Hid (checkM t=0):=qh HL.out.chk
  have hwn:IntKind.i64.wrap (-back)=-back:=IntWalk.i64_in _ (by omega)
  have hwn2:wrap64 (-back)=-back:=by have:=hwn;rwa [IntWalk.i64_left] at this
  have HG41:Hid (np≤41):=qh (by have:=HGg.out.1;rw[HNp.out];omega)
  clear hw hback hb01 hbe HBh HGe
  obtain⟨y0,y1,y2,y3⟩:=bc4 HT10.out
  have d1:w10.cell? ⟨bb,1,none⟩=some (.int .i64 b2):=HD10.out.cell 1
  have d2:w10.cell? ⟨bb,2,none⟩=some (.int .i64 b3):=HD10.out.cell 2
  go_wp2_with fail
  refine HC.out.mono ?_
  rintro en w11 ⟨rfl,hk⟩
  have HK11:=qtr HK10 hk
  have HT11:=qkb HT10 hk
  have HR11:=qkb HR10 hk
  have HS11:=qkb HS10 hk
  have HOc11:=qko HOc10 hk
  have HOp11:=qko HOp10 hk
  have HM11:=qkb HM10 hk
  clear hk HC HT10 HR10 HS10 HOc10 HD10 HOp10 HM10 HK10 y0 y1 y2 y3 d1 d2
  have m2:w11.cell? ⟨bm,2,none⟩=some (.slice Ap np cp):=HM11.out.cell 2
  go_wp2_with fail
  (try rw[hwn])
  (try rw[hwn2])
  clear m2 hwn hwn2
  go_loopw [21,84] (fun s21 s84 wr=>∃k:Nat,k≤np∧s84=.int .i64 k∧s21=.int .i64 (plainS t.1 (g.take k) - back)∧Hid (Keep Never w11 wr)) (fun _ si _=>np - (intOf si).toNat)
  case atStart=>exact⟨0,by omega,rfl,by simp[plainS],qh (Keep.refl _ _)⟩
  case round=>
   obtain⟨k,hk,rfl,rfl,HH⟩:=hrel
   by_cases h0:k<np
   case neg=>
    obtain rfl:k=np:=by omega
    have hki:¬(k:Int)<(k:Int):=by omega
    have HK12:=qh (HK11.out.trans HH.out)
    have HT12:=qh (HT11.out.keep HH.out (fun h=>h))
    have HR12:=qh (HR11.out.keep HH.out (fun h=>h))
    have HS12:=qh (HS11.out.keep HH.out (fun h=>h))
    have HM12:=qh (HM11.out.keep HH.out (fun h=>h))
    have HOc12:=qh (HOc11.out.keep HH.out (fun _ _ h=>h))
    have HOp12:=qh (HOp11.out.keep HH.out (fun _ _ h=>h))
    have HNq:Hid (k=g.length):=qh HNp.out
    rw[List.take_of_length_le (by rw[HNq.out];exact Nat.le_refl _)]
    clear HT11 HR11 HS11 HM11 HOc11 HOp11 HK11 HH
    go_upto_region 17 with(fail)
    go_loopw [21,99] (fun s21 s99 wr=>∃(k:Nat) (Ap:Option Addr) (np cp:Nat) (As:Option Addr) (ns cs:Nat),k≤nc∧s99=.int .i64 k∧s21=.int .i64 (plainS t.1 (wayC t (l1,l3) g c k) - back)∧Hid (Own wr (bs+1) 30 2 Ap np cp (stpCells (wayC t (l1,l3) g c k))∧(∀u∈wayC t (l1,l3) g c k,in64 u)∧Own wr w.heap.size 58 2 As ns cs (scCells (secC t (l1,l3) g back c k))∧Blk wr w.heap.size 27 #[.slice Ae ne ce,.slice Aj nj cj,.slice Ab nb cb,.slice Ar nr cr]∧Blk wr (w.heap.size+1) 38 #[.int .i64 0,.bool false,.slice none 0 0,.slice none 0 0,.int .i64 0]∧Blk wr bs 30 #[.int .i64 l1,.bool l3]∧Blk wr bm 38 #[.int .i64 ref,.bool rv,.slice Ap np cp,.slice As ns cs,.int .i64 (gapC t c k)]∧Own wr w.heap.size 62 3 Ac nc cc (spCells c)∧Keep Never w wr∧np=(wayC t (l1,l3) g c k).length∧ns=k)) (fun _ si _=>nc - (intOf si).toNat)
    case atStart=>exact⟨0,Ap,k,cp,none,0,0,by omega,rfl,rfl,qh ⟨HOp12.out,H64.out,Own.nil _ _ _ _,HT12.out,HR12.out,HS12.out,HM12.out,HOc12.out,HK12.out,HNq.out,rfl⟩⟩
    case round=>
     clear HOp12 HT12 HR12 HS12 HM12 HOc12 HK12 H64 HNp HNq
     rename World=>wz
     obtain⟨k,Ap,np,cp,As,ns,cs,hk,rfl,rfl,HH⟩:=hrel
     have HOpz:=qh HH.out.1
     have H6:Hid (∀u∈wayC t (l1,l3) g c k,in64 u):=qh HH.out.2.1
     have HOsz:=qh HH.out.2.2.1
     have HTz:=qh HH.out.2.2.2.1
     have HRz:=qh HH.out.2.2.2.2.1
     have HSz:=qh HH.out.2.2.2.2.2.1
     have HMz:=qh HH.out.2.2.2.2.2.2.1
     have HOcz:=qh HH.out.2.2.2.2.2.2.2.1
     have HKz:=qh HH.out.2.2.2.2.2.2.2.2.1
     have HNp:Hid (np=(wayC t (l1,l3) g c k).length):=qh HH.out.2.2.2.2.2.2.2.2.2.1
     obtain rfl:k=ns:=HH.out.2.2.2.2.2.2.2.2.2.2.symm
     clear HH
     have hkz:=HKz.out.size
     have hnc8:nc≤8:=by have:=HCG.out.few;have:=HNc.out;omega
     by_cases h0:k<nc
     case neg=>
      obtain rfl:k=nc:=by omega
      have hki:¬(k:Int)<(k:Int):=by omega
      obtain⟨m,rfl⟩:∃m,k=m+1:=⟨k - 1,by omega⟩
      rw[←HNc.out] at HF
      obtain⟨P,hP⟩:∃z,wayC t (l1,l3) g c (m+1)=z:=⟨_,rfl⟩
      obtain⟨S,hS⟩:∃z,secC t (l1,l3) g back c (m+1)=z:=⟨_,rfl⟩
      obtain⟨gp,hgp⟩:∃z,gapC t c (m+1)=z:=⟨_,rfl⟩
      have hcm:c[m]?=some (c[m]'(by have:=HNc.out;omega)):=List.getElem?_eq_getElem (by have:=HNc.out;omega)
      obtain⟨r0,hr0,_,_,_,_,_,hgl,hgu⟩:=HCG.out.rt m _ hcm
      have hgb:0≤gp∧gp≤40000000:=by
       rw[←hgp,gap_next hcm];unfold routeOf;rw[hr0];exact⟨hgl,hgu⟩
      have hSl:S.length=m+1:=by rw[←hS];exact sec_len _ (by have:=HNc.out;omega)
      obtain⟨hwl,hwt⟩:=way_good (s:=(l1,l3)) HCG.out HGg.out.1 HGg.out.2 (m+1) (by have:=HNc.out;omega)
      have hpb0:=plain_bnd HC0.out _ hwt
      have hSm:∃x2,S[m]?=some (plainS t.1 (wayC t (l1,l3) g c (m+1)) - back,x2):=by
       rw[←hS,sec_next hcm]
       rw[List.getElem?_append_right (by rw[sec_len m (by have:=HNc.out;omega)];exact Nat.le_refl _),sec_len m (by have:=HNc.out;omega)]
       exact⟨_,by simp;rfl⟩
      obtain⟨x2,hSm⟩:=hSm
      obtain⟨x1,hx1⟩:∃z,plainS t.1 (wayC t (l1,l3) g c (m+1)) - back=z:=⟨_,rfl⟩
      have hxb:-1000000≤x1∧x1≤200000000:=by have:=HBk.out;omega
      rw[hx1] at hSm ⊢
      rw[hP] at HOpz H6 HNp HF
      rw[hS] at HOsz HF
      rw[hgp] at HMz HF
      rw[less_set hSm hSl] at HF
      obtain⟨As0,rfl⟩:∃q,As=some q:=by
       cases As with
       | some q=>exact⟨q,rfl⟩
       | none=>
        rcases HOsz.out.form with⟨_,h9,_⟩ | ⟨_,_,h9,_⟩
        ·exact absurd h9 (by omega)
        ·cases h9
      obtain⟨sl,hs9,c0,c1⟩:=sc_cell HOsz.out.rd (show m<m+1 by omega)
      rw[hSm] at hs9
      injection hs9 with hs9
      subst hs9
      simp only at c0 c1 HF
      have HSm:=qh hSm
      have HSl:=qh hSl
      have HX:Hid (0≤n∧P.length≤105):=qh ⟨HL.out.n0,by rw[←hP];omega⟩
      clear hcm hr0 hgl hgu hSl hSm hwl hwt hpb0 hP hS hgp hx1
      have hw33:IntKind.i64.wrap (x1 - gp)=x1 - gp:=IntWalk.i64_in _ (by omega)
      have hw33b:wrap64 (x1 - gp)=x1 - gp:=by have:=hw33;rwa [IntWalk.i64_left] at this
      have hz0:(m:Int)<(m:Int)+1:=by omega
      have hz3:(0:Int)≤(m:Int)+1:=by omega
      have hz4:((m:Int)+1).toNat=m+1:=by omega
      have hz5:IntKind.i64.wrap ((m:Int)+1 - 1)=(m:Int):=by rw[show (m:Int)+1 - 1=m by omega];exact IntWalk.i64_in _ (by omega)
      have hz5b:wrap64 ((m:Int)+1 - 1)=(m:Int):=by have:=hz5;rwa [IntWalk.i64_left] at this
      have hz6:IntKind.i64.wrap (m:Int)=(m:Int):=IntWalk.i64_in _ (by omega)
      have m3:wz.cell? ⟨bm,3,none⟩=some (.slice (some As0) (m+1) cs):=HMz.out.cell 3
      have m4:wz.cell? ⟨bm,4,none⟩=some (.int .i64 gp):=HMz.out.cell 4
      have cf0:wz.frozen? (As0.add (m*2))=false:=HOsz.out.frozen rfl (m*2)
      go_upto_region 33 with(fail)
      go_still_tail 11,(by kernel_rfl)
      change wpList _ _ _ _ _ wz.drew
      go_upto_region 34 with(fail)
      (try rw[hw33])
      (try rw[hw33b])
      clear m3 m4 cf0 c0 c1
      obtain⟨w34,hw34⟩:∃V:World,(wz.setCell (As0.add (m*2)) (.int .i64 (x1 - gp))).drew=V:=⟨_,rfl⟩
      rw[hw34]
      have hk:Keep (InRow (some As0)) wz w34:=by rw[←hw34];exact((Keep.refl _ wz).set_ (.inl ⟨As0,rfl,by rw[block_add]⟩) _).drew
      have HOs34:Hid (Own w34 w.heap.size 58 2 (some As0) (m+1) cs (scCells (S.set m (x1 - gp,x2)))):=qh (by rw[←hw34,sc_set0 HSm.out (x1 - gp)];exact(HOsz.out.stored rfl (m*2) _).drew)
      have HT34:=qh (HTz.out.keep hk (fun h=>HOsz.out.ne_blk HTz.out (by decide) _ h rfl))
      have HR34:=qh (HRz.out.keep hk (fun h=>HOsz.out.ne_blk HRz.out (by decide) _ h rfl))
      have HM34:=qh (HMz.out.keep hk (fun h=>HOsz.out.ne_blk HMz.out (by decide) _ h rfl))
      have HK34:=qh (HKz.out.then_ hk (fun i hi h=>by have:=(HOsz.out.row h).1;have:=HBs.out;omega))
      have HOp34:=qh (HOpz.out.keep hk (fun q h=>HOpz.out.ne_own HOsz.out (by decide) q h))
      clear hk hw34 hw33 hw33b HTz HRz HSz HMz HOsz HOpz HKz HOcz
      obtain⟨S2,hS2⟩:∃z,S.set m (x1 - gp,x2)=z:=⟨_,rfl⟩
      have HE2:Hid (endS S2=x1 - gp):=qh (by rw[←hS2];exact end_set HSl.out _)
      have HL2:Hid (S2.length=m+1):=qh (by rw[←hS2,List.length_set];exact HSl.out)
      rw[hS2] at HOs34 HF
      obtain⟨y1,hy1⟩:∃z,x1 - gp=z:=⟨_,rfl⟩
      rw[hy1] at HE2
      clear hS2 hy1 HSm HSl
      have hnp:np≤105:=by have:=HX.out.2;rw[←HNp.out] at this;exact this
      have hcap:=HOp34.out.cap_le
      have m2:w34.cell? ⟨bm,2,none⟩=some (.slice Ap np cp):=HM34.out.cell 2
      by_cases g1:24<np
      case pos=>
       have t3:decide ((np:Int)>24)=true:=by simp;omega
       have t3b:decide (24<np)=true:=by simpa using g1
       have HG:Hid (buildM t l train ref rv n=(noMa,2)):=qh (by rw[HF.out,endC_long (.inl (by rw[←HNp.out];exact g1))])
       clear g1
       obtain⟨r0,r1,r2,r3,r4⟩:=bc5 HR34.out
       have rf0:=HR34.out.frozen 0
       have rf1:=HR34.out.frozen 1
       have rf2:=HR34.out.frozen 2
       have rf3:=HR34.out.frozen 3
       have rf4:=HR34.out.frozen 4
       go_wp2_with fail
       (try simp only[Exit.inBlock,Exit.then])
       refine bodyPost_ret (ma_results2 (fn:=Tryz.f14) (r:=12) (s:=13) rfl (put5_blk HR34.out (.int .i64 0) (.bool false) (.slice none 0 0) (.slice none 0 0) (.int .i64 0)) _ rfl) rfl ?_
       rw[HG.out]
       exact⟨⟨none,0,0,none,0,0⟩,rfl,ma_nil,put5_own HK34.out (.inr (by omega)) _ _ _ _ _⟩
      have t3:decide ((np:Int)>24)=false:=by simp;omega
      have t3b:decide (24<np)=false:=by simpa using g1
      have HP24:Hid (¬24<P.length):=qh (by rw[←HNp.out];exact g1)
      have hw:=HTw.out w34 Ap np cp P HOp34.out.rd hcap (by omega)
      obtain⟨tb,htb⟩:∃z,twiceB P=z:=⟨_,rfl⟩
      rw[htb] at hw
      have HTb:=qh htb
      have HC:=qh hw
      clear g1 hw htb
      go_wp2_with fail
      refine HC.out.mono ?_
      rintro en w35 ⟨rfl,hk⟩
      have HK35:=qtr HK34 hk
      have HT35:=qkb HT34 hk
      have HR35:=qkb HR34 hk
      have HM35:=qkb HM34 hk
      have HOs35:=qko HOs34 hk
      have HOp35:=qko HOp34 hk
      clear hk HC m2 t3 t3b HT34 HR34 HM34 HOs34 HOp34 HK34
      cases tb with
      | true=>
       have HG:Hid (buildM t l train ref rv n=(noMa,2)):=qh (by rw[HF.out,endC_long (.inr HTb.out)])
       obtain⟨r0,r1,r2,r3,r4⟩:=bc5 HR35.out
       have rf0:=HR35.out.frozen 0
       have rf1:=HR35.out.frozen 1
       have rf2:=HR35.out.frozen 2
       have rf3:=HR35.out.frozen 3
       have rf4:=HR35.out.frozen 4
       go_wp2_with fail
       (try simp only[Exit.inBlock,Exit.then])
       refine bodyPost_ret (ma_results2 (fn:=Tryz.f14) (r:=12) (s:=13) rfl (put5_blk HR35.out (.int .i64 0) (.bool false) (.slice none 0 0) (.slice none 0 0) (.int .i64 0)) _ rfl) rfl ?_
       rw[HG.out]
       exact⟨⟨none,0,0,none,0,0⟩,rfl,ma_nil,put5_own HK35.out (.inr (by omega)) _ _ _ _ _⟩
      | false=>
      obtain⟨sl,hs9,c0,c1⟩:=sc_cell HOs35.out.rd (show m<m+1 by omega)
      have hsl:sl.1=y1:=by
       rw[←HE2.out];unfold endS;rw[last_at HL2.out,hs9];rfl
      rw[hsl] at c0
      have m3:w35.cell? ⟨bm,3,none⟩=some (.slice (some As0) (m+1) cs):=HM35.out.cell 3
      by_cases g2:y1≤n
      case pos=>
       have t4:decide (y1≤n)=true:=by simpa using g2
       have HG:Hid (buildM t l train ref rv n=(noMa,141)):=qh (by rw[HF.out,endC_end HP24.out HTb.out (.inl (by rw[HE2.out];exact g2))])
       clear g2
       obtain⟨r0,r1,r2,r3,r4⟩:=bc5 HR35.out
       have rf0:=HR35.out.frozen 0
       have rf1:=HR35.out.frozen 1
       have rf2:=HR35.out.frozen 2
       have rf3:=HR35.out.frozen 3
       have rf4:=HR35.out.frozen 4
       go_wp2_with fail
       (try simp only[Exit.inBlock,Exit.then])
       refine bodyPost_ret (ma_results2 (fn:=Tryz.f14) (r:=12) (s:=13) rfl (put5_blk HR35.out (.int .i64 0) (.bool false) (.slice none 0 0) (.slice none 0 0) (.int .i64 0)) _ rfl) rfl ?_
       rw[HG.out]
       exact⟨⟨none,0,0,none,0,0⟩,rfl,ma_nil,put5_own HK35.out (.inr (by omega)) _ _ _ _ _⟩
      have t4:decide (y1≤n)=false:=by simpa using g2
      have HY:Hid (¬y1≤n):=qh g2
      obtain⟨s0,hs0,d0,d1⟩:=sc_cell HOs35.out.rd (show 0<m+1 by omega)
      have ea:As0.add (0*2)=As0:=by rw[Nat.zero_mul];unfold Addr.add;split <;> simp_all
      rw[ea] at d0 d1
      clear g2 hsl hs9 ea
      by_cases g3:m=0
      ·have t5:decide ((m:Int)>0)=false:=by simp;omega
       have t5b:decide (0<m)=false:=by simp;omega
       have hs01:s0.1=y1:=by
        rw[←HE2.out];unfold endS;rw[last_at HL2.out,g3,hs0];rfl
       have hne:s0.1≠0:=by have:=HY.out;have:=HX.out.1;omega
       have t6:(s0.1==0)=false:=by simpa using hne
       have HG:Hid (buildM t l train ref rv n=((ref,rv,P,S2,gp),0)):=qh (by
        rw[HF.out,endC_ok HP24.out HTb.out (by rintro(h | h);exact HY.out (by rw[HE2.out] at h;exact h);have:=HL2.out;omega) hs0,if_neg hne])
       clear g3 hs01 hne hs0
       go_wp2_with fail
       go_quiet (fail)
       obtain⟨w36,hw36⟩:∃V:World,w35.drewN nq=V:=⟨_,rfl⟩
       rw[hw36]
       have hk:Keep Never w35 w36:=by rw[←hw36];exact(Keep.refl Never _).drewN _
       have HKq:=qh hk
       have HK36:=qtr HK35 hk
       have HT36:=qkb HT35 hk
       have HR36:=qkb HR35 hk
       have HM36:=qkb HM35 hk
       have HOs36:=qko HOs35 hk
       have HOp36:=qko HOp35 hk
       have d0:w36.cell? As0=some (.int .i64 s0.1):=keepT hk d0
       clear hk hw36 m3 c0 c1 d1 t4 t5 t5b HT35 HR35 HM35 HOs35 HOp35 HK35
       have m3:w36.cell? ⟨bm,3,none⟩=some (.slice (some As0) (m+1) cs):=HM36.out.cell 3
       go_upto_region 42 with(fail)
       clear m3 d0
       obtain⟨m0,m1,m2,m3,m4⟩:=bc5 HM36.out
       obtain⟨r0,r1,r2,r3,r4⟩:=bc5 HR36.out
       have rf0:=HR36.out.frozen 0
       have rf1:=HR36.out.frozen 1
       have rf2:=HR36.out.frozen 2
       have rf3:=HR36.out.frozen 3
       have rf4:=HR36.out.frozen 4
       go_wp2_with fail
       (try simp only[Exit.inBlock,Exit.then])
       refine bodyPost_ret (ma_results2 (fn:=Tryz.f14) (r:=12) (s:=13) rfl (put5_blk HR36.out (.int .i64 ref) (.bool rv) (.slice Ap np cp) (.slice (some As0) (m+1) cs) (.int .i64 gp)) _ rfl) rfl ?_
       have hkz:=put5_own (Keep.refl (fun q=>q=w.heap.size+1) w36) (b:=w.heap.size+1) (.inl rfl) (.int .i64 ref) (.bool rv) (.slice Ap np cp) (.slice (some As0) (m+1) cs) (.int .i64 gp)
       rw[HG.out]
       exact⟨⟨Ap,np,cp,(some As0),(m+1),cs⟩,rfl,⟨stps_own (HOp36.out.keep hkz (HOp36.out.ne_blk HR36.out (by decide))) H6.out,scAt_own (HOs36.out.keep hkz (HOs36.out.ne_blk HR36.out (by decide)))⟩,put5_own HK36.out (.inr (by omega)) _ _ _ _ _⟩
      ·obtain⟨m1,hm1⟩:∃m1,m=m1+1:=⟨m - 1,by omega⟩
       have t5:decide ((m:Int)>0)=true:=by simp;omega
       have t5b:decide (0<m)=true:=by simp;omega
       obtain⟨sp,hsp,e0,e1⟩:=sc_cell HOs35.out.rd (show m1<m+1 by omega)
       have hmw:IntKind.i64.wrap ((m:Int) - 1)=(m1:Int):=by rw[show (m:Int) - 1=m1 by omega];exact IntWalk.i64_in _ (by omega)
       have hmw2:wrap64 ((m:Int) - 1)=(m1:Int):=by have:=hmw;rwa [IntWalk.i64_left] at this
       have hm1i:(m1:Int)<(m:Int)+1:=by omega
       have HI:Hid (endS S2.dropLast=sp.1):=qh (end_init (m:=m1) (by rw[HL2.out,hm1]) hsp)
       have HM1:Hid (m=m1+1):=qh hm1
       clear g3 hm1 hsp
       by_cases g4:y1≤sp.1
       case pos=>
        have t6:decide (y1≤sp.1)=true:=by simpa using g4
        have HG:Hid (buildM t l train ref rv n=(noMa,141)):=qh (by rw[HF.out,endC_end HP24.out HTb.out (.inr ⟨by rw[HL2.out,HM1.out];omega,by rw[HE2.out,HI.out];exact g4⟩)])
        clear g4
        go_wp2_with fail
        go_quiet (fail)
        obtain⟨w36,hw36⟩:∃V:World,w35.drewN nq=V:=⟨_,rfl⟩
        rw[hw36]
        have hk:Keep Never w35 w36:=by rw[←hw36];exact(Keep.refl Never _).drewN _
        have HKq:=qh hk
        have HK36:=qtr HK35 hk
        have HT36:=qkb HT35 hk
        have HR36:=qkb HR35 hk
        have HM36:=qkb HM35 hk
        have HOs36:=qko HOs35 hk
        have HOp36:=qko HOp35 hk
        have d0:w36.cell? As0=some (.int .i64 s0.1):=keepT hk d0
        clear hk hw36 m3 c0 c1 d1 t4 t5 t5b HT35 HR35 HM35 HOs35 HOp35 HK35
        obtain⟨r0,r1,r2,r3,r4⟩:=bc5 HR36.out
        have rf0:=HR36.out.frozen 0
        have rf1:=HR36.out.frozen 1
        have rf2:=HR36.out.frozen 2
        have rf3:=HR36.out.frozen 3
        have rf4:=HR36.out.frozen 4
        go_wp2_with fail
        (try simp only[Exit.inBlock,Exit.then])
        refine bodyPost_ret (ma_results2 (fn:=Tryz.f14) (r:=12) (s:=13) rfl (put5_blk HR36.out (.int .i64 0) (.bool false) (.slice none 0 0) (.slice none 0 0) (.int .i64 0)) _ rfl) rfl ?_
        rw[HG.out]
        exact⟨⟨none,0,0,none,0,0⟩,rfl,ma_nil,put5_own HK36.out (.inr (by omega)) _ _ _ _ _⟩
       have t6:decide (y1≤sp.1)=false:=by simpa using g4
       have HN4:Hid (¬y1≤sp.1):=qh g4
       clear g4
       by_cases g5:s0.1=0
       case neg=>
        have t7:(s0.1==0)=false:=by simpa using g5
        have HG:Hid (buildM t l train ref rv n=((ref,rv,P,S2,gp),0)):=qh (by
         rw[HF.out,endC_ok HP24.out HTb.out (by rintro(h | h);exact HY.out (by rw[HE2.out] at h;exact h);exact HN4.out (by rw[HE2.out,HI.out] at h;exact h.2)) hs0,if_neg g5])
        clear g5 hs0
        go_wp2_with fail
        go_quiet (fail)
        obtain⟨w36,hw36⟩:∃V:World,w35.drewN nq=V:=⟨_,rfl⟩
        rw[hw36]
        have hk:Keep Never w35 w36:=by rw[←hw36];exact(Keep.refl Never _).drewN _
        have HKq:=qh hk
        have HK36:=qtr HK35 hk
        have HT36:=qkb HT35 hk
        have HR36:=qkb HR35 hk
        have HM36:=qkb HM35 hk
        have HOs36:=qko HOs35 hk
        have HOp36:=qko HOp35 hk
        have d0:w36.cell? As0=some (.int .i64 s0.1):=keepT hk d0
        clear hk hw36 m3 c0 c1 d1 t4 t5 t5b HT35 HR35 HM35 HOs35 HOp35 HK35
        have m3:w36.cell? ⟨bm,3,none⟩=some (.slice (some As0) (m+1) cs):=HM36.out.cell 3
        go_upto_region 42 with(fail)
        clear m3 d0
        obtain⟨m0,m1,m2,m3,m4⟩:=bc5 HM36.out
        obtain⟨r0,r1,r2,r3,r4⟩:=bc5 HR36.out
        have rf0:=HR36.out.frozen 0
        have rf1:=HR36.out.frozen 1
        have rf2:=HR36.out.frozen 2
        have rf3:=HR36.out.frozen 3
        have rf4:=HR36.out.frozen 4
        go_wp2_with fail
        (try simp only[Exit.inBlock,Exit.then])
        refine bodyPost_ret (ma_results2 (fn:=Tryz.f14) (r:=12) (s:=13) rfl (put5_blk HR36.out (.int .i64 ref) (.bool rv) (.slice Ap np cp) (.slice (some As0) (m+1) cs) (.int .i64 gp)) _ rfl) rfl ?_
        have hkz:=put5_own (Keep.refl (fun q=>q=w.heap.size+1) w36) (b:=w.heap.size+1) (.inl rfl) (.int .i64 ref) (.bool rv) (.slice Ap np cp) (.slice (some As0) (m+1) cs) (.int .i64 gp)
        rw[HG.out]
        exact⟨⟨Ap,np,cp,(some As0),(m+1),cs⟩,rfl,⟨stps_own (HOp36.out.keep hkz (HOp36.out.ne_blk HR36.out (by decide))) H6.out,scAt_own (HOs36.out.keep hkz (HOs36.out.ne_blk HR36.out (by decide)))⟩,put5_own HK36.out (.inr (by omega)) _ _ _ _ _⟩
       have t7:(s0.1==0)=true:=by simpa using g5
       have HG:Hid (buildM t l train ref rv n=((ref,rv,P,S2.drop 1,gp),0)):=qh (by
        rw[HF.out,endC_ok HP24.out HTb.out (by rintro(h | h);exact HY.out (by rw[HE2.out] at h;exact h);exact HN4.out (by rw[HE2.out,HI.out] at h;exact h.2)) hs0,if_pos g5])
       have hm2:1≤m:=by have:=HM1.out;omega
       have hm3:m+1 - 1=m:=by omega
       clear g5 hs0
       go_wp2_with fail
       go_quiet (fail)
       obtain⟨w36,hw36⟩:∃V:World,w35.drewN nq=V:=⟨_,rfl⟩
       rw[hw36]
       have hk:Keep Never w35 w36:=by rw[←hw36];exact(Keep.refl Never _).drewN _
       have HKq:=qh hk
       have HK36:=qtr HK35 hk
       have HT36:=qkb HT35 hk
       have HR36:=qkb HR35 hk
       have HM36:=qkb HM35 hk
       have HOs36:=qko HOs35 hk
       have HOp36:=qko HOp35 hk
       have d0:w36.cell? As0=some (.int .i64 s0.1):=keepT hk d0
       clear hk hw36 m3 c0 c1 d1 t4 t5 t5b HT35 HR35 HM35 HOs35 HOp35 HK35
       have m3:w36.cell? ⟨bm,3,none⟩=some (.slice (some As0) (m+1) cs):=HM36.out.cell 3
       have mf3:=HM36.out.frozen 3
       have hcs:=HOs36.out.cap_le
       go_upto_region 42 with(refine wpList_from rfl (.tmp 214) (.const (.int .i64 1)) _ rfl Tryz.underlying36 Tryz.sizeOf58 (some As0) (m+1) cs 1 (by go_simp) 1 (by go_simp) rfl (by omega) ?_;intro A9 c9 HS9)
       (try rw[hm3])
       obtain⟨w37,hw37⟩:∃V:World,w36.setCell ⟨bm,3,none⟩ (.slice A9 m c9)=V:=⟨_,rfl⟩
       rw[hw37]
       have hk:Keep (fun q=>q=bm) w36 w37:=by rw[←hw37];exact put1_keep _
       have HM37:Hid (Blk w37 bm 38 #[.int .i64 ref,.bool rv,.slice Ap np cp,.slice A9 m c9,.int .i64 gp]):=qh (by rw[←hw37];have:=HM36.out.set_ 3 (.slice A9 m c9);simpa using this)
       have HT37:=qh (HT36.out.keep hk (fun h=>HT36.out.ne_ HM36.out (by decide) h))
       have HR37:=qh (HR36.out.keep hk (fun h=>HBm.out.2.2 h.symm))
       have HOs37:=qh (HOs36.out.keep hk (fun q h=>HOs36.out.ne_blk HM36.out (by decide) q h))
       have HOp37:=qh (HOp36.out.keep hk (fun q h=>HOp36.out.ne_blk HM36.out (by decide) q h))
       have HK37:=qh (HK36.out.then_ hk (fun i hi h=>by have:=HBm.out.1;omega))
       have HSc:Hid (∀W,Keep (fun q=>q=w.heap.size+1) w37 W→ScAt W W.heap.size A9 m c9 (S2.drop 1)):=qh (fun W hkW=>by
        have hr:=HS9.out.1 W W.heap.size _ HOs37.out.cap_le ((HOs37.out.keep hkW (HOs37.out.ne_blk HR37.out (by decide))).rd)
        rw[hm3,←scCells_drop] at hr
        refine⟨hr,fun h9=>?_,by have h5:=HS9.out.2.1 HOs37.out.cap_le;omega⟩
        obtain⟨_,h6,_⟩:=hr.2 (by omega)
        rw[h9] at h6;cases h6)
       clear hk hw37 m3 mf3 d0 t7
       obtain⟨m0,m1,m2,m3,m4⟩:=bc5 HM37.out
       obtain⟨r0,r1,r2,r3,r4⟩:=bc5 HR37.out
       have rf0:=HR37.out.frozen 0
       have rf1:=HR37.out.frozen 1
       have rf2:=HR37.out.frozen 2
       have rf3:=HR37.out.frozen 3
       have rf4:=HR37.out.frozen 4
       go_wp2_with fail
       (try simp only[Exit.inBlock,Exit.then])
       refine bodyPost_ret (ma_results2 (fn:=Tryz.f14) (r:=12) (s:=13) rfl (put5_blk HR37.out (.int .i64 ref) (.bool rv) (.slice Ap np cp) (.slice A9 m c9) (.int .i64 gp)) _ rfl) rfl ?_
       have hkz:=put5_own (Keep.refl (fun q=>q=w.heap.size+1) w37) (b:=w.heap.size+1) (.inl rfl) (.int .i64 ref) (.bool rv) (.slice Ap np cp) (.slice A9 m c9) (.int .i64 gp)
       rw[HG.out]
       exact⟨⟨Ap,np,cp,A9,m,c9⟩,rfl,⟨stps_own (HOp37.out.keep hkz (HOp37.out.ne_blk HR37.out (by decide))) H6.out,HSc.out _ hkz⟩,put5_own HK37.out (.inr (by omega)) _ _ _ _ _⟩
     have hki:(k:Int)<(nc:Int):=by omega
     obtain⟨ad,kl,hA,_,hs,c0,c1,c2⟩:=HOcz.out.rd.sp h0
     subst hA
     have HKl:=qh hs
     have hat:=HCG.out.at hs
     obtain⟨r0,hr0,_,hne,h8,hth,hin,hgl,hgu⟩:=HCG.out.rt k kl hs
     have hro:routeOf t kl=r0:=by unfold routeOf;rw[hr0];rfl
     obtain⟨q1,q2,q3⟩:=kl
     obtain⟨ri,rp,rg,rtm⟩:=r0
     simp only at c0 c1 c2 hr0 h8 hth hin
     have HRo0:Hid (routeOf t (q1,q2,q3)=(ri,rp,rg,rtm)):=qh hro
     have HIn:Hid (k=0→(l1,l3)∈rp):=qh hin
     have HRth:Hid (∀u∈rp,thereB t.1.length u.1=true):=qh hth
     obtain⟨hwl,hwt⟩:=way_good (s:=(l1,l3)) HCG.out HGg.out.1 HGg.out.2 k (by have:=HNc.out;omega)
     have hpb0:=plain_bnd HC0.out _ hwt
     have hfew:=HCG.out.few
     have HWy:Hid ((wayC t (l1,l3) g c k).length≤105):=qh (by have:=HNc.out;omega)
     obtain⟨cu0,hcu0⟩:∃z,plainS t.1 (wayC t (l1,l3) g c k) - back=z:=⟨_,rfl⟩
     have HCu0:=qh hcu0
     have HC0b:Hid (-1000000≤cu0∧cu0≤200000000):=qh (by have:=HBk.out;have:=HNc.out;omega)
     rw[hcu0]
     have hw:=HRo.out wz HKz.out q1
     clear hcu0 hro hat hin hth hwl hwt hpb0 hfew hs hne hgl hgu hw
     go_upto_region 19 with(fail)
     obtain⟨w13,hw13⟩:∃V:World,wz.alloc (.cells #[.int .i64 q1,.int .i64 q2,.int .i64 q3] 62)=V:=⟨_,rfl⟩
     have hk:Keep Never wz w13:=by rw[←hw13];exact(Keep.refl _ _).alloc _
     have B13:=Blk.new wz 62 #[.int .i64 q1,.int .i64 q2,.int .i64 q3]
     rw[hw13] at B13
     obtain⟨bk,hbk⟩:∃q,wz.heap.size=q:=⟨_,rfl⟩
     rw[hbk] at B13
     rw[hw13,hbk]
     have HK13:=qtr HKz hk
     have HT13:=qkb HTz hk
     have HR13:=qkb HRz hk
     have HS13:=qkb HSz hk
     have HM13:=qkb HMz hk
     have HOc13:=qko HOcz hk
     have HOs13:=qko HOsz hk
     have HOp13:=qko HOpz hk
     have hw:=HRo.out w13 HK13.out q1
     rw[hr0] at hw
     unfold RtRet3 at hw
     simp only[Option.getD,Option.isSome] at hw
     have HC:=qh hw
     have k0:w13.cell? ⟨bk,0,none⟩=some (.int .i64 q1):=B13.cell 0
     obtain⟨y0,y1,y2,y3⟩:=bc4 HT13.out
     clear hk hw hr0 hkz B13 c0 c1 c2 hw13 hbk HTz HRz HSz HMz HOcz HOsz HOpz HKz
     go_wp2_with fail
     refine HC.out.mono ?_
     rintro en w14 ⟨Ar2,nr2,cr2,rfl,_,hor,h64r,hk⟩
     have HK14:=qtr HK13 hk
     have HT14:=qkb HT13 hk
     have HR14:=qkb HR13 hk
     have HS14:=qkb HS13 hk
     have HM14:=qkb HM13 hk
     have HOc14:=qko HOc13 hk
     have HOs14:=qko HOs13 hk
     have HOp14:=qko HOp13 hk
     have HOr14:=qh hor
     have HR6:Hid (∀u∈rp,in64 u):=h64r
     have HNr:Hid (nr2=rp.length∧nr2≤8):=qh (by have:=hor.rd.stp_len;omega)
     have HCr:Hid (nr2≤cr2):=qh hor.cap_le
     clear hk hor h64r HC h8 k0 y0 y1 y2 y3 HT13 HR13 HS13 HM13 HOc13 HOs13 HOp13 HK13
     obtain⟨w15,hw15⟩:∃V:World,w14.alloc (.cells #[.int .i64 ri,.slice Ar2 nr2 cr2,.int .i64 rg,.int .i64 rtm] 64)=V:=⟨_,rfl⟩
     have hk:Keep Never w14 w15:=by rw[←hw15];exact(Keep.refl _ _).alloc _
     have B15:=Blk.new w14 64 #[.int .i64 ri,.slice Ar2 nr2 cr2,.int .i64 rg,.int .i64 rtm]
     rw[hw15] at B15
     obtain⟨bo,hbo⟩:∃q,w14.heap.size=q:=⟨_,rfl⟩
     rw[hbo] at B15
     have HK15:=qtr HK14 hk
     have HT15:=qkb HT14 hk
     have HR15:=qkb HR14 hk
     have HS15:=qkb HS14 hk
     have HM15:=qkb HM14 hk
     have HOc15:=qko HOc14 hk
     have HOs15:=qko HOs14 hk
     have HOp15:=qko HOp14 hk
     have HOr15:=qko HOr14 hk
     have HB15:=qh B15
     have o1:w15.cell? ⟨bo,1,none⟩=some (.slice Ar2 nr2 cr2):=HB15.out.cell 1
     clear hk B15 HT14 HR14 HS14 HM14 HOc14 HOs14 HOp14 HOr14 HK14
     go_upto_region 21 with(fail)
     clear hw15 hbo o1
     by_cases g0:k=0
     ·have t2:((k:Int)==0)=true:=by simp;omega
      obtain⟨ix,hix⟩:∃z,rp.idxOf (l1,l3)=z:=⟨_,rfl⟩
      have hil:ix<rp.length:=by rw[←hix];exact List.idxOf_lt_length_of_mem (HIn.out g0)
      have hil2:ix+1≤nr2:=by have:=HNr.out;omega
      have hi8:=HNr.out.2
      have hc:=HSi.out w15 Ar2 nr2 cr2 rp l1 l3 HOr15.out.rd (by omega)
      rw[idxI_at ⟨HIn.out g0,hix⟩] at hc
      have HC:=qh hc
      obtain⟨pt,hpt⟩:∃z,rp.drop (ix+1)=z:=⟨_,rfl⟩
      obtain⟨nq,hnq⟩:∃z,nr2 - (ix+1)=z:=⟨_,rfl⟩
      have HPe:Hid (partC t (l1,l3) k (q1,q2,q3)=pt):=qh (by unfold partC;rw[if_pos g0,HRo0.out];simp only;rw[hix,hpt])
      have HPt:Hid (∀u∈pt,thereB t.1.length u.1=true):=qh (fun u hu=>HRth.out u (by rw[←hpt] at hu;exact List.mem_of_mem_drop hu))
      have HP6:Hid (∀u∈pt,in64 u):=qh (fun u hu=>HR6.out u (by rw[←hpt] at hu;exact List.mem_of_mem_drop hu))
      have HPl:Hid (nq=pt.length∧nq≤8):=qh (by rw[←hpt,List.length_drop];have:=HNr.out;omega)
      have HDr:Hid (stpCells pt=(stpCells rp).drop ((ix+1)*2)):=qh (by rw[←hpt,stpCells_drop])
      obtain⟨s0,s1⟩:=bc2 HS15.out
      have hwi:IntKind.i64.wrap ((ix:Int)+1)=(ix:Int)+1:=IntWalk.i64_in _ (by omega)
      clear hc hpt hix hil g0
      go_wp2_with fail
      refine HC.out.mono ?_
      rintro en w16 ⟨rfl,hk⟩
      have HK16:=qtr HK15 hk
      have HT16:=qkb HT15 hk
      have HR16:=qkb HR15 hk
      have HS16:=qkb HS15 hk
      have HM16:=qkb HM15 hk
      have HOc16:=qko HOc15 hk
      have HOs16:=qko HOs15 hk
      have HOp16:=qko HOp15 hk
      have HOr16:=qko HOr15 hk
      have HB16:=qkb HB15 hk
      clear hk HC s0 s1 t2 HT15 HR15 HS15 HM15 HOc15 HOs15 HOp15 HOr15 HB15 HK15
      go_upto_region 23 with(refine wpList_from rfl (.tmp 115) (.tmp 119) _ rfl Tryz.underlying35 Tryz.sizeOf30 Ar2 nr2 cr2 (ix+1) (by go_simp) ((ix:Int)+1) (by go_simp) (by omega) hil2 ?_;intro Aq cq HSq)
      have HQ16:Hid (Rd w16 w16.heap.size 2 Aq nq (stpCells pt)):=qh (by rw[HDr.out,←hnq];exact HSq.out.1 w16 _ _ HCr.out HOr16.out.rd)
      (try rw[hnq])
      clear hnq hil2 hi8 hwi HSq
      go_upto_region 24 with(fail)
      go_loopw [21,123] (fun s21 s123 wr=>∃j:Nat,j≤nq∧s123=.int .i64 j∧s21=.int .i64 (cu0+plainS t.1 (pt.take j))∧Hid (Keep Never w16 wr)) (fun _ si _=>nq - (intOf si).toNat)
      case atStart=>exact⟨0,by omega,rfl,by simp[plainS],qh (Keep.refl _ _)⟩
      case round=>
       obtain⟨j,hj,rfl,rfl,HH⟩:=hrel
       by_cases h2:j<nq
       case neg=>
        obtain rfl:j=nq:=by omega
        have hji:¬(j:Int)<(j:Int):=by omega
        have hk:=HH.out
        have HK21:=qtr HK16 hk
        have HT21:=qkb HT16 hk
        have HR21:=qkb HR16 hk
        have HS21:=qkb HS16 hk
        have HM21:=qkb HM16 hk
        have HOc21:=qko HOc16 hk
        have HOs21:=qko HOs16 hk
        have HOp21:=qko HOp16 hk
        have HB21:=qkb HB16 hk
        have HQ21:=qh (HQ16.out.keep hk (fun _ h=>h.elim))
        rw[List.take_of_length_le (by have:=HPl.out.1;omega)]
        have hkz2:bs+1≤wr.heap.size:=HS21.out.lt
        have hnp:np≤105:=by have:=HWy.out;rw[←HNp.out] at this;exact this
        have hn8:=HPl.out.2
        have m2:wr.cell? ⟨bm,2,none⟩=some (.slice Ap np cp):=HM21.out.cell 2
        clear hk HH
        go_upto_region 29 with(at_builtin;refine wpList_app _ rfl (.tmp 137) (.tmp 138) _ rfl elemStp (bs+1) (A:=Ap) (n:=np) (c:=cp) (by go_simp) HOp21.out _ (A':=Aq) (m:=j) (c':=cq) (by go_simp) HQ21.out (stpCells_one _) (by omega) (by unfold maxLen;omega) hkz2 ?_;intro A22 c22 w22 hown hk hrow;have HO22:Hid (Own w22 (bs+1) 30 2 A22 (np+j) c22 (stpCells (wayC t (l1,l3) g c (k+1)))):=qh (by rw[way_next HKl.out,HPe.out,stpCells_app];exact hown);have HM22:=qh (HM21.out.keep hk (fun h=>HOp21.out.ne_blk HM21.out (by decide) _ h rfl));have HK22k:=qh hk;have q2:w22.cell? ⟨bm,2,none⟩=some (.slice Ap np cp):=HM22.out.cell 2;have qf2:=HM22.out.frozen 2;clear hown hk hrow)
        have hk:=HK22k.out
        have HT22:=qh (HT21.out.keep hk (fun h=>HOp21.out.ne_blk HT21.out (by decide) _ h rfl))
        have HR22:=qh (HR21.out.keep hk (fun h=>HOp21.out.ne_blk HR21.out (by decide) _ h rfl))
        have HS22:=qh (HS21.out.keep hk (fun h=>by have:=(HOp21.out.row h).1;omega))
        have HOc22:=qh (HOc21.out.keep hk (fun q h=>HOc21.out.ne_own HOp21.out (by decide) q h))
        have HOs22:=qh (HOs21.out.keep hk (fun q h=>HOs21.out.ne_own HOp21.out (by decide) q h))
        have HB22:=qh (HB21.out.keep hk (fun h=>HOp21.out.ne_blk HB21.out (by decide) _ h rfl))
        have HK22:=qh (HK21.out.then_ hk (fun i hi h=>by have:=(HOp21.out.row h).1;have:=HBs.out;omega))
        clear hk HK22k HT21 HR21 HS21 HM21 HOc21 HOs21 HOp21 HB21 HQ21 HK21
        obtain⟨w23,hw23⟩:∃V:World,w22.setCell ⟨bm,2,none⟩ (.slice A22 (np+j) c22)=V:=⟨_,rfl⟩
        rw[hw23]
        have hk:Keep (fun q=>q=bm) w22 w23:=by rw[←hw23];exact put1_keep _
        have HM23:Hid (Blk w23 bm 38 #[.int .i64 ref,.bool rv,.slice A22 (np+j) c22,.slice As k cs,.int .i64 (gapC t c k)]):=qh (by rw[←hw23];have:=HM22.out.set_ 2 (.slice A22 (np+j) c22);simpa using this)
        have HT23:=qh (HT22.out.keep hk (fun h=>HT22.out.ne_ HM22.out (by decide) h))
        have HR23:=qh (HR22.out.keep hk (fun h=>HBm.out.2.2 h.symm))
        have HS23:=qh (HS22.out.keep hk (fun h=>HS22.out.ne_ HM22.out (by decide) h))
        have HOc23:=qh (HOc22.out.keep hk (fun q h=>HOc22.out.ne_blk HM22.out (by decide) q h))
        have HOs23:=qh (HOs22.out.keep hk (fun q h=>HOs22.out.ne_blk HM22.out (by decide) q h))
        have HB23:=qh (HB22.out.keep hk (fun h=>HB22.out.ne_ HM22.out (by decide) h))
        have HO23:=qh (HO22.out.keep hk (fun q h=>HO22.out.ne_blk HM22.out (by decide) q h))
        have HK23:=qh (HK22.out.then_ hk (fun i hi h=>by have:=HBm.out.1;omega))
        clear hk HT22 HR22 HS22 HM22 HOc22 HOs22 HB22 HO22 HK22 hw23 m2 q2 qf2
        obtain⟨at2,hat2⟩:∃z,cu0+plainS t.1 pt=z:=⟨_,rfl⟩
        have HAt:Hid (plainS t.1 (wayC t (l1,l3) g c (k+1)) - back=at2):=qh (by rw[way_next HKl.out,HPe.out,plainS_app,←hat2,←HCu0.out];omega)
        have HSn:Hid (secC t (l1,l3) g back c (k+1)=secC t (l1,l3) g back c k++[(at2,rtm)]):=qh (by rw[sec_next HKl.out,HAt.out,HRo0.out])
        rw[hat2]
        have m3:w23.cell? ⟨bm,3,none⟩=some (.slice As k cs):=HM23.out.cell 3
        have o3:w23.cell? ⟨bo,3,none⟩=some (.int .i64 rtm):=HB23.out.cell 3
        have hkz:=HK23.out.size
        clear hat2
        go_upto_region 30 with(at_builtin;refine wpList_app _ rfl (.tmp 142) (.tmp 147) _ rfl elemSc w.heap.size (A:=As) (n:=k) (c:=cs) (by go_simp) (HOs23.out.alloc _) _ (A':=some ⟨_,0,none⟩) (m:=1) (c':=1) (by go_simp) (Rd.of_blk (n:=1) (cs:=[.int .i64 at2,.int .i64 rtm]) (Blk.new _ _ _) rfl) (by simp[Value.oneCell']) (by omega) (by unfold maxLen;omega) (by simp;omega) ?_;intro A24 c24 w24 hown hk hrow;have hk24:Keep (InRow As) w23 w24:=((Keep.refl _ w23).alloc _).trans hk;have HO24:Hid (Own w24 w.heap.size 58 2 A24 (k+1) c24 (scCells (secC t (l1,l3) g back c (k+1)))):=qh (by rw[HSn.out,scCells_app];exact hown);have HM24:=qh (HM23.out.keep hk24 (fun h=>HOs23.out.ne_blk HM23.out (by decide) _ h rfl));have HK24k:=qh hk24;have q3:w24.cell? ⟨bm,3,none⟩=some (.slice As k cs):=HM24.out.cell 3;have qf3:=HM24.out.frozen 3;clear hown hk hrow hk24)
        have hk:=HK24k.out
        have HP23:=HO23
        have HT24:=qh (HT23.out.keep hk (fun h=>HOs23.out.ne_blk HT23.out (by decide) _ h rfl))
        have HR24:=qh (HR23.out.keep hk (fun h=>HOs23.out.ne_blk HR23.out (by decide) _ h rfl))
        have HS24:=qh (HS23.out.keep hk (fun h=>HOs23.out.ne_blk HS23.out (by decide) _ h rfl))
        have HOc24:=qh (HOc23.out.keep hk (fun q h=>HOc23.out.ne_own HOs23.out (by decide) q h))
        have HB24:=qh (HB23.out.keep hk (fun h=>HOs23.out.ne_blk HB23.out (by decide) _ h rfl))
        have HK24:=qh (HK23.out.then_ hk (fun i hi h=>by have:=(HOs23.out.row h).1;have:=HBs.out;omega))
        have HP24:=qh (HP23.out.keep hk (fun q h=>HP23.out.ne_own HOs23.out (by decide) q h))
        clear hk HK24k HT23 HR23 HS23 HM23 HOc23 HOs23 HB23 HO23 HP23 HK23 m3 o3
        obtain⟨w25,hw25⟩:∃V:World,w24.setCell ⟨bm,3,none⟩ (.slice A24 (k+1) c24)=V:=⟨_,rfl⟩
        rw[hw25]
        have hk:Keep (fun q=>q=bm) w24 w25:=by rw[←hw25];exact put1_keep _
        have HM25:Hid (Blk w25 bm 38 #[.int .i64 ref,.bool rv,.slice A22 (np+j) c22,.slice A24 (k+1) c24,.int .i64 (gapC t c k)]):=qh (by rw[←hw25];have:=HM24.out.set_ 3 (.slice A24 (k+1) c24);simpa using this)
        have HT25:=qh (HT24.out.keep hk (fun h=>HT24.out.ne_ HM24.out (by decide) h))
        have HR25:=qh (HR24.out.keep hk (fun h=>HBm.out.2.2 h.symm))
        have HS25:=qh (HS24.out.keep hk (fun h=>HS24.out.ne_ HM24.out (by decide) h))
        have HOc25:=qh (HOc24.out.keep hk (fun q h=>HOc24.out.ne_blk HM24.out (by decide) q h))
        have HO25:=qh (HO24.out.keep hk (fun q h=>HO24.out.ne_blk HM24.out (by decide) q h))
        have HB25:=qh (HB24.out.keep hk (fun h=>HB24.out.ne_ HM24.out (by decide) h))
        have HK25:=qh (HK24.out.then_ hk (fun i hi h=>by have:=HBm.out.1;omega))
        have HP25:=qh (HP24.out.keep hk (fun q h=>HP24.out.ne_blk HM24.out (by decide) q h))
        clear hk HT24 HR24 HS24 HM24 HOc24 HB24 HO24 HP24 HK24 hw25 q3 qf3
        have o2:w25.cell? ⟨bo,2,none⟩=some (.int .i64 rg):=HB25.out.cell 2
        have q4:w25.cell? ⟨bm,4,none⟩=some (.int .i64 (gapC t c k)):=HM25.out.cell 4
        have qf4:=HM25.out.frozen 4
        go_upto_region 31 with(fail)
        obtain⟨w26,hw26⟩:∃V:World,w25.setCell ⟨bm,4,none⟩ (.int .i64 rg)=V:=⟨_,rfl⟩
        rw[hw26]
        have hk:Keep (fun q=>q=bm) w25 w26:=by rw[←hw26];exact put1_keep _
        have HM26:Hid (Blk w26 bm 38 #[.int .i64 ref,.bool rv,.slice A22 (np+j) c22,.slice A24 (k+1) c24,.int .i64 (gapC t c (k+1))]):=qh (by rw[←hw26,gap_next HKl.out,HRo0.out];have:=HM25.out.set_ 4 (.int .i64 rg);simpa using this)
        have HT26:=qh (HT25.out.keep hk (fun h=>HT25.out.ne_ HM25.out (by decide) h))
        have HR26:=qh (HR25.out.keep hk (fun h=>HBm.out.2.2 h.symm))
        have HS26:=qh (HS25.out.keep hk (fun h=>HS25.out.ne_ HM25.out (by decide) h))
        have HOc26:=qh (HOc25.out.keep hk (fun q h=>HOc25.out.ne_blk HM25.out (by decide) q h))
        have HO26:=qh (HO25.out.keep hk (fun q h=>HO25.out.ne_blk HM25.out (by decide) q h))
        have HK26:=qh (HK25.out.then_ hk (fun i hi h=>by have:=HBm.out.1;omega))
        have HP26:=qh (HP25.out.keep hk (fun q h=>HP25.out.ne_blk HM25.out (by decide) q h))
        clear hk HT25 HR25 HS25 HM25 HOc25 HB25 HO25 HP25 HK25 hw26 o2 q4 qf4
        have H6n:Hid (∀u∈wayC t (l1,l3) g c (k+1),in64 u):=qh (by
         rw[way_next HKl.out,HPe.out]
         intro u hu
         rcases List.mem_append.1 hu with hu | hu
         ·exact H6.out u hu
         ·exact HP6.out u hu)
        have HLn:Hid (np+j=(wayC t (l1,l3) g c (k+1)).length):=qh (by rw[way_next HKl.out,HPe.out,List.length_append];have:=HNp.out;have:=HPl.out.1;omega)
        go_wp2_with fail
        refine⟨⟨k+1,A22,np+j,c22,A24,k+1,c24,by omega,by go_num,by rw[HAt.out],qh ⟨HP26.out,H6n.out,HO26.out,HT26.out,HR26.out,HS26.out,HM26.out,HOc26.out,HK26.out,HLn.out,rfl⟩⟩,?_⟩
        simp[intOf];try omega
       have hji:(j:Int)<(nq:Int):=by omega
       obtain⟨ad,s,hA,_,hs,c0,c1⟩:=(HQ16.out.keep HH.out (fun _ h=>h.elim)).stp h2
       subst hA
       have HTh:Hid (thereB t.1.length s.1=true):=qh (HPt.out s (List.mem_of_getElem? hs))
       have HNx:=qh (plainS_next (t:=t) hs)
       have hpb:=plain_bnd HC0.out (pt.take j) (fun u hu=>HPt.out u (List.mem_of_mem_take hu))
       have hlk:(pt.take j).length≤8:=by have:=HPl.out;rw[List.length_take];omega
       obtain⟨s1,s2⟩:=s
       simp only at c0 c1 HTh HNx
       obtain⟨cu,hcu⟩:∃z,cu0+plainS t.1 (pt.take j)=z:=⟨_,rfl⟩
       have hcb:-1000000≤cu∧cu≤1000000000:=by have:=HC0b.out;omega
       have HCu:=qh hcu
       have hn8:=HPl.out.2
       rw[hcu]
       clear hs hpb hlk hcu
       go_upto_region 26 with(fail)
       obtain⟨w20,hw20⟩:∃V:World,wr.alloc (.cells #[.int .i64 s1,.bool s2] 30)=V:=⟨_,rfl⟩
       have hk:Keep Never wr w20:=by rw[←hw20];exact(Keep.refl _ _).alloc _
       have B20:=Blk.new wr 30 #[.int .i64 s1,.bool s2]
       rw[hw20] at B20
       obtain⟨bl,hbl⟩:∃q,wr.heap.size=q:=⟨_,rfl⟩
       rw[hbl] at B20
       rw[hw20,hbl]
       have HL20:=qh B20
       have HKi:=qtr HH hk
       have HK20:=qh (HK16.out.trans HKi.out)
       have HT20:=qh (HT16.out.keep HKi.out (fun h=>h))
       clear hk B20 c0 c1 hw20 hbl
       obtain⟨ae,ke,ve,hAe,hke,hkn,ed,hev,hv0,hv1⟩:=HEd.out w20 HK20.out s1 HC0.out HTh.out
       (try simp only at hAe hke hkn)
       subst hAe
       have hkni:(ke:Int)<(ne:Int):=by omega
       have HEv:Hid (edgeM t s1=ve):=qh hev
       clear hev
       have l0:w20.cell? ⟨bl,0,none⟩=some (.int .i64 ke):=by rw[←hke];exact HL20.out.cell 0
       obtain⟨y0,y1,y2,y3⟩:=bc4 HT20.out
       have hwb2:IntKind.i64.wrap (cu+ve)=cu+ve:=IntWalk.i64_in _ (by omega)
       have hwb:wrap64 (cu+ve)=cu+ve:=by have:=hwb2;rwa [IntWalk.i64_left] at this
       go_wp2_with fail
       refine⟨⟨j+1,by omega,by go_num,by rw[HNx.out,HEv.out,←HCu.out];congr 1;omega,qh HKi.out⟩,?_⟩
       simp[intOf];try omega
     ·have t2:((k:Int)==0)=false:=by simp;omega
      have HPe:Hid (partC t (l1,l3) k (q1,q2,q3)=rp):=qh (by unfold partC;rw[if_neg g0,HRo0.out])
      obtain⟨pt,hpt⟩:∃z,rp=z:=⟨_,rfl⟩
      subst hpt
      have HPt:=HRth
      have HP6:=HR6
      have HPl:=HNr
      have HQ15:=qh HOr15.out.rd
      clear g0
      go_upto_region 24 with(fail)
      go_loopw [21,123] (fun s21 s123 wr=>∃j:Nat,j≤nr2∧s123=.int .i64 j∧s21=.int .i64 (cu0+plainS t.1 (rp.take j))∧Hid (Keep Never w15 wr)) (fun _ si _=>nr2 - (intOf si).toNat)
      case atStart=>exact⟨0,by omega,rfl,by simp[plainS],qh (Keep.refl _ _)⟩
      case round=>
       obtain⟨j,hj,rfl,rfl,HH⟩:=hrel
       by_cases h2:j<nr2
       case neg=>
        obtain rfl:j=nr2:=by omega
        have hji:¬(j:Int)<(j:Int):=by omega
        have hk:=HH.out
        have HK21:=qtr HK15 hk
        have HT21:=qkb HT15 hk
        have HR21:=qkb HR15 hk
        have HS21:=qkb HS15 hk
        have HM21:=qkb HM15 hk
        have HOc21:=qko HOc15 hk
        have HOs21:=qko HOs15 hk
        have HOp21:=qko HOp15 hk
        have HB21:=qkb HB15 hk
        have HQ21:=qh (HQ15.out.keep hk (fun _ h=>h.elim))
        rw[List.take_of_length_le (by have:=HPl.out.1;omega)]
        have hkz2:bs+1≤wr.heap.size:=HS21.out.lt
        have hnp:np≤105:=by have:=HWy.out;rw[←HNp.out] at this;exact this
        have hn8:=HPl.out.2
        have m2:wr.cell? ⟨bm,2,none⟩=some (.slice Ap np cp):=HM21.out.cell 2
        clear hk HH
        go_upto_region 29 with(at_builtin;refine wpList_app _ rfl (.tmp 137) (.tmp 138) _ rfl elemStp (bs+1) (A:=Ap) (n:=np) (c:=cp) (by go_simp) HOp21.out _ (A':=Ar2) (m:=j) (c':=cr2) (by go_simp) HQ21.out (stpCells_one _) (by omega) (by unfold maxLen;omega) hkz2 ?_;intro A22 c22 w22 hown hk hrow;have HO22:Hid (Own w22 (bs+1) 30 2 A22 (np+j) c22 (stpCells (wayC t (l1,l3) g c (k+1)))):=qh (by rw[way_next HKl.out,HPe.out,stpCells_app];exact hown);have HM22:=qh (HM21.out.keep hk (fun h=>HOp21.out.ne_blk HM21.out (by decide) _ h rfl));have HK22k:=qh hk;have q2:w22.cell? ⟨bm,2,none⟩=some (.slice Ap np cp):=HM22.out.cell 2;have qf2:=HM22.out.frozen 2;clear hown hk hrow)
        have hk:=HK22k.out
        have HT22:=qh (HT21.out.keep hk (fun h=>HOp21.out.ne_blk HT21.out (by decide) _ h rfl))
        have HR22:=qh (HR21.out.keep hk (fun h=>HOp21.out.ne_blk HR21.out (by decide) _ h rfl))
        have HS22:=qh (HS21.out.keep hk (fun h=>by have:=(HOp21.out.row h).1;omega))
        have HOc22:=qh (HOc21.out.keep hk (fun q h=>HOc21.out.ne_own HOp21.out (by decide) q h))
        have HOs22:=qh (HOs21.out.keep hk (fun q h=>HOs21.out.ne_own HOp21.out (by decide) q h))
        have HB22:=qh (HB21.out.keep hk (fun h=>HOp21.out.ne_blk HB21.out (by decide) _ h rfl))
        have HK22:=qh (HK21.out.then_ hk (fun i hi h=>by have:=(HOp21.out.row h).1;have:=HBs.out;omega))
        clear hk HK22k HT21 HR21 HS21 HM21 HOc21 HOs21 HOp21 HB21 HQ21 HK21
        obtain⟨w23,hw23⟩:∃V:World,w22.setCell ⟨bm,2,none⟩ (.slice A22 (np+j) c22)=V:=⟨_,rfl⟩
        rw[hw23]
        have hk:Keep (fun q=>q=bm) w22 w23:=by rw[←hw23];exact put1_keep _
        have HM23:Hid (Blk w23 bm 38 #[.int .i64 ref,.bool rv,.slice A22 (np+j) c22,.slice As k cs,.int .i64 (gapC t c k)]):=qh (by rw[←hw23];have:=HM22.out.set_ 2 (.slice A22 (np+j) c22);simpa using this)
        have HT23:=qh (HT22.out.keep hk (fun h=>HT22.out.ne_ HM22.out (by decide) h))
        have HR23:=qh (HR22.out.keep hk (fun h=>HBm.out.2.2 h.symm))
        have HS23:=qh (HS22.out.keep hk (fun h=>HS22.out.ne_ HM22.out (by decide) h))
        have HOc23:=qh (HOc22.out.keep hk (fun q h=>HOc22.out.ne_blk HM22.out (by decide) q h))
        have HOs23:=qh (HOs22.out.keep hk (fun q h=>HOs22.out.ne_blk HM22.out (by decide) q h))
        have HB23:=qh (HB22.out.keep hk (fun h=>HB22.out.ne_ HM22.out (by decide) h))
        have HO23:=qh (HO22.out.keep hk (fun q h=>HO22.out.ne_blk HM22.out (by decide) q h))
        have HK23:=qh (HK22.out.then_ hk (fun i hi h=>by have:=HBm.out.1;omega))
        clear hk HT22 HR22 HS22 HM22 HOc22 HOs22 HB22 HO22 HK22 hw23 m2 q2 qf2
        obtain⟨at2,hat2⟩:∃z,cu0+plainS t.1 rp=z:=⟨_,rfl⟩
        have HAt:Hid (plainS t.1 (wayC t (l1,l3) g c (k+1)) - back=at2):=qh (by rw[way_next HKl.out,HPe.out,plainS_app,←hat2,←HCu0.out];omega)
        have HSn:Hid (secC t (l1,l3) g back c (k+1)=secC t (l1,l3) g back c k++[(at2,rtm)]):=qh (by rw[sec_next HKl.out,HAt.out,HRo0.out])
        rw[hat2]
        have m3:w23.cell? ⟨bm,3,none⟩=some (.slice As k cs):=HM23.out.cell 3
        have o3:w23.cell? ⟨bo,3,none⟩=some (.int .i64 rtm):=HB23.out.cell 3
        have hkz:=HK23.out.size
        clear hat2
        go_upto_region 30 with(at_builtin;refine wpList_app _ rfl (.tmp 142) (.tmp 147) _ rfl elemSc w.heap.size (A:=As) (n:=k) (c:=cs) (by go_simp) (HOs23.out.alloc _) _ (A':=some ⟨_,0,none⟩) (m:=1) (c':=1) (by go_simp) (Rd.of_blk (n:=1) (cs:=[.int .i64 at2,.int .i64 rtm]) (Blk.new _ _ _) rfl) (by simp[Value.oneCell']) (by omega) (by unfold maxLen;omega) (by simp;omega) ?_;intro A24 c24 w24 hown hk hrow;have hk24:Keep (InRow As) w23 w24:=((Keep.refl _ w23).alloc _).trans hk;have HO24:Hid (Own w24 w.heap.size 58 2 A24 (k+1) c24 (scCells (secC t (l1,l3) g back c (k+1)))):=qh (by rw[HSn.out,scCells_app];exact hown);have HM24:=qh (HM23.out.keep hk24 (fun h=>HOs23.out.ne_blk HM23.out (by decide) _ h rfl));have HK24k:=qh hk24;have q3:w24.cell? ⟨bm,3,none⟩=some (.slice As k cs):=HM24.out.cell 3;have qf3:=HM24.out.frozen 3;clear hown hk hrow hk24)
        have hk:=HK24k.out
        have HP23:=HO23
        have HT24:=qh (HT23.out.keep hk (fun h=>HOs23.out.ne_blk HT23.out (by decide) _ h rfl))
        have HR24:=qh (HR23.out.keep hk (fun h=>HOs23.out.ne_blk HR23.out (by decide) _ h rfl))
        have HS24:=qh (HS23.out.keep hk (fun h=>HOs23.out.ne_blk HS23.out (by decide) _ h rfl))
        have HOc24:=qh (HOc23.out.keep hk (fun q h=>HOc23.out.ne_own HOs23.out (by decide) q h))
        have HB24:=qh (HB23.out.keep hk (fun h=>HOs23.out.ne_blk HB23.out (by decide) _ h rfl))
        have HK24:=qh (HK23.out.then_ hk (fun i hi h=>by have:=(HOs23.out.row h).1;have:=HBs.out;omega))
        have HP24:=qh (HP23.out.keep hk (fun q h=>HP23.out.ne_own HOs23.out (by decide) q h))
        clear hk HK24k HT23 HR23 HS23 HM23 HOc23 HOs23 HB23 HO23 HP23 HK23 m3 o3
        obtain⟨w25,hw25⟩:∃V:World,w24.setCell ⟨bm,3,none⟩ (.slice A24 (k+1) c24)=V:=⟨_,rfl⟩
        rw[hw25]
        have hk:Keep (fun q=>q=bm) w24 w25:=by rw[←hw25];exact put1_keep _
        have HM25:Hid (Blk w25 bm 38 #[.int .i64 ref,.bool rv,.slice A22 (np+j) c22,.slice A24 (k+1) c24,.int .i64 (gapC t c k)]):=qh (by rw[←hw25];have:=HM24.out.set_ 3 (.slice A24 (k+1) c24);simpa using this)
        have HT25:=qh (HT24.out.keep hk (fun h=>HT24.out.ne_ HM24.out (by decide) h))
        have HR25:=qh (HR24.out.keep hk (fun h=>HBm.out.2.2 h.symm))
        have HS25:=qh (HS24.out.keep hk (fun h=>HS24.out.ne_ HM24.out (by decide) h))
        have HOc25:=qh (HOc24.out.keep hk (fun q h=>HOc24.out.ne_blk HM24.out (by decide) q h))
        have HO25:=qh (HO24.out.keep hk (fun q h=>HO24.out.ne_blk HM24.out (by decide) q h))
        have HB25:=qh (HB24.out.keep hk (fun h=>HB24.out.ne_ HM24.out (by decide) h))
        have HK25:=qh (HK24.out.then_ hk (fun i hi h=>by have:=HBm.out.1;omega))
        have HP25:=qh (HP24.out.keep hk (fun q h=>HP24.out.ne_blk HM24.out (by decide) q h))
        clear hk HT24 HR24 HS24 HM24 HOc24 HB24 HO24 HP24 HK24 hw25 q3 qf3
        have o2:w25.cell? ⟨bo,2,none⟩=some (.int .i64 rg):=HB25.out.cell 2
        have q4:w25.cell? ⟨bm,4,none⟩=some (.int .i64 (gapC t c k)):=HM25.out.cell 4
        have qf4:=HM25.out.frozen 4
        go_upto_region 31 with(fail)
        obtain⟨w26,hw26⟩:∃V:World,w25.setCell ⟨bm,4,none⟩ (.int .i64 rg)=V:=⟨_,rfl⟩
        rw[hw26]
        have hk:Keep (fun q=>q=bm) w25 w26:=by rw[←hw26];exact put1_keep _
        have HM26:Hid (Blk w26 bm 38 #[.int .i64 ref,.bool rv,.slice A22 (np+j) c22,.slice A24 (k+1) c24,.int .i64 (gapC t c (k+1))]):=qh (by rw[←hw26,gap_next HKl.out,HRo0.out];have:=HM25.out.set_ 4 (.int .i64 rg);simpa using this)
        have HT26:=qh (HT25.out.keep hk (fun h=>HT25.out.ne_ HM25.out (by decide) h))
        have HR26:=qh (HR25.out.keep hk (fun h=>HBm.out.2.2 h.symm))
        have HS26:=qh (HS25.out.keep hk (fun h=>HS25.out.ne_ HM25.out (by decide) h))
        have HOc26:=qh (HOc25.out.keep hk (fun q h=>HOc25.out.ne_blk HM25.out (by decide) q h))
        have HO26:=qh (HO25.out.keep hk (fun q h=>HO25.out.ne_blk HM25.out (by decide) q h))
        have HK26:=qh (HK25.out.then_ hk (fun i hi h=>by have:=HBm.out.1;omega))
        have HP26:=qh (HP25.out.keep hk (fun q h=>HP25.out.ne_blk HM25.out (by decide) q h))
        clear hk HT25 HR25 HS25 HM25 HOc25 HB25 HO25 HP25 HK25 hw26 o2 q4 qf4
        have H6n:Hid (∀u∈wayC t (l1,l3) g c (k+1),in64 u):=qh (by
         rw[way_next HKl.out,HPe.out]
         intro u hu
         rcases List.mem_append.1 hu with hu | hu
         ·exact H6.out u hu
         ·exact HP6.out u hu)
        have HLn:Hid (np+j=(wayC t (l1,l3) g c (k+1)).length):=qh (by rw[way_next HKl.out,HPe.out,List.length_append];have:=HNp.out;have:=HPl.out.1;omega)
        go_wp2_with fail
        refine⟨⟨k+1,A22,np+j,c22,A24,k+1,c24,by omega,by go_num,by rw[HAt.out],qh ⟨HP26.out,H6n.out,HO26.out,HT26.out,HR26.out,HS26.out,HM26.out,HOc26.out,HK26.out,HLn.out,rfl⟩⟩,?_⟩
        simp[intOf];try omega
       have hji:(j:Int)<(nr2:Int):=by omega
       obtain⟨ad,s,hA,_,hs,c0,c1⟩:=(HQ15.out.keep HH.out (fun _ h=>h.elim)).stp h2
       subst hA
       have HTh:Hid (thereB t.1.length s.1=true):=qh (HPt.out s (List.mem_of_getElem? hs))
       have HNx:=qh (plainS_next (t:=t) hs)
       have hpb:=plain_bnd HC0.out (rp.take j) (fun u hu=>HPt.out u (List.mem_of_mem_take hu))
       have hlk:(rp.take j).length≤8:=by have:=HPl.out;rw[List.length_take];omega
       obtain⟨s1,s2⟩:=s
       simp only at c0 c1 HTh HNx
       obtain⟨cu,hcu⟩:∃z,cu0+plainS t.1 (rp.take j)=z:=⟨_,rfl⟩
       have hcb:-1000000≤cu∧cu≤1000000000:=by have:=HC0b.out;omega
       have HCu:=qh hcu
       have hn8:=HPl.out.2
       rw[hcu]
       clear hs hpb hlk hcu
       go_upto_region 26 with(fail)
       obtain⟨w20,hw20⟩:∃V:World,wr.alloc (.cells #[.int .i64 s1,.bool s2] 30)=V:=⟨_,rfl⟩
       have hk:Keep Never wr w20:=by rw[←hw20];exact(Keep.refl _ _).alloc _
       have B20:=Blk.new wr 30 #[.int .i64 s1,.bool s2]
       rw[hw20] at B20
       obtain⟨bl,hbl⟩:∃q,wr.heap.size=q:=⟨_,rfl⟩
       rw[hbl] at B20
       rw[hw20,hbl]
       have HL20:=qh B20
       have HKi:=qtr HH hk
       have HK20:=qh (HK15.out.trans HKi.out)
       have HT20:=qh (HT15.out.keep HKi.out (fun h=>h))
       clear hk B20 c0 c1 hw20 hbl
       obtain⟨ae,ke,ve,hAe,hke,hkn,ed,hev,hv0,hv1⟩:=HEd.out w20 HK20.out s1 HC0.out HTh.out
       (try simp only at hAe hke hkn)
       subst hAe
       have hkni:(ke:Int)<(ne:Int):=by omega
       have HEv:Hid (edgeM t s1=ve):=qh hev
       clear hev
       have l0:w20.cell? ⟨bl,0,none⟩=some (.int .i64 ke):=by rw[←hke];exact HL20.out.cell 0
       obtain⟨y0,y1,y2,y3⟩:=bc4 HT20.out
       have hwb2:IntKind.i64.wrap (cu+ve)=cu+ve:=IntWalk.i64_in _ (by omega)
       have hwb:wrap64 (cu+ve)=cu+ve:=by have:=hwb2;rwa [IntWalk.i64_left] at this
       go_wp2_with fail
       refine⟨⟨j+1,by omega,by go_num,by rw[HNx.out,HEv.out,←HCu.out];congr 1;omega,qh HKi.out⟩,?_⟩
       simp[intOf];try omega
   have hki:(k:Int)<(np:Int):=by omega
   obtain⟨ad,s,hA,_,hs,c0,c1⟩:=(HOp11.out.rd.keep HH.out (fun _ h=>h.elim)).stp h0
   subst hA
   have HTh:Hid (thereB t.1.length s.1=true):=qh (HGg.out.2 s (List.mem_of_getElem? hs))
   have HNx:=qh (plainS_next (t:=t) hs)
   have hpb:=plain_bnd HC0.out (g.take k) (fun u hu=>HGg.out.2 u (List.mem_of_mem_take hu))
   have hlk:(g.take k).length≤41:=by have:=HGg.out.1;rw[List.length_take];omega
   obtain⟨s1,s2⟩:=s
   simp only at c0 c1 HTh HNx
   obtain⟨cu,hcu⟩:∃z,plainS t.1 (g.take k) - back=z:=⟨_,rfl⟩
   have hcb:-1000000≤cu∧cu≤41000000:=by have:=HBk.out;omega
   have HCu:=qh hcu
   have hnp41:=HG41.out
   rw[hcu]
   clear hs hpb hlk hcu
   go_upto_region 14 with(fail)
   obtain⟨w12,hw12⟩:∃V:World,wr.alloc (.cells #[.int .i64 s1,.bool s2] 30)=V:=⟨_,rfl⟩
   have hk:Keep Never wr w12:=by rw[←hw12];exact(Keep.refl _ _).alloc _
   have B12:=Blk.new wr 30 #[.int .i64 s1,.bool s2]
   rw[hw12] at B12
   obtain⟨bl,hbl⟩:∃q,wr.heap.size=q:=⟨_,rfl⟩
   rw[hbl] at B12
   rw[hw12,hbl]
   have HL12:=qh B12
   have HK12:=qh ((HK11.out.trans HH.out).trans hk)
   have HKi:=qtr HH hk
   have HT12:=qh (HT11.out.keep HKi.out (fun h=>h))
   clear hk B12 c0 c1 hw12 hbl
   obtain⟨ae,ke,ve,hAe,hke,hkn,ed,hev,hv0,hv1⟩:=HEd.out w12 HK12.out s1 HC0.out HTh.out
   (try simp only at hAe hke hkn)
   subst hAe
   have hkni:(ke:Int)<(ne:Int):=by omega
   have HEv:Hid (edgeM t s1=ve):=qh hev
   clear hev
   have l0:w12.cell? ⟨bl,0,none⟩=some (.int .i64 ke):=by rw[←hke];exact HL12.out.cell 0
   obtain⟨y0,y1,y2,y3⟩:=bc4 HT12.out
   have hwb2:IntKind.i64.wrap (cu+ve)=cu+ve:=IntWalk.i64_in _ (by omega)
   have hwb:wrap64 (cu+ve)=cu+ve:=by have:=hwb2;rwa [IntWalk.i64_left] at this
   go_wp2_with fail
   refine⟨⟨k+1,by omega,by go_num,by rw[HNx.out,HEv.out,←HCu.out];congr 1;omega,qh HKi.out⟩,?_⟩
   simp[intOf];try omega
end Go.Proofs.YtpapiojicbbheaaGreatDoor

namespace Go.Proofs.YtpapiojicbbheaaGreatDoor
open Go.RowKit
def sameC (a b c d:Int):Bool:=decide (((a,b):Sc)=(c,d))
theorem run_ne_sc (w:World) (a b c d:Int):(binOp .neq 58 (.agg #[.int .i64 a,.int .i64 b]) (.agg #[.int .i64 c,.int .i64 d])).run Tryz.prog w=.ok (.bool (!sameC a b c d)) w:=by
 by_cases h1:a=c
 ·have t1:(a==c)=true:=by simpa using h1
  by_cases h2:b=d
  ·have t2:(b==d)=true:=by simpa using h2
   have hd:sameC a b c d=true:=decide_eq_true (by rw[h1,h2])
   rw[hd]
   clear h1 h2 hd
   go_simp
   (try simp[t1,t2])
  ·have t2:(b==d)=false:=by simpa using h2
   have hd:sameC a b c d=false:=decide_eq_false (by intro h;injection h with _ h;exact h2 h)
   rw[hd]
   clear h1 h2 hd
   go_simp
   (try simp[t1,t2])
 ·have t1:(a==c)=false:=by simpa using h1
  have hd:sameC a b c d=false:=decide_eq_false (by intro h;injection h with h _;exact h1 h)
  rw[hd]
  clear h1 hd
  go_simp
  (try simp[t1])
set_option maxHeartbeats 4000000 in
set_option maxRecDepth 100000 in
theorem same17_self (x y:MX) (m:Ma) (B1 B2:Nat) (w:World) (hx:MaAt w B1 x m) (hy:MaAt w B2 y m) (hnp:x.np≤100000000) (hns:x.ns≤100000000) :
    Calls Tryz.prog 16 #[.agg (x.vs m),.agg (y.vs m)] w fun en w'=>en=.returned (.bool true)∧Keep Never w w':=by
  obtain⟨ref,rv,P,S,g⟩:=m
  have HP1:=qh hx.p
  have HP2:=qh hy.p
  have HS1:=qh hx.s
  have HS2:=qh hy.s
  obtain⟨Ap,np,cp,As,ns,cs⟩:=x
  obtain⟨Aq,nq,cq,At,nt,ct⟩:=y
  simp only at HP1 HP2 HS1 HS2 hnp hns
  have hn1:ns=nt:=by have h1:=HS1.out.len;have h2:=HS2.out.len;omega
  have hn2:np=nq:=by have h1:=(stps_rd HP1.out).2.1;have h2:=(stps_rd HP2.out).2.1;omega
  subst hn1 hn2
  have HLe:Hid (S.length=ns):=qh HS1.out.len
  clear hx hy
  simp only[MX.vs]
  obtain⟨w1,hw1⟩:∃V:World,w.alloc (.cells #[.int .i64 ref,.bool rv,.slice Ap np cp,.slice As ns cs,.int .i64 g] 38)=V:=⟨_,rfl⟩
  have zw1:w1.heap.size=w.heap.size+1:=by rw[←hw1];simp
  have kw1:Keep Never w w1:=by rw[←hw1];exact(Keep.refl _ _).alloc _
  have bw1:=Blk.new w 38 #[.int .i64 ref,.bool rv,.slice Ap np cp,.slice As ns cs,.int .i64 g]
  rw[hw1] at bw1
  obtain⟨w2,hw2⟩:∃V:World,w1.alloc (.cells #[.int .i64 ref,.bool rv,.slice Aq np cq,.slice At ns ct,.int .i64 g] 38)=V:=⟨_,rfl⟩
  have kw2:Keep Never w1 w2:=by rw[←hw2];exact(Keep.refl _ _).alloc _
  have bw2:=Blk.new w1 38 #[.int .i64 ref,.bool rv,.slice Aq np cq,.slice At ns ct,.int .i64 g]
  rw[hw2,zw1] at bw2
  have HB1:=qh (bw1.keep kw2 (fun h=>h))
  have HB2:=qh bw2
  have HK:=qh (kw1.trans kw2)
  clear kw1 kw2 bw1 bw2
  have HSt:=qh (fun (W:World) (hk:Keep Never w W)=>steps_any Ap Aq np np cp cq B1 B2 P P W ((stps_rd HP1.out).1.keep hk (fun _ h=>h.elim)) ((stps_rd HP2.out).1.keep hk (fun _ h=>h.elim)) hnp hnp)
  have hw:=HSt.out w2 HK.out
  rw[show decide (P=P)=true from by simp] at hw
  have HC:=qh hw
  obtain⟨x0,x1,x2,x3,x4⟩:=bc5 HB1.out
  obtain⟨z0,z1,z2,z3,z4⟩:=bc5 HB2.out
  clear hw HSt hnp
  go_enter Tryz.func16, Tryz.ntmps16
  go_wp2_with fail
  refine HC.out.mono ?_
  rintro en w3 ⟨rfl,hk⟩
  have HK3:=qtr HK hk
  have HX3:=qkb HB1 hk
  have HY3:=qkb HB2 hk
  clear hk HC HB1 HB2 HK x0 z0 x1 z1 x2 z2 x3 z3 x4 z4 hw1 hw2 zw1
  obtain⟨x0,x1,x2,x3,x4⟩:=bc5 HX3.out
  obtain⟨z0,z1,z2,z3,z4⟩:=bc5 HY3.out
  go_upto_region 5 with(fail)
  clear x0 z0 x1 z1 x2 z2 x3 z3 x4 z4
  go_loopw [6] (fun s6 wr=>∃k:Nat,k≤ns∧s6=.int .i64 k∧Hid (Keep Never w3 wr)) (fun si _=>ns - (intOf si).toNat)
  case atStart=>exact⟨0,by omega,rfl,qh (Keep.refl _ _)⟩
  case round=>
   obtain⟨k,hk,rfl,HH⟩:=hrel
   have HXr:=qh (HX3.out.keep HH.out (fun h=>h))
   have HYr:=qh (HY3.out.keep HH.out (fun h=>h))
   have x3:wr.cell? ⟨w.heap.size,3,none⟩=some (.slice As ns cs):=HXr.out.cell 3
   have z3:wr.cell? ⟨w.heap.size+1,3,none⟩=some (.slice At ns ct):=HYr.out.cell 3
   by_cases h0:k<ns
   ·have hki:(k:Int)<(ns:Int):=by omega
    obtain⟨ad,s,hA,_,hs,c0,c1⟩:=((HS1.out.keep (HK3.out.trans HH.out)).rd).sc h0
    obtain⟨ae,s',hA',_,hs',d0,d1⟩:=((HS2.out.keep (HK3.out.trans HH.out)).rd).sc h0
    rw[hs] at hs'
    injection hs' with hs'
    subst hs' hA hA'
    obtain⟨s1,s2⟩:=s
    simp only at c0 c1 d0 d1
    have qn:=run_ne_sc
    have t1:(!sameC s1 s2 s1 s2)=false:=by unfold sameC;simp
    clear hs
    go_wp2_with fail
    go_quiet (fail)
    go_wp2_with fail
    refine⟨⟨k+1,by omega,by go_num,qh (HH.out.drewN _)⟩,?_⟩
    simp[intOf];try omega
   ·obtain rfl:k=ns:=by omega
    have hki:¬(k:Int)<(k:Int):=by omega
    go_wp2_with fail
    go_ret
    exact⟨rfl,HK3.out.trans HH.out⟩
theorem wake_build:buildM lineT [(1,5,1),(2,5,2)] 5 7 false 40=((7,false,[(0,false),(1,false)],[(290,30)],0),0):=by kernel_rfl
theorem wake_packs:packsM17 lineT (7,false,[(0,false),(1,false)],[(290,30)],0)=.ok [(15,[1,0,0,0,0,290,1,30,0,0,0,0]),(5,[1,0,110,1,0,8,1,2,12,0])]:=by kernel_rfl
theorem wake_read:readM badP lineT 7 false [(15,[1,0,0,0,0,290,1,30,0,0,0,0]),(5,[1,0,110,1,0,8,1,2,12,0])]=((7,false,[(0,false),(1,false)],[(290,30)],0),0):=by kernel_rfl
theorem wake_may:mayMA lineT (7,false,[(0,false),(1,false)],[(290,30)],0)=true:=by decide +kernel
theorem wake_reach:reachM [((290:Int),(30:Int))] 29=290∧reachM [((290:Int),(30:Int))] 30=0:=by decide +kernel
set_option maxHeartbeats 8000000 in
set_option maxRecDepth 100000 in
theorem awake17_any (w:World) (hW:Widths w) (hg : 0 < w.heap.size) :
    Calls Tryz.prog 9 #[] w fun en w'=>en=.returned (.bool true)∧Keep Never w w':=by
  have HLn:=qh line_any
  have HBu:=qh (fun (W:World) (x:TA) (A:Option Addr) (n c:Nat) (l:List Lk) (ht:TpAt W W.heap.size x lineT) (hl:SpAt W W.heap.size A n c l) (hn:n≤1000000)=>build_any x lineT W.heap.size A n c l 5 7 false 40 W ht (line_small ht) (Nat.le_refl _) hl hn)
  have HPa:=qh (fun (W:World) (x:TA) (y:MX) (m:Ma) (ht:TpAt W W.heap.size x lineT) (hm:MaAt W W.heap.size y m) (hp:y.np≤1000000) (hs:y.ns≤1000000)=>packets_any x lineT W.heap.size m.1 m.2.1 m.2.2.1 m.2.2.2.1 m.2.2.2.2 y.Ap y.np y.cp y.As y.ns y.cs W ht (line_small ht) (Nat.le_refl _) hm.p hm.s hp hs)
  have HRd:=qh (fun (W:World) (hk:Keep Never w W) (x:TA) (A:Option Addr) (n c:Nat) (l:List Pk) (ht:TpAt W W.heap.size x lineT) (hl:PksAt W W.heap.size A n c l) (hn:n≤1000000)=>plread_any x lineT W.heap.size 7 false A n c l W ht (line_small ht) (Nat.le_refl _) hl hn (hW.keep hk (fun h=>h)) (Nat.lt_of_lt_of_le hg hk.size))
  have HSm:=qh (fun (W:World) (x y:MX) (m:Ma) (hx:MaAt W W.heap.size x m) (hy:MaAt W W.heap.size y m) (hnp:x.np≤100000000) (hns:x.ns≤100000000)=>same17_self x y m W.heap.size W.heap.size W hx hy hnp hns)
  have HMy:=qh (fun (W:World) (x:TA) (y:MX) (m:Ma) (ht:TpAt W W.heap.size x lineT) (hm:MaAt W W.heap.size y m) (hp:y.np≤1000000) (hs:y.ns≤1000000)=>may17_any x lineT W.heap.size m.1 m.2.1 m.2.2.1 m.2.2.2.1 m.2.2.2.2 y.Ap y.np y.cp y.As y.ns y.cs W ht (line_small ht) (Nat.le_refl _) hm.p hm.s hp hs)
  have HRe:=qh (fun (W:World) (y:MX) (m:Ma) (age:Int) (hm:MaAt W W.heap.size y m) (hs:y.ns≤1000000)=>reach_any W.heap.size m.1 m.2.1 m.2.2.2.1 m.2.2.2.2 age y.Ap y.np y.cp y.As y.ns y.cs W hm.s hs)
  clear hW hg
  go_enter Tryz.func9, Tryz.ntmps9
  go_wp2_with fail
  refine(HLn.out _).mono ?_
  rintro en w1 ⟨x,rfl,ht,hk⟩
  have HK1:=qh hk
  have HT1:=qh ht
  clear ht hk
  obtain⟨Ae,ne,ce,Aj,nj,cj,Ab,nb,cb,Ar,nr,cr⟩:=x
  simp only[TA.cs]
  obtain⟨w2,hw2⟩:∃V:World,w1.alloc (.cells #[.slice Ae ne ce,.slice Aj nj cj,.slice Ab nb cb,.slice Ar nr cr] 27)=V:=⟨_,rfl⟩
  have hk:Keep Never w1 w2:=by rw[←hw2];exact(Keep.refl _ _).alloc _
  have B2:=Blk.new w1 27 #[.slice Ae ne ce,.slice Aj nj cj,.slice Ab nb cb,.slice Ar nr cr]
  rw[hw2] at B2
  obtain⟨bt,hbt⟩:∃q,w1.heap.size=q:=⟨_,rfl⟩
  rw[hbt] at B2
  have HK2:=qtr HK1 hk
  have HT2:=qh ((HT1.out.keep hk).wide hk.size)
  have HB2:=qh B2
  clear hk B2 HT1 HK1
  go_upto_region 3 with(fail)
  clear hw2 hbt
  obtain⟨w3,hw3⟩:∃V:World,w2.alloc (.cells #[.int .i64 1,.int .i64 5,.int .i64 1,.int .i64 2,.int .i64 5,.int .i64 2] 62)=V:=⟨_,rfl⟩
  have hk:Keep Never w2 w3:=by rw[←hw3];exact(Keep.refl _ _).alloc _
  have B3:=Blk.new w2 62 #[.int .i64 1,.int .i64 5,.int .i64 1,.int .i64 2,.int .i64 5,.int .i64 2]
  rw[hw3] at B3
  obtain⟨bl,hbl⟩:∃q,w2.heap.size=q:=⟨_,rfl⟩
  rw[hbl] at B3
  rw[hw3,hbl]
  have HK3:=qtr HK2 hk
  have HT3:=qh ((HT2.out.keep hk).wide hk.size)
  have HB3:=qkb HB2 hk
  have HL3:Hid (SpAt w3 w3.heap.size (some ⟨bl,0,none⟩) 2 2 [(1,5,1),(2,5,2)]):=qh (lkAt_own (base:=0) (Own.of_blk2 (xs:=[.int .i64 1,.int .i64 5,.int .i64 1,.int .i64 2,.int .i64 5,.int .i64 2]) B3 rfl (by unfold maxLen;omega) (by omega)))
  have hw:=HBu.out w3 ⟨Ae,ne,ce,Aj,nj,cj,Ab,nb,cb,Ar,nr,cr⟩ _ 2 2 [(1,5,1),(2,5,2)] HT3.out HL3.out (by omega)
  rw[wake_build] at hw
  unfold MaRet at hw
  simp only[TA.cs] at hw
  have HC:=qh hw
  obtain⟨y0,y1,y2,y3⟩:=bc4 HB3.out
  clear hk B3 HT2 HB2 HK2 hw hw3 hbl HBu
  go_wp2_with fail
  refine HC.out.mono ?_
  rintro en w4 ⟨y,rfl,hm,hk⟩
  have HK4:=qtr HK3 hk
  have HT4:=qh ((HT3.out.keep hk).wide hk.size)
  have HB4:=qkb HB3 hk
  have HY4:=qh hm
  clear hk hm HC HT3 HB3 HK3 HL3 y0 y1 y2 y3
  obtain⟨Ap,np,cp,As,ns,cs⟩:=y
  obtain rfl:ns=1:=HY4.out.s.len.symm
  have hnp2:np=2:=(stps_rd HY4.out.p).2.1
  subst hnp2
  simp only[MX.vs]
  have BZ:=Blk.new w4 38 #[.int .i64 0,.bool false,.slice none 0 0,.slice none 0 0,.int .i64 0]
  obtain⟨u0,u1,u2,u3,u4⟩:=bc5 BZ
  have uf0:=BZ.frozen 0
  have uf1:=BZ.frozen 1
  have uf2:=BZ.frozen 2
  have uf3:=BZ.frozen 3
  have uf4:=BZ.frozen 4
  go_upto_region 4 with(fail)
  clear BZ u0 u1 u2 u3 u4 uf0 uf1 uf2 uf3 uf4
  obtain⟨w5,hw5⟩:∃V:World,w4.alloc (.cells #[.int .i64 7,.bool false,.slice Ap 2 cp,.slice As 1 cs,.int .i64 0] 38)=V:=⟨_,rfl⟩
  have hk:Keep Never w4 w5:=by rw[←hw5];exact(Keep.refl _ _).alloc _
  have B:=Blk.new w4 38 #[.int .i64 7,.bool false,.slice Ap 2 cp,.slice As 1 cs,.int .i64 0]
  rw[hw5] at B
  obtain⟨bm,hbm⟩:∃q,w4.heap.size=q:=⟨_,rfl⟩
  rw[hbm] at B
  rw[hw5,hbm]
  have HK5:=qtr HK4 hk
  have HT5:=qh ((HT4.out.keep hk).wide hk.size)
  have HB5:=qkb HB4 hk
  have HY5:=qh ((HY4.out.keep hk).more hk.size)
  have HM5:=qh B
  have hw:=HPa.out w5 ⟨Ae,ne,ce,Aj,nj,cj,Ab,nb,cb,Ar,nr,cr⟩ ⟨Ap,2,cp,As,1,cs⟩ (7,false,[(0,false),(1,false)],[(290,30)],0) HT5.out HY5.out (by simp) (by simp)
  simp only[TA.cs] at hw
  rw[wake_packs] at hw
  unfold PksRet at hw
  simp only at hw
  have HC:=qh hw
  obtain⟨y0,y1,y2,y3⟩:=bc4 HB5.out
  obtain⟨m0,m1,m2,m3,m4⟩:=bc5 HM5.out
  clear hk B HT4 HB4 HY4 HK4 hw HPa
  go_wp2_with fail
  refine HC.out.mono ?_
  rintro en w6 ⟨hk,A2,n2,c2,rfl,hp⟩
  have HK6:=qtr HK5 hk
  have HT6:=qh ((HT5.out.keep hk).wide hk.size)
  have HB6:=qkb HB5 hk
  have HY6:=qh ((HY5.out.keep hk).more hk.size)
  have HM6:=qkb HM5 hk
  have HP6:=qh hp
  have hn2:n2=2:=hp.len.symm
  subst hn2
  clear hk hp HC HT5 HB5 HY5 HM5 HK5 y0 y1 y2 y3 m0 m1 m2 m3 m4 hw5 hbm
  have hw:=HRd.out w6 HK6.out ⟨Ae,ne,ce,Aj,nj,cj,Ab,nb,cb,Ar,nr,cr⟩ A2 2 c2 [(15,[1,0,0,0,0,290,1,30,0,0,0,0]),(5,[1,0,110,1,0,8,1,2,12,0])] HT6.out HP6.out (by omega)
  rw[wake_read] at hw
  unfold MaRet at hw
  simp only[TA.cs] at hw
  have HC:=qh hw
  obtain⟨y0,y1,y2,y3⟩:=bc4 HB6.out
  clear hw HRd
  go_wp2_with fail
  refine HC.out.mono ?_
  rintro en w7 ⟨yz,rfl,hm,hk⟩
  have HK7:=qtr HK6 hk
  have HT7:=qh ((HT6.out.keep hk).wide hk.size)
  have HB7:=qkb HB6 hk
  have HY7:=qh ((HY6.out.keep hk).more hk.size)
  have HM7:=qkb HM6 hk
  have HZ7:=qh hm
  clear hk hm HC HT6 HB6 HY6 HM6 HK6 HP6 y0 y1 y2 y3
  obtain⟨Aq,nq,cq,At,nt,ct⟩:=yz
  obtain rfl:nt=1:=HZ7.out.s.len.symm
  have hnq2:nq=2:=(stps_rd HZ7.out.p).2.1
  subst hnq2
  simp only[MX.vs]
  have BZ:=Blk.new w7 38 #[.int .i64 0,.bool false,.slice none 0 0,.slice none 0 0,.int .i64 0]
  obtain⟨u0,u1,u2,u3,u4⟩:=bc5 BZ
  have uf0:=BZ.frozen 0
  have uf1:=BZ.frozen 1
  have uf2:=BZ.frozen 2
  have uf3:=BZ.frozen 3
  have uf4:=BZ.frozen 4
  go_upto_region 6 with(fail)
  clear BZ u0 u1 u2 u3 u4 uf0 uf1 uf2 uf3 uf4
  obtain⟨w8,hw8⟩:∃V:World,w7.alloc (.cells #[.int .i64 7,.bool false,.slice Aq 2 cq,.slice At 1 ct,.int .i64 0] 38)=V:=⟨_,rfl⟩
  have hk:Keep Never w7 w8:=by rw[←hw8];exact(Keep.refl _ _).alloc _
  have B:=Blk.new w7 38 #[.int .i64 7,.bool false,.slice Aq 2 cq,.slice At 1 ct,.int .i64 0]
  rw[hw8] at B
  obtain⟨bn,hbn⟩:∃q,w7.heap.size=q:=⟨_,rfl⟩
  rw[hbn] at B
  rw[hw8,hbn]
  have HK8:=qtr HK7 hk
  have HT8:=qh ((HT7.out.keep hk).wide hk.size)
  have HB8:=qkb HB7 hk
  have HY8:=qh ((HY7.out.keep hk).more hk.size)
  have HM8:=qkb HM7 hk
  have HZ8:=qh ((HZ7.out.keep hk).more hk.size)
  have HN8:=qh B
  clear hk B HT7 HB7 HY7 HM7 HZ7 HK7
  have hw:=HSm.out w8 ⟨Ap,2,cp,As,1,cs⟩ ⟨Aq,2,cq,At,1,ct⟩ (7,false,[(0,false),(1,false)],[(290,30)],0) HY8.out HZ8.out (by simp) (by simp)
  simp only[MX.vs] at hw
  have HC:=qh hw
  obtain⟨m0,m1,m2,m3,m4⟩:=bc5 HM8.out
  obtain⟨n0,n1,n2,n3,n4⟩:=bc5 HN8.out
  clear hw HSm
  go_wp2_with fail
  refine HC.out.mono ?_
  rintro en w9 ⟨rfl,hk⟩
  have HK9:=qtr HK8 hk
  have HT9:=qh ((HT8.out.keep hk).wide hk.size)
  have HB9:=qkb HB8 hk
  have HY9:=qh ((HY8.out.keep hk).more hk.size)
  have HM9:=qkb HM8 hk
  clear hk HC HT8 HB8 HY8 HM8 HN8 HZ8 HK8 hw8 hbn m0 n0 m1 n1 m2 n2 m3 n3 m4 n4
  obtain⟨ad,sl,hA,_,hsl,c0,c1⟩:=HY9.out.s.rd.sc (show 0<1 by omega)
  simp only[List.getElem?_cons_zero,Option.some.injEq] at hsl
  subst hsl hA
  have ea:ad.add (0*2)=ad:=by rw[Nat.zero_mul];unfold Addr.add;split <;> simp_all
  rw[ea] at c0 c1
  have hw:=HMy.out w9 ⟨Ae,ne,ce,Aj,nj,cj,Ab,nb,cb,Ar,nr,cr⟩ ⟨Ap,2,cp,some ad,1,cs⟩ (7,false,[(0,false),(1,false)],[(290,30)],0) HT9.out HY9.out (by simp) (by simp)
  simp only[TA.cs] at hw
  rw[wake_may] at hw
  have HC:=qh hw
  obtain⟨y0,y1,y2,y3⟩:=bc4 HB9.out
  obtain⟨m0,m1,m2,m3,m4⟩:=bc5 HM9.out
  clear hw ea
  go_wp2_with fail
  refine HC.out.mono ?_
  rintro en w10 ⟨rfl,hk⟩
  have HK10:=qtr HK9 hk
  have HY10:=qh ((HY9.out.keep hk).more hk.size)
  have HM10:=qkb HM9 hk
  clear hk HC c0 c1 y0 y1 y2 y3 m0 m1 m2 m3 m4 HT9 HB9 HY9 HM9 HK9 HMy
  have hw:=HRe.out w10 ⟨Ap,2,cp,some ad,1,cs⟩ (7,false,[(0,false),(1,false)],[(290,30)],0) 29 HY10.out (by simp)
  simp only at hw
  rw[wake_reach.1] at hw
  have HC:=qh hw
  obtain⟨m0,m1,m2,m3,m4⟩:=bc5 HM10.out
  clear hw
  go_wp2_with fail
  refine HC.out.mono ?_
  rintro en w11 ⟨rfl,hk⟩
  have HK11:=qtr HK10 hk
  have HY11:=qh ((HY10.out.keep hk).more hk.size)
  have HM11:=qkb HM10 hk
  clear hk HC m0 m1 m2 m3 m4 HY10 HM10 HK10
  have hw:=HRe.out w11 ⟨Ap,2,cp,some ad,1,cs⟩ (7,false,[(0,false),(1,false)],[(290,30)],0) 30 HY11.out (by simp)
  simp only at hw
  rw[wake_reach.2] at hw
  have HC:=qh hw
  obtain⟨m0,m1,m2,m3,m4⟩:=bc5 HM11.out
  clear hw
  go_wp2_with fail
  refine HC.out.mono ?_
  rintro en w12 ⟨rfl,hk⟩
  have HK12:=qtr HK11 hk
  clear hk HC m0 m1 m2 m3 m4
  go_wp2_with fail
  go_ret
  exact⟨rfl,HK12.out⟩
end Go.Proofs.YtpapiojicbbheaaGreatDoor

namespace Go.Proofs.YtpapiojicbbheaaGreatDoor
open Go.RowKit
theorem opens_packs17:Rep.Opens Tryz.prog 44 repPack.list:=Rep.opens_list Tryz.underlying44 (by kernel_rfl) (by decide) opens_pack
set_option maxHeartbeats 4000000 in
set_option maxRecDepth 100000 in
theorem planReads_walk (w:World) (hW:Widths w) (cs0:Array Value) (t:Tp) (s0:repTp.cells w w.heap.size t cs0.toList) (ref:Int) (rv:Bool) (Al:Option Addr) (nl cl:Nat) (l:List Pk) (hl:repPack.Sl w w.heap.size Al nl cl l) :
    Calls Tryz.prog 4 #[.agg cs0,.int .i64 ref,.bool rv,.slice Al nl cl] w fun e w'=>e=.returned (.bool true)∧Keep Never w w':=by
  obtain⟨x,hx,ht⟩:=TpAt.of s0
  obtain rfl:cs0=x.cs:=by apply Array.ext';exact hx
  clear hx s0
  have hgv : 0 < w.heap.size:=cell_lt (hW 0 (by decide))
  have HAw:=qh (fun (V:World) (hk:Keep Never w V)=>awake17_any V (hW.keep hk (fun h=>h)) (Nat.lt_of_lt_of_le hgv hk.size))
  have HLi:=qh (fun (V:World) (hk:Keep Never w V)=>light13r_any x t w.heap.size V (ht.keep hk))
  have HLg:=qh (fun (V:World) (hk:Keep Never w V)=>light17_any w.heap.size Al nl cl l V (hl.keep hk (fun _ h=>h.elim)))
  have HRd:=qh (fun (V:World) (hk:Keep Never w V) (hL:TpLight x t) (hp:nl≤30∧∀p∈l,p.2.length≤3000)=>plread_any x t w.heap.size ref rv Al nl cl l V (ht.keep hk) hL.small hk.size ((pks17 hl hp.2).keep hk) (Nat.le_trans hp.1 (by decide)) (hW.keep hk (fun h=>h)) hgv)
  have HRr:=qh (fun (V:World) (hk:Keep Never w V) (hL:TpLight x t) (hp:nl≤30∧∀p∈l,p.2.length≤3000)=>rread17_any x t w.heap.size ref rv Al nl cl l V (ht.keep hk) hL.small hk.size ((pks17 hl hp.2).keep hk) (Nat.le_trans hp.1 (by decide)))
  obtain⟨Ae,ne,ce,Aj,nj,cj,Ab,nb,cb,Aq,nq,cq⟩:=x
  simp only[TA.cs] at HLi HRd HRr ⊢
  clear ht hgv hW hl
  obtain⟨w1,hw1⟩:∃V:World,w.alloc (.cells #[.slice Ae ne ce,.slice Aj nj cj,.slice Ab nb cb,.slice Aq nq cq] 27)=V:=⟨_,rfl⟩
  have kw1:Keep Never w w1:=by rw[←hw1];exact(Keep.refl _ _).alloc _
  have bw1:=Blk.new w 27 #[.slice Ae ne ce,.slice Aj nj cj,.slice Ab nb cb,.slice Aq nq cq]
  rw[hw1] at bw1
  have HB1:=qh bw1
  have HK:=qh kw1
  clear kw1 bw1
  have HT2:=HB1
  have HK2:=HK
  have HC:=qh (HAw.out w1 HK.out)
  clear HB1 HK HAw
  go_enter Tryz.func4, Tryz.ntmps4
  go_wp2_with fail
  refine HC.out.mono ?_
  rintro en w3 ⟨rfl,hk⟩
  have HK3:=qtr HK2 hk
  have HT3:=qkb HT2 hk
  clear hk HC HT2 HK2 hw1
  have HC:=qh (HLi.out w3 HK3.out)
  obtain⟨y0,y1,y2,y3⟩:=bc4 HT3.out
  clear HLi
  go_wp2_with fail
  refine HC.out.mono ?_
  rintro en w4 ⟨lt,rfl,hlt,hk⟩
  have HK4:=qtr HK3 hk
  have HT4:=qkb HT3 hk
  have HLt:=qh hlt.out
  clear hk HC HT3 HK3 y0 y1 y2 y3 hlt
  have HC:=qh (HLg.out w4 HK4.out)
  clear HLg
  go_wp2_with fail
  refine HC.out.mono ?_
  rintro en w5 ⟨lg,rfl,hlg,hk⟩
  have HK5:=qtr HK4 hk
  have HT5:=qkb HT4 hk
  have HLg:=qh hlg.out
  clear hk HC HT4 HK4 hlg
  cases lt with
  | false=>
   go_wp2_with fail
   go_ret
   exact⟨rfl,HK5.out⟩
  | true=>
  cases lg with
  | false=>
   go_wp2_with fail
   go_ret
   exact⟨rfl,HK5.out⟩
  | true=>
  have HLi:=qh (HLt.out rfl)
  have HLp:=qh (HLg.out rfl)
  have HSm:=qh (read_small (bad:=badP) (t:=t) (ref:=ref) (rev:=rv) (l:=l))
  have hw:=HRd.out w5 HK5.out HLi.out HLp.out
  have HRb2:=qh (fun (V:World) (hk:Keep Never w V)=>HRr.out V hk HLi.out HLp.out)
  obtain⟨⟨m,er⟩,hm⟩:∃z,readM badP t ref rv l=z:=⟨_,rfl⟩
  rw[hm] at hw HSm
  have HRb3:Hid (∀V,Keep Never w V→Calls Tryz.prog 19 #[.agg #[.slice Ae ne ce,.slice Aj nj cj,.slice Ab nb cb,.slice Aq nq cq],.int .i64 ref,.bool rv,.slice Al nl cl] V (MaRet (m,er) V)):=qh (fun V hV=>by have h5:=HRb2.out V hV;rw[hm] at h5;exact h5)
  obtain⟨m1,m2,P,S,m5⟩:=m
  unfold MaRet at hw HRb3
  simp only[MX.vs] at hw HRb3 HSm
  have HC:=qh hw
  clear hw hm HRd HRr HRb2 HLt HLg
  obtain⟨y0,y1,y2,y3⟩:=bc4 HT5.out
  go_wp2_with fail
  refine HC.out.mono ?_
  rintro en w6 ⟨⟨Ap,np,cp,As,ns,cs⟩,rfl,hma,hk⟩
  have HK6:=qtr HK5 hk
  have HT6:=qkb HT5 hk
  have HA6:=qh hma
  clear hk HC HT5 HK5 hma y0 y1 y2 y3
  (try simp only)
  go_upto_region 7 with(fail)
  obtain⟨w7,hw7⟩:∃V:World,w6.alloc (.cells #[.int .i64 m1,.bool m2,.slice Ap np cp,.slice As ns cs,.int .i64 m5] 38)=V:=⟨_,rfl⟩
  have hk:Keep Never w6 w7:=by rw[←hw7];exact(Keep.refl _ _).alloc _
  have B7:=Blk.new w6 38 #[.int .i64 m1,.bool m2,.slice Ap np cp,.slice As ns cs,.int .i64 m5]
  rw[hw7] at B7
  obtain⟨ba,hba⟩:∃q,w6.heap.size=q:=⟨_,rfl⟩
  rw[hba] at B7
  rw[hw7,hba]
  have HK7:=qtr HK6 hk
  have HT7:=qkb HT6 hk
  have HX7:=qh B7
  have HA7:=qh ((HA6.out.keep hk).more hk.size)
  clear hk B7 hw7 hba HT6 HK6 HA6
  have HC:=qh (HRb3.out w7 HK7.out)
  obtain⟨y0,y1,y2,y3⟩:=bc4 HT7.out
  clear HRb3
  go_wp2_with fail
  refine HC.out.mono ?_
  rintro en w8 ⟨⟨Au,nu,cu,Av,nv,cv⟩,rfl,hma,hk⟩
  have HK8:=qtr HK7 hk
  have HX8:=qkb HX7 hk
  have HA8:=qh ((HA7.out.keep hk).more hk.size)
  have HE8:=qh hma
  clear hk HC HT7 HX7 HK7 HA7 hma y0 y1 y2 y3
  (try simp only)
  go_upto_region 8 with(fail)
  obtain⟨w9,hw9⟩:∃V:World,w8.alloc (.cells #[.int .i64 m1,.bool m2,.slice Au nu cu,.slice Av nv cv,.int .i64 m5] 38)=V:=⟨_,rfl⟩
  have hk:Keep Never w8 w9:=by rw[←hw9];exact(Keep.refl _ _).alloc _
  have B9:=Blk.new w8 38 #[.int .i64 m1,.bool m2,.slice Au nu cu,.slice Av nv cv,.int .i64 m5]
  rw[hw9] at B9
  obtain⟨be,hbe⟩:∃q,w8.heap.size=q:=⟨_,rfl⟩
  rw[hbe] at B9
  rw[hw9,hbe]
  have HK9:=qtr HK8 hk
  have HX9:=qkb HX8 hk
  have HY9:=qh B9
  have HA9:=qh ((HA8.out.keep hk).more hk.size)
  have HE9:=qh ((HE8.out.keep hk).more hk.size)
  clear hk B9 hw9 hbe HX8 HK8 HA8 HE8
  have hw:=same17_self ⟨Ap,np,cp,As,ns,cs⟩ ⟨Au,nu,cu,Av,nv,cv⟩ (m1,m2,P,S,m5) _ _ w9 HA9.out HE9.out (by have h1:=(stps_rd HA9.out.p).2.1;have h2:=HSm.out.1;simp only at h1 ⊢;omega) (by have h1:=HA9.out.s.len;have h2:=HSm.out.2;simp only at h1 ⊢;omega)
  simp only[MX.vs] at hw
  have HC:=qh hw
  obtain⟨a0,a1,a2,a3,a4⟩:=bc5 HX9.out
  obtain⟨e0,e1,e2,e3,e4⟩:=bc5 HY9.out
  have t1:(er==er)=true:=by simp
  clear hw
  go_wp2_with fail
  refine HC.out.mono ?_
  rintro en w10 ⟨rfl,hk⟩
  have HK10:=qtr HK9 hk
  clear hk HC a0 a1 a2 a3 a4 e0 e1 e2 e3 e4
  go_wp2_with fail
  go_ret
  exact⟨rfl,HK10.out⟩
end Go.Proofs.YtpapiojicbbheaaGreatDoor

namespace Go.Proofs.YtpapiojicbbheaaGreatDoor
open Go.RowKit Go.ChangeShapes Go.WideShapes Go.ChangeAt
theorem gTab:Tryz.prog.globalNamed "lineside/vars.widths" = some 0 := by kernel_rfl
theorem gTabType:(Tryz.prog.globals[0]?).map (·.type)=some 238 := by kernel_rfl
theorem cellsTab:Tryz.prog.cellsOf 238 = 96:=by kernel_rfl
theorem laid_gives {W:World} (h:laidMetH Tryz.prog [("lineside/vars.widths", Rows.laid_lineside_vars_widths)] W):Widths W:=by
 have hT:Lib.TabIs Tryz.prog W "lineside/vars.widths" .i64 wtab:=Lib.tabIs_of_head (rest:=[]) gTab gTabType Tryz.underlying238 Tryz.underlying3 cellsInt cellsTab h
 intro i hi
 have:=hT.cell gTab i (by show i<96;exact hi)
 rw[this]
noncomputable def laidWorld (os:Os):World:=
  { World.holding Tryz.prog os ⟨#[],#[],[]⟩ with heap:=(World.holding Tryz.prog os ⟨#[],#[],[]⟩).heap.modify 0 fun
      | .cells _ t frozen=>.cells (wtab.map (Value.int .i64)).toArray t frozen
      | o=>o }
end Go.Proofs.YtpapiojicbbheaaGreatDoor
