/- Texts of this claim, together: PmZ, PlnN, PmK. -/
import Derived.Test.YtpapiojicbbheaaGreatDoorTd06
import Derived.Test.YtpapiojicbbheaaGreatDoorTd10
import Derived.Test.YtpapiojicbbheaaGreatDoorTd11
import Derived.Deep.CutBlock
namespace Go.Proofs.YtpapiojicbbheaaGreatDoor
open Go.RowKit
theorem idx_at17:∀{l:List Stp}{s:Stp},s∈l→l[l.idxOf s]?=some s∧l.idxOf s<l.length∧∀j u,j<l.idxOf s→l[j]?=some u→u≠s
  | [],s,h=>by cases h
  | x::l,s,h=>by
   by_cases e:x=s
   ·subst e
    simp
   ·have h1:s∈l:=by
     rcases List.mem_cons.1 h with h | h
     ·exact absurd h.symm e
     ·exact h
    obtain⟨a,b,c⟩:=idx_at17 h1
    have h2:(x::l).idxOf s=l.idxOf s+1:=by
     rw[List.idxOf_cons]
     have:(x==s)=false:=by simpa using e
     simp[this]
    rw[h2]
    refine⟨by simpa using a,by simp;omega,fun j u hj hu=>?_⟩
    cases j with
    | zero=>simp at hu;rw[←hu];exact e
    | succ j=>simp at hu;exact c j u (by omega) hu
set_option maxHeartbeats 8000000 in
set_option maxRecDepth 100000 in
theorem rbuild17_any (x:TA) (t:Tp) (B:Nat) (Al:Option Addr) (nl cl:Nat) (l:List Lk) (train ref:Int) (rv:Bool) (n:Int) (w:World) (h:TpAt w B x t) (hs:TpSmall x t) (hB:B≤w.heap.size) (hl:SpAt w B Al nl cl l) (hnl:nl≤1000000) :
    Calls Tryz.prog 15 #[.agg x.cs,.slice Al nl cl,.int .i64 train,.int .i64 ref,.bool rv,.int .i64 n] w (MaRet (buildM t l train ref rv n) w):=by
  have HLo:=qh (fun (W:World) (hk:Keep Never w W)=>rlocate_any x t B ref rv n W (h.keep hk) hs (Nat.le_trans hB hk.size))
  have HCh:=qh (fun (W:World) (hk:Keep Never w W) (s1:Int) (s2:Bool)=>rchain17_any x t B Al nl cl l train (s1,s2) W (h.keep hk) hs (Nat.le_trans hB hk.size) (hl.keep hk) hnl)
  have HPl:=qh (fun (W:World) (hk:Keep Never w W)=>rplace17_any x t B ⟨none,0,0,none,0,0⟩ (ref,rv,[],[],0) W (h.keep hk) hs.b)
  have HRo:=qh (fun (W:World) (hk:Keep Never w W) (id:Int)=>rrt_old x t B id W (h.keep hk) hs.r (Nat.le_trans hB hk.size))
  have HGo:=qh (fun (W:World) (hk:Keep Never w W) (b1 b2 b3:Int) (hL:LocOk t ref rv n (b1,b2,b3))=>rgone_any x t B b2 b3 rv n W (h.keep hk) hs hL.chk hL.there hL.a0 hL.a1 hL.n0 hL.n1 hL.go)
  have HTw:=qh (fun (W:World) (A:Option Addr) (n c:Nat) (l:List Stp) (h:Rd W W.heap.size 2 A n (stpCells l)) (hn:n≤1000000)=>rtwice17_any A n c W.heap.size l W h hn)
  have HEd:=qh (fun (W:World) (hk:Keep Never w W) (e:Int) (hc:checkM t=0) (hth:thereB t.1.length e=true)=>(show ∃ad k v,x.Ae=some ad∧e=((k:Nat):Int)∧k<x.ne∧W.cell? (ad.add k)=some (.int .i64 v)∧edgeM t e=v∧0≤v∧v≤1000000 by
   obtain⟨d1,d2,d3⟩:=there_edge hc hth
   obtain⟨ad,k,v,e1,e2,e3,e4,e5⟩:=edge_at (h.keep hk) d1 (by have:=h.e.len;omega)
   exact⟨ad,k,v,e1,e2,e3,e4,e5,by omega,by omega⟩))
  have HBw:=qh hB
  obtain⟨Ae,ne,ce,Aj,nj,cj,Ab,nb,cb,Ar,nr,cr⟩:=x
  simp only[TA.cs,MX.vs] at HLo HCh HPl HRo HGo HEd ⊢
  clear h hs hl hB hnl
  obtain⟨w1,hw1⟩:∃V:World,w.alloc (.cells #[.slice Ae ne ce,.slice Aj nj cj,.slice Ab nb cb,.slice Ar nr cr] 27)=V:=⟨_,rfl⟩
  have zw1:w1.heap.size=w.heap.size+1:=by rw[←hw1];simp
  have kw1:Keep Never w w1:=by rw[←hw1];exact(Keep.refl _ _).alloc _
  have bw1:=Blk.new w 27 #[.slice Ae ne ce,.slice Aj nj cj,.slice Ab nb cb,.slice Ar nr cr]
  rw[hw1] at bw1
  obtain⟨w2,hw2⟩:∃V:World,w1.alloc (.cells #[.int .i64 0,.bool false,.slice none 0 0,.slice none 0 0,.int .i64 0] 38)=V:=⟨_,rfl⟩
  have kw2:Keep Never w1 w2:=by rw[←hw2];exact(Keep.refl _ _).alloc _
  have bw2:=Blk.new w1 38 #[.int .i64 0,.bool false,.slice none 0 0,.slice none 0 0,.int .i64 0]
  rw[hw2,zw1] at bw2
  have HB1:=qh (bw1.keep kw2 (fun h=>h))
  have HB2:=qh bw2
  have HK:=qh (kw1.trans kw2)
  clear kw1 kw2 bw1 bw2
  have HT2:=HB1
  have HR2:=HB2
  have HK2:=HK
  have hw:=HLo.out w2 HK.out
  obtain⟨lp,hlp⟩:∃z,locP t ref rv n=z:=⟨_,rfl⟩
  rw[hlp] at hw
  have HLp:=qh hlp
  obtain⟨⟨l1,l2,l3⟩,er⟩:=lp
  have HC:=qh hw
  clear hw hlp HLo HB1 HB2 HK
  obtain⟨y0,y1,y2,y3⟩:=bc4 HT2.out
  go_enter Tryz.func15, Tryz.ntmps15
  go_wp2_with fail
  refine HC.out.mono ?_
  rintro en w3 ⟨rfl,hk⟩
  have HK3:=qtr HK2 hk
  have HT3:=qkb HT2 hk
  have HR3:=qkb HR2 hk
  clear hk HC HT2 HR2 HK2 y0 y1 y2 y3 hw1 hw2 zw1
  simp only[psV]
  obtain⟨w4,hw4⟩:∃V:World,w3.alloc (.cells #[.int .i64 l1,.int .i64 l2,.bool l3] 71)=V:=⟨_,rfl⟩
  have hk:Keep Never w3 w4:=by rw[←hw4];exact(Keep.refl _ _).alloc _
  have B4:=Blk.new w3 71 #[.int .i64 l1,.int .i64 l2,.bool l3]
  rw[hw4] at B4
  obtain⟨bp,hbp⟩:∃q,w3.heap.size=q:=⟨_,rfl⟩
  rw[hbp] at B4
  have HK4:=qtr HK3 hk
  have HT4:=qkb HT3 hk
  have HR4:=qkb HR3 hk
  have HP4:=qh B4
  clear hk B4 HT3 HR3 HK3
  by_cases g0:er=0
  case neg=>
   have t0:(er != 0)=true:=by simpa using g0
   have HF:Hid (buildM t l train ref rv n=(noMa,er)):=qh (build_far HLp.out g0)
   clear g0
   have r0:w4.cell? ⟨w.heap.size+1,0,none⟩=some (.int .i64 0):=HR4.out.cell 0
   have rf0:=HR4.out.frozen 0
   have r1:w4.cell? ⟨w.heap.size+1,1,none⟩=some (.bool false):=HR4.out.cell 1
   have rf1:=HR4.out.frozen 1
   have r2:w4.cell? ⟨w.heap.size+1,2,none⟩=some (.slice none 0 0):=HR4.out.cell 2
   have rf2:=HR4.out.frozen 2
   have r3:w4.cell? ⟨w.heap.size+1,3,none⟩=some (.slice none 0 0):=HR4.out.cell 3
   have rf3:=HR4.out.frozen 3
   have r4:w4.cell? ⟨w.heap.size+1,4,none⟩=some (.int .i64 0):=HR4.out.cell 4
   have rf4:=HR4.out.frozen 4
   go_wp2_with fail
   (try simp only[Exit.inBlock,Exit.then])
   refine bodyPost_ret (ma_results2 (fn:=Tryz.f15) (r:=12) (s:=13) rfl (put5_blk HR4.out (.int .i64 0) (.bool false) (.slice none 0 0) (.slice none 0 0) (.int .i64 0)) _ rfl) rfl ?_
   rw[HF.out]
   exact⟨⟨none,0,0,none,0,0⟩,rfl,ma_nil,put5_own HK4.out (.inr (by omega)) _ _ _ _ _⟩
  have t0:(er != 0)=false:=by simpa using g0
  obtain⟨b,hL⟩:=loc_ok (show (locP t ref rv n).2=0 by rw[HLp.out];exact g0)
  obtain⟨b1,b2,b3⟩:=b
  have HL:=qh hL
  clear hL g0
  have p0:w4.cell? ⟨bp,0,none⟩=some (.int .i64 l1):=HP4.out.cell 0
  have p2:w4.cell? ⟨bp,2,none⟩=some (.bool l3):=HP4.out.cell 2
  go_upto_region 5 with(fail)
  obtain⟨w5,hw5⟩:∃V:World,w4.alloc (.cells #[.int .i64 l1,.bool l3] 30)=V:=⟨_,rfl⟩
  have hk:Keep Never w4 w5:=by rw[←hw5];exact(Keep.refl _ _).alloc _
  have B5:=Blk.new w4 30 #[.int .i64 l1,.bool l3]
  rw[hw5] at B5
  obtain⟨bs,hbs⟩:∃q,w4.heap.size=q:=⟨_,rfl⟩
  rw[hbs] at B5
  rw[hw5,hbs]
  have HBs:Hid (w.heap.size≤bs):=qh (by rw[←hbs];exact HK4.out.size)
  have HK5:=qtr HK4 hk
  have HT5:=qkb HT4 hk
  have HR5:=qkb HR4 hk
  have HS5:=qh B5
  clear hk B5 HT4 HR4 HK4 HP4 p0 p2 t0 hw5 hbs
  have hw:=HCh.out w5 HK5.out l1 l3
  obtain⟨c,hc⟩:∃z,chainM t l train (l1,l3)=z:=⟨_,rfl⟩
  rw[hc] at hw
  have HCe:=qh hc
  have HC:=qh hw
  clear hw hc HCh
  obtain⟨y0,y1,y2,y3⟩:=bc4 HT5.out
  obtain⟨s0,s1⟩:=bc2 HS5.out
  go_wp2_with fail
  refine HC.out.mono ?_
  rintro en w6 ⟨Ac,nc,cc,rfl,hnc,hoc,hk⟩
  have HK6:=qtr HK5 hk
  have HT6:=qkb HT5 hk
  have HR6:=qkb HR5 hk
  have HS6:=qkb HS5 hk
  have HOc6:=qh (hoc.less HK5.out.size)
  have HNc:Hid (nc=c.length):=hnc
  clear hk hoc hnc HC HT5 HR5 HS5 HK5 y0 y1 y2 y3 s0 s1
  by_cases g1:c=[]
  case pos=>
   obtain rfl:nc=0:=by rw[HNc.out,g1];rfl
   have HF:Hid (buildM t l train ref rv n=(noMa,4)):=qh (build_none HLp.out HL.out (by rw[HCe.out];exact g1))
   clear g1
   have r0:w6.cell? ⟨w.heap.size+1,0,none⟩=some (.int .i64 0):=HR6.out.cell 0
   have rf0:=HR6.out.frozen 0
   have r1:w6.cell? ⟨w.heap.size+1,1,none⟩=some (.bool false):=HR6.out.cell 1
   have rf1:=HR6.out.frozen 1
   have r2:w6.cell? ⟨w.heap.size+1,2,none⟩=some (.slice none 0 0):=HR6.out.cell 2
   have rf2:=HR6.out.frozen 2
   have r3:w6.cell? ⟨w.heap.size+1,3,none⟩=some (.slice none 0 0):=HR6.out.cell 3
   have rf3:=HR6.out.frozen 3
   have r4:w6.cell? ⟨w.heap.size+1,4,none⟩=some (.int .i64 0):=HR6.out.cell 4
   have rf4:=HR6.out.frozen 4
   go_wp2_with fail
   (try simp only[Exit.inBlock,Exit.then])
   refine bodyPost_ret (ma_results2 (fn:=Tryz.f15) (r:=12) (s:=13) rfl (put5_blk HR6.out (.int .i64 0) (.bool false) (.slice none 0 0) (.slice none 0 0) (.int .i64 0)) _ rfl) rfl ?_
   rw[HF.out]
   exact⟨⟨none,0,0,none,0,0⟩,rfl,ma_nil,put5_own HK6.out (.inr (by omega)) _ _ _ _ _⟩
  have hnc1:1≤nc:=by rw[HNc.out];cases c with | nil=>exact absurd rfl g1 | cons _ _=>simp
  have t1:((nc:Int)==0)=false:=by simp;omega
  have t1b:(nc==0)=false:=by simp;omega
  have hF:=build_go HLp.out HL.out (by rw[HCe.out];exact g1)
  rw[HCe.out] at hF
  have HCG:Hid (ChG t l train (l1,l3) c):=qh (by rw[←HCe.out];exact chg_of)
  have HF:=qh hF
  clear hF g1
  clear t1b
  go_upto_region 9 with(fail)
  obtain⟨w7,hw7⟩:∃V:World,w6.alloc (.cells #[.int .i64 ref,.bool rv,.slice none 0 0,.slice none 0 0,.int .i64 0] 38)=V:=⟨_,rfl⟩
  have hk:Keep Never w6 w7:=by rw[←hw7];exact(Keep.refl _ _).alloc _
  have B7:=Blk.new w6 38 #[.int .i64 ref,.bool rv,.slice none 0 0,.slice none 0 0,.int .i64 0]
  rw[hw7] at B7
  obtain⟨bm,hbm⟩:∃q,w6.heap.size=q:=⟨_,rfl⟩
  rw[hbm] at B7
  rw[hw7,hbm]
  have HBm:Hid (w.heap.size≤bm∧bm≠w.heap.size∧bm≠w.heap.size+1):=qh (by have h1:=HK6.out.size;have h2:=HR6.out.lt;omega)
  have HK7:=qtr HK6 hk
  have HT7:=qkb HT6 hk
  have HR7:=qkb HR6 hk
  have HS7:=qkb HS6 hk
  have HOc7:=qko HOc6 hk
  have HM7:=qh B7
  clear hk B7 HT6 HR6 HS6 HOc6 HK6 hw7 hbm t1
  have hw:=HPl.out w7 HK7.out
  (try simp only at hw)
  rw[HL.out.bal] at hw
  simp only[Option.getD,Option.isSome] at hw
  have HC:=qh hw
  clear hw HPl
  obtain⟨y0,y1,y2,y3⟩:=bc4 HT7.out
  obtain⟨m0,m1,m2,m3,m4⟩:=bc5 HM7.out
  go_wp2_with fail
  refine HC.out.mono ?_
  rintro en w8 ⟨rfl,hk⟩
  have HK8:=qtr HK7 hk
  have HT8:=qkb HT7 hk
  have HR8:=qkb HR7 hk
  have HS8:=qkb HS7 hk
  have HOc8:=qko HOc7 hk
  have HM8:=qkb HM7 hk
  clear hk HC HT7 HR7 HS7 HOc7 HM7 HK7 y0 y1 y2 y3 m0 m1 m2 m3 m4
  obtain⟨w9,hw9⟩:∃V:World,w8.alloc (.cells #[.int .i64 b2,.int .i64 b3,.bool rv] 71)=V:=⟨_,rfl⟩
  have hk:Keep Never w8 w9:=by rw[←hw9];exact(Keep.refl _ _).alloc _
  have B9:=Blk.new w8 71 #[.int .i64 b2,.int .i64 b3,.bool rv]
  rw[hw9] at B9
  obtain⟨bb,hbb⟩:∃q,w8.heap.size=q:=⟨_,rfl⟩
  rw[hbb] at B9
  have HK9:=qtr HK8 hk
  have HT9:=qkb HT8 hk
  have HR9:=qkb HR8 hk
  have HS9:=qkb HS8 hk
  have HOc9:=qko HOc8 hk
  have HM9:=qkb HM8 hk
  have HD9:=qh B9
  clear hk B9 HT8 HR8 HS8 HOc8 HM8 HK8
  have hw:=HGo.out w9 HK9.out b1 b2 b3 HL.out
  unfold strP at hw
  (try simp only at hw)
  obtain⟨g,hg⟩:∃z,goneM t 40 (b2,rv) (n+alongP t (b2,b3,rv))=z:=⟨_,rfl⟩
  rw[hg] at hw
  have HGg:Hid (g.length≤41∧∀u∈g,thereB t.1.length u.1=true):=qh (by rw[←hg];have:=gone_good HL.out.there HL.out.go;exact⟨this.few,this.in_⟩)
  have HC:=qh hw
  have HGe:=qh hg
  clear hw hg HGo
  obtain⟨y0,y1,y2,y3⟩:=bc4 HT9.out
  obtain⟨d0,d1,d2⟩:=bc3 HD9.out
  go_wp2_with fail
  refine HC.out.mono ?_
  rintro en w10 ⟨Ap,np,cp,rfl,hnp,hop,h64,hk⟩
  have HK10:=qtr HK9 hk
  have HT10:=qkb HT9 hk
  have HR10:=qkb HR9 hk
  have HS10:=qkb HS9 hk
  have HOc10:=qko HOc9 hk
  have HD10:=qkb HD9 hk
  have HM10:=qkb HM9 hk
  have HOp10:=qh (hop.less (show bs+1≤w9.heap.size from HS9.out.lt))
  have HNp:Hid (np=g.length):=hnp
  have H64:Hid (∀u∈g,in64 u):=h64
  have q2:w10.cell? ⟨bm,2,none⟩=some (.slice none 0 0):=HM10.out.cell 2
  have qf2:=HM10.out.frozen 2
  clear hk hop hnp h64 HC HT9 HR9 HS9 HOc9 HD9 HM9 HK9 y0 y1 y2 y3 d0 d1 d2 hw9 hbb
  go_upto_region 11 with(fail)
  obtain⟨w11,hw11⟩:∃V:World,w10.setCell ⟨bm,2,none⟩ (.slice Ap np cp)=V:=⟨_,rfl⟩
  rw[hw11]
  have hk:Keep (fun q=>q=bm) w10 w11:=by rw[←hw11];exact put1_keep _
  have HM11:Hid (Blk w11 bm 38 #[.int .i64 ref,.bool rv,.slice Ap np cp,.slice none 0 0,.int .i64 0]):=qh (by rw[←hw11];have:=HM10.out.set_ 2 (.slice Ap np cp);simpa using this)
  have HT11:=qh (HT10.out.keep hk (fun h=>HT10.out.ne_ HM10.out (by decide) h))
  have HR11:=qh (HR10.out.keep hk (fun h=>HBm.out.2.2 h.symm))
  have HS11:=qh (HS10.out.keep hk (fun h=>HS10.out.ne_ HM10.out (by decide) h))
  have HOc11:=qh (HOc10.out.keep hk (fun q h=>HOc10.out.ne_blk HM10.out (by decide) q h))
  have HD11:=qh (HD10.out.keep hk (fun h=>HD10.out.ne_ HM10.out (by decide) h))
  have HK11:=qh (HK10.out.then_ hk (fun i hi h=>by have:=HBm.out.1;omega))
  have HOp11:=qh (HOp10.out.keep hk (fun q h=>HOp10.out.ne_blk HM10.out (by decide) q h))
  clear hk HT10 HR10 HS10 HM10 HOc10 HD10 HOp10 HK10 hw11 q2 qf2
  obtain⟨back,hback⟩:∃z,alongP t (b2,b3,rv)=z:=⟨_,rfl⟩
  have hb01:=along_in (t:=t) (p:=(b2,b3,rv)) HL.out.a0 HL.out.a1
  have hbe:=there_edge HL.out.chk HL.out.there
  simp only at hb01 hbe
  rw[hback] at hb01
  have HBk:Hid (0≤back∧back≤1000000):=qh (by omega)
  rw[HGe.out,hback] at HF
  have HC0:Hid (checkM t=0):=qh HL.out.chk
  have HG41:Hid (np≤41):=qh (by have:=HGg.out.1;rw[HNp.out];omega)
  have HBb:=qh hback
  clear hback hb01 hbe HGe
  go_wp2_with fail
  go_loopw [21] (fun s21 wr=>∃(k:Nat) (Ap:Option Addr) (np cp:Nat) (As:Option Addr) (ns cs:Nat),k≤nc∧s21=.int .i64 k∧Hid (Own wr (bs+1) 30 2 Ap np cp (stpCells (wayC t (l1,l3) g c k))∧(∀u∈wayC t (l1,l3) g c k,in64 u)∧Own wr w.heap.size 58 2 As ns cs (scCells (secC t (l1,l3) g back c k))∧Blk wr w.heap.size 27 #[.slice Ae ne ce,.slice Aj nj cj,.slice Ab nb cb,.slice Ar nr cr]∧Blk wr (w.heap.size+1) 38 #[.int .i64 0,.bool false,.slice none 0 0,.slice none 0 0,.int .i64 0]∧Blk wr bs 30 #[.int .i64 l1,.bool l3]∧Blk wr bm 38 #[.int .i64 ref,.bool rv,.slice Ap np cp,.slice As ns cs,.int .i64 (gapC t c k)]∧Own wr w.heap.size 62 3 Ac nc cc (spCells c)∧Keep Never w wr∧np=(wayC t (l1,l3) g c k).length∧ns=k∧Blk wr bb 71 #[.int .i64 b2,.int .i64 b3,.bool rv])) (fun si _=>nc - (intOf si).toNat)
  case atStart=>exact⟨0,Ap,np,cp,none,0,0,by omega,rfl,qh ⟨HOp11.out,H64.out,Own.nil _ _ _ _,HT11.out,HR11.out,HS11.out,HM11.out,HOc11.out,HK11.out,HNp.out,rfl,HD11.out⟩⟩
  case round=>
   clear HOp11 HT11 HR11 HS11 HM11 HOc11 HK11 H64 HNp HD11
   rename World=>wz
   obtain⟨k,Ap,np,cp,As,ns,cs,hk,rfl,HH⟩:=hrel
   have HOpz:=qh HH.out.1
   have H6:Hid (∀u∈wayC t (l1,l3) g c k,in64 u):=qh HH.out.2.1
   have HOsz:=qh HH.out.2.2.1
   have HTz:=qh HH.out.2.2.2.1
   have HRz:=qh HH.out.2.2.2.2.1
   have HSz:=qh HH.out.2.2.2.2.2.1
   have HMz:=qh HH.out.2.2.2.2.2.2.1
   have HOcz:=qh HH.out.2.2.2.2.2.2.2.1
   have HKz:=qh HH.out.2.2.2.2.2.2.2.2.1
   have HNp:Hid (np=(wayC t (l1,l3) g c k).length):=qh HH.out.2.2.2.2.2.2.2.2.2.1
   have HDz:=qh HH.out.2.2.2.2.2.2.2.2.2.2.2
   obtain rfl:k=ns:=HH.out.2.2.2.2.2.2.2.2.2.2.1.symm
   clear HH
   have hkz:=HKz.out.size
   have hnc8:nc≤8:=by have:=HCG.out.few;have:=HNc.out;omega
   by_cases h0:k<nc
   case neg=>
    obtain rfl:k=nc:=by omega
    have hki:¬(k:Int)<(k:Int):=by omega
    obtain⟨m,rfl⟩:∃m,k=m+1:=⟨k - 1,by omega⟩
    rw[←HNc.out] at HF
    obtain⟨P,hP⟩:∃z,wayC t (l1,l3) g c (m+1)=z:=⟨_,rfl⟩
    obtain⟨S,hS⟩:∃z,secC t (l1,l3) g back c (m+1)=z:=⟨_,rfl⟩
    obtain⟨gp,hgp⟩:∃z,gapC t c (m+1)=z:=⟨_,rfl⟩
    have hcm:c[m]?=some (c[m]'(by have:=HNc.out;omega)):=List.getElem?_eq_getElem (by have:=HNc.out;omega)
    obtain⟨r0,hr0,_,_,_,_,_,hgl,hgu⟩:=HCG.out.rt m _ hcm
    have hgb:0≤gp∧gp≤40000000:=by
     rw[←hgp,gap_next hcm];unfold routeOf;rw[hr0];exact⟨hgl,hgu⟩
    have hSl:S.length=m+1:=by rw[←hS];exact sec_len _ (by have:=HNc.out;omega)
    obtain⟨hwl,hwt⟩:=way_good (s:=(l1,l3)) HCG.out HGg.out.1 HGg.out.2 (m+1) (by have:=HNc.out;omega)
    have hpb0:=plain_bnd HC0.out _ hwt
    have hSm:∃x2,S[m]?=some (plainS t.1 (wayC t (l1,l3) g c (m+1)) - back,x2):=by
     rw[←hS,sec_next hcm]
     rw[List.getElem?_append_right (by rw[sec_len m (by have:=HNc.out;omega)];exact Nat.le_refl _),sec_len m (by have:=HNc.out;omega)]
     exact⟨_,by simp;rfl⟩
    obtain⟨x2,hSm⟩:=hSm
    obtain⟨x1,hx1⟩:∃z,plainS t.1 (wayC t (l1,l3) g c (m+1)) - back=z:=⟨_,rfl⟩
    have hxb:-1000000≤x1∧x1≤200000000:=by have:=HBk.out;omega
    rw[hx1] at hSm
    rw[hP] at HOpz H6 HNp HF
    rw[hS] at HOsz HF
    rw[hgp] at HMz HF
    rw[less_set hSm hSl] at HF
    obtain⟨As0,rfl⟩:∃q,As=some q:=by
     cases As with
     | some q=>exact⟨q,rfl⟩
     | none=>
      rcases HOsz.out.form with⟨_,h9,_⟩ | ⟨_,_,h9,_⟩
      ·exact absurd h9 (by omega)
      ·cases h9
    obtain⟨sl,hs9,c0,c1⟩:=sc_cell HOsz.out.rd (show m<m+1 by omega)
    rw[hSm] at hs9
    injection hs9 with hs9
    subst hs9
    simp only at c0 c1 HF
    have HSm:=qh hSm
    have HSl:=qh hSl
    have HX:Hid (0≤n∧P.length≤105):=qh ⟨HL.out.n0,by rw[←hP];omega⟩
    clear hcm hr0 hgl hgu hSl hSm hwl hwt hpb0 hP hS hgp hx1
    have hw33:IntKind.i64.wrap (x1 - gp)=x1 - gp:=IntWalk.i64_in _ (by omega)
    have hw33b:wrap64 (x1 - gp)=x1 - gp:=by have:=hw33;rwa [IntWalk.i64_left] at this
    have hz0:(m:Int)<(m:Int)+1:=by omega
    have hz3:(0:Int)≤(m:Int)+1:=by omega
    have hz4:((m:Int)+1).toNat=m+1:=by omega
    have hz5:IntKind.i64.wrap ((m:Int)+1 - 1)=(m:Int):=by rw[show (m:Int)+1 - 1=m by omega];exact IntWalk.i64_in _ (by omega)
    have hz5b:wrap64 ((m:Int)+1 - 1)=(m:Int):=by have:=hz5;rwa [IntWalk.i64_left] at this
    have hz6:IntKind.i64.wrap (m:Int)=(m:Int):=IntWalk.i64_in _ (by omega)
    have m3:wz.cell? ⟨bm,3,none⟩=some (.slice (some As0) (m+1) cs):=HMz.out.cell 3
    have m4:wz.cell? ⟨bm,4,none⟩=some (.int .i64 gp):=HMz.out.cell 4
    have cf0:wz.frozen? (As0.add (m*2))=false:=HOsz.out.frozen rfl (m*2)
    go_upto_region 33 with(fail)
    go_still_tail 14,(by kernel_rfl)
    change wpList _ _ _ _ _ wz.drew
    go_upto_region 34 with(fail)
    (try rw[hw33])
    (try rw[hw33b])
    clear m3 m4 cf0 c0 c1
    obtain⟨w34,hw34⟩:∃V:World,(wz.setCell (As0.add (m*2)) (.int .i64 (x1 - gp))).drew=V:=⟨_,rfl⟩
    rw[hw34]
    have hk:Keep (InRow (some As0)) wz w34:=by rw[←hw34];exact((Keep.refl _ wz).set_ (.inl ⟨As0,rfl,by rw[block_add]⟩) _).drew
    have HOs34:Hid (Own w34 w.heap.size 58 2 (some As0) (m+1) cs (scCells (S.set m (x1 - gp,x2)))):=qh (by rw[←hw34,sc_set0 HSm.out (x1 - gp)];exact(HOsz.out.stored rfl (m*2) _).drew)
    have HT34:=qh (HTz.out.keep hk (fun h=>HOsz.out.ne_blk HTz.out (by decide) _ h rfl))
    have HR34:=qh (HRz.out.keep hk (fun h=>HOsz.out.ne_blk HRz.out (by decide) _ h rfl))
    have HM34:=qh (HMz.out.keep hk (fun h=>HOsz.out.ne_blk HMz.out (by decide) _ h rfl))
    have HK34:=qh (HKz.out.then_ hk (fun i hi h=>by have:=(HOsz.out.row h).1;have:=HBs.out;omega))
    have HOp34:=qh (HOpz.out.keep hk (fun q h=>HOpz.out.ne_own HOsz.out (by decide) q h))
    clear hk hw34 hw33 hw33b HTz HRz HSz HMz HOsz HOpz HKz HOcz
    obtain⟨S2,hS2⟩:∃z,S.set m (x1 - gp,x2)=z:=⟨_,rfl⟩
    have HE2:Hid (endS S2=x1 - gp):=qh (by rw[←hS2];exact end_set HSl.out _)
    have HL2:Hid (S2.length=m+1):=qh (by rw[←hS2,List.length_set];exact HSl.out)
    rw[hS2] at HOs34 HF
    obtain⟨y1,hy1⟩:∃z,x1 - gp=z:=⟨_,rfl⟩
    rw[hy1] at HE2
    clear hS2 hy1 HSm HSl
    have hnp:np≤105:=by have:=HX.out.2;rw[←HNp.out] at this;exact this
    have m2:w34.cell? ⟨bm,2,none⟩=some (.slice Ap np cp):=HM34.out.cell 2
    have hw:=HTw.out w34 Ap np cp P HOp34.out.rd (by omega)
    obtain⟨tb,htb⟩:∃z,twiceB P=z:=⟨_,rfl⟩
    rw[htb] at hw
    have HTb:=qh htb
    have HC:=qh hw
    clear hw htb
    go_wp2_with fail
    refine HC.out.mono ?_
    rintro en w35 ⟨rfl,hk⟩
    have HK35:=qtr HK34 hk
    have HT35:=qkb HT34 hk
    have HR35:=qkb HR34 hk
    have HM35:=qkb HM34 hk
    have HOs35:=qko HOs34 hk
    have HOp35:=qko HOp34 hk
    clear hk HC m2 HT34 HR34 HM34 HOs34 HOp34 HK34
    have m2:w35.cell? ⟨bm,2,none⟩=some (.slice Ap np cp):=HM35.out.cell 2
    by_cases g1:24<np
    case pos=>
     have t3:decide ((np:Int)>24)=true:=by simp;omega
     have t3b:decide (24<np)=true:=by simpa using g1
     have HG:Hid (buildM t l train ref rv n=(noMa,2)):=qh (by rw[HF.out,endC_long (.inl (by rw[←HNp.out];exact g1))])
     clear g1
     have r0:w35.cell? ⟨w.heap.size+1,0,none⟩=some (.int .i64 0):=HR35.out.cell 0
     have rf0:=HR35.out.frozen 0
     have r1:w35.cell? ⟨w.heap.size+1,1,none⟩=some (.bool false):=HR35.out.cell 1
     have rf1:=HR35.out.frozen 1
     have r2:w35.cell? ⟨w.heap.size+1,2,none⟩=some (.slice none 0 0):=HR35.out.cell 2
     have rf2:=HR35.out.frozen 2
     have r3:w35.cell? ⟨w.heap.size+1,3,none⟩=some (.slice none 0 0):=HR35.out.cell 3
     have rf3:=HR35.out.frozen 3
     have r4:w35.cell? ⟨w.heap.size+1,4,none⟩=some (.int .i64 0):=HR35.out.cell 4
     have rf4:=HR35.out.frozen 4
     go_wp2_with fail
     (try simp only[Exit.inBlock,Exit.then])
     refine bodyPost_ret (ma_results2 (fn:=Tryz.f15) (r:=12) (s:=13) rfl (put5_blk HR35.out (.int .i64 0) (.bool false) (.slice none 0 0) (.slice none 0 0) (.int .i64 0)) _ rfl) rfl ?_
     rw[HG.out]
     exact⟨⟨none,0,0,none,0,0⟩,rfl,ma_nil,put5_own HK35.out (.inr (by omega)) _ _ _ _ _⟩
    have t3:decide ((np:Int)>24)=false:=by simp;omega
    have t3b:decide (24<np)=false:=by simpa using g1
    have HP24:Hid (¬24<P.length):=qh (by rw[←HNp.out];exact g1)
    clear g1
    cases tb with
    | true=>
     have HG:Hid (buildM t l train ref rv n=(noMa,2)):=qh (by rw[HF.out,endC_long (.inr HTb.out)])
     have r0:w35.cell? ⟨w.heap.size+1,0,none⟩=some (.int .i64 0):=HR35.out.cell 0
     have rf0:=HR35.out.frozen 0
     have r1:w35.cell? ⟨w.heap.size+1,1,none⟩=some (.bool false):=HR35.out.cell 1
     have rf1:=HR35.out.frozen 1
     have r2:w35.cell? ⟨w.heap.size+1,2,none⟩=some (.slice none 0 0):=HR35.out.cell 2
     have rf2:=HR35.out.frozen 2
     have r3:w35.cell? ⟨w.heap.size+1,3,none⟩=some (.slice none 0 0):=HR35.out.cell 3
     have rf3:=HR35.out.frozen 3
     have r4:w35.cell? ⟨w.heap.size+1,4,none⟩=some (.int .i64 0):=HR35.out.cell 4
     have rf4:=HR35.out.frozen 4
     go_wp2_with fail
     (try simp only[Exit.inBlock,Exit.then])
     refine bodyPost_ret (ma_results2 (fn:=Tryz.f15) (r:=12) (s:=13) rfl (put5_blk HR35.out (.int .i64 0) (.bool false) (.slice none 0 0) (.slice none 0 0) (.int .i64 0)) _ rfl) rfl ?_
     rw[HG.out]
     exact⟨⟨none,0,0,none,0,0⟩,rfl,ma_nil,put5_own HK35.out (.inr (by omega)) _ _ _ _ _⟩
    | false=>
    obtain⟨sl,hs9,c0,c1⟩:=sc_cell HOs35.out.rd (show m<m+1 by omega)
    have hsl:sl.1=y1:=by
     rw[←HE2.out];unfold endS;rw[last_at HL2.out,hs9];rfl
    rw[hsl] at c0
    have m3:w35.cell? ⟨bm,3,none⟩=some (.slice (some As0) (m+1) cs):=HM35.out.cell 3
    by_cases g2:y1≤n
    case pos=>
     have t4:decide (y1≤n)=true:=by simpa using g2
     have HG:Hid (buildM t l train ref rv n=(noMa,141)):=qh (by rw[HF.out,endC_end HP24.out HTb.out (.inl (by rw[HE2.out];exact g2))])
     clear g2
     go_wp2_with fail
     go_quiet (fail)
     obtain⟨w36,hw36⟩:∃V:World,w35.drewN nq=V:=⟨_,rfl⟩
     rw[hw36]
     have hk:Keep Never w35 w36:=by rw[←hw36];exact(Keep.refl Never _).drewN _
     have HKq:=qh hk
     have HK36:=qtr HK35 hk
     have HT36:=qkb HT35 hk
     have HR36:=qkb HR35 hk
     have HM36:=qkb HM35 hk
     have HOs36:=qko HOs35 hk
     have HOp36:=qko HOp35 hk
     clear hk hw36 m3 c0 c1 t4 HT35 HR35 HM35 HOs35 HOp35 HK35
     have r0:w36.cell? ⟨w.heap.size+1,0,none⟩=some (.int .i64 0):=HR36.out.cell 0
     have rf0:=HR36.out.frozen 0
     have r1:w36.cell? ⟨w.heap.size+1,1,none⟩=some (.bool false):=HR36.out.cell 1
     have rf1:=HR36.out.frozen 1
     have r2:w36.cell? ⟨w.heap.size+1,2,none⟩=some (.slice none 0 0):=HR36.out.cell 2
     have rf2:=HR36.out.frozen 2
     have r3:w36.cell? ⟨w.heap.size+1,3,none⟩=some (.slice none 0 0):=HR36.out.cell 3
     have rf3:=HR36.out.frozen 3
     have r4:w36.cell? ⟨w.heap.size+1,4,none⟩=some (.int .i64 0):=HR36.out.cell 4
     have rf4:=HR36.out.frozen 4
     go_wp2_with fail
     (try simp only[Exit.inBlock,Exit.then])
     refine bodyPost_ret (ma_results2 (fn:=Tryz.f15) (r:=12) (s:=13) rfl (put5_blk HR36.out (.int .i64 0) (.bool false) (.slice none 0 0) (.slice none 0 0) (.int .i64 0)) _ rfl) rfl ?_
     rw[HG.out]
     exact⟨⟨none,0,0,none,0,0⟩,rfl,ma_nil,put5_own HK36.out (.inr (by omega)) _ _ _ _ _⟩
    have t4:decide (y1≤n)=false:=by simpa using g2
    have HY:Hid (¬y1≤n):=qh g2
    obtain⟨s0,hs0,d0,d1⟩:=sc_cell HOs35.out.rd (show 0<m+1 by omega)
    have ea:As0.add (0*2)=As0:=by rw[Nat.zero_mul];unfold Addr.add;split <;> simp_all
    rw[ea] at d0 d1
    clear g2 hsl hs9 ea
    by_cases g3:m=0
    ·have t5:decide ((m:Int)>0)=false:=by simp;omega
     have t5b:decide (0<m)=false:=by simp;omega
     have hs01:s0.1=y1:=by
      rw[←HE2.out];unfold endS;rw[last_at HL2.out,g3,hs0];rfl
     have hne:s0.1≠0:=by have:=HY.out;have:=HX.out.1;omega
     have t6:(s0.1==0)=false:=by simpa using hne
     have HG:Hid (buildM t l train ref rv n=((ref,rv,P,S2,gp),0)):=qh (by
      rw[HF.out,endC_ok HP24.out HTb.out (by rintro(h | h);exact HY.out (by rw[HE2.out] at h;exact h);have:=HL2.out;omega) hs0,if_neg hne])
     clear g3 hs01 hne hs0
     go_wp2_with fail
     go_quiet (fail)
     obtain⟨w36,hw36⟩:∃V:World,w35.drewN nq=V:=⟨_,rfl⟩
     rw[hw36]
     have hk:Keep Never w35 w36:=by rw[←hw36];exact(Keep.refl Never _).drewN _
     have HKq:=qh hk
     have HK36:=qtr HK35 hk
     have HT36:=qkb HT35 hk
     have HR36:=qkb HR35 hk
     have HM36:=qkb HM35 hk
     have HOs36:=qko HOs35 hk
     have HOp36:=qko HOp35 hk
     have d0:w36.cell? As0=some (.int .i64 s0.1):=keepT hk d0
     clear hk hw36 m3 c0 c1 d1 t4 t5 t5b HT35 HR35 HM35 HOs35 HOp35 HK35
     have m3:w36.cell? ⟨bm,3,none⟩=some (.slice (some As0) (m+1) cs):=HM36.out.cell 3
     go_upto_region 41 with(fail)
     clear m3 d0
     obtain⟨m0,m1,m2,m3,m4⟩:=bc5 HM36.out
     have r0:w36.cell? ⟨w.heap.size+1,0,none⟩=some (.int .i64 0):=HR36.out.cell 0
     have rf0:=HR36.out.frozen 0
     have r1:w36.cell? ⟨w.heap.size+1,1,none⟩=some (.bool false):=HR36.out.cell 1
     have rf1:=HR36.out.frozen 1
     have r2:w36.cell? ⟨w.heap.size+1,2,none⟩=some (.slice none 0 0):=HR36.out.cell 2
     have rf2:=HR36.out.frozen 2
     have r3:w36.cell? ⟨w.heap.size+1,3,none⟩=some (.slice none 0 0):=HR36.out.cell 3
     have rf3:=HR36.out.frozen 3
     have r4:w36.cell? ⟨w.heap.size+1,4,none⟩=some (.int .i64 0):=HR36.out.cell 4
     have rf4:=HR36.out.frozen 4
     go_wp2_with fail
     (try simp only[Exit.inBlock,Exit.then])
     refine bodyPost_ret (ma_results2 (fn:=Tryz.f15) (r:=12) (s:=13) rfl (put5_blk HR36.out (.int .i64 ref) (.bool rv) (.slice Ap np cp) (.slice (some As0) (m+1) cs) (.int .i64 gp)) _ rfl) rfl ?_
     have hkz:=put5_own (Keep.refl (fun q=>q=w.heap.size+1) w36) (b:=w.heap.size+1) (.inl rfl) (.int .i64 ref) (.bool rv) (.slice Ap np cp) (.slice (some As0) (m+1) cs) (.int .i64 gp)
     rw[HG.out]
     exact⟨⟨Ap,np,cp,(some As0),(m+1),cs⟩,rfl,⟨stps_own (HOp36.out.keep hkz (HOp36.out.ne_blk HR36.out (by decide))) H6.out,scAt_own (HOs36.out.keep hkz (HOs36.out.ne_blk HR36.out (by decide)))⟩,put5_own HK36.out (.inr (by omega)) _ _ _ _ _⟩
    ·obtain⟨m1,hm1⟩:∃m1,m=m1+1:=⟨m - 1,by omega⟩
     have t5:decide ((m:Int)>0)=true:=by simp;omega
     have t5b:decide (0<m)=true:=by simp;omega
     obtain⟨sp,hsp,e0,e1⟩:=sc_cell HOs35.out.rd (show m1<m+1 by omega)
     have hmw:IntKind.i64.wrap ((m:Int) - 1)=(m1:Int):=by rw[show (m:Int) - 1=m1 by omega];exact IntWalk.i64_in _ (by omega)
     have hmw2:wrap64 ((m:Int) - 1)=(m1:Int):=by have:=hmw;rwa [IntWalk.i64_left] at this
     have hm1i:(m1:Int)<(m:Int)+1:=by omega
     have HI:Hid (endS S2.dropLast=sp.1):=qh (end_init (m:=m1) (by rw[HL2.out,hm1]) hsp)
     have HM1:Hid (m=m1+1):=qh hm1
     clear g3 hm1 hsp
     by_cases g4:y1≤sp.1
     case pos=>
      have t6:decide (y1≤sp.1)=true:=by simpa using g4
      have HG:Hid (buildM t l train ref rv n=(noMa,141)):=qh (by rw[HF.out,endC_end HP24.out HTb.out (.inr ⟨by rw[HL2.out,HM1.out];omega,by rw[HE2.out,HI.out];exact g4⟩)])
      clear g4
      go_wp2_with fail
      go_quiet (fail)
      obtain⟨w36,hw36⟩:∃V:World,w35.drewN nq=V:=⟨_,rfl⟩
      rw[hw36]
      have hk:Keep Never w35 w36:=by rw[←hw36];exact(Keep.refl Never _).drewN _
      have HKq:=qh hk
      have HK36:=qtr HK35 hk
      have HT36:=qkb HT35 hk
      have HR36:=qkb HR35 hk
      have HM36:=qkb HM35 hk
      have HOs36:=qko HOs35 hk
      have HOp36:=qko HOp35 hk
      have d0:w36.cell? As0=some (.int .i64 s0.1):=keepT hk d0
      clear hk hw36 m3 c0 c1 d1 t4 t5 t5b HT35 HR35 HM35 HOs35 HOp35 HK35
      have r0:w36.cell? ⟨w.heap.size+1,0,none⟩=some (.int .i64 0):=HR36.out.cell 0
      have rf0:=HR36.out.frozen 0
      have r1:w36.cell? ⟨w.heap.size+1,1,none⟩=some (.bool false):=HR36.out.cell 1
      have rf1:=HR36.out.frozen 1
      have r2:w36.cell? ⟨w.heap.size+1,2,none⟩=some (.slice none 0 0):=HR36.out.cell 2
      have rf2:=HR36.out.frozen 2
      have r3:w36.cell? ⟨w.heap.size+1,3,none⟩=some (.slice none 0 0):=HR36.out.cell 3
      have rf3:=HR36.out.frozen 3
      have r4:w36.cell? ⟨w.heap.size+1,4,none⟩=some (.int .i64 0):=HR36.out.cell 4
      have rf4:=HR36.out.frozen 4
      go_wp2_with fail
      (try simp only[Exit.inBlock,Exit.then])
      refine bodyPost_ret (ma_results2 (fn:=Tryz.f15) (r:=12) (s:=13) rfl (put5_blk HR36.out (.int .i64 0) (.bool false) (.slice none 0 0) (.slice none 0 0) (.int .i64 0)) _ rfl) rfl ?_
      rw[HG.out]
      exact⟨⟨none,0,0,none,0,0⟩,rfl,ma_nil,put5_own HK36.out (.inr (by omega)) _ _ _ _ _⟩
     have t6:decide (y1≤sp.1)=false:=by simpa using g4
     have HN4:Hid (¬y1≤sp.1):=qh g4
     clear g4
     by_cases g5:s0.1=0
     case neg=>
      have t7:(s0.1==0)=false:=by simpa using g5
      have HG:Hid (buildM t l train ref rv n=((ref,rv,P,S2,gp),0)):=qh (by
       rw[HF.out,endC_ok HP24.out HTb.out (by rintro(h | h);exact HY.out (by rw[HE2.out] at h;exact h);exact HN4.out (by rw[HE2.out,HI.out] at h;exact h.2)) hs0,if_neg g5])
      clear g5 hs0
      go_wp2_with fail
      go_quiet (fail)
      obtain⟨w36,hw36⟩:∃V:World,w35.drewN nq=V:=⟨_,rfl⟩
      rw[hw36]
      have hk:Keep Never w35 w36:=by rw[←hw36];exact(Keep.refl Never _).drewN _
      have HKq:=qh hk
      have HK36:=qtr HK35 hk
      have HT36:=qkb HT35 hk
      have HR36:=qkb HR35 hk
      have HM36:=qkb HM35 hk
      have HOs36:=qko HOs35 hk
      have HOp36:=qko HOp35 hk
      have d0:w36.cell? As0=some (.int .i64 s0.1):=keepT hk d0
      clear hk hw36 m3 c0 c1 d1 t4 t5 t5b HT35 HR35 HM35 HOs35 HOp35 HK35
      have m3:w36.cell? ⟨bm,3,none⟩=some (.slice (some As0) (m+1) cs):=HM36.out.cell 3
      go_upto_region 41 with(fail)
      clear m3 d0
      obtain⟨m0,m1,m2,m3,m4⟩:=bc5 HM36.out
      have r0:w36.cell? ⟨w.heap.size+1,0,none⟩=some (.int .i64 0):=HR36.out.cell 0
      have rf0:=HR36.out.frozen 0
      have r1:w36.cell? ⟨w.heap.size+1,1,none⟩=some (.bool false):=HR36.out.cell 1
      have rf1:=HR36.out.frozen 1
      have r2:w36.cell? ⟨w.heap.size+1,2,none⟩=some (.slice none 0 0):=HR36.out.cell 2
      have rf2:=HR36.out.frozen 2
      have r3:w36.cell? ⟨w.heap.size+1,3,none⟩=some (.slice none 0 0):=HR36.out.cell 3
      have rf3:=HR36.out.frozen 3
      have r4:w36.cell? ⟨w.heap.size+1,4,none⟩=some (.int .i64 0):=HR36.out.cell 4
      have rf4:=HR36.out.frozen 4
      go_wp2_with fail
      (try simp only[Exit.inBlock,Exit.then])
      refine bodyPost_ret (ma_results2 (fn:=Tryz.f15) (r:=12) (s:=13) rfl (put5_blk HR36.out (.int .i64 ref) (.bool rv) (.slice Ap np cp) (.slice (some As0) (m+1) cs) (.int .i64 gp)) _ rfl) rfl ?_
      have hkz:=put5_own (Keep.refl (fun q=>q=w.heap.size+1) w36) (b:=w.heap.size+1) (.inl rfl) (.int .i64 ref) (.bool rv) (.slice Ap np cp) (.slice (some As0) (m+1) cs) (.int .i64 gp)
      rw[HG.out]
      exact⟨⟨Ap,np,cp,(some As0),(m+1),cs⟩,rfl,⟨stps_own (HOp36.out.keep hkz (HOp36.out.ne_blk HR36.out (by decide))) H6.out,scAt_own (HOs36.out.keep hkz (HOs36.out.ne_blk HR36.out (by decide)))⟩,put5_own HK36.out (.inr (by omega)) _ _ _ _ _⟩
     have t7:(s0.1==0)=true:=by simpa using g5
     have HG:Hid (buildM t l train ref rv n=((ref,rv,P,S2.drop 1,gp),0)):=qh (by
      rw[HF.out,endC_ok HP24.out HTb.out (by rintro(h | h);exact HY.out (by rw[HE2.out] at h;exact h);exact HN4.out (by rw[HE2.out,HI.out] at h;exact h.2)) hs0,if_pos g5])
     have hm2:1≤m:=by have:=HM1.out;omega
     have hm3:m+1 - 1=m:=by omega
     clear g5 hs0
     go_wp2_with fail
     go_quiet (fail)
     obtain⟨w36,hw36⟩:∃V:World,w35.drewN nq=V:=⟨_,rfl⟩
     rw[hw36]
     have hk:Keep Never w35 w36:=by rw[←hw36];exact(Keep.refl Never _).drewN _
     have HKq:=qh hk
     have HK36:=qtr HK35 hk
     have HT36:=qkb HT35 hk
     have HR36:=qkb HR35 hk
     have HM36:=qkb HM35 hk
     have HOs36:=qko HOs35 hk
     have HOp36:=qko HOp35 hk
     have d0:w36.cell? As0=some (.int .i64 s0.1):=keepT hk d0
     clear hk hw36 m3 c0 c1 d1 t4 t5 t5b HT35 HR35 HM35 HOs35 HOp35 HK35
     have m3:w36.cell? ⟨bm,3,none⟩=some (.slice (some As0) (m+1) cs):=HM36.out.cell 3
     have hcs:=HOs36.out.cap_le
     have hz36:w.heap.size≤w36.heap.size:=HK36.out.size
     have hmc:m≤8:=by have h1:=HCG.out.few;have h2:=HNc.out;omega
     go_upto_region 41 with(first| (refine wpList_from rfl (.tmp 233) (.const (.int .i64 1)) _ rfl Tryz.underlying36 Tryz.sizeOf58 (some As0) (m+1) cs 1 (by go_simp) 1 (by go_simp) rfl (by omega) ?_;intro A9 c9 HS9;have HR9:Hid (Rd w36 w36.heap.size 2 A9 m (scCells (S2.drop 1))):=qh (by have hr:=HS9.out.1 w36 _ _ hcs HOs36.out.rd;rw[hm3,←scCells_drop] at hr;exact hr);(try rw[hm3])) | (at_builtin;refine wpList_app _ rfl (.const (.slice none 0 0)) (.tmp 234) _ rfl elemSc w.heap.size (A:=none) (n:=0) (c:=0) (by go_simp) (Own.nil _ _ _ _) _ (A':=A9) (m:=m) (c':=c9) (by go_simp) HR9.out (scCells_one _) (by omega) (by unfold maxLen;omega) hz36 ?_;intro A10 c10 w37 hown hkr hrow;have hkn:Keep Never w36 w37:=hkr.mono (fun _ _ h=>by obtain⟨_,h,_⟩:=h;cases h);have HO37:Hid (Own w37 w.heap.size 58 2 A10 m c10 (scCells (S2.drop 1))):=qh (by simpa using hown);have HKn:=qh hkn;have q3:w37.cell? ⟨bm,3,none⟩=some (.slice (some As0) (m+1) cs):=keepT hkn m3;have qf3:w37.frozen? ⟨bm,3,none⟩=false:=(HM36.out.keep hkn (fun h=>h)).frozen 3;clear hown hkr hrow hkn))
     have hk:=HKn.out
     have HK37:=qtr HK36 hk
     have HT37:=qkb HT36 hk
     have HR37:=qkb HR36 hk
     have HM37:=qkb HM36 hk
     have HOp37:=qko HOp36 hk
     clear hk HKn m3 d0 t7 hcs hz36 hmc
     obtain⟨w38,hw38⟩:∃V:World,w37.setCell ⟨bm,3,none⟩ (.slice A10 m c10)=V:=⟨_,rfl⟩
     rw[hw38]
     have hk:Keep (fun q=>q=bm) w37 w38:=by rw[←hw38];exact put1_keep _
     have HM38:Hid (Blk w38 bm 38 #[.int .i64 ref,.bool rv,.slice Ap np cp,.slice A10 m c10,.int .i64 gp]):=qh (by rw[←hw38];have:=HM37.out.set_ 3 (.slice A10 m c10);simpa using this)
     have HT38:=qh (HT37.out.keep hk (fun h=>HT37.out.ne_ HM37.out (by decide) h))
     have HR38:=qh (HR37.out.keep hk (fun h=>HBm.out.2.2 h.symm))
     have HOp38:=qh (HOp37.out.keep hk (fun q h=>HOp37.out.ne_blk HM37.out (by decide) q h))
     have HK38:=qh (HK37.out.then_ hk (fun i hi h=>by have:=HBm.out.1;omega))
     have HO38:=qh (HO37.out.keep hk (fun q h=>HO37.out.ne_blk HM37.out (by decide) q h))
     clear hk hw38 q3 qf3 HO37
     obtain⟨m0,m1,m2,m3,m4⟩:=bc5 HM38.out
     have r0:w38.cell? ⟨w.heap.size+1,0,none⟩=some (.int .i64 0):=HR38.out.cell 0
     have rf0:=HR38.out.frozen 0
     have r1:w38.cell? ⟨w.heap.size+1,1,none⟩=some (.bool false):=HR38.out.cell 1
     have rf1:=HR38.out.frozen 1
     have r2:w38.cell? ⟨w.heap.size+1,2,none⟩=some (.slice none 0 0):=HR38.out.cell 2
     have rf2:=HR38.out.frozen 2
     have r3:w38.cell? ⟨w.heap.size+1,3,none⟩=some (.slice none 0 0):=HR38.out.cell 3
     have rf3:=HR38.out.frozen 3
     have r4:w38.cell? ⟨w.heap.size+1,4,none⟩=some (.int .i64 0):=HR38.out.cell 4
     have rf4:=HR38.out.frozen 4
     go_wp2_with fail
     (try simp only[Exit.inBlock,Exit.then])
     refine bodyPost_ret (ma_results2 (fn:=Tryz.f15) (r:=12) (s:=13) rfl (put5_blk HR38.out (.int .i64 ref) (.bool rv) (.slice Ap np cp) (.slice A10 m c10) (.int .i64 gp)) _ rfl) rfl ?_
     have hkz:=put5_own (Keep.refl (fun q=>q=w.heap.size+1) w38) (b:=w.heap.size+1) (.inl rfl) (.int .i64 ref) (.bool rv) (.slice Ap np cp) (.slice A10 m c10) (.int .i64 gp)
     rw[HG.out]
     exact⟨⟨Ap,np,cp,A10,m,c10⟩,rfl,⟨stps_own (HOp38.out.keep hkz (HOp38.out.ne_blk HR38.out (by decide))) H6.out,scAt_own (HO38.out.keep hkz (HO38.out.ne_blk HR38.out (by decide)))⟩,put5_own HK38.out (.inr (by omega)) _ _ _ _ _⟩
   have hki:(k:Int)<(nc:Int):=by omega
   obtain⟨ad,kl,hA,_,hs,c0,c1,c2⟩:=HOcz.out.rd.sp h0
   subst hA
   have HKl:=qh hs
   obtain⟨r0,hr0,_,hne,h8,hth,hin,hgl,hgu⟩:=HCG.out.rt k kl hs
   have hro:routeOf t kl=r0:=by unfold routeOf;rw[hr0];rfl
   obtain⟨q1,q2,q3⟩:=kl
   obtain⟨ri,rp,rg,rtm⟩:=r0
   simp only at c0 c1 c2 hr0 h8 hth hin hne
   have HRo0:Hid (routeOf t (q1,q2,q3)=(ri,rp,rg,rtm)):=qh hro
   have HIn:Hid (k=0→(l1,l3)∈rp):=qh hin
   have HRth:Hid (∀u∈rp,thereB t.1.length u.1=true):=qh hth
   obtain⟨hwl,hwt⟩:=way_good (s:=(l1,l3)) HCG.out HGg.out.1 HGg.out.2 (k+1) (by have:=HNc.out;omega)
   have HWt:Hid ((wayC t (l1,l3) g c (k+1)).length≤105∧∀u∈wayC t (l1,l3) g c (k+1),thereB t.1.length u.1=true):=qh ⟨by omega,hwt⟩
   have HRr:Hid (∀V,Keep Never wz V→Calls Tryz.prog 50 #[.agg #[.slice Ae ne ce,.slice Aj nj cj,.slice Ab nb cb,.slice Ar nr cr],.int .i64 q1] V (RtRetB B (some (ri,rp,rg,rtm)) V)):=qh (fun V hV=>by have:=HRo.out V (HKz.out.trans hV) q1;rw[hr0] at this;exact this)
   unfold RtRetB at HRr
   simp only[Option.getD,Option.isSome] at HRr
   have HP8:Hid (rp.length≤8∧rp≠[]):=qh ⟨h8,hne⟩
   have HBr:Hid (B≤wz.heap.size):=qh (Nat.le_trans HBw.out hkz)
   obtain⟨y0,y1,y2,y3⟩:=bc4 HTz.out
   have HS2:Hid (∀W',Keep Never wz W'→Keep Never wz W'∧W'.cell? ⟨w.heap.size,0,none⟩=some (.slice Ae ne ce)∧W'.cell? ⟨w.heap.size,1,none⟩=some (.slice Aj nj cj)∧W'.cell? ⟨w.heap.size,2,none⟩=some (.slice Ab nb cb)∧W'.cell? ⟨w.heap.size,3,none⟩=some (.slice Ar nr cr)∧W'.cell? (ad.add (k*3))=some (.int .i64 q1)):=qh (fun W' h=>⟨h,keepT h y0,keepT h y1,keepT h y2,keepT h y3,keepT h c0⟩)
   clear hro hin hth hwl hwt hs hne hgl hgu h8 hr0 c1 c2 hkz
   go_upto_region 14 with(fail)
   go_cut [22,23] (fun s22 s23 wx=>∃(bo:Nat) (Av:Option Addr) (nv cv:Nat),s22=.pointer (some ⟨bo,0,none⟩)∧s23=.bool true∧Hid (Keep Never wz wx∧Blk wx bo 64 #[.int .i64 ri,.slice Av nv cv,.int .i64 rg,.int .i64 rtm]∧repStp.Sl wx B Av nv cv rp))
   case first=>
    clear y0 y1 y2 y3 c0
    go_region_held3 (fun W'=>Keep Never wz W'∧W'.cell? ⟨w.heap.size,0,none⟩=some (.slice Ae ne ce)∧W'.cell? ⟨w.heap.size,1,none⟩=some (.slice Aj nj cj)∧W'.cell? ⟨w.heap.size,2,none⟩=some (.slice Ab nb cb)∧W'.cell? ⟨w.heap.size,3,none⟩=some (.slice Ar nr cr)∧W'.cell? (ad.add (k*3))=some (.int .i64 q1))
      (first| assumption | exact HS2.out _ ((Keep.refl Never wz).drew) | exact HS2.out _ (Keep.trans (And.left (by assumption)) hk9) | exact HS2.out _ (Keep.trans ((Keep.refl Never wz).drew) hk9) | exact HS2.out _ (Keep.alloc (And.left (by assumption)) _) | exact HS2.out _ (Keep.alloc (Keep.trans ((Keep.refl Never wz).drew) hk9) _) | exact HS2.out _ (put4_keep (And.left (by assumption)) (.inr (by first | exact Nat.le_refl _ | exact(Keep.size (And.left (by assumption))) | omega)) _ _ _ _))
      (first
        | (go_at_call 50; refine(HRr.out _ (by first | exact And.left (by assumption) | exact(Keep.refl Never wz).drew | exact Keep.refl Never wz | exact Keep.alloc (And.left (by assumption)) _)).mono ?_;rintro en w9 ⟨Av,nv,cv,rfl,hsl,hk9⟩;have HK9:Hid (Keep Never wz w9):=qh (by first | exact Keep.trans (And.left (by assumption)) hk9 | exact Keep.trans ((Keep.refl Never wz).drew) hk9);have HO9:=qh hsl;have nb9:Hid (Blk w9 wz.heap.size 64 #[.int .i64 0,.slice none 0 0,.int .i64 0,.int .i64 0]):=qh (by first | exact Blk.keep (Blk.new wz 64 #[.int .i64 0,.slice none 0 0,.int .i64 0,.int .i64 0]) hk9 (fun h=>h) | exact Blk.keep (Blk.drew (Blk.new wz 64 #[.int .i64 0,.slice none 0 0,.int .i64 0,.int .i64 0])) hk9 (fun h=>h) | exact Blk.keep (Blk.new wz.drew 64 #[.int .i64 0,.slice none 0 0,.int .i64 0,.int .i64 0]) hk9 (fun h=>h));have n0:w9.cell? ⟨wz.heap.size,0,none⟩=some (.int .i64 0):=nb9.out.cell 0;have m0:=nb9.out.frozen 0;have n1:w9.cell? ⟨wz.heap.size,1,none⟩=some (.slice none 0 0):=nb9.out.cell 1;have m1:=nb9.out.frozen 1;have n2:w9.cell? ⟨wz.heap.size,2,none⟩=some (.int .i64 0):=nb9.out.cell 2;have m2:=nb9.out.frozen 2;have n3:w9.cell? ⟨wz.heap.size,3,none⟩=some (.int .i64 0):=nb9.out.cell 3;have m3:=nb9.out.frozen 3)
        | (go_at_call 50; refine(HRr.out _ (by first | exact And.left (by assumption) | exact(Keep.refl Never wz).drew | exact Keep.refl Never wz | exact Keep.alloc (And.left (by assumption)) _)).mono ?_;rintro en w9 ⟨Av,nv,cv,rfl,hsl,hk9⟩;have HK9:Hid (Keep Never wz w9):=qh (by first | exact Keep.trans (And.left (by assumption)) hk9 | exact Keep.trans ((Keep.refl Never wz).drew) hk9);have HO9:=qh hsl;have n0:(w9.alloc (.cells #[.int .i64 0,.slice none 0 0,.int .i64 0,.int .i64 0] 64)).cell? ⟨w9.heap.size,0,none⟩=some (.int .i64 0):=(Blk.new w9 64 #[.int .i64 0,.slice none 0 0,.int .i64 0,.int .i64 0]).cell 0;have m0:=(Blk.new w9 64 #[.int .i64 0,.slice none 0 0,.int .i64 0,.int .i64 0]).frozen 0;have n1:(w9.alloc (.cells #[.int .i64 0,.slice none 0 0,.int .i64 0,.int .i64 0] 64)).cell? ⟨w9.heap.size,1,none⟩=some (.slice none 0 0):=(Blk.new w9 64 #[.int .i64 0,.slice none 0 0,.int .i64 0,.int .i64 0]).cell 1;have m1:=(Blk.new w9 64 #[.int .i64 0,.slice none 0 0,.int .i64 0,.int .i64 0]).frozen 1;have n2:(w9.alloc (.cells #[.int .i64 0,.slice none 0 0,.int .i64 0,.int .i64 0] 64)).cell? ⟨w9.heap.size,2,none⟩=some (.int .i64 0):=(Blk.new w9 64 #[.int .i64 0,.slice none 0 0,.int .i64 0,.int .i64 0]).cell 2;have m2:=(Blk.new w9 64 #[.int .i64 0,.slice none 0 0,.int .i64 0,.int .i64 0]).frozen 2;have n3:(w9.alloc (.cells #[.int .i64 0,.slice none 0 0,.int .i64 0,.int .i64 0] 64)).cell? ⟨w9.heap.size,3,none⟩=some (.int .i64 0):=(Blk.new w9 64 #[.int .i64 0,.slice none 0 0,.int .i64 0,.int .i64 0]).cell 3;have m3:=(Blk.new w9 64 #[.int .i64 0,.slice none 0 0,.int .i64 0,.int .i64 0]).frozen 3))
    all_goals
     rename_i hS
     clear hS
     (try clear n0 n1 n2 n3 m0 m1 m2 m3)
     first
     | (obtain⟨w15,hw15⟩:∃V:World,(((w9.setCell ⟨wz.heap.size,0,none⟩ (.int .i64 ri)).setCell ⟨wz.heap.size,1,none⟩ (.slice Av nv cv)).setCell ⟨wz.heap.size,2,none⟩ (.int .i64 rg)).setCell ⟨wz.heap.size,3,none⟩ (.int .i64 rtm)=V:=⟨_,rfl⟩
        rw[hw15]
        obtain⟨b15,hb15⟩:∃q,wz.heap.size=q:=⟨_,rfl⟩
        rw[hb15] at nb9 hw15 ⊢
        have HB15:Hid (Blk w15 b15 64 #[.int .i64 ri,.slice Av nv cv,.int .i64 rg,.int .i64 rtm]):=qh (by rw[←hw15];exact put4_blk nb9.out _ _ _ _)
        have HK15:Hid (Keep Never wz w15):=qh (by rw[←hw15];exact put4_keep HK9.out (.inr (by omega)) _ _ _ _)
        have HO15:=qh (HO9.out.keep (show Keep (fun i=>i=b15) w9 w15 from by rw[←hw15];exact put4_keep (Keep.refl (fun i=>i=b15) w9) (.inl rfl) _ _ _ _) (fun k e=>by have h1:=HBr.out;omega))
        have HN15:Hid (wz.heap.size≤b15):=qh (by omega)
        clear hw15 hb15 nb9 HO9 HK9 hk9)
     | (obtain⟨w15,hw15⟩:∃V:World,w9.alloc (.cells #[.int .i64 ri,.slice Av nv cv,.int .i64 rg,.int .i64 rtm] 64)=V:=⟨_,rfl⟩
        rw[hw15]
        obtain⟨b15,hb15⟩:∃q,w9.heap.size=q:=⟨_,rfl⟩
        rw[hb15]
        have HB15:Hid (Blk w15 b15 64 #[.int .i64 ri,.slice Av nv cv,.int .i64 rg,.int .i64 rtm]):=qh (by rw[←hw15,←hb15];exact Blk.new _ _ _)
        have HK15:Hid (Keep Never wz w15):=qh (by rw[←hw15];exact HK9.out.alloc _)
        have HO15:=qh (HO9.out.keep (show Keep Never w9 w15 from by rw[←hw15];exact(Keep.refl _ _).alloc _) (fun _ h=>h.elim))
        have HN15:Hid (wz.heap.size≤b15):=qh (by rw[←hb15];exact HK9.out.size)
        clear hw15 hb15 HO9 HK9 hk9)
    all_goals
     go_wp2_with fail
     go_meet
     exact⟨b15,Av,nv,cv,rfl,rfl,qh ⟨HK15.out,HB15.out,HO15.out⟩⟩
   case rest=>
    clear y0 y1 y2 y3 c0
    obtain⟨b15,Av,nv,cv,rfl,rfl,HH⟩:=hcut
    rename World=>w15
    have hk:=HH.out.1
    have HB15:=qh HH.out.2.1
    have HRr15:=qh (stps_rd HH.out.2.2)
    clear HH HRr HBr HS2
    have HK15:=qtr HKz hk
    have HT15:=qkb HTz hk
    have HR15:=qkb HRz hk
    have HS15:=qkb HSz hk
    have HM15:=qkb HMz hk
    have HOc15:=qko HOcz hk
    have HOs15:=qko HOsz hk
    have HD15:=qkb HDz hk
    have HOp15:=qko HOpz hk
    have HNr:Hid (nv=rp.length∧nv≤8∧nv≤cv∧∀u∈rp,in64 u):=qh ⟨HRr15.out.2.1,by have h1:=HRr15.out.2.1;have h2:=HP8.out.1;omega,HRr15.out.2.2.1,HRr15.out.2.2.2.2.2⟩
    have HQr15:=qh HRr15.out.1
    clear hk HRr15 HTz HRz HSz HMz HOcz HOsz HDz HOpz HKz
    go_upto_block 2 with fail
    go_cut [24] (fun sx wx=>∃fr:Nat,fr≤nv∧sx=.int .i64 fr∧partC t (l1,l3) k (q1,q2,q3)=rp.drop fr∧Keep Never w15 wx)
    case first=>
     by_cases g0:k=0
     ·subst g0
      have hm0:=HIn.out rfl
      obtain⟨hx1,hil,hx2⟩:=idx_at17 hm0
      obtain⟨ix,hix⟩:∃z,rp.idxOf (l1,l3)=z:=⟨_,rfl⟩
      rw[hix] at hx1 hil hx2
      have hil2:ix+1≤nv:=by have:=HNr.out.1;omega
      have HIx:=qh hx1
      have HIn2:=qh hx2
      have HPt:Hid (partC t (l1,l3) 0 (q1,q2,q3)=rp.drop (ix+1)):=qh (by unfold partC;rw[if_pos rfl,HRo0.out];simp only;rw[hix])
      have qe:∀(w:World) (x1:Int) (x2:Bool) (y1:Int) (y2:Bool),(binOp .eql 30 (.agg #[.int .i64 x1,.bool x2]) (.agg #[.int .i64 y1,.bool y2])).run Tryz.prog w=.ok (.bool (sameS x1 x2 y1 y2)) w:=run_eq_stp
      have hn8:=HNr.out.2.1
      clear hix hil hm0 hx1 hx2
      go_wp2_with fail
      go_loopw [24,25] (fun fb kb wv=>∃j:Nat,j≤ix∧fb=.int .i64 0∧kb=.int .i64 j∧Hid (Keep Never w15 wv)) (fun _ kb _=>nv - (intOf kb).toNat)
      case atStart=>exact⟨0,by omega,rfl,rfl,qh (Keep.refl _ _)⟩
      case round=>
       obtain⟨j,hj,rfl,rfl,HH⟩:=hrel
       have hjn:(j:Int)<(nv:Int):=by omega
       have hjd:decide (j<nv)=true:=by simp;omega
       have hjd2:decide ((j:Int)<(nv:Int))=true:=by simp;omega
       obtain⟨av,u,hAv,_,hu,e0,e1⟩:=(HQr15.out.keep HH.out (fun _ h=>h.elim)).stp (show j<nv by omega)
       subst hAv
       have o1:wr.cell? ⟨b15,1,none⟩=some (.slice (some av) nv cv):=(HB15.out.keep HH.out (fun h=>h)).cell 1
       obtain⟨z0,z1⟩:=bc2 (HS15.out.keep HH.out (fun h=>h))
       obtain⟨u1,u2⟩:=u
       simp only at e0 e1
       by_cases g1:j=ix
       ·have HU:Hid (((u1,u2):Stp)=(l1,l3)):=qh (by have h1:=HIx.out;rw[←g1,hu] at h1;exact Option.some.inj h1)
        have t1:sameS u1 u2 l1 l3=true:=decide_eq_true HU.out
        have HG1:=qh g1
        clear hu g1
        go_wp2_with fail
        go_quiet (fail)
        go_wp2_with fail
        go_meet
        exact⟨j+1,by omega,by go_num,by rw[HPt.out,HG1.out],HH.out.drewN _⟩
       ·have t1:sameS u1 u2 l1 l3=false:=decide_eq_false (HIn2.out j (u1,u2) (by omega) hu)
        clear hu
        go_wp2_with fail
        go_quiet (fail)
        go_wp2_with fail
        refine⟨⟨j+1,by omega,rfl,by go_num,qh (HH.out.drewN _)⟩,?_⟩
        simp[intOf];try omega
     ·have t2:((k:Int)==0)=false:=by simp;omega
      have hnv:(0:Int)<(nv:Int):=by have h1:=HNr.out.1;have h2:=List.length_pos_iff.2 HP8.out.2;omega
      have hnvd:decide (0<nv)=true:=by simp;omega
      have HPt:Hid (partC t (l1,l3) k (q1,q2,q3)=rp.drop 0):=qh (by unfold partC;rw[if_neg g0,HRo0.out];rfl)
      clear g0
      go_wp2_with fail
      go_loopw [24,25] (fun fb kb wv=>fb=.int .i64 0∧kb=.int .i64 0∧Hid (Keep Never w15 wv)) (fun _ kb _=>nv - (intOf kb).toNat)
      case atStart=>exact⟨rfl,rfl,qh (Keep.refl _ _)⟩
      case round=>
       obtain⟨rfl,rfl,HH⟩:=hrel
       have o1:wr.cell? ⟨b15,1,none⟩=some (.slice Av nv cv):=(HB15.out.keep HH.out (fun h=>h)).cell 1
       go_wp2_with fail
       go_meet
       exact⟨0,by omega,rfl,HPt.out,HH.out⟩
    case rest=>
    obtain⟨fr,hfr,rfl,hpt,hk⟩:=hcut
    rename World=>w16
    have HK16:=qtr HK15 hk
    have HT16:=qkb HT15 hk
    have HR16:=qkb HR15 hk
    have HS16:=qkb HS15 hk
    have HM16:=qkb HM15 hk
    have HOc16:=qko HOc15 hk
    have HOs16:=qko HOs15 hk
    have HD16:=qkb HD15 hk
    have HOp16:=qko HOp15 hk
    have HB16:=qkb HB15 hk
    have HQr16:=qh (HQr15.out.keep hk (fun _ h=>h.elim))
    have HPe:Hid (partC t (l1,l3) k (q1,q2,q3)=rp.drop fr):=qh hpt
    clear hk hpt HQr15 HT15 HR15 HS15 HM15 HOc15 HOs15 HD15 HOp15 HB15 HK15
    obtain⟨pt,hptl⟩:∃z,rp.drop fr=z:=⟨_,rfl⟩
    rw[hptl] at HPe
    obtain⟨Aq,cq,hq,hq2,_,_,_,_,_⟩:=run_from Tryz.underlying35 Tryz.sizeOf30 Av nv cv fr hfr (fr:Int) rfl
    have hr16:=hq2 w16 B (stpCells rp) HNr.out.2.2.1 HQr16.out
    rw[←stpCells_drop,hptl] at hr16
    obtain⟨nq,hnq⟩:∃z,nv - fr=z:=⟨_,rfl⟩
    rw[hnq] at hq hr16
    have HQ16:=qh hr16
    have HPl:Hid (nq=pt.length∧nq≤8):=qh (by rw[←hptl,List.length_drop];have:=HNr.out;omega)
    have HPt6:Hid (∀u∈pt,in64 u):=qh (fun u hu=>HNr.out.2.2.2 u (by rw[←hptl] at hu;exact List.mem_of_mem_drop hu))
    have HWn:Hid (wayC t (l1,l3) g c (k+1)=wayC t (l1,l3) g c k++pt):=qh (by rw[way_next HKl.out,HPe.out])
    have hnp:np≤105:=by have h1:=HWt.out.1;rw[HWn.out,List.length_append] at h1;have h2:=HNp.out;omega
    have hn8:=HPl.out.2
    have hz16:bs+1≤w16.heap.size:=HS16.out.lt
    have m2:w16.cell? ⟨bm,2,none⟩=some (.slice Ap np cp):=HM16.out.cell 2
    have o1:w16.cell? ⟨b15,1,none⟩=some (.slice Av nv cv):=HB16.out.cell 1
    clear hr16 hq2 hptl hnq HQr16
    go_upto_region 21 with(fail)
    go_cut [] (fun wx=>∃(A22:Option Addr) (c22:Nat) (w22:World),Hid (Own w22 (bs+1) 30 2 A22 (np+nq) c22 (stpCells (wayC t (l1,l3) g c (k+1)))∧Keep (InRow Ap) w16 w22)∧wx=w22.setCell ⟨bm,2,none⟩ (.slice A22 (np+nq) c22))
    case first=>
     go_region_law (refine step_app _ rfl (.tmp 107) (.tmp 111) _ rfl elemStp (bs+1) (A:=Ap) (n:=np) (c:=cp) (by go_simp) HOp16.out _ (A':=Aq) (m:=nq) (c':=cq) (by go_simp) HQ16.out (stpCells_one _) (by omega) (by unfold maxLen;omega) hz16 ?_;intro A22 c22 w22 hown hk hrow;have hk22:Keep (InRow Ap) w16 w22:=(by first | exact hk | exact((Keep.refl (InRow Ap) w16).drew).trans hk);have HO22:=qh (And.intro hown hk22);have HM22:=HM16.out.keep hk22 (fun h=>HOp16.out.ne_blk HM16.out (by decide) _ h rfl);have q2:w22.cell? ⟨bm,2,none⟩=some (.slice Ap np cp):=HM22.cell 2;have qf2:=HM22.frozen 2;clear hown hk hrow hk22 HM22)
     all_goals
      go_wp2_with fail
     all_goals
      go_meet
      exact⟨A22,c22,w22,qh ⟨by rw[HWn.out,stpCells_app];exact HO22.out.1,HO22.out.2⟩,rfl⟩
    case rest=>
    rename World=>w23
    obtain⟨A22,c22,w22,HH,hw23⟩:=hcut
    clear m2 o1 hq
    have HO22:=qh HH.out.1
    have hk:=HH.out.2
    have HM22:=qh (HM16.out.keep hk (fun h=>HOp16.out.ne_blk HM16.out (by decide) _ h rfl))
    have HT22:=qh (HT16.out.keep hk (fun h=>HOp16.out.ne_blk HT16.out (by decide) _ h rfl))
    have HR22:=qh (HR16.out.keep hk (fun h=>HOp16.out.ne_blk HR16.out (by decide) _ h rfl))
    have HS22:=qh (HS16.out.keep hk (fun h=>by have:=(HOp16.out.row h).1;omega))
    have HOc22:=qh (HOc16.out.keep hk (fun q h=>HOc16.out.ne_own HOp16.out (by decide) q h))
    have HOs22:=qh (HOs16.out.keep hk (fun q h=>HOs16.out.ne_own HOp16.out (by decide) q h))
    have HB22:=qh (HB16.out.keep hk (fun h=>HOp16.out.ne_blk HB16.out (by decide) _ h rfl))
    have HD22:=qh (HD16.out.keep hk (fun h=>HOp16.out.ne_blk HD16.out (by decide) _ h rfl))
    have HK22:=qh (HK16.out.then_ hk (fun i hi h=>by have:=(HOp16.out.row h).1;have:=HBs.out;omega))
    clear hk HH HQ16 HT16 HR16 HS16 HM16 HOc16 HOs16 HD16 HOp16 HB16 HK16
    have hk:Keep (fun q=>q=bm) w22 w23:=by rw[hw23];exact put1_keep _
    have HM23:Hid (Blk w23 bm 38 #[.int .i64 ref,.bool rv,.slice A22 (np+nq) c22,.slice As k cs,.int .i64 (gapC t c k)]):=qh (by rw[hw23];have:=HM22.out.set_ 2 (.slice A22 (np+nq) c22);simpa using this)
    have HT23:=qh (HT22.out.keep hk (fun h=>HT22.out.ne_ HM22.out (by decide) h))
    have HR23:=qh (HR22.out.keep hk (fun h=>HBm.out.2.2 h.symm))
    have HS23:=qh (HS22.out.keep hk (fun h=>HS22.out.ne_ HM22.out (by decide) h))
    have HOc23:=qh (HOc22.out.keep hk (fun q h=>HOc22.out.ne_blk HM22.out (by decide) q h))
    have HOs23:=qh (HOs22.out.keep hk (fun q h=>HOs22.out.ne_blk HM22.out (by decide) q h))
    have HB23:=qh (HB22.out.keep hk (fun h=>HB22.out.ne_ HM22.out (by decide) h))
    have HD23:=qh (HD22.out.keep hk (fun h=>HD22.out.ne_ HM22.out (by decide) h))
    have HO23:=qh (HO22.out.keep hk (fun q h=>HO22.out.ne_blk HM22.out (by decide) q h))
    have HK23:=qh (HK22.out.then_ hk (fun i hi h=>by have:=HBm.out.1;omega))
    clear hk hw23 HT22 HR22 HS22 HM22 HOc22 HOs22 HD22 HB22 HO22 HK22
    obtain⟨nw,hnw⟩:∃z,np+nq=z:=⟨_,rfl⟩
    have HNw:Hid (nw=(wayC t (l1,l3) g c (k+1)).length):=qh (by rw[HWn.out,List.length_append,←hnw];have h1:=HNp.out;have h2:=HPl.out.1;omega)
    rw[hnw] at HM23 HO23
    have hnw105:nw≤105:=by have h1:=HWt.out.1;rw[←HNw.out] at h1;exact h1
    obtain⟨ae,ke,ve,hAe,hke,hkn,ed,hev,hv0,hv1⟩:=HEd.out w23 HK23.out b2 HC0.out HL.out.there
    (try simp only at hAe hke hkn)
    have HAe:Hid (Ae=some ae):=qh hAe
    have hkni:(ke:Int)<(ne:Int):=by omega
    have HBc:Hid ((rv=true∧-ve+b3=-back)∨(rv=false∧-b3=-back)):=qh (by
     have h1:=HBb.out
     unfold alongP at h1
     simp only at h1
     cases rv with
     | true=>simp only[if_true] at h1;exact .inl ⟨rfl,by rw[hev] at h1;omega⟩
     | false=>simp only[Bool.false_eq_true,if_false] at h1;exact .inr ⟨rfl,by omega⟩)
    have hb30:=HL.out.a0
    have hb31:=HL.out.a1
    simp only at hb30 hb31
    rw[hev] at hb31
    obtain⟨ng,hng⟩:∃z,-ve=z:=⟨_,rfl⟩
    rw[hng] at HBc
    have hwe:IntKind.i64.wrap (-ve)=ng:=by rw[←hng];exact IntWalk.i64_in _ (by omega)
    have hwe2:wrap64 (-ve)=ng:=by have:=hwe;rwa [IntWalk.i64_left] at this
    have HWf:Hid (IntKind.i64.wrap (ng+b3)=ng+b3∧IntKind.i64.wrap (ng+ve)=0∧IntKind.i64.wrap (0 - b3)=-b3∧IntKind.i64.wrap (-b3)=-b3):=qh ⟨IntWalk.i64_in _ (by omega),by rw[show ng+ve=0 by omega];exact IntWalk.i64_in _ (by omega),by rw[show 0 - b3=-b3 by omega];exact IntWalk.i64_in _ (by omega),IntWalk.i64_in _ (by omega)⟩
    have HEd2:=qh ed
    have HHk:Hid (b2=((ke:Nat):Int)):=qh hke
    have y0:w23.cell? ⟨w.heap.size,0,none⟩=some (.slice (some ae) ne ce):=by rw[←hAe];exact HT23.out.cell 0
    have d0:w23.cell? ⟨bb,0,none⟩=some (.int .i64 ((ke:Nat):Int)):=by rw[←hke];exact HD23.out.cell 0
    clear hev hv0 hv1 hAe hke hnw hb30 hb31 hng
    go_upto_if 121 with(fail)
    clear y0 d0 ed hwe hwe2
    go_cut [26] (fun sx wx=>sx=.int .i64 (-back)∧Keep Never w23 wx)
    case first=>
     rcases HBc.out with⟨hr,hx⟩ | ⟨hr,hx⟩
     ·subst hr
      have d1:w23.cell? ⟨bb,1,none⟩=some (.int .i64 b3):=HD23.out.cell 1
      have HX:=qh hx
      have hwf:=HWf.out.1
      have hwf2:wrap64 (ng+b3)=ng+b3:=by have:=hwf;rwa [IntWalk.i64_left] at this
      clear hx
      go_wp2_with fail
      go_meet
      exact⟨by rw[HX.out],Keep.refl Never _⟩
     ·subst hr
      have d1:w23.cell? ⟨bb,1,none⟩=some (.int .i64 b3):=HD23.out.cell 1
      have d0:w23.cell? ⟨bb,0,none⟩=some (.int .i64 ((ke:Nat):Int)):=by rw[←HHk.out];exact HD23.out.cell 0
      have y0:w23.cell? ⟨w.heap.size,0,none⟩=some (.slice (some ae) ne ce):=by rw[←HAe.out];exact HT23.out.cell 0
      have ed:=HEd2.out
      have HX:=qh hx
      have hwf:=HWf.out.2.1
      have hwf2:wrap64 (ng+ve)=0:=by have:=hwf;rwa [IntWalk.i64_left] at this
      have hwg:=HWf.out.2.2.1
      have hwg2:wrap64 (0 - b3)=-b3:=by have:=hwg;rwa [IntWalk.i64_left] at this
      have hwh:=HWf.out.2.2.2
      have hwh2:wrap64 (-b3)=-b3:=by have:=hwh;rwa [IntWalk.i64_left] at this
      clear hx
      go_wp2_with fail
      go_quiet (fail)
      go_wp2_with fail
      go_meet
      exact⟨by rw[HX.out],(Keep.refl Never _).drewN _⟩
    case rest=>
    obtain⟨rfl,hk⟩:=hcut
    rename World=>w25
    have HK25:=qtr HK23 hk
    have HT25:=qkb HT23 hk
    have HR25:=qkb HR23 hk
    have HS25:=qkb HS23 hk
    have HM25:=qkb HM23 hk
    have HOc25:=qko HOc23 hk
    have HOs25:=qko HOs23 hk
    have HB25:=qkb HB23 hk
    have HD25:=qkb HD23 hk
    have HO25:=qko HO23 hk
    clear hk HBc HWf HEd2 HT23 HR23 HS23 HM23 HOc23 HOs23 HB23 HD23 HO23 HK23
    have HHk:Hid (0≤back∧back≤1000000):=HBk
    go_wp2_with fail
    go_loopw [26,27] (fun s26 s27 wr=>∃j:Nat,j≤nw∧s27=.int .i64 j∧s26=.int .i64 (plainS t.1 ((wayC t (l1,l3) g c (k+1)).take j) - back)∧Hid (Keep Never w25 wr)) (fun _ si _=>nw - (intOf si).toNat)
    case atStart=>exact⟨0,by omega,rfl,by simp[plainS],qh (Keep.refl _ _)⟩
    case round=>
     obtain⟨j,hj,rfl,rfl,HH⟩:=hrel
     by_cases h2:j<nw
     case neg=>
      obtain rfl:j=nw:=by omega
      have hji:¬(j:Int)<(j:Int):=by omega
      have hk:=HH.out
      have HK26:=qtr HK25 hk
      have HT26:=qkb HT25 hk
      have HR26:=qkb HR25 hk
      have HS26:=qkb HS25 hk
      have HM26:=qkb HM25 hk
      have HOc26:=qko HOc25 hk
      have HOs26:=qko HOs25 hk
      have HB26:=qkb HB25 hk
      have HD26:=qkb HD25 hk
      have HO26:=qko HO25 hk
      have m2:wr.cell? ⟨bm,2,none⟩=some (.slice A22 j c22):=HM26.out.cell 2
      rw[List.take_of_length_le (by rw[HNw.out];exact Nat.le_refl _)]
      obtain⟨at2,hat2⟩:∃z,plainS t.1 (wayC t (l1,l3) g c (k+1)) - back=z:=⟨_,rfl⟩
      have HSn:Hid (secC t (l1,l3) g back c (k+1)=secC t (l1,l3) g back c k++[(at2,rtm)]):=qh (by rw[sec_next HKl.out,hat2,HRo0.out])
      rw[hat2]
      have hkz:=HK26.out.size
      clear hk HH hat2 HT25 HR25 HS25 HM25 HOc25 HOs25 HB25 HD25 HO25 HK25
      go_upto_region 30 with(fail)
      clear m2
      have m3:wr.cell? ⟨bm,3,none⟩=some (.slice As k cs):=HM26.out.cell 3
      have o3:wr.cell? ⟨b15,3,none⟩=some (.int .i64 rtm):=HB26.out.cell 3
      go_upto_region 31 with(at_builtin;refine wpList_app _ rfl (.tmp 157) (.tmp 162) _ rfl elemSc w.heap.size (A:=As) (n:=k) (c:=cs) (by go_simp) (HOs26.out.alloc _) _ (A':=some ⟨_,0,none⟩) (m:=1) (c':=1) (by go_simp) (Rd.of_blk (n:=1) (cs:=[.int .i64 at2,.int .i64 rtm]) (Blk.new _ _ _) rfl) (by simp[Value.oneCell']) (by omega) (by unfold maxLen;omega) (by simp;omega) ?_;intro A27 c27 w27 hown hk hrow;have hk27:Keep (InRow As) wr w27:=((Keep.refl _ wr).alloc _).trans hk;have HOs27:Hid (Own w27 w.heap.size 58 2 A27 (k+1) c27 (scCells (secC t (l1,l3) g back c (k+1)))):=qh (by rw[HSn.out,scCells_app];exact hown);have HM27:=qh (HM26.out.keep hk27 (fun h=>HOs26.out.ne_blk HM26.out (by decide) _ h rfl));have HK27k:=qh hk27;have q3:w27.cell? ⟨bm,3,none⟩=some (.slice As k cs):=HM27.out.cell 3;have qf3:=HM27.out.frozen 3;clear hown hk hrow hk27)
      have hk:=HK27k.out
      have HT27:=qh (HT26.out.keep hk (fun h=>HOs26.out.ne_blk HT26.out (by decide) _ h rfl))
      have HR27:=qh (HR26.out.keep hk (fun h=>HOs26.out.ne_blk HR26.out (by decide) _ h rfl))
      have HS27:=qh (HS26.out.keep hk (fun h=>HOs26.out.ne_blk HS26.out (by decide) _ h rfl))
      have HOc27:=qh (HOc26.out.keep hk (fun q h=>HOc26.out.ne_own HOs26.out (by decide) q h))
      have HB27:=qh (HB26.out.keep hk (fun h=>HOs26.out.ne_blk HB26.out (by decide) _ h rfl))
      have HD27:=qh (HD26.out.keep hk (fun h=>HOs26.out.ne_blk HD26.out (by decide) _ h rfl))
      have HK27:=qh (HK26.out.then_ hk (fun i hi h=>by have:=(HOs26.out.row h).1;have:=HBs.out;omega))
      have HP27:=qh (HO26.out.keep hk (fun q h=>HO26.out.ne_own HOs26.out (by decide) q h))
      clear hk HK27k m3 o3 HT26 HR26 HS26 HM26 HOc26 HOs26 HB26 HD26 HO26 HK26
      obtain⟨w28,hw28⟩:∃V:World,w27.setCell ⟨bm,3,none⟩ (.slice A27 (k+1) c27)=V:=⟨_,rfl⟩
      rw[hw28]
      have hk:Keep (fun q=>q=bm) w27 w28:=by rw[←hw28];exact put1_keep _
      have HM28:Hid (Blk w28 bm 38 #[.int .i64 ref,.bool rv,.slice A22 j c22,.slice A27 (k+1) c27,.int .i64 (gapC t c k)]):=qh (by rw[←hw28];have:=HM27.out.set_ 3 (.slice A27 (k+1) c27);simpa using this)
      have HT28:=qh (HT27.out.keep hk (fun h=>HT27.out.ne_ HM27.out (by decide) h))
      have HR28:=qh (HR27.out.keep hk (fun h=>HBm.out.2.2 h.symm))
      have HS28:=qh (HS27.out.keep hk (fun h=>HS27.out.ne_ HM27.out (by decide) h))
      have HOc28:=qh (HOc27.out.keep hk (fun q h=>HOc27.out.ne_blk HM27.out (by decide) q h))
      have HOs28:=qh (HOs27.out.keep hk (fun q h=>HOs27.out.ne_blk HM27.out (by decide) q h))
      have HB28:=qh (HB27.out.keep hk (fun h=>HB27.out.ne_ HM27.out (by decide) h))
      have HD28:=qh (HD27.out.keep hk (fun h=>HD27.out.ne_ HM27.out (by decide) h))
      have HK28:=qh (HK27.out.then_ hk (fun i hi h=>by have:=HBm.out.1;omega))
      have HP28:=qh (HP27.out.keep hk (fun q h=>HP27.out.ne_blk HM27.out (by decide) q h))
      clear hk hw28 q3 qf3 HT27 HR27 HS27 HM27 HOc27 HOs27 HB27 HD27 HP27 HK27
      have o2:w28.cell? ⟨b15,2,none⟩=some (.int .i64 rg):=HB28.out.cell 2
      have q4:w28.cell? ⟨bm,4,none⟩=some (.int .i64 (gapC t c k)):=HM28.out.cell 4
      have qf4:=HM28.out.frozen 4
      go_upto_region 13 with(fail)
      obtain⟨w29,hw29⟩:∃V:World,w28.setCell ⟨bm,4,none⟩ (.int .i64 rg)=V:=⟨_,rfl⟩
      rw[hw29]
      have hk:Keep (fun q=>q=bm) w28 w29:=by rw[←hw29];exact put1_keep _
      have HM29:Hid (Blk w29 bm 38 #[.int .i64 ref,.bool rv,.slice A22 j c22,.slice A27 (k+1) c27,.int .i64 (gapC t c (k+1))]):=qh (by rw[←hw29,gap_next HKl.out,HRo0.out];have:=HM28.out.set_ 4 (.int .i64 rg);simpa using this)
      have HT29:=qh (HT28.out.keep hk (fun h=>HT28.out.ne_ HM28.out (by decide) h))
      have HR29:=qh (HR28.out.keep hk (fun h=>HBm.out.2.2 h.symm))
      have HS29:=qh (HS28.out.keep hk (fun h=>HS28.out.ne_ HM28.out (by decide) h))
      have HOc29:=qh (HOc28.out.keep hk (fun q h=>HOc28.out.ne_blk HM28.out (by decide) q h))
      have HOs29:=qh (HOs28.out.keep hk (fun q h=>HOs28.out.ne_blk HM28.out (by decide) q h))
      have HD29:=qh (HD28.out.keep hk (fun h=>HD28.out.ne_ HM28.out (by decide) h))
      have HK29:=qh (HK28.out.then_ hk (fun i hi h=>by have:=HBm.out.1;omega))
      have HP29:=qh (HP28.out.keep hk (fun q h=>HP28.out.ne_blk HM28.out (by decide) q h))
      clear hk hw29 o2 q4 qf4 HT28 HR28 HS28 HM28 HOc28 HOs28 HB28 HD28 HP28 HK28
      have H6n:Hid (∀u∈wayC t (l1,l3) g c (k+1),in64 u):=qh (by
       rw[HWn.out]
       intro u hu
       rcases List.mem_append.1 hu with hu | hu
       ·exact H6.out u hu
       ·exact HPt6.out u hu)
      go_wp2_with fail
      refine⟨⟨k+1,A22,j,c22,A27,k+1,c27,by omega,by go_num,qh ⟨HP29.out,H6n.out,HOs29.out,HT29.out,HR29.out,HS29.out,HM29.out,HOc29.out,HK29.out,HNw.out,rfl,HD29.out⟩⟩,?_⟩
      simp[intOf];try omega
     have hji:(j:Int)<(nw:Int):=by omega
     obtain⟨ap,s,hA,_,hs,c0,c1⟩:=(HO25.out.keep HH.out (fun _ _ h=>h)).rd.stp h2
     have HTh:Hid (thereB t.1.length s.1=true):=qh (HWt.out.2 s (List.mem_of_getElem? hs))
     have HNx:=qh (plainS_next (t:=t) hs)
     have hpb:=plain_bnd HC0.out ((wayC t (l1,l3) g c (k+1)).take j) (fun u hu=>HWt.out.2 u (List.mem_of_mem_take hu))
     have hlk:((wayC t (l1,l3) g c (k+1)).take j).length≤105:=by have:=HWt.out.1;rw[List.length_take];omega
     obtain⟨s1,s2⟩:=s
     simp only at c0 c1 HTh HNx
     obtain⟨cu,hcu⟩:∃z,plainS t.1 ((wayC t (l1,l3) g c (k+1)).take j) - back=z:=⟨_,rfl⟩
     have hcb:-1000000≤cu∧cu≤1000000000:=by have:=HBk.out;omega
     have HCu:=qh hcu
     rw[hcu]
     have HKj:=qh (HK25.out.trans HH.out)
     obtain⟨aj,kj,vj,hAj,hkj,hkjn,ej,hevj,hvj0,hvj1⟩:=HEd.out wr HKj.out s1 HC0.out HTh.out
     (try simp only at hAj hkj hkjn)
     subst hkj
     have hkjni:(kj:Int)<(ne:Int):=by omega
     have HEv:Hid (edgeM t ((kj:Nat):Int)=vj):=qh hevj
     have m2:wr.cell? ⟨bm,2,none⟩=some (.slice (some ap) nw c22):=by rw[←hA];exact(HM25.out.keep HH.out (fun h=>h)).cell 2
     have y0:wr.cell? ⟨w.heap.size,0,none⟩=some (.slice (some aj) ne ce):=by rw[←hAj];exact(HT25.out.keep HH.out (fun h=>h)).cell 0
     have hwj:IntKind.i64.wrap (cu+vj)=cu+vj:=IntWalk.i64_in _ (by omega)
     have hwj2:wrap64 (cu+vj)=cu+vj:=by have:=hwj;rwa [IntWalk.i64_left] at this
     clear hs hpb hlk hcu hA hAj hevj
     go_wp2_with fail
     go_quiet (fail)
     go_wp2_with fail
     refine⟨⟨j+1,by omega,by go_num,by rw[HNx.out,HEv.out,←HCu.out];congr 1;omega,qh (HH.out.drewN _)⟩,?_⟩
     simp[intOf];try omega
end Go.Proofs.YtpapiojicbbheaaGreatDoor

namespace Go.Proofs.YtpapiojicbbheaaGreatDoor
open Go.RowKit
theorem less_len (l:List Sc) (g:Int):(lessS l g).length≤l.length:=by
 unfold lessS
 cases h:l.getLast? with
 | none=>simp
 | some x=>
  have h1:l≠[]:=by rintro rfl;simp at h
  have:=List.length_pos_iff.2 h1
  simp only[List.length_append,List.length_dropLast,List.length_cons,List.length_nil]
  omega
theorem endC_small {ref:Int}{rv:Bool}{n:Int}{P:List Stp}{S:List Sc}{g:Int} (h:S.length≤8):(endC ref rv n P S g).1.2.2.1.length≤24∧(endC ref rv n P S g).1.2.2.2.1.length≤8:=by
 unfold endC
 split
 ·simp[noMa]
 rename_i h1
 split
 ·simp[noMa]
 have h2:P.length≤24:=by have:¬24<P.length:=fun h=>h1 (.inl h);omega
 cases S with
 | nil=>simp[noMa]
 | cons x S'=>
  simp only[List.length_cons] at h
  simp only
  split
  ·exact⟨h2,by simp only;omega⟩
  ·exact⟨h2,by simp only[List.length_cons];omega⟩
theorem build_small {t:Tp}{l:List Lk}{train ref:Int}{rv:Bool}{n:Int}:(buildM t l train ref rv n).1.2.2.1.length≤24∧(buildM t l train ref rv n).1.2.2.2.1.length≤8:=by
 unfold buildM
 split
 ·simp[noMa]
 split
 ·simp[noMa]
 simp only
 split
 ·simp[noMa]
 refine endC_small (Nat.le_trans (less_len _ _) ?_)
 rw[sec_len _ (Nat.le_refl _)]
 obtain⟨_,_,h,_⟩:=chain_good (t:=t) (l:=l) (train:=train) (s:=((locP t ref rv n).1.1,(locP t ref rv n).1.2.2))
 exact h
end Go.Proofs.YtpapiojicbbheaaGreatDoor

namespace Go.Proofs.YtpapiojicbbheaaGreatDoor
open Go.RowKit
set_option maxRecDepth 100000 in
theorem elemPk17:Elem Tryz.prog 44 105 2 32:=⟨Tryz.underlying44, _,_,rfl,rfl,rfl,rfl,rfl,by omega⟩
def PksRet (r:Except Int (List Pk)) (w:World) (e:Ending) (w':World):Prop:=
  Keep Never w w'∧match r with
    | .ok l=>∃A n c,e=.returned (.tuple #[.slice A n c,.int .i64 0])∧PksAt w' w'.heap.size A n c l
    | .error x=>x≠0∧e=.returned (.tuple #[.slice none 0 0,.int .i64 x])
structure SnI (u:Int) (S:List Sc) (res:Option (List Int)) (k:Nat) (last:Int) (v:List Int):Prop where
  eq:res=(secN u last (S.drop k)).map fun z=>v++z
  bnd:0≤last∧last≤32766
  len:v.length=4*k
theorem SnI.start {u:Int}{S:List Sc}:SnI u S (secN u 0 S) 0 0 []:=⟨by simp,by omega,rfl⟩
theorem SnI.bad {u:Int}{S:List Sc}{res:Option (List Int)}{k:Nat}{last:Int}{v:List Int}{s:Sc} (h:SnI u S res k last v) (hs:S[k]?=some s) (hb:(scaledM s.1 u false).2≠0∨(scaledM s.1 u false).1≤last):res=none:=by
 obtain⟨q1,q2⟩:=List.getElem?_eq_some_iff.1 hs
 rw[h.eq,List.drop_eq_getElem_cons q1,q2]
 unfold secN
 rw[if_pos hb];rfl
theorem SnI.next {u:Int}{S:List Sc}{res:Option (List Int)}{k:Nat}{last:Int}{v:List Int}{s:Sc} (h:SnI u S res k last v) (hs:S[k]?=some s) (h0:(scaledM s.1 u false).2=0) (h1:¬(scaledM s.1 u false).1≤last) :
    SnI u S res (k+1) (scaledM s.1 u false).1 (v++[(scaledM s.1 u false).1 - last,1,s.2,0]):=by
  obtain⟨q1,q2⟩:=List.getElem?_eq_some_iff.1 hs
  obtain⟨_,_,_,_,a5,a6⟩:=scaled_ok h0
  refine⟨?_,⟨a6,a5⟩,by rw[List.length_append,h.len];simp;omega⟩
  rw[h.eq,List.drop_eq_getElem_cons q1,q2]
  conv=>lhs;unfold secN
  rw[if_neg (by rintro(e | e);exact e h0;exact h1 e)]
  cases secN u (scaledM s.1 u false).1 (S.drop (k+1)) with
  | none=>rfl
  | some z=>simp
theorem SnI.fin {u:Int}{S:List Sc}{res:Option (List Int)}{last:Int}{v:List Int} (h:SnI u S res S.length last v):res=some v:=by
 rw[h.eq,List.drop_length]
 unfold secN;simp
def p15N (rv:Bool) (u:Int) (n:Nat) (v:List Int) (g:Int):List Int:=[nomI rv,u,0,0,(n:Int) - 1]++v++[0]++gapN u g
theorem packs_no {t:Tp}{m:Ma} (h:mayMA t m=false):packsM17 t m=.error 1:=by unfold packsM17;rw[if_pos h]
theorem packs_far {t:Tp}{m:Ma} (h:mayMA t m=true) (hu:bestM (endS m.2.2.2.1+m.2.2.2.2)<0):packsM17 t m=.error 7:=by
 unfold packsM17;rw[if_neg (by rw[h];decide)];simp only;rw[if_pos hu]
theorem packs_sec {t:Tp}{m:Ma} (h:mayMA t m=true) (hu:¬bestM (endS m.2.2.2.1+m.2.2.2.2)<0) (hv:secN (bestM (endS m.2.2.2.1+m.2.2.2.2)) 0 m.2.2.2.1=none):packsM17 t m=.error 7:=by
 unfold packsM17;rw[if_neg (by rw[h];decide)];simp only;rw[if_neg hu,hv]
theorem packs_go {t:Tp}{ref g:Int}{rv:Bool}{P:List Stp}{S:List Sc}{z:Int×Int}{u:Int}{v:List Int} (h:MayA t (ref,rv,P,S,g) z) (hue:bestM (endS S+g)=u) (hu:¬u<0) (hv:secN u 0 S=some v) :
    packsM17 t (ref,rv,P,S,g)=if P.length=1 then .ok [(15,p15N rv u S.length v g)] else
      (match linksM t ref rv P u with
        | .error e=>.error e
        | .ok q=>.ok [(15,p15N rv u S.length v g),q]):=by
  obtain⟨b,hb,_⟩:=left_some h.left
  obtain⟨b1,_,h2,_⟩:=left_some h.left
  simp only at hb h2
  have hp:P≠[]:=by rintro rfl;cases h2
  unfold packsM17
  rw[if_neg (by rw[may_iff.2 ⟨z,h⟩];decide)]
  simp only
  rw[hue,if_neg hu,hv]
  simp only
  rw[hb]
  match P,hp with
  | [s0],_=>simp[p15N]
  | s0::s1::l,_=>
   simp only[linksM,List.length_cons,List.headD_cons,List.drop_one,List.tail_cons,farP17,hb]
   rw[if_neg (show ¬(l.length+1+1=1) by omega)]
   unfold linkP linkV
   cases linkN t u (l.length+1+1) 1 (edgeM t s0.1) (alongP t (b.2.1,b.2.2,rv)) (s1::l) with
   | error e=>rfl
   | ok w=>
    simp only[p15N]
    by_cases hl:l=[]
    ·subst hl;simp
    ·have:¬(l.length+1+1=2):=by intro e;exact hl (List.eq_nil_of_length_eq_zero (by omega))
     simp[hl]
theorem linkP_len {P:List Stp}{rv:Bool}{u:Int}{q:Pk}{res:Except Int (List Int)} (h:linkP P rv u res=.ok q):∃v,res=.ok v∧q=(5,v++(if P.length=2 then [0] else [])):=by
 unfold linkP at h
 cases res with
 | error e=>cases h
 | ok v=>injection h with h;exact⟨v,rfl,h.symm⟩
theorem linkN_len {t:Tp}{u:Int}{n:Nat}:∀(l:List Stp) (i:Nat) (begin_ at_:Int) (w:List Int),linkN t u n i begin_ at_ l=.ok w→w.length≤8*l.length
  | [],i,begin_,at_,w,hw=>by
   unfold linkN at hw
   injection hw with hw
   subst hw
   simp
  | s::l,i,begin_,at_,w,hw=>by
   obtain⟨b,v,hb,hz,hv,rfl⟩:=linkN_cons hw
   have:=linkN_len l (i+1) _ _ v hv
   have h1:(if i=2 then [(n:Int) - 2] else []).length≤1:=by split <;> simp
   simp only[List.length_append,List.length_cons,List.length_nil]
   omega
theorem linksM_len {t:Tp}{ref:Int}{rv:Bool}{P:List Stp}{u:Int}{q:Pk} (h:linksM t ref rv P u=.ok q):q.2.length≤8*P.length+3:=by
 unfold linksM at h
 obtain⟨v,hv,rfl⟩:=linkP_len h
 unfold linkV at hv
 cases hl:linkN t u P.length 1 (edgeM t (P.headD (0,false)).1) (farP17 t ref rv) (P.drop 1) with
 | error e=>rw[hl] at hv;cases hv
 | ok w=>
  rw[hl] at hv
  injection hv with hv
  have h1:=linkN_len _ _ _ _ _ hl
  rw[List.length_drop] at h1
  have h2:(if P.length=2 then [(0:Int)] else []).length≤1:=by split <;> simp
  subst hv
  simp only[List.length_append,List.length_cons,List.length_nil]
  omega
theorem pks_one {w:World}{n c g:Nat}{A:Option Addr}{l:List Pk} (hl:l.length=n) (hc:n≤c) (hg:A=some ⟨g,0,none⟩) (hlt:g<w.heap.size)
    (h:∀i p,l[i]?=some p→∃A1 n1 c1,w.cell? ⟨g,i*2,none⟩=some (.int .i64 p.1)∧w.cell? ⟨g,i*2+1,none⟩=some (.slice A1 n1 c1)∧Rd w w.heap.size 1 A1 n1 (p.2.map (.int .i64))∧n1≤c1∧c1≤maxLen)
    (hb:l.any badP=false) (h8:∀p∈l,p.2.length≤8200):PksAt w w.heap.size A n c l:=by
  refine⟨hl,hc,fun i p hp=>?_⟩
  obtain⟨A1,n1,c1,h1,h2,h3,h4,h5⟩:=h i p hp
  obtain⟨⟨_,hi⟩,hv⟩:=items_num (id:=p.1) (V:=p.2) (any_not hb hp)
  refine⟨_,A1,n1,c1,hg,hlt,hlt,?_,?_,h3,h4,h5,fun x hx=>by have:=hv x hx;constructor <;> omega,h8 p (List.mem_of_getElem? hp)⟩
  ·have:(⟨g,0,none⟩:Addr).add (i*2)=⟨g,i*2,none⟩:=by unfold Addr.add;split <;> simp_all
   rw[this];exact h1
  ·have:(⟨g,0,none⟩:Addr).add (i*2)=⟨g,i*2,none⟩:=by unfold Addr.add;split <;> simp_all
   rw[this];exact h2
set_option maxHeartbeats 8000000 in
set_option maxRecDepth 100000 in
theorem packets_any (x:TA) (t:Tp) (B:Nat) (ref:Int) (rv:Bool) (P:List Stp) (S:List Sc) (g:Int) (Ap:Option Addr) (np cp:Nat) (As:Option Addr) (ns cs:Nat) (w:World) (h:TpAt w B x t) (hs:TpSmall x t) (hB:B≤w.heap.size) (hp:repStp.Sl w B Ap np cp P) (hS:ScAt w B As ns cs S) (hnp:np≤1000000) (hns:ns≤1000000) :
    Calls Tryz.prog 21 #[.agg x.cs,.agg #[.int .i64 ref,.bool rv,.slice Ap np cp,.slice As ns cs,.int .i64 g]] w (PksRet (packsM17 t (ref,rv,P,S,g)) w):=by
  have HMy:=qh (fun (W:World) (hk:Keep Never w W)=>may17_any x t B ref rv P S g Ap np cp As ns cs W (h.keep hk) hs (Nat.le_trans hB hk.size) (hp.keep hk (fun _ h=>h.elim)) (hS.keep hk) hnp hns)
  have HLk:=qh (fun (W:World) (hk:Keep Never w W) (u:Int) (z:Int×Int) (hm:MayA t (ref,rv,P,S,g) z)=>links_any x t B ref rv P S g u z Ap np cp As ns cs W (h.keep hk) hs (Nat.le_trans hB hk.size) (hp.keep hk (fun _ h=>h.elim)) hm)
  have HSt:=qh hS
  have HSl:Hid (S.length=ns):=qh hS.len
  have HPl:Hid (P.length=np):=qh (stps_rd hp).2.1.symm
  obtain⟨Ae,ne,ce,Aj,nj,cj,Ab,nb,cb,Ar,nr,cr⟩:=x
  simp only[TA.cs] at HMy HLk ⊢
  clear h hs hp hB hS
  obtain⟨w1,hw1⟩:∃V:World,w.alloc (.cells #[.slice Ae ne ce,.slice Aj nj cj,.slice Ab nb cb,.slice Ar nr cr] 27)=V:=⟨_,rfl⟩
  have zw1:w1.heap.size=w.heap.size+1:=by rw[←hw1];simp
  have kw1:Keep Never w w1:=by rw[←hw1];exact(Keep.refl _ _).alloc _
  have bw1:=Blk.new w 27 #[.slice Ae ne ce,.slice Aj nj cj,.slice Ab nb cb,.slice Ar nr cr]
  rw[hw1] at bw1
  obtain⟨w2,hw2⟩:∃V:World,w1.alloc (.cells #[.int .i64 ref,.bool rv,.slice Ap np cp,.slice As ns cs,.int .i64 g] 38)=V:=⟨_,rfl⟩
  have kw2:Keep Never w1 w2:=by rw[←hw2];exact(Keep.refl _ _).alloc _
  have bw2:=Blk.new w1 38 #[.int .i64 ref,.bool rv,.slice Ap np cp,.slice As ns cs,.int .i64 g]
  rw[hw2,zw1] at bw2
  have HB1:=qh (bw1.keep kw2 (fun h=>h))
  have HB2:=qh bw2
  have HK:=qh (kw1.trans kw2)
  clear kw1 kw2 bw1 bw2
  have HT2:=HB1
  have HM2:=HB2
  have HK2:=HK
  have hw:=HMy.out w2 HK.out
  obtain⟨mb,hmb⟩:∃z,mayMA t (ref,rv,P,S,g)=z:=⟨_,rfl⟩
  rw[hmb] at hw
  have HC:=qh hw
  have HMb:=qh hmb
  clear hw hmb HMy HB1 HB2 HK
  obtain⟨y0,y1,y2,y3⟩:=bc4 HT2.out
  obtain⟨m0,m1,m2,m3,m4⟩:=bc5 HM2.out
  go_enter Tryz.func21, Tryz.ntmps21
  go_wp2_with fail
  refine HC.out.mono ?_
  rintro en w3 ⟨rfl,hk⟩
  have HK3:=qtr HK2 hk
  have HT3:=qkb HT2 hk
  have HM3:=qkb HM2 hk
  clear hk HC HT2 HM2 HK2 y0 y1 y2 y3 m0 m1 m2 m3 m4 hw1 hw2 zw1
  cases mb with
  | false=>
   go_wp2_with fail
   go_ret2
   refine⟨HK3.out,?_⟩
   rw[packs_no HMb.out]
   exact⟨by decide,rfl⟩
  | true=>
  obtain⟨z,hmz⟩:=may_iff.1 HMb.out
  have HMz:=qh hmz
  have h1s:=hmz.some_
  have h8s:=hmz.eight
  simp only at h1s h8s
  rw[HSl.out] at h1s h8s
  obtain⟨m,rfl⟩:∃m,ns=m+1:=⟨ns - 1,by omega⟩
  obtain⟨sad,sl,hAs,_,hsl,c0,c1⟩:=(HSt.out.keep HK3.out).rd.sc (show m<m+1 by omega)
  subst hAs
  have HSL:Hid (endS S=sl.1):=qh (by have:=endS_take hsl;rwa [List.take_of_length_le (by rw[HSl.out];exact Nat.le_refl _)] at this)
  have hbig:=hmz.sects.big sl (List.mem_of_getElem? hsl)
  have hlo:=hmz.sects.up m sl hsl
  have hp0:=hmz.sects.pos (j:=m) (by rw[HSl.out];omega)
  have hg0:=hmz.gap0
  have hg1:=hmz.gap1
  simp only at hg0 hg1
  obtain⟨sl1,sl2⟩:=sl
  simp only at c0 c1 HSL hbig hlo hp0
  have hz0:(m:Int)<(m:Int)+1:=by omega
  have hz3:(0:Int)≤(m:Int)+1:=by omega
  have hz4:((m:Int)+1).toNat=m+1:=by omega
  have hz5:IntKind.i64.wrap ((m:Int)+1 - 1)=(m:Int):=by rw[show (m:Int)+1 - 1=m by omega];exact IntWalk.i64_in _ (by omega)
  have hz6:IntKind.i64.wrap (m:Int)=(m:Int):=IntWalk.i64_in _ (by omega)
  have hz7:IntKind.i64.wrap (sl1+g)=sl1+g:=IntWalk.i64_in _ (by omega)
  obtain⟨u,hu⟩:∃u,bestM (sl1+g)=u:=⟨_,rfl⟩
  have HU:Hid (bestM (endS S+g)=u):=qh (by rw[HSL.out,hu])
  have HBst:Hid (∀V,Calls Tryz.prog 25 #[.int .i64 (sl1+g)] V fun e w'=>e=.returned (.int .i64 u)∧Keep Never V w'):=qh (fun V=>by have h:=best_any (sl1+g) V;rw[hu] at h;exact h)
  have m3:w3.cell? ⟨w.heap.size+1,3,none⟩=some (.slice (some sad) (m+1) cs):=HM3.out.cell 3
  have m4:w3.cell? ⟨w.heap.size+1,4,none⟩=some (.int .i64 g):=HM3.out.cell 4
  have HS2:Hid (∀W',Keep Never w3 W'→Keep Never w3 W'∧W'.cell? ⟨w.heap.size+1,3,none⟩=some (.slice (some sad) (m+1) cs)∧W'.cell? ⟨w.heap.size+1,4,none⟩=some (.int .i64 g)∧W'.cell? (sad.add (m*2))=some (.int .i64 sl1)):=qh (fun W' h=>⟨h,keepT h m3,keepT h m4,keepT h c0⟩)
  have HRest:=qh (And.intro hmz (And.intro hbig hg1))
  clear hmz h1s hsl hbig hlo hp0 hg0 hg1 hu c1
  go_wp2_with fail
  clear m3 m4 c0
  go_region_held3 (fun W'=>Keep Never w3 W'∧W'.cell? ⟨w.heap.size+1,3,none⟩=some (.slice (some sad) (m+1) cs)∧W'.cell? ⟨w.heap.size+1,4,none⟩=some (.int .i64 g)∧W'.cell? (sad.add (m*2))=some (.int .i64 sl1))
    (first| assumption | exact HS2.out _ ((Keep.refl Never w3).drew) | exact HS2.out _ (Keep.trans (And.left (by assumption)) hk3) | exact HS2.out _ (Keep.trans ((Keep.refl Never w3).drew) hk3))
    (first
      | (go_at_call 25; refine(HBst.out _).mono ?_;rintro e w5 ⟨rfl,hk3⟩))
  rename_i hS
  have hk:=hS.1
  have HK5:=qtr HK3 hk
  have HT5:=qkb HT3 hk
  have HM5:=qkb HM3 hk
  clear hS hk HS2
  clear hz7
  by_cases hu0:u<0
  case pos=>
   have t0:decide (u<0)=true:=by simpa using hu0
   have HF:Hid (packsM17 t (ref,rv,P,S,g)=.error 7):=qh (packs_far HMb.out (by rw[HU.out];exact hu0))
   clear hu0
   go_wp2_with fail
   go_ret2
   refine⟨HK5.out,?_⟩
   rw[HF.out]
   exact⟨by decide,rfl⟩
  have t0:decide (u<0)=false:=by simpa using hu0
  have HUn:=qh hu0
  clear hu0
  obtain⟨nm,hnm⟩:∃q,nomI rv=q:=⟨_,rfl⟩
  have HNm:=qh hnm
  have HCn:Hid (∀V,Calls Tryz.prog 77 #[.bool rv] V fun e w'=>e=.returned (.int .i64 nm)∧Keep Never V w'):=qh (fun V=>by have h:=nom_any rv V;rw[hnm] at h;exact h)
  clear hnm
  have m1:w5.cell? ⟨w.heap.size+1,1,none⟩=some (.bool rv):=HM5.out.cell 1
  have m3:w5.cell? ⟨w.heap.size+1,3,none⟩=some (.slice (some sad) (m+1) cs):=HM5.out.cell 3
  have HS2:Hid (∀W',Keep Never w5 W'→Keep Never w5 W'∧W'.cell? ⟨w.heap.size+1,1,none⟩=some (.bool rv)∧W'.cell? ⟨w.heap.size+1,3,none⟩=some (.slice (some sad) (m+1) cs)):=qh (fun W' h=>⟨h,keepT h m1,keepT h m3⟩)
  go_wp2_with fail
  clear m1 m3
  go_region_held3 (fun W'=>Keep Never w5 W'∧W'.cell? ⟨w.heap.size+1,1,none⟩=some (.bool rv)∧W'.cell? ⟨w.heap.size+1,3,none⟩=some (.slice (some sad) (m+1) cs))
    (first| assumption | exact HS2.out _ ((Keep.refl Never w5).drew) | exact HS2.out _ (Keep.trans (And.left (by assumption)) hk3) | exact HS2.out _ (Keep.trans ((Keep.refl Never w5).drew) hk3) | exact HS2.out _ (Keep.alloc (And.left (by assumption)) _) | exact HS2.out _ (Keep.alloc (Keep.trans ((Keep.refl Never w5).drew) hk3) _) | exact HS2.out _ (Keep.alloc ((Keep.refl Never w5).drew) _))
    (first
      | (go_at_call 77; refine(HCn.out _).mono ?_;rintro e w6 ⟨rfl,hk3⟩))
  rename_i hS
  have hk:=hS.1
  have hk6:=hk3.size
  obtain⟨w7,hw7⟩:∃V:World,w6.alloc (.cells #[.int .i64 nm,.int .i64 u,.int .i64 0,.int .i64 0,.int .i64 m] 3)=V:=⟨_,rfl⟩
  have hk7:Keep Never w6 w7:=by rw[←hw7];exact(Keep.refl _ _).alloc _
  have B7:=Blk.new w6 3 #[.int .i64 nm,.int .i64 u,.int .i64 0,.int .i64 0,.int .i64 m]
  rw[hw7] at B7
  obtain⟨br,hbr⟩:∃q,w6.heap.size=q:=⟨_,rfl⟩
  rw[hbr] at B7
  rw[hw7,hbr]
  rw[hw7] at hk
  have HK7:=qtr HK5 hk
  have HT7:=qkb HT5 hk
  have HM7:=qkb HM5 hk
  have HO7:Hid (Own w7 w.heap.size 3 1 (some ⟨br,0,none⟩) 5 5 (intCells ([nm,u,0,0,(m:Int)]++[]))):=qh (Own.of_blk2 (xs:=[.int .i64 nm,.int .i64 u,.int .i64 0,.int .i64 0,.int .i64 m]) B7 rfl (by unfold maxLen;omega) (by rw[←hbr];have:=HK5.out.size;simp at hk6;omega))
  clear hS hk hk3 hk6 B7 hw7 hbr HS2 HT5 HM5 HK5 HCn HBst t0
  obtain⟨res,hres⟩:∃z,secN u 0 S=z:=⟨_,rfl⟩
  have HJ0:Hid (SnI u S res 0 0 []):=qh (by rw[←hres];exact SnI.start)
  have HRs:=qh hres
  have hm8:m+1≤8:=h8s
  clear hres h8s
  have m3:w7.cell? ⟨w.heap.size+1,3,none⟩=some (.slice (some sad) (m+1) cs):=HM7.out.cell 3
  go_wp2_with fail
  clear m3
  go_loopw [7,8,49] (fun s7 s8 s49 wr=>∃(k:Nat) (last:Int) (v:List Int) (Ao:Option Addr) (no co:Nat),s7=.slice Ao no co∧s8=.int .i64 last∧s49=.int .i64 k∧k≤m+1∧Hid (SnI u S res k last v∧no=5+v.length∧Own wr w.heap.size 3 1 Ao no co (intCells ([nm,u,0,0,(m:Int)]++v))∧Blk wr w.heap.size 27 #[.slice Ae ne ce,.slice Aj nj cj,.slice Ab nb cb,.slice Ar nr cr]∧Blk wr (w.heap.size+1) 38 #[.int .i64 ref,.bool rv,.slice Ap np cp,.slice (some sad) (m+1) cs,.int .i64 g]∧Keep Never w wr)) (fun _ _ s49 _=>m+1 - (intOf s49).toNat)
  case atStart=>exact⟨0,0,[],_,5,5,rfl,rfl,rfl,by omega,qh ⟨HJ0.out,rfl,HO7.out,HT7.out,HM7.out,HK7.out⟩⟩
  case round=>
   clear HO7 HT7 HM7 HK7 HJ0
   obtain⟨k,last,v,Ao,no,co,rfl,rfl,rfl,hk,HH⟩:=hrel
   have HJ:=qh HH.out.1
   have HNo:=qh HH.out.2.1
   have HOr:=qh HH.out.2.2.1
   have HTr:=qh HH.out.2.2.2.1
   have HMr:=qh HH.out.2.2.2.2.1
   have HKr:=qh HH.out.2.2.2.2.2
   have hno:no≤40:=by have h1:=HNo.out;have h2:=HJ.out.len;omega
   clear HH
   have hzr:=HKr.out.size
   by_cases h0:k<m+1
   case neg=>
    obtain rfl:k=m+1:=by omega
    have hki:¬(m:Int)+1<(m:Int)+1:=by omega
    have HF:Hid (secN u 0 S=some v):=qh (by rw[HRs.out];have h1:=HJ.out;rw[←HSl.out] at h1;exact h1.fin)
    have HVl:=qh HJ.out.len
    go_upto_region 18 with(at_builtin;refine wpList_app _ rfl (.tmp 77) (.tmp 78) _ rfl elemInt17 w.heap.size (A:=Ao) (n:=no) (c:=co) (by go_simp) (HOr.out.alloc _) _ (A':=some ⟨_,0,none⟩) (m:=1) (c':=1) (by go_simp) (Rd.of_blk (n:=1) (cs:=[.int .i64 0]) (Blk.new _ _ _) rfl) (by simp[Value.oneCell']) (by omega) (by unfold maxLen;omega) (by simp;omega) ?_;intro A20 c20 w20 hown hk hrow;have hk20:Keep (InRow Ao) wr w20:=((Keep.refl _ wr).alloc _).trans hk;have HO20:=qh hown;clear hown hk hrow)
    have hk:=hk20
    have HT20:=qh (HTr.out.keep hk (fun h=>HOr.out.ne_blk HTr.out (by decide) _ h rfl))
    have HM20:=qh (HMr.out.keep hk (fun h=>HOr.out.ne_blk HMr.out (by decide) _ h rfl))
    have HK20:=qh (HKr.out.then_ hk (fun i hi h=>by have:=(HOr.out.row h).1;omega))
    clear hk hk20 HTr HMr HOr HKr hzr HJ
    have m4:w20.cell? ⟨w.heap.size+1,4,none⟩=some (.int .i64 g):=HM20.out.cell 4
    obtain⟨sc,hsc⟩:∃z,scaledM g u false=z:=⟨_,rfl⟩
    have HSc:=qh hsc
    have hc:=scaled_any g u false w20
    rw[hsc] at hc
    obtain⟨gv,ge⟩:=sc
    simp only at hc
    have HC:=qh hc
    clear hc hsc
    go_wp2_with fail
    refine HC.out.mono ?_
    rintro en w21 ⟨rfl,hk⟩
    have HK21:=qtr HK20 hk
    have HT21:=qkb HT20 hk
    have HM21:=qkb HM20 hk
    have HO21:=qko HO20 hk
    clear hk HC m4 HT20 HM20 HK20 HO20
    have hzr:=HK21.out.size
    obtain⟨pv,hpv⟩:∃z,p15N rv u S.length v g=z:=⟨_,rfl⟩
    have HPv:=qh hpv
    have HPe:Hid (pv=[nm,u,0,0,(m:Int)]++v++[0]++gapN u g):=qh (by rw[←hpv];unfold p15N;rw[HNm.out,HSl.out,show ((m+1:Nat):Int) - 1=(m:Int) by omega])
    clear hpv
    by_cases g1:0<gv
    ·have t1:decide (gv>0)=true:=by simpa using g1
     have HGa:Hid (gapN u g=[1,gv,0,0]):=qh (by unfold gapN;rw[HSc.out];simp only;rw[if_pos g1])
     clear g1
     go_upto_region 22 with(at_builtin;refine wpList_app _ rfl (.tmp 89) (.tmp 91) _ rfl elemInt17 w.heap.size (A:=A20) (n:=(no+1)) (c:=c20) (by go_simp) (HO21.out.alloc _) _ (A':=some ⟨_,0,none⟩) (m:=4) (c':=4) (by go_simp) (Rd.of_blk (n:=4) (cs:=[.int .i64 1,.int .i64 gv,.int .i64 0,.int .i64 0]) (Blk.new _ _ _) rfl) (by simp[Value.oneCell']) (by omega) (by unfold maxLen;omega) (by simp;omega) ?_;intro A22 c22 w22 hown hk hrow;have hk22:Keep (InRow A20) w21 w22:=((Keep.refl _ w21).alloc _).trans hk;have HO22:=qh hown;clear hown hk hrow)
     have hk:=hk22
     have HT22:=qh (HT21.out.keep hk (fun h=>HO21.out.ne_blk HT21.out (by decide) _ h rfl))
     have HM22:=qh (HM21.out.keep hk (fun h=>HO21.out.ne_blk HM21.out (by decide) _ h rfl))
     have HK22:=qh (HK21.out.then_ hk (fun i hi h=>by have:=(HO21.out.row h).1;omega))
     have HP22:Hid (Own w22 w.heap.size 3 1 A22 (no+1+4) c22 (intCells pv)):=qh (by rw[HPe.out,HGa.out,intCells_app,intCells_app];exact HO22.out)
     have HPn:Hid (pv.length=no+1+4∧pv.length≤8200):=qh (by rw[HPe.out,HGa.out];have:=HNo.out;simp;omega)
     have HO22:=HP22
     clear hk hk22 hzr HT21 HM21 HK21 HO21 HP22
     have hz22:=HK22.out.size
     obtain⟨w23,hw23⟩:∃V:World,w22.alloc (.cells #[.int .i64 15,.slice A22 (no+1+4) c22] 105)=V:=⟨_,rfl⟩
     have hk:Keep Never w22 w23:=by rw[←hw23];exact(Keep.refl _ _).alloc _
     have B23:=Blk.new w22 105 #[.int .i64 15,.slice A22 (no+1+4) c22]
     rw[hw23] at B23
     obtain⟨bpk,hbpk⟩:∃q,w22.heap.size=q:=⟨_,rfl⟩
     rw[hbpk] at B23
     have HK23:=qtr HK22 hk
     have HT23:=qkb HT22 hk
     have HM23:=qkb HM22 hk
     have HO23:=qko HO22 hk
     have HB23:=qh B23
     have HBz:Hid (w.heap.size≤bpk):=qh (by rw[←hbpk];exact hz22)
     clear hk B23 hz22 HT22 HM22 HK22 HO22
     by_cases g3:np=1
     case pos=>
      have t3:((np:Int)==1)=true:=by simp;omega
      have t3b:(np==1)=true:=by simp;omega
      have HG:Hid (packsM17 t (ref,rv,P,S,g)=.ok [(15,pv)]):=qh (by rw[packs_go HMz.out HU.out (by have:=HUn.out;omega) HF.out,if_pos (by rw[HPl.out];exact g3),HPv.out])
      have m2:w23.cell? ⟨w.heap.size+1,2,none⟩=some (.slice Ap np cp):=HM23.out.cell 2
      clear g3
      go_wp2_with fail
      go_ret2
      refine⟨HK23.out,?_⟩
      rw[HG.out]
      refine⟨_,1,1,rfl,pks_one rfl (Nat.le_refl _) rfl HB23.out.lt (fun i p hp=>?_) (packs_good HG.out) (fun p hp=>?_)⟩
      ·match i,hp with
       | 0,hp=>
        simp only[List.getElem?_cons_zero,Option.some.injEq] at hp
        subst hp
        exact⟨_,_,_,HB23.out.cell 0,HB23.out.cell 1,HO23.out.rd,HO23.out.cap_le,by rcases HO23.out.form with⟨_,_,h,_⟩ | ⟨_,_,_,_,_,_,h,_⟩;unfold maxLen;omega;exact h⟩
       | i+1,hp=>simp at hp
      ·simp only[List.mem_singleton] at hp
       subst hp
       exact HPn.out.2
     have t3:((np:Int)==1)=false:=by simp;omega
     have t3b:(np==1)=false:=by simp;omega
     have HGo:Hid (packsM17 t (ref,rv,P,S,g)=(match linksM t ref rv P u with | .error e=>.error e | .ok q=>.ok [(15,pv),q])):=qh (by rw[packs_go HMz.out HU.out (by have:=HUn.out;omega) HF.out,if_neg (by rw[HPl.out];exact g3),HPv.out])
     have hw:=HLk.out w23 HK23.out u z HMz.out
     obtain⟨lr,hlr⟩:∃y,linksM t ref rv P u=y:=⟨_,rfl⟩
     rw[hlr] at hw
     have HLr:=qh hlr
     obtain⟨y0,y1,y2,y3⟩:=bc4 HT23.out
     obtain⟨m0,m1,m2,m3,m4⟩:=bc5 HM23.out
     unfold PkRet at hw
     clear g3 hlr
     cases lr with
     | error x=>
      simp only at hw
      have HC:=qh hw
      have HG:Hid (packsM17 t (ref,rv,P,S,g)=.error x):=qh (by rw[HGo.out,HLr.out])
      clear hw
      go_wp2_with fail
      refine HC.out.mono ?_
      rintro en w24 ⟨hk,hx,rfl⟩
      have HK24:=qtr HK23 hk
      have HT24:=qkb HT23 hk
      have HM24:=qkb HM23 hk
      have HO24:=qko HO23 hk
      have HB24:=qkb HB23 hk
      have t4:(x != 0)=true:=by simpa using hx
      have HX:=qh hx
      clear hk hx HC y0 y1 y2 y3 m0 m1 m2 m3 m4 hw23 hbpk HT23 HM23 HK23 HO23 HB23
      go_wp2_with fail
      go_ret2
      refine⟨HK24.out.alloc _,?_⟩
      rw[HG.out]
      exact⟨HX.out,rfl⟩
     | ok q=>
      obtain⟨q1,q2⟩:=q
      simp only at hw
      have HC:=qh hw
      have HG:Hid (packsM17 t (ref,rv,P,S,g)=.ok [(15,pv),(q1,q2)]):=qh (by rw[HGo.out,HLr.out])
      clear hw
      go_wp2_with fail
      refine HC.out.mono ?_
      rintro en w24 ⟨hk,A2,n2,c2,rfl,hn2,ho⟩
      have HK24:=qtr HK23 hk
      have HT24:=qkb HT23 hk
      have HM24:=qkb HM23 hk
      have HO24:=qko HO23 hk
      have HB24:=qkb HB23 hk
      have HOq24:=qh (ho.less HK23.out.size)
      have HN2:=qh hn2
      clear hk hn2 ho HC y0 y1 y2 y3 m0 m1 m2 m3 m4 hw23 hbpk HT23 HM23 HK23 HO23 HB23
      obtain⟨w25,hw25⟩:∃V:World,w24.alloc (.cells #[.int .i64 q1,.slice A2 n2 c2] 105)=V:=⟨_,rfl⟩
      have hk:Keep Never w24 w25:=by rw[←hw25];exact(Keep.refl _ _).alloc _
      have B25:=Blk.new w24 105 #[.int .i64 q1,.slice A2 n2 c2]
      rw[hw25] at B25
      obtain⟨bq,hbq⟩:∃q,w24.heap.size=q:=⟨_,rfl⟩
      rw[hbq] at B25
      have HK25:=qtr HK24 hk
      have HT25:=qkb HT24 hk
      have HM25:=qkb HM24 hk
      have HO25:=qko HO24 hk
      have HB25:=qkb HB24 hk
      have HOq25:=qko HOq24 hk
      have HD25:=qh B25
      have hz25:=HK25.out.size
      obtain⟨b0,b1⟩:=bc2 HD25.out
      have HOk25:Hid (Own w25 w.heap.size 105 2 (some ⟨bpk,0,none⟩) 1 1 [.int .i64 15,.slice A22 (no+1+4) c22]):=qh (Own.of_blk2 (xs:=[.int .i64 15,.slice A22 (no+1+4) c22]) HB25.out rfl (by unfold maxLen;omega) HBz.out)
      clear hk B25 HT24 HM24 HK24 HO24 HB24 HOq24
      go_wp2_with (at_builtin;refine wpList_app _ rfl (.tmp 114) (.tmp 116) _ rfl elemPk17 w.heap.size (A:=some ⟨bpk,0,none⟩) (n:=1) (c:=1) (by go_simp) (HOk25.out.alloc _) _ (A':=some ⟨_,0,none⟩) (m:=1) (c':=1) (by go_simp) (Rd.of_blk (n:=1) (cs:=[.int .i64 q1,.slice A2 n2 c2]) (Blk.new _ _ _) rfl) (by simp[Value.oneCell']) (by omega) (by unfold maxLen;omega) (by simp;omega) ?_;intro A26 c26 w26 hown hk hrow;have hk26:Keep (InRow (some ⟨bpk,0,none⟩)) w25 w26:=((Keep.refl _ w25).alloc _).trans hk;have HO26:=qh hown;have HK26:=qh hk26;clear hown hk hrow hk26)
      go_ret2
      refine⟨HK25.out.then_ HK26.out (fun i hi h=>by have:=(HOk25.out.row h).1;omega),?_⟩
      rw[HG.out]
      rcases HO26.out.form with⟨_,h9,_⟩ | ⟨gb,cur,h9,_,hblk,_⟩
      ·exact absurd h9 (by omega)
      ·subst h9
       refine⟨_,1+1,c26,rfl,pks_one rfl HO26.out.cap_le rfl hblk.lt (fun i p hp=>?_) (packs_good HG.out) (fun p hp=>?_)⟩
       ·match i,hp with
        | 0,hp=>
         simp only[List.getElem?_cons_zero,Option.some.injEq] at hp
         subst hp
         exact⟨_,_,_,HO26.out.cell0 (j:=0) rfl,HO26.out.cell0 (j:=1) rfl,(HO25.out.keep HK26.out (fun q h=>HO25.out.ne_own HOk25.out (by decide) q h)).rd,HO25.out.cap_le,by rcases HO25.out.form with⟨_,_,h,_⟩ | ⟨_,_,_,_,_,_,h,_⟩;unfold maxLen;omega;exact h⟩
        | 1,hp=>
         simp only[List.getElem?_cons_succ,List.getElem?_cons_zero,Option.some.injEq] at hp
         subst hp
         exact⟨_,_,_,HO26.out.cell0 (j:=2) rfl,HO26.out.cell0 (j:=3) rfl,(HOq25.out.keep HK26.out (fun q h=>HOq25.out.ne_own HOk25.out (by decide) q h)).rd,HOq25.out.cap_le,by rcases HOq25.out.form with⟨_,_,h,_⟩ | ⟨_,_,_,_,_,_,h,_⟩;unfold maxLen;omega;exact h⟩
        | i+2,hp=>simp at hp
       ·rcases List.mem_cons.1 hp with rfl | hp
        ·exact HPn.out.2
        ·simp only[List.mem_singleton] at hp
         subst hp
         have h1:=linksM_len HLr.out
         have h2:=HMz.out.few
         simp only at h1 h2
         show q2.length≤8200
         omega
    ·have t1:decide (gv>0)=false:=by simpa using g1
     have HGa:Hid (gapN u g=[0,0]):=qh (by unfold gapN;rw[HSc.out];simp only;rw[if_neg g1])
     clear g1
     go_upto_region 22 with(at_builtin;refine wpList_app _ rfl (.tmp 93) (.tmp 94) _ rfl elemInt17 w.heap.size (A:=A20) (n:=(no+1)) (c:=c20) (by go_simp) (HO21.out.alloc _) _ (A':=some ⟨_,0,none⟩) (m:=2) (c':=2) (by go_simp) (Rd.of_blk (n:=2) (cs:=[.int .i64 0,.int .i64 0]) (Blk.new _ _ _) rfl) (by simp[Value.oneCell']) (by omega) (by unfold maxLen;omega) (by simp;omega) ?_;intro A22 c22 w22 hown hk hrow;have hk22:Keep (InRow A20) w21 w22:=((Keep.refl _ w21).alloc _).trans hk;have HO22:=qh hown;clear hown hk hrow)
     have hk:=hk22
     have HT22:=qh (HT21.out.keep hk (fun h=>HO21.out.ne_blk HT21.out (by decide) _ h rfl))
     have HM22:=qh (HM21.out.keep hk (fun h=>HO21.out.ne_blk HM21.out (by decide) _ h rfl))
     have HK22:=qh (HK21.out.then_ hk (fun i hi h=>by have:=(HO21.out.row h).1;omega))
     have HP22:Hid (Own w22 w.heap.size 3 1 A22 (no+1+2) c22 (intCells pv)):=qh (by rw[HPe.out,HGa.out,intCells_app,intCells_app];exact HO22.out)
     have HPn:Hid (pv.length=no+1+2∧pv.length≤8200):=qh (by rw[HPe.out,HGa.out];have:=HNo.out;simp;omega)
     have HO22:=HP22
     clear hk hk22 hzr HT21 HM21 HK21 HO21 HP22
     have hz22:=HK22.out.size
     obtain⟨w23,hw23⟩:∃V:World,w22.alloc (.cells #[.int .i64 15,.slice A22 (no+1+2) c22] 105)=V:=⟨_,rfl⟩
     have hk:Keep Never w22 w23:=by rw[←hw23];exact(Keep.refl _ _).alloc _
     have B23:=Blk.new w22 105 #[.int .i64 15,.slice A22 (no+1+2) c22]
     rw[hw23] at B23
     obtain⟨bpk,hbpk⟩:∃q,w22.heap.size=q:=⟨_,rfl⟩
     rw[hbpk] at B23
     have HK23:=qtr HK22 hk
     have HT23:=qkb HT22 hk
     have HM23:=qkb HM22 hk
     have HO23:=qko HO22 hk
     have HB23:=qh B23
     have HBz:Hid (w.heap.size≤bpk):=qh (by rw[←hbpk];exact hz22)
     clear hk B23 hz22 HT22 HM22 HK22 HO22
     by_cases g3:np=1
     case pos=>
      have t3:((np:Int)==1)=true:=by simp;omega
      have t3b:(np==1)=true:=by simp;omega
      have HG:Hid (packsM17 t (ref,rv,P,S,g)=.ok [(15,pv)]):=qh (by rw[packs_go HMz.out HU.out (by have:=HUn.out;omega) HF.out,if_pos (by rw[HPl.out];exact g3),HPv.out])
      have m2:w23.cell? ⟨w.heap.size+1,2,none⟩=some (.slice Ap np cp):=HM23.out.cell 2
      clear g3
      go_wp2_with fail
      go_ret2
      refine⟨HK23.out,?_⟩
      rw[HG.out]
      refine⟨_,1,1,rfl,pks_one rfl (Nat.le_refl _) rfl HB23.out.lt (fun i p hp=>?_) (packs_good HG.out) (fun p hp=>?_)⟩
      ·match i,hp with
       | 0,hp=>
        simp only[List.getElem?_cons_zero,Option.some.injEq] at hp
        subst hp
        exact⟨_,_,_,HB23.out.cell 0,HB23.out.cell 1,HO23.out.rd,HO23.out.cap_le,by rcases HO23.out.form with⟨_,_,h,_⟩ | ⟨_,_,_,_,_,_,h,_⟩;unfold maxLen;omega;exact h⟩
       | i+1,hp=>simp at hp
      ·simp only[List.mem_singleton] at hp
       subst hp
       exact HPn.out.2
     have t3:((np:Int)==1)=false:=by simp;omega
     have t3b:(np==1)=false:=by simp;omega
     have HGo:Hid (packsM17 t (ref,rv,P,S,g)=(match linksM t ref rv P u with | .error e=>.error e | .ok q=>.ok [(15,pv),q])):=qh (by rw[packs_go HMz.out HU.out (by have:=HUn.out;omega) HF.out,if_neg (by rw[HPl.out];exact g3),HPv.out])
     have hw:=HLk.out w23 HK23.out u z HMz.out
     obtain⟨lr,hlr⟩:∃y,linksM t ref rv P u=y:=⟨_,rfl⟩
     rw[hlr] at hw
     have HLr:=qh hlr
     obtain⟨y0,y1,y2,y3⟩:=bc4 HT23.out
     obtain⟨m0,m1,m2,m3,m4⟩:=bc5 HM23.out
     unfold PkRet at hw
     clear g3 hlr
     cases lr with
     | error x=>
      simp only at hw
      have HC:=qh hw
      have HG:Hid (packsM17 t (ref,rv,P,S,g)=.error x):=qh (by rw[HGo.out,HLr.out])
      clear hw
      go_wp2_with fail
      refine HC.out.mono ?_
      rintro en w24 ⟨hk,hx,rfl⟩
      have HK24:=qtr HK23 hk
      have HT24:=qkb HT23 hk
      have HM24:=qkb HM23 hk
      have HO24:=qko HO23 hk
      have HB24:=qkb HB23 hk
      have t4:(x != 0)=true:=by simpa using hx
      have HX:=qh hx
      clear hk hx HC y0 y1 y2 y3 m0 m1 m2 m3 m4 hw23 hbpk HT23 HM23 HK23 HO23 HB23
      go_wp2_with fail
      go_ret2
      refine⟨HK24.out.alloc _,?_⟩
      rw[HG.out]
      exact⟨HX.out,rfl⟩
     | ok q=>
      obtain⟨q1,q2⟩:=q
      simp only at hw
      have HC:=qh hw
      have HG:Hid (packsM17 t (ref,rv,P,S,g)=.ok [(15,pv),(q1,q2)]):=qh (by rw[HGo.out,HLr.out])
      clear hw
      go_wp2_with fail
      refine HC.out.mono ?_
      rintro en w24 ⟨hk,A2,n2,c2,rfl,hn2,ho⟩
      have HK24:=qtr HK23 hk
      have HT24:=qkb HT23 hk
      have HM24:=qkb HM23 hk
      have HO24:=qko HO23 hk
      have HB24:=qkb HB23 hk
      have HOq24:=qh (ho.less HK23.out.size)
      have HN2:=qh hn2
      clear hk hn2 ho HC y0 y1 y2 y3 m0 m1 m2 m3 m4 hw23 hbpk HT23 HM23 HK23 HO23 HB23
      obtain⟨w25,hw25⟩:∃V:World,w24.alloc (.cells #[.int .i64 q1,.slice A2 n2 c2] 105)=V:=⟨_,rfl⟩
      have hk:Keep Never w24 w25:=by rw[←hw25];exact(Keep.refl _ _).alloc _
      have B25:=Blk.new w24 105 #[.int .i64 q1,.slice A2 n2 c2]
      rw[hw25] at B25
      obtain⟨bq,hbq⟩:∃q,w24.heap.size=q:=⟨_,rfl⟩
      rw[hbq] at B25
      have HK25:=qtr HK24 hk
      have HT25:=qkb HT24 hk
      have HM25:=qkb HM24 hk
      have HO25:=qko HO24 hk
      have HB25:=qkb HB24 hk
      have HOq25:=qko HOq24 hk
      have HD25:=qh B25
      have hz25:=HK25.out.size
      obtain⟨b0,b1⟩:=bc2 HD25.out
      have HOk25:Hid (Own w25 w.heap.size 105 2 (some ⟨bpk,0,none⟩) 1 1 [.int .i64 15,.slice A22 (no+1+2) c22]):=qh (Own.of_blk2 (xs:=[.int .i64 15,.slice A22 (no+1+2) c22]) HB25.out rfl (by unfold maxLen;omega) HBz.out)
      clear hk B25 HT24 HM24 HK24 HO24 HB24 HOq24
      go_wp2_with (at_builtin;refine wpList_app _ rfl (.tmp 114) (.tmp 116) _ rfl elemPk17 w.heap.size (A:=some ⟨bpk,0,none⟩) (n:=1) (c:=1) (by go_simp) (HOk25.out.alloc _) _ (A':=some ⟨_,0,none⟩) (m:=1) (c':=1) (by go_simp) (Rd.of_blk (n:=1) (cs:=[.int .i64 q1,.slice A2 n2 c2]) (Blk.new _ _ _) rfl) (by simp[Value.oneCell']) (by omega) (by unfold maxLen;omega) (by simp;omega) ?_;intro A26 c26 w26 hown hk hrow;have hk26:Keep (InRow (some ⟨bpk,0,none⟩)) w25 w26:=((Keep.refl _ w25).alloc _).trans hk;have HO26:=qh hown;have HK26:=qh hk26;clear hown hk hrow hk26)
      go_ret2
      refine⟨HK25.out.then_ HK26.out (fun i hi h=>by have:=(HOk25.out.row h).1;omega),?_⟩
      rw[HG.out]
      rcases HO26.out.form with⟨_,h9,_⟩ | ⟨gb,cur,h9,_,hblk,_⟩
      ·exact absurd h9 (by omega)
      ·subst h9
       refine⟨_,1+1,c26,rfl,pks_one rfl HO26.out.cap_le rfl hblk.lt (fun i p hp=>?_) (packs_good HG.out) (fun p hp=>?_)⟩
       ·match i,hp with
        | 0,hp=>
         simp only[List.getElem?_cons_zero,Option.some.injEq] at hp
         subst hp
         exact⟨_,_,_,HO26.out.cell0 (j:=0) rfl,HO26.out.cell0 (j:=1) rfl,(HO25.out.keep HK26.out (fun q h=>HO25.out.ne_own HOk25.out (by decide) q h)).rd,HO25.out.cap_le,by rcases HO25.out.form with⟨_,_,h,_⟩ | ⟨_,_,_,_,_,_,h,_⟩;unfold maxLen;omega;exact h⟩
        | 1,hp=>
         simp only[List.getElem?_cons_succ,List.getElem?_cons_zero,Option.some.injEq] at hp
         subst hp
         exact⟨_,_,_,HO26.out.cell0 (j:=2) rfl,HO26.out.cell0 (j:=3) rfl,(HOq25.out.keep HK26.out (fun q h=>HOq25.out.ne_own HOk25.out (by decide) q h)).rd,HOq25.out.cap_le,by rcases HOq25.out.form with⟨_,_,h,_⟩ | ⟨_,_,_,_,_,_,h,_⟩;unfold maxLen;omega;exact h⟩
        | i+2,hp=>simp at hp
       ·rcases List.mem_cons.1 hp with rfl | hp
        ·exact HPn.out.2
        ·simp only[List.mem_singleton] at hp
         subst hp
         have h1:=linksM_len HLr.out
         have h2:=HMz.out.few
         simp only at h1 h2
         show q2.length≤8200
         omega
   have hki:(k:Int)<(m:Int)+1:=by omega
   obtain⟨s,hs,c0,c1⟩:=sc_cell ((HSt.out.keep HKr.out).rd) h0
   have HS:=qh hs
   obtain⟨s1,s2⟩:=s
   simp only at c0 c1
   clear hs
   go_upto_region 11 with(fail)
   obtain⟨w9,hw9⟩:∃V:World,wr.alloc (.cells #[.int .i64 s1,.int .i64 s2] 58)=V:=⟨_,rfl⟩
   have hk:Keep Never wr w9:=by rw[←hw9];exact(Keep.refl _ _).alloc _
   have B9:=Blk.new wr 58 #[.int .i64 s1,.int .i64 s2]
   rw[hw9] at B9
   obtain⟨bl,hbl⟩:∃q,wr.heap.size=q:=⟨_,rfl⟩
   rw[hbl] at B9
   rw[hw9,hbl]
   have HK9:=qtr HKr hk
   have HT9:=qkb HTr hk
   have HM9:=qkb HMr hk
   have HO9:=qko HOr hk
   have HL9:=qh B9
   have l0:w9.cell? ⟨bl,0,none⟩=some (.int .i64 s1):=HL9.out.cell 0
   obtain⟨sc,hsc⟩:∃z,scaledM s1 u false=z:=⟨_,rfl⟩
   have HSc:Hid (scaledM ((s1,s2):Sc).1 u false=sc):=qh hsc
   have hc:=scaled_any s1 u false w9
   rw[hsc] at hc
   obtain⟨sv,se⟩:=sc
   simp only at hc
   have HC:=qh hc
   clear hk hc hsc B9 c0 c1 hw9 hbl HTr HMr HKr HOr hzr
   go_wp2_with fail
   refine HC.out.mono ?_
   rintro en w10 ⟨rfl,hk⟩
   have HK10:=qtr HK9 hk
   have HT10:=qkb HT9 hk
   have HM10:=qkb HM9 hk
   have HO10:=qko HO9 hk
   have HL10:=qkb HL9 hk
   clear hk HC HT9 HM9 HK9 HO9 HL9 l0
   by_cases g1:se=0
   case neg=>
    have t1:(se != 0)=true:=by simpa using g1
    have HF:Hid (res=none):=qh (HJ.out.bad HS.out (.inl (by rw[HSc.out];exact g1)))
    have HG:Hid (packsM17 t (ref,rv,P,S,g)=.error 7):=qh (packs_sec HMb.out (by rw[HU.out];have:=HUn.out;omega) (by rw[HU.out,HRs.out,HF.out]))
    clear g1
    go_wp2_with fail
    go_ret2
    refine⟨HK10.out,?_⟩
    rw[HG.out]
    exact⟨by decide,rfl⟩
   have t1:(se != 0)=false:=by simpa using g1
   by_cases g2:sv≤last
   case pos=>
    have t2:decide (sv≤last)=true:=by simpa using g2
    have HF:Hid (res=none):=qh (HJ.out.bad HS.out (.inr (by rw[HSc.out];exact g2)))
    have HG:Hid (packsM17 t (ref,rv,P,S,g)=.error 7):=qh (packs_sec HMb.out (by rw[HU.out];have:=HUn.out;omega) (by rw[HU.out,HRs.out,HF.out]))
    clear g1 g2
    go_wp2_with fail
    go_ret2
    refine⟨HK10.out,?_⟩
    rw[HG.out]
    exact⟨by decide,rfl⟩
   have t2:decide (sv≤last)=false:=by simpa using g2
   have hnx:=HJ.out.next HS.out (by rw[HSc.out];exact g1) (by rw[HSc.out];exact g2)
   rw[HSc.out] at hnx
   simp only at hnx
   have hlb:=HJ.out.bnd
   have hsb:=hnx.bnd
   have HNx:=qh hnx
   have hws:IntKind.i64.wrap (sv - last)=sv - last:=IntWalk.i64_in _ (by omega)
   have hws2:wrap64 (sv - last)=sv - last:=by have:=hws;rwa [IntWalk.i64_left] at this
   have l1:w10.cell? ⟨bl,1,none⟩=some (.int .i64 s2):=HL10.out.cell 1
   have hzr:=HK10.out.size
   clear g1 g2 hnx hlb hsb
   go_upto_region 15 with(at_builtin;refine wpList_app _ rfl (.tmp 67) (.tmp 73) _ rfl elemInt17 w.heap.size (A:=Ao) (n:=no) (c:=co) (by go_simp) (HO10.out.alloc _) _ (A':=some ⟨_,0,none⟩) (m:=4) (c':=4) (by go_simp) (Rd.of_blk (n:=4) (cs:=[.int .i64 (sv - last),.int .i64 1,.int .i64 s2,.int .i64 0]) (Blk.new _ _ _) rfl) (by simp[Value.oneCell']) (by omega) (by unfold maxLen;omega) (by simp;omega) ?_;intro A14 c14 w14 hown hk hrow;have hk14:Keep (InRow Ao) w10 w14:=((Keep.refl _ w10).alloc _).trans hk;have HO14:=qh hown;clear hown hk hrow)
   have hk:=hk14
   have HT14:=qh (HT10.out.keep hk (fun h=>HO10.out.ne_blk HT10.out (by decide) _ h rfl))
   have HM14:=qh (HM10.out.keep hk (fun h=>HO10.out.ne_blk HM10.out (by decide) _ h rfl))
   have HK14:=qh (HK10.out.then_ hk (fun i hi h=>by have:=(HO10.out.row h).1;omega))
   clear hk hk14 l1 hws hws2 t1 t2 hzr HT10 HM10 HK10 HO10 HL10
   go_wp2_with fail
   refine⟨⟨k+1,sv,v++[sv - last,1,s2,0],A14,no+4,c14,rfl,rfl,by go_num,by omega,qh ⟨HNx.out,by have:=HNo.out;simp;omega,by rw[←List.append_assoc,intCells_app];exact HO14.out,HT14.out,HM14.out,HK14.out⟩⟩,?_⟩
   simp[intOf];try omega
end Go.Proofs.YtpapiojicbbheaaGreatDoor
