/- Texts of this claim, together: PnG, PnD, RefA, BitsG, PackK. -/
import Derived.Test.YtpapiojicbbheaaGreatDoorTg10
namespace Go.Proofs.YtpapiojicbbheaaGreatDoor
open Go.RowKit
theorem met_one (P:List Stp) (b:Stp):(P.any fun u=>overB [b] u.1)=overB P b.1:=by
 unfold overB
 congr 1
 funext u
 simp only[List.any_cons,List.any_nil,Bool.or_false]
 exact BEq.comm
def LinkRet17 (t:Tp) (r:Except Int (List Stp)) (base:Nat) (A:Option Addr) (w:World) (e:Ending) (w':World):Prop:=match r with
  | .ok P=>∃A' n' c',e=.returned (.tuple #[.slice A' n' c',.int .i64 0])∧Own w' base 30 2 A' n' c' (stpCells P)∧Hid (n'=P.length∧WayI t P)∧Keep (InRow A) w w'
  | .error x=>e=.returned (.tuple #[.slice none 0 0,.int .i64 x])∧Keep (InRow A) w w'
set_option maxHeartbeats 4000000 in
set_option maxRecDepth 100000 in
theorem rlinked17_any (x:TA) (t:Tp) (B base:Nat) (A:Option Addr) (n c:Nat) (path:List Stp) (A2:Option Addr) (n2 c2:Nat) (V:List Int) (w:World) (h:TpAt w B x t) (hs:TpSmall x t) (hck:checkM t=0) (hw:WayI t path) (ho:Own w base 30 2 A n c (stpCells path)) (hr:Rd w B 1 A2 n2 (V.map (.int .i64))) (hc:n2≤c2) (hV2:2≤V.length) (hf:Fit5 (V.drop 2)) (hbB:B≤base) (hbw:base≤w.heap.size) :
    Calls Tryz.prog 75 #[.agg x.cs,.slice A n c,.slice A2 n2 c2] w (LinkRet17 t (linkedR t path V) base A w):=by
  have hSB:∀q,InRow A q→B≤q:=fun q h=>Nat.le_trans hbB (ho.row h).1
  have HSB:=qh hSB
  have HBa:=qh (fun (W:World) (hk:Keep (InRow A) w W) (id:Int)=>rbal_any x t B id W (h.keepS hk hSB) hs.b)
  have HMy:=qh (fun (W:World) (hk:Keep (InRow A) w W) (a b:Stp)=>rmayj_any x t B a b W (h.keepS hk hSB) hs.j)
  have HRow0:Hid (∀q,InRow A q→InRow A q∨w.heap.size+1≤q):=qh (fun q h=>.inl h)
  obtain⟨res,hres⟩:∃z,linkedR t path V=z:=⟨_,rfl⟩
  have HLk0:Hid (Lkd17 t res 0 1 path (V.drop 2)):=qh (by rw[←hres];exact Lkd17.start hf)
  rw[hres]
  have HBw:=qh (And.intro hbB hbw)
  have HC0:=qh hck
  have HWy0:=qh hw
  have HO0:=qh ho
  have HV0:=qh hr
  have HVc:=qh hc
  have HNo0:Hid (n=path.length):=qh ho.rd.stp_len.symm
  obtain⟨Ae,ne,ce,Aj,nj,cj,Ab,nb,cb,Ar,nr,cr⟩:=x
  simp only[TA.cs] at HBa HMy ⊢
  have hl2:2≤n2:=by have:=hr.1;simp at this;omega
  clear h hs hck hw ho hr hc hf hV2 hSB hres hbB hbw
  obtain⟨w1,hw1⟩:∃V:World,w.alloc (.cells #[.slice Ae ne ce,.slice Aj nj cj,.slice Ab nb cb,.slice Ar nr cr] 27)=V:=⟨_,rfl⟩
  have kw1:Keep Never w w1:=by rw[←hw1];exact(Keep.refl _ _).alloc _
  have bw1:=Blk.new w 27 #[.slice Ae ne ce,.slice Aj nj cj,.slice Ab nb cb,.slice Ar nr cr]
  rw[hw1] at bw1
  have HB1:=qh bw1
  have HK:=qh kw1
  clear kw1 bw1
  have HT1:=HB1
  have HK1:Hid (Keep (InRow A) w w1):=qh (HK.out.mono (fun _ _ h=>h.elim))
  have HO1:=qh (HO0.out.keep HK.out (fun _ _ h=>h))
  have HV1:=qh (HV0.out.keep HK.out (fun _ h=>h.elim))
  clear HB1 HK HO0 HV0
  go_enter Tryz.func75, Tryz.ntmps75
  go_upto_region 2 with(refine wpList_from rfl (.tmp 16) (.const (.int .i64 2)) _ rfl Tryz.underlying22 Tryz.sizeOf3 A2 n2 c2 2 (by go_simp) 2 (by go_simp) rfl hl2 ?_;intro A9 c9 HS9)
  have HV9:Hid (Rd w1 B 1 A9 (n2 - 2) ((V.drop 2).map (.int .i64))):=qh (by have h:=HS9.out.1 w1 B _ HVc.out HV1.out;rw[List.map_drop];simpa using h)
  have HC9:Hid (n2 - 2≤c9):=qh (HS9.out.2.1 HVc.out)
  obtain⟨n9,hn9⟩:∃z,n2 - 2=z:=⟨_,rfl⟩
  rw[hn9] at HV9 HC9
  (try rw[hn9])
  clear HS9 hn9 hl2 HV1 hw1
  go_wp2_with fail
  go_loopw [1,2,8,9] (fun pv vv mv iv wr=>∃(i many:Nat) (P:List Stp) (W:List Int) (Ao:Option Addr) (no co:Nat) (A':Option Addr) (n' c':Nat),pv=.slice Ao no co∧vv=.slice A' n' c'∧mv=.int .i64 many∧iv=.int .i64 i∧Hid (Lkd17 t res i many P W∧WayI t P∧no=P.length∧n'≤c'∧Keep (InRow A) w wr∧Blk wr w.heap.size 27 #[.slice Ae ne ce,.slice Aj nj cj,.slice Ab nb cb,.slice Ar nr cr]∧Own wr base 30 2 Ao no co (stpCells P)∧Rd wr B 1 A' n' (W.map (.int .i64))∧∀q,InRow Ao q→InRow A q∨w.heap.size+1≤q)) (fun _ _ mv iv _=>(intOf mv).toNat - (intOf iv).toNat+(if (intOf iv)=0 then 40 else 0))
  case atStart=>exact⟨0,1,path,V.drop 2,A,n,c,A9,n9,c9,rfl,rfl,rfl,rfl,qh ⟨HLk0.out,HWy0.out,HNo0.out,HC9.out,HK1.out,HT1.out,HO1.out,HV9.out,HRow0.out⟩⟩
  case round=>
   clear HLk0 HWy0 HNo0 HC9 HK1 HT1 HO1 HV9 HRow0
   obtain⟨i,many,P,W,Ao,no,co,A',n',c',rfl,rfl,rfl,rfl,HH⟩:=hrel
   have HLk:=qh HH.out.1
   have HWy:=qh HH.out.2.1
   have HNo:=qh HH.out.2.2.1
   have HNc:=qh HH.out.2.2.2.1
   have HKr:=qh HH.out.2.2.2.2.1
   have HTr:=qh HH.out.2.2.2.2.2.1
   have HOr:=qh HH.out.2.2.2.2.2.2.1
   have HQr:=qh HH.out.2.2.2.2.2.2.2.1
   have HRo:=qh HH.out.2.2.2.2.2.2.2.2
   clear HH
   by_cases g0:i<many
   case neg=>
    have gi:¬(i:Int)<(many:Int):=by omega
    have HE:Hid (res=.ok P):=qh (HLk.out.done g0)
    clear g0
    go_wp2_with fail
    go_ret2
    rw[HE.out]
    exact⟨Ao,no,co,rfl,HOr.out,qh ⟨HNo.out,HWy.out⟩,HKr.out⟩
   have gi:(i:Int)<(many:Int):=by omega
   have HG0:=qh g0
   have hhas:=HLk.out.has g0
   have hlen:=hhas.len
   have hl9:W.length=n':=by have:=HQr.out.1;simpa using this
   obtain⟨av,rfl,hab,_,_,e1⟩:=ints_at HQr.out (by omega)
   have hget:∀k,0<k→k<n'→wr.cell? ⟨av.block,av.off+k,none⟩=some (.int .i64 (W.getD k 0)):=fun k h0 hk=>e1 k _ h0 (by rw[List.getD_eq_getElem?_getD,List.getElem?_eq_getElem (by omega)];rfl)
   obtain⟨x1,hx1⟩:∃z,W.getD 1 0=z:=⟨_,rfl⟩
   have c1:=hget 1 (by omega) (by omega)
   rw[hx1] at c1
   have hn1:(1:Int)<(n':Int):=by omega
   by_cases g1:x1=1
   case neg=>
    have t1:(x1 != 1)=true:=by simpa using g1
    have HE:Hid (res=.error 20):=qh (HLk.out.off g0 (by rw[hx1];exact g1))
    clear g0 g1 hhas hlen hl9 hab e1 hget hx1
    go_wp2_with fail
    go_ret2
    rw[HE.out]
    exact⟨rfl,HKr.out⟩
   subst g1
   have HX1:=qh hx1
   obtain⟨h7,h2b,h3b⟩:=hhas.on hx1
   have hid:=id_sum h2b h3b
   obtain⟨x2,hx2⟩:∃z,W.getD 2 0=z:=⟨_,rfl⟩
   obtain⟨x3,hx3⟩:∃z,W.getD 3 0=z:=⟨_,rfl⟩
   obtain⟨x4,hx4⟩:∃z,W.getD 4 0=z:=⟨_,rfl⟩
   rw[hx2,hx3] at hid
   rw[hx2] at h2b
   rw[hx3] at h3b
   have c2:=hget 2 (by omega) (by omega)
   have c3:=hget 3 (by omega) (by omega)
   rw[hx2] at c2
   rw[hx3] at c3
   have c4:=hget 4 (by omega) (by omega)
   rw[hx4] at c4
   have HC4:=qh c4
   have HX4:=qh hx4
   have hn2:(2:Int)<(n':Int):=by omega
   have hn3:(3:Int)<(n':Int):=by omega
   have HN7:Hid (7≤n'):=qh (by omega)
   have hwm:IntKind.i64.wrap (x2*16384)=x2*16384:=IntWalk.i64_in _ (by omega)
   have hwm2:wrap64 (x2*16384)=x2*16384:=by have:=hwm;rwa [IntWalk.i64_left] at this
   have hwp:IntKind.i64.wrap (x2*16384+x3)=x2*16384+x3:=IntWalk.i64_in _ (by omega)
   have hwp2:wrap64 (x2*16384+x3)=x2*16384+x3:=by have:=hwp;rwa [IntWalk.i64_left] at this
   obtain⟨ob,hob⟩:∃z,balM t.2.2.1 (idL W)=z:=⟨_,rfl⟩
   have HOb:=qh hob
   rw[hid] at hob
   have HBl:Hid (∀V,Keep Never wr V→Calls Tryz.prog 116 #[.agg #[.slice Ae ne ce,.slice Aj nj cj,.slice Ab nb cb,.slice Ar nr cr],.int .i64 (x2*16384+x3)] V (BalRet ob V)):=qh (fun V hV=>by have:=HBa.out V (HKr.out.trans (hV.mono (fun _ _ h=>h.elim))) (x2*16384+x3);rw[hob] at this;exact this)
   unfold BalRet at HBl
   obtain⟨⟨b1,b2,b3⟩,hgb⟩:∃z,ob.getD (0,0,0)=z:=⟨_,rfl⟩
   obtain⟨os,hos⟩:∃z,ob.isSome=z:=⟨_,rfl⟩
   rw[hgb,hos] at HBl
   simp only at HBl
   have HGb:=qh hgb
   have HOs:=qh hos
   obtain⟨y0,y1,y2,y3⟩:=bc4 HTr.out
   have HS2:Hid (∀W',Keep Never wr W'→Keep Never wr W'∧W'.cell? ⟨w.heap.size,0,none⟩=some (.slice Ae ne ce)∧W'.cell? ⟨w.heap.size,1,none⟩=some (.slice Aj nj cj)∧W'.cell? ⟨w.heap.size,2,none⟩=some (.slice Ab nb cb)∧W'.cell? ⟨w.heap.size,3,none⟩=some (.slice Ar nr cr)∧W'.cell? ⟨av.block,av.off+2,none⟩=some (.int .i64 x2)∧W'.cell? ⟨av.block,av.off+3,none⟩=some (.int .i64 x3)):=qh (fun W' h=>⟨h,keepT h y0,keepT h y1,keepT h y2,keepT h y3,keepT h c2,keepT h c3⟩)
   clear hhas hlen hl9 hab e1 hget hx1 h7 hid hx2 hx3 hx4 hob hgb hos g0 h2b h3b c4
   go_upto_region 8 with(fail)
   clear c1 hn1
   go_cut [10,11] (fun s10 s11 wx=>∃bo:Nat,s10=.pointer (some ⟨bo,0,none⟩)∧s11=.bool os∧Hid (Keep Never wr wx∧Blk wx bo 94 #[.int .i64 b1,.int .i64 b2,.int .i64 b3]))
   case first=>
    clear y0 y1 y2 y3 c2 c3
    go_region_held3 (fun W'=>Keep Never wr W'∧W'.cell? ⟨w.heap.size,0,none⟩=some (.slice Ae ne ce)∧W'.cell? ⟨w.heap.size,1,none⟩=some (.slice Aj nj cj)∧W'.cell? ⟨w.heap.size,2,none⟩=some (.slice Ab nb cb)∧W'.cell? ⟨w.heap.size,3,none⟩=some (.slice Ar nr cr)∧W'.cell? ⟨av.block,av.off+2,none⟩=some (.int .i64 x2)∧W'.cell? ⟨av.block,av.off+3,none⟩=some (.int .i64 x3))
      (first| assumption | exact HS2.out _ ((Keep.refl Never wr).drew) | exact HS2.out _ (Keep.trans (And.left (by assumption)) hk9) | exact HS2.out _ (Keep.trans ((Keep.refl Never wr).drew) hk9) | exact HS2.out _ (Keep.alloc (And.left (by assumption)) _) | exact HS2.out _ (Keep.alloc (Keep.trans ((Keep.refl Never wr).drew) hk9) _) | exact HS2.out _ (ps3_keep (And.left (by assumption)) (.inr (by first | exact Nat.le_refl _ | exact(Keep.size (And.left (by assumption))) | omega)) _ _ _))
      (first
        | (go_at_call 116; refine(HBl.out _ (by first | exact And.left (by assumption) | exact(Keep.refl Never wr).drew | exact Keep.refl Never wr | exact Keep.alloc (And.left (by assumption)) _)).mono ?_;rintro en w9 ⟨rfl,hk9⟩;have HK9:Hid (Keep Never wr w9):=qh (by first | exact Keep.trans (And.left (by assumption)) hk9 | exact Keep.trans ((Keep.refl Never wr).drew) hk9);have nb9:Hid (Blk w9 wr.heap.size 94 #[.int .i64 0,.int .i64 0,.int .i64 0]):=qh (by first | exact Blk.keep (Blk.new wr 94 #[.int .i64 0,.int .i64 0,.int .i64 0]) hk9 (fun h=>h) | exact Blk.keep (Blk.drew (Blk.new wr 94 #[.int .i64 0,.int .i64 0,.int .i64 0])) hk9 (fun h=>h) | exact Blk.keep (Blk.new wr.drew 94 #[.int .i64 0,.int .i64 0,.int .i64 0]) hk9 (fun h=>h));have n0:w9.cell? ⟨wr.heap.size,0,none⟩=some (.int .i64 0):=nb9.out.cell 0;have m0:=nb9.out.frozen 0;have n1:w9.cell? ⟨wr.heap.size,1,none⟩=some (.int .i64 0):=nb9.out.cell 1;have m1:=nb9.out.frozen 1;have n2:w9.cell? ⟨wr.heap.size,2,none⟩=some (.int .i64 0):=nb9.out.cell 2;have m2:=nb9.out.frozen 2)
        | (go_at_call 116; refine(HBl.out _ (by first | exact And.left (by assumption) | exact(Keep.refl Never wr).drew | exact Keep.refl Never wr | exact Keep.alloc (And.left (by assumption)) _)).mono ?_;rintro en w9 ⟨rfl,hk9⟩;have HK9:Hid (Keep Never wr w9):=qh (by first | exact Keep.trans (And.left (by assumption)) hk9 | exact Keep.trans ((Keep.refl Never wr).drew) hk9);have n0:(w9.alloc (.cells #[.int .i64 0,.int .i64 0,.int .i64 0] 94)).cell? ⟨w9.heap.size,0,none⟩=some (.int .i64 0):=(Blk.new w9 94 #[.int .i64 0,.int .i64 0,.int .i64 0]).cell 0;have m0:=(Blk.new w9 94 #[.int .i64 0,.int .i64 0,.int .i64 0]).frozen 0;have n1:(w9.alloc (.cells #[.int .i64 0,.int .i64 0,.int .i64 0] 94)).cell? ⟨w9.heap.size,1,none⟩=some (.int .i64 0):=(Blk.new w9 94 #[.int .i64 0,.int .i64 0,.int .i64 0]).cell 1;have m1:=(Blk.new w9 94 #[.int .i64 0,.int .i64 0,.int .i64 0]).frozen 1;have n2:(w9.alloc (.cells #[.int .i64 0,.int .i64 0,.int .i64 0] 94)).cell? ⟨w9.heap.size,2,none⟩=some (.int .i64 0):=(Blk.new w9 94 #[.int .i64 0,.int .i64 0,.int .i64 0]).cell 2;have m2:=(Blk.new w9 94 #[.int .i64 0,.int .i64 0,.int .i64 0]).frozen 2))
    all_goals
     rename_i hS
     clear hS
     (try clear n0 n1 n2 m0 m1 m2)
     first
     | (obtain⟨w15,hw15⟩:∃V:World,((w9.setCell ⟨wr.heap.size,0,none⟩ (.int .i64 b1)).setCell ⟨wr.heap.size,1,none⟩ (.int .i64 b2)).setCell ⟨wr.heap.size,2,none⟩ (.int .i64 b3)=V:=⟨_,rfl⟩
        rw[hw15]
        obtain⟨b15,hb15⟩:∃q,wr.heap.size=q:=⟨_,rfl⟩
        rw[hb15] at nb9 hw15 ⊢
        have HB15:Hid (Blk w15 b15 94 #[.int .i64 b1,.int .i64 b2,.int .i64 b3]):=qh (by rw[←hw15];exact ps3_blk nb9.out _ _ _)
        have HK15:Hid (Keep Never wr w15):=qh (by rw[←hw15];exact ps3_keep HK9.out (.inr (by omega)) _ _ _)
        have HN15:Hid (wr.heap.size≤b15):=qh (by omega)
        clear hw15 hb15 nb9 HK9 hk9)
     | (obtain⟨w15,hw15⟩:∃V:World,w9.alloc (.cells #[.int .i64 b1,.int .i64 b2,.int .i64 b3] 94)=V:=⟨_,rfl⟩
        rw[hw15]
        obtain⟨b15,hb15⟩:∃q,w9.heap.size=q:=⟨_,rfl⟩
        rw[hb15]
        have HB15:Hid (Blk w15 b15 94 #[.int .i64 b1,.int .i64 b2,.int .i64 b3]):=qh (by rw[←hw15,←hb15];exact Blk.new _ _ _)
        have HK15:Hid (Keep Never wr w15):=qh (by rw[←hw15];exact HK9.out.alloc _)
        have HN15:Hid (wr.heap.size≤b15):=qh (by rw[←hb15];exact HK9.out.size)
        clear hw15 hb15 HK9 hk9)
    all_goals
     go_wp2_with fail
     go_meet
     exact⟨b15,rfl,rfl,qh ⟨HK15.out,HB15.out⟩⟩
   case rest=>
   clear y0 y1 y2 y3 c2 c3 hn2 hn3 hwm hwm2 hwp hwp2 HBl HS2
   obtain⟨bo,rfl,rfl,HH⟩:=hcut
   rename World=>w15
   have hk:=HH.out.1
   have hkA:Keep (InRow A) wr w15:=hk.mono (fun _ _ h=>h.elim)
   have HBo:=qh HH.out.2
   have HT15:=qkb HTr hk
   have HO15:=qko HOr hk
   have HQ15:=qh (HQr.out.keep hk (fun _ h=>h.elim))
   have HK15:=qtr HKr hkA
   have c4:w15.cell? ⟨av.block,av.off+4,none⟩=some (.int .i64 x4):=keepT hk HC4.out
   have e1:w15.cell? ⟨bo,1,none⟩=some (.int .i64 b2):=HBo.out.cell 1
   have hn4:(4:Int)<(n':Int):=by have:=HN7.out;omega
   obtain⟨rv,hrv⟩:∃z,decide (x4=0)=z:=⟨_,rfl⟩
   have hrv2:(x4==0)=rv:=by rw[←hrv];rfl
   have HRv:=qh hrv
   clear hk hkA HH HTr HOr HQr HKr HC4
   have ay:=Blk.new w15 30 #[.int .i64 0,.bool false]
   have ak:Keep Never w15 (w15.alloc (.cells #[.int .i64 0,.bool false] 30)):=(Keep.refl _ _).alloc _
   obtain⟨a0,a1⟩:=bc2 ay
   have af0:=ay.frozen 0
   have af1:=ay.frozen 1
   have ac4:=keepT ak c4
   have ae1:=keepT ak e1
   go_wp2_with fail
   go_region
   obtain⟨w16,hw16⟩:∃V:World,(w15.alloc (.cells #[.int .i64 b2,.bool rv] 30)).drew=V:=⟨_,rfl⟩
   rw[hw16]
   have hk:Keep Never w15 w16:=by rw[←hw16];exact((Keep.refl _ _).alloc _).drew
   have s16:Blk w16 w15.heap.size 30 #[.int .i64 b2,.bool rv]:=by rw[←hw16];exact(Blk.new w15 30 #[.int .i64 b2,.bool rv]).drew
   obtain⟨bs,hbs⟩:∃q,w15.heap.size=q:=⟨_,rfl⟩
   rw[hbs] at s16 ⊢
   have HBs:Hid (w.heap.size≤bs):=qh (by rw[←hbs];exact HK15.out.size)
   have HS16:=qh s16
   have HT16:=qkb HT15 hk
   have HO16:=qko HO15 hk
   have HQ16:=qh (HQ15.out.keep hk (fun _ h=>h.elim))
   have HK16:=qh (HK15.out.trans (hk.mono (fun _ _ h=>h.elim)))
   clear hk hw16 s16 hbs ay ak a0 a1 af0 af1 ac4 ae1 c4 e1 hn4 hrv hrv2 HT15 HO15 HQ15 HK15 HBo
   have h7:7≤n':=HN7.out
   obtain⟨bi,hbi⟩:∃z,decide ((i:Int)=0)=z:=⟨_,rfl⟩
   have hbi2:((i:Int)==0)=bi:=by rw[←hbi];rfl
   have HBi:Hid (decide (i=0)=bi):=qh (by rw[←hbi];exact decide_eq_decide.2 (by omega))
   go_upto_region 11 with(refine wpList_from rfl (.tmp 47) (.const (.int .i64 7)) _ rfl Tryz.underlying22 Tryz.sizeOf3 (some av) n' c' 7 (by go_simp) 7 (by go_simp) rfl h7 ?_;intro A7 c7 HS7)
   have HQ7:Hid (Rd w16 B 1 A7 (n' - 7) ((W.drop 7).map (.int .i64))):=qh (by have h:=HS7.out.1 w16 B _ HNc.out HQ16.out;rw[List.map_drop];simpa using h)
   have HC7:Hid (n' - 7≤c7):=qh (HS7.out.2.1 HNc.out)
   obtain⟨n7,hn7⟩:∃z,n' - 7=z:=⟨_,rfl⟩
   rw[hn7] at HQ7 HC7
   (try rw[hn7])
   clear HS7 hn7 h7 HQ16
   go_upto_if 50 with(fail)
   clear hbi hbi2
   go_cut [2,8] (fun s2 s8 wx=>wx=w16∧∃(A8:Option Addr) (n8 c8:Nat),s2=.slice A8 n8 c8∧s8=.int .i64 ((manyL i many W:Nat):Int)∧Hid (Rd w16 B 1 A8 n8 ((leftL i W).map (.int .i64))∧n8≤c8))
   case first=>
    cases bi with
    | false=>
     have hi0:i≠0:=of_decide_eq_false HBi.out
     have HM:Hid (manyL i many W=many∧leftL i W=W.drop 7):=qh (by unfold manyL leftL;rw[if_neg hi0,if_neg hi0];exact⟨rfl,rfl⟩)
     clear hi0
     go_wp2_with fail
     go_meet
     exact⟨rfl,_,_,_,rfl,by rw[HM.out.1],qh ⟨by rw[HM.out.2];exact HQ7.out,HC7.out⟩⟩
    | true=>
     have hi0:i=0:=of_decide_eq_true HBi.out
     have hroom:=(hi0 ▸ HLk.out:Lkd17 t res 0 many P W).room HX1.out
     have hM:manyL i many W=1+(W.getD 7 0).toNat∧leftL i W=W.drop 8:=by unfold manyL leftL;rw[if_pos hi0,if_pos hi0];exact⟨rfl,rfl⟩
     have hl7:W.length - 7=n7:=by have:=HQ7.out.1;simpa using this
     obtain⟨a7,rfl,_,_,e0,_⟩:=ints_at HQ7.out (by omega)
     obtain⟨x7,hx7⟩:∃z,W.getD 7 0=z:=⟨_,rfl⟩
     rw[hx7] at hroom hM
     have d7:w16.cell? a7=some (.int .i64 x7):=e0 x7 (by rw[List.getElem?_drop,←hx7,List.getD_eq_getElem?_getD,List.getElem?_eq_getElem (show 7+0<W.length by omega)];rfl)
     have h7z:(0:Int)<(n7:Int):=by omega
     have h71:1≤n7:=by omega
     have hw7:IntKind.i64.wrap (1+x7)=((1+x7.toNat:Nat):Int):=by rw[show IntKind.i64.wrap (1+x7)=1+x7 from IntWalk.i64_in _ (by omega)];omega
     have hw72:wrap64 (1+x7)=((1+x7.toNat:Nat):Int):=by have:=hw7;rwa [IntWalk.i64_left] at this
     have HM:=qh hM
     have HX7:=qh hroom.2.1
     clear hroom hM hl7 e0 hx7 hi0
     go_upto_region 13 with(fail)
     clear d7 h7z hw7 hw72
     go_wp2_with (refine wpList_from rfl (.tmp 55) (.const (.int .i64 1)) _ rfl Tryz.underlying22 Tryz.sizeOf3 (some a7) n7 c7 1 (by go_simp) 1 (by go_simp) rfl h71 ?_;intro A6 c6 HS6)
     go_meet
     exact⟨rfl,A6,n7 - 1,c6,rfl,(by rw[HM.out.1];have h0:=HX7.out;congr 1;push_cast;omega),qh ⟨by have h:=HS6.out.1 w16 B _ HC7.out HQ7.out;rw[HM.out.2];rw[←List.map_drop,List.drop_drop] at h;simpa using h,HS6.out.2.1 HC7.out⟩⟩
   case rest=>
   obtain⟨hwx,A8,n8,c8,rfl,rfl,HH8⟩:=hcut
   rw[hwx]
   clear hwx
   have HQ8:=qh HH8.out.1
   have HC8:=qh HH8.out.2
   clear HH8 HQ7 HC7
   have hbal:=HGb.out
   have hosm:=HOs.out
   cases os with
   | false=>
    have hn:ob=none:=by cases ob with
      | none=>rfl
      | some z=>simp at hosm
    have HE:Hid (res=.error 4):=qh (HLk.out.err HG0.out HX1.out (step_none (by rw[HOb.out,hn])))
    clear hbal hosm hn
    go_wp2_with fail
    go_ret2
    rw[HE.out]
    exact⟨rfl,HK16.out⟩
   | true=>
   have hos2:ob=some (b1,b2,b3):=by
    cases ob with
    | none=>simp at hosm
    | some z=>simp at hbal;rw[hbal]
   have HOs2:Hid (balM t.2.2.1 (idL W)=some (b1,b2,b3)):=qh (by rw[HOb.out,hos2])
   have hl:P≠[]:=HWy.out.ne
   obtain⟨q,hq⟩:∃q,no=q+1:=⟨no - 1,by have h1:=HNo.out;have h2:=List.length_pos_iff.2 hl;omega⟩
   subst hq
   obtain⟨ad,last,hA,_,hlt,f5,f6⟩:=HO16.out.rd.stp (show q<q+1 by omega)
   subst hA
   have HLa:Hid (P.getLast?=some last):=qh (by rw[List.getLast?_eq_getElem?,←HNo.out];exact hlt)
   have HSt:=qh (step_some HOs2.out HLa.out)
   have HMj:Hid (mayJ t.2.1 last (b2,rv)=(afterM t last).contains (b2,rv)):=qh (after_may (HWy.out.there last (List.mem_of_getElem? hlt)) (check_bal HC0.out (bal_mem HOs2.out).1).2.2.1).symm
   have HTb:Hid (thereB t.1.length b2=true):=qh (check_bal HC0.out (bal_mem HOs2.out).1).2.2.1
   obtain⟨l1,l2⟩:=last
   simp only at f5 f6 HSt
   rw[HX4.out,HRv.out] at HSt
   have hq24:q<24:=by have h1:=HWy.out.few;have h2:=HNo.out;omega
   have hmw:IntKind.i64.wrap ((q:Int)+1 - 1)=(q:Int):=by rw[show (q:Int)+1 - 1=(q:Int) by omega];exact IntWalk.i64_in _ (by omega)
   have hmw2:wrap64 ((q:Int)+1 - 1)=(q:Int):=by have:=hmw;rwa [IntWalk.i64_left] at this
   have hmw3:IntKind.i64.wrap (q:Int)=(q:Int):=IntWalk.i64_in _ (by omega)
   have hmz:(q:Int)<(q:Int)+1:=by omega
   have hmq:(0:Int)≤(q:Int)+1:=by omega
   have hmt:((q:Int)+1).toNat=q+1:=by omega
   have hm0:(0:Int)≤(q:Int):=by omega
   have f5a:=fun o=>keepT ((Keep.refl Never w16).alloc o) f5
   have f6a:=fun o=>keepT ((Keep.refl Never w16).alloc o) f6
   clear hl hlt hbal hosm hos2 HOb HGb HOs
   go_upto_region 17 with(fail)
   obtain⟨w17,hw17⟩:∃V:World,w16.alloc (.cells #[.int .i64 l1,.bool l2] 30)=V:=⟨_,rfl⟩
   rw[hw17]
   have hk:Keep Never w16 w17:=by rw[←hw17];exact(Keep.refl _ _).alloc _
   have l17:Blk w17 w16.heap.size 30 #[.int .i64 l1,.bool l2]:=by rw[←hw17];exact Blk.new w16 30 #[.int .i64 l1,.bool l2]
   obtain⟨bl,hbl⟩:∃q,w16.heap.size=q:=⟨_,rfl⟩
   rw[hbl] at l17 ⊢
   have HL17:=qh l17
   have HQ16:=HQ8
   have HS17:=qkb HS16 hk
   have HT17:=qkb HT16 hk
   have HO17:=qko HO16 hk
   have HQ17:=qh (HQ16.out.keep hk (fun _ h=>h.elim))
   have HK17:=qh (HK16.out.trans (hk.mono (fun _ _ h=>h.elim)))
   clear hk HS16 HT16 HO16 HQ16 HK16
   clear HQ8 hw17 l17 hbl f5 f6 f5a f6a hmw hmw2 hmw3 hmz hmq hmt hm0
   have hi32:=HLk.out.top
   have hwi:IntKind.i64.wrap ((i:Int)+1)=((i+1:Nat):Int):=by rw[show IntKind.i64.wrap ((i:Int)+1)=(i:Int)+1 from IntWalk.i64_in _ (by omega)];push_cast;rfl
   have hwi2:wrap64 ((i:Int)+1)=((i+1:Nat):Int):=by have:=hwi;rwa [IntWalk.i64_left] at this
   obtain⟨p0,p1⟩:=bc2 HS17.out
   obtain⟨r0,r1⟩:=bc2 HL17.out
   by_cases ge:b2=l1
   case pos=>
    have te:(b2==l1)=true:=by simpa using ge
    have te2:decide (b2=l1)=true:=by simpa using ge
    have HNx:=qh (HLk.out.next HG0.out HX1.out (HSt.out.trans (if_pos ge)))
    clear ge
    go_wp2_with fail
    refine⟨⟨i+1,manyL i many W,P,leftL i W,some ad,q+1,co,A8,n8,c8,rfl,rfl,rfl,by go_num,qh ⟨HNx.out,HWy.out,HNo.out,HC8.out,HK17.out,HT17.out,HO17.out,HQ17.out,HRo.out⟩⟩,?_⟩
    have hm:=HNx.out.top.2
    have hm2:i≠0→manyL i many W=many:=fun h=>if_neg h
    have hg:=HG0.out
    obtain⟨mq,hmq⟩:∃z,manyL i many W=z:=⟨_,rfl⟩
    rw[hmq] at hm hm2
    have hz:¬((i:Int)+1=0):=by omega
    simp[intOf,hmq,hz]
    by_cases h0:i=0
    ·rw[if_pos h0]
     omega
    ·have h1:=hm2 h0
     rw[if_neg h0]
     omega
   have te:(b2==l1)=false:=by simpa using ge
   have te2:decide (b2=l1)=false:=by simpa using ge
   have hst:=HSt.out
   rw[if_neg ge,←HMj.out] at hst
   obtain⟨mj,hmj⟩:∃z,mayJ t.2.1 (l1,l2) (b2,rv)=z:=⟨_,rfl⟩
   have hw:=HMy.out w17 HK17.out (l1,l2) (b2,rv)
   rw[hmj] at hst hw
   have HSt2:=qh hst
   have HC:=qh hw
   clear hst hw hmj ge HSt HMj
   obtain⟨y0,y1,y2,y3⟩:=bc4 HT17.out
   go_wp2_with fail
   refine HC.out.mono ?_
   rintro en w18 ⟨rfl,hk⟩
   have HS18:=qkb HS17 hk
   have HT18:=qkb HT17 hk
   have HO18:=qko HO17 hk
   have HQ18:=qh (HQ17.out.keep hk (fun _ h=>h.elim))
   have HK18:=qh (HK17.out.trans (hk.mono (fun _ _ h=>h.elim)))
   clear hk HS17 HT17 HO17 HQ17 HK17
   clear HC y0 y1 y2 y3 p0 p1 r0 r1 te te2
   cases mj with
   | false=>
    have HE:Hid (res=.error 141):=qh (HLk.out.err HG0.out HX1.out (HSt2.out.trans (if_pos rfl)))
    go_wp2_with fail
    go_ret2
    rw[HE.out]
    exact⟨rfl,HK18.out⟩
   | true=>
   have hst:=HSt2.out
   rw[if_neg (by simp)] at hst
   have HSt3:=qh hst
   clear hst HSt2
   obtain⟨p0,p1⟩:=bc2 HS18.out
   have hlit:Rd (w18.alloc (.cells #[.int .i64 b2,.bool rv] 30)) (w18.alloc (.cells #[.int .i64 b2,.bool rv] 30)).heap.size 2 (some ⟨w18.heap.size,0,none⟩) 1 (stpCells [(b2,rv)]):=Rd.of_blk (n:=1) (cs:=[.int .i64 b2,.bool rv]) (Blk.new _ _ _) rfl
   have hw:=met17_any (some ad) (q+1) co w18.heap.size P (some ⟨w18.heap.size,0,none⟩) 1 1 _ [(b2,rv)] _ (HO18.out.rd.keep ((Keep.refl Never w18).alloc _) (fun _ h=>h.elim)) hlit (by omega) (by omega)
   rw[met_one] at hw
   obtain⟨mm,hmm⟩:∃z,overB P b2=z:=⟨_,rfl⟩
   rw[hmm] at hw
   have HMm:=qh hmm
   have HC:=qh hw
   clear hw hlit hmm
   have kx:Keep Never w18 (w18.alloc (.cells #[.int .i64 b2,.bool rv] 30)):=(Keep.refl _ _).alloc _
   go_wp2_with fail
   refine HC.out.mono ?_
   rintro en w19 ⟨rfl,hk9⟩
   have hk:=kx.trans hk9
   clear kx hk9 HC p0 p1
   have HS19:=qkb HS18 hk
   have HT19:=qkb HT18 hk
   have HO19:=qko HO18 hk
   have HQ19:=qh (HQ18.out.keep hk (fun _ h=>h.elim))
   have HK19:=qh (HK18.out.trans (hk.mono (fun _ _ h=>h.elim)))
   clear hk HS18 HT18 HO18 HQ18 HK18
   obtain⟨p0,p1⟩:=bc2 HS19.out
   obtain⟨bf,hbf⟩:∃z,decide ((q:Int)+1=24)=z:=⟨_,rfl⟩
   have hbf2:(((q:Int)+1)==24)=bf:=by rw[←hbf];rfl
   have HBf:Hid (decide (P.length=24)=bf):=qh (by rw[←hbf,←HNo.out];exact decide_eq_decide.2 (by omega))
   by_cases gg:(mm || bf)=true
   case pos=>
    have HE:Hid (res=.error 2):=qh (HLk.out.err HG0.out HX1.out (HSt3.out.trans (if_pos (by
     rw[HMm.out]
     rcases Bool.or_eq_true_iff.1 gg with h | h
     ·exact .inl h
     ·exact .inr (of_decide_eq_true (HBf.out.trans h))))))
    cases mm <;> cases bf <;>
    first
    | exact absurd gg (by decide)
    | (clear gg
       go_wp2_with fail
       go_ret2
       rw[HE.out]
       exact⟨rfl,HK19.out⟩)
   obtain⟨rfl,rfl⟩:mm=false∧bf=false:=by cases mm <;> cases bf <;> simp at gg ⊢
   have h24:=of_decide_eq_false HBf.out
   have HNx:=qh (HLk.out.next HG0.out HX1.out (HSt3.out.trans (if_neg (by rw[HMm.out];simp;exact h24))))
   have HWn:=qh (HWy.out.snoc (s:=(b2,rv)) HTb.out h24)
   have HLn:Hid (q+1+1=(P++[(b2,rv)]).length):=qh (by simp[←HNo.out])
   have hbw:=HBw.out.2
   clear gg h24
   go_wp2_with (at_builtin;refine wpList_app _ rfl (.tmp 86) (.tmp 88) _ rfl elemStp base (A:=some ad) (n:=q+1) (c:=co) (by go_simp) (HO19.out.alloc _) _ (A':=some ⟨_,0,none⟩) (m:=1) (c':=1) (news:=[.int .i64 b2,.bool rv]) (by go_simp) (Rd.of_blk (n:=1) (cs:=[.int .i64 b2,.bool rv]) (Blk.new _ _ _) rfl) (by simp[Value.oneCell']) (by omega) (by unfold maxLen;omega) (by have h1:=HBw.out.2;have h2:=HK19.out.size;simp;omega) ?_;intro A20 c20 w20 hown hkr hrow)
   have hk:Keep (InRow (some ad)) w19 w20:=((Keep.refl _ w19).alloc _).trans hkr
   have HO20:Hid (Own w20 base 30 2 A20 (q+1+1) c20 (stpCells (P++[(b2,rv)]))):=qh (by rw[stpCells_app];exact hown)
   have HT20:=qh (HT19.out.keep hk (fun h=>HO19.out.ne_blk HT19.out (by decide) _ h rfl))
   have HQ20:=qh (HQ19.out.keep hk (fun k h=>Nat.le_trans HBw.out.1 (HO19.out.row h).1))
   have HK20:=qh (HK19.out.then_ hk (fun i hi h=>by
    rcases HRo.out i h with h | h
    ·exact h
    ·omega))
   have HR20:Hid (∀q,InRow A20 q→InRow A q∨w.heap.size+1≤q):=qh (fun q h=>by
    rcases hrow.out q h with h | h
    ·exact HRo.out q h
    ·right
     have h2:=HT19.out.lt
     simp at h
     omega)
   refine⟨⟨i+1,manyL i many W,P++[(b2,rv)],leftL i W,A20,q+1+1,c20,A8,n8,c8,rfl,rfl,rfl,by go_num,qh ⟨HNx.out,HWn.out,HLn.out,HC8.out,HK20.out,HT20.out,HO20.out,HQ20.out,HR20.out⟩⟩,?_⟩
   have hm:=HNx.out.top.2
   have hm2:i≠0→manyL i many W=many:=fun h=>if_neg h
   have hg:=HG0.out
   obtain⟨mq,hmq⟩:∃z,manyL i many W=z:=⟨_,rfl⟩
   rw[hmq] at hm hm2
   have hz:¬((i:Int)+1=0):=by omega
   simp[intOf,hmq,hz]
   by_cases h0:i=0
   ·rw[if_pos h0]
    omega
   ·have h1:=hm2 h0
    rw[if_neg h0]
    omega
end Go.Proofs.YtpapiojicbbheaaGreatDoor

namespace Go.Proofs.YtpapiojicbbheaaGreatDoor
open Go.RowKit
def catS (acc:List Sc) (r:Except Int (List Sc×List Int)):Except Int (List Sc×List Int):=match r with
  | .ok z=>.ok (acc++z.1,z.2)
  | .error e=>.error e
theorem sect_off {u a n q:Int}{V:List Int} (h:q≠1):(sectR u a (n::q::V) 0).e=20∨(sectR u a (n::q::V) 0).e=20:=by
 unfold sectR
 simp[h,failR]
def sectE (u n tm:Int):Int:=if tm<1∨1000<tm∨n=0 then 20 else if (dmM n u).2≠0 then 7 else 0
theorem sect_on {u a n tm d:Int}{V:List Int}:(sectR u a (n::1::tm::d::V) 0).e=sectE u n tm∧(sectR u a (n::1::tm::d::V) 0).s=(a+(dmM n u).1,tm)∧(sectR u a (n::1::tm::d::V) 0).v=V:=by
 refine⟨?_,rfl,rfl⟩
 unfold sectR sectE
 simp only[List.headD_cons,List.tail_cons,decide_true,if_true]
 by_cases h:tm<1∨1000<tm∨n=0
 ·rw[if_pos h]
  simp[failR,h]
 ·rw[if_neg h]
  simp[failR,h]
theorem cat_off {u a n q:Int}{k:Nat}{V:List Int}{acc:List Sc} (h:q≠1):catS acc (sectsR u (k+1) a (n::q::V))=.error 20:=by
 have h1:=(sect_off (u:=u) (a:=a) (n:=n) (V:=V) h).elim id id
 unfold sectsR
 rw[h1]
 rfl
theorem cat_bad {u a n tm d:Int}{k:Nat}{V:List Int}{acc:List Sc} (h:sectE u n tm≠0):catS acc (sectsR u (k+1) a (n::1::tm::d::V))=.error (sectE u n tm):=by
 unfold sectsR
 rw[sect_on.1,if_pos h]
 rfl
theorem cat_next {u a n tm d:Int}{k:Nat}{V:List Int}{acc:List Sc} (h:sectE u n tm=0):catS acc (sectsR u (k+1) a (n::1::tm::d::V))=catS (acc++[(a+(dmM n u).1,tm)]) (sectsR u k (a+(dmM n u).1) V):=by
 have h1:sectsR u (k+1) a (n::1::tm::d::V)=match sectsR u k (a+(dmM n u).1) V with
   | .error e=>.error e
   | .ok (l,w)=>.ok ((a+(dmM n u).1,tm)::l,w):=by
   conv=>lhs;unfold sectsR
   rw[sect_on.1,if_neg (by simpa using h),sect_on.2.1,sect_on.2.2]
   rfl
 rw[h1]
 cases sectsR u k (a+(dmM n u).1) V with
 | error e=>rfl
 | ok z=>obtain⟨l,w⟩:=z;simp[catS]
theorem fit_on {k:Nat}{n tm d:Int}{V:List Int} (h:SecFit (k+1) (n::1::tm::d::V)):SecFit k V:=by
 unfold SecFit at h
 exact(h.2 rfl).2
theorem fit_four {k:Nat}{n:Int}{V:List Int} (h:SecFit (k+1) (n::1::V)):∃tm d V',V=tm::d::V':=by
 unfold SecFit at h
 have h1:=(h.2 rfl).1
 rcases V with _ | ⟨a,_ | ⟨b,l⟩⟩
 ·simp at h1
 ·simp at h1
 ·exact⟨a,b,l,rfl⟩
theorem fit_two {k:Nat}{V:List Int} (h:SecFit (k+1) V):∃n q V',V=n::q::V':=by
 unfold SecFit at h
 have h1:=h.1
 rcases V with _ | ⟨a,_ | ⟨b,l⟩⟩
 ·simp at h1
 ·simp at h1
 ·exact⟨a,b,l,rfl⟩
theorem sects_fit {u:Int}:∀{k:Nat}{a:Int}{V:List Int}{z:List Sc×List Int},SecFit k V→sectsR u k a V=.ok z→SecFit 0 z.2
  | 0,a,V,z,h,hz=>by unfold sectsR at hz;injection hz with hz;subst hz;exact h
  | k+1,a,V,z,h,hz=>by
   obtain⟨n,q,V',rfl⟩:=fit_two h
   by_cases hq:q=1
   ·subst hq
    obtain⟨tm,d,V2,rfl⟩:=fit_four h
    have h2:=fit_on h
    unfold sectsR at hz
    rw[sect_on.1,sect_on.2.1,sect_on.2.2] at hz
    split at hz
    ·cases hz
    ·cases hs:sectsR u k (a+(dmM n u).1) V2 with
     | error e=>rw[hs] at hz;cases hz
     | ok y=>
      rw[hs] at hz
      have h3:=sects_fit h2 hs
      obtain⟨l,w⟩:=y
      injection hz with hz
      subst hz
      exact h3
   ·have h1:=(sect_off (u:=u) (a:=a) (n:=n) (V:=V') hq).elim id id
    unfold sectsR at hz
    rw[h1] at hz
    cases hz
theorem sectE_cases (u n tm:Int):(sectE u n tm=20∧(tm<1∨1000<tm∨n=0))∨(¬(tm<1∨1000<tm∨n=0)∧sectE u n tm=7∧(dmM n u).2≠0)∨(¬(tm<1∨1000<tm∨n=0)∧sectE u n tm=0∧(dmM n u).2=0):=by
 unfold sectE
 by_cases h:tm<1∨1000<tm∨n=0
 ·rw[if_pos h];exact .inl ⟨rfl,h⟩
 ·rw[if_neg h]
  by_cases h2:(dmM n u).2=0
  ·rw[if_neg (by simpa using h2)];exact .inr (.inr ⟨h,rfl,h2⟩)
  ·rw[if_pos h2];exact .inr (.inl ⟨h,rfl,h2⟩)
theorem dm_bnd {n u:Int} (h:(dmM n u).2=0):0≤(dmM n u).1∧(dmM n u).1≤3276600:=by
 unfold dmM at h ⊢
 split
 ·rename_i h1;rw[if_pos h1] at h;exact absurd h (by decide)
 rename_i h1
 rw[if_neg h1] at h
 split
 ·rename_i h2;rw[if_pos h2] at h;exact absurd h (by decide)
 rename_i h2
 have hu:=unit_range u
 have h3:n*unitM u≤32766*100:=by
  have a1:n*unitM u≤32766*unitM u:=Int.mul_le_mul_of_nonneg_right (by omega) (by omega)
  omega
 exact⟨Int.mul_nonneg (by omega) (by omega),by simp only;omega⟩
def SecsRet17 (B:Nat) (r:Except Int (List Sc×List Int)) (w:World) (e:Ending) (w':World):Prop:=match r with
  | .ok z=>∃As ns cs A' n' c',e=.returned (.tuple #[.slice As ns cs,.slice A' n' c',.int .i64 0])∧Own w' w.heap.size 58 2 As ns cs (scCells z.1)∧Hid (ns=z.1.length∧n'≤c')∧Rd w' B 1 A' n' (z.2.map (.int .i64))∧Keep Never w w'
  | .error x=>e=.returned (.tuple #[.slice none 0 0,.slice none 0 0,.int .i64 x])∧Keep Never w w'
set_option maxHeartbeats 4000000 in
set_option maxRecDepth 100000 in
theorem rsections17_any (A:Option Addr) (n c B:Nat) (V:List Int) (many:Nat) (u:Int) (w:World) (hr:Rd w B 1 A n (V.map (.int .i64))) (hc:n≤c) (hf:SecFit many V) (hm:many≤8) (hB:B≤w.heap.size) :
    Calls Tryz.prog 73 #[.slice A n c,.int .i64 (many:Int),.int .i64 u] w (SecsRet17 B (sectsR u many 0 V) w):=by
  have HDm:=qh (fun (n:Int) (W:World)=>rdm3_any n u W)
  have HBw:=qh hB
  obtain⟨res,hres⟩:∃z,sectsR u many 0 V=z:=⟨_,rfl⟩
  have HRes:Hid (res=catS [] (sectsR u many 0 V)):=qh (by
   rw[hres]
   cases res with
   | ok z=>simp[catS]
   | error e=>rfl)
  have HFi:=qh hf
  have HR0:=qh hr
  have HC0:=qh hc
  have hm8:=hm
  rw[hres]
  clear hr hf hc hB hres
  go_enter Tryz.func73, Tryz.ntmps73
  go_wp2_with fail
  go_loopw [0,9,10,11] (fun v o tb ib wr=>∃(k:Nat) (A':Option Addr) (n' c':Nat) (W:List Int) (acc:List Sc) (to_:Int) (Ao:Option Addr) (no co:Nat),v=.slice A' n' c'∧o=.slice Ao no co∧tb=.int .i64 to_∧ib=.int .i64 k∧k≤many∧no≤8∧Hid (res=catS acc (sectsR u (many - k) to_ W)∧SecFit (many - k) W∧0≤to_∧to_≤3276600*(k:Int)∧no=acc.length∧no=k∧n'≤c'∧Rd wr B 1 A' n' (W.map (.int .i64))∧Own wr w.heap.size 58 2 Ao no co (scCells acc)∧Keep Never w wr)) (fun _ _ _ ib _=>many - (intOf ib).toNat)
  case atStart=>exact⟨0,A,n,c,V,[],0,none,0,0,rfl,rfl,rfl,rfl,by omega,by omega,qh ⟨HRes.out,HFi.out,by omega,by omega,rfl,rfl,HC0.out,HR0.out,Own.nil _ _ _ _,Keep.refl _ _⟩⟩
  case round=>
   clear HRes HFi HR0 HC0
   obtain⟨k,A',n',c',W,acc,to_,Ao,no,co,rfl,rfl,rfl,rfl,hk,hno,HH⟩:=hrel
   obtain⟨h1,h2,h3,h4,h5,h6,h7,h8,h9,h10⟩:=HH.out
   have HE0:=qh h1
   have HN:=qh (And.intro h5 h7)
   have HQ:=qh h8
   have HO:=qh h9
   have HK:=qh h10
   by_cases g0:k<many
   case neg=>
    obtain rfl:k=many:=by omega
    have hki:¬(k:Int)<(k:Int):=by omega
    have HE:Hid (res=.ok (acc,W)):=qh (by rw[HE0.out,show k - k=0 by omega];simp[sectsR,catS])
    clear HH h1 h2 h3 h4 h5 h6 h7 h8 h9 h10
    go_wp2_with fail
    go_ret3
    rw[HE.out]
    exact⟨Ao,no,co,A',n',c',rfl,HO.out,qh ⟨HN.out.1,HN.out.2⟩,HQ.out,HK.out⟩
   have hki:(k:Int)<(many:Int):=by omega
   obtain⟨f,hf⟩:∃f,many - k=f+1:=⟨many - k - 1,by omega⟩
   rw[hf] at h1 h2
   have HF2:Hid (many - (k+1)=f):=qh (by omega)
   obtain⟨x0,q,W1,rfl⟩:=fit_two h2
   have hl9:(x0::q::W1).length=n':=by have:=h8.1;simpa using this
   have hl10:2≤n':=by rw[←hl9];simp
   obtain⟨ad,rfl,hab,_,e0,e1⟩:=ints_at h8 (by omega)
   have c0:=e0 x0 rfl
   have c1:=e1 1 q (by omega) rfl
   have hn0:(0:Int)<(n':Int):=by omega
   have hn1:(1:Int)<(n':Int):=by omega
   by_cases g1:q=1
   case neg=>
    have t1:(q != 1)=true:=by simpa using g1
    have HE:Hid (res=.error 20):=qh (by rw[h1,cat_off g1])
    clear HH h1 h2 h3 h4 h5 h6 h7 h8 h9 h10 hf e0 e1 hl9 hl10 g1
    go_wp2_with fail
    go_ret3
    rw[HE.out]
    exact⟨rfl,HK.out⟩
   subst g1
   obtain⟨tm,d4,W2,rfl⟩:=fit_four h2
   have hl4:4≤n':=by rw[←hl9];simp
   have c2:=e1 2 tm (by omega) rfl
   have hn2:(2:Int)<(n':Int):=by omega
   have HFi:=qh (fit_on h2)
   have HTo:Hid (0≤to_∧to_≤3276600*(k:Int)):=qh ⟨h3,h4⟩
   have HNk:=qh h6
   rcases sectE_cases u x0 tm with⟨s1,s2⟩ | ⟨s1,s2,s3⟩ | ⟨s1,s2,s3⟩
   ·have HE:Hid (res=.error 20):=qh (by rw[h1,cat_bad (by rw[s1];decide),s1])
    clear HH h1 h2 h3 h4 h5 h6 h7 h8 h9 h10 hf e0 e1 hl9 hl10 s1 hl4
    by_cases k1:tm<1
    ·have t1:decide (tm<1)=true:=by simpa using k1
     clear k1 s2
     go_wp2_with fail
     go_ret3
     rw[HE.out]
     exact⟨rfl,HK.out⟩
    have t1:decide (tm<1)=false:=by simpa using k1
    by_cases k2:1000<tm
    ·have t2:decide (tm>1000)=true:=by simpa using k2
     clear k1 k2 s2
     go_wp2_with fail
     go_ret3
     rw[HE.out]
     exact⟨rfl,HK.out⟩
    have t2:decide (tm>1000)=false:=by simpa using k2
    have t3:(x0==0)=true:=by
     rcases s2 with s2 | s2 | s2
     ·exact absurd s2 k1
     ·exact absurd s2 k2
     ·simpa using s2
    clear k1 k2 s2
    go_wp2_with fail
    go_ret3
    rw[HE.out]
    exact⟨rfl,HK.out⟩
   all_goals
    have t1:decide (tm<1)=false:=by simp;omega
    have t2:decide (tm>1000)=false:=by simp;omega
    have t3:(x0==0)=false:=by simp;omega
    have hw:=HDm.out x0 wr
    have HS2:=qh s2
    have HS3:=qh s3
    have hd0:=fun (h:(dmM x0 u).2=0)=>dm_bnd h
    obtain⟨⟨d1,d2⟩,hd⟩:∃z,dmM x0 u=z:=⟨_,rfl⟩
    rw[hd] at hw HS3 hd0
    simp only at hw hd0
    have HC:=qh hw
    have HD:=qh hd
    have HB0:=qh hd0
    have HE1:=qh h1
    have HL4:=qh hl4
    clear HH h1 h2 h3 h4 h5 h6 h7 h8 h9 h10 hf e0 e1 hl9 hl10 s1 s2 s3 hw hd hd0 hl4
    go_wp2_with fail
    refine HC.out.mono ?_
    rintro en w2 ⟨rfl,hk2⟩
    have HK2:=qtr HK hk2
    have HO2:=qko HO hk2
    have HQ2:=qh (HQ.out.keep hk2 (fun _ h=>h.elim))
    clear HC hk2 HK HO HQ c0 c1 c2 t1 t2 t3
   ·have t4:(d2 != 0)=true:=by have:=HS3.out;simpa using this
    have HE:Hid (res=.error 7):=qh (by rw[HE1.out,cat_bad (by rw[HS2.out];decide),HS2.out])
    go_wp2_with fail
    go_ret3
    rw[HE.out]
    exact⟨rfl,HK2.out⟩
   ·have hd2:d2=0:=by have:=HS3.out;simpa using this
    have t4:(d2 != 0)=false:=by simpa using hd2
    have HNx:Hid (res=catS (acc++[(to_+d1,tm)]) (sectsR u f (to_+d1) W2)):=qh (by rw[HE1.out,cat_next HS2.out,HD.out])
    have hdb:=HB0.out hd2
    have hto:=HTo.out
    have hmm:(k:Int)≤8:=by omega
    have hwt:IntKind.i64.wrap (to_+d1)=to_+d1:=IntWalk.i64_in _ (by omega)
    have hwt2:wrap64 (to_+d1)=to_+d1:=by have:=hwt;rwa [IntWalk.i64_left] at this
    have HTn:Hid (0≤to_+d1∧to_+d1≤3276600*((k+1:Nat):Int)):=qh (by omega)
    have hz2:w.heap.size≤w2.heap.size:=HK2.out.size
    have hl4:=HL4.out
    have hno7:no≤7:=by have:=HNk.out;omega
    clear hd2 hdb hto hmm
    go_wp2_with (first| (refine wpList_from rfl (.tmp 58) (.const (.int .i64 4)) _ rfl Tryz.underlying22 Tryz.sizeOf3 (some ad) n' c' 4 (by go_simp) 4 (by go_simp) rfl hl4 ?_;intro A9 c9 HS9) | (at_builtin;refine wpList_app _ rfl (.tmp 52) (.tmp 56) _ rfl elemSc w.heap.size (A:=Ao) (n:=no) (c:=co) (by go_simp) (HO2.out.alloc _) _ (A':=some ⟨_,0,none⟩) (m:=1) (c':=1) (by go_simp) (Rd.of_blk (n:=1) (cs:=[.int .i64 (to_+d1),.int .i64 tm]) (Blk.new _ _ _) rfl) (by simp[Value.oneCell']) (by omega) (by unfold maxLen;omega) (by simp;omega) ?_;intro A8 c8 w8 hown hk8 hrow;have hk9:Keep (InRow Ao) w2 w8:=((Keep.refl _ w2).alloc _).trans hk8;have HO8:Hid (Own w8 w.heap.size 58 2 A8 (no+1) c8 (scCells (acc++[(to_+d1,tm)]))):=qh (by rw[scCells_app];exact hown);have HK8:=qh (HK2.out.then_ hk9 (fun i hi h=>by have:=(HO2.out.row h).1;omega));have HQ8:=qh (HQ2.out.keep hk9 (fun q h=>by have h1:=(HO2.out.row h).1;have h2:=HBw.out;omega));clear hown hk8 hrow hk9))
    refine⟨⟨k+1,A9,n' - 4,c9,W2,acc++[(to_+d1,tm)],to_+d1,A8,no+1,c8,rfl,rfl,rfl,by go_num,by omega,by omega,qh ⟨by rw[HF2.out];exact HNx.out,by rw[HF2.out];exact HFi.out,HTn.out.1,HTn.out.2,by rw[List.length_append,←HN.out.1];rfl,by rw[HNk.out],HS9.out.2.1 HN.out.2,by have h:=HS9.out.1 w8 B _ HN.out.2 HQ8.out;simpa using h,HO8.out,HK8.out⟩⟩,?_⟩
    simp[intOf];try omega
end Go.Proofs.YtpapiojicbbheaaGreatDoor

namespace Go.Proofs.YtpapiojicbbheaaGreatDoor
open Go.RowKit
def wF:List UInt8→List UInt8→List ByteArray
  | [],cur=>if cur=[] then [] else [⟨cur.toArray⟩]
  | b::l,cur=>if b=32 then (if cur=[] then wF l [] else ⟨cur.toArray⟩::wF l []) else wF l (cur++[b])
def wordsL (s:List UInt8):List ByteArray:=wF s []
def safe7:Parts→Bool
  | .nil=>true
  | .cons _ wh l r=>(decide (wh=0) || no7 l)&&safe7 r
def n7:Parts→Nat
  | .nil=>0
  | .cons v wh _ r=>(if wh=0∧v=7 then 1 else 0)+n7 r
def GramOk (id:Int) (s:ByteArray):Bool:=match ptree id with
  | none=>decide (s.data.toList=[])
  | some T=>decide (wordsL s.data.toList=toks T)&&wfT T&&safe7 T&&decide (n7 T=1)&&decide (s.data.toList.length≤1000)&&decide (s.data.toList≠[])
set_option maxRecDepth 100000 in
set_option maxHeartbeats 2000000 in
theorem grammar_any (id:Int) (w:World) :
    Calls Tryz.prog 127 #[.int .i64 id] w fun e w'=>∃s,e=.returned (.string s)∧GramOk id s=true∧w=w':=by
  by_cases h:id∈pids
  ·simp only[pids,List.mem_cons,List.not_mem_nil,or_false] at h
   rcases h with rfl | rfl | rfl | rfl | rfl | rfl | rfl | rfl | rfl | rfl | rfl | rfl
   all_goals
    go_enter Tryz.func127, Tryz.ntmps127
    go_wp2
    go_ret
    exact⟨_,rfl,by kernel_rfl,rfl⟩
  ·have hT:ptree id=none:=by
    cases hT:ptree id with
    | none=>rfl
    | some T=>exact absurd (ptree_id hT) h
   have hG:Hid (GramOk id ⟨#[]⟩=true):=by show GramOk id _=true;unfold GramOk;rw[hT];rfl
   simp only[pids,List.mem_cons,List.not_mem_nil,or_false,not_or] at h
   obtain⟨h1,h2,h3,h4,h5,h6,h7,h8,h9,h10,h11,h12⟩:=h
   clear hT
   go_enter Tryz.func127, Tryz.ntmps127
   go_wp2
   go_ret
   exact⟨_,rfl,hG.out,rfl⟩
theorem gram_none {id:Int}{s:ByteArray} (h:GramOk id s=true) (hT:ptree id=none):s=⟨#[]⟩:=by
 unfold GramOk at h
 rw[hT] at h
 have h1:s.data.toList=[]:=by simpa using h
 apply ByteArray.ext
 simpa using h1
theorem gram_some {id:Int}{s:ByteArray}{T:Parts} (h:GramOk id s=true) (hT:ptree id=some T):wordsL s.data.toList=toks T∧wfT T=true∧safe7 T=true∧n7 T=1∧s.data.toList.length≤1000∧s.data.toList≠[]:=by
 unfold GramOk at h
 rw[hT] at h
 simp only[Bool.and_eq_true,decide_eq_true_eq] at h
 obtain⟨⟨⟨⟨⟨h1,h2⟩,h3⟩,h4⟩,h5⟩,h6⟩:=h
 exact⟨h1,h2,h3,h4,h5,h6⟩
theorem rknown_any (id:Int) (w:World) :
    Calls Tryz.prog 123 #[.int .i64 id] w fun e w'=>e=.returned (.bool (ptree id).isSome)∧w=w':=by
  cases hT:ptree id with
  | none=>
   go_enter Tryz.func123, Tryz.ntmps123
   go_wp2_with fail
   refine(grammar_any id _).mono ?_
   rintro e w' ⟨s,rfl,hg,rfl⟩
   obtain rfl:=gram_none hg hT
   clear hg
   go_wp2_with fail
   go_ret
   exact⟨rfl,rfl⟩
  | some T=>
   go_enter Tryz.func123, Tryz.ntmps123
   go_wp2_with fail
   refine(grammar_any id _).mono ?_
   rintro e w' ⟨s,rfl,hg,rfl⟩
   have hne:(s.toList==[])=false:=by
    have:=(gram_some hg hT).2.2.2.2.2
    rw[Lib.toList_data]
    simpa using this
   clear hg
   go_wp2_with fail
   go_ret
   exact⟨rfl,rfl⟩
set_option maxRecDepth 100000 in
theorem elemStr:Elem Tryz.prog 174 9 1 16:=⟨Tryz.underlying174, _,_,rfl,rfl,rfl,rfl,rfl,by omega⟩
def wRest (s:List UInt8) (f k:Nat):List ByteArray:=if s.length<k then [] else wF (s.drop k) ((s.take k).drop f)
theorem wRest_end {s:List UInt8}{f:Nat} (hf:f≤s.length):wRest s f s.length=(if f<s.length then [⟨(s.drop f).toArray⟩] else []):=by
 unfold wRest
 rw[if_neg (by omega),List.drop_length,List.take_length]
 simp only[wF]
 by_cases h:f<s.length
 ·rw[if_pos h,if_neg (by intro e;have:=congrArg List.length e;simp at this;omega)]
 ·rw[if_neg h,if_pos (List.drop_eq_nil_of_le (by omega))]
theorem wRest_blank {s:List UInt8}{f k:Nat} (hk:k<s.length) (hf:f≤k) (h:s[k]?=some 32):wRest s f k=(if f<k then [⟨((s.take k).drop f).toArray⟩] else [])++wRest s (k+1) (k+1):=by
 have hd:s.drop k=32::s.drop (k+1):=by
  rw[List.drop_eq_getElem_cons hk]
  have:s[k]=32:=by rw[List.getElem?_eq_getElem hk] at h;injection h
  rw[this]
 have e2:wRest s (k+1) (k+1)=wF (s.drop (k+1)) []:=by
  unfold wRest
  rw[if_neg (by omega),List.drop_take];simp
 rw[e2]
 unfold wRest
 rw[if_neg (by omega),hd]
 simp only[wF,if_true]
 by_cases hf':f<k
 ·rw[if_pos hf',if_neg (by intro e;have:=congrArg List.length e;simp at this;omega)];rfl
 ·rw[if_neg hf',if_pos (List.drop_eq_nil_of_le (by simp;omega))];rfl
theorem wRest_more {s:List UInt8}{f k:Nat} (hk:k<s.length) (hf:f≤k) (h:s[k]?≠some 32):wRest s f k=wRest s f (k+1):=by
 have hd:s.drop k=s[k]::s.drop (k+1):=List.drop_eq_getElem_cons hk
 have hne:s[k]≠32:=by intro e;rw[List.getElem?_eq_getElem hk,e] at h;exact h rfl
 unfold wRest
 rw[if_neg (by omega),if_neg (by omega),hd]
 simp only[wF,if_neg hne]
 congr 1
 rw[List.take_succ_eq_append_getElem hk,List.drop_append_of_le_length (by simp;omega)]
theorem wRest_zero (s:List UInt8):wRest s 0 0=wordsL s:=by unfold wRest wordsL;rw[if_neg (by omega)];simp
def WWords (w:World) (l:List ByteArray) (e:Ending) (w':World):Prop:=
  ∃A n c,e=.returned (.slice A n c)∧n=l.length∧Own w' w.heap.size 9 1 A n c (l.map .string)∧Keep Never w w'
set_option maxHeartbeats 4000000 in
set_option maxRecDepth 100000 in
theorem words_any (s:ByteArray) (hs:s.data.toList.length≤100000) (w:World) :
    Calls Tryz.prog 126 #[.string s] w (WWords w (wordsL s.data.toList)):=by
  obtain⟨N,hN⟩:∃N,s.size=N:=⟨_,rfl⟩
  have hN':s.data.toList.length=N:=by rw[←hN];rfl
  have HN:=qh hN
  have HN':=qh hN'
  rw[hN'] at hs
  clear hN'
  go_enter Tryz.func126, Tryz.ntmps126
  go_wp2
  go_loopw [3,4,5] (fun v f i wr=>∃(k q m c3:Nat) (A3:Option Addr) (l:List ByteArray),k≤N+1∧q≤k∧m≤k∧f=.int .i64 q∧i=.int .i64 k∧v=.slice A3 m c3 ∧
      Hid (m=l.length∧Own wr w.heap.size 9 1 A3 m c3 (l.map .string)∧Keep Never w wr∧l++wRest s.data.toList q k=wordsL s.data.toList))
    (fun _ _ i _=>N+1 - (intOf i).toNat)
  case atStart=>exact⟨0,0,0,0,none,[],by omega,by omega,by omega,rfl,rfl,rfl,rfl,Own.nil _ _ _ _,Keep.refl _ _,by rw[wRest_zero];rfl⟩
  case round=>
   obtain⟨k,q,m,c3,A3,l,hk,hq,hm,rfl,rfl,rfl,HH⟩:=hrel
   have hszs:Hid (∀w,(sizeOf 9).run Tryz.prog w=.ok 1 w):=fun w=>by kernel_rfl
   have hsl:∀q k:Nat,(⟨((s.data.toList.take k).drop q).toArray⟩:ByteArray)=s.extract q k:=by
    intro q k
    rw[←Lib.mk_data s,ByteArray.extract_mk,List.drop_take]
   have HSL:=qh hsl
   clear hsl
   by_cases hkN:k=N+1
   ·subst hkN
    obtain⟨h1,h2,h3,h4⟩:=HH.out
    have e:wRest s.data.toList q (N+1)=[]:=by unfold wRest;rw[HN'.out,if_pos (by omega)]
    rw[e,List.append_nil] at h4
    subst h4
    have HF:Hid (WWords w (wordsL s.data.toList) (.returned (.slice A3 m c3)) wr):=⟨A3,m,c3,rfl,h1,h2,h3⟩
    clear h1 h2 h3 e HH
    go_wp2
    go_ret
    exact HF.out
   have hkN':k≤N:=by omega
   
   by_cases hb:k=N∨s.data.toList[k]?=some 32
   ·
    have hnext:Hid (wRest s.data.toList q k=(if q<k then [s.extract q k] else [])++wRest s.data.toList (k+1) (k+1)):=by
     show _=_
     have h1:=HN'.out
     rcases hb with rfl | hb
     ·have e1:wRest s.data.toList (k+1) (k+1)=[]:=by unfold wRest;rw[h1,if_pos (by omega)]
      have e2:=wRest_end (s:=s.data.toList) (f:=q) (by omega)
      rw[h1] at e2
      rw[e1,e2,←HSL.out,List.append_nil]
      by_cases h:q<k
      ·rw[if_pos h,if_pos h,←h1,List.take_length]
      ·rw[if_neg h,if_neg h]
     ·have hk':k<s.data.toList.length:=by
       have:=(List.getElem?_eq_some_iff.1 hb).1;exact this
      rw[wRest_blank hk' hq hb,HSL.out]
    have htest:Hid (k=N∨∃h:k<s.size,(((s[k]'h).toNat:Int)==32)=true):=by
     rcases hb with h | hb
     ·exact .inl h
     ·right
      obtain⟨h1,h2⟩:=List.getElem?_eq_some_iff.1 hb
      refine⟨by have:=HN'.out;omega,?_⟩
      have:s[k]'(by have:=HN'.out;omega)=32:=h2
      rw[this];rfl
    by_cases hqk:q<k
    ·have hqi:(q:Int)<(k:Int):=by omega
     have HA:Hid (∀(A4:Option Addr) (c4:Nat) (w3 w4:World),Keep Never wr w3→Own w4 w.heap.size 9 1 A4 (m+1) c4 (l.map .string++[.string (s.extract q k)])→Keep (InRow A3) w3 w4 →
         m+1=(l++[s.extract q k]).length∧Own w4 w.heap.size 9 1 A4 (m+1) c4 ((l++[s.extract q k]).map .string)∧Keep Never w w4∧(l++[s.extract q k])++wRest s.data.toList (k+1) (k+1)=wordsL s.data.toList):=by
       intro A4 c4 w3 w4 hk3 ho4 hk4
       obtain⟨h1,h2,h3,h4⟩:=HH.out
       have e:=hnext.out
       rw[if_pos hqk] at e
       rw[e] at h4
       exact⟨by simp[h1],by simpa using ho4,(h3.trans hk3).then_ hk4 (fun i hi hr=>by have:=(h2.row hr).1;omega),by rw[←h4];simp⟩
     have HO:Hid (Own wr w.heap.size 9 1 A3 m c3 (l.map .string)):=HH.out.2.1
     have HS0:Hid (w.heap.size≤wr.heap.size):=HH.out.2.2.1.size
     have hki:(k:Int)≤(s.size:Int):=by omega
     clear HH hnext
     rcases htest.out with h | ⟨hlt,ht⟩
     all_goals
      first
       | (subst h;have hke:((k:Int)==(s.size:Int))=true:=by simp[hN])
       | have hke:((k:Int)==(s.size:Int))=false:=by simp;omega
      clear hb
      go_wp2_with (first
        | (at_builtin;refine wpList_app _ rfl (.tmp 25) (.tmp 30) _ rfl elemStr w.heap.size rfl (HO.out.alloc _) _ rfl (Rd.of_blk (n:=1) (cs:=[.string _]) (Blk.new _ _ _) rfl) (by simp[Value.oneCell']) (by omega) (by unfold maxLen;omega) (by have:=HS0.out;simp;omega) ?_;intro A4 c4 w4 hown4 hk4 hrow4))
      have HF:=qh (HA.out A4 c4 _ w4 ((Keep.refl _ _).alloc _) (by simpa using hown4) hk4)
      clear hown4 hk4 hrow4
      go_wp2_with fail
      go_roundw
      case rel=>exact⟨k+1,k+1,m+1,c4,A4,l++[s.extract q k],by omega,by omega,by omega,by go_num,by go_num,rfl,HF.out⟩
      case measure=>simp[intOf];try omega
    ·have hqi:¬(q:Int)<(k:Int):=by omega
     obtain⟨h1,h2,h3,h4⟩:=HH.out
     have e:=hnext.out
     rw[if_neg hqk,List.nil_append] at e
     rw[e] at h4
     have HF:=qh (And.intro h1 (And.intro h2 (And.intro h3 h4)))
     clear h1 h2 h3 h4 e HH hnext
     rcases htest.out with h | ⟨hlt,ht⟩
     all_goals
      first
       | (subst h;have hke:((k:Int)==(s.size:Int))=true:=by simp[hN])
       | have hke:((k:Int)==(s.size:Int))=false:=by simp;omega
      clear hb
      go_wp2_with fail
      go_roundw
      case rel=>exact⟨k+1,k+1,m,c3,A3,l,by omega,by omega,by omega,by go_num,by go_num,rfl,HF.out⟩
      case measure=>simp[intOf];try omega
   ·obtain⟨h1,h2,h3,h4⟩:=HH.out
    have hk':k<N:=by omega
    have e:=wRest_more (s:=s.data.toList) (f:=q) (k:=k) (by have:=HN'.out;omega) hq (fun h=>hb (.inr h))
    rw[e] at h4
    have HF:=qh (And.intro h1 (And.intro h2 (And.intro h3 h4)))
    clear h1 h2 h3 h4 e HH
    have hke:((k:Int)==(s.size:Int))=false:=by simp;omega
    have hlt:k<s.size:=by omega
    have ht:(((s[k]'hlt).toNat:Int)==32)=false:=by
     have h0:s.data.toList[k]?=some (s[k]'hlt):=by
      rw[List.getElem?_eq_getElem (by have:=HN'.out;omega)];rfl
     have:s[k]'hlt≠32:=fun h=>hb (.inr (by rw[h0,h]))
     simp only[beq_eq_false_iff_ne,ne_eq]
     intro h'
     apply this
     apply UInt8.toNat_inj.1
     exact_mod_cast h'
    clear hb
    go_wp2_with fail
    go_roundw
    case rel=>exact⟨k+1,q,m,c3,A3,l,by omega,by omega,by omega,rfl,by go_num,rfl,HF.out⟩
    case measure=>simp[intOf];try omega
theorem closeAt_drop {l:List Word}{k:Nat}{x:Word} (h:l[k]?=some x) (d:Int) :
    closeAt (l.drop k) d=(if (if isOpen x then d+1 else d) - (if isClose x then 1 else 0)=0 then 0 else closeAt (l.drop (k+1)) ((if isOpen x then d+1 else d) - (if isClose x then 1 else 0))+1):=by
  obtain⟨h1,h2⟩:=List.getElem?_eq_some_iff.1 h
  rw[List.drop_eq_getElem_cons h1,h2]
  rfl
theorem word_is (x:ByteArray) (l:List UInt8):(ByteArray.toList x==l)=decide (x=ByteArray.mk l.toArray):=by
 have:=bytes_beq x ⟨l.toArray⟩
 rw[Go.ByteArray.toList_mk l] at this
 exact this
set_option maxHeartbeats 4000000 in
set_option maxRecDepth 100000 in
theorem closing_any (A:Option Addr) (n c B:Nat) (l:List Word) (hl:l.length=n) (w:World) (hr:Rd w B 1 A n (l.map .string)) (hn:n≤100000) (k0:Nat) (hk0:k0≤n) :
    Calls Tryz.prog 170 #[.slice A n c,.int .i64 k0] w fun e w'=>e=.returned (.int .i64 ((k0+closeAt (l.drop k0) 0:Nat):Int))∧Keep Never w w':=by
  have HL:=qh hl
  have HR:=qh hr
  clear hl hr
  go_enter Tryz.func170, Tryz.ntmps170
  go_wp2
  go_loopw [5,6] (fun d i wr=>∃(k:Nat) (z:Int),k0≤k∧k≤n∧i=.int .i64 k∧d=.int .i64 z∧-k≤z∧z≤k∧Hid (Keep Never w wr∧k+closeAt (l.drop k) z=k0+closeAt (l.drop k0) 0))
    (fun _ i _=>n - (intOf i).toNat)
  case atStart=>exact⟨k0,0,by omega,by omega,rfl,rfl,by omega,by omega,Keep.refl _ _,rfl⟩
  case round=>
   obtain⟨k,z,hk,hkn,rfl,rfl,hz1,hz2,HH⟩:=hrel
   by_cases h0:k<n
   ·have h0i:(k:Int)<(n:Int):=by omega
    obtain⟨ad,x,rfl,_,hx,hc⟩:=(HR.out.keep HH.out.1 (fun _ h=>h.elim)).at1 h0
    have HX:=qh hx
    have hd:=closeAt_drop hx z
    clear hx
    clear HX
    have hz3:-100000≤z∧z≤100000:=by omega
    obtain⟨hz3,hz4⟩:=hz3
    have hcase:(isOpen x=true∧isClose x=false∧(x=⟨#[123]⟩∨x=⟨#[60]⟩∨x=⟨#[40,49,50]⟩))∨(isOpen x=false∧isClose x=true∧(x=⟨#[125]⟩∨x=⟨#[62]⟩)) ∨
        (isOpen x=false∧isClose x=false∧(ByteArray.toList x==[123])=false∧(ByteArray.toList x==[60])=false∧(ByteArray.toList x==[40,49,50])=false∧(ByteArray.toList x==[125])=false∧(ByteArray.toList x==[62])=false):=by
      rw[word_is,word_is,word_is,word_is,word_is]
      by_cases e1:x=⟨#[123]⟩
      ·subst e1;left;exact⟨by decide,by decide,by simp⟩
      by_cases e2:x=⟨#[60]⟩
      ·subst e2;left;exact⟨by decide,by decide,by simp⟩
      by_cases e3:x=⟨#[40,49,50]⟩
      ·subst e3;left;exact⟨by decide,by decide,by simp⟩
      by_cases e4:x=⟨#[125]⟩
      ·subst e4;right;left;exact⟨by decide,by decide,by simp⟩
      by_cases e5:x=⟨#[62]⟩
      ·subst e5;right;left;exact⟨by decide,by decide,by simp⟩
      right;right
      refine⟨?_,?_,by simpa using e1,by simpa using e2,by simpa using e3,by simpa using e4,by simpa using e5⟩
      ·unfold isOpen wO wL wE;simp only[decide_eq_false_iff_not,not_or];exact⟨e1,e2,e3⟩
      ·unfold isClose wC wG;simp only[decide_eq_false_iff_not,not_or];exact⟨e4,e5⟩
    rcases hcase with⟨ho,hcl,hx⟩ | ⟨ho,hcl,hx⟩ | ⟨ho,hcl,t1,t2,t3,t4,t5⟩
    ·have hd2:closeAt (l.drop k) z=if z+1=0 then 0 else closeAt (l.drop (k+1)) (z+1)+1:=by
      rw[hd,ho,hcl];simp
     clear hd ho hcl
     by_cases hz:z+1=0
     ·have HF:Hid (k=k0+closeAt (l.drop k0) 0∧Keep Never w wr):=⟨by rw[←HH.out.2,hd2,if_pos hz];rfl,HH.out.1⟩
      have hzb:(z+1==0)=true:=by simpa using hz
      clear hz hd2 HH
      rcases hx with rfl | rfl | rfl
      all_goals
       go_wp2
       go_ret
       exact⟨congrArg (fun z:Int=>Ending.returned (.int .i64 z)) (by have:=HF.out.1;omega),HF.out.2⟩
     ·have HF:Hid (Keep Never w wr∧(k+1)+closeAt (l.drop (k+1)) (z+1)=k0+closeAt (l.drop k0) 0):=⟨HH.out.1,by rw[←HH.out.2,hd2,if_neg hz];omega⟩
      have hzb:(z+1==0)=false:=by simpa using hz
      clear hz hd2 HH
      rcases hx with rfl | rfl | rfl
      all_goals
       go_wp2
       go_roundw
       case rel=>exact⟨k+1,z+1,by omega,by omega,by go_num,rfl,by omega,by omega,HF.out⟩
       case measure=>simp[intOf];try omega
    ·have hd2:closeAt (l.drop k) z=if z - 1=0 then 0 else closeAt (l.drop (k+1)) (z - 1)+1:=by
      rw[hd,ho,hcl];simp
     clear hd ho hcl
     by_cases hz:z - 1=0
     ·have HF:Hid (k=k0+closeAt (l.drop k0) 0∧Keep Never w wr):=⟨by rw[←HH.out.2,hd2,if_pos hz];rfl,HH.out.1⟩
      have hzb:(z - 1==0)=true:=by simpa using hz
      clear hz hd2 HH
      rcases hx with rfl | rfl
      all_goals
       go_wp2
       go_ret
       exact⟨congrArg (fun z:Int=>Ending.returned (.int .i64 z)) (by have:=HF.out.1;omega),HF.out.2⟩
     ·have HF:Hid (Keep Never w wr∧(k+1)+closeAt (l.drop (k+1)) (z - 1)=k0+closeAt (l.drop k0) 0):=⟨HH.out.1,by rw[←HH.out.2,hd2,if_neg hz];omega⟩
      have hzb:(z - 1==0)=false:=by simpa using hz
      clear hz hd2 HH
      rcases hx with rfl | rfl
      all_goals
       go_wp2
       go_roundw
       case rel=>exact⟨k+1,z - 1,by omega,by omega,by go_num,rfl,by omega,by omega,HF.out⟩
       case measure=>simp[intOf];try omega
    ·have hd2:closeAt (l.drop k) z=if z=0 then 0 else closeAt (l.drop (k+1)) (z)+1:=by
      rw[hd,ho,hcl];simp
     clear hd ho hcl
     by_cases hz:z=0
     ·have HF:Hid (k=k0+closeAt (l.drop k0) 0∧Keep Never w wr):=⟨by rw[←HH.out.2,hd2,if_pos hz];rfl,HH.out.1⟩
      have hzb:(z==0)=true:=by simpa using hz
      clear hz hd2 HH
      skip
      all_goals
       go_wp2
       go_ret
       exact⟨congrArg (fun z:Int=>Ending.returned (.int .i64 z)) (by have:=HF.out.1;omega),HF.out.2⟩
     ·have HF:Hid (Keep Never w wr∧(k+1)+closeAt (l.drop (k+1)) (z)=k0+closeAt (l.drop k0) 0):=⟨HH.out.1,by rw[←HH.out.2,hd2,if_neg hz];omega⟩
      have hzb:(z==0)=false:=by simpa using hz
      clear hz hd2 HH
      skip
      all_goals
       go_wp2
       go_roundw
       case rel=>exact⟨k+1,z,by omega,by omega,by go_num,rfl,by omega,by omega,HF.out⟩
       case measure=>simp[intOf];try omega
   ·obtain rfl:k=n:=by omega
    have e:k+closeAt (l.drop k) z=k:=by rw[List.drop_eq_nil_of_le (by have:=HL.out;omega)];rfl
    have hki:¬(k:Int)<(k:Int):=by omega
    have HF:Hid (k=k0+closeAt (l.drop k0) 0∧Keep Never w wr):=⟨by rw[←HH.out.2,e],HH.out.1⟩
    clear e HH
    go_wp2
    go_ret
    exact⟨congrArg (fun z:Int=>Ending.returned (.int .i64 z)) (by have:=HF.out.1;omega),HF.out.2⟩
end Go.Proofs.YtpapiojicbbheaaGreatDoor

namespace Go.Proofs.YtpapiojicbbheaaGreatDoor
open Go.RowKit
def RGet (w:World) (B:Nat) (A:Option Addr) (l:List Bool) (width:Int) (e:Ending) (w':World):Prop:=
  ∃A' n' c',e=.returned (.tuple #[.int .i64 (getN l width),.slice A' n' c',.int .i64 (getE l.length width)])∧n'=(getL l width).length∧n'≤c'∧Rd w' B 1 A' n' ((getL l width).map .bool)∧Keep Never w w'∧(∀q,InRow A' q→InRow A q)
set_option maxHeartbeats 400000 in
theorem rget_any (A:Option Addr) (n c B:Nat) (l:List Bool) (hl:l.length=n) (w:World) (hr:Rd w B 1 A n (l.map .bool)) (_hn:n≤1000000) (hc:n≤c) (width:Int) :
    Calls Tryz.prog 203 #[.slice A n c,.int .i64 width] w (RGet w B A l width):=by
  by_cases hw:width<1∨32<width
  ·have hfin:∀w',w=w'→RGet w B A l width (.returned (.tuple #[.int .i64 0,.slice A n c,.int .i64 1])) w':=by
    rintro _ rfl
    have e1:getL l width=l:=by simp[getL];omega
    have e2:getN l width=0:=by simp[getN];omega
    have e3:getE l.length width=1:=by simp[getE];omega
    exact⟨A,n,c,by rw[e2,e3],by rw[e1,hl],hc,by rw[e1];exact hr,Keep.refl _ _,fun _ h=>h⟩
   have H:=qh hfin
   clear hfin hr hl
   rcases hw with hw | hw
   all_goals
    go_enter Tryz.func203, Tryz.ntmps203
    go_wp2
    go_ret3
    exact H.out _ rfl
  ·obtain⟨k,rfl⟩:∃k:Nat,width=k:=⟨width.toNat,by omega⟩
   have h1:1≤(k:Int):=by omega
   have h2:(k:Int)≤32:=by omega
   clear hw
   by_cases hs:(n:Int)<k
   ·have hfin:∀w',w=w'→RGet w B A l k (.returned (.tuple #[.int .i64 0,.slice A n c,.int .i64 10])) w':=by
     rintro _ rfl
     have e1:getL l k=l:=by rw[getL,if_pos (by omega)]
     have e2:getN l k=0:=by rw[getN,if_pos (by omega)]
     have e3:getE l.length k=10:=by rw[getE,if_neg (by omega),if_pos (by omega)]
     exact⟨A,n,c,by rw[e2,e3],by rw[e1,hl],hc,by rw[e1];exact hr,Keep.refl _ _,fun _ h=>h⟩
    have H:=qh hfin
    clear hfin hr hl
    go_enter Tryz.func203, Tryz.ntmps203
    go_wp2
    go_ret3
    exact H.out _ rfl
   ·have e1:getL l k=l.drop k:=by rw[getL,if_neg (by omega)];simp
    have e2:getN l k=numOf (l.take k):=by rw[getN,if_neg (by omega)];simp
    have e3:getE l.length k=0:=by rw[getE,if_neg (by omega),if_neg (by omega)]
    have E1:=qh e1
    have E2:=qh e2
    have E3:=qh e3
    have HL:=qh hl
    have hRd:=qh hr
    clear e1 e2 e3 hl hr
    go_enter Tryz.func203, Tryz.ntmps203
    go_wp2
    go_loop [7,8] (fun x i=>∃j:Nat,j≤k∧i=.int .i64 j∧x=.int .i64 (numOf (l.take j):Nat)) (fun _ i=>k - (intOf i).toNat)
    case atStart=>exact⟨0,by omega,rfl,by simp[numOf]⟩
    case round=>
     obtain⟨j,hj,rfl,rfl⟩:=hrel
     have hle:=numOf_le32 (l.take j) (k:=j) (by omega) (by simp;omega)
     by_cases hjk:j<k
     ·obtain⟨ad,x,rfl,_,hx,hcell⟩:=hRd.out.at1 (k:=j) (by omega)
      obtain rfl:bitAt l j=x:=by simp[bitAt,hx]
      have htk:=take_bit l j (by have:=HL.out;omega)
      have hns:=numOf_snoc (l.take j) (bitAt l j)
      rw[←htk] at hns
      have Hns:=qh hns
      clear hx htk hns
      cases hb:bitAt l j
      all_goals
       rw[hb] at hcell
       have Hb:=qh hb
       clear hb
       go_wp2
       go_round
       case rel=>exact⟨j+1,by omega,by go_num,by rw[Hns.out,Hb.out];simp;try omega⟩
       case measure=>simp[intOf];try omega
     ·obtain rfl:j=k:=by omega
      have HC:=qh ((hRd.out).cut (k:=j) (cap:=c) (by omega) hc)
      go_wp2
      by_cases hcj:c=j
      ·go_quiet (fail)
       go_wp2
       go_ret3
       refine⟨A,n - j,0,by rw[E2.out,E3.out];rfl,by rw[E1.out,List.length_drop,HL.out],by omega,?_,(Keep.refl _ _).drewN _,fun _ h=>h⟩
       have:=HC.out
       rw[if_pos hcj,Nat.mul_one] at this
       rw[E1.out,List.map_drop]
       exact this.drewN _
      ·go_quiet (fail)
       go_wp2
       go_ret3
       refine⟨_,n - j,c - j,by rw[E2.out,E3.out];rfl,by rw[E1.out,List.length_drop,HL.out],by omega,?_,(Keep.refl _ _).drewN _,fun q h=>by
        obtain⟨ad,h1,h2⟩:=h
        rcases A with _ | a0
        ·cases h1
        ·injection h1 with h1
         exact⟨a0,rfl,by rw[←h2,←h1,block_add]⟩⟩
       have:=HC.out
       rw[if_neg hcj,Nat.mul_one] at this
       rw[E1.out,List.map_drop]
       exact this.drewN _
end Go.Proofs.YtpapiojicbbheaaGreatDoor

namespace Go.Proofs.YtpapiojicbbheaaGreatDoor
open Go.RowKit
set_option maxRecDepth 100000 in
theorem elemInt:Elem Tryz.prog 22 3 1 8:=⟨Tryz.underlying22, _,_,rfl,rfl,rfl,rfl,rfl,by omega⟩
end Go.Proofs.YtpapiojicbbheaaGreatDoor
