/- Texts of this claim, together: PlnL, PmE, PmA, PmB, PlnI. -/
import Derived.Test.YtpapiojicbbheaaGreatDoorTc05
import Derived.Test.YtpapiojicbbheaaGreatDoorTc03
namespace Go.Proofs.YtpapiojicbbheaaGreatDoor
open Go.RowKit
set_option maxRecDepth 100000 in
theorem sc_results {fn:Func}{r:Nat} (h:fn.results=#[.cell r 58]) {w:World}{b:Nat}{v0 v1:Value} (hb:Blk w b 58 #[v0,v1]) (tmps:Array Value) (ht:tmps.getD r undef=.pointer (some ⟨b,0,none⟩)) :
    (results fn tmps).run Tryz.prog w=.ok (.agg #[v0,v1]) w:=by
  have q0:w.cell? ⟨b,0,none⟩=some v0:=hb.cell 0
  have q1:w.cell? ⟨b,1,none⟩=some v1:=hb.cell 1
  have ht':tmps[r]?.getD undef=.pointer (some ⟨b,0,none⟩):=by rw[←Array.getD_eq_getD_getElem?];exact ht
  simp[results,h,ht',go_sem,q0,q1]
theorem RAt.u {w:World}{B p:Nat}{v:List Int}{u e:Int} (h:RAt w B p v u e):w.cell? ⟨p,1,none⟩=some (.int .i64 u):=by obtain⟨A,n,c,hb,_⟩:=h;exact hb.cell 1
theorem RAt.e {w:World}{B p:Nat}{v:List Int}{u e:Int} (h:RAt w B p v u e):w.cell? ⟨p,2,none⟩=some (.int .i64 e):=by obtain⟨A,n,c,hb,_⟩:=h;exact hb.cell 2
theorem sect_no {u from_:Int}{v:List Int}{e:Int} (h:v.tail.headD 0≠1):sectR u from_ v e=⟨(from_+(dmM (v.headD 0) u).1,0),v.tail.tail,if (dmM (v.headD 0) u).2≠0 then failR (failR e 20) 7 else failR e 20⟩:=by
 unfold sectR
 simp only[decide_eq_false h,Bool.false_eq_true,if_false,true_or,if_true]
theorem sect_bad {u from_:Int}{v:List Int}{e:Int} (h:v.tail.headD 0=1) (hb:v.tail.tail.headD 0<1∨1000<v.tail.tail.headD 0∨v.headD 0=0):sectR u from_ v e=⟨(from_+(dmM (v.headD 0) u).1,v.tail.tail.headD 0),v.tail.tail.tail.tail,if (dmM (v.headD 0) u).2≠0 then failR (failR e 20) 7 else failR e 20⟩:=by
 unfold sectR
 simp only[decide_eq_true h,if_true]
 rw[if_pos (Or.inr hb)]
theorem sect_good {u from_:Int}{v:List Int}{e:Int} (h:v.tail.headD 0=1) (hb:¬(v.tail.tail.headD 0<1∨1000<v.tail.tail.headD 0∨v.headD 0=0)):sectR u from_ v e=⟨(from_+(dmM (v.headD 0) u).1,v.tail.tail.headD 0),v.tail.tail.tail.tail,if (dmM (v.headD 0) u).2≠0 then failR e 7 else e⟩:=by
 unfold sectR
 simp only[decide_eq_true h,if_true]
 rw[if_neg (show ¬(true=false∨v.tail.tail.headD 0<1∨1000<v.tail.tail.headD 0∨v.headD 0=0) from fun h=>h.elim (fun h=>Bool.noConfusion h) hb)]
theorem dm_range (n s:Int):0≤(dmM n s).1∧(dmM n s).1≤3276600:=by
 have hr:=unit_range s
 unfold dmM
 split
 ·simp
 split
 ·simp
 ·rename_i h1 h2
  have hn1:n≤32766:=by omega
  have hm:=Int.mul_le_mul hn1 hr.2 hr.1 (by decide:(0:Int)≤32766)
  exact⟨Int.mul_nonneg (by omega) hr.1,by omega⟩
theorem put_two {w:World}{b t:Nat}{u0 u1:Value} (h:Blk w b t #[u0,u1]) (v0 v1:Value):Blk ((w.setCell ⟨b,0,none⟩ v0).setCell ⟨b,1,none⟩ v1) b t #[v0,v1]:=by
 have:=(h.set_ 0 v0).set_ 1 v1
 simpa using this
set_option maxHeartbeats 8000000 in
set_option maxRecDepth 100000 in
theorem sect_any (p B:Nat) (v:List Int) (u from_ e0:Int) (w:World) (h:RAt w B p v u e0) (hp:B≤p) (hf0:0≤from_) (hf1:from_≤1000000000) :
    Calls Tryz.prog 121 #[.pointer (some ⟨p,0,none⟩),.int .i64 from_] w fun e w'=>e=.returned (.agg #[.int .i64 (sectR u from_ v e0).s.1,.int .i64 (sectR u from_ v e0).s.2])∧RAt w' B p (sectR u from_ v e0).v u (sectR u from_ v e0).e∧Keep (fun q=>q=p) w w':=by
  have HO:=qh (fun (W:World) (v:List Int) (e:Int) (hW:RAt W B p v u e)=>ro_any p B v u e W hW hp)
  have HFl:=qh (fun (W:World) (v:List Int) (e x:Int) (hW:RAt W B p v u e)=>fail_any p B v u e x W hW hp)
  have HDm:=qh (fun (W:World)=>dm_any (v.headD 0) u W)
  unfold OneRet at HO
  obtain⟨raw,hraw⟩:∃z,v.headD 0=z:=⟨_,rfl⟩
  obtain⟨q,hq⟩:∃z,v.tail.headD 0=z:=⟨_,rfl⟩
  obtain⟨tm,htm⟩:∃z,v.tail.tail.headD 0=z:=⟨_,rfl⟩
  have HO1:=qh (fun W h=>HO.out W v e0 h)
  have HO2:=qh (fun W h=>HO.out W v.tail e0 h)
  have HO3:=qh (fun W h=>HO.out W v.tail.tail e0 h)
  have HO4:=qh (fun W h=>HO.out W v.tail.tail.tail e0 h)
  rw[hraw] at HO1
  rw[hq] at HO2
  rw[htm] at HO3
  have HXn:=qh (fun h=>sect_no (u:=u) (from_:=from_) (v:=v) (e:=e0) h)
  have HXb:=qh (fun h hb=>sect_bad (u:=u) (from_:=from_) (v:=v) (e:=e0) h hb)
  have HXg:=qh (fun h hb=>sect_good (u:=u) (from_:=from_) (v:=v) (e:=e0) h hb)
  have hdr:=dm_range (v.headD 0) u
  obtain⟨d1,hd1⟩:∃z,(dmM (v.headD 0) u).1=z:=⟨_,rfl⟩
  obtain⟨d2,hd2⟩:∃z,(dmM (v.headD 0) u).2=z:=⟨_,rfl⟩
  rw[hd1,hd2] at HDm HXn HXb HXg
  rw[hd1] at hdr
  rw[hraw] at HDm
  rw[hq] at HXn HXb HXg
  rw[hraw,htm] at HXb HXg
  have HWr:Hid (wrap64 (from_+d1)=from_+d1):=qh (by have:=IntWalk.i64_in (from_+d1) (by omega);rwa [IntWalk.i64_left] at this)
  have HpL:=h.lt
  clear hd1 hd2 hdr hraw hq htm HO
  obtain⟨w1,hw1⟩:∃V:World,w.alloc (.cells #[.int .i64 0,.int .i64 0] 58)=V:=⟨_,rfl⟩
  have k1:Keep Never w w1:=by rw[←hw1];exact(Keep.refl _ _).alloc _
  have b1:=Blk.new w 58 #[.int .i64 0,.int .i64 0]
  rw[hw1] at b1
  obtain⟨br,hbr⟩:∃q,w.heap.size=q:=⟨_,rfl⟩
  rw[hbr] at b1
  have HA1:=qh (h.never k1)
  have HK1:Hid (Keep (fun q=>q=p) w w1):=qh (k1.mono (fun _ _ h=>False.elim h))
  have HR1:=qh b1
  have HNe:Hid (¬br=p∧B≤br):=qh ⟨by omega,by omega⟩
  have HBr:Hid (w.heap.size=br):=qh hbr
  have HPl:=qh HpL
  clear k1 b1 h HpL
  go_enter Tryz.func121, Tryz.ntmps121
  go_wp2_with fail
  clear hw1 hbr
  refine(HO1.out w1 HA1.out).mono ?_
  rintro en w2 ⟨rfl,hr,hk⟩
  have HA2:=qh hr
  have HK2:=qtr HK1 hk
  have HR2:=qh (HR1.out.keep hk HNe.out.1)
  clear hr hk
  go_wp2_with fail
  refine(HO2.out w2 HA2.out).mono ?_
  rintro en w3 ⟨rfl,hr,hk⟩
  have HA3:=qh hr
  have HK3:=qtr HK2 hk
  have HR3:=qh (HR2.out.keep hk HNe.out.1)
  clear hr hk
  by_cases gq:q=1
  case neg=>
   have tq:(q==1)=false:=by simpa using gq
   have HX:=qh (HXn.out gq)
   clear gq
   have y0:(w3.alloc (.cells #[.int .i64 0,.int .i64 0] 58)).cell? ⟨w3.heap.size,0,none⟩=some (.int .i64 0):=(Blk.new w3 58 #[.int .i64 0,.int .i64 0]).cell 0
   have yf0:(w3.alloc (.cells #[.int .i64 0,.int .i64 0] 58)).frozen? ⟨w3.heap.size,0,none⟩=false:=(Blk.new w3 58 #[.int .i64 0,.int .i64 0]).frozen 0
   have y1:(w3.alloc (.cells #[.int .i64 0,.int .i64 0] 58)).cell? ⟨w3.heap.size,1,none⟩=some (.int .i64 0):=(Blk.new w3 58 #[.int .i64 0,.int .i64 0]).cell 1
   have yf1:(w3.alloc (.cells #[.int .i64 0,.int .i64 0] 58)).frozen? ⟨w3.heap.size,1,none⟩=false:=(Blk.new w3 58 #[.int .i64 0,.int .i64 0]).frozen 1
   go_upto_region 4 with(fail)
   obtain⟨w4,hW⟩:∃V:World,w3.alloc (.cells #[.int .i64 0,.int .i64 0] 58)=V:=⟨_,rfl⟩
   have k1:Keep Never w3 w4:=by rw[←hW];exact(Keep.refl _ _).alloc _
   have b1:=Blk.new w3 58 #[.int .i64 0,.int .i64 0]
   rw[hW] at b1 ⊢
   obtain⟨bs,hbs⟩:∃q,w3.heap.size=q:=⟨_,rfl⟩
   rw[hbs] at b1 ⊢
   have HLo:Hid (w.heap.size≤br∧w.heap.size≤bs):=qh ⟨by have:=HBr.out;omega,by rw[←hbs];exact HK3.out.size⟩
   have HNs:Hid (¬bs=p∧¬br=bs∧B≤bs):=qh ⟨by have:=HA3.out.lt;omega,by have:=HR3.out.lt;omega,by have:=HA3.out.lt;omega⟩
   have HA4:=qh (HA3.out.never k1)
   have HK4:=qh (HK3.out.then_ k1 (fun _ _ h=>False.elim h))
   have HR4:=qkb HR3 k1
   have HS4:=qh b1
   clear k1 b1 hW hbs y0 y1 yf0 yf1
   have z0:w4.cell? ⟨bs,0,none⟩=some (.int .i64 0):=HS4.out.cell 0
   have zf0:=HS4.out.frozen 0
   have z1:w4.cell? ⟨bs,1,none⟩=some (.int .i64 0):=HS4.out.cell 1
   have zf1:=HS4.out.frozen 1
   go_wp2_with fail
   clear z0 z1 zf0 zf1
   refine(HFl.out w4 v.tail.tail e0 20 HA4.out).mono ?_
   rintro en w5 ⟨rfl,hr,hk⟩
   have HA5:=qh hr
   have HK5:=qtr HK4 hk
   have HR5:=qh (HR4.out.keep hk HNe.out.1)
   have HS5:=qh (HS4.out.keep hk HNs.out.1)
   clear hr hk
   have m1:w5.cell? ⟨p,1,none⟩=some (.int .i64 u):=HA5.out.u
   go_wp2_with fail
   clear m1
   refine(HDm.out w5).mono ?_
   rintro en w6 ⟨rfl,hk⟩
   have HA6:=qh (HA5.out.never hk)
   have HK6:=qh (HK5.out.then_ hk (fun _ _ h=>False.elim h))
   have HR6:=qkb HR5 hk
   have HS6:=qkb HS5 hk
   clear hk
   by_cases gd:d2=0
   ·have td:(d2 != 0)=false:=by simpa using gd
    have HF:Hid (sectR u from_ v e0=⟨(from_+d1,0),v.tail.tail,(failR e0 20)⟩):=qh (by rw[HX.out,if_neg (by simpa using gd)])
    clear gd
    have z0:w6.cell? ⟨bs,0,none⟩=some (.int .i64 0):=HS6.out.cell 0
    have zf0:=HS6.out.frozen 0
    have z1:w6.cell? ⟨bs,1,none⟩=some (.int .i64 0):=HS6.out.cell 1
    have zf1:=HS6.out.frozen 1
    go_upto_region 13 with(fail)
    (try rw[HWr.out])
    obtain⟨wz,hW⟩:∃V:World,w6.setCell ⟨bs,0,none⟩ (.int .i64 (from_+d1))=V:=⟨_,rfl⟩
    rw[hW]
    have k1:Keep (fun q=>q=bs) w6 wz:=by rw[←hW];exact put1_keep _
    have HA50:=qh (HA6.out.keep k1 (fun k h=>by subst h;exact⟨HNs.out.2.2,HNs.out.1⟩))
    have HK50:=qh (HK6.out.then_ k1 (fun i hi h=>by subst h;have:=HLo.out.2;omega))
    have HR50:=qh (HR6.out.keep k1 HNs.out.2.1)
    have HS50:Hid (Blk wz bs 58 #[.int .i64 (from_+d1),.int .i64 0]):=qh (by rw[←hW];have:=HS6.out.set_ 0 (.int .i64 (from_+d1));simpa using this)
    clear hW k1 z0 z1 zf0 zf1
    have z0:wz.cell? ⟨bs,0,none⟩=some (.int .i64 (from_+d1)):=HS50.out.cell 0
    have zf0:=HS50.out.frozen 0
    have z1:wz.cell? ⟨bs,1,none⟩=some (.int .i64 0):=HS50.out.cell 1
    have zf1:=HS50.out.frozen 1
    have r0:wz.cell? ⟨br,0,none⟩=some (.int .i64 0):=HR50.out.cell 0
    have rf0:=HR50.out.frozen 0
    have r1:wz.cell? ⟨br,1,none⟩=some (.int .i64 0):=HR50.out.cell 1
    have rf1:=HR50.out.frozen 1
    go_wp2_with fail
    (try simp only[Exit.inBlock,Exit.then])
    have ha2:=HA50.out.keep (S:=fun q=>q=br) ((Keep.refl (fun q=>q=br) wz).set_ (p:=⟨br,0,none⟩) (.inl rfl) (.int .i64 (from_+d1))) (fun k (h:k=br)=>by rw[h];exact⟨HNe.out.2,HNe.out.1⟩)
    have ha3:=ha2.keep (S:=fun q=>q=br) ((Keep.refl (fun q=>q=br) _).set_ (p:=⟨br,1,none⟩) (.inl rfl) (.int .i64 0)) (fun k (h:k=br)=>by rw[h];exact⟨HNe.out.2,HNe.out.1⟩)
    refine bodyPost_ret (sc_results (fn:=Tryz.f121) (r:=4) rfl (put_two HR50.out (.int .i64 (from_+d1)) (.int .i64 0)) _ rfl) rfl ⟨by rw[HF.out],by rw[HF.out];exact ha3,?_⟩
    exact(HK50.out.set_ (p:=⟨br,0,none⟩) (.inr HLo.out.1) _).set_ (p:=⟨br,1,none⟩) (.inr HLo.out.1) _
   ·have td:(d2 != 0)=true:=by simpa using gd
    have HF:Hid (sectR u from_ v e0=⟨(from_+d1,0),v.tail.tail,failR (failR e0 20) 7⟩):=qh (by rw[HX.out,if_pos gd])
    clear gd
    go_wp2_with fail
    refine(HFl.out w6 v.tail.tail (failR e0 20) 7 HA6.out).mono ?_
    rintro en w7 ⟨rfl,hr,hk⟩
    have HA7:=qh hr
    have HK7:=qtr HK6 hk
    have HR7:=qh (HR6.out.keep hk HNe.out.1)
    have HS7:=qh (HS6.out.keep hk HNs.out.1)
    clear hr hk
    have z0:w7.cell? ⟨bs,0,none⟩=some (.int .i64 0):=HS7.out.cell 0
    have zf0:=HS7.out.frozen 0
    have z1:w7.cell? ⟨bs,1,none⟩=some (.int .i64 0):=HS7.out.cell 1
    have zf1:=HS7.out.frozen 1
    go_upto_region 13 with(fail)
    (try rw[HWr.out])
    obtain⟨wz,hW⟩:∃V:World,w7.setCell ⟨bs,0,none⟩ (.int .i64 (from_+d1))=V:=⟨_,rfl⟩
    rw[hW]
    have k1:Keep (fun q=>q=bs) w7 wz:=by rw[←hW];exact put1_keep _
    have HA50:=qh (HA7.out.keep k1 (fun k h=>by subst h;exact⟨HNs.out.2.2,HNs.out.1⟩))
    have HK50:=qh (HK7.out.then_ k1 (fun i hi h=>by subst h;have:=HLo.out.2;omega))
    have HR50:=qh (HR7.out.keep k1 HNs.out.2.1)
    have HS50:Hid (Blk wz bs 58 #[.int .i64 (from_+d1),.int .i64 0]):=qh (by rw[←hW];have:=HS7.out.set_ 0 (.int .i64 (from_+d1));simpa using this)
    clear hW k1 z0 z1 zf0 zf1
    have z0:wz.cell? ⟨bs,0,none⟩=some (.int .i64 (from_+d1)):=HS50.out.cell 0
    have zf0:=HS50.out.frozen 0
    have z1:wz.cell? ⟨bs,1,none⟩=some (.int .i64 0):=HS50.out.cell 1
    have zf1:=HS50.out.frozen 1
    have r0:wz.cell? ⟨br,0,none⟩=some (.int .i64 0):=HR50.out.cell 0
    have rf0:=HR50.out.frozen 0
    have r1:wz.cell? ⟨br,1,none⟩=some (.int .i64 0):=HR50.out.cell 1
    have rf1:=HR50.out.frozen 1
    go_wp2_with fail
    (try simp only[Exit.inBlock,Exit.then])
    have ha2:=HA50.out.keep (S:=fun q=>q=br) ((Keep.refl (fun q=>q=br) wz).set_ (p:=⟨br,0,none⟩) (.inl rfl) (.int .i64 (from_+d1))) (fun k (h:k=br)=>by rw[h];exact⟨HNe.out.2,HNe.out.1⟩)
    have ha3:=ha2.keep (S:=fun q=>q=br) ((Keep.refl (fun q=>q=br) _).set_ (p:=⟨br,1,none⟩) (.inl rfl) (.int .i64 0)) (fun k (h:k=br)=>by rw[h];exact⟨HNe.out.2,HNe.out.1⟩)
    refine bodyPost_ret (sc_results (fn:=Tryz.f121) (r:=4) rfl (put_two HR50.out (.int .i64 (from_+d1)) (.int .i64 0)) _ rfl) rfl ⟨by rw[HF.out],by rw[HF.out];exact ha3,?_⟩
    exact(HK50.out.set_ (p:=⟨br,0,none⟩) (.inr HLo.out.1) _).set_ (p:=⟨br,1,none⟩) (.inr HLo.out.1) _
  have tq:(q==1)=true:=by simpa using gq
  have y0:(w3.alloc (.cells #[.int .i64 0,.int .i64 0] 58)).cell? ⟨w3.heap.size,0,none⟩=some (.int .i64 0):=(Blk.new w3 58 #[.int .i64 0,.int .i64 0]).cell 0
  have yf0:(w3.alloc (.cells #[.int .i64 0,.int .i64 0] 58)).frozen? ⟨w3.heap.size,0,none⟩=false:=(Blk.new w3 58 #[.int .i64 0,.int .i64 0]).frozen 0
  have y1:(w3.alloc (.cells #[.int .i64 0,.int .i64 0] 58)).cell? ⟨w3.heap.size,1,none⟩=some (.int .i64 0):=(Blk.new w3 58 #[.int .i64 0,.int .i64 0]).cell 1
  have yf1:(w3.alloc (.cells #[.int .i64 0,.int .i64 0] 58)).frozen? ⟨w3.heap.size,1,none⟩=false:=(Blk.new w3 58 #[.int .i64 0,.int .i64 0]).frozen 1
  go_upto_region 4 with(fail)
  obtain⟨w4,hW⟩:∃V:World,w3.alloc (.cells #[.int .i64 0,.int .i64 0] 58)=V:=⟨_,rfl⟩
  have k1:Keep Never w3 w4:=by rw[←hW];exact(Keep.refl _ _).alloc _
  have b1:=Blk.new w3 58 #[.int .i64 0,.int .i64 0]
  rw[hW] at b1 ⊢
  obtain⟨bs,hbs⟩:∃q,w3.heap.size=q:=⟨_,rfl⟩
  rw[hbs] at b1 ⊢
  have HLo:Hid (w.heap.size≤br∧w.heap.size≤bs):=qh ⟨by have:=HBr.out;omega,by rw[←hbs];exact HK3.out.size⟩
  have HNs:Hid (¬bs=p∧¬br=bs∧B≤bs):=qh ⟨by have:=HA3.out.lt;omega,by have:=HR3.out.lt;omega,by have:=HA3.out.lt;omega⟩
  have HA4:=qh (HA3.out.never k1)
  have HK4:=qh (HK3.out.then_ k1 (fun _ _ h=>False.elim h))
  have HR4:=qkb HR3 k1
  have HS4:=qh b1
  clear k1 b1 hW hbs y0 y1 yf0 yf1
  have z0:w4.cell? ⟨bs,0,none⟩=some (.int .i64 0):=HS4.out.cell 0
  have zf0:=HS4.out.frozen 0
  have z1:w4.cell? ⟨bs,1,none⟩=some (.int .i64 0):=HS4.out.cell 1
  have zf1:=HS4.out.frozen 1
  go_wp2_with fail
  clear z0 z1 zf0 zf1
  refine(HO3.out w4 HA4.out).mono ?_
  rintro en w5 ⟨rfl,hr,hk⟩
  have HA5:=qh hr
  have HK5:=qtr HK4 hk
  have HR5:=qh (HR4.out.keep hk HNe.out.1)
  have HS5:=qh (HS4.out.keep hk HNs.out.1)
  clear hr hk
  have z0:w5.cell? ⟨bs,0,none⟩=some (.int .i64 0):=HS5.out.cell 0
  have zf0:=HS5.out.frozen 0
  have z1:w5.cell? ⟨bs,1,none⟩=some (.int .i64 0):=HS5.out.cell 1
  have zf1:=HS5.out.frozen 1
  go_upto_region 6 with(fail)
  obtain⟨w6,hW⟩:∃V:World,w5.setCell ⟨bs,1,none⟩ (.int .i64 tm)=V:=⟨_,rfl⟩
  rw[hW]
  have k1:Keep (fun q=>q=bs) w5 w6:=by rw[←hW];exact put1_keep _
  have HA6:=qh (HA5.out.keep k1 (fun k h=>by subst h;exact⟨HNs.out.2.2,HNs.out.1⟩))
  have HK6:=qh (HK5.out.then_ k1 (fun i hi h=>by subst h;have:=HLo.out.2;omega))
  have HR6:=qh (HR5.out.keep k1 HNs.out.2.1)
  have HS6:Hid (Blk w6 bs 58 #[.int .i64 0,.int .i64 tm]):=qh (by rw[←hW];have:=HS5.out.set_ 1 (.int .i64 tm);simpa using this)
  clear hW k1 z0 z1 zf0 zf1
  go_wp2_with fail
  refine(HO4.out w6 HA6.out).mono ?_
  rintro en w7 ⟨rfl,hr,hk⟩
  have HA7:=qh hr
  have HK7:=qtr HK6 hk
  have HR7:=qh (HR6.out.keep hk HNe.out.1)
  have HS7:=qh (HS6.out.keep hk HNs.out.1)
  clear hr hk
  have z0:w7.cell? ⟨bs,0,none⟩=some (.int .i64 0):=HS7.out.cell 0
  have zf0:=HS7.out.frozen 0
  have z1:w7.cell? ⟨bs,1,none⟩=some (.int .i64 tm):=HS7.out.cell 1
  have zf1:=HS7.out.frozen 1
  by_cases g0:tm<1
  ·have u0:decide (tm<1)=true:=by simpa using g0
   have HX:=qh (HXb.out gq (.inl g0))
   clear gq g0
   go_wp2_with fail
   clear z0 z1 zf0 zf1
   refine(HFl.out w7 v.tail.tail.tail.tail e0 20 HA7.out).mono ?_
   rintro en w8 ⟨rfl,hr,hk⟩
   have HA8:=qh hr
   have HK8:=qtr HK7 hk
   have HR8:=qh (HR7.out.keep hk HNe.out.1)
   have HS8:=qh (HS7.out.keep hk HNs.out.1)
   clear hr hk
   have m1:w8.cell? ⟨p,1,none⟩=some (.int .i64 u):=HA8.out.u
   go_wp2_with fail
   clear m1
   refine(HDm.out w8).mono ?_
   rintro en w9 ⟨rfl,hk⟩
   have HA9:=qh (HA8.out.never hk)
   have HK9:=qh (HK8.out.then_ hk (fun _ _ h=>False.elim h))
   have HR9:=qkb HR8 hk
   have HS9:=qkb HS8 hk
   clear hk
   by_cases gd:d2=0
   ·have td:(d2 != 0)=false:=by simpa using gd
    have HF:Hid (sectR u from_ v e0=⟨(from_+d1,tm),v.tail.tail.tail.tail,(failR e0 20)⟩):=qh (by rw[HX.out,if_neg (by simpa using gd)])
    clear gd
    have z0:w9.cell? ⟨bs,0,none⟩=some (.int .i64 0):=HS9.out.cell 0
    have zf0:=HS9.out.frozen 0
    have z1:w9.cell? ⟨bs,1,none⟩=some (.int .i64 tm):=HS9.out.cell 1
    have zf1:=HS9.out.frozen 1
    go_upto_region 13 with(fail)
    (try rw[HWr.out])
    obtain⟨wz,hW⟩:∃V:World,w9.setCell ⟨bs,0,none⟩ (.int .i64 (from_+d1))=V:=⟨_,rfl⟩
    rw[hW]
    have k1:Keep (fun q=>q=bs) w9 wz:=by rw[←hW];exact put1_keep _
    have HA50:=qh (HA9.out.keep k1 (fun k h=>by subst h;exact⟨HNs.out.2.2,HNs.out.1⟩))
    have HK50:=qh (HK9.out.then_ k1 (fun i hi h=>by subst h;have:=HLo.out.2;omega))
    have HR50:=qh (HR9.out.keep k1 HNs.out.2.1)
    have HS50:Hid (Blk wz bs 58 #[.int .i64 (from_+d1),.int .i64 tm]):=qh (by rw[←hW];have:=HS9.out.set_ 0 (.int .i64 (from_+d1));simpa using this)
    clear hW k1 z0 z1 zf0 zf1
    have z0:wz.cell? ⟨bs,0,none⟩=some (.int .i64 (from_+d1)):=HS50.out.cell 0
    have zf0:=HS50.out.frozen 0
    have z1:wz.cell? ⟨bs,1,none⟩=some (.int .i64 tm):=HS50.out.cell 1
    have zf1:=HS50.out.frozen 1
    have r0:wz.cell? ⟨br,0,none⟩=some (.int .i64 0):=HR50.out.cell 0
    have rf0:=HR50.out.frozen 0
    have r1:wz.cell? ⟨br,1,none⟩=some (.int .i64 0):=HR50.out.cell 1
    have rf1:=HR50.out.frozen 1
    go_wp2_with fail
    (try simp only[Exit.inBlock,Exit.then])
    have ha2:=HA50.out.keep (S:=fun q=>q=br) ((Keep.refl (fun q=>q=br) wz).set_ (p:=⟨br,0,none⟩) (.inl rfl) (.int .i64 (from_+d1))) (fun k (h:k=br)=>by rw[h];exact⟨HNe.out.2,HNe.out.1⟩)
    have ha3:=ha2.keep (S:=fun q=>q=br) ((Keep.refl (fun q=>q=br) _).set_ (p:=⟨br,1,none⟩) (.inl rfl) (.int .i64 tm)) (fun k (h:k=br)=>by rw[h];exact⟨HNe.out.2,HNe.out.1⟩)
    refine bodyPost_ret (sc_results (fn:=Tryz.f121) (r:=4) rfl (put_two HR50.out (.int .i64 (from_+d1)) (.int .i64 tm)) _ rfl) rfl ⟨by rw[HF.out],by rw[HF.out];exact ha3,?_⟩
    exact(HK50.out.set_ (p:=⟨br,0,none⟩) (.inr HLo.out.1) _).set_ (p:=⟨br,1,none⟩) (.inr HLo.out.1) _
   ·have td:(d2 != 0)=true:=by simpa using gd
    have HF:Hid (sectR u from_ v e0=⟨(from_+d1,tm),v.tail.tail.tail.tail,failR (failR e0 20) 7⟩):=qh (by rw[HX.out,if_pos gd])
    clear gd
    go_wp2_with fail
    refine(HFl.out w9 v.tail.tail.tail.tail (failR e0 20) 7 HA9.out).mono ?_
    rintro en w10 ⟨rfl,hr,hk⟩
    have HA10:=qh hr
    have HK10:=qtr HK9 hk
    have HR10:=qh (HR9.out.keep hk HNe.out.1)
    have HS10:=qh (HS9.out.keep hk HNs.out.1)
    clear hr hk
    have z0:w10.cell? ⟨bs,0,none⟩=some (.int .i64 0):=HS10.out.cell 0
    have zf0:=HS10.out.frozen 0
    have z1:w10.cell? ⟨bs,1,none⟩=some (.int .i64 tm):=HS10.out.cell 1
    have zf1:=HS10.out.frozen 1
    go_upto_region 13 with(fail)
    (try rw[HWr.out])
    obtain⟨wz,hW⟩:∃V:World,w10.setCell ⟨bs,0,none⟩ (.int .i64 (from_+d1))=V:=⟨_,rfl⟩
    rw[hW]
    have k1:Keep (fun q=>q=bs) w10 wz:=by rw[←hW];exact put1_keep _
    have HA50:=qh (HA10.out.keep k1 (fun k h=>by subst h;exact⟨HNs.out.2.2,HNs.out.1⟩))
    have HK50:=qh (HK10.out.then_ k1 (fun i hi h=>by subst h;have:=HLo.out.2;omega))
    have HR50:=qh (HR10.out.keep k1 HNs.out.2.1)
    have HS50:Hid (Blk wz bs 58 #[.int .i64 (from_+d1),.int .i64 tm]):=qh (by rw[←hW];have:=HS10.out.set_ 0 (.int .i64 (from_+d1));simpa using this)
    clear hW k1 z0 z1 zf0 zf1
    have z0:wz.cell? ⟨bs,0,none⟩=some (.int .i64 (from_+d1)):=HS50.out.cell 0
    have zf0:=HS50.out.frozen 0
    have z1:wz.cell? ⟨bs,1,none⟩=some (.int .i64 tm):=HS50.out.cell 1
    have zf1:=HS50.out.frozen 1
    have r0:wz.cell? ⟨br,0,none⟩=some (.int .i64 0):=HR50.out.cell 0
    have rf0:=HR50.out.frozen 0
    have r1:wz.cell? ⟨br,1,none⟩=some (.int .i64 0):=HR50.out.cell 1
    have rf1:=HR50.out.frozen 1
    go_wp2_with fail
    (try simp only[Exit.inBlock,Exit.then])
    have ha2:=HA50.out.keep (S:=fun q=>q=br) ((Keep.refl (fun q=>q=br) wz).set_ (p:=⟨br,0,none⟩) (.inl rfl) (.int .i64 (from_+d1))) (fun k (h:k=br)=>by rw[h];exact⟨HNe.out.2,HNe.out.1⟩)
    have ha3:=ha2.keep (S:=fun q=>q=br) ((Keep.refl (fun q=>q=br) _).set_ (p:=⟨br,1,none⟩) (.inl rfl) (.int .i64 tm)) (fun k (h:k=br)=>by rw[h];exact⟨HNe.out.2,HNe.out.1⟩)
    refine bodyPost_ret (sc_results (fn:=Tryz.f121) (r:=4) rfl (put_two HR50.out (.int .i64 (from_+d1)) (.int .i64 tm)) _ rfl) rfl ⟨by rw[HF.out],by rw[HF.out];exact ha3,?_⟩
    exact(HK50.out.set_ (p:=⟨br,0,none⟩) (.inr HLo.out.1) _).set_ (p:=⟨br,1,none⟩) (.inr HLo.out.1) _
  have u0:decide (tm<1)=false:=by simpa using g0
  by_cases g1:tm>1000
  ·have u1:decide (tm>1000)=true:=by simpa using g1
   have HX:=qh (HXb.out gq (.inr (.inl g1)))
   clear gq g0 g1
   go_wp2_with fail
   clear z0 z1 zf0 zf1
   refine(HFl.out w7 v.tail.tail.tail.tail e0 20 HA7.out).mono ?_
   rintro en w8 ⟨rfl,hr,hk⟩
   have HA8:=qh hr
   have HK8:=qtr HK7 hk
   have HR8:=qh (HR7.out.keep hk HNe.out.1)
   have HS8:=qh (HS7.out.keep hk HNs.out.1)
   clear hr hk
   have m1:w8.cell? ⟨p,1,none⟩=some (.int .i64 u):=HA8.out.u
   go_wp2_with fail
   clear m1
   refine(HDm.out w8).mono ?_
   rintro en w9 ⟨rfl,hk⟩
   have HA9:=qh (HA8.out.never hk)
   have HK9:=qh (HK8.out.then_ hk (fun _ _ h=>False.elim h))
   have HR9:=qkb HR8 hk
   have HS9:=qkb HS8 hk
   clear hk
   by_cases gd:d2=0
   ·have td:(d2 != 0)=false:=by simpa using gd
    have HF:Hid (sectR u from_ v e0=⟨(from_+d1,tm),v.tail.tail.tail.tail,(failR e0 20)⟩):=qh (by rw[HX.out,if_neg (by simpa using gd)])
    clear gd
    have z0:w9.cell? ⟨bs,0,none⟩=some (.int .i64 0):=HS9.out.cell 0
    have zf0:=HS9.out.frozen 0
    have z1:w9.cell? ⟨bs,1,none⟩=some (.int .i64 tm):=HS9.out.cell 1
    have zf1:=HS9.out.frozen 1
    go_upto_region 13 with(fail)
    (try rw[HWr.out])
    obtain⟨wz,hW⟩:∃V:World,w9.setCell ⟨bs,0,none⟩ (.int .i64 (from_+d1))=V:=⟨_,rfl⟩
    rw[hW]
    have k1:Keep (fun q=>q=bs) w9 wz:=by rw[←hW];exact put1_keep _
    have HA50:=qh (HA9.out.keep k1 (fun k h=>by subst h;exact⟨HNs.out.2.2,HNs.out.1⟩))
    have HK50:=qh (HK9.out.then_ k1 (fun i hi h=>by subst h;have:=HLo.out.2;omega))
    have HR50:=qh (HR9.out.keep k1 HNs.out.2.1)
    have HS50:Hid (Blk wz bs 58 #[.int .i64 (from_+d1),.int .i64 tm]):=qh (by rw[←hW];have:=HS9.out.set_ 0 (.int .i64 (from_+d1));simpa using this)
    clear hW k1 z0 z1 zf0 zf1
    have z0:wz.cell? ⟨bs,0,none⟩=some (.int .i64 (from_+d1)):=HS50.out.cell 0
    have zf0:=HS50.out.frozen 0
    have z1:wz.cell? ⟨bs,1,none⟩=some (.int .i64 tm):=HS50.out.cell 1
    have zf1:=HS50.out.frozen 1
    have r0:wz.cell? ⟨br,0,none⟩=some (.int .i64 0):=HR50.out.cell 0
    have rf0:=HR50.out.frozen 0
    have r1:wz.cell? ⟨br,1,none⟩=some (.int .i64 0):=HR50.out.cell 1
    have rf1:=HR50.out.frozen 1
    go_wp2_with fail
    (try simp only[Exit.inBlock,Exit.then])
    have ha2:=HA50.out.keep (S:=fun q=>q=br) ((Keep.refl (fun q=>q=br) wz).set_ (p:=⟨br,0,none⟩) (.inl rfl) (.int .i64 (from_+d1))) (fun k (h:k=br)=>by rw[h];exact⟨HNe.out.2,HNe.out.1⟩)
    have ha3:=ha2.keep (S:=fun q=>q=br) ((Keep.refl (fun q=>q=br) _).set_ (p:=⟨br,1,none⟩) (.inl rfl) (.int .i64 tm)) (fun k (h:k=br)=>by rw[h];exact⟨HNe.out.2,HNe.out.1⟩)
    refine bodyPost_ret (sc_results (fn:=Tryz.f121) (r:=4) rfl (put_two HR50.out (.int .i64 (from_+d1)) (.int .i64 tm)) _ rfl) rfl ⟨by rw[HF.out],by rw[HF.out];exact ha3,?_⟩
    exact(HK50.out.set_ (p:=⟨br,0,none⟩) (.inr HLo.out.1) _).set_ (p:=⟨br,1,none⟩) (.inr HLo.out.1) _
   ·have td:(d2 != 0)=true:=by simpa using gd
    have HF:Hid (sectR u from_ v e0=⟨(from_+d1,tm),v.tail.tail.tail.tail,failR (failR e0 20) 7⟩):=qh (by rw[HX.out,if_pos gd])
    clear gd
    go_wp2_with fail
    refine(HFl.out w9 v.tail.tail.tail.tail (failR e0 20) 7 HA9.out).mono ?_
    rintro en w10 ⟨rfl,hr,hk⟩
    have HA10:=qh hr
    have HK10:=qtr HK9 hk
    have HR10:=qh (HR9.out.keep hk HNe.out.1)
    have HS10:=qh (HS9.out.keep hk HNs.out.1)
    clear hr hk
    have z0:w10.cell? ⟨bs,0,none⟩=some (.int .i64 0):=HS10.out.cell 0
    have zf0:=HS10.out.frozen 0
    have z1:w10.cell? ⟨bs,1,none⟩=some (.int .i64 tm):=HS10.out.cell 1
    have zf1:=HS10.out.frozen 1
    go_upto_region 13 with(fail)
    (try rw[HWr.out])
    obtain⟨wz,hW⟩:∃V:World,w10.setCell ⟨bs,0,none⟩ (.int .i64 (from_+d1))=V:=⟨_,rfl⟩
    rw[hW]
    have k1:Keep (fun q=>q=bs) w10 wz:=by rw[←hW];exact put1_keep _
    have HA50:=qh (HA10.out.keep k1 (fun k h=>by subst h;exact⟨HNs.out.2.2,HNs.out.1⟩))
    have HK50:=qh (HK10.out.then_ k1 (fun i hi h=>by subst h;have:=HLo.out.2;omega))
    have HR50:=qh (HR10.out.keep k1 HNs.out.2.1)
    have HS50:Hid (Blk wz bs 58 #[.int .i64 (from_+d1),.int .i64 tm]):=qh (by rw[←hW];have:=HS10.out.set_ 0 (.int .i64 (from_+d1));simpa using this)
    clear hW k1 z0 z1 zf0 zf1
    have z0:wz.cell? ⟨bs,0,none⟩=some (.int .i64 (from_+d1)):=HS50.out.cell 0
    have zf0:=HS50.out.frozen 0
    have z1:wz.cell? ⟨bs,1,none⟩=some (.int .i64 tm):=HS50.out.cell 1
    have zf1:=HS50.out.frozen 1
    have r0:wz.cell? ⟨br,0,none⟩=some (.int .i64 0):=HR50.out.cell 0
    have rf0:=HR50.out.frozen 0
    have r1:wz.cell? ⟨br,1,none⟩=some (.int .i64 0):=HR50.out.cell 1
    have rf1:=HR50.out.frozen 1
    go_wp2_with fail
    (try simp only[Exit.inBlock,Exit.then])
    have ha2:=HA50.out.keep (S:=fun q=>q=br) ((Keep.refl (fun q=>q=br) wz).set_ (p:=⟨br,0,none⟩) (.inl rfl) (.int .i64 (from_+d1))) (fun k (h:k=br)=>by rw[h];exact⟨HNe.out.2,HNe.out.1⟩)
    have ha3:=ha2.keep (S:=fun q=>q=br) ((Keep.refl (fun q=>q=br) _).set_ (p:=⟨br,1,none⟩) (.inl rfl) (.int .i64 tm)) (fun k (h:k=br)=>by rw[h];exact⟨HNe.out.2,HNe.out.1⟩)
    refine bodyPost_ret (sc_results (fn:=Tryz.f121) (r:=4) rfl (put_two HR50.out (.int .i64 (from_+d1)) (.int .i64 tm)) _ rfl) rfl ⟨by rw[HF.out],by rw[HF.out];exact ha3,?_⟩
    exact(HK50.out.set_ (p:=⟨br,0,none⟩) (.inr HLo.out.1) _).set_ (p:=⟨br,1,none⟩) (.inr HLo.out.1) _
  have u1:decide (tm>1000)=false:=by simpa using g1
  by_cases g2:raw=0
  ·have u2:(raw==0)=true:=by simpa using g2
   have HX:=qh (HXb.out gq (.inr (.inr g2)))
   clear gq g0 g1 g2
   go_wp2_with fail
   clear z0 z1 zf0 zf1
   refine(HFl.out w7 v.tail.tail.tail.tail e0 20 HA7.out).mono ?_
   rintro en w8 ⟨rfl,hr,hk⟩
   have HA8:=qh hr
   have HK8:=qtr HK7 hk
   have HR8:=qh (HR7.out.keep hk HNe.out.1)
   have HS8:=qh (HS7.out.keep hk HNs.out.1)
   clear hr hk
   have m1:w8.cell? ⟨p,1,none⟩=some (.int .i64 u):=HA8.out.u
   go_wp2_with fail
   clear m1
   refine(HDm.out w8).mono ?_
   rintro en w9 ⟨rfl,hk⟩
   have HA9:=qh (HA8.out.never hk)
   have HK9:=qh (HK8.out.then_ hk (fun _ _ h=>False.elim h))
   have HR9:=qkb HR8 hk
   have HS9:=qkb HS8 hk
   clear hk
   by_cases gd:d2=0
   ·have td:(d2 != 0)=false:=by simpa using gd
    have HF:Hid (sectR u from_ v e0=⟨(from_+d1,tm),v.tail.tail.tail.tail,(failR e0 20)⟩):=qh (by rw[HX.out,if_neg (by simpa using gd)])
    clear gd
    have z0:w9.cell? ⟨bs,0,none⟩=some (.int .i64 0):=HS9.out.cell 0
    have zf0:=HS9.out.frozen 0
    have z1:w9.cell? ⟨bs,1,none⟩=some (.int .i64 tm):=HS9.out.cell 1
    have zf1:=HS9.out.frozen 1
    go_upto_region 13 with(fail)
    (try rw[HWr.out])
    obtain⟨wz,hW⟩:∃V:World,w9.setCell ⟨bs,0,none⟩ (.int .i64 (from_+d1))=V:=⟨_,rfl⟩
    rw[hW]
    have k1:Keep (fun q=>q=bs) w9 wz:=by rw[←hW];exact put1_keep _
    have HA50:=qh (HA9.out.keep k1 (fun k h=>by subst h;exact⟨HNs.out.2.2,HNs.out.1⟩))
    have HK50:=qh (HK9.out.then_ k1 (fun i hi h=>by subst h;have:=HLo.out.2;omega))
    have HR50:=qh (HR9.out.keep k1 HNs.out.2.1)
    have HS50:Hid (Blk wz bs 58 #[.int .i64 (from_+d1),.int .i64 tm]):=qh (by rw[←hW];have:=HS9.out.set_ 0 (.int .i64 (from_+d1));simpa using this)
    clear hW k1 z0 z1 zf0 zf1
    have z0:wz.cell? ⟨bs,0,none⟩=some (.int .i64 (from_+d1)):=HS50.out.cell 0
    have zf0:=HS50.out.frozen 0
    have z1:wz.cell? ⟨bs,1,none⟩=some (.int .i64 tm):=HS50.out.cell 1
    have zf1:=HS50.out.frozen 1
    have r0:wz.cell? ⟨br,0,none⟩=some (.int .i64 0):=HR50.out.cell 0
    have rf0:=HR50.out.frozen 0
    have r1:wz.cell? ⟨br,1,none⟩=some (.int .i64 0):=HR50.out.cell 1
    have rf1:=HR50.out.frozen 1
    go_wp2_with fail
    (try simp only[Exit.inBlock,Exit.then])
    have ha2:=HA50.out.keep (S:=fun q=>q=br) ((Keep.refl (fun q=>q=br) wz).set_ (p:=⟨br,0,none⟩) (.inl rfl) (.int .i64 (from_+d1))) (fun k (h:k=br)=>by rw[h];exact⟨HNe.out.2,HNe.out.1⟩)
    have ha3:=ha2.keep (S:=fun q=>q=br) ((Keep.refl (fun q=>q=br) _).set_ (p:=⟨br,1,none⟩) (.inl rfl) (.int .i64 tm)) (fun k (h:k=br)=>by rw[h];exact⟨HNe.out.2,HNe.out.1⟩)
    refine bodyPost_ret (sc_results (fn:=Tryz.f121) (r:=4) rfl (put_two HR50.out (.int .i64 (from_+d1)) (.int .i64 tm)) _ rfl) rfl ⟨by rw[HF.out],by rw[HF.out];exact ha3,?_⟩
    exact(HK50.out.set_ (p:=⟨br,0,none⟩) (.inr HLo.out.1) _).set_ (p:=⟨br,1,none⟩) (.inr HLo.out.1) _
   ·have td:(d2 != 0)=true:=by simpa using gd
    have HF:Hid (sectR u from_ v e0=⟨(from_+d1,tm),v.tail.tail.tail.tail,failR (failR e0 20) 7⟩):=qh (by rw[HX.out,if_pos gd])
    clear gd
    go_wp2_with fail
    refine(HFl.out w9 v.tail.tail.tail.tail (failR e0 20) 7 HA9.out).mono ?_
    rintro en w10 ⟨rfl,hr,hk⟩
    have HA10:=qh hr
    have HK10:=qtr HK9 hk
    have HR10:=qh (HR9.out.keep hk HNe.out.1)
    have HS10:=qh (HS9.out.keep hk HNs.out.1)
    clear hr hk
    have z0:w10.cell? ⟨bs,0,none⟩=some (.int .i64 0):=HS10.out.cell 0
    have zf0:=HS10.out.frozen 0
    have z1:w10.cell? ⟨bs,1,none⟩=some (.int .i64 tm):=HS10.out.cell 1
    have zf1:=HS10.out.frozen 1
    go_upto_region 13 with(fail)
    (try rw[HWr.out])
    obtain⟨wz,hW⟩:∃V:World,w10.setCell ⟨bs,0,none⟩ (.int .i64 (from_+d1))=V:=⟨_,rfl⟩
    rw[hW]
    have k1:Keep (fun q=>q=bs) w10 wz:=by rw[←hW];exact put1_keep _
    have HA50:=qh (HA10.out.keep k1 (fun k h=>by subst h;exact⟨HNs.out.2.2,HNs.out.1⟩))
    have HK50:=qh (HK10.out.then_ k1 (fun i hi h=>by subst h;have:=HLo.out.2;omega))
    have HR50:=qh (HR10.out.keep k1 HNs.out.2.1)
    have HS50:Hid (Blk wz bs 58 #[.int .i64 (from_+d1),.int .i64 tm]):=qh (by rw[←hW];have:=HS10.out.set_ 0 (.int .i64 (from_+d1));simpa using this)
    clear hW k1 z0 z1 zf0 zf1
    have z0:wz.cell? ⟨bs,0,none⟩=some (.int .i64 (from_+d1)):=HS50.out.cell 0
    have zf0:=HS50.out.frozen 0
    have z1:wz.cell? ⟨bs,1,none⟩=some (.int .i64 tm):=HS50.out.cell 1
    have zf1:=HS50.out.frozen 1
    have r0:wz.cell? ⟨br,0,none⟩=some (.int .i64 0):=HR50.out.cell 0
    have rf0:=HR50.out.frozen 0
    have r1:wz.cell? ⟨br,1,none⟩=some (.int .i64 0):=HR50.out.cell 1
    have rf1:=HR50.out.frozen 1
    go_wp2_with fail
    (try simp only[Exit.inBlock,Exit.then])
    have ha2:=HA50.out.keep (S:=fun q=>q=br) ((Keep.refl (fun q=>q=br) wz).set_ (p:=⟨br,0,none⟩) (.inl rfl) (.int .i64 (from_+d1))) (fun k (h:k=br)=>by rw[h];exact⟨HNe.out.2,HNe.out.1⟩)
    have ha3:=ha2.keep (S:=fun q=>q=br) ((Keep.refl (fun q=>q=br) _).set_ (p:=⟨br,1,none⟩) (.inl rfl) (.int .i64 tm)) (fun k (h:k=br)=>by rw[h];exact⟨HNe.out.2,HNe.out.1⟩)
    refine bodyPost_ret (sc_results (fn:=Tryz.f121) (r:=4) rfl (put_two HR50.out (.int .i64 (from_+d1)) (.int .i64 tm)) _ rfl) rfl ⟨by rw[HF.out],by rw[HF.out];exact ha3,?_⟩
    exact(HK50.out.set_ (p:=⟨br,0,none⟩) (.inr HLo.out.1) _).set_ (p:=⟨br,1,none⟩) (.inr HLo.out.1) _
  have u2:(raw==0)=false:=by simpa using g2
  have HX:=qh (HXg.out gq (by rintro(h | h | h);exact g0 h;exact g1 h;exact g2 h))
  clear gq g0 g1 g2
  have m1:w7.cell? ⟨p,1,none⟩=some (.int .i64 u):=HA7.out.u
  go_wp2_with fail
  clear m1 z0 z1 zf0 zf1
  refine(HDm.out w7).mono ?_
  rintro en w8 ⟨rfl,hk⟩
  have HA8:=qh (HA7.out.never hk)
  have HK8:=qh (HK7.out.then_ hk (fun _ _ h=>False.elim h))
  have HR8:=qkb HR7 hk
  have HS8:=qkb HS7 hk
  clear hk
  by_cases gd:d2=0
  ·have td:(d2 != 0)=false:=by simpa using gd
   have HF:Hid (sectR u from_ v e0=⟨(from_+d1,tm),v.tail.tail.tail.tail,e0⟩):=qh (by rw[HX.out,if_neg (by simpa using gd)])
   clear gd
   have z0:w8.cell? ⟨bs,0,none⟩=some (.int .i64 0):=HS8.out.cell 0
   have zf0:=HS8.out.frozen 0
   have z1:w8.cell? ⟨bs,1,none⟩=some (.int .i64 tm):=HS8.out.cell 1
   have zf1:=HS8.out.frozen 1
   go_upto_region 13 with(fail)
   (try rw[HWr.out])
   obtain⟨wz,hW⟩:∃V:World,w8.setCell ⟨bs,0,none⟩ (.int .i64 (from_+d1))=V:=⟨_,rfl⟩
   rw[hW]
   have k1:Keep (fun q=>q=bs) w8 wz:=by rw[←hW];exact put1_keep _
   have HA50:=qh (HA8.out.keep k1 (fun k h=>by subst h;exact⟨HNs.out.2.2,HNs.out.1⟩))
   have HK50:=qh (HK8.out.then_ k1 (fun i hi h=>by subst h;have:=HLo.out.2;omega))
   have HR50:=qh (HR8.out.keep k1 HNs.out.2.1)
   have HS50:Hid (Blk wz bs 58 #[.int .i64 (from_+d1),.int .i64 tm]):=qh (by rw[←hW];have:=HS8.out.set_ 0 (.int .i64 (from_+d1));simpa using this)
   clear hW k1 z0 z1 zf0 zf1
   have z0:wz.cell? ⟨bs,0,none⟩=some (.int .i64 (from_+d1)):=HS50.out.cell 0
   have zf0:=HS50.out.frozen 0
   have z1:wz.cell? ⟨bs,1,none⟩=some (.int .i64 tm):=HS50.out.cell 1
   have zf1:=HS50.out.frozen 1
   have r0:wz.cell? ⟨br,0,none⟩=some (.int .i64 0):=HR50.out.cell 0
   have rf0:=HR50.out.frozen 0
   have r1:wz.cell? ⟨br,1,none⟩=some (.int .i64 0):=HR50.out.cell 1
   have rf1:=HR50.out.frozen 1
   go_wp2_with fail
   (try simp only[Exit.inBlock,Exit.then])
   have ha2:=HA50.out.keep (S:=fun q=>q=br) ((Keep.refl (fun q=>q=br) wz).set_ (p:=⟨br,0,none⟩) (.inl rfl) (.int .i64 (from_+d1))) (fun k (h:k=br)=>by rw[h];exact⟨HNe.out.2,HNe.out.1⟩)
   have ha3:=ha2.keep (S:=fun q=>q=br) ((Keep.refl (fun q=>q=br) _).set_ (p:=⟨br,1,none⟩) (.inl rfl) (.int .i64 tm)) (fun k (h:k=br)=>by rw[h];exact⟨HNe.out.2,HNe.out.1⟩)
   refine bodyPost_ret (sc_results (fn:=Tryz.f121) (r:=4) rfl (put_two HR50.out (.int .i64 (from_+d1)) (.int .i64 tm)) _ rfl) rfl ⟨by rw[HF.out],by rw[HF.out];exact ha3,?_⟩
   exact(HK50.out.set_ (p:=⟨br,0,none⟩) (.inr HLo.out.1) _).set_ (p:=⟨br,1,none⟩) (.inr HLo.out.1) _
  ·have td:(d2 != 0)=true:=by simpa using gd
   have HF:Hid (sectR u from_ v e0=⟨(from_+d1,tm),v.tail.tail.tail.tail,failR e0 7⟩):=qh (by rw[HX.out,if_pos gd])
   clear gd
   go_wp2_with fail
   refine(HFl.out w8 v.tail.tail.tail.tail e0 7 HA8.out).mono ?_
   rintro en w9 ⟨rfl,hr,hk⟩
   have HA9:=qh hr
   have HK9:=qtr HK8 hk
   have HR9:=qh (HR8.out.keep hk HNe.out.1)
   have HS9:=qh (HS8.out.keep hk HNs.out.1)
   clear hr hk
   have z0:w9.cell? ⟨bs,0,none⟩=some (.int .i64 0):=HS9.out.cell 0
   have zf0:=HS9.out.frozen 0
   have z1:w9.cell? ⟨bs,1,none⟩=some (.int .i64 tm):=HS9.out.cell 1
   have zf1:=HS9.out.frozen 1
   go_upto_region 13 with(fail)
   (try rw[HWr.out])
   obtain⟨wz,hW⟩:∃V:World,w9.setCell ⟨bs,0,none⟩ (.int .i64 (from_+d1))=V:=⟨_,rfl⟩
   rw[hW]
   have k1:Keep (fun q=>q=bs) w9 wz:=by rw[←hW];exact put1_keep _
   have HA50:=qh (HA9.out.keep k1 (fun k h=>by subst h;exact⟨HNs.out.2.2,HNs.out.1⟩))
   have HK50:=qh (HK9.out.then_ k1 (fun i hi h=>by subst h;have:=HLo.out.2;omega))
   have HR50:=qh (HR9.out.keep k1 HNs.out.2.1)
   have HS50:Hid (Blk wz bs 58 #[.int .i64 (from_+d1),.int .i64 tm]):=qh (by rw[←hW];have:=HS9.out.set_ 0 (.int .i64 (from_+d1));simpa using this)
   clear hW k1 z0 z1 zf0 zf1
   have z0:wz.cell? ⟨bs,0,none⟩=some (.int .i64 (from_+d1)):=HS50.out.cell 0
   have zf0:=HS50.out.frozen 0
   have z1:wz.cell? ⟨bs,1,none⟩=some (.int .i64 tm):=HS50.out.cell 1
   have zf1:=HS50.out.frozen 1
   have r0:wz.cell? ⟨br,0,none⟩=some (.int .i64 0):=HR50.out.cell 0
   have rf0:=HR50.out.frozen 0
   have r1:wz.cell? ⟨br,1,none⟩=some (.int .i64 0):=HR50.out.cell 1
   have rf1:=HR50.out.frozen 1
   go_wp2_with fail
   (try simp only[Exit.inBlock,Exit.then])
   have ha2:=HA50.out.keep (S:=fun q=>q=br) ((Keep.refl (fun q=>q=br) wz).set_ (p:=⟨br,0,none⟩) (.inl rfl) (.int .i64 (from_+d1))) (fun k (h:k=br)=>by rw[h];exact⟨HNe.out.2,HNe.out.1⟩)
   have ha3:=ha2.keep (S:=fun q=>q=br) ((Keep.refl (fun q=>q=br) _).set_ (p:=⟨br,1,none⟩) (.inl rfl) (.int .i64 tm)) (fun k (h:k=br)=>by rw[h];exact⟨HNe.out.2,HNe.out.1⟩)
   refine bodyPost_ret (sc_results (fn:=Tryz.f121) (r:=4) rfl (put_two HR50.out (.int .i64 (from_+d1)) (.int .i64 tm)) _ rfl) rfl ⟨by rw[HF.out],by rw[HF.out];exact ha3,?_⟩
   exact(HK50.out.set_ (p:=⟨br,0,none⟩) (.inr HLo.out.1) _).set_ (p:=⟨br,1,none⟩) (.inr HLo.out.1) _
end Go.Proofs.YtpapiojicbbheaaGreatDoor

namespace Go.Proofs.YtpapiojicbbheaaGreatDoor
open Go.RowKit
set_option maxHeartbeats 1000000 in
set_option maxRecDepth 100000 in
theorem nomW_any (r:Bool) (w:World):Calls Tryz.prog 77 #[.bool r] w fun e w'=>e=.returned (.int .i64 (nomI r))∧w'=w:=by
 cases r
 all_goals
  go_enter Tryz.func77, Tryz.ntmps77
  go_wp2_with fail
  go_ret
  exact⟨rfl,rfl⟩
theorem RAt.fz {w:World}{B p:Nat}{v:List Int}{u e:Int} (h:RAt w B p v u e) {i:Nat}:w.frozen? ⟨p,i,none⟩=false:=by obtain⟨A,n,c,hb,_⟩:=h;exact hb.frozen i
theorem RAt.putU {w:World}{B p:Nat}{v:List Int}{u e:Int} (h:RAt w B p v u e) (hp:B≤p) (u2:Int):RAt (w.setCell ⟨p,1,none⟩ (.int .i64 u2)) B p v u2 e:=by
 obtain⟨A,n,c,h1,h2,h3⟩:=h
 refine⟨A,n,c,?_,h2.keep (put1_keep (w:=w) (b:=p) (i:=1) (.int .i64 u2)) (fun k h=>by omega),h3⟩
 have:=h1.set_ 1 (.int .i64 u2)
 simpa using this
theorem RAt.not {w:World}{B p:Nat}{v:List Int}{u e:Int} (h:RAt w B p v u e) {g t:Nat}{cs:Array Value} (hg:Blk w g t cs) (ht : 165 ≠ t):¬g=p:=by
 obtain⟨A,n,c,h1,_⟩:=h
 exact fun e=>h1.ne_ hg ht e.symm
theorem RAt.row {w:World}{B p:Nat}{v:List Int}{u e:Int} (h:RAt w B p v u e) {base t size n c:Nat}{A:Option Addr}{xs:List Value} (ho:Own w base t size A n c xs) (ht:t ≠ 165):∀k,InRow A k→k≠p:=by
 obtain⟨_,_,_,h1,_⟩:=h
 exact ho.ne_blk h1 ht
structure SecI (u:Int) (N:Nat) (res:Except Int (List Sc×List Int)) (i:Nat) (at_:Int) (v:List Int) (acc:List Sc):Prop where
  le:i≤N
  n8:N≤8
  lo:0≤at_
  hi:at_≤3276600*i
  len:acc.length=i
  go:res=match sectsR u (N - i) at_ v with | .error e=>.error e | .ok z=>.ok (acc++z.1,z.2)
theorem SecI.start {u:Int}{N:Nat}{v:List Int} (h:N≤8):SecI u N (sectsR u N 0 v) 0 0 v []:=
  ⟨Nat.zero_le _,h,Int.le_refl _,by omega,rfl,by rw[Nat.sub_zero];cases sectsR u N 0 v with | error e=>rfl | ok z=>rfl⟩
theorem SecI.bad {u:Int}{N:Nat}{res:Except Int (List Sc×List Int)}{i:Nat}{at_:Int}{v:List Int}{acc:List Sc} (h:SecI u N res i at_ v acc) (hi:i<N) (he:(sectR u at_ v 0).e≠0):res=.error (sectR u at_ v 0).e:=by
 rw[h.go,show N - i=(N - (i+1))+1 by omega]
 unfold sectsR
 rw[if_pos he]
theorem sect_far (u at_:Int) (v:List Int):(sectR u at_ v 0).s.1=at_+(dmM (v.headD 0) u).1:=rfl
theorem SecI.next {u:Int}{N:Nat}{res:Except Int (List Sc×List Int)}{i:Nat}{at_:Int}{v:List Int}{acc:List Sc} (h:SecI u N res i at_ v acc) (hi:i<N) (he:(sectR u at_ v 0).e=0):SecI u N res (i+1) (sectR u at_ v 0).s.1 (sectR u at_ v 0).v (acc++[(sectR u at_ v 0).s]):=by
 have hd:=dm_range (v.headD 0) u
 have h1:=h.lo
 have h2:=h.hi
 refine⟨by omega,h.n8,by rw[sect_far];omega,by rw[sect_far];push_cast;omega,by simp[h.len],?_⟩
 rw[h.go,show N - i=(N - (i+1))+1 by omega]
 conv=>lhs;unfold sectsR
 rw[if_neg (by rw[he];simp)]
 cases sectsR u (N - (i+1)) (sectR u at_ v 0).s.1 (sectR u at_ v 0).v with
 | error e=>rfl
 | ok z=>simp
theorem SecI.fin {u:Int}{N:Nat}{res:Except Int (List Sc×List Int)}{at_:Int}{v:List Int}{acc:List Sc} (h:SecI u N res N at_ v acc):res=.ok (acc,v):=by
 rw[h.go,Nat.sub_self]
 simp[sectsR]
def SecsRet (r:Except Int (List Sc×Int)) (bm:Nat) (v0 v1 v2:Value) (w:World) (e:Ending) (w':World):Prop:=
  Keep (fun q=>q=bm) w w'∧match r with
    | .ok z=>e=.returned (.int .i64 0)∧∃A n c,Blk w' bm 38 #[v0,v1,v2,.slice A n c,.int .i64 z.2]∧n=z.1.length∧Own w' w.heap.size 58 2 A n c (scCells z.1)
    | .error x=>x≠0∧e=.returned (.int .i64 x)∧∃A n c g,Blk w' bm 38 #[v0,v1,v2,.slice A n c,.int .i64 g]
theorem gap_zero (u:Int) (v:List Int):gapR u v=(if (if v.headD 0=1 then v.tail.tail.tail else v.tail).headD 0=1 then ((dmM ((if v.headD 0=1 then v.tail.tail.tail else v.tail).tail.headD 0) u).1,if (dmM ((if v.headD 0=1 then v.tail.tail.tail else v.tail).tail.headD 0) u).2≠0 then 7 else 0) else (0,0)):=rfl
set_option maxHeartbeats 8000000 in
set_option maxRecDepth 100000 in
theorem secs_any (B bm:Nat) (ref:Int) (rv:Bool) (P:Value) (A:Option Addr) (n c:Nat) (V:List Int) (w:World) (hr:Rd w B 1 A n (V.map (.int .i64))) (hc:n≤c) (hB:B≤w.heap.size) (hBm:B≤bm) (hV:∀x∈V,i64_ x) (hm:Blk w bm 38 #[.int .i64 ref,.bool rv,P,.slice none 0 0,.int .i64 0]) :
    Calls Tryz.prog 67 #[.pointer (some ⟨bm,0,none⟩),.slice A n c] w (SecsRet (secsM rv V) bm (.int .i64 ref) (.bool rv) P w):=by
  have HO:=qh (fun (W:World) (v:List Int) (u e:Int) (hW:RAt W B w.heap.size v u e)=>ro_any w.heap.size B v u e W hW hB)
  have HSe:=qh (fun (W:World) (v:List Int) (u a:Int) (hW:RAt W B w.heap.size v u 0) (h0:0≤a) (h1:a≤1000000000)=>sect_any w.heap.size B v u a 0 W hW hB h0 h1)
  have HFa:=qh (fun (W:World) (v:List Int) (u e:Int) (hW:RAt W B w.heap.size v u e)=>far_any w.heap.size B v u e W hW hB)
  have HNm:=qh (nomW_any rv)
  unfold OneRet at HO
  obtain⟨w1,hw1⟩:∃V:World,w.alloc (.cells #[.slice A n c,.int .i64 0,.int .i64 0] 165)=V:=⟨_,rfl⟩
  have k1:Keep Never w w1:=by rw[←hw1];exact(Keep.refl _ _).alloc _
  have B1:=Blk.new w 165 #[.slice A n c,.int .i64 0,.int .i64 0]
  rw[hw1] at B1
  obtain⟨bp,hbp⟩:∃q,w.heap.size=q:=⟨_,rfl⟩
  rw[hbp] at B1
  have HA1:Hid (RAt w1 B bp V 0 0):=qh ⟨A,n,c,B1,hr.keep k1 (fun _ h=>h.elim),hc⟩
  have HM1:=qh (hm.keep k1 (fun h=>h))
  have HK1:Hid (Keep (fun q=>q=bm) w w1):=qh (k1.mono (fun _ _ h=>False.elim h))
  have HP:Hid (w.heap.size=bp∧B≤bp∧bm<bp∧B≤bm):=qh ⟨hbp,by omega,by have:=hm.lt;omega,hBm⟩
  have m1:w1.cell? ⟨bm,1,none⟩=some (.bool rv):=HM1.out.cell 1
  rw[hbp] at HO HSe HFa
  clear k1 B1 hr hm
  go_enter Tryz.func67, Tryz.ntmps67
  go_wp2_with fail
  clear hw1 hbp
  obtain⟨q,hq⟩:∃z,V.headD 0=z:=⟨_,rfl⟩
  have HO1:=qh (fun W h=>HO.out W V 0 0 h)
  rw[hq] at HO1
  have HQ:=qh hq
  clear hq
  obtain⟨nr,hnr⟩:∃z,nomI rv=z:=⟨_,rfl⟩
  rw[hnr] at HNm
  have HNr:=qh hnr
  clear hnr
  go_cut [20] (fun s20 wc=>s20=.bool (q != nr)∧Hid (RAt wc B bp V.tail 0 0∧Keep (fun z=>z=bp) w1 wc))
  case first=>
   go_region_law (first
     | (go_simp;refine(HO1.out _ (by first | exact HA1.out | exact HA1.out.drew)).mono ?_;rintro en w3 ⟨rfl,hr,hk⟩;have HA3:=qh hr;have HK3:Hid (Keep (fun z=>z=bp) w1 w3):=qh (by first | exact hk | exact hk.drewL);have m3:w3.cell? ⟨bm,1,none⟩=some (.bool rv):=(HM1.out.keep HK3.out (by have:=HP.out;omega)).cell 1;clear hr hk)
     | (go_simp;refine(HNm.out _).mono ?_;rintro en w4 ⟨rfl,rfl⟩))
   all_goals
    go_wp2_with fail
    go_meet
    exact⟨rfl,qh ⟨by first | exact HA3.out | exact HA3.out.drew,by first | exact HK3.out | exact HK3.out.drew⟩⟩
  case rest=>
  obtain⟨rfl,hR⟩:=hcut
  rename World=>w2
  have HA2:=qh hR.out.1
  have HM2:=qh (HM1.out.keep hR.out.2 (by have:=HP.out;omega))
  have HK2:Hid (Keep (fun q=>q=bm) w w2):=qh (HK1.out.then_ hR.out.2 (fun i hi h=>by have:=HP.out;omega))
  clear hR HO1 m1 HM1 HK1 HA1
  by_cases g0:q=nr
  case neg=>
   have t0:(q != nr)=true:=by simpa using g0
   have HF:Hid (secsM rv V=.error 20):=qh (by unfold secsM;rw[if_pos (by rw[HQ.out,HNr.out];exact g0)])
   clear g0
   go_wp2_with fail
   go_ret
   refine⟨HK2.out,?_⟩
   rw[HF.out]
   exact⟨by decide,rfl,_,_,_,_,HM2.out⟩
  have t0:(q != nr)=false:=by simpa using g0
  have HD0:Hid (secsM rv V=secs2 (V.tail.headD 0) (V.tail.tail.tail.tail.headD 0) V.tail.tail.tail.tail.tail):=qh (by unfold secsM;rw[if_neg (by rw[HQ.out,HNr.out];simpa using g0)])
  clear g0
  have HO2:=qh (fun W h=>HO.out W V.tail 0 0 h)
  obtain⟨u,hu⟩:∃z,V.tail.headD 0=z:=⟨_,rfl⟩
  obtain⟨my,hmy⟩:∃z,V.tail.tail.tail.tail.headD 0=z:=⟨_,rfl⟩
  rw[hu] at HO2
  rw[hu,hmy] at HD0
  have HO3:=qh (fun W h=>HO.out W V.tail.tail u 0 h)
  have HO4:=qh (fun W h=>HO.out W V.tail.tail.tail u 0 h)
  have HO5:=qh (fun W h=>HO.out W V.tail.tail.tail.tail u 0 h)
  rw[hmy] at HO5
  have HMy:Hid (-9223372036854775808≤my):=qh (by
   rw[←hmy]
   rcases hv5:V.tail.tail.tail.tail with _ | ⟨x,l⟩
   ·simp
   ·have hm:x∈V:=List.mem_of_mem_tail (List.mem_of_mem_tail (List.mem_of_mem_tail (List.mem_of_mem_tail (by rw[hv5];simp))))
    exact(hV x hm).1)
  clear hu hmy
  go_wp2_with fail
  refine(HO2.out w2 HA2.out).mono ?_
  rintro en w3 ⟨rfl,hr,hk⟩
  have HA3:=qh hr
  have HM3:=qh (HM2.out.keep hk (by have:=HP.out;omega))
  have HK3:=qh (HK2.out.then_ hk (fun i hi h=>by have:=HP.out;omega))
  clear hr hk
  have z1:w3.cell? ⟨bp,1,none⟩=some (.int .i64 0):=HA3.out.u
  have zf:w3.frozen? ⟨bp,1,none⟩=false:=HA3.out.fz
  go_upto_region 5 with(fail)
  obtain⟨w4,hw4⟩:∃W:World,w3.setCell ⟨bp,1,none⟩ (.int .i64 u)=W:=⟨_,rfl⟩
  rw[hw4]
  have kb:Keep (fun q=>q=bp) w3 w4:=by rw[←hw4];exact put1_keep _
  have HA4:Hid (RAt w4 B bp V.tail.tail u 0):=qh (by rw[←hw4];exact HA3.out.putU HP.out.2.1 u)
  have HM4:=qh (HM3.out.keep kb (by have:=HP.out;omega))
  have HK4:=qh (HK3.out.then_ kb (fun i hi h=>by have:=HP.out;omega))
  clear hw4 kb z1 zf
  go_wp2_with fail
  refine(HO3.out w4 HA4.out).mono ?_
  rintro en w5 ⟨rfl,hr,hk⟩
  have HA5:=qh hr
  have HM5:=qh (HM4.out.keep hk (by have:=HP.out;omega))
  have HK5:=qh (HK4.out.then_ hk (fun i hi h=>by have:=HP.out;omega))
  clear hr hk
  go_wp2_with fail
  refine(HO4.out w5 HA5.out).mono ?_
  rintro en w6 ⟨rfl,hr,hk⟩
  have HA6:=qh hr
  have HM6:=qh (HM5.out.keep hk (by have:=HP.out;omega))
  have HK6:=qh (HK5.out.then_ hk (fun i hi h=>by have:=HP.out;omega))
  clear hr hk
  go_wp2_with fail
  refine(HO5.out w6 HA6.out).mono ?_
  rintro en w7 ⟨rfl,hr,hk⟩
  have HA7:=qh hr
  have HM7:=qh (HM6.out.keep hk (by have:=HP.out;omega))
  have HK7:=qh (HK6.out.then_ hk (fun i hi h=>by have:=HP.out;omega))
  clear hr hk
  by_cases g1:8≤my
  ·have t1:decide (my≥8)=true:=by simpa using g1
   have HF:Hid (secsM rv V=.error 2):=qh (by rw[HD0.out];unfold secs2;rw[if_pos g1])
   clear g1
   go_wp2_with fail
   go_ret
   refine⟨HK7.out,?_⟩
   rw[HF.out]
   exact⟨by decide,rfl,_,_,_,_,HM7.out⟩
  have t1:decide (my≥8)=false:=by simpa using g1
  have HD1:Hid (secsM rv V=secs4 u (sectsR u (my+1).toNat 0 V.tail.tail.tail.tail.tail)):=qh (by rw[HD0.out];unfold secs2;rw[if_neg g1])
  have hmy0:=HMy.out
  have hw1:IntKind.i64.wrap (my+1)=my+1:=IntWalk.i64_in _ (by omega)
  have hw1':wrap64 (my+1)=my+1:=by have:=hw1;rwa [IntWalk.i64_left] at this
  have hn8:(my+1).toNat≤8:=by omega
  have HNt:Hid (∀k:Nat,(k:Int)<my+1↔k<(my+1).toNat):=qh (fun k=>by omega)
  obtain⟨N,hN⟩:∃z,(my+1).toNat=z:=⟨_,rfl⟩
  rw[hN] at HD1 HNt hn8
  have HI0:=qh (SecI.start (u:=u) (N:=N) (v:=V.tail.tail.tail.tail.tail) hn8)
  obtain⟨res,hres⟩:∃z,sectsR u N 0 V.tail.tail.tail.tail.tail=z:=⟨_,rfl⟩
  rw[hres] at HD1 HI0
  have HN8:=qh hn8
  have eg:=enters_of Tryz.func121 (by kernel_rfl) rfl
  clear hN hres g1 hmy0 hn8 HD0 HO2 HO3 HO4 HO5
  go_wp2_with fail
  (try rw[hw1'])
  obtain⟨my1,hmy1⟩:∃z,my+1=z:=⟨_,rfl⟩
  rw[hmy1] at HNt
  (try rw[hmy1])
  clear hmy1 hw1 hw1' HMy
  go_loopw [8,38] (fun ta ti wr=>∃(k:Nat) (a:Int) (v:List Int) (acc:List Sc) (As:Option Addr) (ns cs:Nat),ti=.int .i64 k∧ta=.int .i64 a∧k≤N∧ns≤8∧Hid (SecI u N res k a v acc∧RAt wr B bp v u 0∧Blk wr bm 38 #[.int .i64 ref,.bool rv,P,.slice As ns cs,.int .i64 0]∧ns=acc.length∧Own wr w.heap.size 58 2 As ns cs (scCells acc)∧Keep (fun q=>q=bm) w wr)) (fun _ ti _=>N - (intOf ti).toNat)
  case atStart=>exact⟨0,0,_,[],none,0,0,rfl,rfl,Nat.zero_le _,Nat.zero_le _,qh ⟨HI0.out,HA7.out,HM7.out,rfl,Own.nil _ _ _ _,HK7.out⟩⟩
  case round=>
   obtain⟨k,a,v,acc,As,ns,cs,rfl,rfl,hkN,hns,HH⟩:=hrel
   have HIr:=qh HH.out.1
   have HAr:=qh HH.out.2.1
   have HMr:=qh HH.out.2.2.1
   have HNs:=qh HH.out.2.2.2.1
   have HOr:=qh HH.out.2.2.2.2.1
   have HKr:=qh HH.out.2.2.2.2.2
   clear HH
   by_cases h0:k<N
   ·have hkz:(k:Int)<my1:=(HNt.out k).2 h0
    have tk:decide ((k:Int)<my1)=true:=by simpa using hkz
    have hk8:k<8:=by have:=HN8.out;omega
    have HC:=qh (HSe.out wr v u a HAr.out HIr.out.lo (by have:=HIr.out.hi;omega))
    have HBd:=qh (HIr.out.bad h0)
    have HNx:=qh (HIr.out.next h0)
    obtain⟨o,ho⟩:∃z,sectR u a v 0=z:=⟨_,rfl⟩
    rw[ho] at HC HBd HNx
    obtain⟨⟨s1,s2⟩,v2,e2⟩:=o
    dsimp only at HC HBd HNx
    clear ho
    go_wp2_with fail
    refine HC.out.mono ?_
    rintro en w8 ⟨rfl,hr,hk⟩
    have HA8:=qh hr
    have HM8:=qh (HMr.out.keep hk (by have:=HP.out;omega))
    have HO8:=qh (HOr.out.keep hk (fun q h1 h2=>HAr.out.row HOr.out (by decide) q h1 h2))
    have HK8:=qh (HKr.out.then_ hk (fun i hi h=>by have:=HP.out;omega))
    clear hr hk HC
    obtain⟨w9,hw9⟩:∃V:World,w8.alloc (.cells #[.int .i64 s1,.int .i64 s2] 58)=V:=⟨_,rfl⟩
    have k9:Keep Never w8 w9:=by rw[←hw9];exact(Keep.refl _ _).alloc _
    have B9:=Blk.new w8 58 #[.int .i64 s1,.int .i64 s2]
    rw[hw9] at B9
    obtain⟨bs,hbs⟩:∃q,w8.heap.size=q:=⟨_,rfl⟩
    rw[hbs] at B9
    have HA9:=qh (HA8.out.never k9)
    have HM9:=qkb HM8 k9
    have HO9:=qko HO8 k9
    have HK9:=qh (HK8.out.then_ k9 (fun _ _ h=>False.elim h))
    have HB9:=qh B9
    have HNb:Hid (∀q,InRow As q→q≠bs):=qh (fun q h e=>by have h1:=(HO8.out.row h).2;omega)
    have e9:w9.cell? ⟨bp,2,none⟩=some (.int .i64 e2):=HA9.out.e
    clear k9 B9
    by_cases ge:e2=0
    case neg=>
     have te:(e2 != 0)=true:=by simpa using ge
     have HF:Hid (secsM rv V=.error e2):=qh (by rw[HD1.out,HBd.out ge];rfl)
     have HGe:=qh ge
     clear ge
     go_wp2_with fail
     go_ret
     refine⟨HK9.out,?_⟩
     rw[HF.out]
     exact⟨HGe.out,rfl,_,_,_,_,HM9.out⟩
    have te:(e2 != 0)=false:=by simpa using ge
    have HI9:=qh (HNx.out ge)
    subst ge
    have m3:w9.cell? ⟨bm,3,none⟩=some (.slice As ns cs):=HM9.out.cell 3
    obtain⟨b0,b1⟩:=bc2 HB9.out
    have m3a:∀o,(w9.alloc o).cell? ⟨bm,3,none⟩=some (.slice As ns cs):=fun o=>(HM9.out.alloc o).cell 3
    have hz9:w.heap.size≤w9.heap.size:=HK9.out.size
    go_upto_region 17 with(fail)
    clear e9
    go_cut [] (fun wc=>∃A6 c6,Hid (RAt wc B bp v2 u 0∧Blk wc bm 38 #[.int .i64 ref,.bool rv,P,.slice A6 (ns+1) c6,.int .i64 0]∧Own wc w.heap.size 58 2 A6 (ns+1) c6 (scCells (acc++[(s1,s2)]))∧Keep (fun q=>q=bm) w wc∧Blk wc bs 58 #[.int .i64 s1,.int .i64 s2]))
    case first=>
     go_region_law (refine step_app _ rfl (.tmp 56) (.tmp 58) _ rfl elemSc (w.heap.size) (A:=As) (n:=ns) (c:=cs) (by go_simp) (HO9.out.alloc _) _ (A':=some ⟨_,0,none⟩) (m:=1) (c':=1) (news:=[.int .i64 s1,.int .i64 s2]) (by go_simp) (Rd.of_blk (n:=1) (cs:=[.int .i64 s1,.int .i64 s2]) (Blk.new _ _ _) rfl) (by simp[Value.oneCell']) (by omega) (by unfold maxLen;omega) (by simp;omega) ?_;intro A16 c16 w16 hown hk hrow;have hk16:Keep (InRow As) w9 w16:=(by first | exact(((Keep.refl (InRow As) w9).alloc _).drew).trans hk | exact(((Keep.refl (InRow As) w9).drew).alloc _).trans hk | exact((Keep.refl (InRow As) w9).alloc _).trans hk);have HO16:=qh hown;have HA16:=qh (HA9.out.keep hk16 (fun q h=>⟨by have h1:=(HO9.out.row h).1;have:=HP.out;omega,HA9.out.row HO9.out (by decide) q h⟩));have HM16:=qh (HM9.out.keep hk16 (fun hi=>HO9.out.ne_blk HM9.out (by decide) _ hi rfl));have HB16:=qh (HB9.out.keep hk16 (fun hi=>HNb.out _ hi rfl));have HK16:=qh (HK9.out.then_ hk16 (fun i hi h=>by have h1:=(HO9.out.row h).1;omega));have m3:w16.cell? ⟨bm,3,none⟩=some (.slice As ns cs):=HM16.out.cell 3;have mf3:=HM16.out.frozen 3;clear hk16;clear hown hk hrow)
     all_goals
      go_wp2_with fail
      go_meet
      have hm16:=HM16.out
      have hk17:Keep (fun q=>q=bm) w16 (w16.setCell ⟨bm,3,none⟩ (.slice A16 (ns+1) c16)):=put1_keep _
      refine⟨A16,c16,qh ⟨HA16.out.keep hk17 (fun q h=>by subst h;have:=HP.out;omega),?_,?_,HK16.out.trans hk17,HB16.out.keep hk17 (fun h=>HB16.out.ne_ HM16.out (by decide) h)⟩⟩
      ·have:=HM16.out.set_ 3 (.slice A16 (ns+1) c16)
       simpa using this
      ·rw[scCells_app]
       exact HO16.out.far (HO16.out.ne_blk HM16.out (by decide)) _
    case rest=>
    obtain⟨A6,c6,hR⟩:=hcut
    rename World=>w10
    have HA10:=qh hR.out.1
    have HM10:=qh hR.out.2.1
    have HO10:=qh hR.out.2.2.1
    have HK10:=qh hR.out.2.2.2.1
    have b0:w10.cell? ⟨bs,0,none⟩=some (.int .i64 s1):=hR.out.2.2.2.2.cell 0
    clear hR b1 m3 m3a hz9
    go_wp2_with fail
    go_roundw
    case measure=>simp[intOf];try omega
    case rel=>exact⟨k+1,s1,v2,acc++[(s1,s2)],A6,ns+1,c6,by go_num,rfl,by omega,by have h1:=HI9.out.len;have h2:=HNs.out;simp at h1;omega,qh ⟨HI9.out,HA10.out,HM10.out,by rw[HNs.out];simp,HO10.out,HK10.out⟩⟩
   ·obtain rfl:k=N:=by omega
    have hkz:¬(k:Int)<my1:=fun h=>h0 ((HNt.out k).1 h)
    have tk:decide ((k:Int)<my1)=false:=by simpa using hkz
    have HD2:Hid (secsM rv V=secs3 u (acc,v)):=qh (by rw[HD1.out,HIr.out.fin];rfl)
    clear HIr hkz h0
    obtain⟨x1,hx1⟩:∃z,v.headD 0=z:=⟨_,rfl⟩
    have HX1:=qh hx1
    clear hx1
    go_wp2_with fail
    have hw:=HO.out wr v u 0 HAr.out
    rw[HX1.out] at hw
    refine hw.mono ?_
    rintro en w50 ⟨rfl,hr,hk⟩
    have HA50:=qh hr
    have HM50:=qh (HMr.out.keep hk (by have:=HP.out;omega))
    have HO50:=qh (HOr.out.keep hk (fun q h1 h2=>HAr.out.row HOr.out (by decide) q h1 h2))
    have HK50:=qh (HKr.out.then_ hk (fun i hi h=>by have:=HP.out;omega))
    clear hr hk hw
    by_cases gx:x1=1
    ·have tx:(x1==1)=true:=by simpa using gx
     have HW:Hid (gapR u v=if (v.tail.tail.tail).headD 0=1 then ((dmM ((v.tail.tail.tail).tail.headD 0) u).1,if (dmM ((v.tail.tail.tail).tail.headD 0) u).2≠0 then 7 else 0) else (0,0)):=qh (by rw[gap_zero,if_pos (show v.headD 0=1 by rw[HX1.out];exact gx)])
     have HX2:Hid (v.tail.headD 0=v.tail.headD 0):=qh rfl
     have HX3:Hid (v.tail.tail.headD 0=v.tail.tail.headD 0):=qh rfl
     clear gx
     go_wp2_with fail
     have hw:=HO.out w50 v.tail u 0 HA50.out
     refine hw.mono ?_
     rintro en w51 ⟨rfl,hr,hk⟩
     have HA51:=qh hr
     have HM51:=qh (HM50.out.keep hk (by have:=HP.out;omega))
     have HO51:=qh (HO50.out.keep hk (fun q h1 h2=>HA50.out.row HO50.out (by decide) q h1 h2))
     have HK51:=qh (HK50.out.then_ hk (fun i hi h=>by have:=HP.out;omega))
     clear hr hk hw
     go_wp2_with fail
     have hw:=HO.out w51 v.tail.tail u 0 HA51.out
     refine hw.mono ?_
     rintro en w52 ⟨rfl,hr,hk⟩
     have HA52:=qh hr
     have HM52:=qh (HM51.out.keep hk (by have:=HP.out;omega))
     have HO52:=qh (HO51.out.keep hk (fun q h1 h2=>HA51.out.row HO51.out (by decide) q h1 h2))
     have HK52:=qh (HK51.out.then_ hk (fun i hi h=>by have:=HP.out;omega))
     clear hr hk hw
     go_wp2_with fail
     obtain⟨y,hy⟩:∃z,(v.tail.tail.tail).headD 0=z:=⟨_,rfl⟩
     have HY:=qh hy
     clear hy
     have hw:=HO.out w52 (v.tail.tail.tail) u 0 HA52.out
     rw[HY.out] at hw
     refine hw.mono ?_
     rintro en w53 ⟨rfl,hr,hk⟩
     have HA53:=qh hr
     have HM53:=qh (HM52.out.keep hk (by have:=HP.out;omega))
     have HO53:=qh (HO52.out.keep hk (fun q h1 h2=>HA52.out.row HO52.out (by decide) q h1 h2))
     have HK53:=qh (HK52.out.then_ hk (fun i hi h=>by have:=HP.out;omega))
     clear hr hk hw
     by_cases gy:y=1
     case neg=>
      have ty:(y==1)=false:=by simpa using gy
      have HF:Hid (secsM rv V=.ok (acc,0)):=qh (by rw[HD2.out];unfold secs3;rw[HW.out];simp only;rw[if_neg (show ¬(v.tail.tail.tail).headD 0=1 by rw[HY.out];exact gy)];rfl)
      have e9:w53.cell? ⟨bp,2,none⟩=some (.int .i64 0):=HA53.out.e
      clear gy
      go_wp2_with fail
      go_ret
      refine⟨HK53.out,?_⟩
      rw[HF.out]
      exact⟨rfl,As,ns,cs,HM53.out,HNs.out,HO53.out⟩
     have ty:(y==1)=true:=by simpa using gy
     have HG:Hid (secsM rv V=if (farR u (v.tail.tail.tail).tail 0).2.2≠0 then .error (farR u (v.tail.tail.tail).tail 0).2.2 else .ok (acc,(farR u (v.tail.tail.tail).tail 0).1)):=qh (by
      rw[HD2.out];unfold secs3;rw[HW.out];simp only;rw[if_pos (show (v.tail.tail.tail).headD 0=1 by rw[HY.out];exact gy)];rfl)
     have hw:=HFa.out w53 (v.tail.tail.tail).tail u 0 HA53.out
     obtain⟨fr,hfr⟩:∃z,farR u (v.tail.tail.tail).tail 0=z:=⟨_,rfl⟩
     rw[hfr] at hw HG
     have HC:=qh hw
     obtain⟨d1,v3,e3⟩:=fr
     dsimp only at HC HG
     clear hw hfr gy
     go_wp2_with fail
     refine HC.out.mono ?_
     rintro en w60 ⟨rfl,hr,hk⟩
     have HA60:=qh hr
     have HM60:=qh (HM53.out.keep hk (by have:=HP.out;omega))
     have HO60:=qh (HO53.out.keep hk (fun q h1 h2=>HA53.out.row HO53.out (by decide) q h1 h2))
     have HK60:=qh (HK53.out.then_ hk (fun i hi h=>by have:=HP.out;omega))
     have m4:w60.cell? ⟨bm,4,none⟩=some (.int .i64 0):=HM60.out.cell 4
     have mf4:=HM60.out.frozen 4
     clear hr hk HC
     go_upto_region 25 with(fail)
     obtain⟨w61,hw61⟩:∃W:World,w60.setCell ⟨bm,4,none⟩ (.int .i64 d1)=W:=⟨_,rfl⟩
     rw[hw61]
     have kb:Keep (fun q=>q=bm) w60 w61:=by rw[←hw61];exact put1_keep _
     have HA61:=qh (HA60.out.keep kb (fun q h=>by subst h;have:=HP.out;omega))
     have HM61:Hid (Blk w61 bm 38 #[.int .i64 ref,.bool rv,P,.slice As ns cs,.int .i64 d1]):=qh (by rw[←hw61];have:=HM60.out.set_ 4 (.int .i64 d1);simpa using this)
     have HO61:=qh (HO60.out.keep kb (fun q h1 h2=>HO60.out.ne_blk HM60.out (by decide) q h1 h2))
     have HK61:=qtr HK60 kb
     have e9:w61.cell? ⟨bp,2,none⟩=some (.int .i64 e3):=HA61.out.e
     clear hw61 kb m4 mf4
     go_wp2_with fail
     go_ret
     refine⟨HK61.out,?_⟩
     rw[HG.out]
     by_cases ge:e3=0
     ·rw[if_neg (by simpa using ge),ge]
      exact⟨rfl,As,ns,cs,HM61.out,HNs.out,HO61.out⟩
     ·rw[if_pos ge]
      exact⟨ge,rfl,_,_,_,_,HM61.out⟩
    ·have tx:(x1==1)=false:=by simpa using gx
     have HW:Hid (gapR u v=if (v.tail).headD 0=1 then ((dmM ((v.tail).tail.headD 0) u).1,if (dmM ((v.tail).tail.headD 0) u).2≠0 then 7 else 0) else (0,0)):=qh (by rw[gap_zero,if_neg (show ¬v.headD 0=1 by rw[HX1.out];exact gx)])
     clear gx
     go_wp2_with fail
     obtain⟨y,hy⟩:∃z,(v.tail).headD 0=z:=⟨_,rfl⟩
     have HY:=qh hy
     clear hy
     have hw:=HO.out w50 (v.tail) u 0 HA50.out
     rw[HY.out] at hw
     refine hw.mono ?_
     rintro en w51 ⟨rfl,hr,hk⟩
     have HA51:=qh hr
     have HM51:=qh (HM50.out.keep hk (by have:=HP.out;omega))
     have HO51:=qh (HO50.out.keep hk (fun q h1 h2=>HA50.out.row HO50.out (by decide) q h1 h2))
     have HK51:=qh (HK50.out.then_ hk (fun i hi h=>by have:=HP.out;omega))
     clear hr hk hw
     by_cases gy:y=1
     case neg=>
      have ty:(y==1)=false:=by simpa using gy
      have HF:Hid (secsM rv V=.ok (acc,0)):=qh (by rw[HD2.out];unfold secs3;rw[HW.out];simp only;rw[if_neg (show ¬(v.tail).headD 0=1 by rw[HY.out];exact gy)];rfl)
      have e9:w51.cell? ⟨bp,2,none⟩=some (.int .i64 0):=HA51.out.e
      clear gy
      go_wp2_with fail
      go_ret
      refine⟨HK51.out,?_⟩
      rw[HF.out]
      exact⟨rfl,As,ns,cs,HM51.out,HNs.out,HO51.out⟩
     have ty:(y==1)=true:=by simpa using gy
     have HG:Hid (secsM rv V=if (farR u (v.tail).tail 0).2.2≠0 then .error (farR u (v.tail).tail 0).2.2 else .ok (acc,(farR u (v.tail).tail 0).1)):=qh (by
      rw[HD2.out];unfold secs3;rw[HW.out];simp only;rw[if_pos (show (v.tail).headD 0=1 by rw[HY.out];exact gy)];rfl)
     have hw:=HFa.out w51 (v.tail).tail u 0 HA51.out
     obtain⟨fr,hfr⟩:∃z,farR u (v.tail).tail 0=z:=⟨_,rfl⟩
     rw[hfr] at hw HG
     have HC:=qh hw
     obtain⟨d1,v3,e3⟩:=fr
     dsimp only at HC HG
     clear hw hfr gy
     go_wp2_with fail
     refine HC.out.mono ?_
     rintro en w60 ⟨rfl,hr,hk⟩
     have HA60:=qh hr
     have HM60:=qh (HM51.out.keep hk (by have:=HP.out;omega))
     have HO60:=qh (HO51.out.keep hk (fun q h1 h2=>HA51.out.row HO51.out (by decide) q h1 h2))
     have HK60:=qh (HK51.out.then_ hk (fun i hi h=>by have:=HP.out;omega))
     have m4:w60.cell? ⟨bm,4,none⟩=some (.int .i64 0):=HM60.out.cell 4
     have mf4:=HM60.out.frozen 4
     clear hr hk HC
     go_upto_region 25 with(fail)
     obtain⟨w61,hw61⟩:∃W:World,w60.setCell ⟨bm,4,none⟩ (.int .i64 d1)=W:=⟨_,rfl⟩
     rw[hw61]
     have kb:Keep (fun q=>q=bm) w60 w61:=by rw[←hw61];exact put1_keep _
     have HA61:=qh (HA60.out.keep kb (fun q h=>by subst h;have:=HP.out;omega))
     have HM61:Hid (Blk w61 bm 38 #[.int .i64 ref,.bool rv,P,.slice As ns cs,.int .i64 d1]):=qh (by rw[←hw61];have:=HM60.out.set_ 4 (.int .i64 d1);simpa using this)
     have HO61:=qh (HO60.out.keep kb (fun q h1 h2=>HO60.out.ne_blk HM60.out (by decide) q h1 h2))
     have HK61:=qtr HK60 kb
     have e9:w61.cell? ⟨bp,2,none⟩=some (.int .i64 e3):=HA61.out.e
     clear hw61 kb m4 mf4
     go_wp2_with fail
     go_ret
     refine⟨HK61.out,?_⟩
     rw[HG.out]
     by_cases ge:e3=0
     ·rw[if_neg (by simpa using ge),ge]
      exact⟨rfl,As,ns,cs,HM61.out,HNs.out,HO61.out⟩
     ·rw[if_pos ge]
      exact⟨ge,rfl,_,_,_,_,HM61.out⟩
end Go.Proofs.YtpapiojicbbheaaGreatDoor

namespace Go.Proofs.YtpapiojicbbheaaGreatDoor
open Go.RowKit
def idxI {α:Type} [BEq α] (l:List α) (v:α):Int:=if l.contains v=true then ((l.idxOf v:Nat):Int) else -1
theorem idxI_at {α:Type} [BEq α] [LawfulBEq α] {l:List α}{v:α}{k:Nat} (h:v∈l∧l.idxOf v=k):idxI l v=(k:Int):=by unfold idxI;rw[if_pos (by simpa using h.1),h.2]
theorem idxI_no {α:Type} [BEq α] [LawfulBEq α] {l:List α}{v:α} (h:v∉l):idxI l v=-1:=by unfold idxI;rw[if_neg (by simpa using h)]
def sameLk (a b c d e f:Int):Bool:=decide (((a,b,c):Lk)=(d,e,f))
theorem run_eq_lk17 (w:World) (a b c d e f:Int):(binOp .eql 62 (.agg #[.int .i64 a,.int .i64 b,.int .i64 c]) (.agg #[.int .i64 d,.int .i64 e,.int .i64 f])).run Tryz.prog w=.ok (.bool (sameLk a b c d e f)) w:=by
 by_cases h1:a=d
 ·have t1:(a==d)=true:=by simpa using h1
  by_cases h2:b=e
  ·have t2:(b==e)=true:=by simpa using h2
   by_cases h3:c=f
   ·have t3:(c==f)=true:=by simpa using h3
    have hd:sameLk a b c d e f=true:=decide_eq_true (by rw[h1,h2,h3])
    rw[hd]
    clear h1 h2 h3 hd
    go_simp
   ·have t3:(c==f)=false:=by simpa using h3
    have hd:sameLk a b c d e f=false:=decide_eq_false (by simp[h3])
    rw[hd]
    clear h1 h2 h3 hd
    go_simp
  ·have t2:(b==e)=false:=by simpa using h2
   have hd:sameLk a b c d e f=false:=decide_eq_false (by simp[h2])
   rw[hd]
   clear h1 h2 hd
   go_simp
 ·have t1:(a==d)=false:=by simpa using h1
  have hd:sameLk a b c d e f=false:=decide_eq_false (by simp[h1])
  rw[hd]
  clear h1 hd
  go_simp
theorem idxOf17 {α:Type} [BEq α] [LawfulBEq α]:∀{l:List α}{k:Nat}{s:α},l[k]?=some s→s∉l.take k→l.idxOf s=k
  | [],k,s,h,_=>by simp at h
  | y::l,0,s,h,_=>by simp at h;subst h;simp
  | y::l,k+1,s,h,hn=>by
   simp only[List.getElem?_cons_succ] at h
   rw[List.take_succ_cons,List.mem_cons,not_or] at hn
   rw[List.idxOf_cons,idxOf17 h hn.2]
   have:(y==s)=false:=by simpa using fun e:y=s=>hn.1 e.symm
   rw[this];rfl
set_option maxHeartbeats 2000000 in
set_option maxRecDepth 100000 in
theorem sindex_any (A:Option Addr) (n c B:Nat) (l:List Stp) (v:Stp) (w:World) (hr:Rd w B 2 A n (stpCells l)) (hn:n≤1000000000) :
    Calls Tryz.prog 58 #[.slice A n c,.agg #[.int .i64 v.1,.bool v.2]] w fun e w'=>e=.returned (.int .i64 (idxI l v))∧Keep Never w w':=by
  have qe:=run_eq_stp
  have HR:=qh hr
  have HLn:Hid (l.length=n):=qh hr.stp_len
  clear hr
  obtain⟨v1,v2⟩:=v
  simp only
  obtain⟨w1,hw1⟩:∃V:World,w.alloc (.cells #[.int .i64 v1,.bool v2] 30)=V:=⟨_,rfl⟩
  have kw1:Keep Never w w1:=by rw[←hw1];exact(Keep.refl _ _).alloc _
  have bw1:=Blk.new w 30 #[.int .i64 v1,.bool v2]
  rw[hw1] at bw1
  have HB1:=qh bw1
  have HK:=qh kw1
  clear kw1 bw1
  go_enter Tryz.func58, Tryz.ntmps58
  go_wp2_with fail
  clear hw1
  go_loopw [5,8] (fun _ i wr=>∃k:Nat,k≤n∧i=.int .i64 k∧Hid (Keep Never w1 wr∧((v1,v2):Stp)∉l.take k)) (fun _ i _=>n - (intOf i).toNat)
  case atStart=>exact⟨0,by omega,rfl,qh ⟨Keep.refl _ _,by simp⟩⟩
  case round=>
   obtain⟨k,hk,rfl,HH⟩:=hrel
   by_cases h0:k<n
   ·have hkz:(k:Int)<(n:Int):=by omega
    obtain⟨ad,s,hA,hab,hs,c0,c1⟩:=(HR.out.keep (HK.out.trans HH.out.1) (fun _ h=>h.elim)).stp h0
    subst hA
    obtain⟨s1,s2⟩:=s
    simp only at c0 c1
    have HBr:=qh (HB1.out.keep HH.out.1 (fun h=>h))
    obtain⟨y0,y1⟩:=bc2 HBr.out
    have HT:Hid (l.take (k+1)=l.take k++[((s1,s2):Stp)]):=qh (by
     obtain⟨h2,h3⟩:=List.getElem?_eq_some_iff.1 hs
     rw[List.take_succ_eq_append_getElem h2,h3])
    have HSk:=qh hs
    clear hs hab
    by_cases g:((v1,v2):Stp)=(s1,s2)
    ·have tq:sameS v1 v2 s1 s2=true:=decide_eq_true g
     have HF:Hid (((v1,v2):Stp)∈l∧l.idxOf ((v1,v2):Stp)=k):=qh ⟨by rw[g];exact List.mem_of_getElem? HSk.out,idxOf17 (by rw[HSk.out,g]) HH.out.2⟩
     clear g
     go_wp2_with fail
     go_quiet (fail)
     go_wp2_with fail
     go_ret
     exact⟨by rw[idxI_at HF.out];rfl,(HK.out.trans HH.out.1).drewN _⟩
    ·have tq:sameS v1 v2 s1 s2=false:=decide_eq_false g
     have HE:Hid (((v1,v2):Stp)∉l.take (k+1)):=qh (by
      rw[HT.out,List.mem_append,List.mem_singleton]
      rintro(h | h)
      ·exact HH.out.2 h
      ·exact g h)
     clear g
     go_wp2_with fail
     go_quiet (fail)
     go_wp2_with fail
     refine⟨⟨k+1,by omega,by go_num,qh ⟨HH.out.1.drewN _,HE.out⟩⟩,?_⟩
     simp[intOf];try omega
   ·obtain rfl:k=n:=by omega
    have hkz:¬(k:Int)<(k:Int):=by omega
    have HE:Hid (((v1,v2):Stp)∉l):=qh (by have:=HH.out.2;rwa [List.take_of_length_le (by rw[HLn.out];exact Nat.le_refl _)] at this)
    go_wp2_with fail
    go_ret
    exact⟨by rw[idxI_no HE.out];rfl,HK.out.trans HH.out.1⟩
set_option maxHeartbeats 2000000 in
set_option maxRecDepth 100000 in
theorem scontains_any (A:Option Addr) (n c B:Nat) (l:List Stp) (v:Stp) (w:World) (hr:Rd w B 2 A n (stpCells l)) (hn:n≤1000000000) :
    Calls Tryz.prog 43 #[.slice A n c,.agg #[.int .i64 v.1,.bool v.2]] w fun e w'=>e=.returned (.bool (decide (v∈l)))∧Keep Never w w':=by
  have HX:=qh (fun (W:World) (hk:Keep Never w W)=>sindex_any A n c B l v W (hr.keep hk (fun _ h=>h.elim)) hn)
  clear hr
  obtain⟨v1,v2⟩:=v
  simp only at HX ⊢
  obtain⟨w1,hw1⟩:∃V:World,w.alloc (.cells #[.int .i64 v1,.bool v2] 30)=V:=⟨_,rfl⟩
  have kw1:Keep Never w w1:=by rw[←hw1];exact(Keep.refl _ _).alloc _
  have bw1:=Blk.new w 30 #[.int .i64 v1,.bool v2]
  rw[hw1] at bw1
  have HB1:=qh bw1
  have HK:=qh kw1
  obtain⟨y0,y1⟩:=bc2 HB1.out
  clear kw1 bw1
  go_enter Tryz.func43, Tryz.ntmps43
  go_wp2_with fail
  clear hw1 y0 y1
  refine(HX.out w1 HK.out).mono ?_
  rintro en w2 ⟨rfl,hk⟩
  have HK2:=qtr HK hk
  clear hk HX
  obtain⟨z,hz⟩:∃z,idxI l ((v1,v2):Stp)=z:=⟨_,rfl⟩
  rw[hz]
  by_cases g:((v1,v2):Stp)∈l
  ·have t0:decide (z≥0)=true:=by rw[←hz,idxI_at ⟨g,rfl⟩];simp
   have HD:Hid (decide (((v1,v2):Stp)∈l)=true):=qh (decide_eq_true g)
   clear g hz
   go_wp2_with fail
   go_ret
   exact⟨by rw[HD.out];rfl,HK2.out⟩
  ·have t0:decide (z≥0)=false:=by rw[←hz,idxI_no g];rfl
   have HD:Hid (decide (((v1,v2):Stp)∈l)=false):=qh (decide_eq_false g)
   clear g hz
   go_wp2_with fail
   go_ret
   exact⟨by rw[HD.out];rfl,HK2.out⟩
set_option maxHeartbeats 2000000 in
set_option maxRecDepth 100000 in
theorem kindex_any (A:Option Addr) (n c B:Nat) (l:List Lk) (v:Lk) (w:World) (hr:Rd w B 3 A n (spCells l)) (hn:n≤1000000000) :
    Calls Tryz.prog 105 #[.slice A n c,.agg #[.int .i64 v.1,.int .i64 v.2.1,.int .i64 v.2.2]] w fun e w'=>e=.returned (.int .i64 (idxI l v))∧Keep Never w w':=by
  have qe:=run_eq_lk17
  have HR:=qh hr
  have HLn:Hid (l.length=n):=qh hr.sp_len
  clear hr
  obtain⟨v1,v2,v3⟩:=v
  simp only
  obtain⟨w1,hw1⟩:∃V:World,w.alloc (.cells #[.int .i64 v1,.int .i64 v2,.int .i64 v3] 62)=V:=⟨_,rfl⟩
  have kw1:Keep Never w w1:=by rw[←hw1];exact(Keep.refl _ _).alloc _
  have bw1:=Blk.new w 62 #[.int .i64 v1,.int .i64 v2,.int .i64 v3]
  rw[hw1] at bw1
  have HB1:=qh bw1
  have HK:=qh kw1
  clear kw1 bw1
  go_enter Tryz.func105, Tryz.ntmps105
  go_wp2_with fail
  clear hw1
  go_loopw [5,8] (fun _ i wr=>∃k:Nat,k≤n∧i=.int .i64 k∧Hid (Keep Never w1 wr∧((v1,v2,v3):Lk)∉l.take k)) (fun _ i _=>n - (intOf i).toNat)
  case atStart=>exact⟨0,by omega,rfl,qh ⟨Keep.refl _ _,by simp⟩⟩
  case round=>
   obtain⟨k,hk,rfl,HH⟩:=hrel
   by_cases h0:k<n
   ·have hkz:(k:Int)<(n:Int):=by omega
    obtain⟨ad,s,hA,hab,hs,c0,c1,c2⟩:=(HR.out.keep (HK.out.trans HH.out.1) (fun _ h=>h.elim)).sp h0
    subst hA
    obtain⟨s1,s2,s3⟩:=s
    simp only at c0 c1 c2
    have HBr:=qh (HB1.out.keep HH.out.1 (fun h=>h))
    obtain⟨y0,y1,y2⟩:=bc3 HBr.out
    have HT:Hid (l.take (k+1)=l.take k++[((s1,s2,s3):Lk)]):=qh (by
     obtain⟨h2,h3⟩:=List.getElem?_eq_some_iff.1 hs
     rw[List.take_succ_eq_append_getElem h2,h3])
    have HSk:=qh hs
    clear hs hab
    by_cases g:((v1,v2,v3):Lk)=(s1,s2,s3)
    ·have tq:sameLk v1 v2 v3 s1 s2 s3=true:=decide_eq_true g
     have HF:Hid (((v1,v2,v3):Lk)∈l∧l.idxOf ((v1,v2,v3):Lk)=k):=qh ⟨by rw[g];exact List.mem_of_getElem? HSk.out,idxOf17 (by rw[HSk.out,g]) HH.out.2⟩
     clear g
     go_wp2_with fail
     go_quiet (fail)
     go_wp2_with fail
     go_ret
     exact⟨by rw[idxI_at HF.out];rfl,(HK.out.trans HH.out.1).drewN _⟩
    ·have tq:sameLk v1 v2 v3 s1 s2 s3=false:=decide_eq_false g
     have HE:Hid (((v1,v2,v3):Lk)∉l.take (k+1)):=qh (by
      rw[HT.out,List.mem_append,List.mem_singleton]
      rintro(h | h)
      ·exact HH.out.2 h
      ·exact g h)
     clear g
     go_wp2_with fail
     go_quiet (fail)
     go_wp2_with fail
     refine⟨⟨k+1,by omega,by go_num,qh ⟨HH.out.1.drewN _,HE.out⟩⟩,?_⟩
     simp[intOf];try omega
   ·obtain rfl:k=n:=by omega
    have hkz:¬(k:Int)<(k:Int):=by omega
    have HE:Hid (((v1,v2,v3):Lk)∉l):=qh (by have:=HH.out.2;rwa [List.take_of_length_le (by rw[HLn.out];exact Nat.le_refl _)] at this)
    go_wp2_with fail
    go_ret
    exact⟨by rw[idxI_no HE.out];rfl,HK.out.trans HH.out.1⟩
set_option maxHeartbeats 2000000 in
set_option maxRecDepth 100000 in
theorem kcontains_any (A:Option Addr) (n c B:Nat) (l:List Lk) (v:Lk) (w:World) (hr:Rd w B 3 A n (spCells l)) (hn:n≤1000000000) :
    Calls Tryz.prog 41 #[.slice A n c,.agg #[.int .i64 v.1,.int .i64 v.2.1,.int .i64 v.2.2]] w fun e w'=>e=.returned (.bool (decide (v∈l)))∧Keep Never w w':=by
  have HX:=qh (fun (W:World) (hk:Keep Never w W)=>kindex_any A n c B l v W (hr.keep hk (fun _ h=>h.elim)) hn)
  clear hr
  obtain⟨v1,v2,v3⟩:=v
  simp only at HX ⊢
  obtain⟨w1,hw1⟩:∃V:World,w.alloc (.cells #[.int .i64 v1,.int .i64 v2,.int .i64 v3] 62)=V:=⟨_,rfl⟩
  have kw1:Keep Never w w1:=by rw[←hw1];exact(Keep.refl _ _).alloc _
  have bw1:=Blk.new w 62 #[.int .i64 v1,.int .i64 v2,.int .i64 v3]
  rw[hw1] at bw1
  have HB1:=qh bw1
  have HK:=qh kw1
  obtain⟨y0,y1,y2⟩:=bc3 HB1.out
  clear kw1 bw1
  go_enter Tryz.func41, Tryz.ntmps41
  go_wp2_with fail
  clear hw1 y0 y1 y2
  refine(HX.out w1 HK.out).mono ?_
  rintro en w2 ⟨rfl,hk⟩
  have HK2:=qtr HK hk
  clear hk HX
  obtain⟨z,hz⟩:∃z,idxI l ((v1,v2,v3):Lk)=z:=⟨_,rfl⟩
  rw[hz]
  by_cases g:((v1,v2,v3):Lk)∈l
  ·have t0:decide (z≥0)=true:=by rw[←hz,idxI_at ⟨g,rfl⟩];simp
   have HD:Hid (decide (((v1,v2,v3):Lk)∈l)=true):=qh (decide_eq_true g)
   clear g hz
   go_wp2_with fail
   go_ret
   exact⟨by rw[HD.out];rfl,HK2.out⟩
  ·have t0:decide (z≥0)=false:=by rw[←hz,idxI_no g];rfl
   have HD:Hid (decide (((v1,v2,v3):Lk)∈l)=false):=qh (decide_eq_false g)
   clear g hz
   go_wp2_with fail
   go_ret
   exact⟨by rw[HD.out];rfl,HK2.out⟩
def PredSc (g:Nat) (lb:Array Value) (p:Sc→Bool) (w:World):Prop:=
  ∀(W:World) (s:Sc),Keep Never w W→Calls Tryz.prog g (#[.agg #[.int .i64 s.1,.int .i64 s.2]]++lb) W fun e w'=>e=.returned (.bool (p s))∧Keep Never W w'
def IdxRetC (p:Sc→Bool) (l:List Sc) (w:World) (e:Ending) (w':World):Prop:=
  ((∃(i:Nat) (s:Sc),e=.returned (.int .i64 i)∧l[i]?=some s∧p s=true∧∀x∈l.take i,p x=false)∨(e=.returned (.int .i64 (-1))∧∀x∈l,p x=false))∧Keep Never w w'
set_option maxHeartbeats 1000000 in
set_option maxRecDepth 100000 in
theorem indexfc_any (g:Nat) (lb:Array Value) (p:Sc→Bool) (eg:∀args w,(callFunc g args).run Tryz.prog w=.ok (.enter g args) w) (A:Option Addr) (n c B:Nat) (l:List Sc) (w:World) (hr:Rd w B 2 A n (scCells l)) (hp:PredSc g lb p w) (hn:n≤100000000000) :
    Calls Tryz.prog 97 #[.slice A n c,.func (.func g) #[] lb] w (IdxRetC p l w):=by
  have HL:=qh hr.sc_len
  have HR:=qh hr
  have HP:=qh hp
  clear hr hp
  go_enter Tryz.func97, Tryz.ntmps97
  go_wp2_with fail
  go_loopw [5,8] (fun _ s8 wr=>∃k:Nat,k≤n∧s8=.int .i64 k∧Hid (Keep Never w wr∧∀x∈l.take k,p x=false)) (fun _ i _=>n - (intOf i).toNat)
  case atStart=>exact⟨0,by omega,rfl,qh ⟨Keep.refl _ _,by simp⟩⟩
  case round=>
   obtain⟨k,hk,rfl,HH⟩:=hrel
   by_cases h0:k<n
   ·have hki:(k:Int)<(n:Int):=by omega
    obtain⟨ad,s,hA,_,hs,c0,c1⟩:=(HR.out.keep HH.out.1 (fun _ h=>h.elim)).sc h0
    subst hA
    have hcall:=HP.out wr s HH.out.1
    have Hs:=qh hs
    have htk:Hid (l.take (k+1)=l.take k++[s]):=qh (by
     obtain⟨h2,h3⟩:=List.getElem?_eq_some_iff.1 hs
     rw[List.take_succ_eq_append_getElem h2,h3])
    clear hs
    obtain⟨s1,s2⟩:=s
    simp only at c0 c1 hcall
    cases hps:p (s1,s2) with
    | true=>
     rw[hps] at hcall
     have Hps:=qh hps
     clear hps
     go_wp2_with (go_at_fn g;refine hcall.mono ?_;rintro e w' ⟨rfl,hk'⟩)
     go_ret
     exact⟨.inl ⟨k,_,rfl,Hs.out,Hps.out,HH.out.2⟩,HH.out.1.trans hk'⟩
    | false=>
     rw[hps] at hcall
     have Hps:=qh hps
     clear hps
     go_wp2_with (go_at_fn g;refine hcall.mono ?_;rintro e w' ⟨rfl,hk'⟩)
     go_roundw
     case measure=>simp[intOf];try omega
     case rel=>
      refine⟨k+1,by omega,by go_num,qh ⟨HH.out.1.trans hk',fun x hx=>?_⟩⟩
      rw[htk.out] at hx
      rcases List.mem_append.1 hx with hx | hx
      ·exact HH.out.2 x hx
      ·simp at hx;subst hx;exact Hps.out
   ·obtain rfl:k=n:=by omega
    have hki:¬(k:Int)<(k:Int):=by omega
    have HN:Hid (∀x∈l,p x=false):=qh (by have:=HH.out.2;rwa [List.take_of_length_le (by have:=HL.out;omega)] at this)
    go_wp2_with fail
    go_ret
    exact⟨.inr ⟨rfl,HN.out⟩,HH.out.1⟩
set_option maxHeartbeats 1000000 in
set_option maxRecDepth 100000 in
theorem cloneC_any (A:Option Addr) (n c B:Nat) (l:List Sc) (w:World) (hr:Rd w B 2 A n (scCells l)) (hA:A=none→c=0) (hnc:n≤c) (hn:n≤100000000000) (_hB:B≤w.heap.size) :
    Calls Tryz.prog 96 #[.slice A n c] w fun e w'=>∃A' c',e=.returned (.slice A' n c')∧Own w' w.heap.size 58 2 A' n c' (scCells l)∧Keep Never w w':=by
  have HR:=qh hr
  have HL:=qh hr.sc_len
  clear hr
  have q22:∀(w:World) (a:Option Addr) (n c n' c':Nat),(binOp .eql 36 (.slice a n c) (.slice none n' c')).run Tryz.prog w=.ok (.bool a.isNone) w:=fun w a n c n' c'=>Lib.run_eql_slice_nil w _ _ a n c n' c' Tryz.underlying36
  cases A with
  | none=>
   obtain rfl:=hA rfl
   obtain rfl:n=0:=by omega
   have hl:l=[]:=List.eq_nil_of_length_eq_zero HL.out
   subst hl
   clear hA
   go_enter Tryz.func96, Tryz.ntmps96
   go_wp2_with fail
   go_ret
   exact⟨none,0,rfl,Own.nil _ _ _ _,Keep.refl _ _⟩
  | some ad=>
   clear hA
   have HO:Hid (Own (w.alloc (.cells #[] 58)) w.heap.size 58 2 (some ⟨w.heap.size,0,none⟩) 0 0 []):=qh (by
    have h:=Own.lit w 58 #[] 0 2 (by unfold maxLen;omega) rfl
    simpa using h)
   have HK:Hid (Keep Never w (w.alloc (.cells #[] 58))):=qh ((Keep.refl Never w).alloc _)
   have HR1:=qh (HR.out.keep HK.out (fun _ h=>h.elim))
   have hsz:w.heap.size≤(w.alloc (.cells #[] 58)).heap.size:=by simp
   go_enter Tryz.func96, Tryz.ntmps96
   go_wp2_with (at_builtin;refine wpList_app _ rfl (.tmp 5) (.tmp 6) _ rfl elemSc w.heap.size (n:=0) (c:=0) rfl HO.out B (m:=n) rfl HR1.out (scCells_one _) (by omega) (by unfold maxLen;omega) hsz ?_;intro A5 c5 w5 hown hk5 hrow)
   go_ret
   refine⟨A5,c5,by simp,by simpa using hown,HK.out.then_ hk5 (fun i hi h=>?_)⟩
   have:=(HO.out.row h).1
   omega
end Go.Proofs.YtpapiojicbbheaaGreatDoor

namespace Go.Proofs.YtpapiojicbbheaaGreatDoor
open Go.RowKit
abbrev rtA (r:Rt) (A:Option Addr) (n c:Nat):Value:=.agg #[.int .i64 r.1,.slice A n c,.int .i64 r.2.2.1,.int .i64 r.2.2.2]
theorem after_len (t:Tp) (s:Stp):(afterM t s).length≤2*t.1.length:=by
 unfold afterM
 split
 ·exact listM_len _ _ _
 ·simp
theorem has_dec (s:Stp) (r:Rt):hasB s r=decide (s∈r.2.1):=by unfold hasB;rw[List.contains_eq_mem]
set_option maxHeartbeats 4000000 in
set_option maxRecDepth 100000 in
theorem ch3_any (r:Rt) (A:Option Addr) (n c B:Nat) (s:Stp) (g:Nat) (w:World) (hr:Rd w B 2 A n (stpCells r.2.1)) (hn:n≤100000000) (h0:w.cell? ⟨g,0,none⟩=some (.int .i64 s.1)) (h1:w.cell? ⟨g,1,none⟩=some (.bool s.2)) :
    Calls Tryz.prog 47 #[rtA r A n c,.pointer (some ⟨g,0,none⟩)] w fun e w'=>e=.returned (.bool (hasB s r))∧Keep Never w w':=by
  rw[has_dec]
  obtain⟨r1,rp,r3,r4⟩:=r
  obtain⟨s1,s2⟩:=s
  simp only at hr h0 h1 ⊢
  have HX:=qh (fun (W:World) (hk:Keep Never w W)=>scontains_any A n c B rp (s1,s2) W (hr.keep hk (fun _ h=>h.elim)) (by omega))
  clear hr
  obtain⟨w1,hw1⟩:∃V:World,w.alloc (.cells #[.int .i64 r1,.slice A n c,.int .i64 r3,.int .i64 r4] 64)=V:=⟨_,rfl⟩
  have kw1:Keep Never w w1:=by rw[←hw1];exact(Keep.refl _ _).alloc _
  have bw1:=Blk.new w 64 #[.int .i64 r1,.slice A n c,.int .i64 r3,.int .i64 r4]
  rw[hw1] at bw1
  have HB1:=qh bw1
  have HK:=qh kw1
  obtain⟨y0,y1,y2,y3⟩:=bc4 HB1.out
  clear kw1 bw1
  have d0:=keepT HK.out h0
  have d1:=keepT HK.out h1
  clear h0 h1
  go_enter Tryz.func47, Tryz.ntmps47
  go_wp2_with fail
  refine(HX.out w1 HK.out).mono ?_
  rintro en w2 ⟨rfl,hk⟩
  have HK2:=qtr HK hk
  clear hk HX y0 y1 y2 y3 d0 d1 hw1
  go_wp2_with fail
  go_ret
  exact⟨rfl,HK2.out⟩
set_option maxHeartbeats 4000000 in
set_option maxRecDepth 100000 in
theorem ch21_any (a:Int) (r:Bool) (A:Option Addr) (n c B:Nat) (l:List Stp) (g:Nat) (w:World) (hr:Rd w B 2 A n (stpCells l)) (hn:n≤1000000) (h0:w.cell? ⟨g,0,none⟩=some (.slice A n c)) :
    Calls Tryz.prog 45 #[.agg #[.int .i64 a,.bool r],.pointer (some ⟨g,0,none⟩)] w fun e w'=>e=.returned (.bool (overB l a))∧Keep Never w w':=by
  have HX:=qh (fun (W:World) (hk:Keep Never w W)=>pover17_any A n c B l a W (hr.keep hk (fun _ h=>h.elim)) hn)
  clear hr
  obtain⟨w1,hw1⟩:∃V:World,w.alloc (.cells #[.int .i64 a,.bool r] 30)=V:=⟨_,rfl⟩
  have kw1:Keep Never w w1:=by rw[←hw1];exact(Keep.refl _ _).alloc _
  have bw1:=Blk.new w 30 #[.int .i64 a,.bool r]
  rw[hw1] at bw1
  have HB1:=qh bw1
  have HK:=qh kw1
  obtain⟨y0,y1⟩:=bc2 HB1.out
  clear kw1 bw1
  have d0:=keepT HK.out h0
  clear h0
  go_enter Tryz.func45, Tryz.ntmps45
  go_wp2_with fail
  refine(HX.out w1 HK.out).mono ?_
  rintro en w2 ⟨rfl,hk⟩
  have HK2:=qtr HK hk
  clear hk HX y0 y1 d0 hw1
  go_wp2_with fail
  go_ret
  exact⟨rfl,HK2.out⟩
set_option maxHeartbeats 8000000 in
set_option maxRecDepth 100000 in
theorem ch2_any (r:Rt) (A:Option Addr) (n c B2:Nat) (x:TA) (t:Tp) (B B3:Nat) (gone:List Stp) (Ag:Option Addr) (ng cg bt bg:Nat) (w:World) (hr:Rd w B2 2 A n (stpCells r.2.1)) (hp:r.2.1≠[]) (hn:n≤1000000) (h:TpAt w B x t) (hs:TpSmall x t) (hg:Rd w B3 2 Ag ng (stpCells gone)) (hg0:gone≠[]) (hng:ng≤1000000) (hbt:Blk w bt 27 x.cs) (hbg:Blk w bg 35 #[.slice Ag ng cg]) :
    Calls Tryz.prog 42 #[rtA r A n c,.pointer (some ⟨bt,0,none⟩),.pointer (some ⟨bg,0,none⟩)] w fun e w'=>e=.returned (.bool (followsB t gone r))∧Keep Never w w':=by
  obtain⟨r1,rp,r3,r4⟩:=r
  simp only at hr hp ⊢
  have HX:=qh (fun (W:World) (hk:Keep Never w W) (v:Stp) (A2 n2 c2 B2 l) (h:Rd W B2 2 A2 n2 (stpCells l)) (h2:n2≤1000000000)=>scontains_any A2 n2 c2 B2 l v W h h2)
  have HAf:=qh (fun (W:World) (hk:Keep Never w W) (s:Stp)=>after_any x t B s W (h.keep hk) hs.j hs.e)
  have HCf:=qh (fun (W:World) (hk:Keep Never w W) (h0:W.cell? ⟨bg,0,none⟩=some (.slice Ag ng cg))=>containsfs_any 45 #[.pointer (some ⟨bg,0,none⟩)] (fun u=>overB gone u.1) (enters_of Tryz.func45 (by kernel_rfl) rfl) A n c B2 rp W (hr.keep hk (fun _ h=>h.elim)) (fun V s hV=>ch21_any s.1 s.2 Ag ng cg B3 gone bg V (hg.keep (hk.trans hV) (fun _ h=>h.elim)) hng (keepT hV h0)) (by omega))
  have hTl:∃m,ng=m+1:=⟨ng - 1,by have:=hg.stp_len;have:=List.length_pos_iff.2 hg0;omega⟩
  obtain⟨m,rfl⟩:=hTl
  obtain⟨ag,gl,hAg,_,hgl,f5,f6⟩:=hg.stp (show m<m+1 by omega)
  subst hAg
  have HNe:Hid (t.1.length≤100000000):=qh (by rw[←h.e.len];exact hs.e)
  have HGl:Hid (gone.getLast?=some gl):=qh (by rw[List.getLast?_eq_getElem?,hg.stp_len];exact hgl)
  have hn0:0<n:=by have:=hr.stp_len;have:=List.length_pos_iff.2 hp;omega
  obtain⟨ap,hd,hAp,_,hhd,e0,e1⟩:=hr.stp hn0
  subst hAp
  have ea:ap.add (0*2)=ap:=by rw[Nat.zero_mul];unfold Addr.add;split <;> simp_all
  rw[ea] at e0 e1
  have HHd:Hid (rp.head?=some hd):=qh (by rw[List.head?_eq_getElem?];exact hhd)
  have HF0:Hid (followsB t gone (r1,rp,r3,r4)=((afterM t gl).contains hd&&!(rp.any fun u=>overB gone u.1))):=qh (by unfold followsB;rw[HGl.out];simp only;rw[HHd.out])
  obtain⟨g1,g2⟩:=gl
  obtain⟨h1,h2⟩:=hd
  simp only at f5 f6 e0 e1
  have f0:=hbt.cell 0
  have f1:=hbt.cell 1
  have f2:=hbt.cell 2
  have f3:=hbt.cell 3
  obtain⟨Ae,ne,ce,Aj,nj,cj,Ab,nb,cb,Ar,nr,cr⟩:=x
  simp only[TA.cs] at HAf f0 f1 f2 f3
  have f4:=hbg.cell 0
  have HW0:=qh (show Hid (w.cell? ⟨bt,0,none⟩=some (.slice Ae ne ce)∧w.cell? ⟨bt,1,none⟩=some (.slice Aj nj cj)∧w.cell? ⟨bt,2,none⟩=some (.slice Ab nb cb)∧w.cell? ⟨bt,3,none⟩=some (.slice Ar nr cr)∧w.cell? ⟨bg,0,none⟩=some (.slice (some ag) (m+1) cg)∧w.cell? (ag.add (m*2))=some (.int .i64 g1)∧w.cell? ⟨(ag.add (m*2)).block,(ag.add (m*2)).off+1,none⟩=some (.bool g2)∧w.cell? ap=some (.int .i64 h1)∧w.cell? ⟨ap.block,ap.off+1,none⟩=some (.bool h2)) from qh ⟨f0,f1,f2,f3,f4,f5,f6,e0,e1⟩)
  have hmw:IntKind.i64.wrap ((m:Int)+1 - 1)=(m:Int):=by rw[show (m:Int)+1 - 1=(m:Int) by omega];exact IntWalk.i64_in _ (by omega)
  have hmw2:IntKind.i64.wrap (((m+1:Nat):Int) - 1)=(m:Int):=by rw[show ((m+1:Nat):Int) - 1=(m:Int) by omega];exact IntWalk.i64_in _ (by omega)
  have hmw3:IntKind.i64.wrap (m:Int)=(m:Int):=IntWalk.i64_in _ (by omega)
  have hmz:(m:Int)<(m:Int)+1:=by omega
  have hmq:(0:Int)≤(m:Int)+1:=by omega
  have hmt:((m:Int)+1).toNat=m+1:=by omega
  have hm0:(0:Int)≤(m:Int):=by omega
  clear f0 f1 f2 f3 f4 f5 f6 e0 e1 ea hr hp hg hg0 h hs hbt hbg hgl hhd
  obtain⟨w1,hw1⟩:∃V:World,w.alloc (.cells #[.int .i64 r1,.slice (some ap) n c,.int .i64 r3,.int .i64 r4] 64)=V:=⟨_,rfl⟩
  have kw1:Keep Never w w1:=by rw[←hw1];exact(Keep.refl _ _).alloc _
  have bw1:=Blk.new w 64 #[.int .i64 r1,.slice (some ap) n c,.int .i64 r3,.int .i64 r4]
  rw[hw1] at bw1
  have HB1:=qh bw1
  have HK:=qh kw1
  clear kw1 bw1
  have f0:=keepT HK.out HW0.out.out.1
  have f1:=keepT HK.out HW0.out.out.2.1
  have f2:=keepT HK.out HW0.out.out.2.2.1
  have f3:=keepT HK.out HW0.out.out.2.2.2.1
  have f4:=keepT HK.out HW0.out.out.2.2.2.2.1
  have f5:=keepT HK.out HW0.out.out.2.2.2.2.2.1
  have f6:=keepT HK.out HW0.out.out.2.2.2.2.2.2.1
  have HS2:Hid (∀W',Keep Never w1 W'→Keep Never w1 W'∧W'.cell? ⟨bt,0,none⟩=some (.slice Ae ne ce)∧W'.cell? ⟨bt,1,none⟩=some (.slice Aj nj cj)∧W'.cell? ⟨bt,2,none⟩=some (.slice Ab nb cb)∧W'.cell? ⟨bt,3,none⟩=some (.slice Ar nr cr)∧W'.cell? ⟨bg,0,none⟩=some (.slice (some ag) (m+1) cg)∧W'.cell? (ag.add (m*2))=some (.int .i64 g1)∧W'.cell? ⟨(ag.add (m*2)).block,(ag.add (m*2)).off+1,none⟩=some (.bool g2)):=qh (fun W' h=>⟨h,keepT h f0,keepT h f1,keepT h f2,keepT h f3,keepT h f4,keepT h f5,keepT h f6⟩)
  go_enter Tryz.func42, Tryz.ntmps42
  go_wp2_with fail
  clear f0 f1 f2 f3 f4 f5 f6 hw1
  go_region_held3 (fun W'=>Keep Never w1 W'∧W'.cell? ⟨bt,0,none⟩=some (.slice Ae ne ce)∧W'.cell? ⟨bt,1,none⟩=some (.slice Aj nj cj)∧W'.cell? ⟨bt,2,none⟩=some (.slice Ab nb cb)∧W'.cell? ⟨bt,3,none⟩=some (.slice Ar nr cr)∧W'.cell? ⟨bg,0,none⟩=some (.slice (some ag) (m+1) cg)∧W'.cell? (ag.add (m*2))=some (.int .i64 g1)∧W'.cell? ⟨(ag.add (m*2)).block,(ag.add (m*2)).off+1,none⟩=some (.bool g2))
    (first| assumption | exact HS2.out _ ((Keep.refl Never w1).drew) | exact HS2.out _ (Keep.trans (And.left (by assumption)) hk3) | exact HS2.out _ (Keep.trans ((Keep.refl Never w1).drew) hk3))
    (first
      | (go_at_call 30; refine(HAf.out _ (HK.out.trans (by first | exact And.left (by assumption) | exact(Keep.refl Never w1).drew | exact Keep.refl Never w1)) (g1,g2)).mono ?_;rintro e w3 ⟨A7,n7,c7,rfl,hn7,ho7,hk3⟩;have HO7:=qh ho7;have HN7:=qh hn7;clear ho7 hn7))
  rename_i hS
  have HK3:=qh (HK.out.trans hS.1)
  have HB3:=qh (HB1.out.keep hS.1 (fun h=>h))
  have Hlen:n7≤1000000000:=by have h1:=HN7.out.out;have h2:=after_len t (g1,g2);have h3:=HNe.out;omega
  have HC:=qh (HX.out w3 HK3.out (h1,h2) A7 n7 c7 _ _ HO7.out.rd Hlen)
  have HCg:=qh (fun V hV=>HCf.out V (HK3.out.trans hV) (keepT hV hS.2.2.2.2.2.1))
  have y1:w3.cell? ⟨w.heap.size,1,none⟩=some (.slice (some ap) n c):=HB3.out.cell 1
  have e0:=keepT HK3.out HW0.out.out.2.2.2.2.2.2.2.1
  have e1:=keepT HK3.out HW0.out.out.2.2.2.2.2.2.2.2
  have HS3:=qh hS.2.2.2.2.2.1
  clear hS HX HCf hmw hmw2 hmw3 hmz hmq hmt hm0 hk3 HAf Hlen HS2
  dsimp only at HC
  rw[show decide ((h1,h2)∈afterM t (g1,g2))=(afterM t (g1,g2)).contains (h1,h2) from by rw[List.contains_eq_mem]] at HC
  obtain⟨ca,hca⟩:∃z,(afterM t (g1,g2)).contains (h1,h2)=z:=⟨_,rfl⟩
  obtain⟨cb,hcb⟩:∃z,(rp.any fun u=>overB gone u.1)=z:=⟨_,rfl⟩
  rw[hca,hcb] at HF0
  rw[hca] at HC
  rw[hcb] at HCg
  clear hca hcb
  cases ca with
  | false=>
   go_wp2_with fail
   refine HC.out.mono ?_
   rintro en w4 ⟨rfl,hk⟩
   have HK4:=qtr HK3 hk
   clear hk HC y1 e0 e1
   go_wp2_with fail
   go_ret
   exact⟨by rw[HF0.out];rfl,HK4.out⟩
  | true=>
   go_wp2_with fail
   refine HC.out.mono ?_
   rintro en w4 ⟨rfl,hk⟩
   have HK4:=qtr HK3 hk
   have HC2:=qh (HCg.out w4 hk)
   have y1:w4.cell? ⟨w.heap.size,1,none⟩=some (.slice (some ap) n c):=(HB3.out.keep hk (fun h=>h)).cell 1
   clear hk HC e0 e1 HCg
   go_wp2_with fail
   refine HC2.out.mono ?_
   rintro en w5 ⟨rfl,hk⟩
   have HK5:=qtr HK4 hk
   clear hk HC2 y1
   go_wp2_with fail
   go_ret
   exact⟨by rw[HF0.out];cases cb <;> rfl,HK5.out⟩
end Go.Proofs.YtpapiojicbbheaaGreatDoor

namespace Go.Proofs.YtpapiojicbbheaaGreatDoor
open Go.RowKit
structure GnI (w:World) (t:Tp) (res acc:List Stp) (f:Nat) (s:Stp) (m:Int):Prop where
  wy:∃a,acc=a++[s]∧a++goneM t f s m=res
  ok:(goM t f s m).2=0
  there:thereB t.1.length s.1=true
  pos:0≤m
  top:m≤2199023255552
  len:acc.length+f=41
  f40:f≤40
  all:∀u∈acc,in64 u
theorem GnI.fin {w:World}{t:Tp}{res acc:List Stp}{f:Nat}{s:Stp}{m:Int} (h:GnI w t res acc f s m) (hm:m≤edgeM t s.1):acc=res:=by
 obtain⟨a,h1,h2⟩:=h.wy
 rw[gone_in hm] at h2
 rw[h1,h2]
theorem in64_there {t:Tp}{s:Stp} (h:thereB t.1.length s.1=true) (hl:t.1.length≤100000000):in64 s:=by
 unfold thereB at h
 simp only[Bool.and_eq_true,decide_eq_true_eq] at h
 unfold in64
 omega
theorem GnI.next {w:World}{t:Tp}{res acc:List Stp}{f:Nat}{s:Stp}{m:Int} (h:GnI w t res acc f s m) (hm:¬m≤edgeM t s.1) (hv:0≤edgeM t s.1) (hl:t.1.length≤100000000):∃g x,f=g+1∧afterM t s=[x]∧GnI w t res (acc++[x]) g x (m - edgeM t s.1):=by
 obtain⟨g,x,h1,h2,h3⟩:=go_on h.ok hm
 obtain⟨a,e1,e2⟩:=h.wy
 have hx:=after_there (t:=t) (s:=s) (x:=x) (by rw[h2];simp)
 subst h1
 refine⟨g,x,rfl,h2,⟨⟨acc,rfl,?_⟩,h3,hx,by omega,by have:=h.top;omega,by have:=h.len;simp;omega,by have:=h.f40;omega,fun u hu=>?_⟩⟩
 ·rw[gone_next hm h2] at e2
  rw[e1,←e2];simp
 ·rcases List.mem_append.1 hu with hu | hu
  ·exact h.all u hu
  ·simp at hu;subst hu;exact in64_there hx hl
def StpsRet (l:List Stp) (w:World) (e:Ending) (w':World):Prop:=∃A n c,e=.returned (.slice A n c)∧Hid (n=l.length)∧Own w' w.heap.size 30 2 A n c (stpCells l)∧Hid (∀u∈l,in64 u)∧Keep Never w w'
set_option maxHeartbeats 8000000 in
set_option maxRecDepth 100000 in
theorem gone_any (x:TA) (t:Tp) (B:Nat) (id e a:Int) (r:Bool) (n:Int) (w:World) (h:TpAt w B x t) (hs:TpSmall x t) (hck:checkM t=0) (hth:thereB t.1.length e=true) (ha0:0≤a) (ha1:a≤edgeM t e) (hn0:0≤n) (hn1:n≤1099511627776) (hok:(goM t 40 (e,r) (n+alongP t (e,a,r))).2=0) :
    Calls Tryz.prog 56 #[.agg x.cs,.agg #[.int .i64 id,.int .i64 e,.int .i64 a],.bool r,.int .i64 n] w (StpsRet (goneM t 40 (e,r) (n+alongP t (e,a,r))) w):=by
  have HBe:=qh (fun (W:World) (hk:Keep Never w W)=>behind_any x t B e a r W (h.keep hk))
  have HAf:=qh (fun (W:World) (hk:Keep Never w W) (s:Stp)=>after_any x t B s W (h.keep hk) hs.j hs.e)
  have HED:=qh (fun (W:World) (hk:Keep Never w W) (i:Int) (h0:0≤i) (h1:i<(x.ne:Int))=>edge_at (h.keep hk) h0 h1)
  have HEl:Hid (x.ne=t.1.length):=qh h.e.len
  have HEs:=qh hs.e
  have HCk:=qh hck
  have HOk:=qh hok
  have hin:=edge_in hck hth
  have hal:=along_in (t:=t) (p:=(e,a,r)) ha0 ha1
  have HTh:=qh hth
  simp only at hal
  unfold thereB at hth
  simp only[Bool.and_eq_true,decide_eq_true_eq] at hth
  rw[←HEl.out] at hth
  have hC0:=HBe.out
  obtain⟨Ae,ne,ce,Aj,nj,cj,Ab,nb,cb,Ar,nr,cr⟩:=x
  simp only[TA.cs] at HBe HAf HED HEl HEs hth ⊢
  clear h hs hck hok hC0
  obtain⟨w1,hw1⟩:∃V:World,w.alloc (.cells #[.slice Ae ne ce,.slice Aj nj cj,.slice Ab nb cb,.slice Ar nr cr] 27)=V:=⟨_,rfl⟩
  have zw1:w1.heap.size=w.heap.size+1:=by rw[←hw1];simp
  have kw1:Keep Never w w1:=by rw[←hw1];exact(Keep.refl _ _).alloc _
  have bw1:=Blk.new w 27 #[.slice Ae ne ce,.slice Aj nj cj,.slice Ab nb cb,.slice Ar nr cr]
  rw[hw1] at bw1
  obtain⟨w2,hw2⟩:∃V:World,w1.alloc (.cells #[.int .i64 id,.int .i64 e,.int .i64 a] 94)=V:=⟨_,rfl⟩
  have zw2:w2.heap.size=w.heap.size+1+1:=by rw[←hw2];simp[zw1]
  have kw2:Keep Never w1 w2:=by rw[←hw2];exact(Keep.refl _ _).alloc _
  have bw2:=Blk.new w1 94 #[.int .i64 id,.int .i64 e,.int .i64 a]
  rw[hw2,zw1] at bw2
  obtain⟨w3,hw3⟩:∃V:World,w2.alloc (.cells #[.int .i64 e,.bool r] 30)=V:=⟨_,rfl⟩
  have zw3:w3.heap.size=w.heap.size+1+1+1:=by rw[←hw3];simp[zw2]
  have kw3:Keep Never w2 w3:=by rw[←hw3];exact(Keep.refl _ _).alloc _
  have bw3:=Blk.new w2 30 #[.int .i64 e,.bool r]
  rw[hw3,zw2] at bw3
  obtain⟨w4,hw4⟩:∃V:World,w3.alloc (.cells #[.int .i64 e,.bool r] 30)=V:=⟨_,rfl⟩
  have kw4:Keep Never w3 w4:=by rw[←hw4];exact(Keep.refl _ _).alloc _
  have bw4:=Blk.new w3 30 #[.int .i64 e,.bool r]
  rw[hw4,zw3] at bw4
  have p1:w2.cell? ⟨w.heap.size+1,1,none⟩=some (.int .i64 e):=bw2.cell 1
  obtain⟨s0,s1⟩:=bc2 bw3
  have HB1:=qh (((bw1.keep kw2 (fun h=>h)).keep kw3 (fun h=>h)).keep kw4 (fun h=>h))
  have HB2:=qh ((bw2.keep kw3 (fun h=>h)).keep kw4 (fun h=>h))
  have HB3:=qh (bw3.keep kw4 (fun h=>h))
  have HB4:=qh bw4
  have HK:=qh (((kw1.trans kw2).trans kw3).trans kw4)
  clear kw1 kw2 kw3 kw4 bw1 bw2 bw3 bw4
  have HCb:=qh (fun (W:World) (hk:Keep Never w W)=>HBe.out W hk hth.1 hth.2 (by omega) hin.2 ha0 (by omega))
  obtain⟨al,hal'⟩:∃z,alongP t (e,a,r)=z:=⟨_,rfl⟩
  rw[hal'] at HCb HOk hal ⊢
  have hw:=IntWalk.i64_in (n+al) (by omega)
  have hw':wrap64 (n+al)=n+al:=by have:=hw;rwa [IntWalk.i64_left] at this
  have HI0:Hid (GnI w t (goneM t 40 (e,r) (n+al)) [(e,r)] 40 (e,r) (n+al)):=qh ⟨⟨[],rfl,rfl⟩,HOk.out,HTh.out,by omega,by omega,rfl,by omega,fun u hu=>by simp at hu;subst hu;exact in64_there HTh.out (by rw[←HEl.out];exact HEs.out)⟩
  have HBlo:Hid (w3.heap.size=w.heap.size+2+1):=qh zw3
  obtain⟨y0,y1,y2,y3⟩:=bc4 HB1.out
  obtain⟨q0,q1,q2⟩:=bc3 HB2.out
  have HC:=qh (HCb.out w4 HK.out)
  clear hal' hal hin hth HBe HOk HTh
  go_enter Tryz.func56, Tryz.ntmps56
  go_wp2_with fail
  refine HC.out.mono ?_
  rintro en w5 ⟨rfl,hk5⟩
  have HLit:=Own.lit w3 30 #[.int .i64 e,.bool r] 1 2 (by unfold maxLen;omega) rfl
  rw[hw4,HBlo.out] at HLit
  have HO5:=qh (HLit.keep hk5 (fun _ _ h=>h))
  have HK5:=qtr HK hk5
  have HT5:=qkb HB1 hk5
  have HS5:=qkb HB3 hk5
  clear hk5 HC HCb HLit HB1 HB2 HB3 HB4 y0 y1 y2 y3 q0 q1 q2 s0 s1 p1 hw1 hw2 hw3 hw4 zw1 zw2 zw3
  go_wp2_with fail
  (try rw[hw'])
  obtain⟨res,hres⟩:∃z,goneM t 40 (e,r) (n+al)=z:=⟨_,rfl⟩
  rw[hres] at HI0
  have HRes:=qh hres
  obtain⟨m0,hm0⟩:∃z,n+al=z:=⟨_,rfl⟩
  rw[hm0] at HI0
  (try rw[hm0])
  clear hm0 hw hw' hres
  go_loopw [3,10] (fun m o wr=>∃(f:Nat) (s:Stp) (mm:Int) (acc:List Stp) (Ao:Option Addr) (no co:Nat),m=.int .i64 mm∧o=.slice Ao no co∧no≤41∧Hid (Keep Never w wr∧Blk wr w.heap.size 27 #[.slice Ae ne ce,.slice Aj nj cj,.slice Ab nb cb,.slice Ar nr cr]∧Blk wr (w.heap.size+2) 30 #[.int .i64 s.1,.bool s.2]∧Own wr (w.heap.size+3) 30 2 Ao no co (stpCells acc)∧GnI w t res acc f s mm∧no=acc.length)) (fun m _ _=>(intOf m).toNat)
  case atStart=>exact⟨40,(e,r),m0,[(e,r)],_,1,1,rfl,rfl,by omega,qh ⟨HK5.out,HT5.out,HS5.out,HO5.out,HI0.out,rfl⟩⟩
  case round=>
   obtain⟨f,s,mm,acc,Ao,no,co,rfl,rfl,hno,HH⟩:=hrel
   have HKr:=qh HH.out.1
   have HTr:=qh HH.out.2.1
   have HSr:=qh HH.out.2.2.1
   have HOr:=qh HH.out.2.2.2.1
   have HIr:=qh HH.out.2.2.2.2.1
   have HNr:=qh HH.out.2.2.2.2.2
   obtain⟨es,er⟩:=s
   have hin:=edge_in HCk.out HIr.out.there
   have hth:=HIr.out.there
   unfold thereB at hth
   simp only[Bool.and_eq_true,decide_eq_true_eq] at hth
   rw[←HEl.out] at hth
   obtain⟨ad,k,v,hA,he,hk,d0,hv⟩:=HED.out wr HKr.out es hth.1 hth.2
   subst hA
   subst he
   simp only at hin HSr hth
   rw[hv] at hin
   have hkz:(k:Int)<(ne:Int):=by omega
   have HV:=qh hv
   have hpos:=HIr.out.pos
   have htop:=HIr.out.top
   obtain⟨y0,y1,y2,y3⟩:=bc4 HTr.out
   obtain⟨s0,s1⟩:=bc2 HSr.out
   clear HH
   by_cases g:mm>v
   ·have t2:decide (mm>v)=true:=by simpa using g
    obtain⟨f',x,hf',hax,hIx⟩:=HIr.out.next (by simp only;rw[hv];omega) (by simp only;rw[hv];omega) (by rw[←HEl.out];exact HEs.out)
    simp only at hIx
    rw[hv] at hIx
    have HIx:=qh hIx
    have hw6:IntKind.i64.wrap (mm - v)=mm - v:=IntWalk.i64_in _ (by omega)
    have HMs:Hid ((mm - v).toNat<mm.toNat):=qh (by omega)
    have HC:=qh (HAf.out wr HKr.out (((k:Nat):Int),er))
    dsimp only at HC
    rw[hax] at HC
    clear hv hth hin hpos htop hIx hax hf' g
    go_wp2_with fail
    refine HC.out.mono ?_
    rintro en w7 ⟨A7,n7,c7,rfl,hn7,ho7,hk7⟩
    have HK7:=qtr HKr hk7
    have HT7:=qkb HTr hk7
    have HS7:=qkb HSr hk7
    have HO7:=qko HOr hk7
    obtain rfl:n7=1:=hn7.out
    obtain⟨ad2,x',hA2,hb2,hx',c0,c1⟩:=ho7.rd.stp (k:=0) (by omega)
    obtain rfl:x=x':=by simpa using hx'
    subst hA2
    obtain⟨x0,x1⟩:=x
    simp only[Nat.zero_mul] at c0 c1
    have ea:ad2.add 0=ad2:=by unfold Addr.add;split <;> simp_all
    have c0':=c0
    have c1':=c1
    rw[ea] at c0' c1'
    obtain⟨z0,z1⟩:=bc2 HS7.out
    have zf0:=HS7.out.frozen 0
    have zf1:=HS7.out.frozen 1
    clear ho7 hk7 HC y0 y1 y2 y3 s0 s1 d0 hn7 hx' hb2 ea
    go_upto_region 7 with(fail)
    obtain⟨w8,hw8⟩:∃V:World,(w7.setCell ⟨w.heap.size+2,0,none⟩ (.int .i64 x0)).setCell ⟨w.heap.size+2,1,none⟩ (.bool x1)=V:=⟨_,rfl⟩
    rw[hw8]
    have k8:Keep (fun q=>q=w.heap.size+2) w7 w8:=by rw[←hw8];exact((Keep.refl (fun q=>q=w.heap.size+2) w7).set_ (p:=⟨w.heap.size+2,0,none⟩) (.inl rfl) _).set_ (p:=⟨w.heap.size+2,1,none⟩) (.inl rfl) _
    have HS8:Hid (Blk w8 (w.heap.size+2) 30 #[.int .i64 x0,.bool x1]):=qh (by rw[←hw8];have:=(HS7.out.set_ 0 (.int .i64 x0)).set_ 1 (.bool x1);simpa using this)
    have HT8:=qh (HT7.out.keep k8 (by omega))
    have HO8:=qh (HO7.out.keep k8 (fun q h e=>by have:=(HO7.out.row h).1;omega))
    have HK8:=qh (HK7.out.then_ k8 (fun i hi e=>by omega))
    obtain⟨s0,s1⟩:=bc2 HS8.out
    clear hw8 k8 c0 c1 c0' c1' z0 z1 zf0 zf1
    have hz8:w.heap.size+3≤w8.heap.size:=HS8.out.lt
    go_wp2_with (at_builtin;refine wpList_app _ rfl (.tmp 48) (.tmp 50) _ rfl elemStp (w.heap.size+3) (A:=Ao) (n:=no) (c:=co) (by go_simp) (HO8.out.alloc _) _ (A':=some ⟨_,0,none⟩) (m:=1) (c':=1) (news:=[.int .i64 x0,.bool x1]) (by go_simp) (Rd.of_blk (n:=1) (cs:=[.int .i64 x0,.bool x1]) (Blk.new _ _ _) rfl) (by simp[Value.oneCell']) (by omega) (by unfold maxLen;omega) (by simp;omega) ?_
                 intro A9 c9 w9 hown hk9 hrow9
                 have HO9:=qh hown
                 have HK9:=qh hk9
                 clear hown hk9 hrow9)
    go_roundw
    case measure=>simp[intOf];have:=HMs.out;omega
    case rel=>
     have hr:=fun q (h:InRow Ao q)=>(HO8.out.row h).1
     refine⟨f',(x0,x1),mm - v,acc++[(x0,x1)],A9,no+1,c9,rfl,rfl,by have h1:=HIx.out.len;have h2:=HNr.out;simp only[List.length_append,List.length_cons,List.length_nil] at h1;omega,qh ⟨(HK8.out.alloc _).then_ HK9.out (fun i hi h=>by have:=hr i h;omega),(HT8.out.alloc _).keep HK9.out (fun h=>by have:=hr _ h;omega),(HS8.out.alloc _).keep HK9.out (fun h=>by have:=hr _ h;omega),by rw[stpCells_app];exact HO9.out,HIx.out,by rw[HNr.out];simp⟩⟩
   ·have t2:decide (mm>v)=false:=by simpa using g
    have HF:Hid (acc=res):=qh (HIr.out.fin (by simp only;rw[hv];omega))
    clear hv hth hin hpos htop g
    go_wp2_with fail
    go_ret
    exact⟨Ao,no,co,rfl,qh (by rw[HRes.out,←HF.out];exact HNr.out),by rw[HRes.out,←HF.out];exact HOr.out.less (by omega),qh (by rw[HRes.out,←HF.out];exact HIr.out.all),HKr.out⟩
end Go.Proofs.YtpapiojicbbheaaGreatDoor
