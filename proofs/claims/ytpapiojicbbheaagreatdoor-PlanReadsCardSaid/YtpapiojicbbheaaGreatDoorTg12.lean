/- Texts of this claim, together: RefB, RefC. -/
import Derived.Test.YtpapiojicbbheaaGreatDoorTg11
namespace Go.Proofs.YtpapiojicbbheaaGreatDoor
open Go.RowKit
def walkCells (AV:Option Addr) (nV cV:Nat) (R:Bool) (AB:Option Addr) (nB cB:Nat) (AO:Option Addr) (nO cO:Nat) (AG:Option Addr) (nG cG:Nat) (E P:Int):Array Value:=
  #[.slice AV nV cV,.bool R,.slice AB nB cB,.slice AO nO cO,.slice AG nG cG,.int .i64 E,.int .i64 P]
def InvW (RB p RG K:Nat) (st:RW) (Q:Nat→Prop) (w:World):Prop:=
  ∃AV cV AB cB AO cO AG cG,Blk w p 172 (walkCells AV st.V.length cV st.Read AB st.Bits.length cB AO st.Out.length cO AG st.Got.length cG st.E st.Place) ∧
   Rd w RB 1 AV st.V.length (st.V.map (.int .i64))∧st.V.length≤cV∧Rd w RB 1 AB st.Bits.length (st.Bits.map .bool)∧st.Bits.length≤cB ∧
   Own w RG 162 2 AO st.Out.length cO (bitCells st.Out)∧Own w RG 3 1 AG st.Got.length cG (st.Got.map (.int .i64))∧(∀q,Q q↔InRow AO q∨InRow AG q) ∧
   (∀x∈st.V,i64 x)∧st.Bits.length≤1000000∧st.V.length≤1000000∧st.Out.length+(if st.Read then st.Bits.length else st.V.length)≤K∧K≤1000000∧st.Got.length≤st.Out.length∧(RB≤p∧RB≤RG)∧(¬InRow AO p∧¬InRow AG p)∧RG≤w.heap.size
theorem InvW.keep {RB p RG K:Nat}{st:RW}{Q:Nat→Prop}{w w':World} (h:InvW RB p RG K st Q w) (hk:Keep Never w w'):InvW RB p RG K st Q w':=by
 obtain⟨AV,cV,AB,cB,AO,cO,AG,cG,h1,h2,h3,h4,h5,h6,h7,h8,h9,g1,g2,g3,g4,g5,g6,g7,g8⟩:=h
 exact⟨AV,cV,AB,cB,AO,cO,AG,cG,h1.keep hk (fun h=>h),h2.keep hk (fun _ h=>h.elim),h3,h4.keep hk (fun _ h=>h.elim),h5,h6.keep hk (fun _ _ h=>h),h7.keep hk (fun _ _ h=>h),h8,h9,g1,g2,g3,g4,g5,g6,g7,Nat.le_trans g8 hk.size⟩
theorem InvW.more {RB p RG K K':Nat}{st:RW}{Q:Nat→Prop}{w:World} (h:InvW RB p RG K st Q w) (hk:K≤K') (h':K'≤1000000):InvW RB p RG K' st Q w:=by
 obtain⟨AV,cV,AB,cB,AO,cO,AG,cG,h1,h2,h3,h4,h5,h6,h7,h8,h9,g1,g2,g3,g4,g5,g6,g7,g8⟩:=h
 exact⟨AV,cV,AB,cB,AO,cO,AG,cG,h1,h2,h3,h4,h5,h6,h7,h8,h9,g1,g2,by omega,h',g5,g6,g7,g8⟩
def OnePost (RB p RG K:Nat) (st:RW) (v:Int) (Q:Nat→Prop) (w:World) (e:Ending) (w':World):Prop:=
  e=.returned (.int .i64 (oneR st v).1)∧Keep (fun k=>k=p∨Q k) w w'∧∃Q',InvW RB p RG (K+if v=7 then 1 else 0) (oneR st v).2 Q' w'∧(∀k,Q' k→Q k∨w.heap.size≤k)
theorem oneR_range (st:RW) (v:Int):0≤(oneR st v).1∧(oneR st v).1≤4294967295:=by
 unfold oneR
 split
 ·simp
 split
 ·simp
 split
 ·simp
 rename_i h
 have h:vMay v (oneN st v)=true:=by rw[vMay_eq];simpa using h
 have h1:=vMay_range h
 have h2:=pow_le32 (k:=(vWidth v).toNat) (by omega)
 simp only
 omega
def Pc (RB p RG:Nat) (AV:Option Addr) (V:List Int) (AB:Option Addr) (Bits:List Bool) (AO:Option Addr) (cO:Nat) (Out:List (Int×Int)) (AG:Option Addr) (cG:Nat) (Got:List Int) (w:World):Prop:=
  Rd w RB 1 AV V.length (V.map (.int .i64))∧Rd w RB 1 AB Bits.length (Bits.map .bool)∧Own w RG 162 2 AO Out.length cO (bitCells Out)∧Own w RG 3 1 AG Got.length cG (Got.map (.int .i64))∧(RB≤p∧RB≤RG)∧(¬InRow AO p∧¬InRow AG p)∧RG≤w.heap.size
namespace Pc
variable {RB p RG:Nat}{AV:Option Addr}{V:List Int}{AB:Option Addr}{Bits:List Bool}{AO:Option Addr}{cO:Nat}{Out:List (Int×Int)}{AG:Option Addr}{cG:Nat}{Got:List Int}{w w':World}
theorem keepp (h:Pc RB p RG AV V AB Bits AO cO Out AG cG Got w) (hk:Keep (fun k=>k=p) w w'):Pc RB p RG AV V AB Bits AO cO Out AG cG Got w':=by
 obtain⟨h1,h2,h3,h4,h5,h6,h7⟩:=h
 exact⟨h1.keep hk (fun k h=>by have:=h5.1;omega),h2.keep hk (fun k h=>by have:=h5.1;omega),h3.keep hk (fun k h e=>by subst e;exact h6.1 h),h4.keep hk (fun k h e=>by subst e;exact h6.2 h),h5,h6,Nat.le_trans h7 hk.size⟩
theorem keep (h:Pc RB p RG AV V AB Bits AO cO Out AG cG Got w) (hk:Keep Never w w'):Pc RB p RG AV V AB Bits AO cO Out AG cG Got w':=h.keepp (hk.mono (fun _ _ h=>h.elim))
theorem bits (h:Pc RB p RG AV V AB Bits AO cO Out AG cG Got w) {A':Option Addr}{l:List Bool} (hr:Rd w RB 1 A' l.length (l.map .bool)):Pc RB p RG AV V A' l AO cO Out AG cG Got w:=⟨h.1,hr,h.2.2⟩
theorem got (h:Pc RB p RG AV V AB Bits AO cO Out AG cG Got w) {A':Option Addr}{c':Nat}{n:Int} (ho:Own w' RG 3 1 A' (Got.length+1) c' (Got.map (.int .i64)++[.int .i64 n])) (hk:Keep (InRow AG) w w') (hn:¬InRow A' p):Pc RB p RG AV V AB Bits AO cO Out A' c' (Got++[n]) w':=by
 obtain⟨h1,h2,h3,h4,h5,h6,h7⟩:=h
 refine⟨h1.keep hk (fun k h=>by have:=(h4.row h).1;omega),h2.keep hk (fun k h=>by have:=(h4.row h).1;omega),h3.keep hk (h3.ne_own h4 (by decide)),by simpa using ho,h5,⟨h6.1,hn⟩,Nat.le_trans h7 hk.size⟩
theorem out (h:Pc RB p RG AV V AB Bits AO cO Out AG cG Got w) {A':Option Addr}{c':Nat}{n wd:Int} (ho:Own w' RG 162 2 A' (Out.length+1) c' (bitCells Out++[.int .i64 n,.int .i64 wd])) (hk:Keep (InRow AO) w w') (hn:¬InRow A' p):Pc RB p RG AV V AB Bits A' c' (Out++[(n,wd)]) AG cG Got w':=by
 obtain⟨h1,h2,h3,h4,h5,h6,h7⟩:=h
 refine⟨h1.keep hk (fun k h=>by have:=(h3.row h).1;omega),h2.keep hk (fun k h=>by have:=(h3.row h).1;omega),by simpa[bitCells] using ho,h4.keep hk (h4.ne_own h3 (by decide)),h5,⟨hn,h6.2⟩,Nat.le_trans h7 hk.size⟩
theorem head {v0:Int} (h:Pc RB p RG AV (v0::V) AB Bits AO cO Out AG cG Got w):∃ad,AV=some ad∧w.cell? ad=some (.int .i64 v0):=by
 obtain⟨ad,x,h1,_,h2,h3⟩:=h.1.at1 (k:=0) (by simp)
 simp only[List.getElem?_cons_zero,Option.some.injEq] at h2
 subst h2
 exact⟨ad,h1,h3⟩
theorem headc {v0:Int}{ad:Addr} (h:Pc RB p RG (some ad) (v0::V) AB Bits AO cO Out AG cG Got w):w.cell? ad=some (.int .i64 v0):=by
 obtain⟨ad',e,h1⟩:=h.head
 injection e with e
 subst e
 exact h1
theorem inv {cV cB K:Nat}{R:Bool}{E P:Int} (h:Pc RB p RG AV V AB Bits AO cO Out AG cG Got w) (hb:Blk w p 172 #[.slice AV V.length cV,.bool R,.slice AB Bits.length cB,.slice AO Out.length cO,.slice AG Got.length cG,.int .i64 E,.int .i64 P])
    (h1:V.length≤cV) (h2:Bits.length≤cB) (h3:∀x∈V,i64 x) (h4:Bits.length≤1000000) (h5:V.length≤1000000) (h6:Out.length+(if R then Bits.length else V.length)≤K) (h7:K≤1000000) (h8:Got.length≤Out.length) :
    InvW RB p RG K ⟨V,R,Bits,Out,Got,E,P⟩ (fun q=>InRow AO q∨InRow AG q) w:=
  ⟨AV,cV,AB,cB,AO,cO,AG,cG,hb,h.1,h1,h.2.1,h2,h.2.2.1,h.2.2.2.1,fun _=>Iff.rfl,h3,h4,h5,h6,h7,h8,h.2.2.2.2.1,h.2.2.2.2.2.1,h.2.2.2.2.2.2⟩
theorem vals (h:Pc RB p RG AV V AB Bits AO cO Out AG cG Got w) {A':Option Addr}{l:List Int} (hr:Rd w RB 1 A' l.length (l.map (.int .i64))):Pc RB p RG A' l AB Bits AO cO Out AG cG Got w:=⟨hr,h.2⟩
theorem nrO (h:Pc RB p RG AV V AB Bits AO cO Out AG cG Got w):¬InRow AO p:=h.2.2.2.2.2.1.1
theorem nrG (h:Pc RB p RG AV V AB Bits AO cO Out AG cG Got w):¬InRow AG p:=h.2.2.2.2.2.1.2
end Pc
set_option maxHeartbeats 4000000 in
set_option maxRecDepth 100000 in
theorem one_err (RB p RG K:Nat) (st:RW) (v:Int) (Q:Nat→Prop) (w:World) (h:InvW RB p RG K st Q w) (hE:st.E≠0) (hK:K+1≤1000000) :
    Calls Tryz.prog 168 #[.pointer (some ⟨p,0,none⟩),.int .i64 v] w (OnePost RB p RG K st v Q w):=by
  have hr:oneR st v=(0,st):=by unfold oneR;rw[if_pos hE]
  have HF:Hid (∀w',w=w'→OnePost RB p RG K st v Q w (.returned (.int .i64 0)) w'):=by
   rintro _ rfl
   refine⟨by rw[hr],Keep.refl _ _,Q,by rw[hr];exact h.more (by omega) (by split <;> omega),fun _ h=>.inl h⟩
  obtain⟨AV,cV,AB,cB,AO,cO,AG,cG,h1,_⟩:=h
  have f0:w.cell? ⟨p,5,none⟩=some (.int .i64 st.E):=h1.cell 5
  have e0:(st.E==0)=false:=by simpa using hE
  have e1:(st.E != 0)=true:=by simpa using hE
  clear h1 hr hE
  go_enter Tryz.func168, Tryz.ntmps168
  go_wp2
  go_ret
  exact HF.out _ rfl
set_option maxHeartbeats 4000000 in
set_option maxRecDepth 100000 in
theorem one_read_bad (RB p RG K:Nat) (st:RW) (v:Int) (Q:Nat→Prop) (w:World) (h:InvW RB p RG K st Q w) (hE:st.E=0) (hR:st.Read=true) (hK:K+1≤1000000) (hbad:getE st.Bits.length (vrow v).width≠0) :
    Calls Tryz.prog 168 #[.pointer (some ⟨p,0,none⟩),.int .i64 v] w (OnePost RB p RG K st v Q w):=by
  have hoe:oneE st v=getE st.Bits.length (vrow v).width:=by unfold oneE;rw[if_pos hR]
  have hr:oneR st v=(0,{ st with E:=getE st.Bits.length (vrow v).width }):=by unfold oneR;rw[if_neg (by simpa using hE),if_pos (by rw[hoe];exact hbad),hoe]
  obtain⟨AV,cV,AB,cB,AO,cO,AG,cG,h1,h2,h3,h4,h5,h6,h7,h8,h9,g1,g2,g3,g4,g5,g6,g7,g8⟩:=h
  obtain⟨V,R,Bits,Out,Got,E,P⟩:=st
  simp only at *
  subst hE
  subst hR
  obtain⟨er,her⟩:∃x,getE Bits.length (vrow v).width=x:=⟨_,rfl⟩
  rw[her] at hr hbad
  obtain⟨wd,hwd⟩:∃x,(vrow v).width=x:=⟨_,rfl⟩
  have hW:Hid (∀W,Calls Tryz.prog 124 #[.int .i64 v] W fun e w'=>e=.returned (.int .i64 wd)∧Keep Never W w'):=by
   intro W;have:=rwidth_any v W;rwa [hwd] at this
  have hG:Hid (∀W,Keep Never w W→Calls Tryz.prog 203 #[.slice AB Bits.length cB,.int .i64 wd] W fun e w'=>∃A' n' c' x,e=.returned (.tuple #[.int .i64 x,.slice A' n' c',.int .i64 er])∧Keep Never W w'):=by
   intro W hk
   refine(rget_any AB Bits.length cB RB Bits rfl W (h4.keep hk (fun _ h=>h.elim)) g1 h5 wd).mono ?_
   rintro e w' ⟨A',n',c',rfl,_,_,_,hk',_⟩
   rw[←hwd,her]
   exact⟨A',n',c',_,rfl,hk'⟩
  have HB:=qh h1
  have e0:(er==0)=false:=by simpa using hbad
  have e1:(er != 0)=true:=by simpa using hbad
  have HF:Hid (∀W,Keep Never w W→OnePost RB p RG K ⟨V,true,Bits,Out,Got,0,P⟩ v Q w (.returned (.int .i64 0)) (W.setCell ⟨p,5,none⟩ (.int .i64 er))):=by
   intro W hk
   have hs:Keep (fun k=>k=p) W (W.setCell ⟨p,5,none⟩ (.int .i64 er)):=(Keep.refl (fun k=>k=p) W).set_ (p:=⟨p,5,none⟩) (.inl rfl) _
   refine⟨by rw[hr],(hk.mono (fun _ _ h=>h.elim)).trans (hs.mono (fun _ _ h=>.inl h)),Q,?_,fun _ h=>.inl h⟩
   rw[hr]
   refine⟨AV,cV,AB,cB,AO,cO,AG,cG,?_,(h2.keep hk (fun _ h=>h.elim)).keep hs (fun k h=>by have:=g6.1;omega),h3,(h4.keep hk (fun _ h=>h.elim)).keep hs (fun k h=>by have:=g6.1;omega),h5,(h6.keep hk (fun _ _ h=>h)).keep hs (fun k h e=>by subst e;exact g7.1 h),
     (h7.keep hk (fun _ _ h=>h)).keep hs (fun k h e=>by subst e;exact g7.2 h),h8,h9,g1,g2,by simp only at g3 ⊢;omega,by split <;> omega,g5,g6,g7,by have:=hk.size;have:=hs.size;omega⟩
   have:=(h1.keep hk (fun h=>h)).set_ 5 (.int .i64 er)
   simpa[walkCells] using this
  clear h2 h3 h4 h5 h6 h7 h8 h9 g1 g2 g3 g4 g5 g6 g7 g8 hr hoe her hbad hwd h1
  unfold walkCells at HB
  have f5:=HB.out.cell 5
  have f1:=HB.out.cell 1
  have f2:=HB.out.cell 2
  go_enter Tryz.func168, Tryz.ntmps168
  go_wp2_with fail
  refine(hW.out _).mono ?_
  rintro e w1 ⟨rfl,hk1⟩
  have HB1:=qkb HB hk1
  clear f1 f2 f5
  have f1:=HB1.out.cell 1
  have f2:=HB1.out.cell 2
  go_wp2_with fail
  refine(hG.out _ hk1).mono ?_
  rintro e w2 ⟨A',n',c',x,rfl,hk2⟩
  have HB2:=qkb HB1 hk2
  have HK2:=qh (hk1.trans hk2)
  clear f1 f2 hk1 hk2
  have y5:=HB2.out.cell 5
  have y5f:=HB2.out.frozen 5
  go_wp2_with fail
  go_ret
  exact HF.out _ HK2.out
set_option maxHeartbeats 4000000 in
set_option maxRecDepth 100000 in
theorem one_none (RB p RG K:Nat) (st:RW) (v:Int) (Q:Nat→Prop) (w:World) (h:InvW RB p RG K st Q w) (hE:st.E=0) (hR:st.Read=false) (hK:K+1≤1000000) (h7:v≠7) (hV:st.V=[]) :
    Calls Tryz.prog 168 #[.pointer (some ⟨p,0,none⟩),.int .i64 v] w (OnePost RB p RG K st v Q w):=by
  have hoe:oneE st v=20:=by unfold oneE;rw[if_neg (by simp[hR]),if_neg h7,if_pos hV]
  have hr:oneR st v=(0,{ st with E:=20 }):=by unfold oneR;rw[if_neg (by simpa using hE),if_pos (by rw[hoe];decide),hoe]
  obtain⟨AV,cV,AB,cB,AO,cO,AG,cG,h1,h2,h3,h4,h5,h6,h7',h8,h9,g1,g2,g3,g4,g5,g6,g7,g8⟩:=h
  obtain⟨V,R,Bits,Out,Got,E,P⟩:=st
  simp only at *
  subst hE
  subst hR
  subst hV
  have hW:Hid (∀W,Calls Tryz.prog 124 #[.int .i64 v] W fun e w'=>e=.returned (.int .i64 (vrow v).width)∧Keep Never W w'):=fun W=>rwidth_any v W
  have HB:=qh h1
  have e7:(v==7)=false:=by simpa using h7
  have e7':(v != 7)=true:=by simpa using h7
  have HP:Hid (Pc RB p RG AV [] AB Bits AO cO Out AG cG Got w):=⟨h2,h4,h6,h7',g6,g7,g8⟩
  have HF:Hid (∀W,Keep Never w W→OnePost RB p RG K ⟨[],false,Bits,Out,Got,0,P⟩ v Q w (.returned (.int .i64 0)) (W.setCell ⟨p,5,none⟩ (.int .i64 20))):=by
   intro W hk
   have hs:Keep (fun k=>k=p) W (W.setCell ⟨p,5,none⟩ (.int .i64 20)):=Keep.set_ (Keep.refl (fun k=>k=p) W) (p:=⟨p,5,none⟩) (.inl rfl) _
   refine⟨by rw[hr],(hk.mono (fun _ _ h=>h.elim)).trans (hs.mono (fun _ _ h=>.inl h)),_,?_,fun q h=>.inl ((h8 q).2 h)⟩
   rw[hr]
   exact Pc.inv ((HP.out.keep hk).keepp hs) ((h1.keep hk (fun h=>h)).set_ 5 (.int .i64 20)) h3 h5 h9 g1 g2 (by simp at g3 ⊢;omega) (by split <;> omega) g5
  clear h1 h2 h3 h4 h5 h6 h7' h8 h9 g1 g2 g3 g4 g5 g6 g7 g8 hr hoe h7
  unfold walkCells at HB
  have HB:Hid (Blk w p 172 #[.slice AV 0 cV,.bool false,.slice AB Bits.length cB,.slice AO Out.length cO,.slice AG Got.length cG,.int .i64 0,.int .i64 P]):=HB
  have f5:=HB.out.cell 5
  have f1:=HB.out.cell 1
  have f0:=HB.out.cell 0
  go_enter Tryz.func168, Tryz.ntmps168
  go_wp2_with fail
  refine(hW.out _).mono ?_
  rintro e w1 ⟨rfl,hk1⟩
  have HB1:=qkb HB hk1
  have HK1:=qh hk1
  clear f1 f0 f5 hk1
  have f0:=HB1.out.cell 0
  have f1:=HB1.out.cell 1
  have f5:=HB1.out.cell 5
  have f5f:=HB1.out.frozen 5
  go_wp2_with fail
  go_ret
  exact HF.out _ HK1.out
set_option maxHeartbeats 4000000 in
set_option maxRecDepth 100000 in
theorem one_Rf (RB p RG K:Nat) (st:RW) (v:Int) (Q:Nat→Prop) (w:World) (h:InvW RB p RG K st Q w) (hE:st.E=0) (hK:K+1≤1000000) (hR:st.Read=true) (hgood:getE st.Bits.length (vrow v).width=0) (hm:rMay v (oneN st v)=false) :
    Calls Tryz.prog 168 #[.pointer (some ⟨p,0,none⟩),.int .i64 v] w (OnePost RB p RG K st v Q w):=by
  have hoe:oneE st v=0:=by unfold oneE;rw[if_pos hR];exact hgood
  obtain⟨AV,cV,AB,cB,AO,cO,AG,cG,h1,h2,h3,h4,h5,h6,h7',h8,h9,g1,g2,g3,g4,g5,g6,g7,g8⟩:=h
  obtain⟨V,R,Bits,Out,Got,E,P⟩:=st
  simp only at *
  subst hE
  subst hR
  obtain⟨n,hn⟩:∃x,oneN ⟨V,true,Bits,Out,Got,0,P⟩ v=x:=⟨_,rfl⟩
  obtain⟨wd,hwd⟩:∃x,(vrow v).width=x:=⟨_,rfl⟩
  rw[hn] at hm
  have hn1:getN Bits wd=n:=by rw[←hn,←hwd];rfl
  have hr:oneR ⟨V,true,Bits,Out,Got,0,P⟩ v=(0,⟨V,true,getL Bits wd,Out,Got,20,P⟩):=by
   unfold oneR
   rw[if_neg (by simp),if_neg (by rw[hoe];simp),hn,hwd]
   rw[if_pos hm]
   rw[←hwd];rfl
  have hW:Hid (∀W,Calls Tryz.prog 124 #[.int .i64 v] W fun e w'=>e=.returned (.int .i64 wd)∧Keep Never W w'):=by
   intro W;have:=rwidth_any v W;rwa [hwd] at this
  have hM:Hid (∀W,Calls Tryz.prog 204 #[.int .i64 v,.int .i64 n] W fun e w'=>e=.returned (.bool false)∧Keep Never W w'):=by
   intro W;have:=rmay_any v n W;rwa [hm] at this
  have hG:Hid (∀W,Keep Never w W→Calls Tryz.prog 203 #[.slice AB Bits.length cB,.int .i64 wd] W fun e w'=>∃A' c',e=.returned (.tuple #[.int .i64 n,.slice A' (getL Bits wd).length c',.int .i64 0])∧(getL Bits wd).length≤c'∧Rd w' RB 1 A' (getL Bits wd).length ((getL Bits wd).map .bool)∧Keep Never W w'):=by
   intro W hk
   refine(rget_any AB Bits.length cB RB Bits rfl W (h4.keep hk (fun _ h=>h.elim)) g1 h5 wd).mono ?_
   rintro e w' ⟨A',n',c',rfl,rfl,hnc,hrd,hk',_⟩
   rw[hwd] at hgood
   rw[hn1,hgood]
   exact⟨A',c',rfl,hnc,hrd,hk'⟩
  have hlen:(getL Bits wd).length+1≤Bits.length:=by
   have hz:=getE_zero hgood
   rw[hwd] at hz
   rw[getL_eq (by rw[←hwd];exact hgood),List.length_drop];omega
  have HL:=qh hlen
  have hG3:Out.length+1+(getL Bits wd).length≤K:=by have g3:Out.length+Bits.length≤K:=g3;omega
  have HG3:=qh hG3
  have hO1:Out.length≤1000000:=by omega
  have hG1:Got.length≤1000000:=by omega
  have HB:=qh h1
  have HP:Hid (Pc RB p RG AV V AB Bits AO cO Out AG cG Got w):=⟨h2,h4,h6,h7',g6,g7,g8⟩
  have Hr:=qh hr
  have HQ:=qh h8
  have Hc:=qh (And.intro h3 h5)
  have H9:=qh h9
  have Hg:=qh (And.intro g1 (And.intro g2 (And.intro hK (And.intro g5 (And.intro g6 (And.intro g7 g8))))))
  clear h1 h2 h3 h4 h5 h6 h7' h8 h9 g1 g2 g3 g4 g5 g6 g7 g8 hr hoe hwd hn hm hK hG3 hlen hgood hn1
  unfold walkCells at HB
  have f0:=HB.out.cell 0
  have f1:=HB.out.cell 1
  have f2:=HB.out.cell 2
  have f5:=HB.out.cell 5
  go_enter Tryz.func168, Tryz.ntmps168
  go_wp2_with fail
  refine(hW.out _).mono ?_
  rintro e w1 ⟨rfl,hk1⟩
  have HB1:=qkb HB hk1
  have HP1:=qh (HP.out.keep hk1)
  have HK1:=qh (Keep.mono (S':=fun k=>k=p) hk1 (fun _ _ h=>h.elim))
  clear f0 f1 f2 f5
  have f1:=HB1.out.cell 1
  have f2:=HB1.out.cell 2
  have z2:=HB1.out.frozen 2
  have z0:=HB1.out.frozen 0
  go_wp2_with fail
  refine(hG.out _ hk1).mono ?_
  rintro e w2 ⟨A',c',rfl,hnc,hrd,hk2⟩
  have HB2:=qkb HB1 hk2
  have HP2:=qh ((HP1.out.keep hk2).bits hrd)
  have HK2:=qh (HK1.out.trans (Keep.mono (S':=fun k=>k=p) hk2 (fun _ _ h=>h.elim)))
  have Hnc:=qh hnc
  clear f1 f2 z2 z0 hk1 hk2 hrd hnc HB1 HP1 HK1
  have y2:=HB2.out.cell 2
  have y3:=HB2.out.frozen 2
  go_wp2_with fail
  refine(hM.out _).mono ?_
  rintro e w3 ⟨rfl,hk3⟩
  have HB3:Hid (Blk w3 p 172 #[.slice AV V.length cV,.bool true,.slice A' (getL Bits wd).length c',.slice AO Out.length cO,.slice AG Got.length cG,.int .i64 0,.int .i64 P]):=Blk.keep (HB2.out.set_ 2 (.slice A' (getL Bits wd).length c')) hk3 (fun h=>h)
  have HP3:=qh (Pc.keep (HP2.out.keepp (Keep.set_ (Keep.refl (fun k=>k=p) w2) (p:=⟨p,2,none⟩) (.inl rfl) (.slice A' (getL Bits wd).length c'))) hk3)
  have HK3:=qh (Keep.trans (HK2.out.trans (Keep.set_ (Keep.refl (fun k=>k=p) w2) (p:=⟨p,2,none⟩) (.inl rfl) (.slice A' (getL Bits wd).length c'))) (Keep.mono (S':=fun k=>k=p) hk3 (fun _ _ h=>h.elim)))
  clear hk3 y2 y3 HB2 HP2 HK2
  have x5:=HB3.out.cell 5
  have x5f:=HB3.out.frozen 5
  go_wp2_with fail
  go_ret
  have hs:=Keep.set_ (Keep.refl (fun k=>k=p) w3) (p:=⟨p,5,none⟩) (.inl rfl) (.int .i64 20)
  refine⟨by rw[Hr.out];rfl,(HK3.out.trans hs).mono (fun _ _ h=>.inl h),_,?_,fun q h=>.inl ((HQ.out q).2 h)⟩
  rw[Hr.out]
  exact Pc.inv (HP3.out.keepp hs) (HB3.out.set_ 5 (.int .i64 20)) Hc.out.1 Hnc.out H9.out (by have:=Hg.out;have:=HL.out;omega) Hg.out.2.1 (by have:=HG3.out;simp;try omega) (by have:=Hg.out.2.2.1;split <;> omega) Hg.out.2.2.2.1
set_option maxHeartbeats 4000000 in
set_option maxRecDepth 100000 in
theorem one_R7 (RB p RG K:Nat) (st:RW) (v:Int) (Q:Nat→Prop) (w:World) (h:InvW RB p RG K st Q w) (hE:st.E=0) (hK:K+1≤1000000) (hR:st.Read=true) (hgood:getE st.Bits.length (vrow v).width=0) (hm:rMay v (oneN st v)=true) (h7:v=7) :
    Calls Tryz.prog 168 #[.pointer (some ⟨p,0,none⟩),.int .i64 v] w (OnePost RB p RG K st v Q w):=by
  have hoe:oneE st v=0:=by unfold oneE;rw[if_pos hR];exact hgood
  obtain⟨AV,cV,AB,cB,AO,cO,AG,cG,h1,h2,h3,h4,h5,h6,h7',h8,h9,g1,g2,g3,g4,g5,g6,g7,g8⟩:=h
  obtain⟨V,R,Bits,Out,Got,E,P⟩:=st
  simp only at *
  subst hE
  subst hR
  obtain⟨n,hn⟩:∃x,oneN ⟨V,true,Bits,Out,Got,0,P⟩ v=x:=⟨_,rfl⟩
  obtain⟨wd,hwd⟩:∃x,(vrow v).width=x:=⟨_,rfl⟩
  rw[hn] at hm
  have hn1:getN Bits wd=n:=by rw[←hn,←hwd];rfl
  have hr:oneR ⟨V,true,Bits,Out,Got,0,P⟩ v=(n,⟨V,true,getL Bits wd,Out++[(n,wd)],Got,0,Out.length⟩):=by
   unfold oneR
   rw[if_neg (by simp),if_neg (by rw[hoe];simp),hn,hwd]
   rw[if_neg (by rw[hm];simp),if_pos (.inl h7),if_pos h7]
   rw[←hwd];rfl
  have hW:Hid (∀W,Calls Tryz.prog 124 #[.int .i64 v] W fun e w'=>e=.returned (.int .i64 wd)∧Keep Never W w'):=by
   intro W;have:=rwidth_any v W;rwa [hwd] at this
  have hM:Hid (∀W,Calls Tryz.prog 204 #[.int .i64 v,.int .i64 n] W fun e w'=>e=.returned (.bool true)∧Keep Never W w'):=by
   intro W;have:=rmay_any v n W;rwa [hm] at this
  have hG:Hid (∀W,Keep Never w W→Calls Tryz.prog 203 #[.slice AB Bits.length cB,.int .i64 wd] W fun e w'=>∃A' c',e=.returned (.tuple #[.int .i64 n,.slice A' (getL Bits wd).length c',.int .i64 0])∧(getL Bits wd).length≤c'∧Rd w' RB 1 A' (getL Bits wd).length ((getL Bits wd).map .bool)∧Keep Never W w'):=by
   intro W hk
   refine(rget_any AB Bits.length cB RB Bits rfl W (h4.keep hk (fun _ h=>h.elim)) g1 h5 wd).mono ?_
   rintro e w' ⟨A',n',c',rfl,rfl,hnc,hrd,hk',_⟩
   rw[hwd] at hgood
   rw[hn1,hgood]
   exact⟨A',c',rfl,hnc,hrd,hk'⟩
  have hlen:(getL Bits wd).length+1≤Bits.length:=by
   have hz:=getE_zero hgood
   rw[hwd] at hz
   rw[getL_eq (by rw[←hwd];exact hgood),List.length_drop];omega
  have HL:=qh hlen
  have hG3:Out.length+1+(getL Bits wd).length≤K:=by have g3:Out.length+Bits.length≤K:=g3;omega
  have HG3:=qh hG3
  have hO1:Out.length≤1000000:=by omega
  have hG1:Got.length≤1000000:=by omega
  have HB:=qh h1
  have HP:Hid (Pc RB p RG AV V AB Bits AO cO Out AG cG Got w):=⟨h2,h4,h6,h7',g6,g7,g8⟩
  have Hr:=qh hr
  have HQ:=qh h8
  have Hc:=qh (And.intro h3 h5)
  have H9:=qh h9
  have Hg:=qh (And.intro g1 (And.intro g2 (And.intro hK (And.intro g5 (And.intro g6 (And.intro g7 g8))))))
  clear h1 h2 h3 h4 h5 h6 h7' h8 h9 g1 g2 g3 g4 g5 g6 g7 g8 hr hoe hwd hn hm hK hG3 hlen hgood hn1
  unfold walkCells at HB
  subst h7
  have f0:=HB.out.cell 0
  have f1:=HB.out.cell 1
  have f2:=HB.out.cell 2
  have f5:=HB.out.cell 5
  go_enter Tryz.func168, Tryz.ntmps168
  go_wp2_with fail
  refine(hW.out _).mono ?_
  rintro e w1 ⟨rfl,hk1⟩
  have HB1:=qkb HB hk1
  have HP1:=qh (HP.out.keep hk1)
  have HK1:=qh (Keep.mono (S':=fun k=>k=p) hk1 (fun _ _ h=>h.elim))
  clear f0 f1 f2 f5
  have f1:=HB1.out.cell 1
  have f2:=HB1.out.cell 2
  have z2:=HB1.out.frozen 2
  have z0:=HB1.out.frozen 0
  go_wp2_with fail
  refine(hG.out _ hk1).mono ?_
  rintro e w2 ⟨A',c',rfl,hnc,hrd,hk2⟩
  have HB2:=qkb HB1 hk2
  have HP2:=qh ((HP1.out.keep hk2).bits hrd)
  have HK2:=qh (HK1.out.trans (Keep.mono (S':=fun k=>k=p) hk2 (fun _ _ h=>h.elim)))
  have Hnc:=qh hnc
  clear f1 f2 z2 z0 hk1 hk2 hrd hnc HB1 HP1 HK1
  have y2:=HB2.out.cell 2
  have y3:=HB2.out.frozen 2
  go_wp2_with fail
  refine(hM.out _).mono ?_
  rintro e w3 ⟨rfl,hk3⟩
  have HB3:Hid (Blk w3 p 172 #[.slice AV V.length cV,.bool true,.slice A' (getL Bits wd).length c',.slice AO Out.length cO,.slice AG Got.length cG,.int .i64 0,.int .i64 P]):=Blk.keep (HB2.out.set_ 2 (.slice A' (getL Bits wd).length c')) hk3 (fun h=>h)
  have HP3:=qh (Pc.keep (HP2.out.keepp (Keep.set_ (Keep.refl (fun k=>k=p) w2) (p:=⟨p,2,none⟩) (.inl rfl) (.slice A' (getL Bits wd).length c'))) hk3)
  have HK3:=qh (Keep.trans (HK2.out.trans (Keep.set_ (Keep.refl (fun k=>k=p) w2) (p:=⟨p,2,none⟩) (.inl rfl) (.slice A' (getL Bits wd).length c'))) (Keep.mono (S':=fun k=>k=p) hk3 (fun _ _ h=>h.elim)))
  clear hk3 y2 y3 HB2 HP2 HK2
  have x3:=HB3.out.cell 3
  have x6:=HB3.out.cell 6
  have x6f:=HB3.out.frozen 6
  have hs:=Keep.set_ (Keep.refl (fun k=>k=p) w3) (p:=⟨p,6,none⟩) (.inl rfl) (.int .i64 (Out.length:Int))
  have HB4:Hid (Blk (w3.setCell ⟨p,6,none⟩ (.int .i64 (Out.length:Int))) p 172 #[.slice AV V.length cV,.bool true,.slice A' (getL Bits wd).length c',.slice AO Out.length cO,.slice AG Got.length cG,.int .i64 0,.int .i64 Out.length]):=HB3.out.set_ 6 (.int .i64 (Out.length:Int))
  have HP4:=qh (HP3.out.keepp hs)
  have HK4:=qtr HK3 hs
  clear hs
  have hRG:RG≤w3.heap.size:=HP3.out.2.2.2.2.2.2
  have HK4':Hid (Keep (fun k=>k=p∨Q k) w (w3.setCell ⟨p,6,none⟩ (.int .i64 (Out.length:Int)))):=qh (HK4.out.mono (fun _ _ h=>.inl h))
  have HR4:Hid (∀q,InRow AG q→Q q∨w.heap.size≤q):=fun q h=>.inl ((HQ.out q).2 (.inr h))
  go_wp2_with (first
    | (at_builtin;refine wpList_app _ rfl (.tmp 102) (.tmp 106) _ rfl elemBits RG rfl (HP4.out.2.2.1.alloc _) _ rfl (by have h9:=Rd.of_blk (size:=2) (n:=1) (cs:=[.int .i64 n,.int .i64 wd]) (Blk.new (w3.setCell ⟨p,6,none⟩ (.int .i64 (Out.length:Int))) 162 _) rfl;simpa using h9) (by simp[Value.oneCell']) (by omega) (by unfold maxLen;omega) (by simp;(try omega)) ?_;intro A7 c7 w7 hown hk hrow;have hb:=Blk.keep (HB4.out.alloc _) hk HP4.out.nrO;have d3:=hb.cell 3;have d3f:=hb.frozen 3;have hp7:=Pc.out (Pc.keep HP4.out ((Keep.refl _ _).alloc _)) hown hk (fun h=>hown.ne_blk hb (by decide) p h rfl);have HP7:=qh hp7;have HB7:=qh hb;have HK7:Hid (Keep (fun k=>k=p∨Q k) w w7):=qh ((HK4'.out.trans (Keep.mono ((Keep.refl Never _).alloc _) (fun _ _ h=>h.elim))).trans (hk.mono (fun q _ h=>.inr ((HQ.out q).2 (.inl h)))));have HR7:Hid (∀q,InRow A7 q→Q q∨w.heap.size≤q):=(fun q h=>by rcases hrow q h with h | h;exact .inl ((HQ.out q).2 (.inl h));exact .inr (by have:=HK4'.out.size;simp at h;(try simp[World.setCell] at this);(try omega)));clear hb hp7 hown hk hrow))
  go_ret
  have hs:=Keep.set_ (Keep.refl (fun k=>k=p) w7) (p:=⟨p,3,none⟩) (.inl rfl) (.slice A7 (Out.length+1) c7)
  refine⟨by rw[Hr.out];rfl,HK7.out.trans (hs.mono (fun _ _ h=>.inl h)),(fun q=>InRow A7 q∨InRow AG q),?_,fun q h=>?_⟩
  rotate_left
  ·rcases h with h | h
   ·exact HR7.out q h
   ·exact HR4.out q h
  rw[Hr.out]
  have hb7:=HB7.out.set_ 3 (.slice A7 (Out.length+1) c7)
  refine Pc.inv (HP7.out.keepp hs) (by simpa using hb7) Hc.out.1 Hnc.out H9.out (by have:=Hg.out;have:=HL.out;omega) Hg.out.2.1 (by have:=HG3.out;simp;omega) (by have:=Hg.out.2.2.1;split <;> omega) (by have:=Hg.out.2.2.2.1;simp;try omega)
set_option maxHeartbeats 4000000 in
set_option maxRecDepth 100000 in
theorem one_R5 (RB p RG K:Nat) (st:RW) (v:Int) (Q:Nat→Prop) (w:World) (h:InvW RB p RG K st Q w) (hE:st.E=0) (hK:K+1≤1000000) (hR:st.Read=true) (hgood:getE st.Bits.length (vrow v).width=0) (hm:rMay v (oneN st v)=true) (h5:v=5) :
    Calls Tryz.prog 168 #[.pointer (some ⟨p,0,none⟩),.int .i64 v] w (OnePost RB p RG K st v Q w):=by
  have hoe:oneE st v=0:=by unfold oneE;rw[if_pos hR];exact hgood
  obtain⟨AV,cV,AB,cB,AO,cO,AG,cG,h1,h2,h3,h4,h5',h6,h7',h8,h9,g1,g2,g3,g4,g5,g6,g7,g8⟩:=h
  obtain⟨V,R,Bits,Out,Got,E,P⟩:=st
  simp only at *
  subst hE
  subst hR
  obtain⟨n,hn⟩:∃x,oneN ⟨V,true,Bits,Out,Got,0,P⟩ v=x:=⟨_,rfl⟩
  obtain⟨wd,hwd⟩:∃x,(vrow v).width=x:=⟨_,rfl⟩
  rw[hn] at hm
  have hn1:getN Bits wd=n:=by rw[←hn,←hwd];rfl
  have hr:oneR ⟨V,true,Bits,Out,Got,0,P⟩ v=(n,⟨V,true,getL Bits wd,Out++[(n,wd)],Got,0,P⟩):=by
   unfold oneR
   rw[if_neg (by simp),if_neg (by rw[hoe];simp),hn,hwd]
   rw[if_neg (by rw[hm];simp),if_pos (.inr h5),if_neg (by rw[h5];decide)]
   rw[←hwd];rfl
  have hW:Hid (∀W,Calls Tryz.prog 124 #[.int .i64 v] W fun e w'=>e=.returned (.int .i64 wd)∧Keep Never W w'):=by
   intro W;have:=rwidth_any v W;rwa [hwd] at this
  have hM:Hid (∀W,Calls Tryz.prog 204 #[.int .i64 v,.int .i64 n] W fun e w'=>e=.returned (.bool true)∧Keep Never W w'):=by
   intro W;have:=rmay_any v n W;rwa [hm] at this
  have hG:Hid (∀W,Keep Never w W→Calls Tryz.prog 203 #[.slice AB Bits.length cB,.int .i64 wd] W fun e w'=>∃A' c',e=.returned (.tuple #[.int .i64 n,.slice A' (getL Bits wd).length c',.int .i64 0])∧(getL Bits wd).length≤c'∧Rd w' RB 1 A' (getL Bits wd).length ((getL Bits wd).map .bool)∧Keep Never W w'):=by
   intro W hk
   refine(rget_any AB Bits.length cB RB Bits rfl W (h4.keep hk (fun _ h=>h.elim)) g1 h5' wd).mono ?_
   rintro e w' ⟨A',n',c',rfl,rfl,hnc,hrd,hk',_⟩
   rw[hwd] at hgood
   rw[hn1,hgood]
   exact⟨A',c',rfl,hnc,hrd,hk'⟩
  have hlen:(getL Bits wd).length+1≤Bits.length:=by
   have hz:=getE_zero hgood
   rw[hwd] at hz
   rw[getL_eq (by rw[←hwd];exact hgood),List.length_drop];omega
  have HL:=qh hlen
  have hG3:Out.length+1+(getL Bits wd).length≤K:=by have g3:Out.length+Bits.length≤K:=g3;omega
  have HG3:=qh hG3
  have hO1:Out.length≤1000000:=by omega
  have hG1:Got.length≤1000000:=by omega
  have HB:=qh h1
  have HP:Hid (Pc RB p RG AV V AB Bits AO cO Out AG cG Got w):=⟨h2,h4,h6,h7',g6,g7,g8⟩
  have Hr:=qh hr
  have HQ:=qh h8
  have Hc:=qh (And.intro h3 h5')
  have H9:=qh h9
  have Hg:=qh (And.intro g1 (And.intro g2 (And.intro hK (And.intro g5 (And.intro g6 (And.intro g7 g8))))))
  clear h1 h2 h3 h4 h5' h6 h7' h8 h9 g1 g2 g3 g4 g5 g6 g7 g8 hr hoe hwd hn hm hK hG3 hlen hgood hn1
  unfold walkCells at HB
  subst h5
  have f0:=HB.out.cell 0
  have f1:=HB.out.cell 1
  have f2:=HB.out.cell 2
  have f5:=HB.out.cell 5
  go_enter Tryz.func168, Tryz.ntmps168
  go_wp2_with fail
  refine(hW.out _).mono ?_
  rintro e w1 ⟨rfl,hk1⟩
  have HB1:=qkb HB hk1
  have HP1:=qh (HP.out.keep hk1)
  have HK1:=qh (Keep.mono (S':=fun k=>k=p) hk1 (fun _ _ h=>h.elim))
  clear f0 f1 f2 f5
  have f1:=HB1.out.cell 1
  have f2:=HB1.out.cell 2
  have z2:=HB1.out.frozen 2
  have z0:=HB1.out.frozen 0
  go_wp2_with fail
  refine(hG.out _ hk1).mono ?_
  rintro e w2 ⟨A',c',rfl,hnc,hrd,hk2⟩
  have HB2:=qkb HB1 hk2
  have HP2:=qh ((HP1.out.keep hk2).bits hrd)
  have HK2:=qh (HK1.out.trans (Keep.mono (S':=fun k=>k=p) hk2 (fun _ _ h=>h.elim)))
  have Hnc:=qh hnc
  clear f1 f2 z2 z0 hk1 hk2 hrd hnc HB1 HP1 HK1
  have y2:=HB2.out.cell 2
  have y3:=HB2.out.frozen 2
  go_wp2_with fail
  refine(hM.out _).mono ?_
  rintro e w3 ⟨rfl,hk3⟩
  have HB3:Hid (Blk w3 p 172 #[.slice AV V.length cV,.bool true,.slice A' (getL Bits wd).length c',.slice AO Out.length cO,.slice AG Got.length cG,.int .i64 0,.int .i64 P]):=Blk.keep (HB2.out.set_ 2 (.slice A' (getL Bits wd).length c')) hk3 (fun h=>h)
  have HP3:=qh (Pc.keep (HP2.out.keepp (Keep.set_ (Keep.refl (fun k=>k=p) w2) (p:=⟨p,2,none⟩) (.inl rfl) (.slice A' (getL Bits wd).length c'))) hk3)
  have HK3:=qh (Keep.trans (HK2.out.trans (Keep.set_ (Keep.refl (fun k=>k=p) w2) (p:=⟨p,2,none⟩) (.inl rfl) (.slice A' (getL Bits wd).length c'))) (Keep.mono (S':=fun k=>k=p) hk3 (fun _ _ h=>h.elim)))
  clear hk3 y2 y3 HB2 HP2 HK2
  have x3:=HB3.out.cell 3
  have x4:=HB3.out.cell 4
  have hRG:RG≤w3.heap.size:=HP3.out.2.2.2.2.2.2
  have HK3':Hid (Keep (fun k=>k=p∨Q k) w w3):=qh (HK3.out.mono (fun _ _ h=>.inl h))
  have HR3:Hid (∀q,InRow AG q→Q q∨w.heap.size≤q):=fun q h=>.inl ((HQ.out q).2 (.inr h))
  go_wp2_with (first
    | (at_builtin;refine wpList_app _ rfl (.tmp 102) (.tmp 106) _ rfl elemBits RG rfl (HP3.out.2.2.1.alloc _) _ rfl (by have h9:=Rd.of_blk (size:=2) (n:=1) (cs:=[.int .i64 n,.int .i64 wd]) (Blk.new w3 162 _) rfl;simpa using h9) (by simp[Value.oneCell']) (by omega) (by unfold maxLen;omega) (by simp;(try omega)) ?_;intro A7 c7 w7 hown hk hrow;have hb:=Blk.keep (HB3.out.alloc _) hk HP3.out.nrO;have d3:=hb.cell 3;have d3f:=hb.frozen 3;have hp7:=Pc.out (Pc.keep HP3.out ((Keep.refl _ _).alloc _)) hown hk (fun h=>hown.ne_blk hb (by decide) p h rfl);have HP7:=qh hp7;have HB7:=qh hb;have HK7:Hid (Keep (fun k=>k=p∨Q k) w w7):=qh ((HK3'.out.trans (Keep.mono ((Keep.refl Never _).alloc _) (fun _ _ h=>h.elim))).trans (hk.mono (fun q _ h=>.inr ((HQ.out q).2 (.inl h)))));have HR7:Hid (∀q,InRow A7 q→Q q∨w.heap.size≤q):=(fun q h=>by rcases hrow q h with h | h;exact .inl ((HQ.out q).2 (.inl h));exact .inr (by have:=HK3'.out.size;simp at h;(try simp[World.setCell] at this);(try omega)));clear hb hp7 hown hk hrow))
  go_ret
  have hs:=Keep.set_ (Keep.refl (fun k=>k=p) w7) (p:=⟨p,3,none⟩) (.inl rfl) (.slice A7 (Out.length+1) c7)
  refine⟨by rw[Hr.out];rfl,HK7.out.trans (hs.mono (fun _ _ h=>.inl h)),(fun q=>InRow A7 q∨InRow AG q),?_,fun q h=>?_⟩
  rotate_left
  ·rcases h with h | h
   ·exact HR7.out q h
   ·exact HR3.out q h
  rw[Hr.out]
  have hb7:=HB7.out.set_ 3 (.slice A7 (Out.length+1) c7)
  refine Pc.inv (HP7.out.keepp hs) (by simpa using hb7) Hc.out.1 Hnc.out H9.out (by have:=Hg.out;have:=HL.out;omega) Hg.out.2.1 (by have:=HG3.out;simp;try omega) (by have:=Hg.out.2.2.1;split <;> omega) (by have:=Hg.out.2.2.2.1;simp;try omega)
set_option maxHeartbeats 4000000 in
set_option maxRecDepth 100000 in
theorem one_Rg (RB p RG K:Nat) (st:RW) (v:Int) (Q:Nat→Prop) (w:World) (h:InvW RB p RG K st Q w) (hE:st.E=0) (hK:K+1≤1000000) (hR:st.Read=true) (hgood:getE st.Bits.length (vrow v).width=0) (hm:rMay v (oneN st v)=true) (h7:v≠7) (h5:v≠5) :
    Calls Tryz.prog 168 #[.pointer (some ⟨p,0,none⟩),.int .i64 v] w (OnePost RB p RG K st v Q w):=by
  have hoe:oneE st v=0:=by unfold oneE;rw[if_pos hR];exact hgood
  obtain⟨AV,cV,AB,cB,AO,cO,AG,cG,h1,h2,h3,h4,h5',h6,h7',h8,h9,g1,g2,g3,g4,g5,g6,g7,g8⟩:=h
  obtain⟨V,R,Bits,Out,Got,E,P⟩:=st
  simp only at *
  subst hE
  subst hR
  obtain⟨n,hn⟩:∃x,oneN ⟨V,true,Bits,Out,Got,0,P⟩ v=x:=⟨_,rfl⟩
  obtain⟨wd,hwd⟩:∃x,(vrow v).width=x:=⟨_,rfl⟩
  rw[hn] at hm
  have hn1:getN Bits wd=n:=by rw[←hn,←hwd];rfl
  have hr:oneR ⟨V,true,Bits,Out,Got,0,P⟩ v=(n,⟨V,true,getL Bits wd,Out++[(n,wd)],Got++[n],0,P⟩):=by
   unfold oneR
   rw[if_neg (by simp),if_neg (by rw[hoe];simp),hn,hwd]
   rw[if_neg (by rw[hm];simp),if_neg (by rintro(h | h);exact h7 h;exact h5 h),if_neg h7]
   rw[←hwd];rfl
  have hW:Hid (∀W,Calls Tryz.prog 124 #[.int .i64 v] W fun e w'=>e=.returned (.int .i64 wd)∧Keep Never W w'):=by
   intro W;have:=rwidth_any v W;rwa [hwd] at this
  have hM:Hid (∀W,Calls Tryz.prog 204 #[.int .i64 v,.int .i64 n] W fun e w'=>e=.returned (.bool true)∧Keep Never W w'):=by
   intro W;have:=rmay_any v n W;rwa [hm] at this
  have hG:Hid (∀W,Keep Never w W→Calls Tryz.prog 203 #[.slice AB Bits.length cB,.int .i64 wd] W fun e w'=>∃A' c',e=.returned (.tuple #[.int .i64 n,.slice A' (getL Bits wd).length c',.int .i64 0])∧(getL Bits wd).length≤c'∧Rd w' RB 1 A' (getL Bits wd).length ((getL Bits wd).map .bool)∧Keep Never W w'):=by
   intro W hk
   refine(rget_any AB Bits.length cB RB Bits rfl W (h4.keep hk (fun _ h=>h.elim)) g1 h5' wd).mono ?_
   rintro e w' ⟨A',n',c',rfl,rfl,hnc,hrd,hk',_⟩
   rw[hwd] at hgood
   rw[hn1,hgood]
   exact⟨A',c',rfl,hnc,hrd,hk'⟩
  have hlen:(getL Bits wd).length+1≤Bits.length:=by
   have hz:=getE_zero hgood
   rw[hwd] at hz
   rw[getL_eq (by rw[←hwd];exact hgood),List.length_drop];omega
  have HL:=qh hlen
  have hG3:Out.length+1+(getL Bits wd).length≤K:=by have g3:Out.length+Bits.length≤K:=g3;omega
  have HG3:=qh hG3
  have hO1:Out.length≤1000000:=by omega
  have hG1:Got.length≤1000000:=by omega
  have HB:=qh h1
  have HP:Hid (Pc RB p RG AV V AB Bits AO cO Out AG cG Got w):=⟨h2,h4,h6,h7',g6,g7,g8⟩
  have Hr:=qh hr
  have HQ:=qh h8
  have Hc:=qh (And.intro h3 h5')
  have H9:=qh h9
  have Hg:=qh (And.intro g1 (And.intro g2 (And.intro hK (And.intro g5 (And.intro g6 (And.intro g7 g8))))))
  clear h1 h2 h3 h4 h5' h6 h7' h8 h9 g1 g2 g3 g4 g5 g6 g7 g8 hr hoe hwd hn hm hK hG3 hlen hgood hn1
  unfold walkCells at HB
  have e7:(v==7)=false:=by simpa using h7
  have e5:(v==5)=false:=by simpa using h5
  have e5':(v != 5)=true:=by simpa using h5
  have H7:=qh h7
  clear h5 h7
  have f0:=HB.out.cell 0
  have f1:=HB.out.cell 1
  have f2:=HB.out.cell 2
  have f5:=HB.out.cell 5
  go_enter Tryz.func168, Tryz.ntmps168
  go_wp2_with fail
  refine(hW.out _).mono ?_
  rintro e w1 ⟨rfl,hk1⟩
  have HB1:=qkb HB hk1
  have HP1:=qh (HP.out.keep hk1)
  have HK1:=qh (Keep.mono (S':=fun k=>k=p) hk1 (fun _ _ h=>h.elim))
  clear f0 f1 f2 f5
  have f1:=HB1.out.cell 1
  have f2:=HB1.out.cell 2
  have z2:=HB1.out.frozen 2
  have z0:=HB1.out.frozen 0
  go_wp2_with fail
  refine(hG.out _ hk1).mono ?_
  rintro e w2 ⟨A',c',rfl,hnc,hrd,hk2⟩
  have HB2:=qkb HB1 hk2
  have HP2:=qh ((HP1.out.keep hk2).bits hrd)
  have HK2:=qh (HK1.out.trans (Keep.mono (S':=fun k=>k=p) hk2 (fun _ _ h=>h.elim)))
  have Hnc:=qh hnc
  clear f1 f2 z2 z0 hk1 hk2 hrd hnc HB1 HP1 HK1
  have y2:=HB2.out.cell 2
  have y3:=HB2.out.frozen 2
  go_wp2_with fail
  refine(hM.out _).mono ?_
  rintro e w3 ⟨rfl,hk3⟩
  have HB3:Hid (Blk w3 p 172 #[.slice AV V.length cV,.bool true,.slice A' (getL Bits wd).length c',.slice AO Out.length cO,.slice AG Got.length cG,.int .i64 0,.int .i64 P]):=Blk.keep (HB2.out.set_ 2 (.slice A' (getL Bits wd).length c')) hk3 (fun h=>h)
  have HP3:=qh (Pc.keep (HP2.out.keepp (Keep.set_ (Keep.refl (fun k=>k=p) w2) (p:=⟨p,2,none⟩) (.inl rfl) (.slice A' (getL Bits wd).length c'))) hk3)
  have HK3:=qh (Keep.trans (HK2.out.trans (Keep.set_ (Keep.refl (fun k=>k=p) w2) (p:=⟨p,2,none⟩) (.inl rfl) (.slice A' (getL Bits wd).length c'))) (Keep.mono (S':=fun k=>k=p) hk3 (fun _ _ h=>h.elim)))
  clear hk3 y2 y3 HB2 HP2 HK2
  have x3:=HB3.out.cell 3
  have x4:=HB3.out.cell 4
  have hRG:RG≤w3.heap.size:=HP3.out.2.2.2.2.2.2
  go_wp2_with (first
    | (at_builtin;refine wpList_app _ rfl (.tmp 92) (.tmp 94) _ rfl elemInt RG rfl (HP3.out.2.2.2.1.alloc _) _ rfl (by have h9:=Rd.of_blk (size:=1) (n:=1) (cs:=[.int .i64 n]) (Blk.new w3 3 _) rfl;simpa using h9) (by simp[Value.oneCell']) (by omega) (by unfold maxLen;omega) (by simp;(try omega)) ?_;intro A5 c5 w5 hown hk hrow;have hb:=Blk.keep (HB3.out.alloc _) hk HP3.out.nrG;have b4:=hb.cell 4;have b4f:=hb.frozen 4;have hs:=Keep.set_ (Keep.refl (fun k=>k=p) w5) (p:=⟨p,4,none⟩) (.inl rfl) (.slice A5 (Got.length+1) c5);have hp5:=Pc.got (Pc.keep HP3.out ((Keep.refl _ _).alloc _)) hown hk (fun h=>hown.ne_blk hb (by decide) p h rfl);have HP6:=qh (hp5.keepp hs);have HB6:Hid (Blk (w5.setCell ⟨p,4,none⟩ (.slice A5 (Got.length+1) c5)) p 172 #[.slice AV V.length cV,.bool true,.slice A' (getL Bits wd).length c',.slice AO Out.length cO,.slice A5 (Got.length+1) c5,.int .i64 0,.int .i64 P]):=hb.set_ 4 _;have b3:=HB6.out.cell 3;have HK6:Hid (Keep (fun k=>k=p∨Q k) w (w5.setCell ⟨p,4,none⟩ (.slice A5 (Got.length+1) c5))):=qh ((((HK3.out.mono (fun _ _ h=>.inl h)).trans (Keep.mono ((Keep.refl Never _).alloc _) (fun _ _ h=>h.elim))).trans (hk.mono (fun q _ h=>.inr ((HQ.out q).2 (.inr h))))).trans (hs.mono (fun _ _ h=>.inl h)));have HR6:Hid (∀q,InRow A5 q→Q q∨w.heap.size≤q):=(fun q h=>by rcases hrow q h with h | h;exact .inl ((HQ.out q).2 (.inr h));exact .inr (by have:=HK3.out.size;simp at h;try omega));have hRG6:RG≤w5.heap.size:=hp5.2.2.2.2.2.2;clear hb hs hp5 hown hk hrow)
    | (at_builtin;refine wpList_app _ rfl (.tmp 102) (.tmp 106) _ rfl elemBits RG rfl (HP6.out.2.2.1.alloc _) _ rfl (by have h9:=Rd.of_blk (size:=2) (n:=1) (cs:=[.int .i64 n,.int .i64 wd]) (Blk.new (w5.setCell ⟨p,4,none⟩ (.slice A5 (Got.length+1) c5)) 162 _) rfl;simpa using h9) (by simp[Value.oneCell']) (by omega) (by unfold maxLen;omega) (by simp;(try omega)) ?_;intro A7 c7 w7 hown hk hrow;have hb:=Blk.keep (HB6.out.alloc _) hk HP6.out.nrO;have d3:=hb.cell 3;have d3f:=hb.frozen 3;have hp7:=Pc.out (Pc.keep HP6.out ((Keep.refl _ _).alloc _)) hown hk (fun h=>hown.ne_blk hb (by decide) p h rfl);have HP7:=qh hp7;have HB7:=qh hb;have HK7:Hid (Keep (fun k=>k=p∨Q k) w w7):=qh ((HK6.out.trans (Keep.mono ((Keep.refl Never _).alloc _) (fun _ _ h=>h.elim))).trans (hk.mono (fun q _ h=>.inr ((HQ.out q).2 (.inl h)))));have HR7:Hid (∀q,InRow A7 q→Q q∨w.heap.size≤q):=(fun q h=>by rcases hrow q h with h | h;exact .inl ((HQ.out q).2 (.inl h));exact .inr (by have:=HK6.out.size;simp at h;(try simp[World.setCell] at this);(try omega)));clear hb hp7 hown hk hrow))
  go_ret
  have hs:=Keep.set_ (Keep.refl (fun k=>k=p) w7) (p:=⟨p,3,none⟩) (.inl rfl) (.slice A7 (Out.length+1) c7)
  refine⟨by rw[Hr.out];rfl,HK7.out.trans (hs.mono (fun _ _ h=>.inl h)),(fun q=>InRow A7 q∨InRow A5 q),?_,fun q h=>?_⟩
  rotate_left
  ·rcases h with h | h
   ·exact HR7.out q h
   ·exact HR6.out q h
  rw[Hr.out]
  have hb7:=HB7.out.set_ 3 (.slice A7 (Out.length+1) c7)
  refine Pc.inv (HP7.out.keepp hs) (by simpa using hb7) Hc.out.1 Hnc.out H9.out (by have:=Hg.out;have:=HL.out;omega) Hg.out.2.1 (by have:=HG3.out;simp;try omega) (by have:=Hg.out.2.2.1;split <;> omega) (by have:=Hg.out.2.2.2.1;simp;try omega)
set_option maxHeartbeats 4000000 in
set_option maxRecDepth 100000 in
theorem one_7f (RB p RG K:Nat) (st:RW) (v:Int) (Q:Nat→Prop) (w:World) (h:InvW RB p RG K st Q w) (hE:st.E=0) (hK:K+1≤1000000) (hR:st.Read=false) (h7:v=7) (hm:rMay v (oneN st v)=false) :
    Calls Tryz.prog 168 #[.pointer (some ⟨p,0,none⟩),.int .i64 v] w (OnePost RB p RG K st v Q w):=by
  have hoe:oneE st v=0:=by unfold oneE;rw[if_neg (by simp[hR]),if_pos h7]
  obtain⟨AV,cV,AB,cB,AO,cO,AG,cG,h1,h2,h3,h4,h5,h6,h7',h8,h9,g1,g2,g3,g4,g5,g6,g7,g8⟩:=h
  obtain⟨V,R,Bits,Out,Got,E,P⟩:=st
  simp only at *
  subst hE
  subst hR
  obtain⟨n,hn⟩:∃x,oneN ⟨V,false,Bits,Out,Got,0,P⟩ v=x:=⟨_,rfl⟩
  obtain⟨wd,hwd⟩:∃x,(vrow v).width=x:=⟨_,rfl⟩
  rw[hn] at hm
  obtain rfl:0=n:=by rw[←hn];simp[oneN,h7]
  have hr:oneR ⟨V,false,Bits,Out,Got,0,P⟩ v=(0,⟨V,false,Bits,Out,Got,20,P⟩):=by
   unfold oneR
   rw[if_neg (by simp),if_neg (by rw[hoe];simp),hn,hwd]
   rw[if_pos hm]
   simp[oneS,h7]
  have hW:Hid (∀W,Calls Tryz.prog 124 #[.int .i64 v] W fun e w'=>e=.returned (.int .i64 wd)∧Keep Never W w'):=by
   intro W;have:=rwidth_any v W;rwa [hwd] at this
  have hM:Hid (∀W,Calls Tryz.prog 204 #[.int .i64 v,.int .i64 0] W fun e w'=>e=.returned (.bool false)∧Keep Never W w'):=by
   intro W;have:=rmay_any v 0 W;rwa [hm] at this
  have hG3:Out.length+V.length≤K:=by simpa using g3
  have HG3:=qh hG3
  have hO1:Out.length≤1000000:=by omega
  have hG1:Got.length≤1000000:=by omega
  have HB:=qh h1
  have HP:Hid (Pc RB p RG AV V AB Bits AO cO Out AG cG Got w):=⟨h2,h4,h6,h7',g6,g7,g8⟩
  have Hr:=qh hr
  have HQ:=qh h8
  have Hc:=qh (And.intro h3 h5)
  have H9:=qh h9
  have Hg:=qh (And.intro g1 (And.intro g2 (And.intro hK (And.intro g5 (And.intro g6 (And.intro g7 g8))))))
  clear h1 h2 h3 h4 h5 h6 h7' h8 h9 g1 g2 g3 g4 g5 g6 g7 g8 hr hoe hwd hn hm hK hG3
  unfold walkCells at HB
  subst h7
  have f0:=HB.out.cell 0
  have f1:=HB.out.cell 1
  have f2:=HB.out.cell 2
  have f5:=HB.out.cell 5
  go_enter Tryz.func168, Tryz.ntmps168
  go_wp2_with fail
  refine(hW.out _).mono ?_
  rintro e w1 ⟨rfl,hk1⟩
  have HB1:=qkb HB hk1
  have HP1:=qh (HP.out.keep hk1)
  have HK1:=qh (Keep.mono (S':=fun k=>k=p) hk1 (fun _ _ h=>h.elim))
  clear f0 f1 f2 f5
  have f0:=HB1.out.cell 0
  have f1:=HB1.out.cell 1
  have z2:=HB1.out.frozen 2
  have z0:=HB1.out.frozen 0
  clear hk1
  go_wp2_with fail
  refine(hM.out _).mono ?_
  rintro e w3 ⟨rfl,hk3⟩
  have HB3:Hid (Blk w3 p 172 #[.slice AV V.length cV,.bool false,.slice AB Bits.length cB,.slice AO Out.length cO,.slice AG Got.length cG,.int .i64 0,.int .i64 P]):=Blk.keep (HB1.out) hk3 (fun h=>h)
  have HP3:=qh (Pc.keep (HP1.out) hk3)
  have HK3:=qh (Keep.trans (HK1.out) (Keep.mono (S':=fun k=>k=p) hk3 (fun _ _ h=>h.elim)))
  clear hk3 f0 f1 z2 z0 HB1 HP1 HK1
  have x5:=HB3.out.cell 5
  have x5f:=HB3.out.frozen 5
  go_wp2_with fail
  go_ret
  have hs:=Keep.set_ (Keep.refl (fun k=>k=p) w3) (p:=⟨p,5,none⟩) (.inl rfl) (.int .i64 20)
  refine⟨by rw[Hr.out];rfl,(HK3.out.trans hs).mono (fun _ _ h=>.inl h),_,?_,fun q h=>.inl ((HQ.out q).2 h)⟩
  rw[Hr.out]
  exact Pc.inv (HP3.out.keepp hs) (HB3.out.set_ 5 (.int .i64 20)) Hc.out.1 Hc.out.2 H9.out Hg.out.1 Hg.out.2.1 (by have:=HG3.out;simp;omega) (by have:=Hg.out.2.2.1;split <;> omega) Hg.out.2.2.2.1
set_option maxHeartbeats 4000000 in
set_option maxRecDepth 100000 in
theorem one_77 (RB p RG K:Nat) (st:RW) (v:Int) (Q:Nat→Prop) (w:World) (h:InvW RB p RG K st Q w) (hE:st.E=0) (hK:K+1≤1000000) (hR:st.Read=false) (h7:v=7) (hm:rMay v (oneN st v)=true) :
    Calls Tryz.prog 168 #[.pointer (some ⟨p,0,none⟩),.int .i64 v] w (OnePost RB p RG K st v Q w):=by
  have hoe:oneE st v=0:=by unfold oneE;rw[if_neg (by simp[hR]),if_pos h7]
  obtain⟨AV,cV,AB,cB,AO,cO,AG,cG,h1,h2,h3,h4,h5,h6,h7',h8,h9,g1,g2,g3,g4,g5,g6,g7,g8⟩:=h
  obtain⟨V,R,Bits,Out,Got,E,P⟩:=st
  simp only at *
  subst hE
  subst hR
  obtain⟨n,hn⟩:∃x,oneN ⟨V,false,Bits,Out,Got,0,P⟩ v=x:=⟨_,rfl⟩
  obtain⟨wd,hwd⟩:∃x,(vrow v).width=x:=⟨_,rfl⟩
  rw[hn] at hm
  obtain rfl:0=n:=by rw[←hn];simp[oneN,h7]
  have hr:oneR ⟨V,false,Bits,Out,Got,0,P⟩ v=(0,⟨V,false,Bits,Out++[(0,wd)],Got,0,Out.length⟩):=by
   unfold oneR
   rw[if_neg (by simp),if_neg (by rw[hoe];simp),hn,hwd]
   rw[if_neg (by rw[hm];simp),if_pos (.inl h7),if_pos h7]
   simp[oneS,h7]
  have hW:Hid (∀W,Calls Tryz.prog 124 #[.int .i64 v] W fun e w'=>e=.returned (.int .i64 wd)∧Keep Never W w'):=by
   intro W;have:=rwidth_any v W;rwa [hwd] at this
  have hM:Hid (∀W,Calls Tryz.prog 204 #[.int .i64 v,.int .i64 0] W fun e w'=>e=.returned (.bool true)∧Keep Never W w'):=by
   intro W;have:=rmay_any v 0 W;rwa [hm] at this
  have hG3:Out.length+V.length≤K:=by simpa using g3
  have HG3:=qh hG3
  have hO1:Out.length≤1000000:=by omega
  have hG1:Got.length≤1000000:=by omega
  have HB:=qh h1
  have HP:Hid (Pc RB p RG AV V AB Bits AO cO Out AG cG Got w):=⟨h2,h4,h6,h7',g6,g7,g8⟩
  have Hr:=qh hr
  have HQ:=qh h8
  have Hc:=qh (And.intro h3 h5)
  have H9:=qh h9
  have Hg:=qh (And.intro g1 (And.intro g2 (And.intro hK (And.intro g5 (And.intro g6 (And.intro g7 g8))))))
  clear h1 h2 h3 h4 h5 h6 h7' h8 h9 g1 g2 g3 g4 g5 g6 g7 g8 hr hoe hwd hn hm hK hG3
  unfold walkCells at HB
  subst h7
  have f0:=HB.out.cell 0
  have f1:=HB.out.cell 1
  have f2:=HB.out.cell 2
  have f5:=HB.out.cell 5
  go_enter Tryz.func168, Tryz.ntmps168
  go_wp2_with fail
  refine(hW.out _).mono ?_
  rintro e w1 ⟨rfl,hk1⟩
  have HB1:=qkb HB hk1
  have HP1:=qh (HP.out.keep hk1)
  have HK1:=qh (Keep.mono (S':=fun k=>k=p) hk1 (fun _ _ h=>h.elim))
  clear f0 f1 f2 f5
  have f0:=HB1.out.cell 0
  have f1:=HB1.out.cell 1
  have z2:=HB1.out.frozen 2
  have z0:=HB1.out.frozen 0
  clear hk1
  go_wp2_with fail
  refine(hM.out _).mono ?_
  rintro e w3 ⟨rfl,hk3⟩
  have HB3:Hid (Blk w3 p 172 #[.slice AV V.length cV,.bool false,.slice AB Bits.length cB,.slice AO Out.length cO,.slice AG Got.length cG,.int .i64 0,.int .i64 P]):=Blk.keep (HB1.out) hk3 (fun h=>h)
  have HP3:=qh (Pc.keep (HP1.out) hk3)
  have HK3:=qh (Keep.trans (HK1.out) (Keep.mono (S':=fun k=>k=p) hk3 (fun _ _ h=>h.elim)))
  clear hk3 f0 f1 z2 z0 HB1 HP1 HK1
  have x3:=HB3.out.cell 3
  have x6:=HB3.out.cell 6
  have x6f:=HB3.out.frozen 6
  have hs:=Keep.set_ (Keep.refl (fun k=>k=p) w3) (p:=⟨p,6,none⟩) (.inl rfl) (.int .i64 (Out.length:Int))
  have HB4:Hid (Blk (w3.setCell ⟨p,6,none⟩ (.int .i64 (Out.length:Int))) p 172 #[.slice AV V.length cV,.bool false,.slice AB Bits.length cB,.slice AO Out.length cO,.slice AG Got.length cG,.int .i64 0,.int .i64 Out.length]):=HB3.out.set_ 6 (.int .i64 (Out.length:Int))
  have HP4:=qh (HP3.out.keepp hs)
  have HK4:=qtr HK3 hs
  clear hs
  have hRG:RG≤w3.heap.size:=HP3.out.2.2.2.2.2.2
  have HK4':Hid (Keep (fun k=>k=p∨Q k) w (w3.setCell ⟨p,6,none⟩ (.int .i64 (Out.length:Int)))):=qh (HK4.out.mono (fun _ _ h=>.inl h))
  have HR4:Hid (∀q,InRow AG q→Q q∨w.heap.size≤q):=fun q h=>.inl ((HQ.out q).2 (.inr h))
  go_wp2_with (first
    | (at_builtin;refine wpList_app _ rfl (.tmp 102) (.tmp 106) _ rfl elemBits RG rfl (HP4.out.2.2.1.alloc _) _ rfl (by have h9:=Rd.of_blk (size:=2) (n:=1) (cs:=[.int .i64 0,.int .i64 wd]) (Blk.new (w3.setCell ⟨p,6,none⟩ (.int .i64 (Out.length:Int))) 162 _) rfl;simpa using h9) (by simp[Value.oneCell']) (by omega) (by unfold maxLen;omega) (by simp;(try omega)) ?_;intro A7 c7 w7 hown hk hrow;have hb:=Blk.keep (HB4.out.alloc _) hk HP4.out.nrO;have d3:=hb.cell 3;have d3f:=hb.frozen 3;have hp7:=Pc.out (Pc.keep HP4.out ((Keep.refl _ _).alloc _)) hown hk (fun h=>hown.ne_blk hb (by decide) p h rfl);have HP7:=qh hp7;have HB7:=qh hb;have HK7:Hid (Keep (fun k=>k=p∨Q k) w w7):=qh ((HK4'.out.trans (Keep.mono ((Keep.refl Never _).alloc _) (fun _ _ h=>h.elim))).trans (hk.mono (fun q _ h=>.inr ((HQ.out q).2 (.inl h)))));have HR7:Hid (∀q,InRow A7 q→Q q∨w.heap.size≤q):=(fun q h=>by rcases hrow q h with h | h;exact .inl ((HQ.out q).2 (.inl h));exact .inr (by have:=HK4'.out.size;simp at h;(try simp[World.setCell] at this);(try omega)));clear hb hp7 hown hk hrow))
  go_ret
  have hs:=Keep.set_ (Keep.refl (fun k=>k=p) w7) (p:=⟨p,3,none⟩) (.inl rfl) (.slice A7 (Out.length+1) c7)
  refine⟨by rw[Hr.out];rfl,HK7.out.trans (hs.mono (fun _ _ h=>.inl h)),(fun q=>InRow A7 q∨InRow AG q),?_,fun q h=>?_⟩
  rotate_left
  ·rcases h with h | h
   ·exact HR7.out q h
   ·exact HR4.out q h
  rw[Hr.out]
  have hb7:=HB7.out.set_ 3 (.slice A7 (Out.length+1) c7)
  refine Pc.inv (HP7.out.keepp hs) (by simpa using hb7) Hc.out.1 Hc.out.2 H9.out Hg.out.1 Hg.out.2.1 (by have:=HG3.out;simp;omega) (by have:=Hg.out.2.2.1;split <;> omega) (by have:=Hg.out.2.2.2.1;simp;try omega)
set_option maxHeartbeats 4000000 in
set_option maxRecDepth 100000 in
theorem one_Vf (RB p RG K:Nat) (st:RW) (v:Int) (Q:Nat→Prop) (w:World) (h:InvW RB p RG K st Q w) (hE:st.E=0) (hK:K+1≤1000000) (hR:st.Read=false) (h7:v≠7) (hV:st.V≠[]) (hm:rMay v (oneN st v)=false) :
    Calls Tryz.prog 168 #[.pointer (some ⟨p,0,none⟩),.int .i64 v] w (OnePost RB p RG K st v Q w):=by
  have hoe:oneE st v=0:=by unfold oneE;rw[if_neg (by simp[hR]),if_neg h7,if_neg hV]
  obtain⟨AV,cV,AB,cB,AO,cO,AG,cG,h1,h2,h3,h4,h5,h6,h7',h8,h9,g1,g2,g3,g4,g5,g6,g7,g8⟩:=h
  obtain⟨V,R,Bits,Out,Got,E,P⟩:=st
  simp only at *
  subst hE
  subst hR
  obtain⟨n,hn⟩:∃x,oneN ⟨V,false,Bits,Out,Got,0,P⟩ v=x:=⟨_,rfl⟩
  obtain⟨wd,hwd⟩:∃x,(vrow v).width=x:=⟨_,rfl⟩
  rw[hn] at hm
  obtain⟨v0,V,rfl⟩:∃a l,V=a::l:=by cases V with | nil=>exact absurd rfl hV | cons a l=>exact⟨a,l,rfl⟩
  obtain rfl:v0=n:=by rw[←hn];simp[oneN,h7]
  have hr:oneR ⟨v0::V,false,Bits,Out,Got,0,P⟩ v=(0,⟨V,false,Bits,Out,Got,20,P⟩):=by
   unfold oneR
   rw[if_neg (by simp),if_neg (by rw[hoe];simp),hn,hwd]
   rw[if_pos hm]
   simp[oneS,h7]
  have hW:Hid (∀W,Calls Tryz.prog 124 #[.int .i64 v] W fun e w'=>e=.returned (.int .i64 wd)∧Keep Never W w'):=by
   intro W;have:=rwidth_any v W;rwa [hwd] at this
  have hM:Hid (∀W,Calls Tryz.prog 204 #[.int .i64 v,.int .i64 v0] W fun e w'=>e=.returned (.bool false)∧Keep Never W w'):=by
   intro W;have:=rmay_any v v0 W;rwa [hm] at this
  have hG3:Out.length+1+V.length≤K:=by simp at g3;omega
  have HG3:=qh hG3
  have hO1:Out.length≤1000000:=by omega
  have hG1:Got.length≤1000000:=by omega
  have HB:=qh h1
  have HP:Hid (Pc RB p RG AV (v0::V) AB Bits AO cO Out AG cG Got w):=⟨h2,h4,h6,h7',g6,g7,g8⟩
  have Hr:=qh hr
  have HQ:=qh h8
  have Hc:=qh (And.intro h3 h5)
  have H9:=qh h9
  have Hg:=qh (And.intro g1 (And.intro g2 (And.intro hK (And.intro g5 (And.intro g6 (And.intro g7 g8))))))
  clear h1 h2 h3 h4 h5 h6 h7' h8 h9 g1 g2 g3 g4 g5 g6 g7 g8 hr hoe hwd hn hm hK hG3 hV
  unfold walkCells at HB
  have HB:Hid (Blk w p 172 #[.slice AV (V.length+1) cV,.bool false,.slice AB Bits.length cB,.slice AO Out.length cO,.slice AG Got.length cG,.int .i64 0,.int .i64 P]):=HB
  have e7:(v==7)=false:=by simpa using h7
  have e7':(v != 7)=true:=by simpa using h7
  have H7:=qh h7
  clear h7
  have f0:=HB.out.cell 0
  have f1:=HB.out.cell 1
  have f2:=HB.out.cell 2
  have f5:=HB.out.cell 5
  obtain⟨ad,hA,hc0⟩:=HP.out.head
  subst hA
  go_enter Tryz.func168, Tryz.ntmps168
  go_wp2_with fail
  refine(hW.out _).mono ?_
  rintro e w1 ⟨rfl,hk1⟩
  have HB1:=qkb HB hk1
  have HP1:=qh (HP.out.keep hk1)
  have HK1:=qh (Keep.mono (S':=fun k=>k=p) hk1 (fun _ _ h=>h.elim))
  clear f0 f1 f2 f5
  have f0:=HB1.out.cell 0
  have f1:=HB1.out.cell 1
  have z2:=HB1.out.frozen 2
  have z0:=HB1.out.frozen 0
  have c0:=HP1.out.headc
  clear hk1
  have hszi:Hid (∀w,(sizeOf 3).run Tryz.prog w=.ok 1 w):=fun w=>by kernel_rfl
  have hcV:Hid (V.length+1≤cV):=qh (by have:=Hc.out.1;simpa using this)
  go_wp2_with (refine wpList_from rfl (.tmp 64) (.const (.int .i64 1)) _ rfl Tryz.underlying22 hszi.out (some ad) (V.length+1) cV 1 (by go_simp) 1 (by go_simp) rfl (by omega) ?_;intro A1 c1 HS)
  have HR1:Hid (Rd w1 RB 1 A1 V.length (V.map (.int .i64))):=qh (by have:=HS.out.1 _ _ _ hcV.out HP1.out.1;simpa using this)
  have Hc1:Hid (V.length≤c1):=qh (by have:=HS.out.2.1 hcV.out;simpa using this)
  clear HS f0 f1 z0 z2 c0
  have hs0:=Keep.set_ (Keep.refl (fun k=>k=p) w1) (p:=⟨p,0,none⟩) (.inl rfl) (.slice A1 V.length c1)
  refine(hM.out _).mono ?_
  rintro e w3 ⟨rfl,hk3⟩
  have HB3:Hid (Blk w3 p 172 #[.slice A1 V.length c1,.bool false,.slice AB Bits.length cB,.slice AO Out.length cO,.slice AG Got.length cG,.int .i64 0,.int .i64 P]):=Blk.keep (HB1.out.set_ 0 (.slice A1 V.length c1)) hk3 (fun h=>h)
  have HP3:=qh (Pc.keep (Pc.keepp (HP1.out.vals HR1.out) hs0) hk3)
  have HK3:=qh (Keep.trans (HK1.out.trans hs0) (Keep.mono (S':=fun k=>k=p) hk3 (fun _ _ h=>h.elim)))
  clear hk3 HB1 HP1 HK1 hs0
  have x5:=HB3.out.cell 5
  have x5f:=HB3.out.frozen 5
  go_wp2_with fail
  go_ret
  have hs:=Keep.set_ (Keep.refl (fun k=>k=p) w3) (p:=⟨p,5,none⟩) (.inl rfl) (.int .i64 20)
  refine⟨by rw[Hr.out];rfl,(HK3.out.trans hs).mono (fun _ _ h=>.inl h),_,?_,fun q h=>.inl ((HQ.out q).2 h)⟩
  rw[Hr.out]
  exact Pc.inv (HP3.out.keepp hs) (HB3.out.set_ 5 (.int .i64 20)) Hc1.out Hc.out.2 (fun x h=>H9.out x (by simp[h])) Hg.out.1 (by have:=Hg.out.2.1;simp at this;omega) (by have:=HG3.out;simp;try omega) (by have:=Hg.out.2.2.1;split <;> omega) Hg.out.2.2.2.1
set_option maxHeartbeats 4000000 in
set_option maxRecDepth 100000 in
theorem one_V5 (RB p RG K:Nat) (st:RW) (v:Int) (Q:Nat→Prop) (w:World) (h:InvW RB p RG K st Q w) (hE:st.E=0) (hK:K+1≤1000000) (hR:st.Read=false) (h7:v≠7) (hV:st.V≠[]) (hm:rMay v (oneN st v)=true) (h5:v=5) :
    Calls Tryz.prog 168 #[.pointer (some ⟨p,0,none⟩),.int .i64 v] w (OnePost RB p RG K st v Q w):=by
  have hoe:oneE st v=0:=by unfold oneE;rw[if_neg (by simp[hR]),if_neg h7,if_neg hV]
  obtain⟨AV,cV,AB,cB,AO,cO,AG,cG,h1,h2,h3,h4,h5',h6,h7',h8,h9,g1,g2,g3,g4,g5,g6,g7,g8⟩:=h
  obtain⟨V,R,Bits,Out,Got,E,P⟩:=st
  simp only at *
  subst hE
  subst hR
  obtain⟨n,hn⟩:∃x,oneN ⟨V,false,Bits,Out,Got,0,P⟩ v=x:=⟨_,rfl⟩
  obtain⟨wd,hwd⟩:∃x,(vrow v).width=x:=⟨_,rfl⟩
  rw[hn] at hm
  obtain⟨v0,V,rfl⟩:∃a l,V=a::l:=by cases V with | nil=>exact absurd rfl hV | cons a l=>exact⟨a,l,rfl⟩
  obtain rfl:v0=n:=by rw[←hn];simp[oneN,h7]
  have hr:oneR ⟨v0::V,false,Bits,Out,Got,0,P⟩ v=(v0,⟨V,false,Bits,Out++[(v0,wd)],Got,0,P⟩):=by
   unfold oneR
   rw[if_neg (by simp),if_neg (by rw[hoe];simp),hn,hwd]
   rw[if_neg (by rw[hm];simp),if_pos (.inr h5),if_neg (by rw[h5];decide)]
   simp[oneS,h7]
  have hW:Hid (∀W,Calls Tryz.prog 124 #[.int .i64 v] W fun e w'=>e=.returned (.int .i64 wd)∧Keep Never W w'):=by
   intro W;have:=rwidth_any v W;rwa [hwd] at this
  have hM:Hid (∀W,Calls Tryz.prog 204 #[.int .i64 v,.int .i64 v0] W fun e w'=>e=.returned (.bool true)∧Keep Never W w'):=by
   intro W;have:=rmay_any v v0 W;rwa [hm] at this
  have hG3:Out.length+1+V.length≤K:=by simp at g3;omega
  have HG3:=qh hG3
  have hO1:Out.length≤1000000:=by omega
  have hG1:Got.length≤1000000:=by omega
  have HB:=qh h1
  have HP:Hid (Pc RB p RG AV (v0::V) AB Bits AO cO Out AG cG Got w):=⟨h2,h4,h6,h7',g6,g7,g8⟩
  have Hr:=qh hr
  have HQ:=qh h8
  have Hc:=qh (And.intro h3 h5')
  have H9:=qh h9
  have Hg:=qh (And.intro g1 (And.intro g2 (And.intro hK (And.intro g5 (And.intro g6 (And.intro g7 g8))))))
  clear h1 h2 h3 h4 h5' h6 h7' h8 h9 g1 g2 g3 g4 g5 g6 g7 g8 hr hoe hwd hn hm hK hG3 hV
  unfold walkCells at HB
  have HB:Hid (Blk w p 172 #[.slice AV (V.length+1) cV,.bool false,.slice AB Bits.length cB,.slice AO Out.length cO,.slice AG Got.length cG,.int .i64 0,.int .i64 P]):=HB
  subst h5
  clear h7
  have f0:=HB.out.cell 0
  have f1:=HB.out.cell 1
  have f2:=HB.out.cell 2
  have f5:=HB.out.cell 5
  obtain⟨ad,hA,hc0⟩:=HP.out.head
  subst hA
  go_enter Tryz.func168, Tryz.ntmps168
  go_wp2_with fail
  refine(hW.out _).mono ?_
  rintro e w1 ⟨rfl,hk1⟩
  have HB1:=qkb HB hk1
  have HP1:=qh (HP.out.keep hk1)
  have HK1:=qh (Keep.mono (S':=fun k=>k=p) hk1 (fun _ _ h=>h.elim))
  clear f0 f1 f2 f5
  have f0:=HB1.out.cell 0
  have f1:=HB1.out.cell 1
  have z2:=HB1.out.frozen 2
  have z0:=HB1.out.frozen 0
  have c0:=HP1.out.headc
  clear hk1
  have hszi:Hid (∀w,(sizeOf 3).run Tryz.prog w=.ok 1 w):=fun w=>by kernel_rfl
  have hcV:Hid (V.length+1≤cV):=qh (by have:=Hc.out.1;simpa using this)
  go_wp2_with (refine wpList_from rfl (.tmp 64) (.const (.int .i64 1)) _ rfl Tryz.underlying22 hszi.out (some ad) (V.length+1) cV 1 (by go_simp) 1 (by go_simp) rfl (by omega) ?_;intro A1 c1 HS)
  have HR1:Hid (Rd w1 RB 1 A1 V.length (V.map (.int .i64))):=qh (by have:=HS.out.1 _ _ _ hcV.out HP1.out.1;simpa using this)
  have Hc1:Hid (V.length≤c1):=qh (by have:=HS.out.2.1 hcV.out;simpa using this)
  clear HS f0 f1 z0 z2 c0
  have hs0:=Keep.set_ (Keep.refl (fun k=>k=p) w1) (p:=⟨p,0,none⟩) (.inl rfl) (.slice A1 V.length c1)
  refine(hM.out _).mono ?_
  rintro e w3 ⟨rfl,hk3⟩
  have HB3:Hid (Blk w3 p 172 #[.slice A1 V.length c1,.bool false,.slice AB Bits.length cB,.slice AO Out.length cO,.slice AG Got.length cG,.int .i64 0,.int .i64 P]):=Blk.keep (HB1.out.set_ 0 (.slice A1 V.length c1)) hk3 (fun h=>h)
  have HP3:=qh (Pc.keep (Pc.keepp (HP1.out.vals HR1.out) hs0) hk3)
  have HK3:=qh (Keep.trans (HK1.out.trans hs0) (Keep.mono (S':=fun k=>k=p) hk3 (fun _ _ h=>h.elim)))
  clear hk3 HB1 HP1 HK1 hs0
  have x3:=HB3.out.cell 3
  have x4:=HB3.out.cell 4
  have hRG:RG≤w3.heap.size:=HP3.out.2.2.2.2.2.2
  have HK3':Hid (Keep (fun k=>k=p∨Q k) w w3):=qh (HK3.out.mono (fun _ _ h=>.inl h))
  have HR3:Hid (∀q,InRow AG q→Q q∨w.heap.size≤q):=fun q h=>.inl ((HQ.out q).2 (.inr h))
  go_wp2_with (first
    | (at_builtin;refine wpList_app _ rfl (.tmp 102) (.tmp 106) _ rfl elemBits RG rfl (HP3.out.2.2.1.alloc _) _ rfl (by have h9:=Rd.of_blk (size:=2) (n:=1) (cs:=[.int .i64 v0,.int .i64 wd]) (Blk.new w3 162 _) rfl;simpa using h9) (by simp[Value.oneCell']) (by omega) (by unfold maxLen;omega) (by simp;(try omega)) ?_;intro A7 c7 w7 hown hk hrow;have hb:=Blk.keep (HB3.out.alloc _) hk HP3.out.nrO;have d3:=hb.cell 3;have d3f:=hb.frozen 3;have hp7:=Pc.out (Pc.keep HP3.out ((Keep.refl _ _).alloc _)) hown hk (fun h=>hown.ne_blk hb (by decide) p h rfl);have HP7:=qh hp7;have HB7:=qh hb;have HK7:Hid (Keep (fun k=>k=p∨Q k) w w7):=qh ((HK3'.out.trans (Keep.mono ((Keep.refl Never _).alloc _) (fun _ _ h=>h.elim))).trans (hk.mono (fun q _ h=>.inr ((HQ.out q).2 (.inl h)))));have HR7:Hid (∀q,InRow A7 q→Q q∨w.heap.size≤q):=(fun q h=>by rcases hrow q h with h | h;exact .inl ((HQ.out q).2 (.inl h));exact .inr (by have:=HK3'.out.size;simp at h;(try simp[World.setCell] at this);(try omega)));clear hb hp7 hown hk hrow))
  go_ret
  have hs:=Keep.set_ (Keep.refl (fun k=>k=p) w7) (p:=⟨p,3,none⟩) (.inl rfl) (.slice A7 (Out.length+1) c7)
  refine⟨by rw[Hr.out];rfl,HK7.out.trans (hs.mono (fun _ _ h=>.inl h)),(fun q=>InRow A7 q∨InRow AG q),?_,fun q h=>?_⟩
  rotate_left
  ·rcases h with h | h
   ·exact HR7.out q h
   ·exact HR3.out q h
  rw[Hr.out]
  have hb7:=HB7.out.set_ 3 (.slice A7 (Out.length+1) c7)
  refine Pc.inv (HP7.out.keepp hs) (by simpa using hb7) Hc1.out Hc.out.2 (fun x h=>H9.out x (by simp[h])) Hg.out.1 (by have:=Hg.out.2.1;simp at this;omega) (by have:=HG3.out;simp;try omega) (by have:=Hg.out.2.2.1;split <;> omega) (by have:=Hg.out.2.2.2.1;simp;try omega)
set_option maxHeartbeats 4000000 in
set_option maxRecDepth 100000 in
theorem one_Vg (RB p RG K:Nat) (st:RW) (v:Int) (Q:Nat→Prop) (w:World) (h:InvW RB p RG K st Q w) (hE:st.E=0) (hK:K+1≤1000000) (hR:st.Read=false) (h7:v≠7) (hV:st.V≠[]) (hm:rMay v (oneN st v)=true) (h5:v≠5) :
    Calls Tryz.prog 168 #[.pointer (some ⟨p,0,none⟩),.int .i64 v] w (OnePost RB p RG K st v Q w):=by
  have hoe:oneE st v=0:=by unfold oneE;rw[if_neg (by simp[hR]),if_neg h7,if_neg hV]
  obtain⟨AV,cV,AB,cB,AO,cO,AG,cG,h1,h2,h3,h4,h5',h6,h7',h8,h9,g1,g2,g3,g4,g5,g6,g7,g8⟩:=h
  obtain⟨V,R,Bits,Out,Got,E,P⟩:=st
  simp only at *
  subst hE
  subst hR
  obtain⟨n,hn⟩:∃x,oneN ⟨V,false,Bits,Out,Got,0,P⟩ v=x:=⟨_,rfl⟩
  obtain⟨wd,hwd⟩:∃x,(vrow v).width=x:=⟨_,rfl⟩
  rw[hn] at hm
  obtain⟨v0,V,rfl⟩:∃a l,V=a::l:=by cases V with | nil=>exact absurd rfl hV | cons a l=>exact⟨a,l,rfl⟩
  obtain rfl:v0=n:=by rw[←hn];simp[oneN,h7]
  have hr:oneR ⟨v0::V,false,Bits,Out,Got,0,P⟩ v=(v0,⟨V,false,Bits,Out++[(v0,wd)],Got++[v0],0,P⟩):=by
   unfold oneR
   rw[if_neg (by simp),if_neg (by rw[hoe];simp),hn,hwd]
   rw[if_neg (by rw[hm];simp),if_neg (by rintro(h | h);exact h7 h;exact h5 h),if_neg h7]
   simp[oneS,h7]
  have hW:Hid (∀W,Calls Tryz.prog 124 #[.int .i64 v] W fun e w'=>e=.returned (.int .i64 wd)∧Keep Never W w'):=by
   intro W;have:=rwidth_any v W;rwa [hwd] at this
  have hM:Hid (∀W,Calls Tryz.prog 204 #[.int .i64 v,.int .i64 v0] W fun e w'=>e=.returned (.bool true)∧Keep Never W w'):=by
   intro W;have:=rmay_any v v0 W;rwa [hm] at this
  have hG3:Out.length+1+V.length≤K:=by simp at g3;omega
  have HG3:=qh hG3
  have hO1:Out.length≤1000000:=by omega
  have hG1:Got.length≤1000000:=by omega
  have HB:=qh h1
  have HP:Hid (Pc RB p RG AV (v0::V) AB Bits AO cO Out AG cG Got w):=⟨h2,h4,h6,h7',g6,g7,g8⟩
  have Hr:=qh hr
  have HQ:=qh h8
  have Hc:=qh (And.intro h3 h5')
  have H9:=qh h9
  have Hg:=qh (And.intro g1 (And.intro g2 (And.intro hK (And.intro g5 (And.intro g6 (And.intro g7 g8))))))
  clear h1 h2 h3 h4 h5' h6 h7' h8 h9 g1 g2 g3 g4 g5 g6 g7 g8 hr hoe hwd hn hm hK hG3 hV
  unfold walkCells at HB
  have HB:Hid (Blk w p 172 #[.slice AV (V.length+1) cV,.bool false,.slice AB Bits.length cB,.slice AO Out.length cO,.slice AG Got.length cG,.int .i64 0,.int .i64 P]):=HB
  have e7:(v==7)=false:=by simpa using h7
  have e7':(v != 7)=true:=by simpa using h7
  have H7:=qh h7
  have e5:(v==5)=false:=by simpa using h5
  have e5':(v != 5)=true:=by simpa using h5
  clear h5
  clear h7
  have f0:=HB.out.cell 0
  have f1:=HB.out.cell 1
  have f2:=HB.out.cell 2
  have f5:=HB.out.cell 5
  obtain⟨ad,hA,hc0⟩:=HP.out.head
  subst hA
  go_enter Tryz.func168, Tryz.ntmps168
  go_wp2_with fail
  refine(hW.out _).mono ?_
  rintro e w1 ⟨rfl,hk1⟩
  have HB1:=qkb HB hk1
  have HP1:=qh (HP.out.keep hk1)
  have HK1:=qh (Keep.mono (S':=fun k=>k=p) hk1 (fun _ _ h=>h.elim))
  clear f0 f1 f2 f5
  have f0:=HB1.out.cell 0
  have f1:=HB1.out.cell 1
  have z2:=HB1.out.frozen 2
  have z0:=HB1.out.frozen 0
  have c0:=HP1.out.headc
  clear hk1
  have hszi:Hid (∀w,(sizeOf 3).run Tryz.prog w=.ok 1 w):=fun w=>by kernel_rfl
  have hcV:Hid (V.length+1≤cV):=qh (by have:=Hc.out.1;simpa using this)
  go_wp2_with (refine wpList_from rfl (.tmp 64) (.const (.int .i64 1)) _ rfl Tryz.underlying22 hszi.out (some ad) (V.length+1) cV 1 (by go_simp) 1 (by go_simp) rfl (by omega) ?_;intro A1 c1 HS)
  have HR1:Hid (Rd w1 RB 1 A1 V.length (V.map (.int .i64))):=qh (by have:=HS.out.1 _ _ _ hcV.out HP1.out.1;simpa using this)
  have Hc1:Hid (V.length≤c1):=qh (by have:=HS.out.2.1 hcV.out;simpa using this)
  clear HS f0 f1 z0 z2 c0
  have hs0:=Keep.set_ (Keep.refl (fun k=>k=p) w1) (p:=⟨p,0,none⟩) (.inl rfl) (.slice A1 V.length c1)
  refine(hM.out _).mono ?_
  rintro e w3 ⟨rfl,hk3⟩
  have HB3:Hid (Blk w3 p 172 #[.slice A1 V.length c1,.bool false,.slice AB Bits.length cB,.slice AO Out.length cO,.slice AG Got.length cG,.int .i64 0,.int .i64 P]):=Blk.keep (HB1.out.set_ 0 (.slice A1 V.length c1)) hk3 (fun h=>h)
  have HP3:=qh (Pc.keep (Pc.keepp (HP1.out.vals HR1.out) hs0) hk3)
  have HK3:=qh (Keep.trans (HK1.out.trans hs0) (Keep.mono (S':=fun k=>k=p) hk3 (fun _ _ h=>h.elim)))
  clear hk3 HB1 HP1 HK1 hs0
  have x3:=HB3.out.cell 3
  have x4:=HB3.out.cell 4
  have hRG:RG≤w3.heap.size:=HP3.out.2.2.2.2.2.2
  go_wp2_with (first
    | (at_builtin;refine wpList_app _ rfl (.tmp 92) (.tmp 94) _ rfl elemInt RG rfl (HP3.out.2.2.2.1.alloc _) _ rfl (by have h9:=Rd.of_blk (size:=1) (n:=1) (cs:=[.int .i64 v0]) (Blk.new w3 3 _) rfl;simpa using h9) (by simp[Value.oneCell']) (by omega) (by unfold maxLen;omega) (by simp;(try omega)) ?_;intro A5 c5 w5 hown hk hrow;have hb:=Blk.keep (HB3.out.alloc _) hk HP3.out.nrG;have b4:=hb.cell 4;have b4f:=hb.frozen 4;have hs:=Keep.set_ (Keep.refl (fun k=>k=p) w5) (p:=⟨p,4,none⟩) (.inl rfl) (.slice A5 (Got.length+1) c5);have hp5:=Pc.got (Pc.keep HP3.out ((Keep.refl _ _).alloc _)) hown hk (fun h=>hown.ne_blk hb (by decide) p h rfl);have HP6:=qh (hp5.keepp hs);have HB6:Hid (Blk (w5.setCell ⟨p,4,none⟩ (.slice A5 (Got.length+1) c5)) p 172 #[.slice A1 V.length c1,.bool false,.slice AB Bits.length cB,.slice AO Out.length cO,.slice A5 (Got.length+1) c5,.int .i64 0,.int .i64 P]):=hb.set_ 4 _;have b3:=HB6.out.cell 3;have HK6:Hid (Keep (fun k=>k=p∨Q k) w (w5.setCell ⟨p,4,none⟩ (.slice A5 (Got.length+1) c5))):=qh ((((HK3.out.mono (fun _ _ h=>.inl h)).trans (Keep.mono ((Keep.refl Never _).alloc _) (fun _ _ h=>h.elim))).trans (hk.mono (fun q _ h=>.inr ((HQ.out q).2 (.inr h))))).trans (hs.mono (fun _ _ h=>.inl h)));have HR6:Hid (∀q,InRow A5 q→Q q∨w.heap.size≤q):=(fun q h=>by rcases hrow q h with h | h;exact .inl ((HQ.out q).2 (.inr h));exact .inr (by have:=HK3.out.size;simp at h;try omega));have hRG6:RG≤w5.heap.size:=hp5.2.2.2.2.2.2;clear hb hs hp5 hown hk hrow)
    | (at_builtin;refine wpList_app _ rfl (.tmp 102) (.tmp 106) _ rfl elemBits RG rfl (HP6.out.2.2.1.alloc _) _ rfl (by have h9:=Rd.of_blk (size:=2) (n:=1) (cs:=[.int .i64 v0,.int .i64 wd]) (Blk.new (w5.setCell ⟨p,4,none⟩ (.slice A5 (Got.length+1) c5)) 162 _) rfl;simpa using h9) (by simp[Value.oneCell']) (by omega) (by unfold maxLen;omega) (by simp;(try omega)) ?_;intro A7 c7 w7 hown hk hrow;have hb:=Blk.keep (HB6.out.alloc _) hk HP6.out.nrO;have d3:=hb.cell 3;have d3f:=hb.frozen 3;have hp7:=Pc.out (Pc.keep HP6.out ((Keep.refl _ _).alloc _)) hown hk (fun h=>hown.ne_blk hb (by decide) p h rfl);have HP7:=qh hp7;have HB7:=qh hb;have HK7:Hid (Keep (fun k=>k=p∨Q k) w w7):=qh ((HK6.out.trans (Keep.mono ((Keep.refl Never _).alloc _) (fun _ _ h=>h.elim))).trans (hk.mono (fun q _ h=>.inr ((HQ.out q).2 (.inl h)))));have HR7:Hid (∀q,InRow A7 q→Q q∨w.heap.size≤q):=(fun q h=>by rcases hrow q h with h | h;exact .inl ((HQ.out q).2 (.inl h));exact .inr (by have:=HK6.out.size;simp at h;(try simp[World.setCell] at this);(try omega)));clear hb hp7 hown hk hrow))
  go_ret
  have hs:=Keep.set_ (Keep.refl (fun k=>k=p) w7) (p:=⟨p,3,none⟩) (.inl rfl) (.slice A7 (Out.length+1) c7)
  refine⟨by rw[Hr.out];rfl,HK7.out.trans (hs.mono (fun _ _ h=>.inl h)),(fun q=>InRow A7 q∨InRow A5 q),?_,fun q h=>?_⟩
  rotate_left
  ·rcases h with h | h
   ·exact HR7.out q h
   ·exact HR6.out q h
  rw[Hr.out]
  have hb7:=HB7.out.set_ 3 (.slice A7 (Out.length+1) c7)
  refine Pc.inv (HP7.out.keepp hs) (by simpa using hb7) Hc1.out Hc.out.2 (fun x h=>H9.out x (by simp[h])) Hg.out.1 (by have:=Hg.out.2.1;simp at this;omega) (by have:=HG3.out;simp;try omega) (by have:=Hg.out.2.2.1;split <;> omega) (by have:=Hg.out.2.2.2.1;simp;try omega)
theorem one_any (RB p RG K:Nat) (st:RW) (v:Int) (Q:Nat→Prop) (w:World) (h:InvW RB p RG K st Q w) (hK:K+1≤1000000) :
    Calls Tryz.prog 168 #[.pointer (some ⟨p,0,none⟩),.int .i64 v] w (OnePost RB p RG K st v Q w):=by
  by_cases hE:st.E=0
  rotate_left
  ·exact one_err RB p RG K st v Q w h hE hK
  by_cases hR:st.Read=true
  ·by_cases hg:getE st.Bits.length (vrow v).width=0
   rotate_left
   ·exact one_read_bad RB p RG K st v Q w h hE hR hK hg
   by_cases hm:rMay v (oneN st v)=false
   ·exact one_Rf RB p RG K st v Q w h hE hK hR hg hm
   have hm:rMay v (oneN st v)=true:=by simpa using hm
   by_cases h7:v=7
   ·exact one_R7 RB p RG K st v Q w h hE hK hR hg hm h7
   by_cases h5:v=5
   ·exact one_R5 RB p RG K st v Q w h hE hK hR hg hm h5
   exact one_Rg RB p RG K st v Q w h hE hK hR hg hm h7 h5
  have hR:st.Read=false:=by simpa using hR
  by_cases h7:v=7
  ·by_cases hm:rMay v (oneN st v)=false
   ·exact one_7f RB p RG K st v Q w h hE hK hR h7 hm
   have hm:rMay v (oneN st v)=true:=by simpa using hm
   exact one_77 RB p RG K st v Q w h hE hK hR h7 hm
  by_cases hV:st.V=[]
  ·exact one_none RB p RG K st v Q w h hE hR hK h7 hV
  by_cases hm:rMay v (oneN st v)=false
  ·exact one_Vf RB p RG K st v Q w h hE hK hR h7 hV hm
  have hm:rMay v (oneN st v)=true:=by simpa using hm
  by_cases h5:v=5
  ·exact one_V5 RB p RG K st v Q w h hE hK hR h7 hV hm h5
  exact one_Vg RB p RG K st v Q w h hE hK hR h7 hV hm h5
end Go.Proofs.YtpapiojicbbheaaGreatDoor

namespace Go.Proofs.YtpapiojicbbheaaGreatDoor
open Go.RowKit
def many (wh last:Int):Nat:=if wh=1 then last.toNat else if last=1∨wh=3∧last=2 then 1 else 0
def runT:Parts→Int→RW→RW
  | .nil,_,st=>st
  | .cons v wh l r,last,st=>
   if st.E≠0 then st
   else if wh=0 then runT r (oneR st v).1 (oneR st v).2
   else runT r last (iterR (runT l 0) (many wh last) st)
theorem runT_err:∀(T:Parts) (last:Int) {st:RW},st.E≠0→runT T last st=st
  | .nil,_,_,_=>rfl
  | .cons v wh l r,last,st,h=>by simp only[runT];rw[if_pos h]
theorem runT_walk:∀(T:Parts) (last:Int) (st:RW),st.E=0→EndR (walkL valR T last st) (runT T last st):=by
 intro T
 induction T with
 | nil=>intro last st hst;exact⟨rfl,hst⟩
 | cons v wh l r ihl ihr=>
  intro last st hst
  simp only[runT,if_neg (show ¬st.E≠0 by simpa using hst)]
  by_cases h0:wh=0
  ·rw[if_pos h0]
   simp only[walkL,if_pos h0]
   rcases oneR_val hst v with⟨n,st',h3,h4,h5⟩ | ⟨e,h3,h4,h5⟩
   ·rw[h3,h4];exact ihr n st' h5
   ·rw[h3,runT_err _ _ (by rw[h4];exact h5)];exact⟨h4,h5⟩
  ·rw[if_neg h0]
   simp only[walkL,if_neg h0]
   have hit:=iterR_walk (f:=runT l 0) (g:=walkL valR l 0) (fun st hst=>ihl 0 st hst)
   unfold many
   by_cases hw1:wh=1
   ·rw[if_pos hw1,if_pos hw1]
    have h3:=hit last.toNat st hst
    cases hg:iterE (walkL valR l 0) last.toNat st with
    | error e=>rw[hg] at h3;rw[runT_err _ _ (by rw[h3.1];exact h3.2)];exact h3
    | ok s1=>rw[hg] at h3;rw[h3.1];exact ihr last s1 h3.2
   ·rw[if_neg hw1,if_neg hw1]
    by_cases hw2:last=1∨wh=3∧last=2
    ·rw[if_pos hw2,if_pos hw2]
     have h3:=ihl 0 st hst
     have e3:iterR (runT l 0) 1 st=runT l 0 st:=by simp only[iterR,if_pos hst]
     rw[e3]
     cases hg:walkL valR l 0 st with
     | error e=>rw[hg] at h3;rw[runT_err _ _ (by rw[h3.1];exact h3.2)];exact h3
     | ok s1=>rw[hg] at h3;rw[h3.1];exact ihr last s1 h3.2
    ·rw[if_neg hw2,if_neg hw2]
     exact ihr last st hst
theorem toks_nil {T:Parts} (h:(toks T).length=0):T=.nil:=by
 cases T with
 | nil=>rfl
 | cons v wh l r=>simp only[toks] at h;split at h <;> simp at h
theorem no7_safe:∀{T:Parts},no7 T=true→safe7 T=true∧n7 T=0
  | .nil,_=>⟨rfl,rfl⟩
  | .cons v wh l r,h=>by
   simp only[no7,Bool.and_eq_true] at h
   have:=no7_safe (T:=r) (by simp_all)
   simp only[safe7,n7,this.1,this.2]
   by_cases h0:wh=0
   ·simp_all
   ·simp_all
theorem iterR_stop {f:RW→RW}{n:Nat}{st:RW} (h:st.E≠0):iterR f n st=st:=iterR_err h
def RunPost (RB p RG K:Nat) (st:RW) (Q:Nat→Prop) (w:World) (e:Ending) (w':World):Prop:=
  e=.returned (.tuple #[])∧Keep (fun k=>k=p∨Q k) w w'∧∃Q',InvW RB p RG K st Q' w'∧(∀k,Q' k→Q k∨w.heap.size≤k)
set_option maxHeartbeats 8000000 in
set_option maxRecDepth 100000 in
theorem run_any (RB p RG g:Nat) (hgp:g≠p):∀(N:Nat) (T:Parts),T.sz≤N→wfT T=true→safe7 T=true→∀(A:Option Addr) (n c K:Nat) (st:RW) (Q:Nat→Prop) (w:World),
    Rd w (g+1) 1 A n ((toks T).map .string)→(∀q,InRow A q→q=g)→n≤c→n≤1000→¬Q g→g<w.heap.size→InvW RB p RG K st Q w→K+n7 T+1≤1000000 →
    Calls Tryz.prog 125 #[.pointer (some ⟨p,0,none⟩),.slice A n c] w (RunPost RB p RG (K+n7 T) (runT T 0 st) Q w):=by
  intro N
  induction N with
  | zero=>
   intro T hN hwf hsf A n c K st Q w hr hA hc hn hQ hgw hinv hK
   have:T=.nil:=by cases T with
     | nil=>rfl
     | cons v wh l r=>simp[Parts.sz] at hN
   subst this
   have h0:n=0:=by have:=hr.1;simpa[toks] using this.symm
   subst h0
   have HI:=qh hinv
   clear hinv hr hA hQ hgw hK hsf hwf hgp
   go_enter Tryz.func125, Tryz.ntmps125
   go_wp2
   go_loop [4,5] (fun _ i=>i=.int .i64 0) (fun _ i=>0)
   case atStart=>rfl
   case round=>
    subst hrel
    go_wp2
    go_end0
    exact⟨rfl,Keep.refl _ _,Q,HI.out,fun _ h=>.inl h⟩
  | succ N ih=>
   intro T hN hwf hsf A n c K st Q w hr hA hc hn hQ hgw hinv hK
   have hlen:(toks T).length=n:=by have:=hr.1;simpa using this
   have IH:=qh ih
   have HT:=qh (And.intro hN (And.intro hwf hsf))
   have HR:=qh hr
   have HA:=qh hA
   have HQg:=qh (And.intro hQ (And.intro hgw hgp))
   have HI:=qh hinv
   have HK:=qh hK
   have HLen:=qh hlen
   clear ih hN hwf hsf hr hA hQ hgw hgp hinv hK hlen
   go_enter Tryz.func125, Tryz.ntmps125
   go_wp2
   go_loopw [4,5] (fun la i wr=>∃(k:Nat) (last:Int),k≤n∧i=.int .i64 k∧la=.int .i64 last∧0≤last∧last≤4294967295 ∧
       Hid (Keep (fun k=>k=p∨Q k) w wr∧∃(Qr:Nat→Prop) (R:Parts) (s':RW) (Kr:Nat),(∀k,Qr k→Q k∨w.heap.size≤k)∧k+(toks R).length=n∧(toks T).drop k=toks R∧R.sz≤N+1∧wfT R=true∧safe7 R=true∧Kr+n7 R=K+n7 T∧InvW RB p RG Kr s' Qr wr∧runT R last s'=runT T 0 st))
     (fun _ i _=>n - (intOf i).toNat)
   case atStart=>exact⟨0,0,by omega,rfl,rfl,by omega,by omega,Keep.refl _ _,Q,T,st,K,fun _ h=>.inl h,by have:=HLen.out;omega,rfl,HT.out.1,HT.out.2.1,HT.out.2.2,rfl,HI.out,rfl⟩
   case round=>
    obtain⟨k,last,hk,rfl,rfl,hl1,hl2,HH⟩:=hrel
    obtain⟨hkp,Qr,R,s',Kr,hQ1,e1,e2,e3,e4,e5,e6,hinv,hw⟩:=HH.out
    have hbk:Hid (∃cs,Blk wr p 172 cs∧cs[5]?=some (.int .i64 s'.E)):=by
     obtain⟨AV,cV,AB,cB,AO,cO,AG,cG,h1,_⟩:=hinv
     exact⟨_,h1,rfl⟩
    have hc5:wr.cell? ⟨p,5,none⟩=some (.int .i64 s'.E):=by
     obtain⟨cs,h1,h2⟩:=hbk.out
     rw[h1.cell 5,h2]
    by_cases h0:k<n
    rotate_left
    ·obtain rfl:k=n:=by omega
     obtain rfl:R=.nil:=toks_nil (by omega)
     have hki:¬(k:Int)<(k:Int):=by omega
     have HF:Hid (RunPost RB p RG (K+n7 T) (runT T 0 st) Q w (.returned (.tuple #[])) wr):=⟨rfl,hkp,Qr,by rw[←hw,←e6];exact hinv,hQ1⟩
     clear hinv hw hkp HH hQ1 e1 e2 e3 e4 e5 e6 hbk hc5
     go_wp2
     go_end0
     exact HF.out
    have hki:(k:Int)<(n:Int):=by omega
    by_cases hE:s'.E=0
    rotate_left
    ·have hE0:(s'.E==0)=false:=by simpa using hE
     have hst:runT T 0 st=s':=by rw[←hw,runT_err _ _ hE]
     have hb:=HK.out
     have HF:Hid (RunPost RB p RG (K+n7 T) (runT T 0 st) Q w (.returned (.tuple #[])) wr):=⟨rfl,hkp,Qr,by rw[hst];exact hinv.more (by omega) (by omega),hQ1⟩
     clear hinv hw hkp HH hQ1 e1 e2 e3 e4 e5 e6 hbk hst hb hE
     go_wp2
     go_end0
     exact HF.out
    rw[hE] at hc5
    have hRw:=HR.out.keep_far hkp (fun ad hA _ h=>by
     have hg:=HA.out ad.block ⟨ad,hA,rfl⟩
     rw[hg] at h
     rcases h with h | h
     ·exact HQg.out.2.2 h
     ·exact HQg.out.1 h)
    have HRw:=qh hRw
    obtain⟨ad,x,hAd,_,hx,hcx⟩:=hRw.at1 h0
    have hQg2:Hid (¬Qr g):=fun h=>by rcases hQ1 g h with h | h;exact HQg.out.1 h;have:=HQg.out.2.1;omega
    cases R with
    | nil=>simp[toks] at e1;omega
    | cons v wh l r=>
     have hxw:(toks (.cons v wh l r))[0]?=some x:=by
      rw[←e2,List.getElem?_drop,Nat.add_zero];exact hx
     
     have HNext:Hid (∀(W:World) (last':Int) (k':Nat) (s2:RW) (Q2:Nat→Prop) (K2:Nat),Keep (fun k=>k=p∨Qr k) wr W→(∀k,Q2 k→Qr k∨wr.heap.size≤k)→InvW RB p RG K2 s2 Q2 W→k'+(toks r).length=n→(toks T).drop k'=toks r→K2+n7 r=K+n7 T→runT r last' s2=runT T 0 st →
         Keep (fun k=>k=p∨Q k) w W∧∃(Qr:Nat→Prop) (R:Parts) (s':RW) (Kr:Nat),(∀k,Qr k→Q k∨w.heap.size≤k)∧k'+(toks R).length=n∧(toks T).drop k'=toks R∧R.sz≤N+1∧wfT R=true∧safe7 R=true∧Kr+n7 R=K+n7 T∧InvW RB p RG Kr s' Qr W∧runT R last' s'=runT T 0 st):=by
       intro W last' k' s2 Q2 K2 hkk hq2 hi2 a1 a2 a3 a4
       simp only[wfT,safe7,Parts.sz,Bool.and_eq_true] at e3 e4 e5
       exact⟨keep_next (S:=fun k=>k=p) hkp hQ1 hkk,Q2,r,s2,K2,own_next hkp hQ1 hq2,a1,a2,by omega,e4.2,e5.2,a3,hi2,a4⟩
     have Hinv:=qh hinv
     have Hw:=qh hw
     have Hk:=qh hkp
     have HQ1:=qh hQ1
     have HE:=qh hE
     have E:=qh (And.intro e1 (And.intro e2 (And.intro e3 (And.intro e4 (And.intro e5 e6)))))
     subst hAd
     clear hinv hw hkp HH hQ1 e1 e2 e3 e4 e5 e6 hbk hRw hE hx
     have t1:=word_is x [123]
     have t2:=word_is x [60]
     have t3:=word_is x [40,49,50]
     by_cases w0:wh=0
     ·subst w0
      have hxv:x=vName v.toNat:=by simpa[toks] using hxw.symm
      have hv:0≤v∧v<96:=by have:=E.out.2.2.2.1;simp only[wfT,Bool.and_eq_true,if_true,decide_eq_true_eq] at this;exact this.1
      have hop:=(names_plain v.toNat (by omega)).1
      rw[←hxv] at hop
      unfold isOpen wO wL wE at hop
      simp only[decide_eq_false_iff_not,not_or] at hop
      rw[decide_eq_false hop.1] at t1
      rw[decide_eq_false hop.2.1] at t2
      rw[decide_eq_false hop.2.2] at t3
      have HF:Hid (∀W,Keep Never wr W→Calls Tryz.prog 169 #[.string x] W fun e w'=>e=.returned (.int .i64 v)∧Keep Never W w'):=by
       intro W _
       refine(rfind_any x W).mono ?_
       rintro e w' ⟨y,rfl,hy,hk⟩
       rw[hxv] at hy
       rw[hy.one (find_name (by omega)),show ((v.toNat:Nat):Int)=v by omega]
       exact⟨rfl,hk⟩
      have HO:Hid (∀W,Keep Never wr W→Calls Tryz.prog 168 #[.pointer (some ⟨p,0,none⟩),.int .i64 v] W (OnePost RB p RG Kr s' v Qr W)):=by
       intro W hk
       exact one_any RB p RG Kr s' v Qr W (Hinv.out.keep hk) (by have:=E.out.2.2.2.2.2;have:=HK.out;omega)
      have hr1:=oneR_range s' v
      have hst:runT r (oneR s' v).1 (oneR s' v).2=runT T 0 st:=by
       have:=Hw.out
       simp only[runT,if_neg (show ¬s'.E≠0 by simpa using HE.out),if_true] at this
       exact this
      have Hst:=qh hst
      have Hr1:=qh hr1
      clear hop hxv hxw hst hr1
      go_wp2_with fail
      refine(HF.out _ (Keep.refl _ _)).mono ?_
      rintro e w1 ⟨rfl,hk1⟩
      have Hk1:=qh hk1
      clear hk1
      go_wp2_with fail
      refine(HO.out _ Hk1.out).mono ?_
      rintro e w2 ⟨rfl,hk2,Q2,hi2,hq2⟩
      obtain⟨e1,e2,_,_,_,e6⟩:=E.out
      have HFin:=qh (HNext.out w2 (oneR s' v).1 (k+1) (oneR s' v).2 Q2 (Kr+if v=7 then 1 else 0) ((Hk1.out.mono (fun _ _ h=>h.elim)).trans hk2) (fun q h=>by rcases hq2 q h with h | h;exact .inl h;exact .inr (Nat.le_trans Hk1.out.size h)) hi2
        (by simp[toks] at e1;omega) (by rw[←List.drop_drop,e2];simp[toks]) (by simp only[n7,true_and] at e6;omega) Hst.out)
      obtain⟨r1,r2⟩:=Hr1.out
      clear hk2 hi2 hq2 e1 e2 e6
      go_wp2_with fail
      go_roundw
      case rel=>exact⟨k+1,(oneR s' v).1,by omega,by go_num,rfl,r1,r2,HFin.out⟩
      case measure=>simp[intOf];try omega
     ·have hwh:wh=1∨wh=2∨wh=3:=by have:=E.out.2.2.2.1;simp only[wfT,if_neg w0,Bool.and_eq_true,decide_eq_true_eq] at this;exact this.1.1
      have hwl:wfT l=true:=by have:=E.out.2.2.2.1;simp only[wfT,if_neg w0,Bool.and_eq_true,decide_eq_true_eq] at this;exact this.1.2
      have hsl:no7 l=true:=by have:=E.out.2.2.2.2.1;simp only[safe7,Bool.and_eq_true,Bool.or_eq_true,decide_eq_true_eq,w0,false_or] at this;exact this.1
      obtain⟨hs7,hn7⟩:=no7_safe hsl
      have htk:toks (.cons v wh l r)=opn wh::(toks l++cls wh::toks r):=by simp only[toks,if_neg w0]
      have hxo:x=opn wh:=by rw[htk] at hxw;simpa using hxw.symm
      have hcl:=closeAt_bracket hwh hwl (toks r)
      rw[←htk,←E.out.2.1] at hcl
      have hel:k+(toks l).length+2+(toks r).length=n:=by have:=E.out.1;rw[htk] at this;simp at this;omega
      obtain⟨m,hm⟩:∃m,(toks l).length=m:=⟨_,rfl⟩
      rw[hm] at hcl hel
      have hinner:((toks T).take (k+m+1)).drop (k+1)=toks l:=by
       rw[List.drop_take,←List.drop_drop,E.out.2.1,htk,List.drop_succ_cons,List.drop_zero,show k+m+1 - (k+1)=m by omega,←hm,List.take_left]
      have hrest:(toks T).drop (k+m+1+1)=toks r:=by
       rw[show k+m+1+1=k+(m+2) by omega,←List.drop_drop,E.out.2.1,htk,List.drop_succ_cons,←hm,show (toks l).length+1=(toks l).length+1 from rfl,←List.drop_drop,List.drop_left,List.drop_succ_cons,List.drop_zero]
      have HCl:Hid (Calls Tryz.prog 170 #[.slice (some ad) n c,.int .i64 k] wr fun e w'=>e=.returned (.int .i64 ((k+m+1:Nat):Int))∧Keep Never wr w'):=by
       have:=closing_any (some ad) n c (g+1) (toks T) HLen.out wr HRw.out (by omega) k (by omega)
       rw[hcl] at this
       exact this
      have HC:Hid (∀(A':Option Addr) (c':Nat) (s1:RW) (Q1:Nat→Prop) (W:World),Rd W (g+1) 1 A' m ((toks l).map .string)→(∀q,InRow A' q→q=g)→m≤c'→¬Q1 g→wr.heap.size≤W.heap.size→InvW RB p RG Kr s1 Q1 W →
          Calls Tryz.prog 125 #[.pointer (some ⟨p,0,none⟩),.slice A' m c'] W (RunPost RB p RG Kr (runT l 0 s1) Q1 W)):=by
        intro A' c' s1 Q1 W a1 a2 a3 a4 a5 a6
        have hszl:l.sz≤N:=by have:=E.out.2.2.1;simp only[Parts.sz] at this;omega
        have:=IH.out l hszl hwl hs7 A' m c' Kr s1 Q1 W a1 a2 a3 (by omega) a4 (by have:=HQg.out.2.1;have:=Hk.out.size;omega) a6 (by have:=E.out.2.2.2.2.2;have:=HK.out;omega)
        rw[hn7] at this
        exact this
      have hst:runT r last (iterR (runT l 0) (many wh last) s')=runT T 0 st:=by
       have:=Hw.out
       simp only[runT,if_neg (show ¬s'.E≠0 by simpa using HE.out),if_neg w0] at this
       exact this
      have Hst:=qh hst
      have Hin:=qh hinner
      have Hre:=qh hrest
      have He6:Hid (Kr+n7 r=K+n7 T):=by have:=E.out.2.2.2.2.2;simp only[n7] at this;rw[if_neg (fun h=>w0 h.1)] at this;show _=_;omega
      have Hel:Hid (k+m+2+(toks r).length=n):=hel
      have hem:k+m+1<n:=by omega
      have hszs:Hid (∀w,(sizeOf 9).run Tryz.prog w=.ok 1 w):=fun w=>by kernel_rfl
      clear hxw hcl hm htk hinner hrest hst hel hwl hsl hs7 hn7 t1 t2 t3 hcx w0
      subst hxo
      have hcx:wr.cell? (ad.add k)=some (.string (opn wh)):=by
       obtain⟨ad',x,hAd,_,hx,hcx⟩:=HRw.out.at1 h0
       injection hAd with hAd
       subst hAd
       have hx':(toks T)[k]?=some (opn wh):=by
        have:((toks T).drop k)[0]?=some (opn wh):=by
         rw[E.out.2.1];simp only[toks];rw[if_neg (by omega)];rfl
        rwa [List.getElem?_drop,Nat.add_zero] at this
       rw[hx'] at hx
       injection hx with hx
       rw[hcx,hx]
      have Hcx:=qh hcx
      clear E hcx
      rcases hwh with rfl | rfl | rfl
      ·have hcx:wr.cell? (ad.add k)=some (.string ⟨#[123]⟩):=Hcx.out
       skip
       go_wp2_with fail
       refine HCl.out.mono ?_
       rintro e w1 ⟨rfl,hk1⟩
       have Hk1:=qh hk1
       have hcx:w1.cell? (ad.add k)=some (.string ⟨#[123]⟩):=by
        rw[hk1.cell (cell_lt Hcx.out) (fun h=>h)];exact Hcx.out
       have Hcx1:=qh hcx
       have hmg:((k+m+1:Nat):Int)=(k:Int)+m+1:=by omega
       rw[hmg]
       clear hk1 hc5
       go_wp2_with fail
       obtain⟨wo,rfl⟩:∃wo:World,wo=wr:=⟨_,rfl⟩
       go_loopw [8] (fun i wi=>∃j:Nat,j≤last.toNat∧i=.int .i64 j∧Hid (Keep (fun k=>k=p∨Qr k) wo wi∧∃(Q2:Nat→Prop) (s2:RW),(∀k,Q2 k→Qr k∨wo.heap.size≤k)∧InvW RB p RG Kr s2 Q2 wi∧iterR (runT l 0) (last.toNat - j) s2=iterR (runT l 0) (last.toNat) s'))
         (fun i _=>last.toNat - (intOf i).toNat)
       case atStart=>exact⟨0,by omega,rfl,Hk1.out.mono (fun _ _ h=>h.elim),Qr,s',fun _ h=>.inl h,Hinv.out.keep Hk1.out,rfl⟩
       case round=>
        obtain⟨j,hj,rfl,HJ⟩:=hrel
        obtain⟨hk2,Q2,s2,hq2,hi2,hit⟩:=HJ.out
        have hc5:wr.cell? ⟨p,5,none⟩=some (.int .i64 s2.E):=by
         obtain⟨AV,cV,AB,cB,AO,cO,AG,cG,h1,_⟩:=hi2
         exact h1.cell 5
        have HX:Hid (iterR (runT l 0) (last.toNat) s'=s2→Keep (fun k=>k=p∨Q k) w wr∧∃(Qr:Nat→Prop) (R:Parts) (s':RW) (Kr:Nat),(∀k,Qr k→Q k∨w.heap.size≤k)∧k+m+1+1+(toks R).length=n∧(toks T).drop (k+m+1+1)=toks R∧R.sz≤N+1∧wfT R=true∧safe7 R=true∧Kr+n7 R=K+n7 T∧InvW RB p RG Kr s' Qr wr∧runT R last s'=runT T 0 st):=by
         intro he
         exact HNext.out wr last (k+m+1+1) s2 Q2 Kr hk2 hq2 hi2 (by have:=Hel.out;omega) Hre.out He6.out (by have:=Hst.out;have hm9:many 1 last=last.toNat:=rfl;rw[hm9] at this;rw[he] at this;exact this)
        by_cases hjl:(j:Int)<last
        ·by_cases hE2:s2.E=0
         ·obtain⟨m',hm'⟩:∃m',last.toNat - j=m'+1:=⟨last.toNat - j - 1,by omega⟩
          rw[hm'] at hit
          simp only[iterR,if_pos hE2] at hit
          have hlast:last.toNat - (j+1)=m':=by omega
          have Hq2:=qh hq2
          have Hk2:=qh hk2
          have Hi2:=qh hi2
          have Hit:=qh hit
          have HL':=qh hlast
          rw[hE2] at hc5
          have HRw2:=qh (HRw.out.keep_far hk2 (fun ad' hA _ h=>by
           have hg:=HA.out ad'.block ⟨ad',hA,rfl⟩
           rw[hg] at h
           rcases h with h | h
           ·exact HQg.out.2.2 h
           ·exact hQg2.out h))
          clear hq2 hk2 hi2 hit hlast hm' HJ HX hE2
          go_wp2_with (refine wpList_cut rfl (.tmp 83) (.tmp 85) (.tmp 86) _ rfl Tryz.underlying174 hszs.out (some ad) n c (k+1) (k+m+1) m (by go_simp) ((k:Int)+1) ((k:Int)+m+1) (by go_simp) (by go_simp) (by omega) (by omega) (by omega) (by omega) hc ?_;intro A' c' HS)
          have hr3:=HS.out.1 _ _ _ HRw2.out
          rw[Nat.mul_one,Nat.mul_one,←List.map_take,←List.map_drop,Hin.out] at hr3
          refine(HC.out A' c' s2 Q2 wr hr3 (fun q h=>HA.out q (HS.out.2.2.2 q h)) HS.out.2.1 (fun h=>by rcases Hq2.out g h with h | h;exact hQg2.out h;have:=HQg.out.2.1;have:=Hk.out.size;omega) Hk2.out.size Hi2.out).mono ?_
          rintro e w3 ⟨rfl,hk3,Q3,hi3,hq3⟩
          have HF:Hid (Keep (fun k=>k=p∨Qr k) wo w3∧∃(Q2:Nat→Prop) (s2:RW),(∀k,Q2 k→Qr k∨wo.heap.size≤k)∧InvW RB p RG Kr s2 Q2 w3∧iterR (runT l 0) (last.toNat - (j+1)) s2=iterR (runT l 0) (last.toNat) s'):=
            ⟨keep_next (S:=fun k=>k=p) Hk2.out Hq2.out hk3,Q3,runT l 0 s2,own_next Hk2.out Hq2.out hq3,hi3,by rw[HL'.out];exact Hit.out⟩
          clear hk3 hi3 hq3 hr3 HS
          go_wp2_with fail
          go_roundw
          case rel=>exact⟨j+1,by omega,by go_num,HF.out⟩
          case measure=>simp[intOf];try omega
         ·have hE2':(s2.E==0)=false:=by simpa using hE2
          have HF:=qh (HX.out (by rw[←hit,iterR_stop hE2]))
          clear hq2 hk2 hi2 hit HJ HX hE2
          go_wp2_with fail
          go_roundw
          case rel=>exact⟨k+m+1+1,last,by omega,by go_num,rfl,hl1,hl2,HF.out⟩
          case measure=>simp[intOf];try omega
        ·have HF:=qh (HX.out (by rw[←hit,show last.toNat - j=0 by omega];rfl))
         clear hq2 hk2 hi2 hit HJ HX
         go_wp2_with fail
         go_roundw
         case rel=>exact⟨k+m+1+1,last,by omega,by go_num,rfl,hl1,hl2,HF.out⟩
         case measure=>simp[intOf];try omega
      ·by_cases h1:last=1
       ·have hcx:wr.cell? (ad.add k)=some (.string ⟨#[60]⟩):=Hcx.out
        have H1:=qh h1;have b1:(last==1)=true:=(by simpa using h1);clear h1
        go_wp2_with fail
        refine HCl.out.mono ?_
        rintro e w1 ⟨rfl,hk1⟩
        have Hk1:=qh hk1
        have hcx:w1.cell? (ad.add k)=some (.string ⟨#[60]⟩):=by
         rw[hk1.cell (cell_lt Hcx.out) (fun h=>h)];exact Hcx.out
        have Hcx1:=qh hcx
        have hmg:((k+m+1:Nat):Int)=(k:Int)+m+1:=by omega
        rw[hmg]
        clear hk1 hc5
        go_wp2_with fail
        obtain⟨wo,rfl⟩:∃wo:World,wo=wr:=⟨_,rfl⟩
        go_loopw [8] (fun i wi=>∃j:Nat,j≤1∧i=.int .i64 j∧Hid (Keep (fun k=>k=p∨Qr k) wo wi∧∃(Q2:Nat→Prop) (s2:RW),(∀k,Q2 k→Qr k∨wo.heap.size≤k)∧InvW RB p RG Kr s2 Q2 wi∧iterR (runT l 0) (1 - j) s2=iterR (runT l 0) (1) s'))
          (fun i _=>1 - (intOf i).toNat)
        case atStart=>exact⟨0,by omega,rfl,Hk1.out.mono (fun _ _ h=>h.elim),Qr,s',fun _ h=>.inl h,Hinv.out.keep Hk1.out,rfl⟩
        case round=>
         obtain⟨j,hj,rfl,HJ⟩:=hrel
         obtain⟨hk2,Q2,s2,hq2,hi2,hit⟩:=HJ.out
         have hc5:wr.cell? ⟨p,5,none⟩=some (.int .i64 s2.E):=by
          obtain⟨AV,cV,AB,cB,AO,cO,AG,cG,h1,_⟩:=hi2
          exact h1.cell 5
         have HX:Hid (iterR (runT l 0) (1) s'=s2→Keep (fun k=>k=p∨Q k) w wr∧∃(Qr:Nat→Prop) (R:Parts) (s':RW) (Kr:Nat),(∀k,Qr k→Q k∨w.heap.size≤k)∧k+m+1+1+(toks R).length=n∧(toks T).drop (k+m+1+1)=toks R∧R.sz≤N+1∧wfT R=true∧safe7 R=true∧Kr+n7 R=K+n7 T∧InvW RB p RG Kr s' Qr wr∧runT R last s'=runT T 0 st):=by
          intro he
          exact HNext.out wr last (k+m+1+1) s2 Q2 Kr hk2 hq2 hi2 (by have:=Hel.out;omega) Hre.out He6.out (by have:=Hst.out;have hm9:many 2 last=1:=(by unfold many;rw[if_neg (by decide),if_pos (.inl H1.out)]);rw[hm9] at this;rw[he] at this;exact this)
         by_cases hjl:(j:Int)<1
         ·by_cases hE2:s2.E=0
          ·obtain⟨m',hm'⟩:∃m',1 - j=m'+1:=⟨1 - j - 1,by omega⟩
           rw[hm'] at hit
           simp only[iterR,if_pos hE2] at hit
           have hlast:1 - (j+1)=m':=by omega
           have Hq2:=qh hq2
           have Hk2:=qh hk2
           have Hi2:=qh hi2
           have Hit:=qh hit
           have HL':=qh hlast
           rw[hE2] at hc5
           have HRw2:=qh (HRw.out.keep_far hk2 (fun ad' hA _ h=>by
            have hg:=HA.out ad'.block ⟨ad',hA,rfl⟩
            rw[hg] at h
            rcases h with h | h
            ·exact HQg.out.2.2 h
            ·exact hQg2.out h))
           clear hq2 hk2 hi2 hit hlast hm' HJ HX hE2
           go_wp2_with (refine wpList_cut rfl (.tmp 83) (.tmp 85) (.tmp 86) _ rfl Tryz.underlying174 hszs.out (some ad) n c (k+1) (k+m+1) m (by go_simp) ((k:Int)+1) ((k:Int)+m+1) (by go_simp) (by go_simp) (by omega) (by omega) (by omega) (by omega) hc ?_;intro A' c' HS)
           have hr3:=HS.out.1 _ _ _ HRw2.out
           rw[Nat.mul_one,Nat.mul_one,←List.map_take,←List.map_drop,Hin.out] at hr3
           refine(HC.out A' c' s2 Q2 wr hr3 (fun q h=>HA.out q (HS.out.2.2.2 q h)) HS.out.2.1 (fun h=>by rcases Hq2.out g h with h | h;exact hQg2.out h;have:=HQg.out.2.1;have:=Hk.out.size;omega) Hk2.out.size Hi2.out).mono ?_
           rintro e w3 ⟨rfl,hk3,Q3,hi3,hq3⟩
           have HF:Hid (Keep (fun k=>k=p∨Qr k) wo w3∧∃(Q2:Nat→Prop) (s2:RW),(∀k,Q2 k→Qr k∨wo.heap.size≤k)∧InvW RB p RG Kr s2 Q2 w3∧iterR (runT l 0) (1 - (j+1)) s2=iterR (runT l 0) (1) s'):=
             ⟨keep_next (S:=fun k=>k=p) Hk2.out Hq2.out hk3,Q3,runT l 0 s2,own_next Hk2.out Hq2.out hq3,hi3,by rw[HL'.out];exact Hit.out⟩
           clear hk3 hi3 hq3 hr3 HS
           go_wp2_with fail
           go_roundw
           case rel=>exact⟨j+1,by omega,by go_num,HF.out⟩
           case measure=>simp[intOf];try omega
          ·have hE2':(s2.E==0)=false:=by simpa using hE2
           have HF:=qh (HX.out (by rw[←hit,iterR_stop hE2]))
           clear hq2 hk2 hi2 hit HJ HX hE2
           go_wp2_with fail
           go_roundw
           case rel=>exact⟨k+m+1+1,last,by omega,by go_num,rfl,hl1,hl2,HF.out⟩
           case measure=>simp[intOf];try omega
         ·have HF:=qh (HX.out (by rw[←hit,show 1 - j=0 by omega];rfl))
          clear hq2 hk2 hi2 hit HJ HX
          go_wp2_with fail
          go_roundw
          case rel=>exact⟨k+m+1+1,last,by omega,by go_num,rfl,hl1,hl2,HF.out⟩
          case measure=>simp[intOf];try omega
       ·have hcx:wr.cell? (ad.add k)=some (.string ⟨#[60]⟩):=Hcx.out
        have H1:=qh h1;have b1:(last==1)=false:=(by simpa using h1);clear h1
        go_wp2_with fail
        refine HCl.out.mono ?_
        rintro e w1 ⟨rfl,hk1⟩
        have Hk1:=qh hk1
        have hcx:w1.cell? (ad.add k)=some (.string ⟨#[60]⟩):=by
         rw[hk1.cell (cell_lt Hcx.out) (fun h=>h)];exact Hcx.out
        have Hcx1:=qh hcx
        have hmg:((k+m+1:Nat):Int)=(k:Int)+m+1:=by omega
        rw[hmg]
        clear hk1 hc5
        go_wp2_with fail
        obtain⟨wo,rfl⟩:∃wo:World,wo=wr:=⟨_,rfl⟩
        go_loopw [8] (fun i wi=>∃j:Nat,j≤0∧i=.int .i64 j∧Hid (Keep (fun k=>k=p∨Qr k) wo wi∧∃(Q2:Nat→Prop) (s2:RW),(∀k,Q2 k→Qr k∨wo.heap.size≤k)∧InvW RB p RG Kr s2 Q2 wi∧iterR (runT l 0) (0 - j) s2=iterR (runT l 0) (0) s'))
          (fun i _=>0 - (intOf i).toNat)
        case atStart=>exact⟨0,by omega,rfl,Hk1.out.mono (fun _ _ h=>h.elim),Qr,s',fun _ h=>.inl h,Hinv.out.keep Hk1.out,rfl⟩
        case round=>
         obtain⟨j,hj,rfl,HJ⟩:=hrel
         obtain⟨hk2,Q2,s2,hq2,hi2,hit⟩:=HJ.out
         have hc5:wr.cell? ⟨p,5,none⟩=some (.int .i64 s2.E):=by
          obtain⟨AV,cV,AB,cB,AO,cO,AG,cG,h1,_⟩:=hi2
          exact h1.cell 5
         have HX:Hid (iterR (runT l 0) (0) s'=s2→Keep (fun k=>k=p∨Q k) w wr∧∃(Qr:Nat→Prop) (R:Parts) (s':RW) (Kr:Nat),(∀k,Qr k→Q k∨w.heap.size≤k)∧k+m+1+1+(toks R).length=n∧(toks T).drop (k+m+1+1)=toks R∧R.sz≤N+1∧wfT R=true∧safe7 R=true∧Kr+n7 R=K+n7 T∧InvW RB p RG Kr s' Qr wr∧runT R last s'=runT T 0 st):=by
          intro he
          exact HNext.out wr last (k+m+1+1) s2 Q2 Kr hk2 hq2 hi2 (by have:=Hel.out;omega) Hre.out He6.out (by have:=Hst.out;have hm9:many 2 last=0:=(by unfold many;rw[if_neg (by decide),if_neg (by rintro(h | h);exact H1.out h;exact absurd h.1 (by decide))]);rw[hm9] at this;rw[he] at this;exact this)
         by_cases hjl:(j:Int)<0
         ·omega
         ·have HF:=qh (HX.out (by rw[←hit,show 0 - j=0 by omega];rfl))
          clear hq2 hk2 hi2 hit HJ HX
          go_wp2_with fail
          go_roundw
          case rel=>exact⟨k+m+1+1,last,by omega,by go_num,rfl,hl1,hl2,HF.out⟩
          case measure=>simp[intOf];try omega
      ·by_cases h1:last=1
       ·have hcx:wr.cell? (ad.add k)=some (.string ⟨#[40,49,50]⟩):=Hcx.out
        have H1:=qh h1;have b1:(last==1)=true:=(by simpa using h1);clear h1
        go_wp2_with fail
        refine HCl.out.mono ?_
        rintro e w1 ⟨rfl,hk1⟩
        have Hk1:=qh hk1
        have hcx:w1.cell? (ad.add k)=some (.string ⟨#[40,49,50]⟩):=by
         rw[hk1.cell (cell_lt Hcx.out) (fun h=>h)];exact Hcx.out
        have Hcx1:=qh hcx
        have hmg:((k+m+1:Nat):Int)=(k:Int)+m+1:=by omega
        rw[hmg]
        clear hk1 hc5
        go_wp2_with fail
        obtain⟨wo,rfl⟩:∃wo:World,wo=wr:=⟨_,rfl⟩
        go_loopw [8] (fun i wi=>∃j:Nat,j≤1∧i=.int .i64 j∧Hid (Keep (fun k=>k=p∨Qr k) wo wi∧∃(Q2:Nat→Prop) (s2:RW),(∀k,Q2 k→Qr k∨wo.heap.size≤k)∧InvW RB p RG Kr s2 Q2 wi∧iterR (runT l 0) (1 - j) s2=iterR (runT l 0) (1) s'))
          (fun i _=>1 - (intOf i).toNat)
        case atStart=>exact⟨0,by omega,rfl,Hk1.out.mono (fun _ _ h=>h.elim),Qr,s',fun _ h=>.inl h,Hinv.out.keep Hk1.out,rfl⟩
        case round=>
         obtain⟨j,hj,rfl,HJ⟩:=hrel
         obtain⟨hk2,Q2,s2,hq2,hi2,hit⟩:=HJ.out
         have hc5:wr.cell? ⟨p,5,none⟩=some (.int .i64 s2.E):=by
          obtain⟨AV,cV,AB,cB,AO,cO,AG,cG,h1,_⟩:=hi2
          exact h1.cell 5
         have HX:Hid (iterR (runT l 0) (1) s'=s2→Keep (fun k=>k=p∨Q k) w wr∧∃(Qr:Nat→Prop) (R:Parts) (s':RW) (Kr:Nat),(∀k,Qr k→Q k∨w.heap.size≤k)∧k+m+1+1+(toks R).length=n∧(toks T).drop (k+m+1+1)=toks R∧R.sz≤N+1∧wfT R=true∧safe7 R=true∧Kr+n7 R=K+n7 T∧InvW RB p RG Kr s' Qr wr∧runT R last s'=runT T 0 st):=by
          intro he
          exact HNext.out wr last (k+m+1+1) s2 Q2 Kr hk2 hq2 hi2 (by have:=Hel.out;omega) Hre.out He6.out (by have:=Hst.out;have hm9:many 3 last=1:=(by unfold many;rw[if_neg (by decide),if_pos (.inl H1.out)]);rw[hm9] at this;rw[he] at this;exact this)
         by_cases hjl:(j:Int)<1
         ·by_cases hE2:s2.E=0
          ·obtain⟨m',hm'⟩:∃m',1 - j=m'+1:=⟨1 - j - 1,by omega⟩
           rw[hm'] at hit
           simp only[iterR,if_pos hE2] at hit
           have hlast:1 - (j+1)=m':=by omega
           have Hq2:=qh hq2
           have Hk2:=qh hk2
           have Hi2:=qh hi2
           have Hit:=qh hit
           have HL':=qh hlast
           rw[hE2] at hc5
           have HRw2:=qh (HRw.out.keep_far hk2 (fun ad' hA _ h=>by
            have hg:=HA.out ad'.block ⟨ad',hA,rfl⟩
            rw[hg] at h
            rcases h with h | h
            ·exact HQg.out.2.2 h
            ·exact hQg2.out h))
           clear hq2 hk2 hi2 hit hlast hm' HJ HX hE2
           go_wp2_with (refine wpList_cut rfl (.tmp 83) (.tmp 85) (.tmp 86) _ rfl Tryz.underlying174 hszs.out (some ad) n c (k+1) (k+m+1) m (by go_simp) ((k:Int)+1) ((k:Int)+m+1) (by go_simp) (by go_simp) (by omega) (by omega) (by omega) (by omega) hc ?_;intro A' c' HS)
           have hr3:=HS.out.1 _ _ _ HRw2.out
           rw[Nat.mul_one,Nat.mul_one,←List.map_take,←List.map_drop,Hin.out] at hr3
           refine(HC.out A' c' s2 Q2 wr hr3 (fun q h=>HA.out q (HS.out.2.2.2 q h)) HS.out.2.1 (fun h=>by rcases Hq2.out g h with h | h;exact hQg2.out h;have:=HQg.out.2.1;have:=Hk.out.size;omega) Hk2.out.size Hi2.out).mono ?_
           rintro e w3 ⟨rfl,hk3,Q3,hi3,hq3⟩
           have HF:Hid (Keep (fun k=>k=p∨Qr k) wo w3∧∃(Q2:Nat→Prop) (s2:RW),(∀k,Q2 k→Qr k∨wo.heap.size≤k)∧InvW RB p RG Kr s2 Q2 w3∧iterR (runT l 0) (1 - (j+1)) s2=iterR (runT l 0) (1) s'):=
             ⟨keep_next (S:=fun k=>k=p) Hk2.out Hq2.out hk3,Q3,runT l 0 s2,own_next Hk2.out Hq2.out hq3,hi3,by rw[HL'.out];exact Hit.out⟩
           clear hk3 hi3 hq3 hr3 HS
           go_wp2_with fail
           go_roundw
           case rel=>exact⟨j+1,by omega,by go_num,HF.out⟩
           case measure=>simp[intOf];try omega
          ·have hE2':(s2.E==0)=false:=by simpa using hE2
           have HF:=qh (HX.out (by rw[←hit,iterR_stop hE2]))
           clear hq2 hk2 hi2 hit HJ HX hE2
           go_wp2_with fail
           go_roundw
           case rel=>exact⟨k+m+1+1,last,by omega,by go_num,rfl,hl1,hl2,HF.out⟩
           case measure=>simp[intOf];try omega
         ·have HF:=qh (HX.out (by rw[←hit,show 1 - j=0 by omega];rfl))
          clear hq2 hk2 hi2 hit HJ HX
          go_wp2_with fail
          go_roundw
          case rel=>exact⟨k+m+1+1,last,by omega,by go_num,rfl,hl1,hl2,HF.out⟩
          case measure=>simp[intOf];try omega
       ·by_cases h2:last=2
        ·have hcx:wr.cell? (ad.add k)=some (.string ⟨#[40,49,50]⟩):=Hcx.out
         have H1:=qh h1;have H2:=qh h2;have b1:(last==1)=false:=(by simpa using h1);have b2:(last==2)=true:=(by simpa using h2);clear h1 h2
         go_wp2_with fail
         refine HCl.out.mono ?_
         rintro e w1 ⟨rfl,hk1⟩
         have Hk1:=qh hk1
         have hcx:w1.cell? (ad.add k)=some (.string ⟨#[40,49,50]⟩):=by
          rw[hk1.cell (cell_lt Hcx.out) (fun h=>h)];exact Hcx.out
         have Hcx1:=qh hcx
         have hmg:((k+m+1:Nat):Int)=(k:Int)+m+1:=by omega
         rw[hmg]
         clear hk1 hc5
         go_wp2_with fail
         obtain⟨wo,rfl⟩:∃wo:World,wo=wr:=⟨_,rfl⟩
         go_loopw [8] (fun i wi=>∃j:Nat,j≤1∧i=.int .i64 j∧Hid (Keep (fun k=>k=p∨Qr k) wo wi∧∃(Q2:Nat→Prop) (s2:RW),(∀k,Q2 k→Qr k∨wo.heap.size≤k)∧InvW RB p RG Kr s2 Q2 wi∧iterR (runT l 0) (1 - j) s2=iterR (runT l 0) (1) s'))
           (fun i _=>1 - (intOf i).toNat)
         case atStart=>exact⟨0,by omega,rfl,Hk1.out.mono (fun _ _ h=>h.elim),Qr,s',fun _ h=>.inl h,Hinv.out.keep Hk1.out,rfl⟩
         case round=>
          obtain⟨j,hj,rfl,HJ⟩:=hrel
          obtain⟨hk2,Q2,s2,hq2,hi2,hit⟩:=HJ.out
          have hc5:wr.cell? ⟨p,5,none⟩=some (.int .i64 s2.E):=by
           obtain⟨AV,cV,AB,cB,AO,cO,AG,cG,h1,_⟩:=hi2
           exact h1.cell 5
          have HX:Hid (iterR (runT l 0) (1) s'=s2→Keep (fun k=>k=p∨Q k) w wr∧∃(Qr:Nat→Prop) (R:Parts) (s':RW) (Kr:Nat),(∀k,Qr k→Q k∨w.heap.size≤k)∧k+m+1+1+(toks R).length=n∧(toks T).drop (k+m+1+1)=toks R∧R.sz≤N+1∧wfT R=true∧safe7 R=true∧Kr+n7 R=K+n7 T∧InvW RB p RG Kr s' Qr wr∧runT R last s'=runT T 0 st):=by
           intro he
           exact HNext.out wr last (k+m+1+1) s2 Q2 Kr hk2 hq2 hi2 (by have:=Hel.out;omega) Hre.out He6.out (by have:=Hst.out;have hm9:many 3 last=1:=(by unfold many;rw[if_neg (by decide),if_pos (.inr ⟨rfl,H2.out⟩)]);rw[hm9] at this;rw[he] at this;exact this)
          by_cases hjl:(j:Int)<1
          ·by_cases hE2:s2.E=0
           ·obtain⟨m',hm'⟩:∃m',1 - j=m'+1:=⟨1 - j - 1,by omega⟩
            rw[hm'] at hit
            simp only[iterR,if_pos hE2] at hit
            have hlast:1 - (j+1)=m':=by omega
            have Hq2:=qh hq2
            have Hk2:=qh hk2
            have Hi2:=qh hi2
            have Hit:=qh hit
            have HL':=qh hlast
            rw[hE2] at hc5
            have HRw2:=qh (HRw.out.keep_far hk2 (fun ad' hA _ h=>by
             have hg:=HA.out ad'.block ⟨ad',hA,rfl⟩
             rw[hg] at h
             rcases h with h | h
             ·exact HQg.out.2.2 h
             ·exact hQg2.out h))
            clear hq2 hk2 hi2 hit hlast hm' HJ HX hE2
            go_wp2_with (refine wpList_cut rfl (.tmp 83) (.tmp 85) (.tmp 86) _ rfl Tryz.underlying174 hszs.out (some ad) n c (k+1) (k+m+1) m (by go_simp) ((k:Int)+1) ((k:Int)+m+1) (by go_simp) (by go_simp) (by omega) (by omega) (by omega) (by omega) hc ?_;intro A' c' HS)
            have hr3:=HS.out.1 _ _ _ HRw2.out
            rw[Nat.mul_one,Nat.mul_one,←List.map_take,←List.map_drop,Hin.out] at hr3
            refine(HC.out A' c' s2 Q2 wr hr3 (fun q h=>HA.out q (HS.out.2.2.2 q h)) HS.out.2.1 (fun h=>by rcases Hq2.out g h with h | h;exact hQg2.out h;have:=HQg.out.2.1;have:=Hk.out.size;omega) Hk2.out.size Hi2.out).mono ?_
            rintro e w3 ⟨rfl,hk3,Q3,hi3,hq3⟩
            have HF:Hid (Keep (fun k=>k=p∨Qr k) wo w3∧∃(Q2:Nat→Prop) (s2:RW),(∀k,Q2 k→Qr k∨wo.heap.size≤k)∧InvW RB p RG Kr s2 Q2 w3∧iterR (runT l 0) (1 - (j+1)) s2=iterR (runT l 0) (1) s'):=
              ⟨keep_next (S:=fun k=>k=p) Hk2.out Hq2.out hk3,Q3,runT l 0 s2,own_next Hk2.out Hq2.out hq3,hi3,by rw[HL'.out];exact Hit.out⟩
            clear hk3 hi3 hq3 hr3 HS
            go_wp2_with fail
            go_roundw
            case rel=>exact⟨j+1,by omega,by go_num,HF.out⟩
            case measure=>simp[intOf];try omega
           ·have hE2':(s2.E==0)=false:=by simpa using hE2
            have HF:=qh (HX.out (by rw[←hit,iterR_stop hE2]))
            clear hq2 hk2 hi2 hit HJ HX hE2
            go_wp2_with fail
            go_roundw
            case rel=>exact⟨k+m+1+1,last,by omega,by go_num,rfl,hl1,hl2,HF.out⟩
            case measure=>simp[intOf];try omega
          ·have HF:=qh (HX.out (by rw[←hit,show 1 - j=0 by omega];rfl))
           clear hq2 hk2 hi2 hit HJ HX
           go_wp2_with fail
           go_roundw
           case rel=>exact⟨k+m+1+1,last,by omega,by go_num,rfl,hl1,hl2,HF.out⟩
           case measure=>simp[intOf];try omega
        ·have hcx:wr.cell? (ad.add k)=some (.string ⟨#[40,49,50]⟩):=Hcx.out
         have H1:=qh h1;have H2:=qh h2;have b1:(last==1)=false:=(by simpa using h1);have b2:(last==2)=false:=(by simpa using h2);clear h1 h2
         go_wp2_with fail
         refine HCl.out.mono ?_
         rintro e w1 ⟨rfl,hk1⟩
         have Hk1:=qh hk1
         have hcx:w1.cell? (ad.add k)=some (.string ⟨#[40,49,50]⟩):=by
          rw[hk1.cell (cell_lt Hcx.out) (fun h=>h)];exact Hcx.out
         have Hcx1:=qh hcx
         have hmg:((k+m+1:Nat):Int)=(k:Int)+m+1:=by omega
         rw[hmg]
         clear hk1 hc5
         go_wp2_with fail
         obtain⟨wo,rfl⟩:∃wo:World,wo=wr:=⟨_,rfl⟩
         go_loopw [8] (fun i wi=>∃j:Nat,j≤0∧i=.int .i64 j∧Hid (Keep (fun k=>k=p∨Qr k) wo wi∧∃(Q2:Nat→Prop) (s2:RW),(∀k,Q2 k→Qr k∨wo.heap.size≤k)∧InvW RB p RG Kr s2 Q2 wi∧iterR (runT l 0) (0 - j) s2=iterR (runT l 0) (0) s'))
           (fun i _=>0 - (intOf i).toNat)
         case atStart=>exact⟨0,by omega,rfl,Hk1.out.mono (fun _ _ h=>h.elim),Qr,s',fun _ h=>.inl h,Hinv.out.keep Hk1.out,rfl⟩
         case round=>
          obtain⟨j,hj,rfl,HJ⟩:=hrel
          obtain⟨hk2,Q2,s2,hq2,hi2,hit⟩:=HJ.out
          have hc5:wr.cell? ⟨p,5,none⟩=some (.int .i64 s2.E):=by
           obtain⟨AV,cV,AB,cB,AO,cO,AG,cG,h1,_⟩:=hi2
           exact h1.cell 5
          have HX:Hid (iterR (runT l 0) (0) s'=s2→Keep (fun k=>k=p∨Q k) w wr∧∃(Qr:Nat→Prop) (R:Parts) (s':RW) (Kr:Nat),(∀k,Qr k→Q k∨w.heap.size≤k)∧k+m+1+1+(toks R).length=n∧(toks T).drop (k+m+1+1)=toks R∧R.sz≤N+1∧wfT R=true∧safe7 R=true∧Kr+n7 R=K+n7 T∧InvW RB p RG Kr s' Qr wr∧runT R last s'=runT T 0 st):=by
           intro he
           exact HNext.out wr last (k+m+1+1) s2 Q2 Kr hk2 hq2 hi2 (by have:=Hel.out;omega) Hre.out He6.out (by have:=Hst.out;have hm9:many 3 last=0:=(by unfold many;rw[if_neg (by decide),if_neg (by rintro(h | h);exact H1.out h;exact H2.out h.2)]);rw[hm9] at this;rw[he] at this;exact this)
          by_cases hjl:(j:Int)<0
          ·omega
          ·have HF:=qh (HX.out (by rw[←hit,show 0 - j=0 by omega];rfl))
           clear hq2 hk2 hi2 hit HJ HX
           go_wp2_with fail
           go_roundw
           case rel=>exact⟨k+m+1+1,last,by omega,by go_num,rfl,hl1,hl2,HF.out⟩
           case measure=>simp[intOf];try omega
end Go.Proofs.YtpapiojicbbheaaGreatDoor
