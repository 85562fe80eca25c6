/- Texts of this claim, together: RefD, PackS, RefE, PnH, PackO, PnI, PmI. -/
import Derived.Test.YtpapiojicbbheaaGreatDoorTg12
import Derived.Deep.CutBlock
namespace Go.Proofs.YtpapiojicbbheaaGreatDoor
open Go.RowKit
theorem may70:rMay 7 0=true:=by decide +kernel
def RI (s:SI) (t:RW):Prop:=t.Read=false∧t.V=s.rest∧t.Out=itemsOf s.out∧t.E=0∧1≤s.out.length∧(t.Place≠0→0≤t.Place∧s.out[t.Place.toNat]?=some (7,0))
theorem RI_step (v:Int) (s:SI) (t:RW) (h:RI s t):Alike2 (fun a b=>a.1=b.1∧RI a.2 b.2) (valI v s) (valR v t):=by
 obtain⟨h1,h2,h3,h4,h5,h6⟩:=h
 obtain⟨rest,out⟩:=s
 obtain⟨V,R,Bits,Out,Got,E,P⟩:=t
 simp only at h1 h2 h3 h4 h5 h6
 subst h1 h2 h3 h4
 unfold valI valR
 by_cases h7:v=7
 ·subst h7
  rw[if_pos rfl]
  have e1:oneE ⟨V,false,Bits,itemsOf out,Got,0,P⟩ 7=0:=rfl
  have e2:oneN ⟨V,false,Bits,itemsOf out,Got,0,P⟩ 7=0:=rfl
  rw[if_neg (by rw[e1];simp),e2,if_neg (by rw[may70];simp)]
  refine⟨rfl,rfl,rfl,?_,rfl,by simp,fun _=>?_⟩
  ·simp[itemsOf,vWidth_eq]
  ·simp[itemsOf]
 ·rw[if_neg h7]
  cases V with
  | nil=>
   have e1:oneE ⟨[],false,Bits,itemsOf out,Got,0,P⟩ v=20:=by simp[oneE,h7]
   rw[if_pos (by rw[e1];decide),e1]
   rfl
  | cons n V=>
   have e1:oneE ⟨n::V,false,Bits,itemsOf out,Got,0,P⟩ v=0:=by simp[oneE,h7]
   have e2:oneN ⟨n::V,false,Bits,itemsOf out,Got,0,P⟩ v=n:=by simp[oneN,h7]
   rw[if_neg (by rw[e1];simp),e2,←vMay_eq]
   by_cases hm:vMay v n=true
   ·simp only[if_pos hm]
    rw[if_neg (by rw[hm];simp)]
    refine⟨rfl,by simp[oneS,h7],by simp[oneS,h7],?_,by simp[oneS,h7],by simp,?_⟩
    ·simp[itemsOf,vWidth_eq]
    ·simp only[if_neg h7]
     intro hp
     obtain⟨a,b⟩:=h6 hp
     exact⟨a,by rw[List.getElem?_append_left (List.getElem?_eq_some_iff.1 b).1];exact b⟩
   ·simp only[if_neg hm]
    rw[if_pos (by simpa using hm)]
    rfl
theorem valR_place {v:Int}{t t':RW}{n:Int} (h:valR v t=.ok (n,t')):(1≤t.Out.length→(t.Place≠0∨v=7)→t'.Place≠0)∧t.Out.length≤t'.Out.length:=by
 unfold valR at h
 split at h
 ·cases h
 split at h
 ·cases h
 injection h with h
 injection h with _ h
 subst h
 refine⟨fun h1 h2=>?_,by simp⟩
 simp only
 split
 ·omega
 ·rcases h2 with h2 | h2
  ·exact h2
  ·contradiction
theorem walkR_place {T:Parts}{last:Int}{t t':RW} (h:walkL valR T last t=.ok t'):(1≤t.Out.length→t.Place≠0→t'.Place≠0)∧t.Out.length≤t'.Out.length:=
  walk_inv (I:=fun t t'=>(1≤t.Out.length→t.Place≠0→t'.Place≠0)∧t.Out.length≤t'.Out.length) (fun _=>⟨fun _ h=>h,Nat.le_refl _⟩)
    (by rintro a b c ⟨h,g⟩ ⟨h',g'⟩;exact⟨fun h1 h2=>h' (by omega) (h h1 h2),by omega⟩) (fun v s n s' h=>⟨fun h1 h2=>(valR_place h).1 h1 (.inl h2),(valR_place h).2⟩) T last t t' h
theorem lead_place {id:Int}{T:Parts} (hl:lead id T=true) {last:Int}{t t':RW} (h1:1≤t.Out.length) (h:walkL valR T last t=.ok t'):t'.Place≠0:=by
 cases T with
 | nil=>simp[lead] at hl
 | cons v wh l r=>
  cases l with
  | cons _ _ _ _=>simp[lead] at hl
  | nil=>
   simp only[lead] at hl
   by_cases hu:upP id=true
   ·rw[if_pos hu] at hl
    simp only[Bool.and_eq_true,decide_eq_true_eq] at hl
    obtain⟨⟨rfl,rfl⟩,hr⟩:=hl
    simp only[walkL,if_true] at h
    rcases hf:valR 7 t with e | ⟨n,s1⟩
    ·rw[hf] at h;cases h
    ·rw[hf] at h
     have a:=valR_place hf
     exact(walkR_place h).1 (by omega) (a.1 h1 (.inr rfl))
   ·rw[if_neg hu] at hl
    cases r with
    | nil=>simp at hl
    | cons v' wh' l' r'=>
     cases l' with
     | cons _ _ _ _=>simp at hl
     | nil=>
      simp only[Bool.and_eq_true,decide_eq_true_eq] at hl
      obtain⟨⟨rfl,rfl,rfl,rfl⟩,hr⟩:=hl
      simp only[walkL,if_true] at h
      rcases hf:valR 6 t with e | ⟨n,s1⟩
      ·rw[hf] at h;cases h
      ·rw[hf] at h
       simp only at h
       have a:=valR_place hf
       rcases hf2:valR 7 s1 with e | ⟨n2,s2⟩
       ·rw[hf2] at h;cases h
       ·rw[hf2] at h
        have b:=valR_place hf2
        exact(walkR_place h).1 (by omega) (b.1 (by omega) (.inr rfl))
def rw0 (id:Int) (V:List Int):RW:=⟨V,false,[],[(id,8)],[],0,0⟩
theorem items_ref {id:Int}{V:List Int}{T:Parts} (hT:ptree id=some T) :
    (∃s,walkL valI T 0 ⟨V,[(5,id)]⟩=.ok s∧(runT T 0 (rw0 id V)).E=0∧(runT T 0 (rw0 id V)).V=s.rest∧(runT T 0 (rw0 id V)).Out=itemsOf s.out∧(s.rest=[]→(runT T 0 (rw0 id V)).Place=atP id)) ∨
    (∃e,walkL valI T 0 ⟨V,[(5,id)]⟩=.error e∧(runT T 0 (rw0 id V)).E=e∧e≠0):=by
  have h0:RI ⟨V,[(5,id)]⟩ (rw0 id V):=⟨rfl,rfl,rfl,rfl,by simp,fun h=>absurd rfl h⟩
  have hs:=walk_sim RI_step T 0 _ _ h0
  have hw:=runT_walk T 0 (rw0 id V) rfl
  cases h1:walkL valI T 0 ⟨V,[(5,id)]⟩ with
  | error e=>
   rw[h1] at hs
   cases h2:walkL valR T 0 (rw0 id V) with
   | error e'=>
    rw[h2] at hs hw
    obtain rfl:e=e':=hs
    exact .inr ⟨e,rfl,hw.1,hw.2⟩
   | ok t=>rw[h2] at hs;exact hs.elim
  | ok s=>
   rw[h1] at hs
   cases h2:walkL valR T 0 (rw0 id V) with
   | error e'=>rw[h2] at hs;exact hs.elim
   | ok t=>
    rw[h2] at hs hw
    obtain⟨rfl,hE⟩:=hw
    obtain⟨g1,g2,g3,g4,g5,g6⟩:=hs
    refine .inl ⟨s,rfl,hE,g2,g3,fun hr=>?_⟩
    have hl:=(ptree_chk hT).2.2.1
    obtain⟨p1,p2⟩:=g6 (lead_place hl (by simp[rw0]) h2)
    have hok:itemsM id V=.ok s.out:=by simp only[itemsM,hT,h1,hr,if_true]
    obtain⟨T',tr,hT',ho,hM,_,_⟩:=itemsM_ok hok
    rw[hT] at hT'
    injection hT' with hT'
    subst hT'
    rw[ho] at p2
    obtain⟨k,hk⟩:∃k:Nat,(runT T 0 (rw0 id V)).Place=k:=⟨(runT T 0 (rw0 id V)).Place.toNat,by omega⟩
    rw[hk] at p2 ⊢
    rw[Int.toNat_natCast] at p2
    have key:∀(t:List (Int×Int)),(∀x∈t,x.1≠7)→∀i:Nat,t[i]?≠some (7,0):=fun t h7 i hi=>h7 _ (List.mem_of_getElem? hi) rfl
    rcases trace_lead hl hM with⟨hu,m,t,rfl,h7⟩ | ⟨hu,a,m,t,rfl,h7⟩
    ·have:k=1:=by
      match k,p2 with
      | 0,p2=>simp at p2
      | 1,_=>rfl
      | k+2,p2=>simp only[List.getElem?_cons_succ] at p2;exact absurd p2 (key t h7 k)
     simp[atP,hu,this]
    ·have:k=2:=by
      match k,p2 with
      | 0,p2=>simp at p2
      | 1,p2=>simp at p2
      | 2,_=>rfl
      | k+3,p2=>simp only[List.getElem?_cons_succ] at p2;exact absurd p2 (key t h7 k)
     simp[atP,hu,this]
end Go.Proofs.YtpapiojicbbheaaGreatDoor

namespace Go.Proofs.YtpapiojicbbheaaGreatDoor
open Go.RowKit
theorem k57:(ptree 57).isSome=true:=by kernel_rfl
theorem k2:(ptree 2).isSome=false:=by kernel_rfl
end Go.Proofs.YtpapiojicbbheaaGreatDoor

namespace Go.Proofs.YtpapiojicbbheaaGreatDoor
open Go.RowKit
set_option maxHeartbeats 1000000 in
theorem total_big (l:List (Int×Int)) (hw:∀y∈l,0≤y.2∧y.2≤32) (A:Option Addr) (n c B:Nat) (w:World) (hn:l.length=n) (h5:n≤1000000) (hr:Rd w B 2 A n (bitCells l)) :
    Calls Tryz.prog 128 #[.slice A n c] w fun e w'=>e=.returned (.int .i64 (sumW l))∧w=w':=by
  have Hw:=qh hw
  have Hn:=qh hn
  have Hr:=qh hr
  clear hw hn hr
  go_enter Tryz.func128, Tryz.ntmps128
  go_wp2_with fail
  go_loop [3,4] (fun s i=>∃k:Nat,k≤n∧i=.int .i64 k∧s=.int .i64 (sumW (l.take k))) (fun _ i=>n - (intOf i).toNat)
  case atStart=>exact⟨0,by omega,rfl,rfl⟩
  case round=>
   obtain⟨k,hk,rfl,rfl⟩:=hrel
   have hs1:=sumW_bound Hw.out k
   have hs2:sumW (l.take k)≤32000000:=by have:=Hn.out;omega
   by_cases h0:k<n
   ·have hx:l[k]?=some (l[k]'(by have:=Hn.out;omega)):=List.getElem?_eq_getElem _
    have hy2:=Hw.out _ (List.mem_of_getElem? hx)
    generalize l[k]'(by have:=Hn.out;omega)=y at hx hy2
    obtain⟨y1,y2⟩:=y
    simp only at hy2
    obtain⟨hat1,hat2⟩:=bitCells_at _ hx
    obtain⟨ad,hA,_,hcc⟩:=Hr.out.2 (by omega)
    subst hA
    have d1:=hcc _ _ hat2
    rw[fld _ _ (by omega)] at d1
    have HS:Hid (sumW (l.take (k+1))=sumW (l.take k)+y2):=sumW_take hx
    obtain⟨S,hS⟩:∃S,sumW (l.take k)=S:=⟨_,rfl⟩
    rw[hS] at hs1 hs2
    rw[hS]
    have HS0:=qh hS
    clear hx hat1 hat2 hcc hS
    go_wp2_with fail
    go_round
    case rel=>exact⟨k+1,by omega,by go_num,by rw[HS.out,HS0.out]⟩
    case measure=>simp[intOf];try omega
   ·obtain rfl:k=n:=by omega
    have htk:Hid (sumW (l.take k)=sumW l):=by show _=_;rw[List.take_of_length_le (by have:=Hn.out;omega)]
    go_wp2_with fail
    go_ret
    exact⟨by rw[←htk.out];rfl,rfl⟩
def chkLen (id:Int):Bool:=match ptree id with | some T=>decide ((toks T).length≤1000)&&decide ((toks T).length≠0) | none=>true
theorem chkLen_all:pids.all chkLen=true:=by decide +kernel
theorem toks_len {id:Int}{T:Parts} (h:ptree id=some T):(toks T).length≤1000∧(toks T).length≠0:=by
 have:=List.all_eq_true.1 chkLen_all id (ptree_id h)
 unfold chkLen at this
 rw[h] at this
 simpa using this
theorem run_at {id:Int}{T:Parts} (hT:ptree id=some T) (hwf:wfT T=true) (hsf:safe7 T=true) (h7:n7 T=1) {b0 n c:Nat}{A:Option Addr}{w:World} (ho:Own w b0 9 1 A n c ((toks T).map .string)) (hn:n=(toks T).length)
    {B p RG K:Nat}{st:RW}{Q:Nat→Prop} (hp:p<b0) (hQ:∀k,Q k→k<b0) (hinv:InvW B p RG K st Q w) (hK:K+2≤1000000) :
    Calls Tryz.prog 125 #[.pointer (some ⟨p,0,none⟩),.slice A n c] w (RunPost B p RG (K+1) (runT T 0 st) Q w):=by
  obtain⟨hl1,hl2⟩:=toks_len hT
  rcases ho.form with⟨_,h0,_⟩ | ⟨g,cur,hA,hg,hb,hnc,_⟩
  ·omega
  ·subst hA
   have hr:=ho.rd
   have:=run_any B p RG g (by omega) T.sz T (Nat.le_refl _) hwf hsf (some ⟨g,0,none⟩) n c K st Q w ⟨hr.1,fun h=>by
    obtain⟨ad,e,_,hc⟩:=hr.2 h
    injection e with e
    subst e
    exact⟨_,rfl,Nat.lt_succ_self _,hc⟩⟩ (by rintro q ⟨ad,h1,h2⟩;injection h1 with h1;subst h1;exact h2.symm) hnc (by omega) (fun h=>by have:=hQ g h;omega) hb.lt hinv (by rw[h7];omega)
   rw[h7] at this
   exact this
theorem InvW.rows {B p RG K:Nat}{st:RW}{Q:Nat→Prop}{w:World} (h:InvW B p RG K st Q w):(∀k,Q k→RG≤k∧k<w.heap.size)∧p<w.heap.size:=by
 obtain⟨AV,cV,AB,cB,AO,cO,AG,cG,h1,h2,h3,h4,h5,h6,h7,h8,h9,g1,g2,g3,g4,g5,g6,g7,g8⟩:=h
 refine⟨fun k hk=>?_,h1.lt⟩
 rcases (h8 k).1 hk with h | h
 ·exact h6.row h
 ·exact h7.row h
set_option maxHeartbeats 4000000 in
set_option maxRecDepth 100000 in
theorem ritems_any (B:Nat) (id:Int) (V:List Int) (A:Option Addr) (n c:Nat) (w:World) (hV:Rd w B 1 A n (V.map (.int .i64))) (hn:V.length=n) (hc:n≤c) (hb:∀x∈V,i64 x) (h3:n≤8200) (hB:B≤w.heap.size) :
    Calls Tryz.prog 71 #[.agg (packCells id A n c)] w (ItRet w (ItemsM id V)):=by
  have HV:=qh hV
  have Hn:=qh hn
  have Hb:=qh hb
  have hb0:Hid (Blk (w.alloc (.cells #[.int .i64 id,.slice A n c] 105)) w.heap.size 105 #[.int .i64 id,.slice A n c]):=Blk.new w 105 _
  have hk0:Hid (Keep Never w (w.alloc (.cells #[.int .i64 id,.slice A n c] 105))):=(Keep.refl Never w).alloc _
  clear hV hn hb
  unfold packCells
  cases hT:ptree id with
  | none=>
   have hI:Hid (ItemsM id V=.error 50):=by show _=_;simp[ItemsM,itemsM,hT]
   go_enter Tryz.func71, Tryz.ntmps71
   go_wp2_with fail
   refine(rknown_any id _).mono ?_
   rintro e w1 ⟨rfl,rfl⟩
   rw[hT]
   clear hT
   go_wp2_with fail
   go_ret2
   exact⟨none,0,0,50,rfl,hk0.out,.inr ⟨hI.out,by decide,rfl,rfl,rfl⟩⟩
  | some T=>
   go_enter Tryz.func71, Tryz.ntmps71
   go_wp2_with fail
   refine(rknown_any id _).mono ?_
   rintro e w1 ⟨rfl,rfl⟩
   rw[hT]
   have HT:=qh hT
   clear hT
   go_wp2_with fail
   obtain⟨W0,hW0⟩:∃W0,w.alloc (.cells #[.int .i64 id,.slice A n c] 105)=W0:=⟨_,rfl⟩
   rw[hW0] at hb0 hk0 ⊢
   have hs0:W0.heap.size=w.heap.size+1:=by rw[←hW0];simp
   have HS0:Hid (W0.heap.size=w.heap.size+1):=hs0
   clear hW0
   have p0:=hb0.out.cell 0
   have p1:=hb0.out.cell 1
   have hW5:Hid (∀W,Calls Tryz.prog 124 #[.int .i64 5] W fun e w'=>e=.returned (.int .i64 8)∧Keep Never W w'):=fun W=>rwidth_any 5 W
   go_region_held3 (fun w'=>w'.cell? ⟨w.heap.size,0,none⟩=some (.int .i64 id)∧w'.cell? ⟨w.heap.size,1,none⟩=some (.slice A n c))
     (refine⟨?_,?_⟩ <;> first | go_keep | (rw[hk5.cell (by simp;omega) (fun h=>h)];go_keep))
     (first
       | (go_at_call 124; refine(hW5.out _).mono ?_;rintro e w5 ⟨rfl,hk5⟩))
   obtain⟨W2,hW2⟩:∃W2,(w5.alloc (.cells #[.int .i64 id,.int .i64 8] 162)).alloc (.cells #[.slice A n c,.bool false,.slice none 0 0,.slice (some ⟨w5.heap.size,0,none⟩) 1 1,.slice none 0 0,.int .i64 0,.int .i64 0] 172)=W2:=⟨_,rfl⟩
   rw[hW2]
   have hk05:Keep Never w w5:=hk0.out.trans ((Keep.refl Never W0).drew.trans hk5)
   have hs5:w.heap.size+1≤w5.heap.size:=by have:=hk5.size;simp at this;omega
   have hkW2:Keep Never w W2:=by rw[←hW2];exact(hk05.alloc _).alloc _
   have hsW2:W2.heap.size=w5.heap.size+2:=by rw[←hW2];simp
   have hbP:Blk W2 (w5.heap.size+1) 172 (walkCells A n c false none 0 0 (some ⟨w5.heap.size,0,none⟩) 1 1 none 0 0 0 0):=by
    have:=Blk.new (w5.alloc (.cells #[.int .i64 id,.int .i64 8] 162)) 172 (walkCells A n c false none 0 0 (some ⟨w5.heap.size,0,none⟩) 1 1 none 0 0 0 0)
    rw[←hW2];simpa[walkCells] using this
   have hbO:Blk W2 w5.heap.size 162 #[.int .i64 id,.int .i64 8]:=by
    rw[←hW2];exact(Blk.new w5 162 #[.int .i64 id,.int .i64 8]).alloc _
   have hb02:Blk W2 w.heap.size 105 #[.int .i64 id,.slice A n c]:=(hb0.out.keep ((Keep.refl Never W0).drew.trans hk5) (fun h=>h)).keep (S:=Never) (by rw[←hW2];exact((Keep.refl Never w5).alloc _).alloc _) (fun h=>h)
   obtain⟨p,hp⟩:∃p,w5.heap.size+1=p:=⟨_,rfl⟩
   have hInv:InvW B p w.heap.size (n+1) (rw0 id V) (fun q=>InRow (some ⟨w5.heap.size,0,none⟩) q∨InRow none q) W2:=by
    have hnp:¬InRow (some ⟨w5.heap.size,0,none⟩) p:=by rintro⟨ad,h1,h2⟩;injection h1 with h1;subst h1;simp only at h2;omega
    have hnn:∀q,¬InRow none q:=by rintro q ⟨_,h,_⟩;cases h
    refine⟨A,c,none,0,some ⟨w5.heap.size,0,none⟩,1,none,0,?_,?_,?_,Rd.nil _ _ _ _,Nat.le_refl _,?_,Own.nil _ _ _ _,fun _=>Iff.rfl,Hb.out,by simp[rw0],?_,?_,by omega,by simp[rw0],⟨by omega,hB⟩,⟨hnp,hnn p⟩,hkW2.size⟩
    ·rw[←hp];have:=Hn.out;simpa[rw0,this] using hbP
    ·have:=HV.out.keep hkW2 (fun _ h=>h.elim);rw[←Hn.out] at this;exact this
    ·show V.length≤c;have:=Hn.out;omega
    ·exact Own.of_blk2 (n:=1) (by simpa[rw0,bitCells] using hbO) rfl (by unfold maxLen;omega) (by omega)
    ·show V.length≤1000000;have:=Hn.out;omega
    ·show 1+V.length≤n+1;have:=Hn.out;omega
   have HkW2:=qh hkW2
   have Hb02:=qh hb02
   obtain⟨Q,HO5,HInv⟩:∃Q:Nat→Prop,Hid (∀q,Q q→w.heap.size≤q)∧Hid (InvW B p w.heap.size (n+1) (rw0 id V) Q W2):=by
    refine⟨_,?_,qh hInv⟩
    rintro q (⟨ad,h1,h2⟩ | ⟨_,h,_⟩)
    ·injection h1 with h1;subst h1;simp only at h2;omega
    ·cases h
   have HpS:Hid (w.heap.size<p∧p<W2.heap.size):=⟨by omega,by omega⟩
   rw[hp]
   have hl:=HT.out
   clear hInv hkW2 hb02 hbO hbP hsW2 hk05 hs5 hW2 hk5 p0 p1 hW5 hs0 hl
   have p0:=Hb02.out.cell 0
   go_wp2_with fail
   refine(grammar_any id _).mono ?_
   rintro e w6 ⟨s,rfl,hg,rfl⟩
   obtain⟨q1,q2,q3,q4,q5,_⟩:=gram_some hg HT.out
   have Hq:=qh (And.intro q2 (And.intro q3 q4))
   have Hq1:=qh q1
   clear hg q1 q2 q3 q4 p0
   go_wp2_with fail
   refine(words_any s (by omega) _).mono ?_
   rintro e w7 ⟨A7,n7',c7,rfl,hn7,ho7,hk7⟩
   rw[Hq1.out] at hn7 ho7
   obtain⟨rw1,rw2⟩:=HInv.out.rows
   have hrun:=run_at HT.out Hq.out.1 Hq.out.2.1 Hq.out.2.2 ho7 hn7 rw2 (fun k hk=>(rw1 k hk).2) (HInv.out.keep hk7) (by omega)
   have Hrun:=qh hrun
   have HkW7:=qtr HkW2 hk7
   clear hn7 ho7 hk7 rw1 rw2 hrun q5
   go_wp2_with fail
   refine Hrun.out.mono ?_
   rintro e w8 ⟨rfl,hk8,Q8,hi8,hq8⟩
   have hk08:Keep Never w w8:=HkW7.out.then_ hk8 (fun i hi h=>by
    rcases h with h | h
    ·have:=HpS.out;omega
    ·have:=HO5.out i h;omega)
   have hQ8:∀q,Q8 q→w.heap.size≤q:=fun q h=>by
    rcases hq8 q h with h | h
    ·exact HO5.out q h
    ·have:=HkW7.out.size;omega
   have hres:=items_ref (V:=V) HT.out
   generalize runT T 0 (rw0 id V)=X at hi8 hres
   obtain⟨XV,XR,XB,XO,XG,XE,XP⟩:=X
   simp only at hres
   obtain⟨AV,cV,AB,cB,AO,cO,AG,cG,h1,h2,hv3,h4,h5,h6,h7,h8,h9,g1,g2,g3,g4,g5,g6,g7,g8⟩:=hi8
   simp only at h1 h2 hv3 h4 h5 h6 h7 h8 h9 g1 g2 g3 g4 g5
   have H1:Hid (Blk w8 p 172 #[.slice AV XV.length cV,.bool XR,.slice AB XB.length cB,.slice AO XO.length cO,.slice AG XG.length cG,.int .i64 XE,.int .i64 XP]):=h1
   have H6:=qh h6
   have H08:=qh hk08
   have HOl:Hid (XO.length≤1000000):=qh (by omega)
   have HgO:Hid (∀q,InRow AO q→q≠p):=qh (fun q h e=>by subst e;exact g7.1 h)
   clear h1 h2 hv3 h4 h5 h6 h7 h8 h9 g1 g2 g3 g4 g5 g6 g7 g8 hk08 hk8 hq8 hQ8 Hrun
   rcases hres with⟨s9,hr1,hr2,hr3,hr4,hr5⟩ | ⟨e9,hr1,hr2,hr3⟩
   ·subst hr2
    have k5:=H1.out.cell 5
    have k5f:=H1.out.frozen 5
    have k0:=H1.out.cell 0
    by_cases hrest:s9.rest=[]
    rotate_left
    ·have hI:Hid (ItemsM id V=.error 20):=by show _=_;simp[ItemsM,itemsM,HT.out,hr1,hrest]
     have hlen:0<(XV.length:Int):=by
      rw[hr3]
      rcases s9 with⟨_ | ⟨a,l⟩,out⟩
      ·exact absurd rfl hrest
      ·simp;try omega
     have HS:Hid (Keep Never w (w8.setCell ⟨p,5,none⟩ (.int .i64 20))):=H08.out.set_ (p:=⟨p,5,none⟩) (.inr (by have:=HpS.out;simp;omega)) _
     have HB9:Hid (Blk (w8.setCell ⟨p,5,none⟩ (.int .i64 20)) p 172 #[.slice AV XV.length cV,.bool XR,.slice AB XB.length cB,.slice AO XO.length cO,.slice AG XG.length cG,.int .i64 20,.int .i64 XP]):=H1.out.set_ 5 _
     generalize hXl:XV.length=xl at *
     clear hr1 hr3 hr4 hr5 hrest hXl
     go_wp2_with fail
     obtain⟨W9,hW9⟩:∃W9,w8.setCell ⟨p,5,none⟩ (.int .i64 20)=W9:=⟨_,rfl⟩
     rw[hW9] at HS HB9 ⊢
     clear hW9 k5 k5f k0
     have m5:=HB9.out.cell 5
     go_quiet (fail)
     go_wp2_with fail
     go_ret2
     exact⟨none,0,0,20,rfl,HS.out.drewN _,.inr ⟨hI.out,by decide,rfl,rfl,rfl⟩⟩
    ·have hXP:=hr5 hrest
     obtain rfl:XV=[]:=by rw[hr3,hrest]
     have hok:itemsM id V=.ok s9.out:=by simp only[itemsM,HT.out,hr1,hrest,if_true]
     have hat:=itemsM_at hok
     obtain⟨S,hS⟩:∃S,sumW (itemsOf s9.out)=S:=⟨_,rfl⟩
     have hIt:ItemsM id V=if 8184<S then .error 2 else .ok ((itemsOf s9.out).set (atP id) (S,13)):=by simp only[ItemsM,hok,hS]
     have hX0:XO[atP id]?=some (0,13):=by rw[hr4,itemsOf,List.getElem?_map,hat];rfl
     have HT9:Hid (Calls Tryz.prog 128 #[.slice AO XO.length cO] w8 fun e w'=>e=.returned (.int .i64 S)∧w8=w'):=by
      have:=total_big XO (by rw[hr4];intro y hy;simp only[itemsOf,List.mem_map] at hy;obtain⟨x,_,rfl⟩:=hy;exact(vWidth_range x.1)) AO XO.length cO w8.heap.size w8 rfl HOl.out H6.out.rd
      rw[←hS,←hr4]
      exact this
     have HIt:=qh hIt
     have HX0:=qh hX0
     have HX4:=qh hr4
     have k3:=H1.out.cell 3
     have k6:=H1.out.cell 6
     have hk0:w8.cell? ⟨p,0,none⟩=some (.slice AV 0 cV):=k0
     clear hr1 hr3 hr4 hr5 hrest hok hat hS hIt hX0 k0
     go_wp2_with fail
     refine HT9.out.mono ?_
     rintro e w9 ⟨rfl,rfl⟩
     by_cases h8:8184<S
     ·have hI:Hid (ItemsM id V=.error 2):=by show _=_;rw[HIt.out,if_pos h8]
      go_wp2_with fail
      go_ret2
      exact⟨none,0,0,2,rfl,H08.out,.inr ⟨hI.out,by decide,rfl,rfl,rfl⟩⟩
     ·have hI:Hid (ItemsM id V=.ok (XO.set (atP id) (S,13))):=by show _=_;rw[HIt.out,if_neg h8,HX4.out]
      have hj:=(List.getElem?_eq_some_iff.1 HX0.out).1
      obtain⟨g,hAO,hgw⟩:∃g,AO=some ⟨g,0,none⟩∧w.heap.size≤g:=by
       rcases H6.out.form with⟨_,h0,_⟩ | ⟨g,cur,h1,h2,_⟩
       ·omega
       ·exact⟨g,h1,h2⟩
      subst hAO
      have hcell:w8.cell? ⟨g,atP id*2,none⟩=some (.int .i64 0):=by
       obtain⟨ad,had,_,hcc⟩:=H6.out.rd.2 (by omega)
       injection had with had
       subst had
       have:=hcc _ _ (bitCells_at _ HX0.out).1
       have e0:(⟨g,0,none⟩:Addr).add (atP id*2)=⟨g,atP id*2,none⟩:=by unfold Addr.add;split <;> simp_all
       rwa [e0] at this
      have hfro:w8.frozen? ⟨g,atP id*2,none⟩=false:=by
       have:=H6.out.frozen rfl (atP id*2)
       have e0:(⟨g,0,none⟩:Addr).add (atP id*2)=⟨g,atP id*2,none⟩:=by unfold Addr.add;split <;> simp_all
       rwa [e0] at this
      have hfin:Hid (∀q wf,wf=(w8.drewN q).setCell ⟨g,atP id*2,none⟩ (.int .i64 S)→ItRet w (ItemsM id V) (.returned (.tuple #[.slice (some ⟨g,0,none⟩) XO.length cO,.int .i64 0])) wf):=by
       rintro q wf rfl
       have ho:=(H6.out.drewN q).stored rfl (atP id*2) (.int .i64 S)
       have e0:(⟨g,0,none⟩:Addr).add (atP id*2)=⟨g,atP id*2,none⟩:=by unfold Addr.add;split <;> simp_all
       rw[e0] at ho
       refine⟨_,_,_,_,rfl,(H08.out.drewN q).set_ (.inr hgw) _,.inl ⟨_,hI.out,rfl,by simp,?_⟩⟩
       rw[bitCells_set _ HX0.out S]
       exact ho
      have hgp:g≠p:=HgO.out g ⟨_,rfl,rfl⟩
      generalize atP id=j at *
      subst hXP
      have hj':(j:Int)<(XO.length:Int):=by omega
      have hj0:(0:Int)≤(j:Int):=by omega
      clear k5 k5f hk0 HX0
      go_wp2_with fail
      go_region_held3 (fun w'=>w'.cell? ⟨p,3,none⟩=some (.slice (some ⟨g,0,none⟩) XO.length cO)∧w'.cell? ⟨p,6,none⟩=some (.int .i64 j))
        (refine⟨?_,?_⟩ <;> go_keep) (fail)
      have m3:(w8.setCell ⟨g,j*2,none⟩ (.int .i64 S)).cell? ⟨p,3,none⟩=some (.slice (some ⟨g,0,none⟩) XO.length cO):=by
       rw[World.cell?_setCell_other _ _ _ _ (by intro e;injection e with e1;exact hgp e1)];exact k3
      have HF:=qh (hfin.out 1 _ rfl)
      clear hcell hfro hfin k3 k6
      go_wp2_with fail
      go_ret2
      exact HF.out
   ·subst hr2
    have hI:Hid (ItemsM id V=.error XE):=by show _=_;simp[ItemsM,itemsM,HT.out,hr1]
    have e0:(XE==0)=false:=by simpa using hr3
    have e1:(XE != 0)=true:=by simpa using hr3
    have Hr3:=qh hr3
    have k5:=H1.out.cell 5
    have k0:=H1.out.cell 0
    clear hr1 hr3
    go_wp2_with fail
    go_quiet (fail)
    go_wp2_with fail
    go_ret2
    exact⟨none,0,0,XE,rfl,H08.out.drewN _,.inr ⟨hI.out,Hr3.out,rfl,rfl,rfl⟩⟩
end Go.Proofs.YtpapiojicbbheaaGreatDoor

namespace Go.Proofs.YtpapiojicbbheaaGreatDoor
open Go.RowKit
theorem bad17_of {id:Int}{V:List Int}{e:Int} (h:ItemsM id V=.error e):badP (id,V)=true:=by unfold badP;simp only;rw[h]
theorem good17_of {id:Int}{V:List Int}{q:List (Int×Int)} (h:ItemsM id V=.ok q):badP (id,V)=false:=by unfold badP;simp only;rw[h]
theorem secs15 {rv:Bool}{V:List Int} (h:5≤V.length):secsM rv V=if V.getD 0 0≠nomI rv then .error 20 else if 8≤V.getD 4 0 then .error 2 else secs4 (V.getD 1 0) (sectsR (V.getD 1 0) (V.getD 4 0+1).toNat 0 (V.drop 5)):=by
 match V,h with
 | a::b::c::d::e::r,_=>rfl
theorem sectsR_err17 {u:Int}:∀{k:Nat}{a:Int}{V:List Int}{e:Int},sectsR u k a V=.error e→e≠0
  | 0,a,V,e,h=>by unfold sectsR at h;cases h
  | k+1,a,V,e,h=>by
   unfold sectsR at h
   by_cases h0:(sectR u a V 0).e≠0
   ·rw[if_pos h0] at h;injection h with h;rw[←h];exact h0
   ·rw[if_neg h0] at h
    cases hs:sectsR u k (sectR u a V 0).s.1 (sectR u a V 0).v with
    | error x=>rw[hs] at h;injection h with h;rw[←h];exact sectsR_err17 hs
    | ok q=>rw[hs] at h;obtain⟨l,x⟩:=q;cases h
theorem gap_err17 {u ge:Int}{zs:List Sc}{zv:List Int} (h:(gapR u zv).2=ge) (h0:ge≠0):secs4 u (.ok (zs,zv))=.error ge:=by
 unfold secs4 secs3
 simp only
 rw[if_pos (by rw[h];exact h0),h]
theorem gap_ok17 {u ga:Int}{zs:List Sc}{zv:List Int} (h:(gapR u zv).2=0) (ha:gapA u zv=ga):secs4 u (.ok (zs,zv))=.ok (zs,ga):=by
 unfold secs4 secs3
 simp only
 rw[if_neg (by rw[h];decide),←ha]
 unfold gapA
 rw[if_pos h]
theorem succ_nat17 (m:Nat):((m:Int)+1).toNat=m+1:=by omega
theorem wrap_succ17 {m:Nat} (h:m≤7):IntKind.i64.wrap ((m:Int)+1)=(m:Int)+1:=IntWalk.i64_in _ (by omega)
theorem wrap_succ17' {m:Nat} (h:m≤7):wrap64 ((m:Int)+1)=(m:Int)+1:=by have:=wrap_succ17 h;rwa [IntWalk.i64_left] at this
theorem le_of_int7 {m:Nat} (h:¬(m:Int)>7):m≤7:=by omega
theorem int_nat7 {x:Int} (h:0≤x):∃m:Nat,x=(m:Int):=⟨x.toNat,by omega⟩
theorem one_lt17 {n:Nat} (h:5≤n):(1:Int)<(n:Int):=by omega
theorem nb17 {w:World}{bm i:Nat} (hb:w.heap.size+1<bm) (hi:i<w.heap.size) (h:i=bm):False:=by omega
theorem nb17a {w:World}{bm:Nat} (hb:w.heap.size+1<bm) (h:w.heap.size=bm):False:=by omega
theorem nb17b {w:World}{bm:Nat} (hb:w.heap.size+1<bm) (h:w.heap.size+1=bm):False:=by omega
theorem nc17 {w:World}{bm br i:Nat} (hb:w.heap.size+1<bm) (hr:bm<br) (hi:i<w.heap.size) (h:i=bm∨i=br):False:=by omega
theorem nc17a {w:World}{bm br:Nat} (hb:w.heap.size+1<bm) (hr:bm<br) (h:w.heap.size=bm∨w.heap.size=br):False:=by omega
theorem nc17b {w:World}{bm br:Nat} (hb:w.heap.size+1<bm) (hr:bm<br) (h:w.heap.size+1=bm∨w.heap.size+1=br):False:=by omega
theorem one_max17:1≤maxLen:=by unfold maxLen;omega
theorem in_row17 {br i:Nat} (h:InRow (some ⟨br,0,none⟩) i):i=br:=by obtain⟨_,h1,h2⟩:=h;cases h1;exact h2.symm
theorem wrap_next17 {k n:Nat} (hk:k<n) (hn:n≤1000000):IntKind.i64.wrap ((k:Int)+1)=((k+1:Nat):Int):=by rw[show IntKind.i64.wrap ((k:Int)+1)=(k:Int)+1 from IntWalk.i64_in _ (by omega)];push_cast;rfl
theorem wrap_next17' {k n:Nat} (hk:k<n) (hn:n≤1000000):wrap64 ((k:Int)+1)=((k+1:Nat):Int):=by have:=wrap_next17 hk hn;rwa [IntWalk.i64_left] at this
theorem stepL_err17 {t:Tp}{path:List Stp}{v:List Int}{e:Int} (h:stepL t path v=.error e):e≠0:=by
 unfold stepL at h
 split at h
 ·injection h with h;rw[←h];decide
 ·injection h with h;rw[←h];decide
 ·split at h
  ·cases h
  ·split at h
   ·injection h with h;rw[←h];decide
   ·split at h
    ·injection h with h;rw[←h];decide
    ·cases h
theorem linksR_err17 {t:Tp}:∀{k:Nat}{path:List Stp}{v:List Int}{e:Int},linksR t k path v=.error e→e≠0
  | 0,path,v,e,h=>by unfold linksR at h;cases h
  | k+1,path,v,e,h=>by
   unfold linksR at h
   split at h
   ·injection h with h;rw[←h];decide
   ·cases hs:stepL t path v with
    | error x=>rw[hs] at h;injection h with h;rw[←h];exact stepL_err17 hs
    | ok q=>rw[hs] at h;exact linksR_err17 h
theorem linkedR_err17 {t:Tp}{path:List Stp}{v:List Int}{e:Int} (h:linkedR t path v=.error e):e≠0:=by
 unfold linkedR at h
 split at h
 ·injection h with h;rw[←h];decide
 ·cases hs:stepL t path (v.drop 2) with
  | error x=>rw[hs] at h;injection h with h;rw[←h];exact stepL_err17 hs
  | ok q=>rw[hs] at h;exact linksR_err17 h
theorem way_start17 {t:Tp}{ref:Int}{b:Bl} (hc:checkM t=0) (hb:balM t.2.2.1 ref=some b) (rv:Bool):WayI t [(b.2.1,rv)]:=
  ⟨by simp,by simp,fun u hu=>by rw[List.mem_singleton.1 hu];exact(check_bal hc (bal_mem hb).1).2.2.1⟩
set_option maxHeartbeats 4000000 in
set_option maxRecDepth 100000 in
theorem rread17_any (x:TA) (t:Tp) (B:Nat) (ref:Int) (rv:Bool) (A:Option Addr) (n c:Nat) (l:List Pk) (w:World) (h:TpAt w B x t) (hs:TpSmall x t) (hB:B≤w.heap.size) (hl:PksAt w B A n c l) (hn:n≤1000000) :
    Calls Tryz.prog 19 #[.agg x.cs,.int .i64 ref,.bool rv,.slice A n c] w (MaRet (readM badP t ref rv l) w):=by
  have HCh:=qh (fun (W:World) (hk:Keep Never w W)=>rcheck_any x t B W (h.keep hk) hs (Nat.le_trans hB hk.size))
  have HPl:=qh (fun (W:World) (hk:Keep Never w W)=>rplace17_any x t B ⟨none,0,0,none,0,0⟩ (ref,rv,[],[],0) W (h.keep hk) hs.b)
  have HIt:=qh (fun (W:World) (hk:Keep Never w W) (q:Pk) (A1:Option Addr) (n1 c1:Nat) (q1:Rd W B 1 A1 n1 (q.2.map (.int .i64))) (q2:n1≤c1) (q4:∀y∈q.2,i64_ y) (q5:q.2.length≤8200)=>ritems_any B q.1 q.2 A1 n1 c1 W q1 (by have:=q1.1;simpa using this) q2 q4 (by have h1:=q1.1;simp at h1;omega) (Nat.le_trans hB hk.size))
  have HTp:=qh h
  have HTs:=qh hs
  have HPk:=qh hl
  have HBw:=qh hB
  have HNn:=qh hn
  have HNe:Hid (t.1.length≤100000000):=qh (by rw[←h.e.len];exact hs.e)
  obtain⟨xa,hxa⟩:∃z:TA,x=z:=⟨_,rfl⟩
  have HXa:=qh hxa
  rw[hxa] at HCh HPl ⊢
  clear hxa
  obtain⟨Ae,ne,ce,Aj,nj,cj,Ab,nb,cb,Ar,nr,cr⟩:=xa
  simp only[TA.cs] at HCh HPl ⊢
  clear h hs hl
  obtain⟨w1,hw1⟩:∃V:World,w.alloc (.cells #[.slice Ae ne ce,.slice Aj nj cj,.slice Ab nb cb,.slice Ar nr cr] 27)=V:=⟨_,rfl⟩
  have zw1:w1.heap.size=w.heap.size+1:=by rw[←hw1];simp
  have kw1:Keep Never w w1:=by rw[←hw1];exact(Keep.refl _ _).alloc _
  have bw1:=Blk.new w 27 #[.slice Ae ne ce,.slice Aj nj cj,.slice Ab nb cb,.slice Ar nr cr]
  rw[hw1] at bw1
  obtain⟨w2,hw2⟩:∃V:World,w1.alloc (.cells #[.int .i64 0,.bool false,.slice none 0 0,.slice none 0 0,.int .i64 0] 38)=V:=⟨_,rfl⟩
  have kw2:Keep Never w1 w2:=by rw[←hw2];exact(Keep.refl _ _).alloc _
  have bw2:=Blk.new w1 38 #[.int .i64 0,.bool false,.slice none 0 0,.slice none 0 0,.int .i64 0]
  rw[hw2,zw1] at bw2
  have HB1:=qh (bw1.keep kw2 (fun h=>h))
  have HB2:=qh bw2
  have HK:=qh (kw1.trans kw2)
  clear kw1 kw2 bw1 bw2
  obtain⟨ck,hck⟩:∃z,checkM t=z:=⟨_,rfl⟩
  have HC:=qh (HCh.out w2 HK.out)
  rw[hck] at HC
  have HCk:=qh hck
  clear hck HCh
  obtain⟨y0,y1,y2,y3⟩:=bc4 HB1.out
  go_enter Tryz.func19, Tryz.ntmps19
  go_wp2_with fail
  refine HC.out.mono ?_
  rintro en w3 ⟨rfl,hk⟩
  have HK3:=qtr HK hk
  have HT3:=qkb HB1 hk
  have HR3:=qkb HB2 hk
  clear hk HC HB1 HB2 y0 y1 y2 y3 hw1 hw2 zw1
  by_cases g0:ck=0
  case neg=>
   have t0:(ck != 0)=true:=by simpa using g0
   have HF:Hid (readM badP t ref rv l=(noMa,1)):=qh (read_chk (by rw[HCk.out];exact g0))
   clear g0
   obtain⟨r0,r1,r2,r3,r4⟩:=bc5 HR3.out
   have rf0:=HR3.out.frozen 0
   have rf1:=HR3.out.frozen 1
   have rf2:=HR3.out.frozen 2
   have rf3:=HR3.out.frozen 3
   have rf4:=HR3.out.frozen 4
   go_wp2_with fail
   (try simp only[Exit.inBlock,Exit.then])
   refine bodyPost_ret (ma_results2 (fn:=Tryz.f19) (r:=8) (s:=9) rfl (put5_blk HR3.out (.int .i64 0) (.bool false) (.slice none 0 0) (.slice none 0 0) (.int .i64 0)) _ rfl) rfl ?_
   rw[HF.out]
   exact⟨⟨none,0,0,none,0,0⟩,rfl,ma_nil,put5_own HK3.out (.inr (by omega)) _ _ _ _ _⟩
  have t0:(ck != 0)=false:=by simpa using g0
  have HC0:Hid (checkM t=0):=qh (HCk.out.trans g0)
  have HD0:=qh (read_bal (ref:=ref) (rv:=rv) (l:=l) HC0.out)
  clear g0 HCk
  go_upto_region 4 with(fail)
  clear t0
  obtain⟨w4,hw4⟩:∃V:World,w3.alloc (.cells #[.int .i64 ref,.bool rv,.slice none 0 0,.slice none 0 0,.int .i64 0] 38)=V:=⟨_,rfl⟩
  have hk:Keep Never w3 w4:=by rw[←hw4];exact(Keep.refl _ _).alloc _
  have bx:=Blk.new w3 38 #[.int .i64 ref,.bool rv,.slice none 0 0,.slice none 0 0,.int .i64 0]
  rw[hw4] at bx
  obtain⟨bm,hbm⟩:∃q,w3.heap.size=q:=⟨_,rfl⟩
  rw[hbm] at bx
  rw[hw4]
  (try rw[hbm])
  have HBm:Hid (w.heap.size+1<bm):=qh (by rw[←hbm];exact HR3.out.lt)
  have HM4:=qh bx
  clear hw4 hbm bx
  have HK4:=qtr HK3 hk
  have HT4:=qkb HT3 hk
  have HR4:=qkb HR3 hk
  clear hk HK3 HT3 HR3
  obtain⟨ob,hob⟩:∃z,balM t.2.2.1 ref=z:=⟨_,rfl⟩
  have hw:=HPl.out w4 HK4.out
  (try simp only at hw)
  rw[hob] at hw HD0
  have HC:=qh hw
  have HOb:=qh hob
  clear hw hob HPl
  obtain⟨y0,y1,y2,y3⟩:=bc4 HT4.out
  obtain⟨m0,m1,m2,m3,m4⟩:=bc5 HM4.out
  go_wp2_with fail
  refine HC.out.mono ?_
  rintro en w5 ⟨rfl,hk⟩
  have HK5:=qtr HK4 hk
  have HT5:=qkb HT4 hk
  have HR5:=qkb HR4 hk
  have HM5:=qkb HM4 hk
  clear hk HK4 HT4 HR4 HM4
  clear HC y0 y1 y2 y3 m0 m1 m2 m3 m4
  cases ob with
  | none=>
   have HF:Hid (readM badP t ref rv l=(noMa,4)):=qh HD0.out
   simp only[Option.getD,Option.isSome]
   have HKz:=qh (HK5.out.alloc (.cells #[.int .i64 0,.int .i64 0,.bool rv] 71))
   have HRz:=qh (HR5.out.alloc (.cells #[.int .i64 0,.int .i64 0,.bool rv] 71))
   obtain⟨r0,r1,r2,r3,r4⟩:=bc5 HRz.out
   have rf0:=HRz.out.frozen 0
   have rf1:=HRz.out.frozen 1
   have rf2:=HRz.out.frozen 2
   have rf3:=HRz.out.frozen 3
   have rf4:=HRz.out.frozen 4
   go_wp2_with fail
   (try simp only[Exit.inBlock,Exit.then])
   refine bodyPost_ret (ma_results2 (fn:=Tryz.f19) (r:=8) (s:=9) rfl (put5_blk HRz.out (.int .i64 0) (.bool false) (.slice none 0 0) (.slice none 0 0) (.int .i64 0)) _ rfl) rfl ?_
   rw[HF.out]
   exact⟨⟨none,0,0,none,0,0⟩,rfl,ma_nil,put5_own HKz.out (.inr (by omega)) _ _ _ _ _⟩
  | some b=>
   obtain⟨b1,b2,b3⟩:=b
   simp only[Option.getD,Option.isSome] at HD0 ⊢
   obtain⟨w6,hw6⟩:∃V:World,w5.alloc (.cells #[.int .i64 b2,.int .i64 b3,.bool rv] 71)=V:=⟨_,rfl⟩
   have hk:Keep Never w5 w6:=by rw[←hw6];exact(Keep.refl _ _).alloc _
   have B6:=Blk.new w5 71 #[.int .i64 b2,.int .i64 b3,.bool rv]
   rw[hw6] at B6
   obtain⟨bb,hbb⟩:∃q,w5.heap.size=q:=⟨_,rfl⟩
   rw[hbb] at B6
   have HD6:=qh B6
   have HBb:Hid (bm<bb):=qh (by rw[←hbb];exact HM5.out.lt)
   have HK6:=qtr HK5 hk
   have HT6:=qkb HT5 hk
   have HR6:=qkb HR5 hk
   have HM6:=qkb HM5 hk
   clear hk HK5 HT5 HR5 HM5
   clear B6
   by_cases g1:0<n
   case neg=>
    obtain rfl:n=0:=by omega
    have HF:Hid (readM badP t ref rv l=(noMa,50)):=qh (by
     have:l=[]:=List.length_eq_zero_iff.1 HPk.out.len
     rw[HD0.out,this,if_pos (.inl (by decide))])
    obtain⟨r0,r1,r2,r3,r4⟩:=bc5 HR6.out
    have rf0:=HR6.out.frozen 0
    have rf1:=HR6.out.frozen 1
    have rf2:=HR6.out.frozen 2
    have rf3:=HR6.out.frozen 3
    have rf4:=HR6.out.frozen 4
    go_wp2_with fail
    (try simp only[Exit.inBlock,Exit.then])
    refine bodyPost_ret (ma_results2 (fn:=Tryz.f19) (r:=8) (s:=9) rfl (put5_blk HR6.out (.int .i64 0) (.bool false) (.slice none 0 0) (.slice none 0 0) (.int .i64 0)) _ rfl) rfl ?_
    rw[HF.out]
    exact⟨⟨none,0,0,none,0,0⟩,rfl,ma_nil,put5_own HK6.out (.inr (by omega)) _ _ _ _ _⟩
   have t1:((n:Int)==0)=false:=by simp;omega
   have hn1:(0:Int)<(n:Int):=by omega
   obtain⟨p0,hp0⟩:∃p0,l[0]?=some p0:=⟨_,List.getElem?_eq_getElem (by have:=HPk.out.len;omega)⟩
   obtain⟨ad,A1,n1,c1,hA,hab,_,e0,e1,q1,q2,q3,q4,q5⟩:=(HPk.out.keep HK6.out).one 0 p0 hp0
   subst hA
   have ea:ad.add (0*2)=ad:=by rw[Nat.zero_mul];unfold Addr.add;split <;> simp_all
   rw[ea] at e0 e1
   have HHd:=qh (head_id hp0)
   have HP0:=qh hp0
   have HQ:=qh (⟨q1,q2,q4⟩:Rd w6 B 1 A1 n1 (p0.2.map (.int .i64))∧n1≤c1∧∀x∈p0.2,i64_ x)
   obtain⟨id0,V0⟩:=p0
   simp only at e0 e1 HHd HQ
   rw[HHd.out.1,HHd.out.2] at HD0
   have HAb:=qh hab
   clear hp0 ea q1 q2 q3 q4 q5 hab
   by_cases g2:id0=15
   case neg=>
    have t2:(id0 != 15)=true:=by simpa using g2
    have HF:Hid (readM badP t ref rv l=(noMa,50)):=qh (by rw[HD0.out,if_pos (.inl g2)])
    clear g2
    obtain⟨r0,r1,r2,r3,r4⟩:=bc5 HR6.out
    have rf0:=HR6.out.frozen 0
    have rf1:=HR6.out.frozen 1
    have rf2:=HR6.out.frozen 2
    have rf3:=HR6.out.frozen 3
    have rf4:=HR6.out.frozen 4
    go_wp2_with fail
    (try simp only[Exit.inBlock,Exit.then])
    refine bodyPost_ret (ma_results2 (fn:=Tryz.f19) (r:=8) (s:=9) rfl (put5_blk HR6.out (.int .i64 0) (.bool false) (.slice none 0 0) (.slice none 0 0) (.int .i64 0)) _ rfl) rfl ?_
    rw[HF.out]
    exact⟨⟨none,0,0,none,0,0⟩,rfl,ma_nil,put5_own HK6.out (.inr (by omega)) _ _ _ _ _⟩
   subst g2
   have HE1:=qh e1
   clear g1
   go_upto_region 10 with(fail)
   go_wp2_with fail
   go_loopw [13] (fun iv wr=>∃k:Nat,k≤n∧iv=.int .i64 k∧Hid (Keep Never w6 wr∧∀p∈l.take k,badP p=false)) (fun iv _=>n - (intOf iv).toNat)
   case atStart=>exact⟨0,by omega,rfl,qh ⟨Keep.refl _ _,by simp⟩⟩
   case round=>
    obtain⟨k,hk0,rfl,HH⟩:=hrel
    by_cases gk:k<n
    case pos=>
     have tk:(k:Int)<(n:Int):=by omega
     have hk1:=HH.out.1
     obtain⟨p,hp⟩:∃p,l[k]?=some p:=⟨_,List.getElem?_eq_getElem (by have:=HPk.out.len;omega)⟩
     obtain⟨ad',Ak,nk,ck',hAk,_,_,d0,d1,q1,q2,q3,q4,q5⟩:=(HPk.out.keep (HK6.out.trans hk1)).one k p hp
     injection hAk with hAk
     subst hAk
     have hw:=HIt.out wr (HK6.out.trans hk1) p Ak nk ck' q1 q2 q4 q5
     unfold packCells at hw
     have HC:=qh hw
     have HP:=qh hp
     obtain⟨pi,pV⟩:=p
     simp only at d0 d1 HC
     have hwk:IntKind.i64.wrap ((k:Int)+1)=((k+1:Nat):Int):=by rw[show IntKind.i64.wrap ((k:Int)+1)=(k:Int)+1 from IntWalk.i64_in _ (by omega)];push_cast;rfl
     have hwk2:wrap64 ((k:Int)+1)=((k+1:Nat):Int):=by have:=hwk;rwa [IntWalk.i64_left] at this
     clear hw hp q1 q2 q3 q4 q5 e0 e1
     go_wp2_with fail
     refine HC.out.mono ?_
     rintro en w7 ⟨Ai,ni,ci,xe,rfl,hk2,hc⟩
     have HK7:=qh (hk1.trans hk2)
     clear hk1 hk2 d0 d1 HC
     by_cases gx:xe=0
     case neg=>
      have tx:(xe != 0)=true:=by simpa using gx
      have HF:Hid (readM badP t ref rv l=(noMa,50)):=qh (by
       refine HD0.out.trans (if_pos (.inr (List.any_eq_true.2 ⟨_,List.mem_of_getElem? HP.out,bad17_of (e:=xe) ?_⟩)))
       rcases hc with⟨q,h1,h2,_⟩ | ⟨h1,_⟩
       ·exact absurd h2 gx
       ·exact h1)
      have HKz:=qh (HK6.out.trans HK7.out)
      have HRz:=qh (HR6.out.keep HK7.out (fun h=>h))
      clear gx hc
      obtain⟨r0,r1,r2,r3,r4⟩:=bc5 HRz.out
      have rf0:=HRz.out.frozen 0
      have rf1:=HRz.out.frozen 1
      have rf2:=HRz.out.frozen 2
      have rf3:=HRz.out.frozen 3
      have rf4:=HRz.out.frozen 4
      go_wp2_with fail
      (try simp only[Exit.inBlock,Exit.then])
      refine bodyPost_ret (ma_results2 (fn:=Tryz.f19) (r:=8) (s:=9) rfl (put5_blk HRz.out (.int .i64 0) (.bool false) (.slice none 0 0) (.slice none 0 0) (.int .i64 0)) _ rfl) rfl ?_
      rw[HF.out]
      exact⟨⟨none,0,0,none,0,0⟩,rfl,ma_nil,put5_own HKz.out (.inr (by omega)) _ _ _ _ _⟩
     have tx:(xe != 0)=false:=by simpa using gx
     have hb:badP (pi,pV)=false:=by
      rcases hc with⟨q,h1,_⟩ | ⟨_,h2,_⟩
      ·exact good17_of h1
      ·exact absurd gx h2
     have HNx:Hid (∀p∈l.take (k+1),badP p=false):=qh (fun p h=>by
      rw[List.take_add_one,HP.out] at h
      rcases List.mem_append.1 h with h | h
      ·exact HH.out.2 p h
      ·simp at h;rw[h];exact hb)
     clear gx hc hb
     go_wp2_with fail
     refine⟨⟨k+1,gk,by go_num,qh ⟨HK7.out,HNx.out⟩⟩,?_⟩
     simp only[intOf,Int.toNat_natCast]
     exact Nat.sub_lt_sub_left gk (Nat.lt_succ_self k)
    obtain rfl:n=k:=by omega
    have tk:¬(n:Int)<(n:Int):=by omega
    have hk:=HH.out.1
    have hall:∀p∈l,badP p=false:=by have:=HH.out.2;rwa [List.take_of_length_le (by rw[HPk.out.len];exact Nat.le_refl _)] at this
    have hany:l.any badP=false:=List.any_eq_false.2 (fun p h=>by rw[hall p h];decide)
    have HD7:Hid (readM badP t ref rv l=readT t ref rv (secsM rv V0) (wayR t (b2,rv) l)):=qh (by rw[HD0.out,if_neg (by rw[hany];simp)])
    have HAll:=qh hall
    have h15:=HAll.out _ (List.mem_of_getElem? HP0.out)
    have HFt:Hid (Fit15 V0):=qh (by obtain⟨q,hq⟩:=(items_num h15).1;exact fit15 hq)
    have e1:=keepT hk HE1.out
    have HQ7:=qh (HQ.out.1.keep hk (fun _ h=>h.elim))
    rename World=>w7
    have HD7b:=qkb HD6 hk
    have HK7:=qtr HK6 hk
    have HT7:=qkb HT6 hk
    have HR7:=qkb HR6 hk
    have HM7:=qkb HM6 hk
    clear hk HK6 HT6 HR6 HM6
    clear h15 hany hall HH HD0 HD6
    go_upto_region 16 with(fail)
    have hl5:=HFt.out.len
    obtain⟨av,rfl,_,hvl,v0,v1⟩:=ints_at HQ7.out (by have:=HQ7.out.1;simp at this;omega)
    have hget:∀i,0<i→i<5→w7.cell? ⟨av.block,av.off+i,none⟩=some (.int .i64 (V0.getD i 0)):=fun i h0 hi=>v1 i _ h0 (by rw[List.getD_eq_getElem?_getD,List.getElem?_eq_getElem (by omega)];rfl)
    have d0:w7.cell? av=some (.int .i64 (V0.getD 0 0)):=v0 _ (by rw[List.getD_eq_getElem?_getD,List.getElem?_eq_getElem (by omega)];rfl)
    have HS15:=qh (secs15 (rv:=rv) hl5)
    have HMn:=qh HFt.out.many
    have HSf:=qh HFt.out.secs
    obtain⟨x0,hx0⟩:∃z,V0.getD 0 0=z:=⟨_,rfl⟩
    obtain⟨x1,hx1⟩:∃z,V0.getD 1 0=z:=⟨_,rfl⟩
    obtain⟨x4,hx4⟩:∃z,V0.getD 4 0=z:=⟨_,rfl⟩
    have f1:=hget 1 (by decide) (by decide)
    have f4:=hget 4 (by decide) (by decide)
    rw[hx1] at f1
    rw[hx4] at f4
    rw[hx0] at d0
    rw[hx0,hx1,hx4] at HS15
    rw[hx4] at HMn HSf
    have HN1:Hid (5≤n1):=qh (by omega)
    have hz1:(0:Int)<(n1:Int):=by omega
    have hz1n:0<n1:=by omega
    have HC1:=qh f1
    have HC4:=qh f4
    have HS2:Hid (∀W',Keep Never w7 W'→Keep Never w7 W'∧W'.cell? av=some (.int .i64 x0)):=qh (fun W' h=>⟨h,keepT h d0⟩)
    clear hget v0 v1 hvl hl5 hx0 hx1 hx4 d0 f1 f4 e1
    obtain⟨bq,hbq⟩:∃z,(x0 != nomI rv)=z:=⟨_,rfl⟩
    have HBq:=qh hbq
    go_cut [79] (fun s79 wx=>s79=.bool bq∧Keep Never w7 wx)
    case first=>
     go_region_held3 (fun W'=>Keep Never w7 W'∧W'.cell? av=some (.int .i64 x0))
       (first| assumption | exact HS2.out _ ((Keep.refl Never w7).drew) | exact HS2.out _ (Keep.trans (And.left (by assumption)) hk3) | exact HS2.out _ (Keep.trans ((Keep.refl Never w7).drew) hk3))
       (first
         | (go_at_call 72; refine(rdir17_any rv _).mono ?_;rintro e w8 ⟨rfl,hk3⟩))
     all_goals
      (try go_wp2_with fail)
      go_meet
      exact⟨rfl,Keep.trans ((Keep.refl Never w7).drew) hk3⟩
    case rest=>
    obtain⟨rfl,hk⟩:=hcut
    rename World=>w8
    clear hbq HS2 hz1
    have HQ8:=qh (HQ7.out.keep hk (fun _ h=>h.elim))
    have f1:=keepT hk HC1.out
    have f4:=keepT hk HC4.out
    have HD8b:=qkb HD7b hk
    have HK8:=qtr HK7 hk
    have HT8:=qkb HT7 hk
    have HR8:=qkb HR7 hk
    have HM8:=qkb HM7 hk
    clear hk HK7 HT7 HR7 HM7
    clear HQ7 HD7b HC1 HC4
    by_cases g3:x0=nomI rv
    case neg=>
     obtain rfl:bq=true:=by rw[←HBq.out];simpa using g3
     have HF:Hid (readM badP t ref rv l=(noMa,20)):=qh (HD7.out.trans (by rw[HS15.out,if_pos g3,readT_bad]))
     clear g3
     obtain⟨r0,r1,r2,r3,r4⟩:=bc5 HR8.out
     have rf0:=HR8.out.frozen 0
     have rf1:=HR8.out.frozen 1
     have rf2:=HR8.out.frozen 2
     have rf3:=HR8.out.frozen 3
     have rf4:=HR8.out.frozen 4
     go_wp2_with fail
     (try simp only[Exit.inBlock,Exit.then])
     refine bodyPost_ret (ma_results2 (fn:=Tryz.f19) (r:=8) (s:=9) rfl (put5_blk HR8.out (.int .i64 0) (.bool false) (.slice none 0 0) (.slice none 0 0) (.int .i64 0)) _ rfl) rfl ?_
     rw[HF.out]
     exact⟨⟨none,0,0,none,0,0⟩,rfl,ma_nil,put5_own HK8.out (.inr (by omega)) _ _ _ _ _⟩
    obtain rfl:bq=false:=by rw[←HBq.out];simpa using g3
    have HD9:Hid (readM badP t ref rv l=readT t ref rv (if 8≤x4 then .error 2 else secs4 x1 (sectsR x1 (x4+1).toNat 0 (V0.drop 5))) (wayR t (b2,rv) l)):=qh (HD7.out.trans (by rw[HS15.out,if_neg (by simpa using g3)]))
    clear g3 HD7
    have hz4:(4:Int)<(n1:Int):=by have:=HN1.out;omega
    by_cases g4:x4>7
    case pos=>
     have t4:decide (x4>7)=true:=by simpa using g4
     have HF:Hid (readM badP t ref rv l=(noMa,2)):=qh (HD9.out.trans (by rw[if_pos (by omega),readT_bad]))
     clear g4
     obtain⟨r0,r1,r2,r3,r4⟩:=bc5 HR8.out
     have rf0:=HR8.out.frozen 0
     have rf1:=HR8.out.frozen 1
     have rf2:=HR8.out.frozen 2
     have rf3:=HR8.out.frozen 3
     have rf4:=HR8.out.frozen 4
     go_wp2_with fail
     (try simp only[Exit.inBlock,Exit.then])
     refine bodyPost_ret (ma_results2 (fn:=Tryz.f19) (r:=8) (s:=9) rfl (put5_blk HR8.out (.int .i64 0) (.bool false) (.slice none 0 0) (.slice none 0 0) (.int .i64 0)) _ rfl) rfl ?_
     rw[HF.out]
     exact⟨⟨none,0,0,none,0,0⟩,rfl,ma_nil,put5_own HK8.out (.inr (by omega)) _ _ _ _ _⟩
    have t4:decide (x4>7)=false:=by simpa using g4
    have HDa:Hid (readM badP t ref rv l=readT t ref rv (secs4 x1 (sectsR x1 (x4+1).toNat 0 (V0.drop 5))) (wayR t (b2,rv) l)):=qh (HD9.out.trans (by rw[if_neg (by omega)]))
    have HG4:=qh g4
    clear g4 HD9
    go_upto_region 20 with(fail)
    have hN5:5≤n1:=HN1.out
    obtain⟨A5,k5,hq5,h2,h3,q6,q7,q8,q9⟩:=run_from Tryz.underlying22 Tryz.sizeOf3 (some av) n1 c1 5 hN5 5 rfl
    clear q6 q7 q8 q9
    have HQ5:Hid (Rd w8 B 1 A5 (n1 - 5) ((V0.drop 5).map (.int .i64))):=qh (by have h:=h2 w8 B _ HQ.out.2.1 HQ8.out;rw[List.map_drop];simpa using h)
    have HK5c:Hid (n1 - 5≤k5):=qh (h3 HQ.out.2.1)
    obtain⟨n5,hn5⟩:∃z,n1 - 5=z:=⟨_,rfl⟩
    rw[hn5] at hq5 HQ5 HK5c
    obtain⟨mn,hmn⟩:=int_nat7 HMn.out.1
    subst hmn
    have HM7:=qh (le_of_int7 HG4.out)
    have hwm:=wrap_succ17 HM7.out
    have hwm2:=wrap_succ17' HM7.out
    obtain⟨sr,hsr⟩:∃z,sectsR x1 (mn+1) 0 (V0.drop 5)=z:=⟨_,rfl⟩
    have HSf2:Hid (SecFit (mn+1) (V0.drop 5)):=qh (by have h:=HSf.out;rwa [Int.toNat_natCast] at h)
    have HSe:Hid (∀W,Keep Never w8 W→Calls Tryz.prog 73 #[.slice A5 n5 k5,.int .i64 ((mn:Int)+1),.int .i64 x1] W (SecsRet17 B sr W)):=qh (fun W hk=>by
     have h:=rsections17_any A5 n5 k5 B (V0.drop 5) (mn+1) x1 W (HQ5.out.keep hk (fun _ h=>h.elim)) HK5c.out HSf2.out (Nat.succ_le_succ HM7.out) (Nat.le_trans HBw.out (Nat.le_trans HK8.out.size hk.size))
     rw[hsr] at h
     exact h)
    have HDb:Hid (readM badP t ref rv l=readT t ref rv (secs4 x1 sr) (wayR t (b2,rv) l)):=qh (by rw[HDa.out,succ_nat17,hsr])
    have HSr:=qh hsr
    have hz1:=one_lt17 HN1.out
    have HC1:=qh f1
    have HS4:Hid (∀W',Keep Never w8 W'→Keep Never w8 W'∧W'.cell? ⟨av.block,av.off+1,none⟩=some (.int .i64 x1)∧W'.cell? ⟨av.block,av.off+4,none⟩=some (.int .i64 (mn:Int))):=qh (fun W' h=>⟨h,keepT h f1,keepT h f4⟩)
    clear h2 h3 hn5 hsr HDa HSf HMn HG4 hN5 t4 tk HQ5 HK5c HN1 f1 f4
    cases sr with
    | error x=>
     have HX0:=qh (sectsR_err17 HSr.out)
     have HF:Hid (readM badP t ref rv l=(noMa,x)):=qh (by rw[HDb.out];exact readT_bad)
     clear HDb HSr
     go_cut [19] (fun s19 wx=>s19=.int .i64 x∧Keep Never w8 wx)
     case first=>
      refine wp_region_noPanic ?_
      refine wp_region_held_drew (S:=(fun W'=>Keep Never w8 W'∧W'.cell? ⟨av.block,av.off+1,none⟩=some (.int .i64 x1)∧W'.cell? ⟨av.block,av.off+4,none⟩=some (.int .i64 (mn:Int)))) (by kernel_rfl) ?_ (fun hHeld=>?_)
      ·exact HS4.out _ ((Keep.refl Never w8).drew)
      refine qT 0 ?_
      try simp only[qy]
      refine qT 1 ?_
      try simp only[qy]
      refine qT 2 ?_
      try simp only[qy]
      refine qT 3 ?_
      try simp only[qy]
      refine qT 4 ?_
      try simp only[qy]
      refine qT 5 ?_
      try simp only[qy]
      refine qT 6 ?_
      try simp only[qy]
      refine qT 7 ?_
      try simp only[qy]
      refine qT 8 ?_
      try simp only[qy]
      refine wpAnyH_ready (rs:=[9]) (by kernel_rfl) (by simp) ?_
      refine AllReadyH.cons (o:=?_) ?_ (fun K hK=>?_) AllReadyH.nil
      rotate_left 1
      ·(simp only[qz];rfl)
      go_simp
      refine(HSe.out _ hHeld.1).mono ?_;rintro e w9 ⟨rfl,hk3⟩
      (try go_wp2_with fail)
      refine hK.out _ _ ?_ (fun hHeld=>?_)
      ·(try dsimp only);exact HS4.out _ (hHeld.1.trans hk3)
      clear hK K
      try simp only[qy]
      refine qT 10 ?_
      try simp only[qy]
      refine qT 11 ?_
      try simp only[qy]
      refine qT 12 ?_
      try simp only[qy]
      refine qT 13 ?_
      try simp only[qy]
      refine qT 14 ?_
      try simp only[qy]
      refine qT 15 ?_
      try simp only[qy]
      refine qT 16 ?_
      try simp only[qy]
      refine wpAnyH_done (by kernel_rfl) ?_ _
      refine NoPanic.normal ?_
      have hS:=hHeld
      have hKx:=hS.1
      clear hS hHeld
      go_wp2_with fail
      go_meet
      exact⟨rfl,hKx⟩
     case rest=>
     obtain⟨rfl,hk⟩:=hcut
     rename World=>w9
     have HKz:=qtr HK8 hk
     have HRz:=qkb HR8 hk
     have t9:(x != 0)=true:=by simpa using HX0.out
     clear hk HK8 HR8 HX0 HS4
     obtain⟨r0,r1,r2,r3,r4⟩:=bc5 HRz.out
     have rf0:=HRz.out.frozen 0
     have rf1:=HRz.out.frozen 1
     have rf2:=HRz.out.frozen 2
     have rf3:=HRz.out.frozen 3
     have rf4:=HRz.out.frozen 4
     go_wp2_with fail
     (try simp only[Exit.inBlock,Exit.then])
     refine bodyPost_ret (ma_results2 (fn:=Tryz.f19) (r:=8) (s:=9) rfl (put5_blk HRz.out (.int .i64 0) (.bool false) (.slice none 0 0) (.slice none 0 0) (.int .i64 0)) _ rfl) rfl ?_
     rw[HF.out]
     exact⟨⟨none,0,0,none,0,0⟩,rfl,ma_nil,put5_own HKz.out (.inr (by omega)) _ _ _ _ _⟩
    | ok z=>
    obtain⟨zs,zv⟩:=z
    go_cut [17,18,19] (fun s17 s18 s19 wx=>∃(As:Option Addr) (ns cs:Nat) (A9:Option Addr) (n9 c9:Nat),s17=.slice As ns cs∧s18=.slice A9 n9 c9∧s19=.int .i64 0∧Hid (Own wx w8.heap.size 58 2 As ns cs (scCells zs)∧(ns=zs.length∧n9≤c9)∧Rd wx B 1 A9 n9 (zv.map (.int .i64))∧Keep Never w8 wx))
    case first=>
     refine wp_region_noPanic ?_
     refine wp_region_held_drew (S:=(fun W'=>Keep Never w8 W'∧W'.cell? ⟨av.block,av.off+1,none⟩=some (.int .i64 x1)∧W'.cell? ⟨av.block,av.off+4,none⟩=some (.int .i64 (mn:Int)))) (by kernel_rfl) ?_ (fun hHeld=>?_)
     ·exact HS4.out _ ((Keep.refl Never w8).drew)
     refine qT 0 ?_
     try simp only[qy]
     refine qT 1 ?_
     try simp only[qy]
     refine qT 2 ?_
     try simp only[qy]
     refine qT 3 ?_
     try simp only[qy]
     refine qT 4 ?_
     try simp only[qy]
     refine qT 5 ?_
     try simp only[qy]
     refine qT 6 ?_
     try simp only[qy]
     refine qT 7 ?_
     try simp only[qy]
     refine qT 8 ?_
     try simp only[qy]
     refine wpAnyH_ready (rs:=[9]) (by kernel_rfl) (by simp) ?_
     refine AllReadyH.cons (o:=?_) ?_ (fun K hK=>?_) AllReadyH.nil
     rotate_left 1
     ·(simp only[qz];rfl)
     go_simp
     refine(HSe.out _ hHeld.1).mono ?_;rintro e w9 ⟨As,ns,cs,A9,n9,c9,rfl,hO,hN,hR,hk3⟩
     (try go_wp2_with fail)
     refine hK.out _ _ ?_ (fun hHeld=>?_)
     ·(try dsimp only);exact HS4.out _ (hHeld.1.trans hk3)
     clear hK K
     try simp only[qy]
     refine qT 10 ?_
     try simp only[qy]
     refine qT 11 ?_
     try simp only[qy]
     refine qT 12 ?_
     try simp only[qy]
     refine qT 13 ?_
     try simp only[qy]
     refine qT 14 ?_
     try simp only[qy]
     refine qT 15 ?_
     try simp only[qy]
     refine qT 16 ?_
     try simp only[qy]
     refine wpAnyH_done (by kernel_rfl) ?_ _
     refine NoPanic.normal ?_
     have hS:=hHeld
     have hKx:=qh hS.1
     clear hS hHeld
     go_wp2_with fail
     go_meet
     exact⟨As,ns,cs,A9,n9,c9,rfl,rfl,rfl,qh ⟨hO,hN.out,hR,hKx.out⟩⟩
    case rest=>
    obtain⟨As,ns,cs,A9,n9,c9,rfl,rfl,rfl,HH⟩:=hcut
    rename World=>w9
    have hk:=HH.out.2.2.2
    have HO9:=qh HH.out.1
    have HNz:=qh HH.out.2.1
    have HV9:=qh HH.out.2.2.1
    have HD9b:=qkb HD8b hk
    have HF1:=qh (keepT hk HC1.out)
    have HK9:=qtr HK8 hk
    have HT9:=qkb HT8 hk
    have HR9:=qkb HR8 hk
    have HM9:=qkb HM8 hk
    clear hk HK8 HT8 HR8 HM8
    clear HH HS4 HD8b HC1 HSe
    have f1:=HF1.out
    have HZl:Hid (SecFit 0 zv):=qh (sects_fit HSf2.out HSr.out)
    obtain⟨ge,hge⟩:∃z,(gapR x1 zv).2=z:=⟨_,rfl⟩
    obtain⟨ga,hga⟩:∃z,gapA x1 zv=z:=⟨_,rfl⟩
    have hw:=rgap17_any A9 n9 c9 B zv x1 w9 HV9.out HNz.out.2 (gap_fit HZl.out)
    rw[hge,hga] at hw
    have HC:=qh hw
    have HGe:=qh hge
    have HGa:=qh hga
    clear hw hge hga HF1
    go_wp2_with fail
    refine HC.out.mono ?_
    rintro en wa ⟨rfl,hk⟩
    have HDab:=qkb HD9b hk
    have HOa:=qko HO9 hk
    have HKa:=qtr HK9 hk
    have HTa:=qkb HT9 hk
    have HRa:=qkb HR9 hk
    have HMa:=qkb HM9 hk
    clear hk HK9 HT9 HR9 HM9
    clear HC HD9b HO9 HV9 f1 hz1
    by_cases gg:ge=0
    case neg=>
     have te:(ge != 0)=true:=by simpa using gg
     have HF:Hid (readM badP t ref rv l=(noMa,ge)):=qh (by rw[HDb.out,gap_err17 HGe.out gg];exact readT_bad)
     clear gg
     obtain⟨r0,r1,r2,r3,r4⟩:=bc5 HRa.out
     have rf0:=HRa.out.frozen 0
     have rf1:=HRa.out.frozen 1
     have rf2:=HRa.out.frozen 2
     have rf3:=HRa.out.frozen 3
     have rf4:=HRa.out.frozen 4
     go_wp2_with fail
     (try simp only[Exit.inBlock,Exit.then])
     refine bodyPost_ret (ma_results2 (fn:=Tryz.f19) (r:=8) (s:=9) rfl (put5_blk HRa.out (.int .i64 0) (.bool false) (.slice none 0 0) (.slice none 0 0) (.int .i64 0)) _ rfl) rfl ?_
     rw[HF.out]
     exact⟨⟨none,0,0,none,0,0⟩,rfl,ma_nil,put5_own HKa.out (.inr (by omega)) _ _ _ _ _⟩
    subst gg
    have HDc:Hid (readM badP t ref rv l=readT t ref rv (.ok (zs,ga)) (wayR t (b2,rv) l)):=qh (by rw[HDb.out,gap_ok17 HGe.out HGa.out])
    clear HDb HGe HGa
    obtain⟨m0,m1,m2,m3,m4⟩:=bc5 HMa.out
    have mf0:=HMa.out.frozen 0
    have mf1:=HMa.out.frozen 1
    have mf2:=HMa.out.frozen 2
    have mf3:=HMa.out.frozen 3
    have mf4:=HMa.out.frozen 4
    go_upto_region 28 with(fail)
    obtain⟨wb,hwb⟩:∃V:World,(wa.setCell ⟨bm,3,none⟩ (.slice As ns cs)).setCell ⟨bm,4,none⟩ (.int .i64 ga)=V:=⟨_,rfl⟩
    rw[hwb]
    have hkb:Keep (fun q=>q=bm) wa wb:=by rw[←hwb];exact((Keep.refl (fun q=>q=bm) wa).set_ (p:=⟨bm,3,none⟩) (.inl rfl) _).set_ (p:=⟨bm,4,none⟩) (.inl rfl) _
    have HMb:Hid (Blk wb bm 38 #[.int .i64 ref,.bool rv,.slice none 0 0,.slice As ns cs,.int .i64 ga]):=qh (by rw[←hwb];exact(HMa.out.set_ 3 _).set_ 4 _)
    have HKb:=qh (HKa.out.then_ hkb (fun i hi h=>(nb17 HBm.out hi h).elim))
    have HTb:=qh (HTa.out.keep hkb (fun h=>nb17a HBm.out h))
    have HRb:=qh (HRa.out.keep hkb (fun h=>nb17b HBm.out h))
    have HDbb:=qh (HDab.out.keep hkb (fun h=>absurd h (Nat.ne_of_gt HBb.out)))
    have HOb':=qh (HOa.out.keep hkb (HOa.out.ne_blk HMa.out (by decide)))
    clear hkb hwb HMa HKa HTa HRa HDab HOa m0 mf0 m1 mf1 m2 mf2 m3 mf3 m4 mf4
    have d0:wb.cell? ⟨bb,0,none⟩=some (.int .i64 b2):=HDbb.out.cell 0
    have d1:(wb.alloc (.cells #[.int .i64 b2,.bool rv] 30)).cell? ⟨bm,2,none⟩=some (.slice none 0 0):=(HMb.out.keep ((Keep.refl Never wb).alloc _) (fun h=>h)).cell 2
    have d2:(wb.alloc (.cells #[.int .i64 b2,.bool rv] 30)).frozen? ⟨bm,2,none⟩=false:=(HMb.out.keep ((Keep.refl Never wb).alloc (.cells #[.int .i64 b2,.bool rv] 30)) (fun h=>h)).frozen 2
    go_upto_region 29 with(fail)
    obtain⟨wc,hwc⟩:∃V:World,(wb.alloc (.cells #[.int .i64 b2,.bool rv] 30)).setCell ⟨bm,2,none⟩ (.slice (some ⟨wb.heap.size,0,none⟩) 1 1)=V:=⟨_,rfl⟩
    rw[hwc]
    have hkc:Keep (fun q=>q=bm) wb wc:=by rw[←hwc];exact((Keep.refl (fun q=>q=bm) wb).alloc _).set_ (p:=⟨bm,2,none⟩) (.inl rfl) _
    have HBr0:Hid (bm<wb.heap.size):=qh HMb.out.lt
    have HRw0:Hid (Blk wc wb.heap.size 30 #[.int .i64 b2,.bool rv]):=qh (by rw[←hwc];exact(Blk.new wb 30 #[.int .i64 b2,.bool rv]).keep ((Keep.refl (fun q=>q=bm) _).set_ (p:=⟨bm,2,none⟩) (.inl rfl) _) (fun h=>absurd h (Nat.ne_of_gt HBr0.out)))
    have HMc0:Hid (Blk wc bm 38 #[.int .i64 ref,.bool rv,.slice (some ⟨wb.heap.size,0,none⟩) 1 1,.slice As ns cs,.int .i64 ga]):=qh (by rw[←hwc];exact(HMb.out.keep ((Keep.refl Never wb).alloc _) (fun h=>h)).set_ 2 _)
    have HKc:=qh (HKb.out.then_ hkc (fun i hi h=>(nb17 HBm.out hi h).elim))
    have HTc:=qh (HTb.out.keep hkc (fun h=>nb17a HBm.out h))
    have HRc:=qh (HRb.out.keep hkc (fun h=>nb17b HBm.out h))
    have HOs:=qh (HOb'.out.keep hkc (HOb'.out.ne_blk HMb.out (by decide)))
    have HPth:Hid (WayI t [((b2,rv):Stp)]):=qh (way_start17 HC0.out HOb.out rv)
    have HIn2:Hid (∀s∈[((b2,rv):Stp)],in64 s):=qh (fun s hs=>in64_there (HPth.out.there s hs) HNe.out)
    clear hkc hwc HMb HKb HTb HRb HOb' HDbb d0 d1 d2
    obtain⟨br,hbr⟩:∃q,wb.heap.size=q:=⟨_,rfl⟩
    rw[hbr] at HBr0 HRw0 HMc0 ⊢
    have HBr:=HBr0
    have HRw:=HRw0
    have HMc:=HMc0
    have HOp:Hid (Own wc w.heap.size 30 2 (some ⟨br,0,none⟩) 1 1 (stpCells [((b2,rv):Stp)])):=qh (Own.of_blk2 (xs:=[.int .i64 b2,.bool rv]) HRw.out rfl one_max17 (Nat.le_of_lt (Nat.lt_trans (Nat.lt_of_succ_lt HBm.out) HBr.out)))
    have HN8:Hid (ns≤8):=qh (by rw[HNz.out.1,sectsR_len HSr.out];exact Nat.succ_le_succ HM7.out)
    clear hbr HBr0 HRw0 HMc0
    go_upto_block 2 with(fail)
    go_cut [] (fun wx=>∃(P:List Stp) (Ap:Option Addr) (np cp:Nat),Hid (wayR t (b2,rv) l=.ok P∧Keep (fun q=>q=bm∨q=br) wc wx∧Blk wx bm 38 #[.int .i64 ref,.bool rv,.slice Ap np cp,.slice As ns cs,.int .i64 ga]∧Own wx w.heap.size 30 2 Ap np cp (stpCells P)∧np≤24∧∀s∈P,in64 s))
    case first=>
     go_wp2_with fail
     go_loopw [22] (fun iv wr=>∃k:Nat,k≤n∧iv=.int .i64 k∧Hid (Keep Never wc wr∧∀p∈l.take k,(p.1==5)=false)) (fun iv _=>n - (intOf iv).toNat)
     case atStart=>exact⟨0,Nat.zero_le _,rfl,qh ⟨Keep.refl _ _,by simp⟩⟩
     case round=>
      obtain⟨k,hk0,rfl,HH⟩:=hrel
      by_cases gk:k<n
      case neg=>
       have ek:k=n:=Nat.le_antisymm hk0 (Nat.not_lt.1 gk)
       have tk:¬(k:Int)<(n:Int):=by rw[ek];exact Int.lt_irrefl _
       have HW:Hid (wayR t (b2,rv) l=.ok [((b2,rv):Stp)]):=qh (way_none (by have h:=HH.out.2;rwa [ek,List.take_of_length_le (by rw[HPk.out.len];exact Nat.le_refl _)] at h))
       clear ek gk
       go_wp2_with fail
       go_meet
       exact⟨[((b2,rv):Stp)],some ⟨br,0,none⟩,1,1,qh ⟨HW.out,HH.out.1.mono (fun _ _ h=>h.elim),HMc.out.keep HH.out.1 (fun h=>h),HOp.out.keep HH.out.1 (fun _ _ h=>h),by decide,HIn2.out⟩⟩
      have tk:(k:Int)<(n:Int):=Int.ofNat_lt.2 gk
      have hwk:=wrap_next17 gk HNn.out
      have hwk2:=wrap_next17' gk HNn.out
      obtain⟨p,hp⟩:∃p,l[k]?=some p:=⟨_,List.getElem?_eq_getElem (by rw[HPk.out.len];exact gk)⟩
      obtain⟨ad',Ak,nk,ck',hAk,_,_,d0,d1,q1,q2,_,_,_⟩:=(HPk.out.keep (HKc.out.trans HH.out.1)).one k p hp
      injection hAk with hAk
      subst hAk
      have HN5:=qh (⟨q1,q2⟩:Rd wr B 1 Ak nk (p.2.map (.int .i64))∧nk≤ck')
      have HP:=qh hp
      have HB5:=qh (HAll.out p (List.mem_of_getElem? hp))
      obtain⟨pi,pV⟩:=p
      simp only at d0 d1 HN5
      clear q1 q2 hp
      by_cases g5:pi=5
      case neg=>
       have t5:(pi==5)=false:=by simpa using g5
       have HNx:Hid (∀p∈l.take (k+1),(p.1==5)=false):=qh (fun p h=>by
        rw[List.take_add_one,HP.out] at h
        rcases List.mem_append.1 h with h | h
        ·exact HH.out.2 p h
        ·simp at h;rw[h];exact t5)
       clear g5 HN5 HB5
       go_wp2_with fail
       refine⟨⟨k+1,gk,by go_num,qh ⟨HH.out.1,HNx.out⟩⟩,?_⟩
       simp only[intOf,Int.toNat_natCast]
       exact Nat.sub_lt_sub_left gk (Nat.lt_succ_self k)
      subst g5
      have hk:=HH.out.1
      have HW:=qh (way_some HP.out rfl HH.out.2 (t:=t) (s:=(b2,rv)))
      have HF5:Hid (2≤pV.length∧Fit5 (pV.drop 2)):=qh (by obtain⟨q,hq⟩:=(items_num HB5.out).1;exact fit5 hq)
      obtain⟨lr,hlr⟩:∃z,linkedR t [((b2,rv):Stp)] pV=z:=⟨_,rfl⟩
      have HWl:Hid (wayR t (b2,rv) l=lr):=qh (by rw[HW.out];exact hlr)
      have HLk:Hid (∀W,Keep Never wr W→Calls Tryz.prog 75 #[.agg #[.slice Ae ne ce,.slice Aj nj cj,.slice Ab nb cb,.slice Ar nr cr],.slice (some ⟨br,0,none⟩) 1 1,.slice Ak nk ck'] W (LinkRet17 t lr w.heap.size (some ⟨br,0,none⟩) W)):=qh (fun W hkW=>by
       have hkw:=HKc.out.trans (hk.trans hkW)
       have h:=rlinked17_any x t B w.heap.size (some ⟨br,0,none⟩) 1 1 [((b2,rv):Stp)] Ak nk ck' pV W (HTp.out.keep hkw) HTs.out HC0.out HPth.out (HOp.out.keep (hk.trans hkW) (fun _ _ h=>h)) (HN5.out.1.keep hkW (fun _ h=>h.elim)) HN5.out.2 HF5.out.1 HF5.out.2 HBw.out hkw.size
       rw[HXa.out,hlr] at h
       exact h)
      have HLr:=qh hlr
      have HDr:Hid (readM badP t ref rv l=readT t ref rv (.ok (zs,ga)) lr):=qh (by rw[HDc.out,HWl.out])
      have HKr:=qtr HKc hk
      have HTr:=qkb HTc hk
      have HMr:=qkb HMc hk
      obtain⟨y0,y1,y2,y3⟩:=bc4 HTr.out
      have m2:wr.cell? ⟨bm,2,none⟩=some (.slice (some ⟨br,0,none⟩) 1 1):=HMr.out.cell 2
      clear hlr HW HB5 HN5 HF5 HP hwk hwk2
      cases lr with
      | error x=>
       have HX0:=qh (linkedR_err17 HLr.out)
       have HF:Hid (readM badP t ref rv l=(noMa,x)):=qh (by rw[HDr.out];exact readT_way)
       clear HDr HLr HWl
       go_upto_region 33 with(fail)
       go_cut [24] (fun s24 wx=>s24=.int .i64 x∧Keep (InRow (some ⟨br,0,none⟩)) wr wx)
       case first=>
        go_region_law (go_simp;go_at_call 75; refine(HLk.out _ (by first | exact Keep.refl Never wr | exact(Keep.refl Never wr).drew)).mono ?_;rintro e wt ⟨rfl,hk3⟩)
        all_goals
         (try go_wp2_with fail)
         go_meet
         exact⟨rfl,by first | exact Keep.drewL hk3 | exact hk3⟩
       case rest=>
       obtain⟨rfl,hk⟩:=hcut
       rename World=>wt
       have HKt:=qh (HKr.out.then_ hk (fun i hi h=>(nc17 HBm.out HBr.out hi (.inr (in_row17 h))).elim))
       have HRt:=qh ((HRc.out.keep HH.out.1 (fun h=>h)).keep hk (fun h=>(nc17b HBm.out HBr.out (.inr (in_row17 h))).elim))
       have te:(x != 0)=true:=by simpa using HX0.out
       clear hk y0 y1 y2 y3 m2 d0 d1 HX0
       obtain⟨r0,r1,r2,r3,r4⟩:=bc5 HRt.out
       have rf0:=HRt.out.frozen 0
       have rf1:=HRt.out.frozen 1
       have rf2:=HRt.out.frozen 2
       have rf3:=HRt.out.frozen 3
       have rf4:=HRt.out.frozen 4
       go_wp2_with fail
       (try simp only[Exit.inBlock,Exit.then])
       refine bodyPost_ret (ma_results2 (fn:=Tryz.f19) (r:=8) (s:=9) rfl (put5_blk HRt.out (.int .i64 0) (.bool false) (.slice none 0 0) (.slice none 0 0) (.int .i64 0)) _ rfl) rfl ?_
       rw[HF.out]
       exact⟨⟨none,0,0,none,0,0⟩,rfl,ma_nil,put5_own HKt.out (.inr (by omega)) _ _ _ _ _⟩
      | ok P=>
      go_upto_region 33 with(fail)
      go_cut [23,24] (fun s23 s24 wx=>∃(A':Option Addr) (n' c':Nat),s23=.slice A' n' c'∧s24=.int .i64 0∧Hid (Own wx w.heap.size 30 2 A' n' c' (stpCells P)∧(n'=P.length∧WayI t P)∧Keep (InRow (some ⟨br,0,none⟩)) wr wx))
      case first=>
       go_region_law (go_simp;go_at_call 75; refine(HLk.out _ (by first | exact Keep.refl Never wr | exact(Keep.refl Never wr).drew)).mono ?_;rintro e wt ⟨A9',n9',c9',rfl,hO,hN,hk3⟩)
       all_goals
        (try go_wp2_with fail)
        go_meet
        exact⟨A9',n9',c9',rfl,rfl,qh ⟨hO,hN.out,by first | exact Keep.drewL hk3 | exact hk3⟩⟩
      case rest=>
      obtain⟨Ap,np,cp,rfl,rfl,HG⟩:=hcut
      rename World=>wt
      have hkt:=HG.out.2.2
      have HMt:=qh (HMr.out.keep hkt (fun h=>absurd (in_row17 h) (Nat.ne_of_lt HBr.out)))
      have m2:wt.cell? ⟨bm,2,none⟩=some (.slice (some ⟨br,0,none⟩) 1 1):=HMt.out.cell 2
      have mf2:=HMt.out.frozen 2
      have hk5:=(Keep.refl (fun q=>q=bm) wt).set_ (p:=⟨bm,2,none⟩) (.inl rfl) (.slice Ap np cp)
      have HKt:Hid (Keep (fun q=>q=bm∨q=br) wc (wt.setCell ⟨bm,2,none⟩ (.slice Ap np cp))):=qh ((hk.mono (fun _ _ h=>h.elim)).then_ ((hkt.mono (fun _ _ h=>.inr (in_row17 h))).then_ hk5 (fun _ _ h=>.inl h)) (fun _ _ h=>h))
      have HOt:Hid (Own (wt.setCell ⟨bm,2,none⟩ (.slice Ap np cp)) w.heap.size 30 2 Ap np cp (stpCells P)):=qh (HG.out.1.keep hk5 (HG.out.1.ne_blk HMt.out (by decide)))
      have HMt5:Hid (Blk (wt.setCell ⟨bm,2,none⟩ (.slice Ap np cp)) bm 38 #[.int .i64 ref,.bool rv,.slice Ap np cp,.slice As ns cs,.int .i64 ga]):=qh (HMt.out.set_ 2 _)
      have hNp:=HG.out.2.1
      have HNp:Hid (np≤24∧∀s∈P,in64 s):=qh ⟨by rw[hNp.1];exact hNp.2.few,fun s hs=>in64_there (hNp.2.there s hs) HNe.out⟩
      clear hkt hk5 hNp HG y0 y1 y2 y3 d0 d1 HMr HMt
      go_wp2_with fail
      go_meet
      exact⟨P,Ap,np,cp,qh ⟨HWl.out,HKt.out,HMt5.out,HOt.out,HNp.out.1,HNp.out.2⟩⟩
    case rest=>
    obtain⟨P,Ap,np,cp,HH⟩:=hcut
    rename World=>wz
    have hk:=HH.out.2.1
    have HKz:=qh (HKc.out.then_ hk (fun i hi h=>(nc17 HBm.out HBr.out hi h).elim))
    have HTz:=qh (HTc.out.keep hk (fun h=>(nc17a HBm.out HBr.out h).elim))
    have HRz:=qh (HRc.out.keep hk (fun h=>(nc17b HBm.out HBr.out h).elim))
    have HMz:=qh HH.out.2.2.1
    have HOz:=qh HH.out.2.2.2.1
    have HN24:=qh HH.out.2.2.2.2
    have HSz:=qh (HOs.out.keep hk (fun q hq h=>h.elim (HOs.out.ne_blk HMc.out (by decide) q hq) (HOs.out.ne_blk HRw.out (by decide) q hq)))
    obtain⟨my,hmy⟩:∃z,mayMA t (ref,rv,P,zs,ga)=z:=⟨_,rfl⟩
    have HF:Hid (readM badP t ref rv l=if my=true then ((ref,rv,P,zs,ga),0) else (noMa,7)):=qh (by rw[HDc.out,HH.out.1,readT_ok,hmy])
    have hw:=rmay17_any x t wz.heap.size ⟨Ap,np,cp,As,ns,cs⟩ (ref,rv,P,zs,ga) wz ((HTp.out.keep HKz.out).wide (Nat.le_trans HBw.out HKz.out.size)) HTs.out (Nat.le_refl _) ⟨stps_own HOz.out HN24.out.2,scAt_own HSz.out⟩ (Nat.le_trans HN24.out.1 (by decide)) (Nat.le_trans HN8.out (by decide))
    rw[HXa.out,hmy] at hw
    have HC:=qh hw
    obtain⟨y0,y1,y2,y3⟩:=bc4 HTz.out
    obtain⟨m0,m1,m2,m3,m4⟩:=bc5 HMz.out
    clear hw hmy hk HH HKc HTc HRc HMc HOp HOs HRw HDc
    simp only[TA.cs,MX.vs] at HC
    go_wp2_with fail
    refine HC.out.mono ?_
    rintro en wy ⟨rfl,hk⟩
    have HKy:=qtr HKz hk
    have HRy:=qkb HRz hk
    have HMy:=qkb HMz hk
    have HOy:=qko HOz hk
    have HSy:=qko HSz hk
    clear hk HC y0 y1 y2 y3 m0 m1 m2 m3 m4
    cases my with
    | false=>
     have HG:Hid (readM badP t ref rv l=(noMa,7)):=qh (by rw[HF.out,if_neg (by decide)])
     obtain⟨r0,r1,r2,r3,r4⟩:=bc5 HRy.out
     have rf0:=HRy.out.frozen 0
     have rf1:=HRy.out.frozen 1
     have rf2:=HRy.out.frozen 2
     have rf3:=HRy.out.frozen 3
     have rf4:=HRy.out.frozen 4
     go_wp2_with fail
     (try simp only[Exit.inBlock,Exit.then])
     refine bodyPost_ret (ma_results2 (fn:=Tryz.f19) (r:=8) (s:=9) rfl (put5_blk HRy.out (.int .i64 0) (.bool false) (.slice none 0 0) (.slice none 0 0) (.int .i64 0)) _ rfl) rfl ?_
     rw[HG.out]
     exact⟨⟨none,0,0,none,0,0⟩,rfl,ma_nil,put5_own HKy.out (.inr (by omega)) _ _ _ _ _⟩
    | true=>
    have HG:Hid (readM badP t ref rv l=((ref,rv,P,zs,ga),0)):=qh (by rw[HF.out,if_pos rfl])
    obtain⟨m0,m1,m2,m3,m4⟩:=bc5 HMy.out
    obtain⟨r0,r1,r2,r3,r4⟩:=bc5 HRy.out
    have rf0:=HRy.out.frozen 0
    have rf1:=HRy.out.frozen 1
    have rf2:=HRy.out.frozen 2
    have rf3:=HRy.out.frozen 3
    have rf4:=HRy.out.frozen 4
    go_wp2_with fail
    (try simp only[Exit.inBlock,Exit.then])
    refine bodyPost_ret (ma_results2 (fn:=Tryz.f19) (r:=8) (s:=9) rfl (put5_blk HRy.out (.int .i64 ref) (.bool rv) (.slice Ap np cp) (.slice As ns cs) (.int .i64 ga)) _ rfl) rfl ?_
    have hk5:=put5_own (Keep.refl (fun q=>q=w.heap.size+1) wy) (b:=w.heap.size+1) (.inl rfl) (.int .i64 ref) (.bool rv) (.slice Ap np cp) (.slice As ns cs) (.int .i64 ga)
    rw[HG.out]
    exact⟨⟨Ap,np,cp,As,ns,cs⟩,rfl,⟨stps_own (HOy.out.keep hk5 (HOy.out.ne_blk HRy.out (by decide))) HN24.out.2,scAt_own (HSy.out.keep hk5 (HSy.out.ne_blk HRy.out (by decide)))⟩,put5_own HKy.out (.inr (Nat.le_succ _)) _ _ _ _ _⟩
end Go.Proofs.YtpapiojicbbheaaGreatDoor

namespace Go.Proofs.YtpapiojicbbheaaGreatDoor
open Go.RowKit
def repPack:Rep (Int×List Int):=Rep.int.pair Rep.int.list
theorem opens_pack:Rep.Opens Tryz.prog 105 repPack:=
  Rep.opens_struct Tryz.underlying105 (by kernel_rfl)
    (Rep.fopens_cons rfl (by kernel_rfl) (Rep.opens_int Tryz.underlying3) (Rep.fopens_last rfl (by kernel_rfl)
      (Rep.opens_list Tryz.underlying22 (by kernel_rfl) (by decide) (Rep.opens_int Tryz.underlying3))))
theorem ints_rd {w:World}{B n c:Nat}{A:Option Addr}{l:List Int} (h:Rep.int.Sl w B A n c l):Rd w B 1 A n (l.map (.int .i64))∧l.length=n∧∀x∈l,i64 x:=by
 obtain⟨h1,_,_,_,css,h5,h6⟩:=h
 have hf:css.flatten=l.map (.int .i64)∧∀x∈l,i64 x:=by
  clear h5 h1
  induction l generalizing css with
  | nil=>cases css with
    | nil=>simp
    | cons b m=>exact h6.elim
  | cons a l ih=>cases css with
    | nil=>exact h6.elim
    | cons b m=>
     obtain⟨⟨rfl,ha⟩,ht⟩:=h6
     obtain⟨i1,i2⟩:=ih m ht
     refine⟨by simp[i1],fun x hx=>?_⟩
     rcases List.mem_cons.1 hx with rfl | hx
     ·exact ha
     ·exact i2 x hx
 rw[hf.1] at h5
 exact⟨h5,h1.symm,hf.2⟩
end Go.Proofs.YtpapiojicbbheaaGreatDoor

namespace Go.Proofs.YtpapiojicbbheaaGreatDoor
open Go.RowKit
theorem pk17_at {w:World}{B n c i:Nat}{A:Option Addr}{P:List Pk} (h:repPack.Sl w B A n c P) (hi:i<n) :
    ∃ad pid V A' n' c',A=some ad∧ad.block<B∧P[i]?=some (pid,V)∧w.cell? (ad.add (i*2))=some (.int .i64 pid)∧w.cell? ⟨(ad.add (i*2)).block,(ad.add (i*2)).off+1,none⟩=some (.slice A' n' c')∧Rd w B 1 A' n' (V.map (.int .i64))∧V.length=n'∧n'≤c'∧c'≤maxLen∧(∀x∈V,i64_ x):=by
  obtain⟨ad,⟨pid,V⟩,cs,hA,hb,hP,hc,hcell⟩:=h.at_ hi
  obtain⟨d,e,rfl,⟨rfl,_⟩,A',n',c',rfl,hs⟩:=hc
  obtain⟨r1,r2,r3⟩:=ints_rd hs
  have f0:=hcell 0 (by decide)
  have f1:=hcell 1 (by decide)
  have e2:i*repPack.size=i*2:=rfl
  rw[e2] at f0 f1
  rw[Nat.add_zero] at f0
  rw[fld _ _ (by omega)] at f1
  exact⟨ad,pid,V,A',n',c',hA,hb,hP,f0,f1,r1,r2,hs.2.1,hs.2.2.1,r3⟩
theorem pks17 {w:World}{B n c:Nat}{A:Option Addr}{P:List Pk} (h:repPack.Sl w B A n c P) (hl:∀p∈P,p.2.length≤3000):PksAt w B A n c P:=by
 refine⟨h.1.symm,h.2.1,fun i p hp=>?_⟩
 have hi:i<n:=by have h1:=(List.getElem?_eq_some_iff.1 hp).1;have h2:=h.1;omega
 obtain⟨ad,pid,V,A',n',c',hA,hb,hP,f0,f1,r1,r2,r3,r4,r5⟩:=pk17_at h hi
 rw[hp] at hP
 injection hP with hP
 subst hP
 refine⟨ad,A',n',c',hA,hb,?_,f0,f1,r1,r3,r4,r5,Nat.le_trans (hl _ (List.mem_of_getElem? hp)) (by decide)⟩
 have:=cell_lt f0
 rwa [block_add] at this
theorem read_small {bad:Pk→Bool}{t:Tp}{ref:Int}{rev:Bool}{l:List Pk}:(readM bad t ref rev l).1.2.2.1.length≤24∧(readM bad t ref rev l).1.2.2.2.1.length≤8:=by
 unfold readM
 split
 ·exact⟨Nat.zero_le _,Nat.zero_le _⟩
 split
 ·exact⟨Nat.zero_le _,Nat.zero_le _⟩
 split
 ·exact⟨Nat.zero_le _,Nat.zero_le _⟩
 split
 ·exact⟨Nat.zero_le _,Nat.zero_le _⟩
 split
 ·exact⟨Nat.zero_le _,Nat.zero_le _⟩
 split
 ·rename_i h
  unfold mayMA at h
  simp only[Bool.and_eq_true,decide_eq_true_eq] at h
  exact⟨h.1.1.1.1.1.1.1.2,h.1.1.1.1.2⟩
 ·exact⟨Nat.zero_le _,Nat.zero_le _⟩
def LgtRet17 (n:Nat) (P:List Pk) (w:World) (e:Ending) (w':World):Prop:=∃b:Bool,e=.returned (.bool b)∧Hid (b=true→n≤30∧∀p∈P,p.2.length≤3000)∧Keep Never w w'
theorem LgtRet17.no {n:Nat}{P:List Pk}{w w':World} (h:Keep Never w w'):LgtRet17 n P w (.returned (.bool false)) w':=⟨false,rfl,qh (fun h=>by cases h),h⟩
theorem LgtRet17.yes {n:Nat}{P:List Pk}{w w':World} (h:Keep Never w w') (hn:n≤30) (hP:∀p∈P,p.2.length≤3000):LgtRet17 n P w (.returned (.bool true)) w':=⟨true,rfl,qh (fun _=>⟨hn,hP⟩),h⟩
set_option maxHeartbeats 2000000 in
set_option maxRecDepth 100000 in
theorem light17_any (B:Nat) (A:Option Addr) (n c:Nat) (P:List Pk) (w:World) (hm:repPack.Sl w B A n c P) :
    Calls Tryz.prog 17 #[.agg #[.int .i64 0,.int .i64 0,.int .i64 0,.int .i64 0,.slice none 0 0,.slice A n c]] w (LgtRet17 n P w):=by
  have HPl:Hid (P.length=n):=qh hm.1.symm
  have hb0:Hid (Blk (w.alloc (.cells #[.int .i64 0,.int .i64 0,.int .i64 0,.int .i64 0,.slice none 0 0,.slice A n c] 47)) w.heap.size 47 #[.int .i64 0,.int .i64 0,.int .i64 0,.int .i64 0,.slice none 0 0,.slice A n c]):=Blk.new w 47 _
  have hk0:Hid (Keep Never w (w.alloc (.cells #[.int .i64 0,.int .i64 0,.int .i64 0,.int .i64 0,.slice none 0 0,.slice A n c] 47))):=(Keep.refl Never w).alloc _
  have HS:=qh hm
  clear hm
  by_cases h30:n≤30
  ·have h1':(n:Int)≤30:=by omega
   have H30:=qh h30
   clear h30
   go_enter Tryz.func17, Tryz.ntmps17
   go_wp2_with fail
   go_loopw [3] (fun i wr=>∃j:Nat,j≤n∧i=.int .i64 j∧Hid (∀p∈P.take j,p.2.length≤3000)∧wr=w.alloc (.cells #[.int .i64 0,.int .i64 0,.int .i64 0,.int .i64 0,.slice none 0 0,.slice A n c] 47)) (fun i _=>n - (intOf i).toNat)
   case atStart=>exact⟨0,by omega,rfl,qh (by simp),rfl⟩
   case round=>
    obtain⟨j,hj,rfl,HA,rfl⟩:=hrel
    by_cases hjk:j<n
    ·have hji:(j:Int)<(n:Int):=by omega
     obtain⟨ad,pid,PV,A',n',c',hA2,_,hPj,d0,d1,r1,r2,r3,r4,r5⟩:=pk17_at (HS.out.keep hk0.out (fun _ h=>h.elim)) hjk
     subst hA2
     have HPj:=qh hPj
     have HR2:=qh r2
     clear hPj r1 r2 r3 r4 r5
     have q5:=hb0.out.cell 5
     by_cases h3:n'≤3000
     ·have h3':(n':Int)≤3000:=by omega
      have hR:Hid (∀p∈P.take (j+1),p.2.length≤3000):=qh (fun p h=>by
       rw[List.take_add_one,HPj.out] at h
       rcases List.mem_append.1 h with h | h
       ·exact HA.out p h
       ·simp at h;rw[h];simp only;rw[HR2.out];exact h3)
      go_wp2_with fail
      go_roundw
      case rel=>exact⟨j+1,by omega,by go_num,hR,trivial⟩
      case measure=>simp[intOf];try omega
     ·have h3':¬(n':Int)≤3000:=by omega
      have h3'':(3000:Int)<(n':Int):=by omega
      go_wp2_with fail
      go_ret
      exact LgtRet17.no hk0.out
    ·have ej:j=n:=by omega
     have hji:¬(j:Int)<(n:Int):=by omega
     have hR:Hid (∀p∈P,p.2.length≤3000):=qh (by have h:=HA.out;rwa [ej,List.take_of_length_le (by rw[HPl.out];exact Nat.le_refl _)] at h)
     have q5:=hb0.out.cell 5
     clear ej hjk
     go_wp2_with fail
     go_ret
     exact LgtRet17.yes hk0.out H30.out hR.out
  ·have h1:(30:Int)<(n:Int):=by omega
   clear h30
   go_enter Tryz.func17, Tryz.ntmps17
   go_wp2_with fail
   go_ret
   exact LgtRet17.no hk0.out
end Go.Proofs.YtpapiojicbbheaaGreatDoor

namespace Go.Proofs.YtpapiojicbbheaaGreatDoor
open Go.RowKit
set_option maxHeartbeats 1000000 in
set_option maxRecDepth 100000 in
theorem pbalF_any (a b c:Int) (id:Int) (g:Nat) (w:World) (h:w.cell? ⟨g,0,none⟩=some (.int .i64 id)):Calls Tryz.prog 173 #[.agg #[.int .i64 a,.int .i64 b,.int .i64 c],.pointer (some ⟨g,0,none⟩)] w fun e w'=>e=.returned (.bool (b==id))∧Keep Never w w':=by
 obtain⟨w1,hw1⟩:∃W:World,w.alloc (.cells #[.int .i64 a,.int .i64 b,.int .i64 c] 94)=W:=⟨_,rfl⟩
 have k1:Keep Never w w1:=by rw[←hw1];exact(Keep.refl _ _).alloc _
 have b1:=Blk.new w 94 #[.int .i64 a,.int .i64 b,.int .i64 c]
 rw[hw1] at b1
 have c0:=b1.cell 0
 have c1:=b1.cell 1
 have d0:=keepT k1 h
 have HK:=qh k1
 clear k1 b1 h
 by_cases e1:b=id
 ·have t1:(b==id)=true:=by simpa using e1
  have HF:=qh t1
  clear e1
  go_enter Tryz.func173, Tryz.ntmps173
  go_wp2_with fail
  go_ret
  exact⟨by rw[HF.out];rfl,HK.out⟩
 ·have t1:(b==id)=false:=by simpa using e1
  have HF:=qh t1
  clear e1
  go_enter Tryz.func173, Tryz.ntmps173
  go_wp2_with fail
  go_ret
  exact⟨by rw[HF.out];rfl,HK.out⟩
set_option maxRecDepth 100000 in
theorem pbal_results {w:World}{b:Nat}{v0 v1 v2:Value} (hb:Blk w b 94 #[v0,v1,v2]) (tmps:Array Value) (ht:tmps.getD 4 undef=.pointer (some ⟨b,0,none⟩)) :
    (results Tryz.f132 tmps).run Tryz.prog w=.ok (.tuple #[.agg #[v0,v1,v2],tmps.getD 5 undef]) w:=by
  have q0:w.cell? ⟨b,0,none⟩=some v0:=hb.cell 0
  have q1:w.cell? ⟨b,1,none⟩=some v1:=hb.cell 1
  have q2:w.cell? ⟨b,2,none⟩=some v2:=hb.cell 2
  have ht':tmps[4]?.getD undef=.pointer (some ⟨b,0,none⟩):=by rw[←Array.getD_eq_getD_getElem?];exact ht
  simp[results,ht',go_sem,q0,q1,q2]
set_option maxHeartbeats 4000000 in
set_option maxRecDepth 100000 in
theorem first_any (x:TA) (t:Tp) (B:Nat) (id:Int) (w:World) (ht:TpAt w B x t) (hn:x.nb≤100000000) :
    Calls Tryz.prog 132 #[.agg x.cs,.int .i64 id] w (BalRet (firstB t id) w):=by
  have HR:=qh (bl_rd ht.b)
  obtain⟨Ae,ne,ce,Aj,nj,cj,Ab,nb,cb,Ar,nr,cr⟩:=x
  simp only[TA.cs] at HR hn ⊢
  obtain⟨w1,hw1⟩:∃W:World,w.alloc (.cells #[.slice Ae ne ce,.slice Aj nj cj,.slice Ab nb cb,.slice Ar nr cr] 27)=W:=⟨_,rfl⟩
  obtain⟨w2,hw2⟩:∃W:World,w1.alloc (.cells #[.int .i64 id] 3)=W:=⟨_,rfl⟩
  obtain⟨w3,hw3⟩:∃W:World,w2.alloc (.cells #[.int .i64 0,.int .i64 0,.int .i64 0] 94)=W:=⟨_,rfl⟩
  have z1:w1.heap.size=w.heap.size+1:=by rw[←hw1];simp
  have z2:w2.heap.size=w.heap.size+1+1:=by rw[←hw2,←z1];simp
  have k1:Keep Never w w1:=by rw[←hw1];exact(Keep.refl _ _).alloc _
  have k2:Keep Never w1 w2:=by rw[←hw2];exact(Keep.refl _ _).alloc _
  have k3:Keep Never w2 w3:=by rw[←hw3];exact(Keep.refl _ _).alloc _
  have b1:=Blk.new w 27 #[.slice Ae ne ce,.slice Aj nj cj,.slice Ab nb cb,.slice Ar nr cr]
  rw[hw1] at b1
  have b2:=Blk.new w1 3 #[.int .i64 id]
  rw[hw2,z1] at b2
  have b3:=Blk.new w2 94 #[.int .i64 0,.int .i64 0,.int .i64 0]
  rw[hw3,z2] at b3
  have HB1:=qh ((b1.keep k2 (fun h=>h)).keep k3 (fun h=>h))
  have HB3:=qh b3
  have HK:=qh ((k1.trans k2).trans k3)
  have y2:w3.cell? ⟨w.heap.size,2,none⟩=some (.slice Ab nb cb):=HB1.out.cell 2
  have v0:w3.cell? ⟨w.heap.size+1,0,none⟩=some (.int .i64 id):=(b2.keep k3 (fun h=>h)).cell 0
  have HC:=qh (indexfb_any 173 #[.pointer (some ⟨w.heap.size+1,0,none⟩)] (fun s=>s.2.1==id) (enters_of Tryz.func173 (by kernel_rfl) rfl) Ab nb cb B t.2.2.1 w3 (HR.out.keep HK.out (fun _ h=>h.elim)) (fun W s hk=>pbalF_any s.1 s.2.1 s.2.2 id _ W (keepT hk v0)) (by omega))
  clear k1 k2 k3 b1 b2 b3 ht v0
  go_enter Tryz.func132, Tryz.ntmps132
  go_wp2_with fail
  refine HC.out.mono ?_
  rintro e w4 ⟨⟨i,s,rfl,h1,h2,h3⟩ | ⟨rfl,h1⟩,hk4⟩
  ·have HM:Hid (firstB t id=some s):=qh (find_idx h1 h2 h3)
   have HK4:=qtr HK hk4
   have hin:i<nb:=by have:=HR.out.sp_len;have:=(List.getElem?_eq_some_iff.1 h1).1;omega
   have hiz:(i:Int)<(nb:Int):=by omega
   have hi0:¬(i:Int)<0:=by omega
   obtain⟨ad,s',hA,_,hs,c0,c1,c2⟩:=(HR.out.keep HK4.out (fun _ h=>h.elim)).sp hin
   subst hA
   rw[h1] at hs
   injection hs with hs
   subst hs
   have hb1:=HB1.out.keep hk4 (fun h=>h)
   have y2:w4.cell? ⟨w.heap.size,2,none⟩=some (.slice (some ad) nb cb):=hb1.cell 2
   have HB4:=qkb HB3 hk4
   obtain⟨g0,g1,g2⟩:=bc3 HB4.out
   have f0:=HB4.out.frozen 0
   have f1:=HB4.out.frozen 1
   have f2:=HB4.out.frozen 2
   obtain⟨s1,s2,s3⟩:=s
   simp only at c0 c1 c2
   have HBz:=qh (put3_blk HB4.out (.int .i64 s1) (.int .i64 s2) (.int .i64 s3))
   have HKz:=qh (put3_keep HK4.out (show w.heap.size≤w.heap.size+1+1 by omega) (.int .i64 s1) (.int .i64 s2) (.int .i64 s3))
   clear h1 h2 h3 hk4 hb1 HC
   go_wp2_with fail
   (try simp only[Exit.inBlock,Exit.then])
   refine bodyPost_ret (pbal_results HBz.out _ rfl) rfl ⟨by rw[HM.out];rfl,HKz.out⟩
  ·have HM:Hid (firstB t id=none):=qh (find_no h1)
   have HK4:=qtr HK hk4
   have HB4:=qkb HB3 hk4
   obtain⟨g0,g1,g2⟩:=bc3 HB4.out
   have f0:=HB4.out.frozen 0
   have f1:=HB4.out.frozen 1
   have f2:=HB4.out.frozen 2
   have HBz:=qh (put3_blk HB4.out (.int .i64 0) (.int .i64 0) (.int .i64 0))
   have HKz:=qh (put3_keep HK4.out (show w.heap.size≤w.heap.size+1+1 by omega) (.int .i64 0) (.int .i64 0) (.int .i64 0))
   clear h1 hk4 HC y2
   go_wp2_with fail
   (try simp only[Exit.inBlock,Exit.then])
   refine bodyPost_ret (pbal_results HBz.out _ rfl) rfl ⟨by rw[HM.out];rfl,HKz.out⟩
end Go.Proofs.YtpapiojicbbheaaGreatDoor
