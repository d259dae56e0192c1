/- Walks and laws, joined: part B. No condition. -/
import Derived.Test.YthffpbkndnhlfaaGreatDoorTrJA
import Derived.Deep.RegionHeld3
import Derived.Deep.DrawnRows
set_option linter.unusedSimpArgs false
set_option linter.unusedVariables false
set_option maxRecDepth 100000
set_option maxHeartbeats 32000000
namespace Go.Proofs.YthffpbkndnhlfaaGreatDoor
section
open Go Go.RowKit Go.Wk Go.Rd Go.Fx
attribute [local go_sem ↓] Go.wp_at_zero Go.wp_at_succ
structure Fr (L R:Nat) (w w':World):Prop where
 os:w'.os=w.os
 tape:w'.tape=w.tape
 output:w'.output=w.output
 size:w.heap.size≤w'.heap.size
 block:∀k,k<w.heap.size→k≠L→k≠R→w'.heap[k]?=w.heap[k]?
theorem Fr.refl (L R:Nat) (w:World):Fr L R w w:=⟨rfl,rfl,rfl,Nat.le_refl _,fun _ _ _ _=>rfl⟩
theorem Fr.trans {L R:Nat}{a b c:World}(h:Fr L R a b) (k:Fr L R b c):Fr L R a c:=
 ⟨k.os.trans h.os,k.tape.trans h.tape,k.output.trans h.output,Nat.le_trans h.size k.size,fun j hj h1 h2=>(k.block j (Nat.lt_of_lt_of_le hj h.size) h1 h2).trans (h.block j hj h1 h2)⟩
theorem Fr.of_save {L R:Nat}{a b:World}(h:Save L a b):Fr L R a b:=⟨h.os,h.tape,h.output,h.size,fun k hk h1 _=>h.block k hk h1⟩
theorem Fr.of_below {L R:Nat}{a b:World}(h:Below a.heap.size a b):Fr L R a b:=⟨h.os,h.tape,h.output,h.size,fun k hk _ _=>h.block k hk⟩
theorem Fr.below {L R B:Nat}{a b:World}(h:Fr L R a b) (hL:B≤L) (hR:B≤R) (hB:B≤a.heap.size):Below B a b:=⟨h.os,h.tape,h.output,h.size,fun k hk=>h.block k (by omega) (by omega) (by omega)⟩
theorem Fr.thenB {L R:Nat}{a b c:World}(h:Fr L R a b) (k:Below a.heap.size b c):Fr L R a c:=⟨k.os.trans h.os,k.tape.trans h.tape,k.output.trans h.output,Nat.le_trans h.size k.size,fun j hj h1 h2=>(k.block j hj).trans (h.block j hj h1 h2)⟩
theorem Fr.storeR {L R:Nat}{a b:World}(h:Fr L R a b) (o:Nat) (u:Value):Fr L R a (b.setCell ⟨R,o,none⟩ u):=
 h.trans ⟨rfl,rfl,rfl,by simp[World.setCell],fun k _ _ hn=>Below.heap_setCell _ _ _ _ hn⟩
theorem Fr.store {L R:Nat}{a b:World}(h:Fr L R a b) (o:Nat) (u:Value):Fr L R a (b.setCell ⟨L,o,none⟩ u):=
 h.trans ⟨rfl,rfl,rfl,by simp[World.setCell],fun k _ hn _=>Below.heap_setCell _ _ _ _ hn⟩
structure LS (L R:Nat) (A:Option Addr) (c:Nat) (bs:Bs) (M V:Value) (w:World) (r:Bs):Prop where
 cur:Cur w w L A c bs (pos bs r)
 rdr:Blk w R 51 #[.pointer (some ⟨L,0,none⟩),M,V]
 ne:L≠R
 neA:0<bs.length→∀x,A=some x→x.block≠R
 cap:bs.length≤c
 suf:r <:+bs
section
variable {L R:Nat}{A:Option Addr}{c:Nat}{bs:Bs}{M V:Value}{w w':World}{r r':Bs}
theorem LS.L_lt (h:LS L R A c bs M V w r):L<w.heap.size:=ac h.cur.cb
theorem LS.R_lt (h:LS L R A c bs M V w r):R<w.heap.size:=h.rdr.lt
theorem LS.a_lt (h:LS L R A c bs M V w r):0<bs.length→∀x,A=some x→x.block<w.heap.size:=fun h0 x hx=>by
 obtain⟨g,o,e,hc⟩:=h.cur.byt.2 h0;rw[hx]at e;injection e with e;rw[e];exact ac (hc 0 h0)
theorem LS.cur_to {p':Nat}(h:LS L R A c bs M V w r) (k:Cur w w' L A c bs p') (hs:r' <:+bs) (hp:p'=pos bs r'):LS L R A c bs M V w' r'∧Fr L R w w':=by
 subst hp;exact⟨⟨k.here,(k.bel.block R h.rdr.lt h.ne.symm).trans h.rdr,h.ne,h.neA,h.cap,hs⟩,Fr.of_save k.bel⟩
theorem LS.below {B:Nat}(h:LS L R A c bs M V w r) (hb:Below B w w') (hL:L<B) (hR:R<B) (hA:0<bs.length→∀x,A=some x→x.block<B):LS L R A c bs M V w' r:=by
 have hc:=h.cur;refine⟨⟨hc.ne,Save.refl _ _,(hb.cell (p:=⟨L,0,none⟩) hL).trans hc.cb,(hb.cell (p:=⟨L,1,none⟩) hL).trans hc.ca,(hb.frozen (p:=⟨L,1,none⟩) hL).trans hc.fr,⟨hc.byt.1,fun h0=>?_⟩,hc.le,hc.small⟩,h.rdr.below hb hR,h.ne,h.neA,h.cap,h.suf⟩;obtain⟨g,o,e,hcc⟩:=hc.byt.2 h0;exact⟨g,o,e,fun i hi=>(hb.cell (p:=⟨g,o+i,none⟩) (show g<B from hA h0 _ e)).trans (hcc i hi)⟩
theorem LS.belowW (h:LS L R A c bs M V w r) (hb:Below w.heap.size w w'):LS L R A c bs M V w' r:=h.below hb h.L_lt h.R_lt h.a_lt
theorem LS.set (h:LS L R A c bs M V w r) (i:Nat) (u:Value) (M' V':Value) (hi:(#[.pointer (some ⟨L,0,none⟩),M,V]:Array Value).setIfInBounds i u=#[.pointer (some ⟨L,0,none⟩),M',V']):LS L R A c bs M' V' (w.setCell ⟨R,i,none⟩ u) r:=by
 have hc:=h.cur;have hn:∀j,(⟨L,j,none⟩:Addr)≠⟨R,i,none⟩:=fun j e=>h.ne (by injection e)
 refine⟨⟨hc.ne,Save.refl _ _,?_,?_,?_,⟨hc.byt.1,fun h0=>?_⟩,hc.le,hc.small⟩,?_,h.ne,h.neA,h.cap,h.suf⟩
 ·rw[World.cell?_setCell_other _ _ _ _ (hn 0).symm];exact hc.cb
 ·rw[World.cell?_setCell_other _ _ _ _ (hn 1).symm];exact hc.ca
 ·simp[hc.fr]
 ·obtain⟨g,o,e,hcc⟩:=hc.byt.2 h0
  refine⟨g,o,e,fun j hj=>?_⟩;rw[World.cell?_setCell_other _ _ _ _ (by intro e2;exact h.neA h0 _ e (by injection e2 with e2;exact e2.symm))];exact hcc j hj
 ·rw[←hi];exact h.rdr.set_ i u
theorem LS.posOf (h:LS L R A c bs M V w r):posOf L w=pos bs r:=by
 unfold Proofs.YthffpbkndnhlfaaGreatDoor.posOf;rw[h.cur.ca];simp
theorem LS.le (h:LS L R A c bs M V w r):pos bs r≤bs.length:=aE _ _
end
theorem ip {w0 w:World}{L:Nat}{A:Option Addr}{c:Nat}{bs:List UInt8}{p:Nat}(h:Cur w0 w L A c bs p) (i:Nat) (hi:i≤2000000000) :
 Calls Tryz.prog 56 #[.pointer (some ⟨L,0,none⟩),.int .i64 (i:Nat)] w fun e w'=>e=.returned (.int .i64 (aU bs (p+i)))∧∃n,w'=w.drewN n:=by
 obtain⟨h1,h2,h3,h4,h5,h6,h7,h8⟩:=h;have hS:=hi_ (show aU bs (p+i)=match bs[p+i]? with|some b=>(b.toNat:Int)|none=> -1 from rfl);generalize aU bs (p+i)=S at *;have hi1:decide ((i:Int)< -(p:Int))=false:=by rw[decide_eq_false_iff_not];omega
 have hwr:IntKind.i64.wrap ((p:Int)+(i:Int))=(p:Int)+(i:Int):=IntWalk.i64_in _ (by omega);by_cases hlt:p+i<bs.length
 ·obtain⟨b,o,rfl,hc⟩:=h6.2 (by omega)
  have hck:=(h2.cell (p:=⟨b,o+(p+i),none⟩) (show b≠L from h1 (by omega) ⟨b,o,none⟩ rfl) (ac (hc (p+i) hlt))).trans (hc (p+i) hlt);have hS2:=hi_ (show S=(bs[p+i].toNat:Int) by rw[hS.out,List.getElem?_eq_getElem hlt]);generalize bs[p+i]=x at *;clear hc h6 h2 h1;have hx0:=dK x;obtain⟨xn,hxn⟩:∃n:Int,n=(x.toNat:Int):=⟨_,rfl⟩;rw[←hxn]at hck hx0 hS2;have hx1:0≤xn:=by omega
  have hxw:wrap64 xn=xn:=by unfold wrap64;omega
  replace hxw:=hi_ hxw;clear hxn;go_enter Tryz.func56,Tryz.ntmps56;go_wp2
  ·go_quiet (fail)
   go_wp2
   go_ret
   exact⟨by rw[hS2.out];first|rfl|exact congrArg (fun z=>Ending.returned (.int .i64 z)) hxw.out,⟨_,rfl⟩⟩
 ·have hS2:=hi_ (show S= -1 by rw[hS.out,List.getElem?_eq_none (by omega)])
  clear h6 h2 h1;go_enter Tryz.func56,Tryz.ntmps56;go_wp2
  go_ret
  exact⟨by rw[hS2.out];rfl,0,rfl⟩
theorem mE {w0 w:World}{L:Nat}{A:Option Addr}{c:Nat}{bs:List UInt8}{p:Nat}(h:Cur w0 w L A c bs p) (i:Nat) (hi:i≤2000000000) :
 Calls Tryz.prog 56 #[.pointer (some ⟨L,0,none⟩),.int .i64 (i:Nat)] w fun e w'=>e=.returned (.int .i64 (aU bs (p+i)))∧Cur w0 w' L A c bs p:=
 (ip h i hi).mono fun e w' ⟨h1,n,h2⟩=>⟨h1,by rw[h2];exact h.drawn n⟩
theorem qr {w0 w:World}{L:Nat}{A:Option Addr}{c:Nat}{bs:List UInt8}{p:Nat}(h:Cur w0 w L A c bs p) :
 Calls Tryz.prog 14 #[.pointer (some ⟨L,0,none⟩)] w fun e w'=>e=.returned (.int .i64 (p:Nat))∧w'=w:=by
 obtain⟨h1,h2,h3,h4,h5,h6,h7,h8⟩:=h;clear h6 h2 h1;go_enter Tryz.func14,Tryz.ntmps14;go_wp2
 go_ret
 exact⟨rfl,rfl⟩
theorem oc {w0 w:World}{L:Nat}{A:Option Addr}{c:Nat}{bs:List UInt8}{p:Nat}(h:Cur w0 w L A c bs p) (q:Nat) (hq:q≤bs.length) :
 Calls Tryz.prog 30 #[.pointer (some ⟨L,0,none⟩),.int .i64 (q:Nat)] w fun e w'=>e=.returned (.bool true)∧Cur w0 w' L A c bs q:=by
 have H:=hi_ h;obtain⟨h1,h2,h3,h4,h5,h6,h7,h8⟩:=h;clear h6 h2 h1;have hq1:decide ((bs.length:Int)<(q:Int))=false:=by simp;omega
 go_enter Tryz.func30,Tryz.ntmps30;go_wp2
 go_ret
 exact⟨rfl,H.out.go q hq⟩
end
open Go Go.RowKit Go.Wk Go.Rd Go.Fx
section
variable {L R:Nat}{A:Option Addr}{c:Nat}{bs:Bs}{M V:Value}{w w':World}{r r':Bs}
theorem LS.save_to {p':Nat}(h:LS L R A c bs M V w r) (k:Cur w w' L A c bs p') (hs:r' <:+bs) (hp:p'=pos bs r'):LS L R A c bs M V w' r'∧Save L w w':=⟨(h.cur_to k hs hp).1,k.bel⟩
theorem l0 (i:Nat) (hi:i≤2000000000) (W:World) (h:LS L R A c bs M V W r):Calls Tryz.prog 56 #[.pointer (some ⟨L,0,none⟩),.int .i64 (i:Nat)] W fun e w'=>e=.returned (.int .i64 (pk r i))∧LS L R A c bs M V w' r∧Save L W w':=
 (mE h.cur i hi).mono fun e w' k=>⟨by rw[k.1,iB h.suf],h.save_to k.2 h.suf rfl⟩
theorem LS.drawn (h:LS L R A c bs M V w r) (n:Nat):LS L R A c bs M V (w.drewN n) r:=h.belowW (ax w n)
theorem jJ (h:LS L R A c bs M V w r) (i:Nat) (hi:i≤2000000000) (n:Nat):Calls Tryz.prog 56 #[.pointer (some ⟨L,0,none⟩),.int .i64 (i:Nat)] (w.drewN n) fun e w'=>e=.returned (.int .i64 (pk r i))∧∃m,w'=w.drewN m:=
 Calls.quiet_of ((ip (h.drawn n).cur i hi).mono fun e w' k=>⟨by rw[k.1,iB h.suf],k.2⟩)
theorem fk (W:World) (h:LS L R A c bs M V W r):Calls Tryz.prog 56 #[.pointer (some ⟨L,0,none⟩),.int .i64 0] W fun e w'=>e=.returned (.int .i64 (pk r 0))∧LS L R A c bs M V w' r∧Save L W w':=l0 0 (by omega) W h
theorem bi {x:UInt8}{t:Bs}{X:Int}(hX:X=(x.toNat:Int)) (W:World) (h:LS L R A c bs M V W (x :: t)):Calls Tryz.prog 56 #[.pointer (some ⟨L,0,none⟩),.int .i64 0] W fun e w'=>e=.returned (.int .i64 X)∧LS L R A c bs M V w' (x :: t)∧Save L W w':=by
 rw[hX];exact fk W h
theorem fl (W:World) (h:LS L R A c bs M V W []):Calls Tryz.prog 56 #[.pointer (some ⟨L,0,none⟩),.int .i64 0] W fun e w'=>e=.returned (.int .i64 (-1))∧LS L R A c bs M V w' []∧Save L W w':=fk W h
theorem dM {x:UInt8}{t:Bs}{X:Int}(hX:X=(x.toNat:Int)) (W:World) (h:LS L R A c bs M V W (x :: t)):Calls Tryz.prog 60 #[.pointer (some ⟨L,0,none⟩)] W fun e w'=>e=.returned (.int .i64 X)∧LS L R A c bs M V w' t∧Save L W w':=by
 have hp:=bU h.suf;have hk:=fd h.cur;rw[if_pos hp.2,show aU bs (pos bs (x :: t))=X from by rw[hX];exact iB h.suf 0]at hk;exact hk.mono fun e w' k=>⟨k.1,h.save_to k.2 (gW h.suf) hp.1.symm⟩
theorem gG (W:World) (h:LS L R A c bs M V W []):Calls Tryz.prog 60 #[.pointer (some ⟨L,0,none⟩)] W fun e w'=>e=.returned (.int .i64 (-1))∧LS L R A c bs M V w' []∧Save L W w':=by
 have hk:=fd h.cur;rw[if_neg (by unfold pos;simp),show aU bs (pos bs [])= -1 from iB h.suf 0]at hk;exact hk.mono fun e w' k=>⟨k.1,h.save_to k.2 h.suf rfl⟩
theorem ja (W:World) (h:LS L R A c bs M V W r):Calls Tryz.prog 14 #[.pointer (some ⟨L,0,none⟩)] W fun e w'=>e=.returned (.int .i64 (pos bs r:Nat))∧W=w':=
 (qr h.cur).mono fun e w' k=>⟨k.1,k.2.symm⟩
theorem gq (hr:r' <:+bs) {q:Int}(hq:q=(pos bs r':Nat)) (W:World) (h:LS L R A c bs M V W r):Calls Tryz.prog 30 #[.pointer (some ⟨L,0,none⟩),.int .i64 q] W fun e w'=>e=.returned (.bool true)∧LS L R A c bs M V w' r'∧Save L W w':=by
 rw[hq];exact (oc h.cur (pos bs r') (aE _ _)).mono fun e w' k=>⟨k.1,h.save_to k.2 hr rfl⟩
theorem mh {r:Bs}(h:r <:+bs) (n:Nat) (hn:n≤r.length):pos bs r+n=pos bs (r.drop n):=(dq h n hn).symm
theorem ky {s r:Bs}(h:r <:+bs):cR bs (pos bs r) s=decide (s <+:r):=by
 have h1:=fy h;have h2:=aB h;rw[Bool.eq_iff_iff];unfold cR;rw[h1];simp only[Bool.and_eq_true,decide_eq_true_eq,beq_iff_eq]
 constructor
 ·rintro⟨_,h3⟩;exact⟨_,by rw[←h3];exact List.take_append_drop _ _⟩
 ·rintro⟨q,hq⟩
  refine⟨?_,by rw[←hq];simp⟩;have h3:=congrArg List.length hq;unfold pos;simp at h3;omega
theorem gF (s:ByteArray) (hs:1≤s.size) (hs2:s.size≤1000000) (W:World) (h:LS L R A c bs M V W r) :
 Calls Tryz.prog 54 #[.pointer (some ⟨L,0,none⟩),.string s] W fun e w'=>e=.returned (.bool (decide (s.data.toList <+:r)))∧LS L R A c bs M V w' (if s.data.toList <+:r then r.drop s.size else r)∧Save L W w':=by
 refine (mD s h.cur h.cap hs (by omega)).mono ?_;rintro e w' ⟨rfl,k⟩;rw[ky h.suf]at k⊢;refine⟨rfl,?_⟩;by_cases hp:s.data.toList <+:r
 ·rw[if_pos hp]
  rw[decide_eq_true hp,if_pos rfl]at k;have hl:=hp.length_le;have hsl:s.data.toList.length=s.size:=Array.length_toList;exact h.save_to k (dc h.suf _) (mh h.suf _ (by omega))
 ·rw[if_neg hp]
  rw[decide_eq_false hp,if_neg (by decide)]at k;exact h.save_to k h.suf rfl
theorem ey (s:ByteArray) {t:Bs}(hs:1≤s.size) (hs2:s.size≤1000000) (hr:r=s.data.toList++t) (W:World) (h:LS L R A c bs M V W r) :
 Calls Tryz.prog 54 #[.pointer (some ⟨L,0,none⟩),.string s] W fun e w'=>e=.returned (.bool true)∧LS L R A c bs M V w' t∧Save L W w':=by
 have hp:s.data.toList <+:r:=⟨t,hr.symm⟩;have hsl:s.data.toList.length=s.size:=Array.length_toList;have:=gF s hs hs2 W h;rw[if_pos hp,decide_eq_true hp,←hsl]at this;have e:r.drop s.data.toList.length=t:=by rw[hr,List.drop_left]
 rw[e]at this;exact this
theorem aC (s:ByteArray) (hs:1≤s.size) (hs2:s.size≤1000000) (hr:¬s.data.toList <+:r) (W:World) (h:LS L R A c bs M V W r) :
 Calls Tryz.prog 54 #[.pointer (some ⟨L,0,none⟩),.string s] W fun e w'=>e=.returned (.bool false)∧LS L R A c bs M V w' r∧Save L W w':=by
 have:=gF s hs hs2 W h;rw[if_neg hr,decide_eq_false hr]at this;exact this
theorem LS.q0 (h:LS L R A c bs M V w r):w.cell? ⟨R,0,none⟩=some (.pointer (some ⟨L,0,none⟩)):=h.rdr.cell 0
end
theorem cO {x:UInt8}{X:Int}(hX:X=(x.toNat:Int)) {b:Bool}(hb:b=bu x) (w:World):Calls Tryz.prog 55 #[.int .i64 X] w fun e w'=>e=.returned (.bool b)∧w=w':=by
 rw[hX,hb];exact fZ x w
theorem fi (w:World):Calls Tryz.prog 55 #[.int .i64 (-1)] w fun e w'=>e=.returned (.bool false)∧w=w':=by
 go_enter Tryz.func55,Tryz.ntmps55;go_wp2
 all_goals go_ret
 all_goals exact⟨rfl,rfl⟩
theorem fj (r:Bs) (w:World):Calls Tryz.prog 55 #[.int .i64 (pk r 0)] w fun e w'=>e=.returned (.bool (eR r))∧w=w':=by
 cases r with
 |nil=>exact fi w
 |cons x t=>exact fZ x w
theorem dF {x:UInt8}{X:Int}(hX:X=(x.toNat:Int)) {b:Bool}(hb:b=aY x) (w:World):Calls Tryz.prog 59 #[.int .i64 X] w fun e w'=>e=.returned (.bool b)∧w=w':=by
 rw[hX,hb,←eC];exact ik (x.toNat:Int) w
theorem eF {w:World}(x:Int) (hx: -1≤x∧x≤255):Calls Tryz.prog 183 #[.int .i64 x] w fun e w'=>e=.returned (.int .i64 (bM x))∧w=w':=by
 have h:bM x=if 48≤x∧x≤57 then x - 48 else if 97≤x∧x≤102 then x - 87 else if 65≤x∧x≤70 then x - 55 else -1:=rfl
 replace h:=hi_ h;generalize bM x=B at *;go_enter Tryz.func183,Tryz.ntmps183;go_wp2
 all_goals go_ret
 all_goals
  refine⟨congrArg (fun b=>Ending.returned (.int .i64 b)) ?_,rfl⟩;have:=h.out;split at this
  ·omega
  split at this
  ·omega
  split at this <;> omega
section
variable {L R:Nat}{A:Option Addr}{c:Nat}{bs:Bs}{M V:Value}{w w':World}{r r':Bs}
theorem jb (W:World) (h:LS L R A c bs M V W r):Calls Tryz.prog 53 #[.pointer (some ⟨R,0,none⟩)] W fun e w'=>e=.returned (.bool true)∧W=w':=by
 have q0:=h.q0;replace h:=hi_ h;go_enter Tryz.func53,Tryz.ntmps53;go_wp2
 all_goals go_ret
 all_goals exact⟨rfl,rfl⟩
theorem gH (W:World) (h:LS L R A c bs M V W r):Calls Tryz.prog 28 #[.pointer (some ⟨R,0,none⟩)] W fun e w'=>e=.returned (.tuple #[])∧LS L R A c bs M V w' (af false r)∧Save L W w':=by
 obtain⟨K,hK⟩:∃K,K=af false r:=⟨_,rfl⟩;rw[←hK];have cm:=hi_ fun W' (h:LS L R A c bs M V W' r)=>jb W' h
 replace hK:=hi_ hK;replace h:=hi_ h;go_enter Tryz.func28,Tryz.ntmps28;go_wp2_with (go_at_call 53;(with_reducible refine (cm.out _ h.out).mono ?_);rintro e w2 ⟨rfl,rfl⟩)
 go_loopw [2] (fun _ wr=>∃r1,LS L R A c bs M V wr r1∧af false r1=K∧Save L W wr) (fun _ wr=>bs.length+1 - posOf L wr)
 case atStart=>exact⟨r,h.out,hK.out.symm,Save.refl _ _⟩
 case round=>
  obtain⟨r1,hL,hE,hS⟩:=hrel;have hms:=hL.posOf;clear h hK cm;cases r1 with
  |nil=>
   obtain rfl:K=[]:=hE.symm;have cp:=hi_ fun W h=>fl (L:=L) (R:=R) (A:=A) (c:=c) (bs:=bs) (M:=M) (V:=V) W h
   have q0:=hL.q0;replace hL:=hi_ hL;replace hS:=hi_ hS;clear hms hE;go_wp2_with (go_at_call 56;(with_reducible refine (cp.out _ hL.out).mono ?_);rintro e w1 ⟨rfl,hL2,hS2⟩;replace hL:=hi_ hL2;replace hS:=hi_ (hS.out.trans hS2);replace q0:=hL.out.q0;clear hL2 hS2)
   exact bodyPost_ret (by simp[results,Tryz.results28,go_sem];try rfl) rfl ⟨rfl,hL.out,hS.out⟩
  |cons x t=>
   obtain⟨X,hX⟩:=aT (x.toNat:Int);have hX0:0≤X∧X≤255:=by rw[hX.out];have:=x.toNat_lt;omega
   have cp:=hi_ fun W h=>bi (L:=L) (R:=R) (A:=A) (c:=c) (bs:=bs) (M:=M) (V:=V) (t:=t) hX.out W h
   have cn:=hi_ fun W h=>dM (L:=L) (R:=R) (A:=A) (c:=c) (bs:=bs) (M:=M) (V:=V) (t:=t) hX.out W h
   have hpc:=bU hL.suf;have q0:=hL.q0;have h37:(X == 37)=(x == 37):=by rw[hX.out,aq x 37];rfl
   refine h5_ hpc hL hS hE hms ?_;clear hpc hL hS hE hms;intro hpc hL hS hE hms;cases hwx:aY x with
   |true=>
    have cw:=hi_ fun W=>dF hX.out hwx.symm W
    clear h37;go_wp2_with (first|((first|(go_at_call 56;(with_reducible refine (cp.out _ hL.out).mono ?_))|(go_at_call 60;(with_reducible refine (cn.out _ hL.out).mono ?_)));rintro e w1 ⟨rfl,hL2,hS2⟩;replace hL:=hi_ hL2;replace hS:=hi_ (hS.out.trans hS2);replace q0:=hL.out.q0;clear hL2 hS2)|(go_at_call 59;(with_reducible refine (cw.out _).mono ?_);rintro e w2 ⟨rfl,rfl⟩))
    have e1:=hL.out.posOf;have e2:=hms.out;have e3:=hpc.out;have e4:=hE.out;rw[af,hwx,if_pos rfl]at e4;exact⟨⟨t,hL.out,e4,hS.out⟩,by rw[e1,e2];omega⟩
   |false=>
    have cw:=hi_ fun W=>dF hX.out hwx.symm W
    cases hx37:(x == 37) with
    |false=>
     rw[hx37]at h37;have e4:=hE.out;rw[af,hwx,if_neg (by decide),hx37,if_neg (by decide)]at e4;subst e4;clear hE;go_wp2_with (first|(go_at_call 56;(with_reducible refine (cp.out _ hL.out).mono ?_);rintro e w1 ⟨rfl,hL2,hS2⟩;replace hL:=hi_ hL2;replace hS:=hi_ (hS.out.trans hS2);replace q0:=hL.out.q0;clear hL2 hS2)|(go_at_call 59;(with_reducible refine (cw.out _).mono ?_);rintro e w2 ⟨rfl,rfl⟩))
     exact bodyPost_ret (by simp[results,Tryz.results28,go_sem];try rfl) rfl ⟨rfl,hL.out,hS.out⟩
    |true=>
     rw[hx37]at h37;have e4:=hE.out;rw[af,hwx,if_neg (by decide),hx37,if_pos rfl]at e4;have e5:af true (x :: t)=K:=by
      have hx:x=37:=by simpa using hx37
      rw[hx,af,if_neg (by decide)];exact e4
     replace e5:=hi_ e5;clear hE e4 cn;obtain rfl:X=37:=by simpa using h37
     clear h37;go_wp2_with (first|(go_at_call 56;(with_reducible refine (cp.out _ hL.out).mono ?_);rintro e w1 ⟨rfl,hL2,hS2⟩;replace hL:=hi_ hL2;replace hS:=hi_ (hS.out.trans hS2);replace q0:=hL.out.q0;clear hL2 hS2)|(go_at_call 59;(with_reducible refine (cw.out _).mono ?_);rintro e w2 ⟨rfl,rfl⟩))
     obtain⟨wj,rfl⟩:∃wo:World,wo=wr:=⟨_,rfl⟩;go_loopw [2] (fun s2 wr=>∃r2,s2=.int .i64 (pk r2 0)∧LS L R A c bs M V wr r2∧af true r2=K∧Save L W wr∧(r2=x :: t∨r2.length≤t.length)) (fun _ wr=>bs.length+1 - posOf L wr)
     case atStart=>exact⟨x :: t,congrArg (Value.int .i64) hX.out,hL.out,e5.out,hS.out,.inl rfl⟩
     case round=>
      obtain⟨r2,rfl,hL2,hE2,hS2,hor⟩:=hrel;have hlast:r2.length≤t.length→posOf L wj<posOf L wr:=fun h=>by
       have e1:=hL2.posOf;have e2:=hms.out;have e3:=aB hL2.suf;have e4:=aK hL2.suf;have e6:=hpc.out;rw[e1,e2];unfold pos at *;simp only[List.length_cons]at *;omega
      have hmx:posOf L wr≤bs.length:=by rw[hL2.posOf];exact aE _ _
      have hm2:=hL2.posOf;replace hlast:=hi_ hlast;replace hmx:=hi_ hmx;clear e5 q0 hL hS;cases r2 with
      |nil=>
       have hlast:=hlast.out (Nat.zero_le _);obtain rfl:K=[]:=hE2.symm;have q0:=hL2.q0;obtain⟨hL,hS⟩:Hid (LS L R A c bs M V wr [])∧Hid (Save L W wr):=⟨Lib.hid hL2,Lib.hid hS2⟩;replace hm2:=hi_ hm2;replace hlast:=hi_ hlast;clear hL2 hS2 hE2 hor;rw[show pk [] 0= -1 from rfl];go_wp2
       have e1:=hL.out.posOf;have e2:=hm2.out;have e3:=hlast.out;have e4:=hmx.out;exact⟨⟨[],hL.out,rfl,hS.out⟩,by omega⟩
      |cons y t2=>
       rw[show pk (y :: t2) 0=(y.toNat:Int) from rfl];obtain⟨Y,hY⟩:=aT (y.toNat:Int);have hY0:0≤Y∧Y≤255:=by rw[hY.out];have:=y.toNat_lt;omega
       rw[←hY.out];have cn2:=hi_ fun W h=>dM (L:=L) (R:=R) (A:=A) (c:=c) (bs:=bs) (M:=M) (V:=V) (t:=t2) hY.out W h
       have cp2:=hi_ fun W h=>fk (L:=L) (R:=R) (A:=A) (c:=c) (bs:=bs) (M:=M) (V:=V) (r:=t2) W h
       have hpc2:=bU hL2.suf;have q0:=hL2.q0;have h10:(Y !=10)=!(y == 10):=by rw[hY.out,aq y 10];rfl
       have h13:(Y !=13)=!(y == 13):=by rw[hY.out,aq y 13];rfl
       obtain⟨hL,hS⟩:Hid (LS L R A c bs M V wr (y :: t2))∧Hid (Save L W wr):=⟨Lib.hid hL2,Lib.hid hS2⟩;have hne:(y == 10 || y == 13)=true→(y :: t2).length≤t.length:=fun h=>by
        rcases hor with e|e
        ·injection e with e _
         rw[e]at h;have:x=37:=by simpa using hx37
         rw[this]at h;exact absurd h (by decide)
        ·exact e
       have hle2:t2.length≤t.length:=by
        rcases hor with e|e
        ·injection e with _ e;rw[e];exact Nat.le_refl _
        ·simp only[List.length_cons]at e;omega
       refine h5_ hle2 hm2 hpc2 hne hE2 ?_;clear hle2 hm2 hpc2 hne hE2;intro hle2 hm2 hpc2 hne hE2;clear hL2 hS2 hor;cases hy10:(y == 10) with
       |true=>
        simp only[hy10,Bool.not_true,Bool.not_false]at h10;go_wp2
        have e1:=hL.out.posOf;have e2:=hm2.out;have e3:=hlast.out (hne.out (by rw[hy10];rfl));have e4:=hmx.out;have e5:=hE2.out;have hwy:aY y=true:=by
         have:y=10:=by simpa using hy10
         rw[this];decide
        rw[af,hy10,Bool.true_or,if_pos rfl]at e5;exact⟨⟨y :: t2,hL.out,by rw[af,hwy,if_pos rfl];exact e5,hS.out⟩,by omega⟩
       |false=>
        simp only[hy10,Bool.not_true,Bool.not_false]at h10;cases hy13:(y == 13) with
        |true=>
         simp only[hy13,Bool.not_true,Bool.not_false]at h13;go_wp2
         have e1:=hL.out.posOf;have e2:=hm2.out;have e3:=hlast.out (hne.out (by rw[hy13];simp));have e4:=hmx.out;have e5:=hE2.out;have hwy:aY y=true:=by
          have:y=13:=by simpa using hy13
          rw[this];decide
         rw[af,hy13,Bool.or_true,if_pos rfl]at e5;exact⟨⟨y :: t2,hL.out,by rw[af,hwy,if_pos rfl];exact e5,hS.out⟩,by omega⟩
        |false=>
         simp only[hy13,Bool.not_true,Bool.not_false]at h13;go_wp2_with (first|((first|(go_at_call 60;(with_reducible refine (cn2.out _ hL.out).mono ?_))|(go_at_call 56;(with_reducible refine (cp2.out _ hL.out).mono ?_)));rintro e w1 ⟨rfl,hL2,hS2⟩;replace hL:=hi_ hL2;replace hS:=hi_ (hS.out.trans hS2);replace q0:=hL.out.q0;clear hL2 hS2))
         have e1:=hL.out.posOf;have e2:=hm2.out;have e3:=hpc2.out;have e5:=hE2.out;have e6:=hle2.out;rw[af,hy10,hy13,Bool.or_false,if_neg (by decide)]at e5;exact⟨⟨t2,rfl,hL.out,e5,hS.out,.inr e6⟩,by rw[e1,e2];omega⟩
end
theorem Own.sl {B:Nat}{w:World}{v:Value}{b:List UInt8}(h:Own B w v b):∃A n c,v=.slice A n c:=by
 rcases h.row.2 with ⟨rfl,_⟩|⟨g,cap,cur,rfl,_⟩
 ·exact⟨_,_,_,rfl⟩
 ·exact⟨_,_,_,rfl⟩
theorem Own.notL {B:Nat}{w:World}{v:Value}{b:List UInt8}(h:Own B w v b) {g:Nat}{t:TypeId}{cs:Array Value}(hb:Blk w g t cs) (ht:t≠5):v.ownBlock≠some g:=by
 rcases h.row.2 with ⟨rfl,_⟩|⟨g',cap,cur,rfl,_,hh,_⟩
 ·simp[Value.ownBlock]
 ·intro e
  have e:g'=g:=by simpa [Value.ownBlock] using e
  subst e;unfold Blk at hb;rw[hb]at hh;injection hh with hh;injection hh with _ h2;exact ht h2
theorem aO (w:World) (g i:Nat) (v:Value):w.grownBy (w.setCell ⟨g,i,none⟩ v) (some g):=
 ⟨rfl,rfl,rfl,by simp[World.setCell],fun k _ hk=>Below.heap_setCell _ _ _ _ (fun e=>hk (by rw[e]))⟩
theorem bj {B:Nat}{w w':World}{v:Value}{b:List UInt8}{row:Option Nat}(h:Own B w v b) (hg:w.grownBy w' row) (hne:∀q,v.ownBlock=some q→some q≠row):Own B w' v b:=
 ⟨h.row.kept hg (by cases e:v.ownBlock with
  |none=>exact .inl rfl
  |some q=>exact .inr (hne q e))⟩
theorem Own.farL {B:Nat}{w:World}{v:Value}{b:List UInt8}(h:Own B w v b) {g i:Nat}{u:Value}(hg:v.ownBlock≠some g):Own B (w.setCell ⟨g,i,none⟩ u) v b:=
 bj h (aO w g i u) (fun q hq e=>hg (by rw[hq];injection e with e;rw[e]))
structure LO (w0:World) (L R:Nat) (A:Option Addr) (c:Nat) (bs:Bs) (m:Nat) (out:Bs) (w:World) (r:Bs):Prop where
 ls:∃v,LS L R A c bs (.int .i64 (m:Nat)) v w r∧Own w0.heap.size w v out
 fr:Fr L R w0 w
 lL:L<w0.heap.size
 lR:R<w0.heap.size
 off:0<bs.length→∀x,A=some x→x.block<w0.heap.size
section
variable {L R:Nat}{A:Option Addr}{c:Nat}{bs:Bs}{M V:Value}{w w' w0:World}{r r':Bs}{m:Nat}{out:Bs}
theorem LO.mk2 {v:Value}(h:LO w0 L R A c bs m out w r) (hL:LS L R A c bs (.int .i64 (m:Nat)) v w' r') (hO:Own w0.heap.size w v out) (hS:Save L w w'):LO w0 L R A c bs m out w' r':=
 ⟨⟨v,hL,hS.own h.lL hO⟩,h.fr.trans (Fr.of_save hS),h.lL,h.lR,h.off⟩
theorem LO.posOf (h:LO w0 L R A c bs m out w r):posOf L w=pos bs r:=by obtain⟨v,hL,_⟩:=h.ls;exact hL.posOf
theorem dQ {X:Int}{x:UInt8}(hX:X=(x.toNat:Int)) (hm:m≤1000000) (W:World) (h:LO w0 L R A c bs m out W r) (ho:out.length≤m) :
 Calls Tryz.prog 184 #[.pointer (some ⟨R,0,none⟩),.int .i64 X] W fun e w'=>(m≤out.length→e=.returned (.int .i64 3)∧LO w0 L R A c bs m out w' r)∧(out.length<m→e=.returned (.int .i64 0)∧LO w0 L R A c bs m (out++[x]) w' r):=by
 have H:=hi_ h;obtain⟨⟨v,hL,hO⟩,hF,lL,lR,off⟩:=h;have hX0:0≤X∧X≤255:=by rw[hX];have:=x.toNat_lt;omega
 obtain⟨Ao,co,rfl,hby,hA⟩:=hO.out (by unfold maxLen;omega);obtain⟨n,hn⟩:∃n,n=out.length:=⟨_,rfl⟩;rw[←hn]at ho hO hL⊢;clear hby hA;obtain⟨q0,q1,q2,-,-,v2⟩:=hL.rdr.b3;have hw8:IntKind.u8.wrap X=X:=by unfold IntKind.wrap;simp[IntKind.signed,IntKind.bits];omega
 refine h3_ hX hn hF ?_;clear hX hn hF;intro hX hn hF;by_cases hge:m≤n
 ·have hd:decide ((m:Int)≤(n:Int))=true:=by rw[decide_eq_true_eq];omega
  have hS:=hi_ fun k:Nat=>hL.below (ax W k) hL.L_lt hL.R_lt hL.a_lt
  refine h5_ hL hO ho hm hge ?_;clear hL hO ho hm hge;intro hL hO ho hm hge;clear off lL lR;go_enter Tryz.func184,Tryz.ntmps184;go_wp2
  go_quiet (fail)
  go_wp2
  go_ret
  have key:∀k,LO w0 L R A c bs m out (W.drewN k) r:=fun k=>H.out.mk2 (hS.out k) hO.out (Save.of_below (ax W k))
  exact⟨fun _=>⟨rfl,key _⟩,fun h=>absurd h (by have:=hge.out;omega)⟩
 ·have hd:decide ((m:Int)≤(n:Int))=false:=by rw[decide_eq_false_iff_not];omega
  have kp:=hi_ fun k:Nat=>(⟨hL.below (ax W k) hL.L_lt hL.R_lt hL.a_lt,hO.below (ax W k),hF.out.trans (Fr.of_below (ax W k))⟩:LS L R A c bs (.int .i64 (m:Nat)) (.slice Ao n co) (W.drewN k) r∧Own w0.heap.size (W.drewN k) (.slice Ao n co) out∧Fr L R w0 (W.drewN k))
  refine h5_ hL hO ho hm hge ?_;clear hL hO ho hm hge;intro hL hO ho hm hge;clear off lL lR;go_enter Tryz.func184,Tryz.ntmps184;go_wp2
  go_quiet (fail)
  go_upto_region 3 with fail
  obtain⟨hL1,hO1,hF1⟩:=kp.out nq;obtain⟨W1,hW1⟩:∃W1,W1=W.drewN nq:=⟨_,rfl⟩;rw[←hW1]at hL1 hO1 hF1⊢;have z1:w0.heap.size≤W1.heap.size:=hF1.size;obtain⟨Wa,hWa,hba⟩:=bH W1 5 #[.int .u8 X];have hb1:Byt Wa (some ⟨W1.heap.size,0,none⟩) [x]:=by rw[hWa,hX.out];exact bI W1 x 5
  have hLa:=hL1.belowW hba;have hOa:=hO1.below hba;have hFa:=hF1.trans (Fr.of_below hba);have za:=hba.size;have q0:=hL1.rdr.cell 0;have q2:=hL1.rdr.cell 2;refine h9_ hW1 hWa hba hb1 hL1 hO1 hF1 hLa hOa ?_;clear hW1 hWa hba hb1 hL1 hO1 hF1 hLa hOa;intro hW1 hWa hba hb1 hL1 hO1 hF1 hLa hOa;refine h3_ hFa z1 za ?_;clear hFa z1 za;intro hFa z1 za;go_wp2_with (at_builtin;rw[←hWa.out];refine dU rfl _ _ rfl w0.heap.size _ _ rfl hOa.out (some ⟨W1.heap.size,0,none⟩) 1 1 [x] rfl rfl hb1.out (fun e=>(by cases e)) (by have:=hn.out;have:=hge.out;have:=hm.out;have:=ho.out;simp only[List.length_cons,List.length_nil];omega) (by have:=z1.out;have:=za.out;omega) ?_;intro v' w2 hO4 hB4;obtain⟨A9,n9,c9,rfl⟩:=hO4.sl;have hL4:=hLa.out.below hB4 H.out.lL H.out.lR H.out.off;have hF4:=hFa.out.thenB hB4;replace hO4:=hi_ hO4;replace hF4:=hi_ hF4;have q4:=hL4.rdr.cell 2;have v4:=hL4.rdr.frozen 2;replace hL4:=hi_ hL4;clear hB4)
  go_ret
  refine⟨fun h=>absurd h hge.out,fun _=>⟨rfl,⟨⟨_,hL4.out.set 2 _ _ _ rfl,?_⟩,hF4.out.storeR 2 _,H.out.lL,H.out.lR,H.out.off⟩⟩⟩;exact hO4.out.farL (hO4.out.notL hL4.out.rdr (by decide))
end
theorem jq:∀n:Fin 512,bits BinOp.and IntKind.i64 ((n.val:Nat):Int) 255=((n.val % 256:Nat):Int):=by decide +kernel
theorem gw (n:Nat) (h:n<512):bits BinOp.and IntKind.i64 (n:Int) 255=((n % 256:Nat):Int):=jq ⟨n,h⟩
theorem qL:∀n:Fin 64,∀d:Fin 8,bits BinOp.or IntKind.i64 ((8*n.val:Nat):Int) ((d.val:Nat):Int)=((8*n.val+d.val:Nat):Int):=by decide +kernel
def lW:Option UInt8→Int
 |none=> -1
 |some x=>(x.toNat:Int)
section
variable {L R:Nat}{A:Option Addr}{c:Nat}{bs:Bs}{M V:Value}{w w' w0:World}{r r':Bs}
theorem oM {x:UInt8}{t:Bs}{X:Int}(hX:X=(x.toNat:Int)) (W:World) (h:LS L R A c bs M V W t):Calls Tryz.prog 186 #[.pointer (some ⟨R,0,none⟩),.int .i64 X] W fun e w'=>e=.returned (.tuple #[])∧LS L R A c bs M V w' (dm x t)∧Save L W w':=by
 have hX0:0≤X∧X≤255:=by rw[hX];have:=x.toNat_lt;omega
 have h13:(X == 13)=(x == 13):=by rw[hX,aq x 13];rfl
 have q0:=h.q0;cases hx:(x == 13) with
 |false=>
  have e:dm x t=t:=by unfold dm;rw[if_neg (by rintro⟨e,_⟩;rw[e]at hx;exact absurd hx (by decide))]
  rw[e];rw[hx]at h13;replace h:=hi_ h;clear hX e;go_enter Tryz.func186,Tryz.ntmps186;go_wp2
  exact bodyPost_end (by simp[results,Tryz.results186,go_sem];try rfl) rfl ⟨rfl,h.out,Save.refl _ _⟩
 |true=>
  have hx2:x=13:=by simpa using hx
  have e:dm x t=if ([10]:Bs) <+:t then t.drop 1 else t:=by
   unfold dm;by_cases hp:([10]:Bs) <+:t
   ·obtain⟨u,hu⟩:=hp
    rw[if_pos ⟨hx2,by rw[←hu];rfl⟩,if_pos ⟨u,hu⟩]
   ·have hn:¬(x=13∧t[0]?=some 10):=by
     rintro⟨_,e⟩;apply hp
     cases t with
     |nil=>simp at e
     |cons y t=>simp at e;exact⟨t,by rw[e];rfl⟩
    rw[if_neg hn,if_neg hp]
  rw[e];rw[hx]at h13;obtain rfl:X=13:=by simpa using h13
  have cm:=hi_ fun W h=>gF (L:=L) (R:=R) (A:=A) (c:=c) (bs:=bs) (M:=M) (V:=V) (r:=t) ⟨#[10]⟩ (by decide) (by decide) W h
  obtain⟨K,hK⟩:∃K,K=if ([10]:Bs) <+:t then t.drop 1 else t:=⟨_,rfl⟩
  rw[←hK];have hL:=hi_ h;have hS:=hi_ (Save.refl L W);replace hK:=hi_ hK;clear h hX e hx2;go_enter Tryz.func186,Tryz.ntmps186;go_wp2_with (go_at_call 54;(with_reducible refine (cm.out _ hL.out).mono ?_);rintro e w1 ⟨rfl,hL2,hS2⟩;replace hL:=hi_ hL2;replace hS:=hi_ (hS.out.trans hS2);replace q0:=hL.out.q0;clear hL2 hS2)
  exact bodyPost_end (by simp[results,Tryz.results186,go_sem];try rfl) rfl ⟨rfl,by rw[hK.out];exact hL.out,hS.out⟩
theorem jd {x:UInt8}(h:eX x=true):48≤x.toNat∧x.toNat≤55:=by
 unfold eX at h;simp only[Bool.and_eq_true,decide_eq_true_eq]at h;exact h
theorem oN {x:UInt8}{t:Bs}{X:Int}(hX:X=(x.toNat:Int)) (hx:eX x=true) (W:World) (h:LS L R A c bs M V W t):Calls Tryz.prog 205 #[.pointer (some ⟨R,0,none⟩),.int .i64 X] W fun e w'=>e=.returned (.int .i64 (((cu 2 (x.toNat - 48) t).1 % 256:Nat)))∧LS L R A c bs M V w' (cu 2 (x.toNat - 48) t).2∧Save L W w':=by
 obtain⟨K,hK⟩:∃K,K=cu 2 (x.toNat - 48) t:=⟨_,rfl⟩;rw[←hK];have hx8:=jd hx;have hX1:48≤X∧X≤55:=by rw[hX];omega
 have q0:=h.q0;replace h:=hi_ h;have hst:Hid (IntKind.i64.wrap (X - 48)=((x.toNat - 48:Nat):Int)):=hi_ (by rw[IntWalk.i64_in _ (by omega),hX];omega);replace hK:=hi_ hK;replace hX:=hi_ hX;go_enter Tryz.func205,Tryz.ntmps205;go_wp2
 go_loopw [5,6] (fun s5 s6 wr=>∃(n k:Nat) (r1:Bs),s5=.int .i64 (n:Nat)∧(∃i:Nat,s6=.int .i64 (i:Nat)∧i+k=2)∧n<8 ^ (3 - k)∧LS L R A c bs M V wr r1∧cu k n r1=K∧Save L W wr) (fun _ s6 _=>4 - (RowKit.intOf s6).toNat)
 case atStart=>exact⟨x.toNat - 48,2,t,by first|rfl|exact congrArg (Value.int .i64) (by have:=hX.out;omega),⟨0,rfl,rfl⟩,by omega,h.out,hK.out.symm,Save.refl _ _⟩
 case round=>
  obtain⟨n,k,r1,rfl,⟨i,rfl,hik⟩,hn,hL,hE,hS⟩:=hrel;have q0:=hL.q0;clear h hK hst hX hX1 hx8 hx
  match k,hik,hn,hE with
  |0,hik,hn,hE=>
   obtain rfl:i=2:=by omega
   have ha:=gw n (by simpa using hn);subst hE;replace hL:=hi_ hL;replace hS:=hi_ hS;clear hn hik;go_wp2
   go_ret
   exact⟨by first|exact congrArg (fun z=>Ending.returned (.int .i64 z)) ha|rfl,hL.out,hS.out⟩
  |k+1,hik,hn,hE=>
   have hn64:n<64:=by
    have:8 ^ (3 - (k+1))≤8 ^ 2:=Nat.pow_le_pow_right (by omega) (by omega);omega
   have hi2:((i:Int)<2):=by omega
   cases r1 with
   |nil=>
    have cp:=hi_ fun W h=>fl (L:=L) (R:=R) (A:=A) (c:=c) (bs:=bs) (M:=M) (V:=V) W h
    obtain rfl:K=(n,[]):=by rw[←hE];rfl
    have ha:=gw n (by omega);replace hL:=hi_ hL;replace hS:=hi_ hS;clear hn hik hE;go_wp2_with (go_at_call 56;(with_reducible refine (cp.out _ hL.out).mono ?_);rintro e w1 ⟨rfl,hL2,hS2⟩;replace hL:=hi_ hL2;replace hS:=hi_ (hS.out.trans hS2);replace q0:=hL.out.q0;clear hL2 hS2)
    go_ret
    exact⟨by first|exact congrArg (fun z=>Ending.returned (.int .i64 z)) ha|rfl,hL.out,hS.out⟩
   |cons y u=>
    obtain⟨Y,hY⟩:=aT (y.toNat:Int);have hY0:0≤Y∧Y≤255:=by rw[hY.out];have:=y.toNat_lt;omega
    have cp:=hi_ fun W h=>bi (L:=L) (R:=R) (A:=A) (c:=c) (bs:=bs) (M:=M) (V:=V) (t:=u) hY.out W h
    have cn:=hi_ fun W h=>dM (L:=L) (R:=R) (A:=A) (c:=c) (bs:=bs) (M:=M) (V:=V) (t:=u) hY.out W h
    cases hy:eX y with
    |false=>
     obtain rfl:K=(n,y :: u):=by rw[←hE,cu,if_neg (by rw[hy];decide)]
     have ha:=gw n (by omega);have hno:¬(48≤Y∧Y≤55):=by
      rw[hY.out];unfold eX at hy;simp only[Bool.and_eq_false_iff,decide_eq_false_iff_not]at hy;omega
     replace hL:=hi_ hL;replace hS:=hi_ hS;clear hn hik hE hy;by_cases h48:48≤Y
     ·have h55:¬Y≤55:=fun e=>hno ⟨h48,e⟩
      clear hno;go_wp2_with (go_at_call 56;(with_reducible refine (cp.out _ hL.out).mono ?_);rintro e w1 ⟨rfl,hL2,hS2⟩;replace hL:=hi_ hL2;replace hS:=hi_ (hS.out.trans hS2);replace q0:=hL.out.q0;clear hL2 hS2)
      go_ret
      exact⟨by first|exact congrArg (fun z=>Ending.returned (.int .i64 z)) ha|rfl,hL.out,hS.out⟩
     ·clear hno
      go_wp2_with (go_at_call 56;(with_reducible refine (cp.out _ hL.out).mono ?_);rintro e w1 ⟨rfl,hL2,hS2⟩;replace hL:=hi_ hL2;replace hS:=hi_ (hS.out.trans hS2);replace q0:=hL.out.q0;clear hL2 hS2)
      go_ret
      exact⟨by first|exact congrArg (fun z=>Ending.returned (.int .i64 z)) ha|rfl,hL.out,hS.out⟩
    |true=>
     have hE2:=hi_ (show cu k (8*n+(y.toNat - 48)) u=K by rw[←hE,cu,if_pos hy]);have hy8:=jd hy;have h48:48≤Y∧Y≤55:=by rw[hY.out];omega
     have ho:=qL ⟨n,hn64⟩ ⟨y.toNat - 48,by omega⟩;have e1:((y.toNat - 48:Nat):Int)=Y - 48:=by rw[hY.out];omega
     have e2:((8*n:Nat):Int)=(n:Int)*8:=by omega
     simp only[]at ho;rw[e1,e2]at ho;have hw1:IntKind.i64.wrap (Y - 48)=Y - 48:=IntWalk.i64_in _ (by omega);have hw2:IntKind.i64.wrap ((n:Int)*8)=(n:Int)*8:=IntWalk.i64_in _ (by omega);refine h6_ hL hS hy8 e1 hn hik ?_;clear hL hS hy8 e1 hn hik;intro hL hS hy8 e1 hn hik;clear hE hy e2;go_wp2_with (first|((first|(go_at_call 56;(with_reducible refine (cp.out _ hL.out).mono ?_))|(go_at_call 60;(with_reducible refine (cn.out _ hL.out).mono ?_)));rintro e w1 ⟨rfl,hL2,hS2⟩;replace hL:=hi_ hL2;replace hS:=hi_ (hS.out.trans hS2);replace q0:=hL.out.q0;clear hL2 hS2))
     refine⟨⟨8*n+(y.toNat - 48),k,u,?_,⟨i+1,?_,?_⟩,?_,hL.out,hE2.out,hS.out⟩,?_⟩
     ·exact congrArg (Value.int .i64) (by omega)
     ·first|rfl|exact congrArg (Value.int .i64) (by omega)
     ·have:=hik.out;omega
     ·have h1:=hik.out
      have h2:=hn.out;have h3:=hy8.out;have h4:k=0∨k=1:=by omega
      rcases h4 with rfl|rfl <;> simp at h2⊢<;> omega
     ·have:=hik.out
      simp[RowKit.intOf];omega
theorem mQ {x:UInt8}{t:Bs}{X:Int}(hX:X=(x.toNat:Int)) (W:World) (h:LS L R A c bs M V W t):Calls Tryz.prog 185 #[.pointer (some ⟨R,0,none⟩),.int .i64 X] W fun e w'=>e=.returned (.int .i64 (lW (bD x t).1))∧LS L R A c bs M V w' (bD x t).2∧Save L W w':=by
 have hX0:0≤X∧X≤255:=by rw[hX];have:=x.toNat_lt;omega
 have q0:=h.q0;have ce:=hi_ fun W h=>oM (L:=L) (R:=R) (A:=A) (c:=c) (bs:=bs) (M:=M) (V:=V) (t:=t) hX W h
 have hL:=hi_ h;have hS:=hi_ (Save.refl L W);by_cases h110:x=110
 ·subst h110
  obtain rfl:X=110:=hX;clear ce h;rw[show bD 110 t=(some 10,t) from by unfold bD;rw[if_neg (by decide),if_neg (by decide)];rfl];go_enter Tryz.func185,Tryz.ntmps185;go_wp2
  go_ret
  exact⟨rfl,hL.out,hS.out⟩
 by_cases h114:x=114
 ·subst h114
  obtain rfl:X=114:=hX;clear ce h;rw[show bD 114 t=(some 13,t) from by unfold bD;rw[if_neg (by decide),if_neg (by decide)];rfl];go_enter Tryz.func185,Tryz.ntmps185;go_wp2
  go_ret
  exact⟨rfl,hL.out,hS.out⟩
 by_cases h116:x=116
 ·subst h116
  obtain rfl:X=116:=hX;clear ce h;rw[show bD 116 t=(some 9,t) from by unfold bD;rw[if_neg (by decide),if_neg (by decide)];rfl];go_enter Tryz.func185,Tryz.ntmps185;go_wp2
  go_ret
  exact⟨rfl,hL.out,hS.out⟩
 by_cases h98:x=98
 ·subst h98
  obtain rfl:X=98:=hX;clear ce h;rw[show bD 98 t=(some 8,t) from by unfold bD;rw[if_neg (by decide),if_neg (by decide)];rfl];go_enter Tryz.func185,Tryz.ntmps185;go_wp2
  go_ret
  exact⟨rfl,hL.out,hS.out⟩
 by_cases h102:x=102
 ·subst h102
  obtain rfl:X=102:=hX;clear ce h;rw[show bD 102 t=(some 12,t) from by unfold bD;rw[if_neg (by decide),if_neg (by decide)];rfl];go_enter Tryz.func185,Tryz.ntmps185;go_wp2
  go_ret
  exact⟨rfl,hL.out,hS.out⟩
 by_cases h10:x=10
 ·subst h10
  obtain rfl:X=10:=hX;clear h;rw[show bD 10 t=(none,dm 10 t) from by unfold bD;rw[if_pos (by decide)]];generalize dm 10 t=K at *;go_enter Tryz.func185,Tryz.ntmps185;go_wp2_with (go_at_call 186;(with_reducible refine (ce.out _ hL.out).mono ?_);rintro e w1 ⟨rfl,hL2,hS2⟩;replace hL:=hi_ hL2;replace hS:=hi_ (hS.out.trans hS2);replace q0:=hL.out.q0;clear hL2 hS2)
  go_ret
  exact⟨rfl,hL.out,hS.out⟩
 by_cases h13:x=13
 ·subst h13
  obtain rfl:X=13:=hX;clear h;rw[show bD 13 t=(none,dm 13 t) from by unfold bD;rw[if_pos (by decide)]];generalize dm 13 t=K at *;go_enter Tryz.func185,Tryz.ntmps185;go_wp2_with (go_at_call 186;(with_reducible refine (ce.out _ hL.out).mono ?_);rintro e w1 ⟨rfl,hL2,hS2⟩;replace hL:=hi_ hL2;replace hS:=hi_ (hS.out.trans hS2);replace q0:=hL.out.q0;clear hL2 hS2)
  go_ret
  exact⟨rfl,hL.out,hS.out⟩
 have ne:∀v:UInt8,x≠v→¬X=(v.toNat:Int):=fun v hv e=>hv (UInt8.toNat_inj.1 (by omega))
 have n1:=ne 110 h110;have n2:=ne 114 h114;have n3:=ne 116 h116;have n4:=ne 98 h98;have n5:=ne 102 h102;have n6:=ne 10 h10;have n7:=ne 13 h13;simp only[UInt8.reduceToNat,Int.cast_ofNat_Int]at n1 n2 n3 n4 n5 n6 n7;clear ne;cases ho:eX x with
 |true=>
  have hx8:=jd ho;have h48:48≤X∧X≤55:=by rw[hX];omega
  have co:=hi_ fun W h=>oN (L:=L) (R:=R) (A:=A) (c:=c) (bs:=bs) (M:=M) (V:=V) (t:=t) hX ho W h
  have hE:bD x t=(some (UInt8.ofNat ((cu 2 (x.toNat - 48) t).1 % 256)),(cu 2 (x.toNat - 48) t).2):=by
   unfold bD;rw[if_neg (by rintro (e|e);exact h13 e;exact h10 e),if_pos ho]
  rw[hE];generalize cu 2 (x.toNat - 48) t=K at *;have hk:lW (some (UInt8.ofNat (K.1 % 256)))=((K.1 % 256:Nat):Int):=by
   show ((UInt8.ofNat (K.1 % 256)).toNat:Int)=_
   rw[UInt8.toNat_ofNat'];omega
  rw[hk];generalize K.1 % 256=k1 at *;generalize K.2=k2 at *;clear ce hX h hE hk hx8;go_enter Tryz.func185,Tryz.ntmps185;go_wp2_with (go_at_call 205;(with_reducible refine (co.out _ hL.out).mono ?_);rintro e w1 ⟨rfl,hL2,hS2⟩;replace hL:=hi_ hL2;replace hS:=hi_ (hS.out.trans hS2);replace q0:=hL.out.q0;clear hL2 hS2)
  go_ret
  exact⟨rfl,hL.out,hS.out⟩
 |false=>
  have hno:¬(48≤X∧X≤55):=by
   rw[hX];unfold eX at ho;simp only[Bool.and_eq_false_iff,decide_eq_false_iff_not]at ho;omega
  have hE:bD x t=(some x,t):=by
   unfold bD;rw[if_neg (by rintro (e|e);exact h13 e;exact h10 e),if_neg (by rw[ho];decide),if_neg h110,if_neg h114,if_neg h116,if_neg h98,if_neg h102]
  rw[hE];replace hX:=hi_ hX;clear ce h hE ho;by_cases h48:48≤X
  ·have h55:¬X≤55:=fun e=>hno ⟨h48,e⟩
   clear hno;go_enter Tryz.func185,Tryz.ntmps185;go_wp2
   go_ret
   exact⟨by rw[hX.out];rfl,hL.out,hS.out⟩
  ·clear hno
   go_enter Tryz.func185,Tryz.ntmps185;go_wp2
   go_ret
   exact⟨by rw[hX.out];rfl,hL.out,hS.out⟩
end
def LexL (w0:World) (L R:Nat) (A:Option Addr) (c:Nat) (bs:Bs) (m:Nat) (res:Res Bs) (e:Ending) (w':World):Prop:=match res with
 | .ok b u=>e=.returned (.int .i64 0)∧LO w0 L R A c bs m b w' u
 | .err k _=>e=.returned (.int .i64 k)∧∃b u,LO w0 L R A c bs m b w' u
theorem qO {t:Bs}(h:0≤bM (pk t 1)):2≤t.length:=by
 rcases Nat.lt_or_ge t.length 2 with h1|h1
 ·exfalso
  have e:pk t 1= -1:=by unfold pk;rw[List.getElem?_eq_none (by omega)]
  rw[e]at h;exact absurd h (by decide)
 ·exact h1
theorem eW (x:Int): -1≤bM x∧bM x≤15:=by unfold bM;split;omega;split;omega;split <;> omega
theorem qM:∀n:Fin 16,∀d:Fin 16,bits BinOp.or IntKind.i64 ((n.val:Nat)*16:Int) ((d.val:Nat):Int)=((n.val*16+d.val:Nat):Int):=by decide +kernel
theorem md {a b:Int}(ha:0≤a∧a≤15) (hb:0≤b∧b≤15):bits BinOp.or IntKind.i64 (a*16) b=a*16+b:=by
 have:=qM ⟨a.toNat,by omega⟩ ⟨b.toNat,by omega⟩;simp only[]at this;rw[show ((a.toNat:Nat):Int)=a from by omega,show ((b.toNat:Nat):Int)=b from by omega]at this;rw[this];omega
section
variable {L R:Nat}{A:Option Addr}{c:Nat}{bs:Bs}{M V:Value}{w w' w0:World}{r r':Bs}{m:Nat}{out:Bs}
theorem qE (h:LO w0 L R A c bs 127 [] w r):Calls Tryz.prog 151 #[.pointer (some ⟨R,0,none⟩)] w (LexL w0 L R A c bs 127 (aJ (r.length+1) [] r)):=by
 obtain⟨K,hK⟩:∃K,K=aJ (r.length+1) [] r:=⟨_,rfl⟩;rw[←hK];replace hK:=hi_ hK;replace h:=hi_ h;go_enter Tryz.func151,Tryz.ntmps151;go_wp2
 go_loopw [] (fun wr=>∃f out r1,LO w0 L R A c bs 127 out wr r1∧aJ f out r1=K∧r1.length<f∧out.length≤127) (fun wr=>bs.length+1 - posOf L wr)
 case atStart=>exact⟨_,_,r,h.out,hK.out.symm,Nat.lt_succ_self _,by simp⟩
 case round=>
  obtain⟨f,out,r1,hO,hE,hf,h127⟩:=hrel;have hms:=hO.posOf;obtain⟨f,rfl⟩:∃g,f=g+1:=⟨f - 1,by omega⟩;obtain⟨v,hL,hW⟩:=hO.ls;have q0:=hL.q0;clear h hK;cases r1 with
  |nil=>
   obtain rfl:K=.ok out []:=by rw[←hE,aJ]
   have cp:=hi_ fun W h=>fl (L:=L) (R:=R) (A:=A) (c:=c) (bs:=bs) (M:=.int .i64 (127:Nat)) (V:=v) W h
   have cr:=hi_ fun W=>fi W
   refine h3_ hL hO hW ?_;clear hL hO hW;intro hL hO hW;have hS:=hi_ (Save.refl L wr);clear hms hE hf h127;go_wp2_with (first|(go_at_call 56;(with_reducible refine (cp.out _ hL.out).mono ?_);rintro e w1 ⟨rfl,hL2,hS2⟩;replace hL:=hi_ hL2;replace hS:=hi_ (hS.out.trans hS2);replace q0:=hL.out.q0;clear hL2 hS2)|(go_at_call 55;(with_reducible refine (cr.out _).mono ?_);rintro e w2 ⟨rfl,rfl⟩))
   go_ret
   exact⟨rfl,hO.out.mk2 hL.out hW.out hS.out⟩
  |cons x t=>
   obtain⟨X,hX⟩:=aT (x.toNat:Int);have hX0:0≤X∧X≤255:=by rw[hX.out];have:=x.toNat_lt;omega
   have cp:=hi_ fun W h=>bi (L:=L) (R:=R) (A:=A) (c:=c) (bs:=bs) (M:=.int .i64 (127:Nat)) (V:=v) (t:=t) hX.out W h
   have cn:=hi_ fun W h=>dM (L:=L) (R:=R) (A:=A) (c:=c) (bs:=bs) (M:=.int .i64 (127:Nat)) (V:=v) (t:=t) hX.out W h
   have h35:(X == 35)=(x == 35):=by rw[hX.out,aq x 35];rfl
   have hpc:=bU hL.suf;have hple:=aB hL.suf;simp only[List.length_cons]at hf hple;replace hL:=hi_ hL;replace hW:=hi_ hW;have hS:=hi_ (Save.refl L wr);refine h6_ hO hms hpc hple hf h127 ?_;clear hO hms hpc hple hf h127;intro hO hms hpc hple hf h127;cases hrx:bu x with
   |false=>
    have cr:=hi_ fun W=>cO hX.out hrx.symm W
    obtain rfl:K=.ok out (x :: t):=by rw[←hE,aJ,if_pos hrx]
    clear hE h35 cn;go_wp2_with (first|(go_at_call 56;(with_reducible refine (cp.out _ hL.out).mono ?_);rintro e w1 ⟨rfl,hL2,hS2⟩;replace hL:=hi_ hL2;replace hS:=hi_ (hS.out.trans hS2);replace q0:=hL.out.q0;clear hL2 hS2)|(go_at_call 55;(with_reducible refine (cr.out _).mono ?_);rintro e w2 ⟨rfl,rfl⟩))
    go_ret
    exact⟨rfl,hO.out.mk2 hL.out hW.out hS.out⟩
   |true=>
    have cr:=hi_ fun W=>cO hX.out hrx.symm W
    cases hx35:(x == 35) with
    |false=>
     rw[hx35]at h35;have hn35:¬x=35:=by simpa using hx35
     have cput:=hi_ fun W h=>dQ (w0:=w0) (L:=L) (R:=R) (A:=A) (c:=c) (bs:=bs) (m:=127) (out:=out) (r:=t) hX.out (by omega) W h h127.out
     by_cases h7:127≤out.length
     ·have e4:K=.err 3 t:=by rw[←hE,aJ,if_neg (by rw[hrx];decide),if_neg hn35,if_pos h7]
      subst e4;clear hE;replace h7:=hi_ h7;go_wp2_with (first|((first|(go_at_call 56;(with_reducible refine (cp.out _ hL.out).mono ?_))|(go_at_call 60;(with_reducible refine (cn.out _ hL.out).mono ?_)));rintro e w1 ⟨rfl,hL2,hS2⟩;replace hL:=hi_ hL2;replace hS:=hi_ (hS.out.trans hS2);replace q0:=hL.out.q0;clear hL2 hS2)|(go_at_call 55;(with_reducible refine (cr.out _).mono ?_);rintro e w2 ⟨rfl,rfl⟩)|(go_at_call 184;(with_reducible refine (cput.out _ (hO.out.mk2 hL.out hW.out hS.out)).mono ?_);rintro e w1 ⟨k1,k2⟩;obtain⟨rfl,hO2⟩:=k1 h7.out;replace hO2:=hi_ hO2;clear k1 k2))
      go_ret
      exact⟨rfl,_,_,hO2.out⟩
     ·have e4:=hi_ (show aJ f (out++[x]) t=K by rw[←hE,aJ,if_neg (by rw[hrx];decide),if_neg hn35,if_neg h7])
      replace h7:=hi_ h7;go_wp2_with (first|((first|(go_at_call 56;(with_reducible refine (cp.out _ hL.out).mono ?_))|(go_at_call 60;(with_reducible refine (cn.out _ hL.out).mono ?_)));rintro e w1 ⟨rfl,hL2,hS2⟩;replace hL:=hi_ hL2;replace hS:=hi_ (hS.out.trans hS2);replace q0:=hL.out.q0;clear hL2 hS2)|(go_at_call 55;(with_reducible refine (cr.out _).mono ?_);rintro e w2 ⟨rfl,rfl⟩)|(go_at_call 184;(with_reducible refine (cput.out _ (hO.out.mk2 hL.out hW.out hS.out)).mono ?_);rintro e w1 ⟨k1,k2⟩;obtain⟨rfl,hO2⟩:=k2 (Nat.lt_of_not_le h7.out);replace hO2:=hi_ hO2;clear k1 k2))
      have e1:=hO2.out.posOf;have e2:=hms.out;have e5:=h7.out;have e6:=hf.out;have e3:=hpc.out;exact⟨⟨f,_,t,hO2.out,e4.out,by omega,by simp only[List.length_append,List.length_cons,List.length_nil];omega⟩,by rw[e1,e2];omega⟩
    |true=>
     have hx:x=35:=by simpa using hx35
     obtain rfl:X=35:=by rw[hX.out,hx];rfl
     obtain⟨P0,hP0⟩:=aT (pk t 0);obtain⟨P1,hP1⟩:=aT (pk t 1);obtain⟨H,hH⟩:=aT (bM P0);obtain⟨J,hJ⟩:=aT (bM P1);have r0: -1≤P0∧P0≤255:=by rw[hP0.out];exact dn t 0
     have r1: -1≤P1∧P1≤255:=by rw[hP1.out];exact dn t 1
     have rH: -1≤H∧H≤15:=by rw[hH.out];exact eW _
     have rJ: -1≤J∧J≤15:=by rw[hJ.out];exact eW _
     have cd0:=hi_ (show ∀W,Calls Tryz.prog 183 #[.int .i64 P0] W fun e w'=>e=.returned (.int .i64 H)∧w'=W from fun W=>by rw[hH.out];exact (eF P0 r0).mono fun _ _ k=>⟨k.1,k.2.symm⟩);have cd1:=hi_ (show ∀W,Calls Tryz.prog 183 #[.int .i64 P1] W fun e w'=>e=.returned (.int .i64 J)∧w'=W from fun W=>by rw[hJ.out];exact (eF P1 r1).mono fun _ _ k=>⟨k.1,k.2.symm⟩);have hE2:=hi_ hE;rw[aJ,if_neg (by rw[hrx];decide),if_pos hx,←hP0.out,←hP1.out,←hH.out,←hJ.out]at hE;replace hE:=hi_ hE;have hw1:IntKind.i64.wrap (H*16)=H*16:=IntWalk.i64_in _ (by omega);replace r0:=hi_ r0;replace r1:=hi_ r1;clear h35;go_upto_region 4 with (first|((first|(go_at_call 56;(with_reducible refine (cp.out _ hL.out).mono ?_))|(go_at_call 60;(with_reducible refine (cn.out _ hL.out).mono ?_)));rintro e w1 ⟨rfl,hL2,hS2⟩;replace hL:=hi_ hL2;replace hS:=hi_ (hS.out.trans hS2);replace q0:=hL.out.q0;clear hL2 hS2)|(go_at_call 55;(with_reducible refine (cr.out _).mono ?_);rintro e w2 ⟨rfl,rfl⟩))
     have cq0:=hi_ (show ∀n,Calls Tryz.prog 56 #[.pointer (some ⟨L,0,none⟩),.int .i64 0] (w1.drewN n) fun e w'=>e=.returned (.int .i64 P0)∧∃m,w'=w1.drewN m from fun n=>by rw[hP0.out];exact jJ hL.out 0 (by omega) n);have cq1:=hi_ (show ∀n,Calls Tryz.prog 56 #[.pointer (some ⟨L,0,none⟩),.int .i64 1] (w1.drewN n) fun e w'=>e=.returned (.int .i64 P1)∧∃m,w'=w1.drewN m from fun n=>by rw[hP1.out];exact jJ hL.out 1 (by omega) n)
     go_quiet (first
      |(go_at_call 56;with_reducible exact cq0.out _)
      |(go_at_call 56;with_reducible exact cq1.out _)
      |(go_at_call 183;with_reducible exact Calls.quiet_of_same (cd0.out _))
      |(go_at_call 183;with_reducible exact Calls.quiet_of_same (cd1.out _)))
     clear cd0 cd1 cq0 cq1 cp cn cr;by_cases hH0:H<0
     ·obtain rfl:H= -1:=by omega
      replace rJ:=hi_ rJ;have e4:K=.err 4 t:=by rw[←hE.out,if_pos (.inl (by decide))]
      subst e4;clear hE hE2;obtain⟨C,hC⟩:∃C,bits BinOp.or IntKind.i64 (-16) J=C:=⟨_,rfl⟩;clear hw1 rH hH0;go_wp2
      go_ret
      exact⟨rfl,_,_,hO.out.mk2 (hL.out.drawn nq) hW.out (hS.out.trans (Save.of_below (ax _ _)))⟩
     ·obtain⟨a,rfl⟩:∃a:Nat,H=(a:Int):=⟨H.toNat,by omega⟩
      obtain⟨C,hC⟩:∃C,bits BinOp.or IntKind.i64 ((a:Int)*16) J=C:=⟨_,rfl⟩;by_cases hJ0:J<0
      ·have e4:K=.err 4 t:=by rw[←hE.out,if_pos (.inr (.inl hJ0))]
       subst e4;clear hE hE2;replace rJ:=hi_ rJ;replace rH:=hi_ rH;go_wp2
       go_ret
       exact⟨rfl,_,_,hO.out.mk2 (hL.out.drawn nq) hW.out (hS.out.trans (Save.of_below (ax _ _)))⟩
      ·have hC2:C=a*16+J:=by rw[←hC];exact md (by omega) (by omega)
       by_cases hC0:(a:Int)+J=0
       ·have e4:K=.err 4 t:=by rw[←hE.out,if_pos (.inr (.inr hC0))]
        subst e4;clear hE hE2;obtain rfl:C=0:=by omega
        refine h3_ rJ rH hC2 ?_;clear rJ rH hC2;intro rJ rH hC2;go_wp2
        go_ret
        exact⟨rfl,_,_,hO.out.mk2 (hL.out.drawn nq) hW.out (hS.out.trans (Save.of_below (ax _ _)))⟩
       ·have hCn:¬C=0:=by omega
        have hCr:0≤C∧C≤255:=by omega
        obtain⟨z,hz⟩:∃z:UInt8,z=UInt8.ofNat ((a:Int)*16+J).toNat:=⟨_,rfl⟩;have hzC:C=(z.toNat:Int):=by rw[hz,←hC2,UInt8.toNat_ofNat'];omega
        have h2:2≤t.length:=qO (by rw[←hP1.out,←hJ.out];omega);have hE':=hE.out;rw[if_neg (by rintro (e|e|e);exact hH0 e;exact hJ0 e;exact hC0 e),←hz]at hE';have hpd:=dq hL.out.suf 2 h2;have hps:=aE bs t;have hts:=aB hL.out.suf;have hd2:(t.drop 2).length=t.length - 2:=List.length_drop;have cput:=hi_ fun W h=>dQ (w0:=w0) (L:=L) (R:=R) (A:=A) (c:=c) (bs:=bs) (m:=127) (out:=out) (r:=t.drop 2) hzC (by omega) W h h127.out
        have csk:=hi_ fun W h=>gq (L:=L) (R:=R) (A:=A) (c:=c) (bs:=bs) (M:=.int .i64 (127:Nat)) (V:=v) (r:=t) (dc hL.out.suf 2) (q:=(pos bs t:Int)+2) (by rw[hpd];omega) W h
        have cps:=hi_ fun W h=>ja (L:=L) (R:=R) (A:=A) (c:=c) (bs:=bs) (M:=.int .i64 (127:Nat)) (V:=v) (r:=t) W h
        obtain⟨p,hp⟩:∃p,p=pos bs t:=⟨_,rfl⟩;rw[←hp]at csk cps hps;have hsm:=hL.out.cur.small;have hwp:IntKind.i64.wrap ((p:Int)+2)=(p:Int)+2:=IntWalk.i64_in _ (by omega);generalize t.drop 2=t2 at *;replace hL:=hi_ (hL.out.drawn nq);replace hS:=hi_ (hS.out.trans (Save.of_below (ax w1 nq)));replace q0:=hL.out.q0;obtain⟨W5,hW5⟩:∃W5,W5=w1.drewN nq:=⟨_,rfl⟩;rw[←hW5]at hL hS q0⊢;clear hW5;refine h9_ hp hpd hps hts hd2 hsm h2 hz hzC ?_;clear hp hpd hps hts hd2 hsm h2 hz hzC;intro hp hpd hps hts hd2 hsm h2 hz hzC;refine h4_ rJ rH hC2 hC0 ?_;clear rJ rH hC2 hC0;intro rJ rH hC2 hC0;clear hE hE2;by_cases h7:127≤out.length
        ·have e4:K=.err 3 t2:=by rw[←hE',if_pos h7]
         subst e4;clear hE';replace h7:=hi_ h7;go_wp2
         replace hL:=hi_ (hL.out.belowW (Below.refl _ W5).drew);replace hS:=hi_ (hS.out.trans (Save.of_below (Below.refl _ W5).drew))
         go_region_with (first|(go_at_call 14;(with_reducible refine (cps.out _ hL.out).mono ?_);rintro e w2 ⟨rfl,rfl⟩)|(go_at_call 30;(with_reducible refine (csk.out _ hL.out).mono ?_);rintro e w1 ⟨rfl,hL2,hS2⟩;replace hL:=hi_ hL2;replace hS:=hi_ (hS.out.trans hS2);replace q0:=hL.out.q0;clear hL2 hS2))
         all_goals go_wp2_with (go_at_call 184;(with_reducible refine (cput.out _ (hO.out.mk2 hL.out hW.out hS.out)).mono ?_);rintro e w1 ⟨k1,k2⟩;obtain⟨rfl,hO2⟩:=k1 h7.out;replace hO2:=hi_ hO2;clear k1 k2)
         all_goals go_ret
         all_goals exact⟨rfl,_,_,hO2.out⟩
        ·have e4:=hi_ (show aJ f (out++[z]) t2=K by rw[←hE',if_neg h7])
         clear hE';replace h7:=hi_ h7;go_wp2
         replace hL:=hi_ (hL.out.belowW (Below.refl _ W5).drew);replace hS:=hi_ (hS.out.trans (Save.of_below (Below.refl _ W5).drew))
         go_region_with (first|(go_at_call 14;(with_reducible refine (cps.out _ hL.out).mono ?_);rintro e w2 ⟨rfl,rfl⟩)|(go_at_call 30;(with_reducible refine (csk.out _ hL.out).mono ?_);rintro e w1 ⟨rfl,hL2,hS2⟩;replace hL:=hi_ hL2;replace hS:=hi_ (hS.out.trans hS2);replace q0:=hL.out.q0;clear hL2 hS2))
         all_goals go_wp2_with (go_at_call 184;(with_reducible refine (cput.out _ (hO.out.mk2 hL.out hW.out hS.out)).mono ?_);rintro e w1 ⟨k1,k2⟩;obtain⟨rfl,hO2⟩:=k2 (Nat.lt_of_not_le h7.out);replace hO2:=hi_ hO2;clear k1 k2)
         all_goals
          have e1:=hO2.out.posOf;have e2:=hms.out;have e3:=hpc.out;have e5:=h7.out;have e6:=hf.out;have e7:=hpd.out;have e8:=hp.out;have e9:=hd2.out;have e10:=h2.out;have e11:=hple.out;exact⟨⟨f,_,t2,hO2.out,e4.out,by omega,by simp only[List.length_append,List.length_cons,List.length_nil];omega⟩,by rw[e1,e2];omega⟩
end
theorem nr {f op:Nat}{out u:Bs}{d:UInt8}:textS (f+1) op out (92 :: d :: u)=match bD d u with|(none,v)=>textS f op out v|(some x,v)=>if 32767≤out.length then .err 3 v else textS f op (out++[x]) v:=by
 rw[textS.eq_def];rfl
theorem np {f op:Nat}{out t:Bs}{x:UInt8}(hx:x=13∨x=10):textS (f+1) op out (x :: t)=if 32767≤out.length then .err 3 t else textS f op (out++[10]) (dm x t):=by
 rcases hx with rfl|rfl <;> (rw[textS.eq_def];rfl)
theorem ns {f op:Nat}{out t:Bs}{x:UInt8}(h1:x≠92) (h2:¬(x=13∨x=10)):textS (f+1) op out (x :: t)=if x=41∧op=1 then .ok out t else if 32767≤out.length then .err 3 t else textS f (if x=40 then op+1 else if x=41 then op - 1 else op) (out++[x]) t:=by
 rw[textS.eq_def];simp only[];rw[if_neg h1,if_neg h2]
theorem iq (x:UInt8) (t:Bs):(dm x t).length≤t.length:=by unfold dm;split <;> simp
theorem l8:∀(k n:Nat) (r:Bs),(cu k n r).2.length≤r.length
 |0,n,r=>Nat.le_refl _
 |k+1,n,[]=>Nat.le_refl _
 |k+1,n,c :: r=>by
  rw[cu];split
  ·have:=l8 k (8*n+(c.toNat - 48)) r
   simp only[List.length_cons];omega
  ·exact Nat.le_refl _
theorem om (d:UInt8) (t:Bs):(bD d t).2.length≤t.length:=by
 unfold bD;split
 ·exact iq d t
 split
 ·exact l8 _ _ _
 ·exact Nat.le_refl _
section
variable {L R:Nat}{A:Option Addr}{c:Nat}{bs:Bs}{M V:Value}{w w' w0:World}{r r':Bs}{m:Nat}{out:Bs}
theorem qF (h:LO w0 L R A c bs 32767 [] w r):Calls Tryz.prog 152 #[.pointer (some ⟨R,0,none⟩)] w (LexL w0 L R A c bs 32767 (textS (r.length+1) 1 [] r)):=by
 obtain⟨K,hK⟩:∃K,K=textS (r.length+1) 1 [] r:=⟨_,rfl⟩;rw[←hK];have hrl:r.length≤1000000000:=by
  obtain⟨v,hL,_⟩:=h.ls;have:=aB hL.suf;have:=hL.cur.small;omega
 refine h3_ hK h hrl ?_;clear hK h hrl;intro hK h hrl;go_enter Tryz.func152,Tryz.ntmps152;go_wp2
 go_loopw [3] (fun s3 wr=>∃f op out r1,s3=.int .i64 (op:Nat)∧1≤op∧op+r1.length≤r.length+1∧LO w0 L R A c bs 32767 out wr r1∧textS f op out r1=K∧r1.length<f∧out.length≤32767) (fun _ wr=>bs.length+1 - posOf L wr)
 case atStart=>exact⟨_,1,_,r,rfl,by omega,by omega,h.out,hK.out.symm,Nat.lt_succ_self _,by simp⟩
 case round=>
  obtain⟨f,op,out,r1,rfl,hop1,hop2,hO,hE,hf,hmx⟩:=hrel;have hms:=hO.posOf;obtain⟨f,rfl⟩:∃g,f=g+1:=⟨f - 1,by omega⟩;obtain⟨v,hL,hW⟩:=hO.ls;have q0:=hL.q0;obtain⟨oi,hoi⟩:=aT (op:Int);have hoi0:1≤oi∧oi≤1000000001:=by have:=hrl.out;rw[hoi.out];omega
  rw[←hoi.out];have hbw:bs.length+1 - posOf L wr=r1.length+1:=by rw[hms];have:=aK hL.suf;have:=aE bs r1;omega
  have hup:∀W out' r2,LO w0 L R A c bs 32767 out' W r2→bs.length+1 - posOf L W=r2.length+1:=fun W out' r2 ho=>by
   obtain⟨v,hL,_⟩:=ho.ls;rw[hL.posOf];have:=aK hL.suf;have:=aE bs r2;omega
  clear h hK hms;refine h9_ hup hbw hop1 hop2 hf hmx hL hW hO ?_;clear hup hbw hop1 hop2 hf hmx hL hW hO;intro hup hbw hop1 hop2 hf hmx hL hW hO;have hS:=hi_ (Save.refl L wr);cases r1 with
  |nil=>
   have cn:=hi_ fun W h=>gG (L:=L) (R:=R) (A:=A) (c:=c) (bs:=bs) (M:=.int .i64 (32767:Nat)) (V:=v) W h
   obtain rfl:K=.err 2 []:=by rw[←hE,textS]
   clear hE;go_wp2_with (go_at_call 60;(with_reducible refine (cn.out _ hL.out).mono ?_);rintro e w1 ⟨rfl,hL2,hS2⟩;replace hL:=hi_ hL2;replace hS:=hi_ (hS.out.trans hS2);replace q0:=hL.out.q0;clear hL2 hS2)
   go_ret
   exact⟨rfl,_,_,hO.out.mk2 hL.out hW.out hS.out⟩
  |cons x t=>
   obtain⟨X,hX⟩:=aT (x.toNat:Int);have hX0:0≤X∧X≤255:=by rw[hX.out];have:=x.toNat_lt;omega
   have cn:=hi_ fun W h=>dM (L:=L) (R:=R) (A:=A) (c:=c) (bs:=bs) (M:=.int .i64 (32767:Nat)) (V:=v) (t:=t) hX.out W h
   have ne:∀a:UInt8,x≠a→¬X=(a.toNat:Int):=fun a hv e=>hv (UInt8.toNat_inj.1 (by rw[hX.out]at e;omega))
   replace ne:=hi_ ne;by_cases h92:x=92
   ·subst h92
    obtain rfl:X=92:=hX.out;cases t with
    |nil=>
     have cn2:=hi_ fun W h=>gG (L:=L) (R:=R) (A:=A) (c:=c) (bs:=bs) (M:=.int .i64 (32767:Nat)) (V:=v) W h
     obtain rfl:K=.err 2 []:=by rw[←hE,textS.eq_def];rfl
     clear hE;go_wp2_with (first|((first|(go_at_call 60;(with_reducible refine (cn.out _ hL.out).mono ?_))|(go_at_call 60;(with_reducible refine (cn2.out _ hL.out).mono ?_)));rintro e w1 ⟨rfl,hL2,hS2⟩;replace hL:=hi_ hL2;replace hS:=hi_ (hS.out.trans hS2);replace q0:=hL.out.q0;clear hL2 hS2))
     go_ret
     exact⟨rfl,_,_,hO.out.mk2 hL.out hW.out hS.out⟩
    |cons d u=>
     obtain⟨Y,hY⟩:=aT (d.toNat:Int);have hY0:0≤Y∧Y≤255:=by rw[hY.out];have:=d.toNat_lt;omega
     have cn2:=hi_ fun W h=>dM (L:=L) (R:=R) (A:=A) (c:=c) (bs:=bs) (M:=.int .i64 (32767:Nat)) (V:=v) (t:=u) hY.out W h
     have ces:=hi_ fun W h=>mQ (L:=L) (R:=R) (A:=A) (c:=c) (bs:=bs) (M:=.int .i64 (32767:Nat)) (V:=v) (t:=u) hY.out W h
     rw[nr]at hE;have hul:=om d u;obtain⟨E,hEe⟩:∃E,E=bD d u:=⟨_,rfl⟩;rw[←hEe]at ces hE hul;replace hEe:=hi_ hEe;obtain⟨ev,u2⟩:=E;cases ev with
     |none=>
      simp only[]at hE hul;replace hE:=hi_ hE;replace hul:=hi_ hul;rw[show lW (none,u2).1= -1 from rfl]at ces;go_wp2_with (first|((first|(go_at_call 60;(with_reducible refine (cn.out _ hL.out).mono ?_))|(go_at_call 60;(with_reducible refine (cn2.out _ hL.out).mono ?_))|(go_at_call 185;(with_reducible refine (ces.out _ hL.out).mono ?_)));rintro e w1 ⟨rfl,hL2,hS2⟩;replace hL:=hi_ hL2;replace hS:=hi_ (hS.out.trans hS2);replace q0:=hL.out.q0;clear hL2 hS2))
      have hO2:=hO.out.mk2 hL.out hW.out hS.out;have e1:=hup.out _ _ _ hO2;have e2:=hbw.out;have e3:=hul.out;have e4:=hop2.out;have e5:=hf.out;simp only[List.length_cons]at e2 e3 e4 e5;exact⟨⟨f,op,out,u2,congrArg (Value.int .i64) hoi.out,hop1.out,by omega,hO2,hE.out,by omega,hmx.out⟩,by rw[e1,e2];omega⟩
     |some z=>
      simp only[]at hE hul;obtain⟨Z,hZ⟩:=aT (z.toNat:Int);have hZ0:0≤Z∧Z≤255:=by rw[hZ.out];have:=z.toNat_lt;omega
      rw[show lW (some z,u2).1=Z from hZ.out.symm]at ces;replace hul:=hi_ hul;have cput:=hi_ fun W h=>dQ (w0:=w0) (L:=L) (R:=R) (A:=A) (c:=c) (bs:=bs) (m:=32767) (out:=out) (r:=u2) (x:=z) (X:=Z) hZ.out (by omega) W h hmx.out
      by_cases h7:32767≤out.length
      ·have e4:K=.err 3 u2:=by rw[←hE,if_pos h7]
       subst e4;clear hE;replace h7:=hi_ h7;go_wp2_with (first|((first|(go_at_call 60;(with_reducible refine (cn.out _ hL.out).mono ?_))|(go_at_call 60;(with_reducible refine (cn2.out _ hL.out).mono ?_))|(go_at_call 185;(with_reducible refine (ces.out _ hL.out).mono ?_)));rintro e w1 ⟨rfl,hL2,hS2⟩;replace hL:=hi_ hL2;replace hS:=hi_ (hS.out.trans hS2);replace q0:=hL.out.q0;clear hL2 hS2)|(go_at_call 184;(with_reducible refine (cput.out _ (hO.out.mk2 hL.out hW.out hS.out)).mono ?_);rintro e w1 ⟨k1,k2⟩;obtain⟨rfl,hO2⟩:=k1 h7.out;replace hO2:=hi_ hO2;clear k1 k2))
       go_ret
       exact⟨rfl,_,_,hO2.out⟩
      ·have e4:=hi_ (show textS f (op) (out++[z]) u2=K by rw[←hE,if_neg h7])
       clear hE;replace h7:=hi_ h7;go_wp2_with (first|((first|(go_at_call 60;(with_reducible refine (cn.out _ hL.out).mono ?_))|(go_at_call 60;(with_reducible refine (cn2.out _ hL.out).mono ?_))|(go_at_call 185;(with_reducible refine (ces.out _ hL.out).mono ?_)));rintro e w1 ⟨rfl,hL2,hS2⟩;replace hL:=hi_ hL2;replace hS:=hi_ (hS.out.trans hS2);replace q0:=hL.out.q0;clear hL2 hS2)|(go_at_call 184;(with_reducible refine (cput.out _ (hO.out.mk2 hL.out hW.out hS.out)).mono ?_);rintro e w1 ⟨k1,k2⟩;obtain⟨rfl,hO2⟩:=k2 (Nat.lt_of_not_le h7.out);replace hO2:=hi_ hO2;clear k1 k2))
       have e1:=hup.out _ _ _ hO2.out;have e2:=hbw.out;have e3:=hul.out;have e6:=hop2.out;have e5:=hf.out;have e8:=h7.out;have e9:=hop1.out;simp only[List.length_cons]at e2 e3 e6 e5;exact⟨⟨f,op,_,u2,congrArg (Value.int .i64) hoi.out,hop1.out,by omega,hO2.out,e4.out,by omega,by simp only[List.length_append,List.length_cons,List.length_nil];omega⟩,by rw[e1,e2];omega⟩
   ·have n92:=ne.out 92 h92
    simp only[UInt8.reduceToNat,Int.cast_ofNat_Int]at n92;by_cases h13:x=13∨x=10
    ·have cel:=hi_ fun W h=>oM (L:=L) (R:=R) (A:=A) (c:=c) (bs:=bs) (M:=.int .i64 (32767:Nat)) (V:=v) (t:=t) hX.out W h
     rw[np h13]at hE;have hul:=iq x t;generalize dm x t=u2 at *;have hZ:Hid ((10:Int)=((10:UInt8).toNat:Int)):=hi_ rfl;replace hul:=hi_ hul;rcases h13 with rfl|rfl
     ·obtain rfl:X=13:=hX.out
      have cput:=hi_ fun W h=>dQ (w0:=w0) (L:=L) (R:=R) (A:=A) (c:=c) (bs:=bs) (m:=32767) (out:=out) (r:=u2) (x:=10) (X:=10) hZ.out (by omega) W h hmx.out
      by_cases h7:32767≤out.length
      ·have e4:K=.err 3 t:=by rw[←hE,if_pos h7]
       subst e4;clear hE;replace h7:=hi_ h7;go_wp2_with (first|((first|(go_at_call 60;(with_reducible refine (cn.out _ hL.out).mono ?_))|(go_at_call 186;(with_reducible refine (cel.out _ hL.out).mono ?_)));rintro e w1 ⟨rfl,hL2,hS2⟩;replace hL:=hi_ hL2;replace hS:=hi_ (hS.out.trans hS2);replace q0:=hL.out.q0;clear hL2 hS2)|(go_at_call 184;(with_reducible refine (cput.out _ (hO.out.mk2 hL.out hW.out hS.out)).mono ?_);rintro e w1 ⟨k1,k2⟩;obtain⟨rfl,hO2⟩:=k1 h7.out;replace hO2:=hi_ hO2;clear k1 k2))
       go_ret
       exact⟨rfl,_,_,hO2.out⟩
      ·have e4:=hi_ (show textS f (op) (out++[10]) u2=K by rw[←hE,if_neg h7])
       clear hE;replace h7:=hi_ h7;go_wp2_with (first|((first|(go_at_call 60;(with_reducible refine (cn.out _ hL.out).mono ?_))|(go_at_call 186;(with_reducible refine (cel.out _ hL.out).mono ?_)));rintro e w1 ⟨rfl,hL2,hS2⟩;replace hL:=hi_ hL2;replace hS:=hi_ (hS.out.trans hS2);replace q0:=hL.out.q0;clear hL2 hS2)|(go_at_call 184;(with_reducible refine (cput.out _ (hO.out.mk2 hL.out hW.out hS.out)).mono ?_);rintro e w1 ⟨k1,k2⟩;obtain⟨rfl,hO2⟩:=k2 (Nat.lt_of_not_le h7.out);replace hO2:=hi_ hO2;clear k1 k2))
       have e1:=hup.out _ _ _ hO2.out;have e2:=hbw.out;have e3:=hul.out;have e6:=hop2.out;have e5:=hf.out;have e8:=h7.out;have e9:=hop1.out;simp only[List.length_cons]at e2 e3 e6 e5;exact⟨⟨f,op,_,u2,congrArg (Value.int .i64) hoi.out,hop1.out,by omega,hO2.out,e4.out,by omega,by simp only[List.length_append,List.length_cons,List.length_nil];omega⟩,by rw[e1,e2];omega⟩
     ·obtain rfl:X=10:=hX.out
      have cput:=hi_ fun W h=>dQ (w0:=w0) (L:=L) (R:=R) (A:=A) (c:=c) (bs:=bs) (m:=32767) (out:=out) (r:=u2) (x:=10) (X:=10) hZ.out (by omega) W h hmx.out
      by_cases h7:32767≤out.length
      ·have e4:K=.err 3 t:=by rw[←hE,if_pos h7]
       subst e4;clear hE;replace h7:=hi_ h7;go_wp2_with (first|((first|(go_at_call 60;(with_reducible refine (cn.out _ hL.out).mono ?_))|(go_at_call 186;(with_reducible refine (cel.out _ hL.out).mono ?_)));rintro e w1 ⟨rfl,hL2,hS2⟩;replace hL:=hi_ hL2;replace hS:=hi_ (hS.out.trans hS2);replace q0:=hL.out.q0;clear hL2 hS2)|(go_at_call 184;(with_reducible refine (cput.out _ (hO.out.mk2 hL.out hW.out hS.out)).mono ?_);rintro e w1 ⟨k1,k2⟩;obtain⟨rfl,hO2⟩:=k1 h7.out;replace hO2:=hi_ hO2;clear k1 k2))
       go_ret
       exact⟨rfl,_,_,hO2.out⟩
      ·have e4:=hi_ (show textS f (op) (out++[10]) u2=K by rw[←hE,if_neg h7])
       clear hE;replace h7:=hi_ h7;go_wp2_with (first|((first|(go_at_call 60;(with_reducible refine (cn.out _ hL.out).mono ?_))|(go_at_call 186;(with_reducible refine (cel.out _ hL.out).mono ?_)));rintro e w1 ⟨rfl,hL2,hS2⟩;replace hL:=hi_ hL2;replace hS:=hi_ (hS.out.trans hS2);replace q0:=hL.out.q0;clear hL2 hS2)|(go_at_call 184;(with_reducible refine (cput.out _ (hO.out.mk2 hL.out hW.out hS.out)).mono ?_);rintro e w1 ⟨k1,k2⟩;obtain⟨rfl,hO2⟩:=k2 (Nat.lt_of_not_le h7.out);replace hO2:=hi_ hO2;clear k1 k2))
       have e1:=hup.out _ _ _ hO2.out;have e2:=hbw.out;have e3:=hul.out;have e6:=hop2.out;have e5:=hf.out;have e8:=h7.out;have e9:=hop1.out;simp only[List.length_cons]at e2 e3 e6 e5;exact⟨⟨f,op,_,u2,congrArg (Value.int .i64) hoi.out,hop1.out,by omega,hO2.out,e4.out,by omega,by simp only[List.length_append,List.length_cons,List.length_nil];omega⟩,by rw[e1,e2];omega⟩
    ·rw[ns h92 h13]at hE
     have n13:=ne.out 13 (fun e=>h13 (.inl e));have n10:=ne.out 10 (fun e=>h13 (.inr e));simp only[UInt8.reduceToNat,Int.cast_ofNat_Int]at n13 n10;have hul:Hid (t.length≤t.length):=hi_ (Nat.le_refl _);have hZ:=hX;by_cases h40:x=40
     ·subst h40
      obtain rfl:X=40:=hX.out;rw[if_neg (by rintro⟨e,_⟩;exact absurd e (by decide)),show (if (40:UInt8)=40 then op+1 else if (40:UInt8)=41 then op - 1 else op)=op+1 from by simp]at hE;have cput:=hi_ fun W h=>dQ (w0:=w0) (L:=L) (R:=R) (A:=A) (c:=c) (bs:=bs) (m:=32767) (out:=out) (r:=t) (x:=40) (X:=40) hZ.out (by omega) W h hmx.out
      by_cases h7:32767≤out.length
      ·have e4:K=.err 3 t:=by rw[←hE,if_pos h7]
       subst e4;clear hE;replace h7:=hi_ h7;go_wp2_with (first|(go_at_call 60;(with_reducible refine (cn.out _ hL.out).mono ?_);rintro e w1 ⟨rfl,hL2,hS2⟩;replace hL:=hi_ hL2;replace hS:=hi_ (hS.out.trans hS2);replace q0:=hL.out.q0;clear hL2 hS2)|(go_at_call 184;(with_reducible refine (cput.out _ (hO.out.mk2 hL.out hW.out hS.out)).mono ?_);rintro e w1 ⟨k1,k2⟩;obtain⟨rfl,hO2⟩:=k1 h7.out;replace hO2:=hi_ hO2;clear k1 k2))
       go_ret
       exact⟨rfl,_,_,hO2.out⟩
      ·have e4:=hi_ (show textS f (op+1) (out++[40]) t=K by rw[←hE,if_neg h7])
       clear hE;replace h7:=hi_ h7;go_wp2_with (first|(go_at_call 60;(with_reducible refine (cn.out _ hL.out).mono ?_);rintro e w1 ⟨rfl,hL2,hS2⟩;replace hL:=hi_ hL2;replace hS:=hi_ (hS.out.trans hS2);replace q0:=hL.out.q0;clear hL2 hS2)|(go_at_call 184;(with_reducible refine (cput.out _ (hO.out.mk2 hL.out hW.out hS.out)).mono ?_);rintro e w1 ⟨k1,k2⟩;obtain⟨rfl,hO2⟩:=k2 (Nat.lt_of_not_le h7.out);replace hO2:=hi_ hO2;clear k1 k2))
       have e1:=hup.out _ _ _ hO2.out;have e2:=hbw.out;have e3:=hul.out;have e6:=hop2.out;have e5:=hf.out;have e8:=h7.out;have e9:=hop1.out;simp only[List.length_cons]at e2 e3 e6 e5;exact⟨⟨f,op+1,_,t,congrArg (Value.int .i64) (by have:=hoi.out;omega),Nat.succ_pos _,by omega,hO2.out,e4.out,by omega,by simp only[List.length_append,List.length_cons,List.length_nil];omega⟩,by rw[e1,e2];omega⟩
     ·have n40:=ne.out 40 h40
      simp only[UInt8.reduceToNat,Int.cast_ofNat_Int]at n40;by_cases h41:x=41
      ·subst h41
       obtain rfl:X=41:=hX.out;by_cases hp1:op=1
       ·obtain rfl:oi=1:=by rw[hoi.out,hp1];rfl
        obtain rfl:K=.ok out t:=by rw[←hE,if_pos ⟨rfl,hp1⟩]
        clear hE;replace hp1:=hi_ hp1;go_wp2_with (go_at_call 60;(with_reducible refine (cn.out _ hL.out).mono ?_);rintro e w1 ⟨rfl,hL2,hS2⟩;replace hL:=hi_ hL2;replace hS:=hi_ (hS.out.trans hS2);replace q0:=hL.out.q0;clear hL2 hS2)
        go_ret
        exact⟨rfl,hO.out.mk2 hL.out hW.out hS.out⟩
       ·have hoi1:¬oi=1:=by rw[hoi.out];omega
        have hoi2:(oi - 1 == 0)=false:=by rw[beq_eq_false_iff_ne];omega
        rw[if_neg (by rintro⟨_,e⟩;exact hp1 e),show (if (41:UInt8)=40 then op+1 else if (41:UInt8)=41 then op - 1 else op)=op - 1 from by simp]at hE;replace hp1:=hi_ hp1;have cput:=hi_ fun W h=>dQ (w0:=w0) (L:=L) (R:=R) (A:=A) (c:=c) (bs:=bs) (m:=32767) (out:=out) (r:=t) (x:=41) (X:=41) hZ.out (by omega) W h hmx.out
        by_cases h7:32767≤out.length
        ·have e4:K=.err 3 t:=by rw[←hE,if_pos h7]
         subst e4;clear hE;replace h7:=hi_ h7;go_wp2_with (first|(go_at_call 60;(with_reducible refine (cn.out _ hL.out).mono ?_);rintro e w1 ⟨rfl,hL2,hS2⟩;replace hL:=hi_ hL2;replace hS:=hi_ (hS.out.trans hS2);replace q0:=hL.out.q0;clear hL2 hS2)|(go_at_call 184;(with_reducible refine (cput.out _ (hO.out.mk2 hL.out hW.out hS.out)).mono ?_);rintro e w1 ⟨k1,k2⟩;obtain⟨rfl,hO2⟩:=k1 h7.out;replace hO2:=hi_ hO2;clear k1 k2))
         go_ret
         exact⟨rfl,_,_,hO2.out⟩
        ·have e4:=hi_ (show textS f (op - 1) (out++[41]) t=K by rw[←hE,if_neg h7])
         clear hE;replace h7:=hi_ h7;go_wp2_with (first|(go_at_call 60;(with_reducible refine (cn.out _ hL.out).mono ?_);rintro e w1 ⟨rfl,hL2,hS2⟩;replace hL:=hi_ hL2;replace hS:=hi_ (hS.out.trans hS2);replace q0:=hL.out.q0;clear hL2 hS2)|(go_at_call 184;(with_reducible refine (cput.out _ (hO.out.mk2 hL.out hW.out hS.out)).mono ?_);rintro e w1 ⟨k1,k2⟩;obtain⟨rfl,hO2⟩:=k2 (Nat.lt_of_not_le h7.out);replace hO2:=hi_ hO2;clear k1 k2))
         have e1:=hup.out _ _ _ hO2.out;have e2:=hbw.out;have e3:=hul.out;have e6:=hop2.out;have e5:=hf.out;have e8:=h7.out;have e9:=hop1.out;simp only[List.length_cons]at e2 e3 e6 e5;exact⟨⟨f,op - 1,_,t,congrArg (Value.int .i64) (by have:=hoi.out;have:=hop1.out;omega),(by have:=hop1.out;have:=hp1.out;omega),by omega,hO2.out,e4.out,by omega,by simp only[List.length_append,List.length_cons,List.length_nil];omega⟩,by rw[e1,e2];omega⟩
      ·have n41:=ne.out 41 h41
       simp only[UInt8.reduceToNat,Int.cast_ofNat_Int]at n41;rw[if_neg (by rintro⟨e,_⟩;exact h41 e),if_neg h40,if_neg h41]at hE;have cput:=hi_ fun W h=>dQ (w0:=w0) (L:=L) (R:=R) (A:=A) (c:=c) (bs:=bs) (m:=32767) (out:=out) (r:=t) (x:=x) (X:=X) hZ.out (by omega) W h hmx.out
       by_cases h7:32767≤out.length
       ·have e4:K=.err 3 t:=by rw[←hE,if_pos h7]
        subst e4;clear hE;replace h7:=hi_ h7;go_wp2_with (first|(go_at_call 60;(with_reducible refine (cn.out _ hL.out).mono ?_);rintro e w1 ⟨rfl,hL2,hS2⟩;replace hL:=hi_ hL2;replace hS:=hi_ (hS.out.trans hS2);replace q0:=hL.out.q0;clear hL2 hS2)|(go_at_call 184;(with_reducible refine (cput.out _ (hO.out.mk2 hL.out hW.out hS.out)).mono ?_);rintro e w1 ⟨k1,k2⟩;obtain⟨rfl,hO2⟩:=k1 h7.out;replace hO2:=hi_ hO2;clear k1 k2))
        go_ret
        exact⟨rfl,_,_,hO2.out⟩
       ·have e4:=hi_ (show textS f (op) (out++[x]) t=K by rw[←hE,if_neg h7])
        clear hE;replace h7:=hi_ h7;go_wp2_with (first|(go_at_call 60;(with_reducible refine (cn.out _ hL.out).mono ?_);rintro e w1 ⟨rfl,hL2,hS2⟩;replace hL:=hi_ hL2;replace hS:=hi_ (hS.out.trans hS2);replace q0:=hL.out.q0;clear hL2 hS2)|(go_at_call 184;(with_reducible refine (cput.out _ (hO.out.mk2 hL.out hW.out hS.out)).mono ?_);rintro e w1 ⟨k1,k2⟩;obtain⟨rfl,hO2⟩:=k2 (Nat.lt_of_not_le h7.out);replace hO2:=hi_ hO2;clear k1 k2))
        have e1:=hup.out _ _ _ hO2.out;have e2:=hbw.out;have e3:=hul.out;have e6:=hop2.out;have e5:=hf.out;have e8:=h7.out;have e9:=hop1.out;simp only[List.length_cons]at e2 e3 e6 e5;exact⟨⟨f,op,_,t,congrArg (Value.int .i64) hoi.out,hop1.out,by omega,hO2.out,e4.out,by omega,by simp only[List.length_append,List.length_cons,List.length_nil];omega⟩,by rw[e1,e2];omega⟩
end
theorem mM {f:Nat}{h:Int}{out t:Bs}{x:UInt8}(hw:aY x=false):bm (f+1) h out (x :: t) =
 if x=62 then (if h<0 then .ok out t else if 32767≤out.length then .err 3 t else .ok (out++[UInt8.ofNat (16*h).toNat]) t)
 else if bM x.toNat<0 then .err 4 t else if h<0 then bm f (bM x.toNat) out t else if 32767≤out.length then .err 3 t else bm f (-1) (out++[UInt8.ofNat (16*h+bM x.toNat).toNat]) t:=by
 rw[bm,if_neg (by rw[hw];decide)]
section
variable {L R:Nat}{A:Option Addr}{c:Nat}{bs:Bs}{M V:Value}{w w' w0:World}{r r':Bs}{m:Nat}{out:Bs}
theorem sx (h:LO w0 L R A c bs 32767 [] w r):Calls Tryz.prog 153 #[.pointer (some ⟨R,0,none⟩)] w (LexL w0 L R A c bs 32767 (bm (r.length+1) (-1) [] r)):=by
 obtain⟨K,hK⟩:∃K,K=bm (r.length+1) (-1) [] r:=⟨_,rfl⟩;rw[←hK];replace hK:=hi_ hK;replace h:=hi_ h;go_enter Tryz.func153,Tryz.ntmps153;go_wp2
 go_loopw [3] (fun s3 wr=>∃f hi out r1,s3=.int .i64 hi∧(-1≤hi∧hi≤15)∧LO w0 L R A c bs 32767 out wr r1∧bm f hi out r1=K∧r1.length<f∧out.length≤32767) (fun _ wr=>bs.length+1 - posOf L wr)
 case atStart=>exact⟨_,-1,_,r,rfl,by omega,h.out,hK.out.symm,Nat.lt_succ_self _,by simp⟩
 case round=>
  obtain⟨f,hi,out,r1,rfl,hi0,hO,hE,hf,hmx⟩:=hrel;have hms:=hO.posOf;obtain⟨f,rfl⟩:∃g,f=g+1:=⟨f - 1,by omega⟩;obtain⟨v,hL,hW⟩:=hO.ls;have q0:=hL.q0;have hbw:bs.length+1 - posOf L wr=r1.length+1:=by rw[hms];have:=aK hL.suf;have:=aE bs r1;omega
  have hup:∀W out' r2,LO w0 L R A c bs 32767 out' W r2→bs.length+1 - posOf L W=r2.length+1:=fun W out' r2 ho=>by
   obtain⟨v,hL,_⟩:=ho.ls;rw[hL.posOf];have:=aK hL.suf;have:=aE bs r2;omega
  clear h hK hms;refine h7_ hup hbw hf hmx hL hW hO ?_;clear hup hbw hf hmx hL hW hO;intro hup hbw hf hmx hL hW hO;have hS:=hi_ (Save.refl L wr);cases r1 with
  |nil=>
   have cn:=hi_ fun W h=>gG (L:=L) (R:=R) (A:=A) (c:=c) (bs:=bs) (M:=.int .i64 (32767:Nat)) (V:=v) W h
   have cd:=hi_ (show ∀W,Calls Tryz.prog 183 #[.int .i64 (-1)] W fun e w'=>e=.returned (.int .i64 (-1))∧W=w' from fun W=>eF (-1) (by omega));obtain rfl:K=.err 2 []:=by rw[←hE,bm]
   clear hE;go_wp2_with (first|(go_at_call 60;(with_reducible refine (cn.out _ hL.out).mono ?_);rintro e w1 ⟨rfl,hL2,hS2⟩;replace hL:=hi_ hL2;replace hS:=hi_ (hS.out.trans hS2);replace q0:=hL.out.q0;clear hL2 hS2)|(go_at_call 183;(with_reducible refine (cd.out _).mono ?_);rintro e w2 ⟨rfl,rfl⟩))
   go_ret
   exact⟨rfl,_,_,hO.out.mk2 hL.out hW.out hS.out⟩
  |cons x t=>
   obtain⟨X,hX⟩:=aT (x.toNat:Int);have hX0:0≤X∧X≤255:=by rw[hX.out];have:=x.toNat_lt;omega
   obtain⟨D,hD⟩:=aT (bM X);have rD: -1≤D∧D≤15:=by rw[hD.out];exact eW _
   have cn:=hi_ fun W h=>dM (L:=L) (R:=R) (A:=A) (c:=c) (bs:=bs) (M:=.int .i64 (32767:Nat)) (V:=v) (t:=t) hX.out W h
   have cd:=hi_ (show ∀W,Calls Tryz.prog 183 #[.int .i64 X] W fun e w'=>e=.returned (.int .i64 D)∧W=w' from fun W=>by rw[hD.out];exact eF X (by omega));have ne:∀a:UInt8,x≠a→¬X=(a.toNat:Int):=fun a hv e=>hv (UInt8.toNat_inj.1 (by rw[hX.out]at e;omega))
   replace ne:=hi_ ne;cases hwx:aY x with
   |true=>
    have cw:=hi_ fun W=>dF hX.out hwx.symm W
    have e4:=hi_ (show bm f hi out t=K by rw[←hE,bm,if_pos hwx]);clear hE;replace hi0:=hi_ hi0;go_wp2_with (first|(go_at_call 60;(with_reducible refine (cn.out _ hL.out).mono ?_);rintro e w1 ⟨rfl,hL2,hS2⟩;replace hL:=hi_ hL2;replace hS:=hi_ (hS.out.trans hS2);replace q0:=hL.out.q0;clear hL2 hS2)|((first|(go_at_call 183;(with_reducible refine (cd.out _).mono ?_))|(go_at_call 59;(with_reducible refine (cw.out _).mono ?_)));rintro e w2 ⟨rfl,rfl⟩))
    have hO2:=hO.out.mk2 hL.out hW.out hS.out;have e1:=hup.out _ _ _ hO2;have e2:=hbw.out;have e5:=hf.out;simp only[List.length_cons]at e2 e5;exact⟨⟨f,hi,out,t,rfl,hi0.out,hO2,e4.out,by omega,hmx.out⟩,by rw[e1,e2];omega⟩
   |false=>
    have cw:=hi_ fun W=>dF hX.out hwx.symm W
    rw[mM hwx]at hE;rw[←hX.out,←hD.out]at hE;by_cases h62:x=62
    ·subst h62
     obtain rfl:X=62:=hX.out;rw[if_pos rfl]at hE;by_cases hn:hi<0
     ·obtain rfl:K=.ok out t:=by rw[←hE,if_pos hn]
      clear hE;go_wp2_with (first|(go_at_call 60;(with_reducible refine (cn.out _ hL.out).mono ?_);rintro e w1 ⟨rfl,hL2,hS2⟩;replace hL:=hi_ hL2;replace hS:=hi_ (hS.out.trans hS2);replace q0:=hL.out.q0;clear hL2 hS2)|((first|(go_at_call 183;(with_reducible refine (cd.out _).mono ?_))|(go_at_call 59;(with_reducible refine (cw.out _).mono ?_)));rintro e w2 ⟨rfl,rfl⟩))
      go_ret
      exact⟨rfl,hO.out.mk2 hL.out hW.out hS.out⟩
     ·obtain⟨a,rfl⟩:∃a:Nat,hi=(a:Int):=⟨hi.toNat,by omega⟩
      rw[if_neg hn]at hE;obtain⟨z,hz⟩:∃z:UInt8,z=UInt8.ofNat (16*(a:Int)).toNat:=⟨_,rfl⟩;have hZ:Hid ((a:Int)*16=(z.toNat:Int)):=hi_ (by rw[hz,UInt8.toNat_ofNat'];omega);rw[←hz]at hE;have hw1:IntKind.i64.wrap ((a:Int)*16)=(a:Int)*16:=IntWalk.i64_in _ (by omega);have cput:=hi_ fun W h=>dQ (w0:=w0) (L:=L) (R:=R) (A:=A) (c:=c) (bs:=bs) (m:=32767) (out:=out) (r:=t) (x:=z) (X:=(a:Int)*16) hZ.out (by omega) W h hmx.out
      replace hz:=hi_ hz;by_cases h7:32767≤out.length
      ·obtain rfl:K=.err 3 t:=by rw[←hE,if_pos h7]
       clear hE;replace h7:=hi_ h7;go_wp2_with (first|(go_at_call 60;(with_reducible refine (cn.out _ hL.out).mono ?_);rintro e w1 ⟨rfl,hL2,hS2⟩;replace hL:=hi_ hL2;replace hS:=hi_ (hS.out.trans hS2);replace q0:=hL.out.q0;clear hL2 hS2)|((first|(go_at_call 183;(with_reducible refine (cd.out _).mono ?_))|(go_at_call 59;(with_reducible refine (cw.out _).mono ?_)));rintro e w2 ⟨rfl,rfl⟩)|(go_at_call 184;(with_reducible refine (cput.out _ (hO.out.mk2 hL.out hW.out hS.out)).mono ?_);rintro e w1 ⟨k1,k2⟩;obtain⟨rfl,hO2⟩:=k1 h7.out;replace hO2:=hi_ hO2;clear k1 k2))
       go_ret
       exact⟨rfl,_,_,hO2.out⟩
      ·obtain rfl:K=.ok (out++[z]) t:=by rw[←hE,if_neg h7]
       clear hE;replace h7:=hi_ h7;go_wp2_with (first|(go_at_call 60;(with_reducible refine (cn.out _ hL.out).mono ?_);rintro e w1 ⟨rfl,hL2,hS2⟩;replace hL:=hi_ hL2;replace hS:=hi_ (hS.out.trans hS2);replace q0:=hL.out.q0;clear hL2 hS2)|((first|(go_at_call 183;(with_reducible refine (cd.out _).mono ?_))|(go_at_call 59;(with_reducible refine (cw.out _).mono ?_)));rintro e w2 ⟨rfl,rfl⟩)|(go_at_call 184;(with_reducible refine (cput.out _ (hO.out.mk2 hL.out hW.out hS.out)).mono ?_);rintro e w1 ⟨k1,k2⟩;obtain⟨rfl,hO2⟩:=k2 (Nat.lt_of_not_le h7.out);replace hO2:=hi_ hO2;clear k1 k2))
       go_ret
       exact⟨rfl,hO2.out⟩
    ·have n62:=ne.out 62 h62
     simp only[UInt8.reduceToNat,Int.cast_ofNat_Int]at n62;rw[if_neg h62]at hE;by_cases hD0:D<0
     ·obtain rfl:K=.err 4 t:=by rw[←hE,if_pos hD0]
      clear hE;replace hi0:=hi_ hi0;go_wp2_with (first|(go_at_call 60;(with_reducible refine (cn.out _ hL.out).mono ?_);rintro e w1 ⟨rfl,hL2,hS2⟩;replace hL:=hi_ hL2;replace hS:=hi_ (hS.out.trans hS2);replace q0:=hL.out.q0;clear hL2 hS2)|((first|(go_at_call 183;(with_reducible refine (cd.out _).mono ?_))|(go_at_call 59;(with_reducible refine (cw.out _).mono ?_)));rintro e w2 ⟨rfl,rfl⟩))
      go_ret
      exact⟨rfl,_,_,hO.out.mk2 hL.out hW.out hS.out⟩
     ·rw[if_neg hD0]at hE
      by_cases hn:hi<0
      ·have e4:=hi_ (show bm f D out t=K by rw[←hE,if_pos hn])
       clear hE;go_wp2_with (first|(go_at_call 60;(with_reducible refine (cn.out _ hL.out).mono ?_);rintro e w1 ⟨rfl,hL2,hS2⟩;replace hL:=hi_ hL2;replace hS:=hi_ (hS.out.trans hS2);replace q0:=hL.out.q0;clear hL2 hS2)|((first|(go_at_call 183;(with_reducible refine (cd.out _).mono ?_))|(go_at_call 59;(with_reducible refine (cw.out _).mono ?_)));rintro e w2 ⟨rfl,rfl⟩))
       have hO2:=hO.out.mk2 hL.out hW.out hS.out;have e1:=hup.out _ _ _ hO2;have e2:=hbw.out;have e5:=hf.out;simp only[List.length_cons]at e2 e5;exact⟨⟨f,D,out,t,rfl,rD,hO2,e4.out,by omega,hmx.out⟩,by rw[e1,e2];omega⟩
      ·obtain⟨a,rfl⟩:∃a:Nat,hi=(a:Int):=⟨hi.toNat,by omega⟩
       rw[if_neg hn]at hE;have hor:bits BinOp.or IntKind.i64 ((a:Int)*16) D=(a:Int)*16+D:=md (by omega) (by omega);obtain⟨z,hz⟩:∃z:UInt8,z=UInt8.ofNat (16*(a:Int)+D).toNat:=⟨_,rfl⟩;have hZ:Hid ((a:Int)*16+D=(z.toNat:Int)):=hi_ (by rw[hz,UInt8.toNat_ofNat'];omega);rw[←hz]at hE;have hw1:IntKind.i64.wrap ((a:Int)*16)=(a:Int)*16:=IntWalk.i64_in _ (by omega);have cput:=hi_ fun W h=>dQ (w0:=w0) (L:=L) (R:=R) (A:=A) (c:=c) (bs:=bs) (m:=32767) (out:=out) (r:=t) (x:=z) (X:=(a:Int)*16+D) hZ.out (by omega) W h hmx.out
       replace hz:=hi_ hz;by_cases h7:32767≤out.length
       ·obtain rfl:K=.err 3 t:=by rw[←hE,if_pos h7]
        clear hE;replace h7:=hi_ h7;go_wp2_with (first|(go_at_call 60;(with_reducible refine (cn.out _ hL.out).mono ?_);rintro e w1 ⟨rfl,hL2,hS2⟩;replace hL:=hi_ hL2;replace hS:=hi_ (hS.out.trans hS2);replace q0:=hL.out.q0;clear hL2 hS2)|((first|(go_at_call 183;(with_reducible refine (cd.out _).mono ?_))|(go_at_call 59;(with_reducible refine (cw.out _).mono ?_)));rintro e w2 ⟨rfl,rfl⟩)|(go_at_call 184;(with_reducible refine (cput.out _ (hO.out.mk2 hL.out hW.out hS.out)).mono ?_);rintro e w1 ⟨k1,k2⟩;obtain⟨rfl,hO2⟩:=k1 h7.out;replace hO2:=hi_ hO2;clear k1 k2))
        go_ret
        exact⟨rfl,_,_,hO2.out⟩
       ·have e4:=hi_ (show bm f (-1) (out++[z]) t=K by rw[←hE,if_neg h7])
        clear hE;replace h7:=hi_ h7;go_wp2_with (first|(go_at_call 60;(with_reducible refine (cn.out _ hL.out).mono ?_);rintro e w1 ⟨rfl,hL2,hS2⟩;replace hL:=hi_ hL2;replace hS:=hi_ (hS.out.trans hS2);replace q0:=hL.out.q0;clear hL2 hS2)|((first|(go_at_call 183;(with_reducible refine (cd.out _).mono ?_))|(go_at_call 59;(with_reducible refine (cw.out _).mono ?_)));rintro e w2 ⟨rfl,rfl⟩)|(go_at_call 184;(with_reducible refine (cput.out _ (hO.out.mk2 hL.out hW.out hS.out)).mono ?_);rintro e w1 ⟨k1,k2⟩;obtain⟨rfl,hO2⟩:=k2 (Nat.lt_of_not_le h7.out);replace hO2:=hi_ hO2;clear k1 k2))
        have e1:=hup.out _ _ _ hO2.out;have e2:=hbw.out;have e5:=hf.out;have e8:=h7.out;simp only[List.length_cons]at e2 e5;exact⟨⟨f,-1,_,t,rfl,by omega,hO2.out,e4.out,by omega,by simp only[List.length_append,List.length_cons,List.length_nil];omega⟩,by rw[e1,e2];omega⟩
end
section
open Go Go.RowKit Go.Wk Go.Rd Go.Fx
attribute [local go_sem ↓] Go.wp_at_zero Go.wp_at_succ
theorem mF {w:World}{L:Nat}{A:Option Addr}{c:Nat}{bs:List UInt8}{p:Nat}(n:Nat) (h:Cur w w L A c bs p) (hcap:bs.length≤c) (hn:1≤n) (hle:p+n≤bs.length) :
 Calls Tryz.prog 61 #[.pointer (some ⟨L,0,none⟩),.int .i64 n] w fun e w'=>∃a2 m2 c2,e=.returned (.tuple #[.slice a2 m2 c2,.bool true])∧Own w.heap.size w' (.slice a2 m2 c2) ((bs.drop p).take n)∧Cur w w' L A c bs (p+n):=by
 have H:=hi_ h;obtain⟨h1,h2,h3,h4,h5,h6,h7,h8⟩:=h;obtain⟨b,o,rfl,hc⟩:=h6.2 (by omega);have hpc:¬c=p:=by omega
 have cl:=Tryz.bytes_Clone_at ⟨b,o+p,none⟩ n (c - p) (((bs.drop p).take n).map fun x=>(x.toNat:Int)) w.drew (by simp;omega) (by omega) (fun i hi=>by
  have:=hc (p+i) (by omega);rw[Wk.add_none,Nat.add_assoc];show w.cell? _=_
  rw[this];simp[List.getD,hi,show p+i<bs.length by omega])
 have hl:((bs.drop p).take n).length=n:=by simp;omega
 generalize hT:(bs.drop p).take n=T at *;replace hT:=hi_ hT;replace cl:=hi_ cl;have kp:=hi_ fun (w1:World) (hb:Below w.heap.size w w1)=>(⟨(H.out.below hb).cb,(H.out.below hb).ca⟩:w1.cell? ⟨L,0,none⟩=some (.slice (some ⟨b,o,none⟩) bs.length c)∧w1.cell? ⟨L,1,none⟩=some (.int .i64 (p:Nat)))
 have hp0:(0:Int)≤(p:Int):=by omega
 have hpn:(p:Int)+(n:Int)≤(bs.length:Int):=by omega
 have hbc:(bs.length:Int)≤(c:Int):=by omega
 have hw:IntKind.i64.wrap ((p:Int)+(n:Int))=(p:Int)+(n:Int):=IntWalk.i64_in _ (by omega);clear hc h6 h2 h1;go_enter Tryz.func61,Tryz.ntmps61;go_wp2_with (go_at_call 58;(with_reducible refine (bd H.out).mono ?_);rintro e w1 ⟨rfl,rfl⟩)
 go_region_held (fun w'=>w'.cell? ⟨L,0,none⟩=some (.slice (some ⟨b,o,none⟩) bs.length c)∧w'.cell? ⟨L,1,none⟩=some (.int .i64 (p:Nat)))
  (first|go_keep|exact kp.out _ ((Below.refl _ _).drew.trans hw2))
  ((go_at_call 87;(with_reducible refine cl.out.mono ?_);rintro e w2 ⟨v,rfl,hown,hne,hw2⟩))
 have hb2:Below w1.heap.size w1 w2:=(Below.refl w1.heap.size w1).drew.trans hw2;have hC2:=hi_ (H.out.below hb2);have k5:=hC2.out.fr;obtain⟨k3,k4⟩:=kp.out _ hb2;rw[fU]at hown;have hO:Own w1.heap.size w2 v T:=⟨by rw[hl];exact hown⟩;obtain⟨a2,m2,c2,rfl⟩:=hO.sl;have hL1:L<w1.heap.size:=ac H.out.cb;have hoL:(Value.slice a2 m2 c2).ownBlock≠some L:=by
  rcases hO.row.2 with ⟨e,_⟩|⟨g,cap,cur,e,hB,_⟩
  ·rw[e];simp[Value.ownBlock]
  ·rw[e];intro e2
   have:g=L:=by simpa [Value.ownBlock] using e2
   omega
 replace hO:=hi_ hO;replace hoL:=hi_ hoL;clear hown hne hw2;go_wp2
 go_ret2
 refine⟨a2,m2,c2,rfl,hO.out.farL hoL.out,?_⟩;have h9:=hC2.out.go (p+n) hle;rw[show ((p+n:Nat):Int)=(p:Int)+(n:Int) by omega]at h9;exact h9
theorem re (r:Bs) (k:Nat) (h:k≤(aN r).length):eR (r.drop k)=decide (k<(aN r).length):=by
 unfold aN at h⊢
 induction r generalizing k with
 |nil=>simp at h;subst h;rfl
 |cons x r ih=>
  cases hx:bu x with
  |false=>
   rw[List.takeWhile_cons,hx]at h⊢;simp at h;subst h;simp[eR,hx]
  |true=>
   rw[List.takeWhile_cons,hx]at h⊢;cases k with
   |zero=>simp[eR,hx]
   |succ k=>
    simp only[List.drop_succ_cons,if_true,List.length_cons]at h⊢;rw[ih k (by omega)];simp
theorem kj (r:Bs):(aN r).length≤r.length:=(List.takeWhile_prefix (p:=bu) (l:=r)).length_le
theorem nf (r:Bs):r.take (aN r).length=aN r:=by
 have h:=List.takeWhile_prefix (p:=bu) (l:=r);exact (List.prefix_iff_eq_take.1 h).symm
section
variable {L R:Nat}{A:Option Addr}{c:Nat}{bs:Bs}{M V:Value}{w w' w0:World}{r r':Bs}{m:Nat}{out:Bs}
theorem l4 (n:Nat) (hn:1≤n) (hn2:n≤r.length) (W:World) (h:LS L R A c bs M V W r):Calls Tryz.prog 61 #[.pointer (some ⟨L,0,none⟩),.int .i64 n] W fun e w'=>∃a2 m2 c2,e=.returned (.tuple #[.slice a2 m2 c2,.bool true])∧Own W.heap.size w' (.slice a2 m2 c2) (r.take n)∧LS L R A c bs M V w' (r.drop n)∧Save L W w':=by
 have hp:=mh h.suf n hn2;have:=aE bs (r.drop n);refine (mF n h.cur h.cap hn (by omega)).mono ?_;rintro e w' ⟨a2,m2,c2,rfl,hO,k⟩;rw[fy h.suf]at hO;exact⟨a2,m2,c2,rfl,hO,h.save_to k (dc h.suf n) hp⟩
theorem kY (h0:eR r=true) (W:World) (h:LS L R A c bs M V W r):Calls Tryz.prog 155 #[.pointer (some ⟨R,0,none⟩)] W fun e w'=>∃a2 m2 c2,e=.returned (.slice a2 m2 c2)∧Own W.heap.size w' (.slice a2 m2 c2) (aN r)∧LS L R A c bs M V w' (r.drop (aN r).length)∧Save L W w':=by
 obtain⟨n,hn⟩:∃n,n=(aN r).length:=⟨_,rfl⟩;have h1:1≤n:=by
  cases r with
  |nil=>cases h0
  |cons x t=>
   have:bu x=true:=h0;rw[hn];unfold aN;rw[List.takeWhile_cons,this];simp
 have hnr:n≤r.length:=by rw[hn];exact kj r
 have hr:r.take n=aN r:=by rw[hn];exact nf r
 have hbig:r.length≤1000000000:=by have:=aB h.suf;have:=h.cur.small;omega
 have cp:=hi_ fun (k:Nat) (hk:k≤2000000000) W h=>l0 (L:=L) (R:=R) (A:=A) (c:=c) (bs:=bs) (M:=M) (V:=V) (r:=r) k hk W h
 have cr:=hi_ (show ∀(k:Nat) (hk:k≤n) (W:World),Calls Tryz.prog 55 #[.int .i64 (pk r k)] W fun e w'=>e=.returned (.bool (decide (k<n)))∧W=w' from fun k hk W=>by
  have e1:=re r k (by omega);rw[hn,←e1];have:=fj (r.drop k) W;rw[show pk (r.drop k) 0=pk r k from by unfold pk;rw[List.getElem?_drop];rfl]at this;exact this)
 have ct:=hi_ fun W h=>l4 (L:=L) (R:=R) (A:=A) (c:=c) (bs:=bs) (M:=M) (V:=V) (r:=r) n h1 hnr W h
 rw[hr]at ct;rw[←hn];refine h5_ hn hr h hnr h1 ?_;clear hn hr h hnr h1;intro hn hr h hnr h1;clear h0;go_enter Tryz.func155,Tryz.ntmps155;go_wp2
 go_loopw [3] (fun s3 wr=>∃k:Nat,s3=.int .i64 (k:Nat)∧k≤n∧LS L R A c bs M V wr r∧Save L W wr) (fun s3 _=>n - (RowKit.intOf s3).toNat)
 case atStart=>exact⟨0,rfl,Nat.zero_le _,h.out,Save.refl _ _⟩
 case round=>
  obtain⟨k,rfl,hk,hL,hS⟩:=hrel;have hkb:k≤1000000000:=by have:=hnr.out;omega
  have cpk:=hi_ (cp.out k (by omega));have crk:=hi_ (cr.out k hk);have q0:=hL.q0;clear h cp cr;obtain⟨P,hP⟩:=aT (pk r k);rw[←hP.out]at cpk crk;replace hL:=hi_ hL;replace hS:=hi_ hS;by_cases hkn:k<n
  ·rw[decide_eq_true hkn]at crk
   replace hkn:=hi_ hkn;replace hk:=hi_ hk;go_wp2_with (first|(go_at_call 56;(with_reducible refine (cpk.out _ hL.out).mono ?_);rintro e w1 ⟨rfl,hL2,hS2⟩;replace hL:=hi_ hL2;replace hS:=hi_ (hS.out.trans hS2);replace q0:=hL.out.q0;clear hL2 hS2)|(go_at_call 55;(with_reducible refine (crk.out _).mono ?_);rintro e w2 ⟨rfl,rfl⟩))
   refine⟨⟨k+1,by first|rfl|exact congrArg (Value.int .i64) (by omega),hkn.out,hL.out,hS.out⟩,?_⟩;have:=hkn.out;simp[RowKit.intOf];omega
  ·obtain rfl:k=n:=by omega
   rw[decide_eq_false hkn]at crk;clear hkn;replace hk:=hi_ hk;go_wp2_with (first|(go_at_call 56;(with_reducible refine (cpk.out _ hL.out).mono ?_);rintro e w1 ⟨rfl,hL2,hS2⟩;replace hL:=hi_ hL2;replace hS:=hi_ (hS.out.trans hS2);replace q0:=hL.out.q0;clear hL2 hS2)|(go_at_call 55;(with_reducible refine (crk.out _).mono ?_);rintro e w2 ⟨rfl,rfl⟩)|(go_at_call 61;(with_reducible refine (ct.out _ hL.out).mono ?_);rintro e w1 ⟨a2,m2,c2,rfl,hO,hL2,hS2⟩;have hO:=hi_ (hO.base hS.out.size);replace hL:=hi_ hL2;replace hS:=hi_ (hS.out.trans hS2);clear hL2 hS2))
   go_ret
   exact⟨a2,m2,c2,rfl,hO.out,hL.out,hS.out⟩
end
end
section
open Go Go.RowKit Go.Wk Go.Fx
theorem Save.all {a b:World}(h:Save a.heap.size a b):Below a.heap.size a b:=⟨h.os,h.tape,h.output,h.size,fun k hk=>h.block k hk (by omega)⟩
theorem dE {w0 w:World}{L:Nat}{A:Option Addr}{c:Nat}{bs:List UInt8}{p:Nat}(h:Cur w0 w L A c bs p) :
 Calls Tryz.prog 206 #[.pointer (some ⟨L,0,none⟩)] w fun e w'=>e=.returned (.tuple #[.int .i64 ((aA (ae bs p)).1:Nat),.int .i64 ((ae bs p).length:Nat),.bool (aA (ae bs p)).2])∧Cur w0 w' L A c bs (p+(ae bs p).length):=by
 have hsm:=h.small;go_enter Tryz.func206,Tryz.ntmps206;go_wp2
 go_loopw [5,6,7] (fun nv mv ov wr=>∃k:Nat,k≤(ae bs p).length∧nv=.int .i64 ((aA ((ae bs p).take k)).1:Nat)∧mv=.int .i64 k∧ov=.bool (aA ((ae bs p).take k)).2∧Cur w0 wr L A c bs (p+k)) (fun _ mv _ _=>(ae bs p).length - (RowKit.intOf mv).toNat)
 case atStart=>exact⟨0,Nat.zero_le _,rfl,rfl,rfl,h⟩
 case round=>
  obtain⟨k,hk,rfl,rfl,rfl,hC⟩:=hrel;have hle:=cy ((ae bs p).take k) (0,true) (by omega);change (aA ((ae bs p).take k)).1≤2147483647 at hle;replace hC:=hi_ hC;have hdl:(ae bs p).length≤1000000000:=by
   have:(ae bs p).length≤(bs.drop p).length:=(List.takeWhile_sublist _).length_le;rw[List.length_drop]at this;omega
  by_cases hlt:k<(ae bs p).length
  ·obtain⟨hp1,hp2,hp3,hp4⟩:=mf hlt
   have HT:=hi_ (fK (ae bs p) k hlt);generalize hd:(ae bs p)[k]=d at *;obtain⟨S,hS⟩:=aT (aU bs (p+k));have hS2:=hi_ (show S=(d.toNat:Int) by rw[hS.out,hp1]);have hS0:48≤S∧S≤57:=by rw[hS.out];omega
   clear hd hp1 hp2 hp3;replace hp4:=hi_ hp4;generalize aA ((ae bs p).take k)=q at *;obtain⟨n,ok⟩:=q;simp only at hle⊢;obtain⟨N,hN⟩:=aT (n:Int);have hN0:0≤N∧N≤2147483647:=by rw[hN.out];omega
   rw[←hN.out];clear hle h;go_wp2_with (first
    |(go_at_call 56;(with_reducible refine (dH hC.out).mono ?_);clear hC;rintro e w1 ⟨rfl,hC⟩;replace hC:=hi_ hC;rw[←hS.out])
    |(go_at_call 60;(with_reducible refine (fd hC.out).mono ?_);clear hC;rintro e w1 ⟨rfl,hC⟩;rw[if_pos hp4.out]at hC;replace hC:=hi_ hC;rw[←hS.out]))
   ·rename_i hgt
    have e:=HT.out;have h1:=hS2.out;have h2:=hN.out;rw[eS,if_pos (by simp only;omega)]at e;refine⟨⟨k+1,by omega,by rw[e];rfl,by rfl,by rw[e],hC.out⟩,by simp only[RowKit.intOf];omega⟩
   ·rename_i hgt
    have e:=HT.out;have h1:=hS2.out;have h2:=hN.out;rw[eS,if_neg (by simp only;omega)]at e;refine⟨⟨k+1,by omega,by rw[e];congr 1;simp only;omega,by rfl,by rw[e],hC.out⟩,by simp only[RowKit.intOf];omega⟩
  ·have hk':k=(ae bs p).length:=by omega
   subst hk';rw[List.take_length]at hle⊢;have hpo:=ka bs p;obtain⟨S,hS⟩:=aT (aU bs (p+(ae bs p).length));rw[←hS.out]at hpo;clear h hle;rcases hpo with hpo|hpo
   ·go_wp2_with (go_at_call 56;(with_reducible refine (dH hC.out).mono ?_);clear hC;rintro e w1 ⟨rfl,hC⟩;replace hC:=hi_ hC;rw[←hS.out])
    go_ret3
    exact⟨rfl,hC.out⟩
   ·go_wp2_with (go_at_call 56;(with_reducible refine (dH hC.out).mono ?_);clear hC;rintro e w1 ⟨rfl,hC⟩;replace hC:=hi_ hC;rw[←hS.out])
    go_ret3
    exact⟨rfl,hC.out⟩
theorem dD {w0 w:World}{L:Nat}{A:Option Addr}{c:Nat}{bs:List UInt8}{p:Nat}(h:Cur w0 w L A c bs p) :
 Calls Tryz.prog 207 #[.pointer (some ⟨L,0,none⟩)] w fun e w'=>e=.returned (.tuple #[.int .i64 (bp (ae bs p):Nat),.int .i64 ((ae bs p).length:Nat)])∧Cur w0 w' L A c bs (p+(ae bs p).length):=by
 have hsm:=h.small;go_enter Tryz.func207,Tryz.ntmps207;go_wp2
 go_loopw [4,5] (fun nv mv wr=>∃k:Nat,k≤(ae bs p).length∧nv=.int .i64 (aX (((ae bs p).take k).take 5):Nat)∧mv=.int .i64 k∧Cur w0 wr L A c bs (p+k)) (fun _ mv _=>(ae bs p).length - (RowKit.intOf mv).toNat)
 case atStart=>exact⟨0,Nat.zero_le _,rfl,rfl,h⟩
 case round=>
  obtain⟨k,hk,rfl,rfl,hC⟩:=hrel;have hle:aX (((ae bs p).take k).take 5)≤99999:=by
   have h1:=fA (((ae bs p).take k).take 5) fun b hb=>dI b (List.mem_of_mem_take (List.mem_of_mem_take hb))
   have h2:10 ^ (((ae bs p).take k).take 5).length≤10 ^ 5:=Nat.pow_le_pow_right (by omega) (by rw[List.length_take];omega);omega
  replace hC:=hi_ hC;have hdl:(ae bs p).length≤1000000000:=by
   have:(ae bs p).length≤(bs.drop p).length:=(List.takeWhile_sublist _).length_le;rw[List.length_drop]at this;omega
  by_cases hlt:k<(ae bs p).length
  ·obtain⟨hp1,hp2,hp3,hp4⟩:=mf hlt
   have HT:=hi_ (pX (ae bs p) k hlt);generalize hd:(ae bs p)[k]=d at *;obtain⟨S,hS⟩:=aT (aU bs (p+k));have hS2:=hi_ (show S=(d.toNat:Int) by rw[hS.out,hp1]);have hS0:48≤S∧S≤57:=by rw[hS.out];omega
   clear hd hp1 hp2 hp3;replace hp4:=hi_ hp4;generalize aX (((ae bs p).take k).take 5)=n at *;obtain⟨N,hN⟩:=aT (n:Int);have hN0:0≤N∧N≤99999:=by rw[hN.out];omega
   rw[←hN.out];clear hle h;go_wp2_with (first
    |(go_at_call 56;(with_reducible refine (dH hC.out).mono ?_);clear hC;rintro e w1 ⟨rfl,hC⟩;replace hC:=hi_ hC;rw[←hS.out])
    |(go_at_call 60;(with_reducible refine (fd hC.out).mono ?_);clear hC;rintro e w1 ⟨rfl,hC⟩;rw[if_pos hp4.out]at hC;replace hC:=hi_ hC;rw[←hS.out]))
   ·rename_i hgt
    have e:=HT.out.1 (by omega);have h1:=hS2.out;have h2:=hN.out;refine⟨⟨k+1,by omega,by rw[e];congr 1;omega,by rfl,hC.out⟩,by simp only[RowKit.intOf];omega⟩
   ·rename_i hgt
    have e:=HT.out.2 (by omega);have h2:=hN.out;refine⟨⟨k+1,by omega,by rw[e,h2],by rfl,hC.out⟩,by simp only[RowKit.intOf];omega⟩
  ·have hk':k=(ae bs p).length:=by omega
   subst hk';rw[List.take_length]at hle⊢;have hpo:=ka bs p;obtain⟨S,hS⟩:=aT (aU bs (p+(ae bs p).length));rw[←hS.out]at hpo;clear h;rcases hpo with hpo|hpo
   ·go_wp2_with (go_at_call 56;(with_reducible refine (dH hC.out).mono ?_);clear hC;rintro e w1 ⟨rfl,hC⟩;replace hC:=hi_ hC;rw[←hS.out])
    have hv:Hid (aX ((ae bs p).take 5)<10 ^ (((ae bs p).take 5).length)):=hi_ (fA _ fun b hb=>dI b (List.mem_of_mem_take hb));rw[List.length_take]at hv
    go_loop [4,7] (fun nv iv=>∃j:Nat,(ae bs p).length≤j∧(j≤5∨j=(ae bs p).length)∧iv=.int .i64 j∧nv=.int .i64 (aX ((ae bs p).take 5)*10 ^ (j - (ae bs p).length):Nat)) (fun _ iv=>5 - (RowKit.intOf iv).toNat)
    case atStart=>exact⟨_,Nat.le_refl _,.inr rfl,rfl,by simp⟩
    case round=>
     obtain⟨j,hj1,hj2,rfl,rfl⟩:=hrel;have hjl:j≤1000000000:=by omega
     by_cases hj5:j<5
     ·have hb:aX ((ae bs p).take 5)*10 ^ (j - (ae bs p).length)≤99999:=by
       have h1:aX ((ae bs p).take 5)*10 ^ (j - (ae bs p).length)≤10 ^ (min 5 (ae bs p).length)*10 ^ (j - (ae bs p).length):=Nat.mul_le_mul_right _ (Nat.le_of_lt hv.out);rw[←Nat.pow_add]at h1;have h2:10 ^ (min 5 (ae bs p).length+(j - (ae bs p).length))≤10 ^ 4:=Nat.pow_le_pow_right (by omega) (by omega);omega
      have hnx:=hi_ (show aX ((ae bs p).take 5)*10 ^ (j+1 - (ae bs p).length)=aX ((ae bs p).take 5)*10 ^ (j - (ae bs p).length)*10 by
       rw[show j+1 - (ae bs p).length=(j - (ae bs p).length)+1 by omega,Nat.pow_succ,Nat.mul_assoc])
      generalize aX ((ae bs p).take 5)*10 ^ (j - (ae bs p).length)=m at *;obtain⟨M,hM⟩:=aT (m:Int);have hM0:0≤M∧M≤99999:=by rw[hM.out];omega
      rw[←hM.out];clear hb hle hj2;go_wp2
      refine⟨⟨j+1,by omega,.inl (by omega),by rfl,by rw[hnx.out];congr 1;have:=hM.out;omega⟩,by simp only[RowKit.intOf];omega⟩
     ·have hf:=hi_ (show aX ((ae bs p).take 5)*10 ^ (j - (ae bs p).length)=bp (ae bs p) by
       unfold bp;rw[show j - (ae bs p).length=5 - (ae bs p).length by omega])
      generalize aX ((ae bs p).take 5)*10 ^ (j - (ae bs p).length)=m at *;obtain⟨M,hM⟩:=aT (m:Int);rw[←hM.out];clear hle hj2 hj1;go_wp2
      go_ret2
      exact⟨by rw[←hf.out,←hM.out];rfl,hC.out⟩
   ·go_wp2_with (go_at_call 56;(with_reducible refine (dH hC.out).mono ?_);clear hC;rintro e w1 ⟨rfl,hC⟩;replace hC:=hi_ hC;rw[←hS.out])
    have hv:Hid (aX ((ae bs p).take 5)<10 ^ (((ae bs p).take 5).length)):=hi_ (fA _ fun b hb=>dI b (List.mem_of_mem_take hb));rw[List.length_take]at hv
    go_loop [4,7] (fun nv iv=>∃j:Nat,(ae bs p).length≤j∧(j≤5∨j=(ae bs p).length)∧iv=.int .i64 j∧nv=.int .i64 (aX ((ae bs p).take 5)*10 ^ (j - (ae bs p).length):Nat)) (fun _ iv=>5 - (RowKit.intOf iv).toNat)
    case atStart=>exact⟨_,Nat.le_refl _,.inr rfl,rfl,by simp⟩
    case round=>
     obtain⟨j,hj1,hj2,rfl,rfl⟩:=hrel;have hjl:j≤1000000000:=by omega
     by_cases hj5:j<5
     ·have hb:aX ((ae bs p).take 5)*10 ^ (j - (ae bs p).length)≤99999:=by
       have h1:aX ((ae bs p).take 5)*10 ^ (j - (ae bs p).length)≤10 ^ (min 5 (ae bs p).length)*10 ^ (j - (ae bs p).length):=Nat.mul_le_mul_right _ (Nat.le_of_lt hv.out);rw[←Nat.pow_add]at h1;have h2:10 ^ (min 5 (ae bs p).length+(j - (ae bs p).length))≤10 ^ 4:=Nat.pow_le_pow_right (by omega) (by omega);omega
      have hnx:=hi_ (show aX ((ae bs p).take 5)*10 ^ (j+1 - (ae bs p).length)=aX ((ae bs p).take 5)*10 ^ (j - (ae bs p).length)*10 by
       rw[show j+1 - (ae bs p).length=(j - (ae bs p).length)+1 by omega,Nat.pow_succ,Nat.mul_assoc])
      generalize aX ((ae bs p).take 5)*10 ^ (j - (ae bs p).length)=m at *;obtain⟨M,hM⟩:=aT (m:Int);have hM0:0≤M∧M≤99999:=by rw[hM.out];omega
      rw[←hM.out];clear hb hle hj2;go_wp2
      refine⟨⟨j+1,by omega,.inl (by omega),by rfl,by rw[hnx.out];congr 1;have:=hM.out;omega⟩,by simp only[RowKit.intOf];omega⟩
     ·have hf:=hi_ (show aX ((ae bs p).take 5)*10 ^ (j - (ae bs p).length)=bp (ae bs p) by
       unfold bp;rw[show j - (ae bs p).length=5 - (ae bs p).length by omega])
      generalize aX ((ae bs p).take 5)*10 ^ (j - (ae bs p).length)=m at *;obtain⟨M,hM⟩:=aT (m:Int);rw[←hM.out];clear hle hj2 hj1;go_wp2
      go_ret2
      exact⟨by rw[←hf.out,←hM.out];rfl,hC.out⟩
theorem oa {w:World}{A:Option Addr}{c:Nat}{bs:List UInt8}(h:Byt w A bs) (hcap:bs.length≤c) (hs:bs.length≤1000000000) :
 Calls Tryz.prog 50 #[.slice A bs.length c] w fun e w'=>e=.returned (.pointer (some ⟨w.heap.size,0,none⟩))∧Cur w w' w.heap.size A bs.length bs 0:=by
 have H:=hi_ h;clear h;go_enter Tryz.func50,Tryz.ntmps50;go_wp2
 go_ret
 refine⟨rfl,⟨fun h0 x hx=>?_,Save.of_below ((Below.refl _ _).alloc (Nat.le_refl _) _),?_,?_,World.frozen?_alloc_new _ _ _ _,H.out,Nat.zero_le _,hs⟩⟩
 ·obtain⟨g,o,e,hc⟩:=H.out.2 h0
  rw[hx]at e;injection e with e;have:=ac (hc 0 h0);rw[e];show g≠w.heap.size
  have:g<w.heap.size:=this;omega
 ·exact bP (i:=0)
 ·have:=bP (w:=w) (vs:=#[.slice A bs.length bs.length,.int .i64 0]) (e:=93) (i:=1)
  rw[Nat.zero_add]at this;exact this
theorem ou {w:World}{A:Option Addr}{c:Nat}{bs:List UInt8}(h:Byt w A bs) (hcap:bs.length≤c) (hs:bs.length≤1000000000) :
 Calls Tryz.prog 187 #[.slice A bs.length c] w fun e w'=>e=.returned (.tuple #[.int .i64 (ao bs).1,.bool (ao bs).2.1,.int .i64 (ao bs).2.2])∧Below w.heap.size w w':=by
 have hnew:=oa h hcap hs;by_cases h43:bs[0]?=some 43
 ·have g43:=hi_ h43
  by_cases hdot:bs[1+(ae bs 1).length]?=some 46
  ·replace hdot:=hi_ hdot
   have hsg:sgn bs=(1,false):=by unfold sgn;simp[h43]
   have hR:ao bs=aW bs 1 false:=by rw[bX,hsg]
   have hR2:=hi_ (show ao bs=if 1+(ae bs 1).length+1+(ae bs (1+(ae bs 1).length+1)).length<bs.length∨(ae bs 1).length+(ae bs (1+(ae bs 1).length+1)).length=0 then (0,false,4) else if (aA (ae bs 1)).2 then (bh false*(((aA (ae bs 1)).1:Int)*100000+(bp (ae bs (1+(ae bs 1).length+1)):Int)),false,0) else (0,false,5) by rw[hR];unfold aW;rw[if_pos hdot.out];(try simp only[Nat.zero_add]));have hfl:=eo bs (1+(ae bs 1).length+1);have hml:=dz bs (1+(ae bs 1).length+1);have hnl:=cy (ae bs 1) (0,true) (by omega);change (aA (ae bs 1)).1≤2147483647 at hnl;have hdl:=dz bs 1;clear hR hsg h hcap;generalize ao bs=R at *;go_enter Tryz.func187,Tryz.ntmps187;go_wp2_with (first
    |(go_at_call 50;(with_reducible refine hnew.mono ?_);clear hnew;rintro e w1 ⟨rfl,hC⟩;replace hC:=hi_ hC)
    |(go_at_call 54;(with_reducible refine (bt (ch:=43) hC.out (Nat.le_refl _) g43.out).mono ?_);clear hC;rintro e w2 ⟨rfl,hC⟩;replace hC:=hi_ hC)
    |(go_at_call 54;(with_reducible refine (bt (ch:=46) hC.out (Nat.le_refl _) hdot.out).mono ?_);clear hC;rintro e w2 ⟨rfl,hC⟩;replace hC:=hi_ hC)
    |(go_at_call 206;(with_reducible refine (dE hC.out).mono ?_);clear hC;rintro e w2 ⟨rfl,hC⟩;replace hC:=hi_ hC)
    |(go_at_call 207;(with_reducible refine (dD hC.out).mono ?_);clear hC;rintro e w2 ⟨rfl,hC⟩;replace hC:=hi_ hC)
    |(go_at_call 58;(with_reducible refine (bd hC.out).mono ?_);rintro e w2 ⟨rfl,rfl⟩))
   ·rename _∨_=>hd
    go_ret3
    refine⟨?_,hC.out.bel.all⟩;have hf:1+(ae bs 1).length+1+(ae bs (1+(ae bs 1).length+1)).length<bs.length∨(ae bs 1).length+(ae bs (1+(ae bs 1).length+1)).length=0:=by
     rcases hd with hd|hd
     ·omega
     ·have hd2:=eq_of_beq hd;omega
    rw[hR2.out,if_pos hf];rfl
   ·rename _∧_=>hd
    rename (!_)=true=>ho
    go_ret3
    refine⟨?_,hC.out.bel.all⟩;have hd2:=beq_eq_false_iff_ne.1 hd.2;have hf:¬(1+(ae bs 1).length+1+(ae bs (1+(ae bs 1).length+1)).length<bs.length∨(ae bs 1).length+(ae bs (1+(ae bs 1).length+1)).length=0):=by omega
    have ho2:¬(aA (ae bs 1)).2=true:=by simpa using ho
    rw[hR2.out,if_neg hf,if_neg ho2];rfl
   ·rename _∧_=>hd
    rename (!_)=false=>ho
    go_ret3
    refine⟨?_,hC.out.bel.all⟩;have hd2:=beq_eq_false_iff_ne.1 hd.2;have hf:¬(1+(ae bs 1).length+1+(ae bs (1+(ae bs 1).length+1)).length<bs.length∨(ae bs 1).length+(ae bs (1+(ae bs 1).length+1)).length=0):=by omega
    have ho2:(aA (ae bs 1)).2=true:=by simpa using ho
    rw[hR2.out,if_neg hf,if_pos ho2];simp[bh]
   ·go_ret3
    refine⟨?_,hC.out.bel.all⟩;have hf:1+(ae bs 1).length+1+(ae bs (1+(ae bs 1).length+1)).length<bs.length∨(ae bs 1).length+(ae bs (1+(ae bs 1).length+1)).length=0:=by omega
    rw[hR2.out,if_pos hf];rfl
  ·replace hdot:=hi_ hdot
   have hsg:sgn bs=(1,false):=by unfold sgn;simp[h43]
   have hR:ao bs=aW bs 1 false:=by rw[bX,hsg]
   have hR2:=hi_ (show ao bs=if 1+(ae bs 1).length<bs.length∨(ae bs 1).length=0 then (0,false,4) else if (aA (ae bs 1)).2 then (bh false*((aA (ae bs 1)).1:Int),true,0) else (0,false,5) by rw[hR];unfold aW;rw[if_neg hdot.out];(try simp only[Nat.zero_add]));have hnl:=cy (ae bs 1) (0,true) (by omega);change (aA (ae bs 1)).1≤2147483647 at hnl;have hdl:=dz bs 1;clear hR hsg h hcap;generalize ao bs=R at *;go_enter Tryz.func187,Tryz.ntmps187;go_wp2_with (first
    |(go_at_call 50;(with_reducible refine hnew.mono ?_);clear hnew;rintro e w1 ⟨rfl,hC⟩;replace hC:=hi_ hC)
    |(go_at_call 54;(with_reducible refine (bt (ch:=43) hC.out (Nat.le_refl _) g43.out).mono ?_);clear hC;rintro e w2 ⟨rfl,hC⟩;replace hC:=hi_ hC)
    |(go_at_call 54;(with_reducible refine (bg (ch:=46) hC.out (Nat.le_refl _) hdot.out).mono ?_);clear hC;rintro e w2 ⟨rfl,hC⟩;replace hC:=hi_ hC)
    |(go_at_call 206;(with_reducible refine (dE hC.out).mono ?_);clear hC;rintro e w2 ⟨rfl,hC⟩;replace hC:=hi_ hC)
    |(go_at_call 207;(with_reducible refine (dD hC.out).mono ?_);clear hC;rintro e w2 ⟨rfl,hC⟩;replace hC:=hi_ hC)
    |(go_at_call 58;(with_reducible refine (bd hC.out).mono ?_);rintro e w2 ⟨rfl,rfl⟩))
   ·rename _∨_=>hd
    go_ret3
    refine⟨?_,hC.out.bel.all⟩;have hf:1+(ae bs 1).length<bs.length∨(ae bs 1).length=0:=by
     rcases hd with hd|hd
     ·omega
     ·have hd2:=eq_of_beq hd;omega
    rw[hR2.out,if_pos hf];rfl
   ·rename _∧_=>hd
    rename (!_)=true=>ho
    go_ret3
    refine⟨?_,hC.out.bel.all⟩;have hd2:=beq_eq_false_iff_ne.1 hd.2;have hf:¬(1+(ae bs 1).length<bs.length∨(ae bs 1).length=0):=by omega
    have ho2:¬(aA (ae bs 1)).2=true:=by simpa using ho
    rw[hR2.out,if_neg hf,if_neg ho2];rfl
   ·rename _∧_=>hd
    rename (!_)=false=>ho
    go_ret3
    refine⟨?_,hC.out.bel.all⟩;have hd2:=beq_eq_false_iff_ne.1 hd.2;have hf:¬(1+(ae bs 1).length<bs.length∨(ae bs 1).length=0):=by omega
    have ho2:(aA (ae bs 1)).2=true:=by simpa using ho
    rw[hR2.out,if_neg hf,if_pos ho2];simp[bh]
   ·go_ret3
    refine⟨?_,hC.out.bel.all⟩;have hf:1+(ae bs 1).length<bs.length∨(ae bs 1).length=0:=by omega
    rw[hR2.out,if_pos hf];rfl
 ·have g43:=hi_ h43
  by_cases h45:bs[0]?=some 45
  ·have g45:=hi_ h45
   by_cases hdot:bs[1+(ae bs 1).length]?=some 46
   ·replace hdot:=hi_ hdot
    have hsg:sgn bs=(1,true):=by unfold sgn;simp[h43,h45]
    have hR:ao bs=aW bs 1 true:=by rw[bX,hsg]
    have hR2:=hi_ (show ao bs=if 1+(ae bs 1).length+1+(ae bs (1+(ae bs 1).length+1)).length<bs.length∨(ae bs 1).length+(ae bs (1+(ae bs 1).length+1)).length=0 then (0,false,4) else if (aA (ae bs 1)).2 then (bh true*(((aA (ae bs 1)).1:Int)*100000+(bp (ae bs (1+(ae bs 1).length+1)):Int)),false,0) else (0,false,5) by rw[hR];unfold aW;rw[if_pos hdot.out];(try simp only[Nat.zero_add]));have hfl:=eo bs (1+(ae bs 1).length+1);have hml:=dz bs (1+(ae bs 1).length+1);have hnl:=cy (ae bs 1) (0,true) (by omega);change (aA (ae bs 1)).1≤2147483647 at hnl;have hdl:=dz bs 1;clear hR hsg h hcap;generalize ao bs=R at *;go_enter Tryz.func187,Tryz.ntmps187;go_wp2_with (first
     |(go_at_call 50;(with_reducible refine hnew.mono ?_);clear hnew;rintro e w1 ⟨rfl,hC⟩;replace hC:=hi_ hC)
     |(go_at_call 54;(with_reducible refine (bg (ch:=43) hC.out (Nat.le_refl _) g43.out).mono ?_);clear hC;rintro e w2 ⟨rfl,hC⟩;replace hC:=hi_ hC)
     |(go_at_call 54;(with_reducible refine (bt (ch:=45) hC.out (Nat.le_refl _) g45.out).mono ?_);clear hC;rintro e w2 ⟨rfl,hC⟩;replace hC:=hi_ hC)
     |(go_at_call 54;(with_reducible refine (bt (ch:=46) hC.out (Nat.le_refl _) hdot.out).mono ?_);clear hC;rintro e w2 ⟨rfl,hC⟩;replace hC:=hi_ hC)
     |(go_at_call 206;(with_reducible refine (dE hC.out).mono ?_);clear hC;rintro e w2 ⟨rfl,hC⟩;replace hC:=hi_ hC)
     |(go_at_call 207;(with_reducible refine (dD hC.out).mono ?_);clear hC;rintro e w2 ⟨rfl,hC⟩;replace hC:=hi_ hC)
     |(go_at_call 58;(with_reducible refine (bd hC.out).mono ?_);rintro e w2 ⟨rfl,rfl⟩))
    ·rename _∨_=>hd
     go_ret3
     refine⟨?_,hC.out.bel.all⟩;have hf:1+(ae bs 1).length+1+(ae bs (1+(ae bs 1).length+1)).length<bs.length∨(ae bs 1).length+(ae bs (1+(ae bs 1).length+1)).length=0:=by
      rcases hd with hd|hd
      ·omega
      ·have hd2:=eq_of_beq hd;omega
     rw[hR2.out,if_pos hf];rfl
    ·rename _∧_=>hd
     rename (!_)=true=>ho
     go_ret3
     refine⟨?_,hC.out.bel.all⟩;have hd2:=beq_eq_false_iff_ne.1 hd.2;have hf:¬(1+(ae bs 1).length+1+(ae bs (1+(ae bs 1).length+1)).length<bs.length∨(ae bs 1).length+(ae bs (1+(ae bs 1).length+1)).length=0):=by omega
     have ho2:¬(aA (ae bs 1)).2=true:=by simpa using ho
     rw[hR2.out,if_neg hf,if_neg ho2];rfl
    ·rename _∧_=>hd
     rename (!_)=false=>ho
     go_ret3
     refine⟨?_,hC.out.bel.all⟩;have hd2:=beq_eq_false_iff_ne.1 hd.2;have hf:¬(1+(ae bs 1).length+1+(ae bs (1+(ae bs 1).length+1)).length<bs.length∨(ae bs 1).length+(ae bs (1+(ae bs 1).length+1)).length=0):=by omega
     have ho2:(aA (ae bs 1)).2=true:=by simpa using ho
     rw[hR2.out,if_neg hf,if_pos ho2];simp[bh]
    ·go_ret3
     refine⟨?_,hC.out.bel.all⟩;have hf:1+(ae bs 1).length+1+(ae bs (1+(ae bs 1).length+1)).length<bs.length∨(ae bs 1).length+(ae bs (1+(ae bs 1).length+1)).length=0:=by omega
     rw[hR2.out,if_pos hf];rfl
   ·replace hdot:=hi_ hdot
    have hsg:sgn bs=(1,true):=by unfold sgn;simp[h43,h45]
    have hR:ao bs=aW bs 1 true:=by rw[bX,hsg]
    have hR2:=hi_ (show ao bs=if 1+(ae bs 1).length<bs.length∨(ae bs 1).length=0 then (0,false,4) else if (aA (ae bs 1)).2 then (bh true*((aA (ae bs 1)).1:Int),true,0) else (0,false,5) by rw[hR];unfold aW;rw[if_neg hdot.out];(try simp only[Nat.zero_add]));have hnl:=cy (ae bs 1) (0,true) (by omega);change (aA (ae bs 1)).1≤2147483647 at hnl;have hdl:=dz bs 1;clear hR hsg h hcap;generalize ao bs=R at *;go_enter Tryz.func187,Tryz.ntmps187;go_wp2_with (first
     |(go_at_call 50;(with_reducible refine hnew.mono ?_);clear hnew;rintro e w1 ⟨rfl,hC⟩;replace hC:=hi_ hC)
     |(go_at_call 54;(with_reducible refine (bg (ch:=43) hC.out (Nat.le_refl _) g43.out).mono ?_);clear hC;rintro e w2 ⟨rfl,hC⟩;replace hC:=hi_ hC)
     |(go_at_call 54;(with_reducible refine (bt (ch:=45) hC.out (Nat.le_refl _) g45.out).mono ?_);clear hC;rintro e w2 ⟨rfl,hC⟩;replace hC:=hi_ hC)
     |(go_at_call 54;(with_reducible refine (bg (ch:=46) hC.out (Nat.le_refl _) hdot.out).mono ?_);clear hC;rintro e w2 ⟨rfl,hC⟩;replace hC:=hi_ hC)
     |(go_at_call 206;(with_reducible refine (dE hC.out).mono ?_);clear hC;rintro e w2 ⟨rfl,hC⟩;replace hC:=hi_ hC)
     |(go_at_call 207;(with_reducible refine (dD hC.out).mono ?_);clear hC;rintro e w2 ⟨rfl,hC⟩;replace hC:=hi_ hC)
     |(go_at_call 58;(with_reducible refine (bd hC.out).mono ?_);rintro e w2 ⟨rfl,rfl⟩))
    ·rename _∨_=>hd
     go_ret3
     refine⟨?_,hC.out.bel.all⟩;have hf:1+(ae bs 1).length<bs.length∨(ae bs 1).length=0:=by
      rcases hd with hd|hd
      ·omega
      ·have hd2:=eq_of_beq hd;omega
     rw[hR2.out,if_pos hf];rfl
    ·rename _∧_=>hd
     rename (!_)=true=>ho
     go_ret3
     refine⟨?_,hC.out.bel.all⟩;have hd2:=beq_eq_false_iff_ne.1 hd.2;have hf:¬(1+(ae bs 1).length<bs.length∨(ae bs 1).length=0):=by omega
     have ho2:¬(aA (ae bs 1)).2=true:=by simpa using ho
     rw[hR2.out,if_neg hf,if_neg ho2];rfl
    ·rename _∧_=>hd
     rename (!_)=false=>ho
     go_ret3
     refine⟨?_,hC.out.bel.all⟩;have hd2:=beq_eq_false_iff_ne.1 hd.2;have hf:¬(1+(ae bs 1).length<bs.length∨(ae bs 1).length=0):=by omega
     have ho2:(aA (ae bs 1)).2=true:=by simpa using ho
     rw[hR2.out,if_neg hf,if_pos ho2];simp[bh]
    ·go_ret3
     refine⟨?_,hC.out.bel.all⟩;have hf:1+(ae bs 1).length<bs.length∨(ae bs 1).length=0:=by omega
     rw[hR2.out,if_pos hf];rfl
  ·have g45:=hi_ h45
   by_cases hdot:bs[0+(ae bs 0).length]?=some 46
   ·replace hdot:=hi_ hdot
    have hsg:sgn bs=(0,false):=by unfold sgn;simp[h43,h45]
    have hR:ao bs=aW bs 0 false:=by rw[bX,hsg]
    have hR2:=hi_ (show ao bs=if (ae bs 0).length+1+(ae bs ((ae bs 0).length+1)).length<bs.length∨(ae bs 0).length+(ae bs ((ae bs 0).length+1)).length=0 then (0,false,4) else if (aA (ae bs 0)).2 then (bh false*(((aA (ae bs 0)).1:Int)*100000+(bp (ae bs ((ae bs 0).length+1)):Int)),false,0) else (0,false,5) by rw[hR];unfold aW;rw[if_pos hdot.out];(try simp only[Nat.zero_add]));have hfl:=eo bs ((ae bs 0).length+1);have hml:=dz bs ((ae bs 0).length+1);have hnl:=cy (ae bs 0) (0,true) (by omega);change (aA (ae bs 0)).1≤2147483647 at hnl;have hdl:=dz bs 0;clear hR hsg h hcap;generalize ao bs=R at *;go_enter Tryz.func187,Tryz.ntmps187;go_wp2_with (first
     |(go_at_call 50;(with_reducible refine hnew.mono ?_);clear hnew;rintro e w1 ⟨rfl,hC⟩;replace hC:=hi_ hC)
     |(go_at_call 54;(with_reducible refine (bg (ch:=43) hC.out (Nat.le_refl _) g43.out).mono ?_);clear hC;rintro e w2 ⟨rfl,hC⟩;replace hC:=hi_ hC)
     |(go_at_call 54;(with_reducible refine (bg (ch:=45) hC.out (Nat.le_refl _) g45.out).mono ?_);clear hC;rintro e w2 ⟨rfl,hC⟩;replace hC:=hi_ hC)
     |(go_at_call 54;(with_reducible refine (bt (ch:=46) hC.out (Nat.le_refl _) hdot.out).mono ?_);clear hC;rintro e w2 ⟨rfl,hC⟩;replace hC:=hi_ hC)
     |(go_at_call 206;(with_reducible refine (dE hC.out).mono ?_);clear hC;rintro e w2 ⟨rfl,hC⟩;replace hC:=hi_ hC)
     |(go_at_call 207;(with_reducible refine (dD hC.out).mono ?_);clear hC;rintro e w2 ⟨rfl,hC⟩;replace hC:=hi_ hC)
     |(go_at_call 58;(with_reducible refine (bd hC.out).mono ?_);rintro e w2 ⟨rfl,rfl⟩))
    ·rename _∨_=>hd
     go_ret3
     refine⟨?_,hC.out.bel.all⟩;have hf:(ae bs 0).length+1+(ae bs ((ae bs 0).length+1)).length<bs.length∨(ae bs 0).length+(ae bs ((ae bs 0).length+1)).length=0:=by
      rcases hd with hd|hd
      ·omega
      ·have hd2:=eq_of_beq hd;omega
     rw[hR2.out,if_pos hf];rfl
    ·rename _∧_=>hd
     rename (!_)=true=>ho
     go_ret3
     refine⟨?_,hC.out.bel.all⟩;have hd2:=beq_eq_false_iff_ne.1 hd.2;have hf:¬((ae bs 0).length+1+(ae bs ((ae bs 0).length+1)).length<bs.length∨(ae bs 0).length+(ae bs ((ae bs 0).length+1)).length=0):=by omega
     have ho2:¬(aA (ae bs 0)).2=true:=by simpa using ho
     rw[hR2.out,if_neg hf,if_neg ho2];rfl
    ·rename _∧_=>hd
     rename (!_)=false=>ho
     go_ret3
     refine⟨?_,hC.out.bel.all⟩;have hd2:=beq_eq_false_iff_ne.1 hd.2;have hf:¬((ae bs 0).length+1+(ae bs ((ae bs 0).length+1)).length<bs.length∨(ae bs 0).length+(ae bs ((ae bs 0).length+1)).length=0):=by omega
     have ho2:(aA (ae bs 0)).2=true:=by simpa using ho
     rw[hR2.out,if_neg hf,if_pos ho2];simp[bh]
    ·go_ret3
     refine⟨?_,hC.out.bel.all⟩;have hf:(ae bs 0).length+1+(ae bs ((ae bs 0).length+1)).length<bs.length∨(ae bs 0).length+(ae bs ((ae bs 0).length+1)).length=0:=by omega
     rw[hR2.out,if_pos hf];rfl
   ·replace hdot:=hi_ hdot
    have hsg:sgn bs=(0,false):=by unfold sgn;simp[h43,h45]
    have hR:ao bs=aW bs 0 false:=by rw[bX,hsg]
    have hR2:=hi_ (show ao bs=if (ae bs 0).length<bs.length∨(ae bs 0).length=0 then (0,false,4) else if (aA (ae bs 0)).2 then (bh false*((aA (ae bs 0)).1:Int),true,0) else (0,false,5) by rw[hR];unfold aW;rw[if_neg hdot.out];(try simp only[Nat.zero_add]));have hnl:=cy (ae bs 0) (0,true) (by omega);change (aA (ae bs 0)).1≤2147483647 at hnl;have hdl:=dz bs 0;clear hR hsg h hcap;generalize ao bs=R at *;go_enter Tryz.func187,Tryz.ntmps187;go_wp2_with (first
     |(go_at_call 50;(with_reducible refine hnew.mono ?_);clear hnew;rintro e w1 ⟨rfl,hC⟩;replace hC:=hi_ hC)
     |(go_at_call 54;(with_reducible refine (bg (ch:=43) hC.out (Nat.le_refl _) g43.out).mono ?_);clear hC;rintro e w2 ⟨rfl,hC⟩;replace hC:=hi_ hC)
     |(go_at_call 54;(with_reducible refine (bg (ch:=45) hC.out (Nat.le_refl _) g45.out).mono ?_);clear hC;rintro e w2 ⟨rfl,hC⟩;replace hC:=hi_ hC)
     |(go_at_call 54;(with_reducible refine (bg (ch:=46) hC.out (Nat.le_refl _) hdot.out).mono ?_);clear hC;rintro e w2 ⟨rfl,hC⟩;replace hC:=hi_ hC)
     |(go_at_call 206;(with_reducible refine (dE hC.out).mono ?_);clear hC;rintro e w2 ⟨rfl,hC⟩;replace hC:=hi_ hC)
     |(go_at_call 207;(with_reducible refine (dD hC.out).mono ?_);clear hC;rintro e w2 ⟨rfl,hC⟩;replace hC:=hi_ hC)
     |(go_at_call 58;(with_reducible refine (bd hC.out).mono ?_);rintro e w2 ⟨rfl,rfl⟩))
    ·rename _∨_=>hd
     go_ret3
     refine⟨?_,hC.out.bel.all⟩;have hf:(ae bs 0).length<bs.length∨(ae bs 0).length=0:=by
      rcases hd with hd|hd
      ·omega
      ·have hd2:=eq_of_beq hd;omega
     rw[hR2.out,if_pos hf];rfl
    ·rename _∧_=>hd
     rename (!_)=true=>ho
     go_ret3
     refine⟨?_,hC.out.bel.all⟩;have hd2:=beq_eq_false_iff_ne.1 hd.2;have hf:¬((ae bs 0).length<bs.length∨(ae bs 0).length=0):=by omega
     have ho2:¬(aA (ae bs 0)).2=true:=by simpa using ho
     rw[hR2.out,if_neg hf,if_neg ho2];rfl
    ·rename _∧_=>hd
     rename (!_)=false=>ho
     go_ret3
     refine⟨?_,hC.out.bel.all⟩;have hd2:=beq_eq_false_iff_ne.1 hd.2;have hf:¬((ae bs 0).length<bs.length∨(ae bs 0).length=0):=by omega
     have ho2:(aA (ae bs 0)).2=true:=by simpa using ho
     rw[hR2.out,if_neg hf,if_pos ho2];simp[bh]
    ·go_ret3
     refine⟨?_,hC.out.bel.all⟩;have hf:(ae bs 0).length<bs.length∨(ae bs 0).length=0:=by omega
     rw[hR2.out,if_pos hf];rfl
end
theorem Own.out2L {B:Nat}{w:World}{v:Value}{bs:List UInt8}(h:Own B w v bs) (hm:bs.length≤maxLen):∃A c,v=.slice A bs.length c∧Byt w A bs∧(A=none→c=0)∧bs.length≤c:=by
 obtain⟨A,c,e,h1,h2⟩:=h.out hm;refine⟨A,c,e,h1,h2,?_⟩;rcases h.row.2 with ⟨e1,hn⟩|⟨g,cap,cur,e1,_,_,hnc,_⟩
 ·rw[e]at e1;injection e1 with e1 e2 e3;omega
 ·rw[e]at e1;injection e1 with e1 e2 e3;omega
theorem bf {w:World}{R:Nat}{t:TypeId}{z0 z1 z2 z3 u0 u1 u2 u3:Value}(hR:Blk w R t #[z0,z1,z2,z3]) {Wf:World}
 (hWf:Wf=(((w.setCell ⟨R,0,none⟩ u0).setCell ⟨R,1,none⟩ u1).setCell ⟨R,2,none⟩ u2).setCell ⟨R,3,none⟩ u3) :
 Blk Wf R t #[u0,u1,u2,u3]∧w.grownBy Wf (some R):=by
 have g:∀(i:Nat) (u:Value) (v:World),v.grownBy (v.setCell ⟨R,i,none⟩ u) (some R):=fun i u v=>aO v R i u
 subst hWf;exact⟨(((hR.set_ 0 u0).set_ 1 u1).set_ 2 u2).set_ 3 u3,(((g 0 u0 w).trans (g 1 u1 _)).trans (g 2 u2 _)).trans (g 3 u3 _)⟩
section
variable {L R:Nat}{A:Option Addr}{c:Nat}{bs:Bs}{M V:Value}{w w' w0:World}{r r':Bs}{m:Nat}{out:Bs}
theorem LS.grownL {T:Nat}{W':World}(h:LS L R A c bs M V w r) (hg:w.grownBy W' (some T)) (hL:L≠T) (hR:R≠T) (hA:0<bs.length→∀x,A=some x→x.block≠T):LS L R A c bs M V W' r:=by
 have hc:=h.cur;have k:=hg.block L h.L_lt (by intro e;injection e with e;exact hL e);have kr:=hg.block R h.R_lt (by intro e;injection e with e;exact hR e);refine⟨⟨hc.ne,Save.refl _ _,(World.cell?_of_block (a:=⟨L,0,none⟩) k).trans hc.cb,(World.cell?_of_block (a:=⟨L,1,none⟩) k).trans hc.ca,?_,⟨hc.byt.1,fun h0=>?_⟩,hc.le,hc.small⟩,kr.trans h.rdr,h.ne,h.neA,h.cap,h.suf⟩
 ·have:=hc.fr
  unfold World.frozen? at this⊢;rw[k];exact this
 ·obtain⟨g,o,e,hcc⟩:=hc.byt.2 h0
  refine⟨g,o,e,fun i hi=>?_⟩;have hlt:=ac (hcc i hi);exact (World.cell?_of_block (a:=⟨g,o+i,none⟩) (hg.block g hlt (by intro e2;injection e2 with e2;exact hA h0 _ e e2))).trans (hcc i hi)
theorem Fr.grownL {T:Nat}{a b b':World}(h:Fr L R a b) (hg:b.grownBy b' (some T)) (hT:a.heap.size≤T):Fr L R a b':=
 ⟨hg.os.trans h.os,hg.tape.trans h.tape,hg.output.trans h.output,Nat.le_trans h.size hg.size,fun k hk h1 h2=>(hg.block k (Nat.lt_of_lt_of_le hk h.size) (by intro e;injection e with e;omega)).trans (h.block k hk h1 h2)⟩
theorem Fr.blk {g:Nat}{a b:World}{t:TypeId}{cs:Array Value}(h:Fr L R a b) (h1:g≠L) (h2:g≠R) (k:Blk a g t cs):Blk b g t cs:=(h.block g k.lt h1 h2).trans k
def TokL (L R:Nat) (A:Option Addr) (c:Nat) (bs:Bs) (w:World) (res:Res Tok) (e:Ending) (w':World):Prop:=match res with
 | .ok k u=>∃a2 c2,e=.returned (.tuple #[.agg #[.int .i64 k.k,.int .i64 0,.int .i64 k.n,.slice a2 k.b.length c2],.int .i64 0])∧Own w.heap.size w' (.slice a2 k.b.length c2) k.b∧(∃M V,LS L R A c bs M V w' u)∧Fr L R w w'
 | .err n _=>n≠0∧(∃k1 n1 a2 m2 c2,e=.returned (.tuple #[.agg #[.int .i64 k1,.int .i64 0,.int .i64 n1,.slice a2 m2 c2],.int .i64 n]))∧(∃M V u,LS L R A c bs M V w' u)∧Fr L R w w'
theorem ek {T:Nat}{W Wf:World}{z0 z1 z2 z3 u0 u1 u2 u3:Value}(hT:w.heap.size=T) (hL:L<T) (hR:R<T) (hA:0<bs.length→∀x,A=some x→x.block<T) (hB:Blk W T 108 #[z0,z1,z2,z3]) (h:LS L R A c bs M V W r) (hF:Fr L R w W)
 (hWf:Wf=(((W.setCell ⟨T,0,none⟩ u0).setCell ⟨T,1,none⟩ u1).setCell ⟨T,2,none⟩ u2).setCell ⟨T,3,none⟩ u3) :
 Blk Wf T 108 #[u0,u1,u2,u3]∧LS L R A c bs M V Wf r∧Fr L R w Wf∧W.grownBy Wf (some T):=by
 obtain⟨h1,h2⟩:=bf hB hWf;exact⟨h1,h.grownL h2 (by omega) (by omega) (fun h0 x hx=>by have:=hA h0 x hx;omega),hF.grownL h2 (by omega),h2⟩
theorem ld (l:Bs):(ao l).2.2=0∨(ao l).2.2=4∨(ao l).2.2=5:=by
 unfold ao
 repeat' split
 all_goals simp
theorem mR (h0:eR r=true) (W:World) (h:LS L R A c bs M V W r):Calls Tryz.prog 154 #[.pointer (some ⟨R,0,none⟩)] W (TokL L R A c bs W (dS r)):=by
 obtain⟨W1,hW1,b1,hT1⟩:=ak W 108 #[.int .i64 0,.int .i64 0,.int .i64 0,.slice none 0 0];have z1:W1.heap.size=W.heap.size+1:=by rw[hW1];exact World.size_alloc _ _
 have hL1:=h.belowW b1;have hLT:=h.L_lt;have hRT:=h.R_lt;have hAT:=h.a_lt;have crun:=hi_ fun W h=>kY (L:=L) (R:=R) (A:=A) (c:=c) (bs:=bs) (M:=M) (V:=V) h0 W h
 have hRl:(aN r).length≤1000000000:=by
  have h1:=kj r;have h2:=aB h.suf;have h3:=h.cur.small;omega
 have hRml:(aN r).length≤maxLen:=by unfold maxLen;omega
 have hnz:(ao (aN r)).2.2=0∨(ao (aN r)).2.2=4∨(ao (aN r)).2.2=5:=ld _;unfold dS;obtain⟨Q,hQ⟩:∃Q,Q=aN r:=⟨_,rfl⟩;rw[←hQ]at crun hRl hRml hnz⊢;have cps:=hi_ fun (w:World) (A:Option Addr) (c:Nat) (h:Byt w A Q) (hc:Q.length≤c)=>ou h hc hRl
 obtain⟨n,wh,er,hP⟩:∃n wh er,ao Q=(n,wh,er):=⟨_,_,_,rfl⟩;rw[hP]at cps hnz⊢;simp only[]at cps hnz⊢;obtain⟨K,hK⟩:∃K:Res Tok,K=if er=0 then .ok ⟨if wh then 1 else 2,n,[]⟩ (r.drop Q.length) else .err er r:=⟨_,rfl⟩
 rw[←hK];refine h9_ hK hQ hP hRl hRml hnz hL1 hT1 b1 ?_;clear hK hQ hP hRl hRml hnz hL1 hT1 b1;intro hK hQ hP hRl hRml hnz hL1 hT1 b1;refine h3_ z1 hAT h ?_;clear z1 hAT h;intro z1 hAT h;clear h0;cases wh
 ·go_enter Tryz.func154,Tryz.ntmps154
  go_wp2_with (first
   |(go_at_call 155;rw[←hW1];(with_reducible refine (crun.out _ hL1.out).mono ?_);rintro e w2 ⟨a2,m2,c2,rfl,hO,hL2,hS2⟩;obtain⟨A9,c9,e9,hby,_,hcap⟩:=hO.out2L hRml.out;injection e9 with i1 i2 i3;subst i1 i2 i3;have hT2:=hi_ (hS2.blk (by omega) hT1.out);replace hL2:=hi_ hL2;replace hS2:=hi_ hS2;replace hby:=hi_ hby;replace hcap:=hi_ hcap;clear hO)
   |(go_at_call 187;(with_reducible refine (cps.out _ _ _ hby.out hcap.out).mono ?_);rintro e w3 ⟨rfl,hB3⟩;have hL3:=hi_ (hL2.out.belowW hB3);have hT3:=hT2.out.below hB3 hT2.out.lt;obtain⟨p0,p1,p2,p3,v0,v1,v2,v3⟩:=hT3.b4;replace hT3:=hi_ hT3;have hF3:=hi_ ((Fr.of_below b1.out).trans ((Fr.of_save hS2.out).trans (Fr.of_below (R:=R) (L:=L) hB3)));clear hB3))
  generalize hWf:World.setCell _ _ _=Wf;replace hWf:=hWf.symm;obtain⟨hb,hLf,hFf,hg⟩:=ek rfl hLT hRT hAT.out hT3.out hL3.out hF3.out hWf;obtain⟨u0,u1,u2,u3,-⟩:=hb.b4;have hOf:Own W.heap.size Wf (.slice none 0 0) []:=Own.nil _ _;refine h4_ hLf hFf hOf hWf ?_;clear hLf hFf hOf hWf;intro hLf hFf hOf hWf;clear hb hg p0 p1 p2 p3 v0 v1 v2 v3;refine bodyPost_ret (by simp[results,Tryz.results154,go_sem,u0,u1,u2,u3];try rfl) rfl ?_;rw[hK.out];by_cases he:er=0
  ·rw[if_pos he,he]
   exact⟨none,0,rfl,hOf.out,⟨_,_,hLf.out⟩,hFf.out⟩
  ·rw[if_neg he]
   exact⟨he,⟨_,_,_,_,_,rfl⟩,⟨_,_,_,hLf.out⟩,hFf.out⟩
 ·go_enter Tryz.func154,Tryz.ntmps154
  go_wp2_with (first
   |(go_at_call 155;rw[←hW1];(with_reducible refine (crun.out _ hL1.out).mono ?_);rintro e w2 ⟨a2,m2,c2,rfl,hO,hL2,hS2⟩;obtain⟨A9,c9,e9,hby,_,hcap⟩:=hO.out2L hRml.out;injection e9 with i1 i2 i3;subst i1 i2 i3;have hT2:=hi_ (hS2.blk (by omega) hT1.out);replace hL2:=hi_ hL2;replace hS2:=hi_ hS2;replace hby:=hi_ hby;replace hcap:=hi_ hcap;clear hO)
   |(go_at_call 187;(with_reducible refine (cps.out _ _ _ hby.out hcap.out).mono ?_);rintro e w3 ⟨rfl,hB3⟩;have hL3:=hi_ (hL2.out.belowW hB3);have hT3:=hT2.out.below hB3 hT2.out.lt;obtain⟨p0,p1,p2,p3,v0,v1,v2,v3⟩:=hT3.b4;replace hT3:=hi_ hT3;have hF3:=hi_ ((Fr.of_below b1.out).trans ((Fr.of_save hS2.out).trans (Fr.of_below (R:=R) (L:=L) hB3)));clear hB3))
  generalize hWf:World.setCell _ _ _=Wf;replace hWf:=hWf.symm;obtain⟨hb,hLf,hFf,hg⟩:=ek rfl hLT hRT hAT.out hT3.out hL3.out hF3.out hWf;obtain⟨u0,u1,u2,u3,-⟩:=hb.b4;have hOf:Own W.heap.size Wf (.slice none 0 0) []:=Own.nil _ _;refine h4_ hLf hFf hOf hWf ?_;clear hLf hFf hOf hWf;intro hLf hFf hOf hWf;clear hb hg p0 p1 p2 p3 v0 v1 v2 v3;refine bodyPost_ret (by simp[results,Tryz.results154,go_sem,u0,u1,u2,u3];try rfl) rfl ?_;rw[hK.out];by_cases he:er=0
  ·rw[if_pos he,he]
   exact⟨none,0,rfl,hOf.out,⟨_,_,hLf.out⟩,hFf.out⟩
  ·rw[if_neg he]
   exact⟨he,⟨_,_,_,_,_,rfl⟩,⟨_,_,_,hLf.out⟩,hFf.out⟩
end
end Go.Proofs.YthffpbkndnhlfaaGreatDoor
