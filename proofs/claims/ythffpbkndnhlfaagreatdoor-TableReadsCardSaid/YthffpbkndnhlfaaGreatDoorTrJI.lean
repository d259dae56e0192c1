/- Walks and laws, joined: part I. No condition. -/
import Derived.Test.YthffpbkndnhlfaaGreatDoorTrJH
import Derived.Test.YthffpbkndnhlfaaGreatDoorTrJA
import Derived.Test.YthffpbkndnhlfaaGreatDoorTrJE
set_option linter.unusedSimpArgs false
set_option linter.unusedVariables false
set_option maxRecDepth 100000
set_option maxHeartbeats 32000000
namespace Go.Proofs.YthffpbkndnhlfaaGreatDoor
open Go Go.RowKit Go.Wk Go.Fx
theorem fR (bs:List UInt8) (P q:Nat) (hq:P≤q) (hlt:q<bs.length):(bs.drop P).take (q+1 - P)=(bs.drop P).take (q - P)++[bs[q]]∧bs[q]∈bs.drop P:=by
 have hl:q - P<(bs.drop P).length:=by rw[List.length_drop];omega
 have e:(bs.drop P)[q - P]=bs[q]:=by rw[List.getElem_drop];congr 1;omega
 constructor
 ·rw[show q+1 - P=(q - P)+1 by omega,List.take_succ_eq_append_getElem hl,e]
 ·rw[←e];exact List.getElem_mem hl
theorem fH (f:UInt8→Bool) (bs:List UInt8) (P k:Nat):((bs.drop P).take k).countP f≤bs.length:=by
 have h1:=List.countP_le_length (p:=f) (l:=(bs.drop P).take k);rw[List.length_take,List.length_drop]at h1;omega
theorem q9 {w:World}{b o c:Nat}{bs:List UInt8}(h:∀i (h:i<bs.length),w.cell? ⟨b,o+i,none⟩=some (.int .u8 (bs[i].toNat:Int))) (h0:0<bs.length) (hc:bs.length≤c) (hs:bs.length≤1000000000)
 (h43:¬(bs[0].toNat:Int)=43) (h45:¬(bs[0].toNat:Int)=45) :
 Calls Tryz.prog 195 #[.slice (some ⟨b,o,none⟩) bs.length c] w fun e w'=>e=.returned (.tuple #[.int .i64 (ao bs).1,.bool (ao bs).2.1,.int .i64 (ao bs).2.2])∧Below w.heap.size w w':=by
 have hR:ao bs=aW bs 0 false:=by
  have e:bs[0]?=some bs[0]:=List.getElem?_eq_getElem h0;have e1:¬bs[0]?=some 43:=by rw[e];intro h;injection h with h;rw[h]at h43;exact h43 rfl
  have e2:¬bs[0]?=some 45:=by rw[e];intro h;injection h with h;rw[h]at h45;exact h45 rfl
  have hsg:sgn bs=(0,false):=by unfold sgn;rw[if_neg e1,if_neg e2]
  rw[bX,hsg]
 have hbad:=hi_ (fL bs 0 false (by omega));have hfit:=hi_ (fM bs 0 false (by omega));rw[hR];obtain⟨T,hT⟩:∃T,T=aW bs 0 false:=⟨_,rfl⟩;rw[←hT]at hbad hfit⊢;clear hR hT;have hc0:=h 0 h0;rw[Nat.add_zero]at hc0;generalize bs[0]=x0 at *;replace h:=hi_ h
 skip
 go_enter Tryz.func195,Tryz.ntmps195;go_wp2
 ·rename _∨_=>hx
  rcases hx with hx|hx <;> simp at hx <;> omega
 go_loop [7,8,9] (fun pv dv iv=>∃q:Nat,0≤q∧q≤bs.length∧iv=.int .i64 q∧pv=.int .i64 (((bs.drop 0).take (q - 0)).countP isP:Nat)∧dv=.int .i64 (((bs.drop 0).take (q - 0)).countP isD:Nat)∧∀b∈(bs.drop 0).take (q - 0),isD b=true∨isP b=true) (fun _ _ iv=>bs.length - (RowKit.intOf iv).toNat)
 case atStart=>exact⟨0,Nat.le_refl _,by omega,by rfl,by simp,by simp,fun b hb=>by simp at hb⟩
 case round=>
  obtain⟨q,hq0,hq,rfl,rfl,rfl,hall⟩:=hrel;replace hall:=hi_ hall;have hl1:=fH isP bs 0 (q - 0);have hl2:=fH isD bs 0 (q - 0);by_cases hlt:q<bs.length
  ·have hck:=h.out q hlt
   obtain⟨hn1,hn2⟩:=fR bs 0 q hq0 hlt;replace hn1:=hi_ hn1;replace hn2:=hi_ hn2;have hstep:=hi_ (show ((bs.drop 0).take (q+1 - 0)).countP isP=((bs.drop 0).take (q - 0)).countP isP+(if isP bs[q] then 1 else 0)∧((bs.drop 0).take (q+1 - 0)).countP isD=((bs.drop 0).take (q - 0)).countP isD+(if isD bs[q] then 1 else 0) by
    rw[hn1.out,List.countP_append,List.countP_append,List.countP_singleton,List.countP_singleton];exact⟨rfl,rfl⟩)
   generalize hxx:bs[q]=x at *;replace hxx:=hi_ hxx;generalize ((bs.drop 0).take (q - 0)).countP isP=n1 at *;generalize ((bs.drop 0).take (q - 0)).countP isD=n2 at *;clear hq0 hc0 hc;have hx0:=dK x;by_cases h46:(x.toNat:Int)=46
   ·have hip:isP x=true:=by
     have:x.toNat=46:=by omega
     have:x=46:=UInt8.toNat_inj.1 (by rw[this];rfl);rw[this];rfl
    have hid':isD x=false:=by
     unfold isD;have:x.toNat=46:=by omega
     rw[this];rfl
    rw[hip,hid']at hstep;replace hip:=hi_ hip;go_wp2
    refine⟨⟨q+1,by omega,by omega,by rfl,by rw[hstep.out.1];rfl,by rw[hstep.out.2];rfl,?_⟩,by simp only[RowKit.intOf];omega⟩;rw[hn1.out];intro z hz;rcases List.mem_append.1 hz with hz|hz
    ·exact hall.out z hz
    ·rw[List.mem_singleton.1 hz];exact .inr hip.out
   ·have hip:isP x=false:=by
     unfold isP;rw[beq_eq_false_iff_ne];intro e;rw[e]at h46;exact h46 rfl
    by_cases hdg:48≤(x.toNat:Int)∧(x.toNat:Int)≤57
    ·have hid':isD x=true:=by
      unfold isD;rw[decide_eq_true (show 48≤x.toNat by omega),decide_eq_true (show x.toNat≤57 by omega)];rfl
     rw[hip,hid']at hstep;replace hid':=hi_ hid';obtain⟨hdg1,hdg2⟩:=hdg;go_wp2
     refine⟨⟨q+1,by omega,by omega,by rfl,by rw[hstep.out.1];rfl,by rw[hstep.out.2];rfl,?_⟩,by simp only[RowKit.intOf];omega⟩;rw[hn1.out];intro z hz;rcases List.mem_append.1 hz with hz|hz
     ·exact hall.out z hz
     ·rw[List.mem_singleton.1 hz];exact .inl hid'.out
    ·have hid':isD x=false:=by
      unfold isD;by_cases h48:48≤x.toNat
      ·rw[decide_eq_false (show ¬x.toNat≤57 by omega)];simp
      ·rw[decide_eq_false h48];rfl
     have hTb:=hi_ (hbad.out x hn2.out hid' hip);have hdg2:(x.toNat:Int)<48∨57<(x.toNat:Int):=by omega
     clear hdg;rcases hdg2 with hdg2|hdg2
     ·go_wp2
      go_ret3
      rw[hTb.out];exact⟨rfl,Below.refl _ _⟩
     ·go_wp2
      go_ret3
      rw[hTb.out];exact⟨rfl,Below.refl _ _⟩
  ·have hqe:q=bs.length:=by omega
   subst hqe;have hfull:(bs.drop 0).take (bs.length - 0)=bs.drop 0:=List.take_of_length_le (by rw[List.length_drop];omega);rw[hfull]at hall hl1 hl2⊢;have hf:=hfit.out hall.out;clear hfit hbad hfull hall hc0 hq0;obtain⟨hf1,hf2⟩:=hf;generalize (bs.drop 0).countP isP=n1 at *;generalize (bs.drop 0).countP isD=n2 at *;by_cases hw:1<n1∨n2=0
   ·have hTb:=hi_ (hf1 hw)
    clear hf1 hf2;by_cases hw1:1<n1
    ·clear hw
     go_wp2
     go_ret3
     rw[hTb.out];exact⟨rfl,Below.refl _ _⟩
    ·have hw2:n2=0:=by omega
     subst hw2;clear hw;go_wp2
     go_ret3
     rw[hTb.out];exact⟨rfl,Below.refl _ _⟩
   ·obtain⟨g1,g2,g3,g4⟩:=hf2 hw
    clear hf1 hf2;have hw1:n1≤1:=by omega
    have hw2:0<n2:=by omega
    clear hw;refine h4_ g3 g4 g1 g2 ?_;clear g3 g4 g1 g2;intro g3 g4 g1 g2;have hDl:0+(ae bs 0).length≤bs.length:=by
     have:(ae bs 0).length≤(bs.drop 0).length:=(List.takeWhile_sublist _).length_le;rw[List.length_drop]at this;omega
    have hdin:Hid (∀k,∀hk:k<(ae bs 0).length,bs[0+k]?=some (ae bs 0)[k]∧isD (ae bs 0)[k]=true):=hi_ (fun k hk=>dL hk);have hstop:=hi_ (gN (ae bs 0));have hgo:=hi_ (lc (ae bs 0));have hnle:=hi_ (fun k=>cy ((ae bs 0).take k) (0,true) (by omega));generalize ae bs 0=D at *;go_wp2
    ·rename _∨_=>hx
     rcases hx with hx|hx
     ·omega
     ·simp at hx;omega
    go_loop [10,11] (fun nv iv=>∃q k:Nat,Hid (q=0+k)∧k≤D.length∧iv=.int .i64 q∧nv=.int .i64 ((aA (D.take k)).1:Nat)∧Hid ((aA (D.take k)).2=true)) (fun _ iv=>bs.length - (RowKit.intOf iv).toNat)
    case atStart=>exact⟨0,0,Lib.hid rfl,Nat.zero_le _,by rfl,by rfl,Lib.hid rfl⟩
    case round=>
     obtain⟨q,k,hqk,hk,rfl,rfl,hnt⟩:=hrel;by_cases hlt:k<D.length
     ·have hqb:q<bs.length:=by rw[hqk.out];omega
      obtain⟨hd1,hd2⟩:=hdin.out k hlt;have hst:=hi_ (hstop.out k hlt);have hgg:=hi_ (hgo.out k hlt hnt.out);have hle:(aA (D.take k)).1≤2147483647:=hnle.out k;have hck:=h.out q hqb;have hbd:bs[q]=D[k]:=by
       have e:bs[q]?=some D[k]:=by rw[hqk.out];exact hd1
       rw[List.getElem?_eq_getElem hqb]at e;exact Option.some.inj e
      rw[hbd]at hck;clear hbd hd1 hdin;generalize D[k]=x at *;generalize (aA (D.take k)).1=n at *;have hx:48≤(x.toNat:Int)∧(x.toNat:Int)≤57:=by
       unfold isD at hd2;have:=(Bool.and_eq_true_iff.1 hd2);have h1:=of_decide_eq_true this.1;have h2:=of_decide_eq_true this.2;omega
      obtain⟨hx1,hx2⟩:=hx;clear hd2;obtain⟨N,hN⟩:=aT (n:Int);have hN0:0≤N∧N≤2147483647:=by rw[hN.out];omega
      rw[←hN.out];clear hle hstop hgo hnle;go_wp2
      ·rename _<_=>hgt
       go_ret3
       rw[g2.out (hst.out (by have:=hN.out;omega))];exact⟨rfl,Below.refl _ _⟩
      ·rename _≤_=>hgt
       have e:=hgg.out (by have:=hN.out;omega);refine⟨⟨q+1,k+1,Lib.hid (by rw[hqk.out];omega),by omega,by rfl,by rw[e];congr 1;have:=hN.out;simp only;omega,Lib.hid (by rw[e])⟩,by simp only[RowKit.intOf];omega⟩
     ·have hke:k=D.length:=by omega
      subst hke;rw[List.take_length]at hnt⊢;have hle:=hnle.out D.length;rw[List.take_length]at hle;change (aA D).1≤2147483647 at hle;clear hdin hstop hgo hnle g2;replace g3:=hi_ (g3.out hnt.out);replace g4:=hi_ (g4.out hnt.out);generalize (aA D).1=n at *;obtain⟨N,hN⟩:=aT (n:Int);have hN0:0≤N∧N≤2147483647:=by rw[hN.out];omega
      rw[←hN.out];clear hle hw2 hl1 hl2;by_cases hn1:n1=0
      ·obtain⟨hend,hTw⟩:=g3.out hn1
       have hqe:q=bs.length:=by rw[hqk.out,hend]
       subst hqe;subst hn1;rw[←hN.out]at hTw;replace hTw:=hi_ hTw;clear g1 g3 g4 hend;go_wp2
       go_ret3
       rw[hTw.out];exact⟨by simp[bh],Below.refl _ _⟩
      ·obtain⟨hlt2,hD2,hTp⟩:=g4.out hn1
       have hn1e:n1=1:=by omega
       subst hn1e;have hqb:q<bs.length:=by rw[hqk.out];exact hlt2
       have hck:=h.out q hqb;have h46:bs[q]=46:=by
        have e:=g1.out hlt2;rw[←hqk.out,List.getElem?_eq_getElem hqb]at e;exact Option.some.inj e
       rw[h46]at hck;rw[←hN.out]at hTp;clear h46 hlt2 g1 g3 g4;rw[←hqk.out]at hD2 hTp;replace hTp:=hi_ hTp;have hd2in:Hid (∀k,∀hk:k<(ae bs (q+1)).length,bs[q+1+k]?=some (ae bs (q+1))[k]∧isD (ae bs (q+1))[k]=true):=hi_ (fun k hk=>dL hk);have hbd:=hi_ (iW (ae bs (q+1)) dI);generalize ae bs (q+1)=E at *;go_wp2
       go_loop [12,13] (fun fv kv=>∃k:Nat,k≤5∧kv=.int .i64 k∧fv=.int .i64 (aX (E.take k)*10 ^ (k - E.length):Nat)) (fun _ kv=>5 - (RowKit.intOf kv).toNat)
       case atStart=>exact⟨0,by omega,by rfl,by simp[aX]⟩
       case round=>
        obtain⟨k,hk,rfl,rfl⟩:=hrel;by_cases hk5:k<5
        ·have hb1:aX (E.take k)*10 ^ (k - E.length)≤9999:=by
          have h1:=hbd.out k;have h2:10 ^ k≤10 ^ 4:=Nat.pow_le_pow_right (by omega) (by omega);omega
         obtain⟨hf1,hf2⟩:=iX E k;replace hf1:=hi_ hf1;replace hf2:=hi_ hf2;generalize aX (E.take k)*10 ^ (k - E.length)=m at *;obtain⟨M,hM⟩:=aT (m:Int);have hM0:0≤M∧M≤9999:=by rw[hM.out];omega
         rw[←hM.out];clear hb1;by_cases hke:k<E.length
         ·obtain⟨hd1,hd2⟩:=hd2in.out k hke
          have hqk2:q+1+k<bs.length:=by omega
          have hck2:=h.out (q+1+k) hqk2;have hbd2:bs[q+1+k]=E[k]:=by
           rw[List.getElem?_eq_getElem hqk2]at hd1;exact Option.some.inj hd1
          rw[hbd2]at hck2;have hf3:=hi_ (hf1.out hke);clear hbd2 hd1 hd2in hf1 hf2;generalize E[k]=x at *;have hx:48≤(x.toNat:Int)∧(x.toNat:Int)≤57:=by
           unfold isD at hd2;have:=(Bool.and_eq_true_iff.1 hd2);have h1:=of_decide_eq_true this.1;have h2:=of_decide_eq_true this.2;omega
          obtain⟨hx1,hx2⟩:=hx;clear hd2;go_wp2
          have e:=hf3.out;refine⟨⟨k+1,by omega,by rfl,by rw[e];congr 1;have:=hM.out;omega⟩,by simp only[RowKit.intOf];omega⟩
         ·have hf3:=hi_ (hf2.out hke)
          clear hf1 hf2 hd2in;go_wp2
          have e:=hf3.out;refine⟨⟨k+1,by omega,by rfl,by rw[e];congr 1;have:=hM.out;omega⟩,by simp only[RowKit.intOf];omega⟩
        ·have hk5:k=5:=by omega
         subst hk5;have hb1:bp E≤99999:=by
          have h1:=hbd.out 5;unfold bp;omega
         change _ at hk;rw[show aX (E.take 5)*10 ^ (5 - E.length)=bp E from rfl];generalize bp E=m at *;obtain⟨M,hM⟩:=aT (m:Int);have hM0:0≤M∧M≤99999:=by rw[hM.out];omega
         rw[←hM.out];clear hb1 hd2in hbd;go_wp2
         go_ret3
         rw[hTp.out,←hM.out];exact⟨by simp[bh],Below.refl _ _⟩
theorem rc {w:World}{b o c:Nat}{bs:List UInt8}(h:∀i (h:i<bs.length),w.cell? ⟨b,o+i,none⟩=some (.int .u8 (bs[i].toNat:Int))) (h0:0<bs.length) (hc:bs.length≤c) (hs:bs.length≤1000000000)
 (hs0:bs[0]=43) :
 Calls Tryz.prog 195 #[.slice (some ⟨b,o,none⟩) bs.length c] w fun e w'=>e=.returned (.tuple #[.int .i64 (ao bs).1,.bool (ao bs).2.1,.int .i64 (ao bs).2.2])∧Below w.heap.size w w':=by
 have hR:ao bs=aW bs 1 false:=by
  have e:bs[0]?=some 43:=by rw[List.getElem?_eq_getElem h0,hs0]
  have hsg:sgn bs=(1,false):=by unfold sgn;rw[e];rfl
  rw[bX,hsg]
 have hbad:=hi_ (fL bs 1 false (by omega));have hfit:=hi_ (fM bs 1 false (by omega));rw[hR];obtain⟨T,hT⟩:∃T,T=aW bs 1 false:=⟨_,rfl⟩;rw[←hT]at hbad hfit⊢;clear hR hT;have hc0:=h 0 h0;rw[Nat.add_zero]at hc0;rw[hs0]at hc0;clear hs0;replace h:=hi_ h
 skip
 go_enter Tryz.func195,Tryz.ntmps195;go_wp2
 go_loop [7,8,9] (fun pv dv iv=>∃q:Nat,1≤q∧q≤bs.length∧iv=.int .i64 q∧pv=.int .i64 (((bs.drop 1).take (q - 1)).countP isP:Nat)∧dv=.int .i64 (((bs.drop 1).take (q - 1)).countP isD:Nat)∧∀b∈(bs.drop 1).take (q - 1),isD b=true∨isP b=true) (fun _ _ iv=>bs.length - (RowKit.intOf iv).toNat)
 case atStart=>exact⟨1,Nat.le_refl _,by omega,by rfl,by simp,by simp,fun b hb=>by simp at hb⟩
 case round=>
  obtain⟨q,hq0,hq,rfl,rfl,rfl,hall⟩:=hrel;replace hall:=hi_ hall;have hl1:=fH isP bs 1 (q - 1);have hl2:=fH isD bs 1 (q - 1);by_cases hlt:q<bs.length
  ·have hck:=h.out q hlt
   obtain⟨hn1,hn2⟩:=fR bs 1 q hq0 hlt;replace hn1:=hi_ hn1;replace hn2:=hi_ hn2;have hstep:=hi_ (show ((bs.drop 1).take (q+1 - 1)).countP isP=((bs.drop 1).take (q - 1)).countP isP+(if isP bs[q] then 1 else 0)∧((bs.drop 1).take (q+1 - 1)).countP isD=((bs.drop 1).take (q - 1)).countP isD+(if isD bs[q] then 1 else 0) by
    rw[hn1.out,List.countP_append,List.countP_append,List.countP_singleton,List.countP_singleton];exact⟨rfl,rfl⟩)
   generalize hxx:bs[q]=x at *;replace hxx:=hi_ hxx;generalize ((bs.drop 1).take (q - 1)).countP isP=n1 at *;generalize ((bs.drop 1).take (q - 1)).countP isD=n2 at *;clear hq0 hc0 hc;have hx0:=dK x;by_cases h46:(x.toNat:Int)=46
   ·have hip:isP x=true:=by
     have:x.toNat=46:=by omega
     have:x=46:=UInt8.toNat_inj.1 (by rw[this];rfl);rw[this];rfl
    have hid':isD x=false:=by
     unfold isD;have:x.toNat=46:=by omega
     rw[this];rfl
    rw[hip,hid']at hstep;replace hip:=hi_ hip;go_wp2
    refine⟨⟨q+1,by omega,by omega,by rfl,by rw[hstep.out.1];rfl,by rw[hstep.out.2];rfl,?_⟩,by simp only[RowKit.intOf];omega⟩;rw[hn1.out];intro z hz;rcases List.mem_append.1 hz with hz|hz
    ·exact hall.out z hz
    ·rw[List.mem_singleton.1 hz];exact .inr hip.out
   ·have hip:isP x=false:=by
     unfold isP;rw[beq_eq_false_iff_ne];intro e;rw[e]at h46;exact h46 rfl
    by_cases hdg:48≤(x.toNat:Int)∧(x.toNat:Int)≤57
    ·have hid':isD x=true:=by
      unfold isD;rw[decide_eq_true (show 48≤x.toNat by omega),decide_eq_true (show x.toNat≤57 by omega)];rfl
     rw[hip,hid']at hstep;replace hid':=hi_ hid';obtain⟨hdg1,hdg2⟩:=hdg;go_wp2
     refine⟨⟨q+1,by omega,by omega,by rfl,by rw[hstep.out.1];rfl,by rw[hstep.out.2];rfl,?_⟩,by simp only[RowKit.intOf];omega⟩;rw[hn1.out];intro z hz;rcases List.mem_append.1 hz with hz|hz
     ·exact hall.out z hz
     ·rw[List.mem_singleton.1 hz];exact .inl hid'.out
    ·have hid':isD x=false:=by
      unfold isD;by_cases h48:48≤x.toNat
      ·rw[decide_eq_false (show ¬x.toNat≤57 by omega)];simp
      ·rw[decide_eq_false h48];rfl
     have hTb:=hi_ (hbad.out x hn2.out hid' hip);have hdg2:(x.toNat:Int)<48∨57<(x.toNat:Int):=by omega
     clear hdg;rcases hdg2 with hdg2|hdg2
     ·go_wp2
      go_ret3
      rw[hTb.out];exact⟨rfl,Below.refl _ _⟩
     ·go_wp2
      go_ret3
      rw[hTb.out];exact⟨rfl,Below.refl _ _⟩
  ·have hqe:q=bs.length:=by omega
   subst hqe;have hfull:(bs.drop 1).take (bs.length - 1)=bs.drop 1:=List.take_of_length_le (by rw[List.length_drop];omega);rw[hfull]at hall hl1 hl2⊢;have hf:=hfit.out hall.out;clear hfit hbad hfull hall hc0 hq0;obtain⟨hf1,hf2⟩:=hf;generalize (bs.drop 1).countP isP=n1 at *;generalize (bs.drop 1).countP isD=n2 at *;by_cases hw:1<n1∨n2=0
   ·have hTb:=hi_ (hf1 hw)
    clear hf1 hf2;by_cases hw1:1<n1
    ·clear hw
     go_wp2
     go_ret3
     rw[hTb.out];exact⟨rfl,Below.refl _ _⟩
    ·have hw2:n2=0:=by omega
     subst hw2;clear hw;go_wp2
     go_ret3
     rw[hTb.out];exact⟨rfl,Below.refl _ _⟩
   ·obtain⟨g1,g2,g3,g4⟩:=hf2 hw
    clear hf1 hf2;have hw1:n1≤1:=by omega
    have hw2:0<n2:=by omega
    clear hw;refine h4_ g3 g4 g1 g2 ?_;clear g3 g4 g1 g2;intro g3 g4 g1 g2;have hDl:1+(ae bs 1).length≤bs.length:=by
     have:(ae bs 1).length≤(bs.drop 1).length:=(List.takeWhile_sublist _).length_le;rw[List.length_drop]at this;omega
    have hdin:Hid (∀k,∀hk:k<(ae bs 1).length,bs[1+k]?=some (ae bs 1)[k]∧isD (ae bs 1)[k]=true):=hi_ (fun k hk=>dL hk);have hstop:=hi_ (gN (ae bs 1));have hgo:=hi_ (lc (ae bs 1));have hnle:=hi_ (fun k=>cy ((ae bs 1).take k) (0,true) (by omega));generalize ae bs 1=D at *;go_wp2
    ·rename _∨_=>hx
     rcases hx with hx|hx
     ·omega
     ·simp at hx;omega
    go_loop [10,11] (fun nv iv=>∃q k:Nat,Hid (q=1+k)∧k≤D.length∧iv=.int .i64 q∧nv=.int .i64 ((aA (D.take k)).1:Nat)∧Hid ((aA (D.take k)).2=true)) (fun _ iv=>bs.length - (RowKit.intOf iv).toNat)
    case atStart=>exact⟨1,0,Lib.hid rfl,Nat.zero_le _,by rfl,by rfl,Lib.hid rfl⟩
    case round=>
     obtain⟨q,k,hqk,hk,rfl,rfl,hnt⟩:=hrel;by_cases hlt:k<D.length
     ·have hqb:q<bs.length:=by rw[hqk.out];omega
      obtain⟨hd1,hd2⟩:=hdin.out k hlt;have hst:=hi_ (hstop.out k hlt);have hgg:=hi_ (hgo.out k hlt hnt.out);have hle:(aA (D.take k)).1≤2147483647:=hnle.out k;have hck:=h.out q hqb;have hbd:bs[q]=D[k]:=by
       have e:bs[q]?=some D[k]:=by rw[hqk.out];exact hd1
       rw[List.getElem?_eq_getElem hqb]at e;exact Option.some.inj e
      rw[hbd]at hck;clear hbd hd1 hdin;generalize D[k]=x at *;generalize (aA (D.take k)).1=n at *;have hx:48≤(x.toNat:Int)∧(x.toNat:Int)≤57:=by
       unfold isD at hd2;have:=(Bool.and_eq_true_iff.1 hd2);have h1:=of_decide_eq_true this.1;have h2:=of_decide_eq_true this.2;omega
      obtain⟨hx1,hx2⟩:=hx;clear hd2;obtain⟨N,hN⟩:=aT (n:Int);have hN0:0≤N∧N≤2147483647:=by rw[hN.out];omega
      rw[←hN.out];clear hle hstop hgo hnle;go_wp2
      ·rename _<_=>hgt
       go_ret3
       rw[g2.out (hst.out (by have:=hN.out;omega))];exact⟨rfl,Below.refl _ _⟩
      ·rename _≤_=>hgt
       have e:=hgg.out (by have:=hN.out;omega);refine⟨⟨q+1,k+1,Lib.hid (by rw[hqk.out];omega),by omega,by rfl,by rw[e];congr 1;have:=hN.out;simp only;omega,Lib.hid (by rw[e])⟩,by simp only[RowKit.intOf];omega⟩
     ·have hke:k=D.length:=by omega
      subst hke;rw[List.take_length]at hnt⊢;have hle:=hnle.out D.length;rw[List.take_length]at hle;change (aA D).1≤2147483647 at hle;clear hdin hstop hgo hnle g2;replace g3:=hi_ (g3.out hnt.out);replace g4:=hi_ (g4.out hnt.out);generalize (aA D).1=n at *;obtain⟨N,hN⟩:=aT (n:Int);have hN0:0≤N∧N≤2147483647:=by rw[hN.out];omega
      rw[←hN.out];clear hle hw2 hl1 hl2;by_cases hn1:n1=0
      ·obtain⟨hend,hTw⟩:=g3.out hn1
       have hqe:q=bs.length:=by rw[hqk.out,hend]
       subst hqe;subst hn1;rw[←hN.out]at hTw;replace hTw:=hi_ hTw;clear g1 g3 g4 hend;go_wp2
       go_ret3
       rw[hTw.out];exact⟨by simp[bh],Below.refl _ _⟩
      ·obtain⟨hlt2,hD2,hTp⟩:=g4.out hn1
       have hn1e:n1=1:=by omega
       subst hn1e;have hqb:q<bs.length:=by rw[hqk.out];exact hlt2
       have hck:=h.out q hqb;have h46:bs[q]=46:=by
        have e:=g1.out hlt2;rw[←hqk.out,List.getElem?_eq_getElem hqb]at e;exact Option.some.inj e
       rw[h46]at hck;rw[←hN.out]at hTp;clear h46 hlt2 g1 g3 g4;rw[←hqk.out]at hD2 hTp;replace hTp:=hi_ hTp;have hd2in:Hid (∀k,∀hk:k<(ae bs (q+1)).length,bs[q+1+k]?=some (ae bs (q+1))[k]∧isD (ae bs (q+1))[k]=true):=hi_ (fun k hk=>dL hk);have hbd:=hi_ (iW (ae bs (q+1)) dI);generalize ae bs (q+1)=E at *;go_wp2
       go_loop [12,13] (fun fv kv=>∃k:Nat,k≤5∧kv=.int .i64 k∧fv=.int .i64 (aX (E.take k)*10 ^ (k - E.length):Nat)) (fun _ kv=>5 - (RowKit.intOf kv).toNat)
       case atStart=>exact⟨0,by omega,by rfl,by simp[aX]⟩
       case round=>
        obtain⟨k,hk,rfl,rfl⟩:=hrel;by_cases hk5:k<5
        ·have hb1:aX (E.take k)*10 ^ (k - E.length)≤9999:=by
          have h1:=hbd.out k;have h2:10 ^ k≤10 ^ 4:=Nat.pow_le_pow_right (by omega) (by omega);omega
         obtain⟨hf1,hf2⟩:=iX E k;replace hf1:=hi_ hf1;replace hf2:=hi_ hf2;generalize aX (E.take k)*10 ^ (k - E.length)=m at *;obtain⟨M,hM⟩:=aT (m:Int);have hM0:0≤M∧M≤9999:=by rw[hM.out];omega
         rw[←hM.out];clear hb1;by_cases hke:k<E.length
         ·obtain⟨hd1,hd2⟩:=hd2in.out k hke
          have hqk2:q+1+k<bs.length:=by omega
          have hck2:=h.out (q+1+k) hqk2;have hbd2:bs[q+1+k]=E[k]:=by
           rw[List.getElem?_eq_getElem hqk2]at hd1;exact Option.some.inj hd1
          rw[hbd2]at hck2;have hf3:=hi_ (hf1.out hke);clear hbd2 hd1 hd2in hf1 hf2;generalize E[k]=x at *;have hx:48≤(x.toNat:Int)∧(x.toNat:Int)≤57:=by
           unfold isD at hd2;have:=(Bool.and_eq_true_iff.1 hd2);have h1:=of_decide_eq_true this.1;have h2:=of_decide_eq_true this.2;omega
          obtain⟨hx1,hx2⟩:=hx;clear hd2;go_wp2
          have e:=hf3.out;refine⟨⟨k+1,by omega,by rfl,by rw[e];congr 1;have:=hM.out;omega⟩,by simp only[RowKit.intOf];omega⟩
         ·have hf3:=hi_ (hf2.out hke)
          clear hf1 hf2 hd2in;go_wp2
          have e:=hf3.out;refine⟨⟨k+1,by omega,by rfl,by rw[e];congr 1;have:=hM.out;omega⟩,by simp only[RowKit.intOf];omega⟩
        ·have hk5:k=5:=by omega
         subst hk5;have hb1:bp E≤99999:=by
          have h1:=hbd.out 5;unfold bp;omega
         change _ at hk;rw[show aX (E.take 5)*10 ^ (5 - E.length)=bp E from rfl];generalize bp E=m at *;obtain⟨M,hM⟩:=aT (m:Int);have hM0:0≤M∧M≤99999:=by rw[hM.out];omega
         rw[←hM.out];clear hb1 hd2in hbd;go_wp2
         go_ret3
         rw[hTp.out,←hM.out];exact⟨by simp[bh],Below.refl _ _⟩
theorem pn {w:World}{b o c:Nat}{bs:List UInt8}(h:∀i (h:i<bs.length),w.cell? ⟨b,o+i,none⟩=some (.int .u8 (bs[i].toNat:Int))) (h0:0<bs.length) (hc:bs.length≤c) (hs:bs.length≤1000000000)
 (hs0:bs[0]=45) :
 Calls Tryz.prog 195 #[.slice (some ⟨b,o,none⟩) bs.length c] w fun e w'=>e=.returned (.tuple #[.int .i64 (ao bs).1,.bool (ao bs).2.1,.int .i64 (ao bs).2.2])∧Below w.heap.size w w':=by
 have hR:ao bs=aW bs 1 true:=by
  have e:bs[0]?=some 45:=by rw[List.getElem?_eq_getElem h0,hs0]
  have hsg:sgn bs=(1,true):=by unfold sgn;rw[e];rfl
  rw[bX,hsg]
 have hbad:=hi_ (fL bs 1 true (by omega));have hfit:=hi_ (fM bs 1 true (by omega));rw[hR];obtain⟨T,hT⟩:∃T,T=aW bs 1 true:=⟨_,rfl⟩;rw[←hT]at hbad hfit⊢;clear hR hT;have hc0:=h 0 h0;rw[Nat.add_zero]at hc0;rw[hs0]at hc0;clear hs0;replace h:=hi_ h
 skip
 go_enter Tryz.func195,Tryz.ntmps195;go_wp2
 go_loop [7,8,9] (fun pv dv iv=>∃q:Nat,1≤q∧q≤bs.length∧iv=.int .i64 q∧pv=.int .i64 (((bs.drop 1).take (q - 1)).countP isP:Nat)∧dv=.int .i64 (((bs.drop 1).take (q - 1)).countP isD:Nat)∧∀b∈(bs.drop 1).take (q - 1),isD b=true∨isP b=true) (fun _ _ iv=>bs.length - (RowKit.intOf iv).toNat)
 case atStart=>exact⟨1,Nat.le_refl _,by omega,by rfl,by simp,by simp,fun b hb=>by simp at hb⟩
 case round=>
  obtain⟨q,hq0,hq,rfl,rfl,rfl,hall⟩:=hrel;replace hall:=hi_ hall;have hl1:=fH isP bs 1 (q - 1);have hl2:=fH isD bs 1 (q - 1);by_cases hlt:q<bs.length
  ·have hck:=h.out q hlt
   obtain⟨hn1,hn2⟩:=fR bs 1 q hq0 hlt;replace hn1:=hi_ hn1;replace hn2:=hi_ hn2;have hstep:=hi_ (show ((bs.drop 1).take (q+1 - 1)).countP isP=((bs.drop 1).take (q - 1)).countP isP+(if isP bs[q] then 1 else 0)∧((bs.drop 1).take (q+1 - 1)).countP isD=((bs.drop 1).take (q - 1)).countP isD+(if isD bs[q] then 1 else 0) by
    rw[hn1.out,List.countP_append,List.countP_append,List.countP_singleton,List.countP_singleton];exact⟨rfl,rfl⟩)
   generalize hxx:bs[q]=x at *;replace hxx:=hi_ hxx;generalize ((bs.drop 1).take (q - 1)).countP isP=n1 at *;generalize ((bs.drop 1).take (q - 1)).countP isD=n2 at *;clear hq0 hc0 hc;have hx0:=dK x;by_cases h46:(x.toNat:Int)=46
   ·have hip:isP x=true:=by
     have:x.toNat=46:=by omega
     have:x=46:=UInt8.toNat_inj.1 (by rw[this];rfl);rw[this];rfl
    have hid':isD x=false:=by
     unfold isD;have:x.toNat=46:=by omega
     rw[this];rfl
    rw[hip,hid']at hstep;replace hip:=hi_ hip;go_wp2
    refine⟨⟨q+1,by omega,by omega,by rfl,by rw[hstep.out.1];rfl,by rw[hstep.out.2];rfl,?_⟩,by simp only[RowKit.intOf];omega⟩;rw[hn1.out];intro z hz;rcases List.mem_append.1 hz with hz|hz
    ·exact hall.out z hz
    ·rw[List.mem_singleton.1 hz];exact .inr hip.out
   ·have hip:isP x=false:=by
     unfold isP;rw[beq_eq_false_iff_ne];intro e;rw[e]at h46;exact h46 rfl
    by_cases hdg:48≤(x.toNat:Int)∧(x.toNat:Int)≤57
    ·have hid':isD x=true:=by
      unfold isD;rw[decide_eq_true (show 48≤x.toNat by omega),decide_eq_true (show x.toNat≤57 by omega)];rfl
     rw[hip,hid']at hstep;replace hid':=hi_ hid';obtain⟨hdg1,hdg2⟩:=hdg;go_wp2
     refine⟨⟨q+1,by omega,by omega,by rfl,by rw[hstep.out.1];rfl,by rw[hstep.out.2];rfl,?_⟩,by simp only[RowKit.intOf];omega⟩;rw[hn1.out];intro z hz;rcases List.mem_append.1 hz with hz|hz
     ·exact hall.out z hz
     ·rw[List.mem_singleton.1 hz];exact .inl hid'.out
    ·have hid':isD x=false:=by
      unfold isD;by_cases h48:48≤x.toNat
      ·rw[decide_eq_false (show ¬x.toNat≤57 by omega)];simp
      ·rw[decide_eq_false h48];rfl
     have hTb:=hi_ (hbad.out x hn2.out hid' hip);have hdg2:(x.toNat:Int)<48∨57<(x.toNat:Int):=by omega
     clear hdg;rcases hdg2 with hdg2|hdg2
     ·go_wp2
      go_ret3
      rw[hTb.out];exact⟨rfl,Below.refl _ _⟩
     ·go_wp2
      go_ret3
      rw[hTb.out];exact⟨rfl,Below.refl _ _⟩
  ·have hqe:q=bs.length:=by omega
   subst hqe;have hfull:(bs.drop 1).take (bs.length - 1)=bs.drop 1:=List.take_of_length_le (by rw[List.length_drop];omega);rw[hfull]at hall hl1 hl2⊢;have hf:=hfit.out hall.out;clear hfit hbad hfull hall hc0 hq0;obtain⟨hf1,hf2⟩:=hf;generalize (bs.drop 1).countP isP=n1 at *;generalize (bs.drop 1).countP isD=n2 at *;by_cases hw:1<n1∨n2=0
   ·have hTb:=hi_ (hf1 hw)
    clear hf1 hf2;by_cases hw1:1<n1
    ·clear hw
     go_wp2
     go_ret3
     rw[hTb.out];exact⟨rfl,Below.refl _ _⟩
    ·have hw2:n2=0:=by omega
     subst hw2;clear hw;go_wp2
     go_ret3
     rw[hTb.out];exact⟨rfl,Below.refl _ _⟩
   ·obtain⟨g1,g2,g3,g4⟩:=hf2 hw
    clear hf1 hf2;have hw1:n1≤1:=by omega
    have hw2:0<n2:=by omega
    clear hw;refine h4_ g3 g4 g1 g2 ?_;clear g3 g4 g1 g2;intro g3 g4 g1 g2;have hDl:1+(ae bs 1).length≤bs.length:=by
     have:(ae bs 1).length≤(bs.drop 1).length:=(List.takeWhile_sublist _).length_le;rw[List.length_drop]at this;omega
    have hdin:Hid (∀k,∀hk:k<(ae bs 1).length,bs[1+k]?=some (ae bs 1)[k]∧isD (ae bs 1)[k]=true):=hi_ (fun k hk=>dL hk);have hstop:=hi_ (gN (ae bs 1));have hgo:=hi_ (lc (ae bs 1));have hnle:=hi_ (fun k=>cy ((ae bs 1).take k) (0,true) (by omega));generalize ae bs 1=D at *;go_wp2
    ·rename _∨_=>hx
     rcases hx with hx|hx
     ·omega
     ·simp at hx;omega
    go_loop [10,11] (fun nv iv=>∃q k:Nat,Hid (q=1+k)∧k≤D.length∧iv=.int .i64 q∧nv=.int .i64 ((aA (D.take k)).1:Nat)∧Hid ((aA (D.take k)).2=true)) (fun _ iv=>bs.length - (RowKit.intOf iv).toNat)
    case atStart=>exact⟨1,0,Lib.hid rfl,Nat.zero_le _,by rfl,by rfl,Lib.hid rfl⟩
    case round=>
     obtain⟨q,k,hqk,hk,rfl,rfl,hnt⟩:=hrel;by_cases hlt:k<D.length
     ·have hqb:q<bs.length:=by rw[hqk.out];omega
      obtain⟨hd1,hd2⟩:=hdin.out k hlt;have hst:=hi_ (hstop.out k hlt);have hgg:=hi_ (hgo.out k hlt hnt.out);have hle:(aA (D.take k)).1≤2147483647:=hnle.out k;have hck:=h.out q hqb;have hbd:bs[q]=D[k]:=by
       have e:bs[q]?=some D[k]:=by rw[hqk.out];exact hd1
       rw[List.getElem?_eq_getElem hqb]at e;exact Option.some.inj e
      rw[hbd]at hck;clear hbd hd1 hdin;generalize D[k]=x at *;generalize (aA (D.take k)).1=n at *;have hx:48≤(x.toNat:Int)∧(x.toNat:Int)≤57:=by
       unfold isD at hd2;have:=(Bool.and_eq_true_iff.1 hd2);have h1:=of_decide_eq_true this.1;have h2:=of_decide_eq_true this.2;omega
      obtain⟨hx1,hx2⟩:=hx;clear hd2;obtain⟨N,hN⟩:=aT (n:Int);have hN0:0≤N∧N≤2147483647:=by rw[hN.out];omega
      rw[←hN.out];clear hle hstop hgo hnle;go_wp2
      ·rename _<_=>hgt
       go_ret3
       rw[g2.out (hst.out (by have:=hN.out;omega))];exact⟨rfl,Below.refl _ _⟩
      ·rename _≤_=>hgt
       have e:=hgg.out (by have:=hN.out;omega);refine⟨⟨q+1,k+1,Lib.hid (by rw[hqk.out];omega),by omega,by rfl,by rw[e];congr 1;have:=hN.out;simp only;omega,Lib.hid (by rw[e])⟩,by simp only[RowKit.intOf];omega⟩
     ·have hke:k=D.length:=by omega
      subst hke;rw[List.take_length]at hnt⊢;have hle:=hnle.out D.length;rw[List.take_length]at hle;change (aA D).1≤2147483647 at hle;clear hdin hstop hgo hnle g2;replace g3:=hi_ (g3.out hnt.out);replace g4:=hi_ (g4.out hnt.out);generalize (aA D).1=n at *;obtain⟨N,hN⟩:=aT (n:Int);have hN0:0≤N∧N≤2147483647:=by rw[hN.out];omega
      rw[←hN.out];clear hle hw2 hl1 hl2;by_cases hn1:n1=0
      ·obtain⟨hend,hTw⟩:=g3.out hn1
       have hqe:q=bs.length:=by rw[hqk.out,hend]
       subst hqe;subst hn1;rw[←hN.out]at hTw;replace hTw:=hi_ hTw;clear g1 g3 g4 hend;go_wp2
       go_ret3
       rw[hTw.out];exact⟨by simp[bh],Below.refl _ _⟩
      ·obtain⟨hlt2,hD2,hTp⟩:=g4.out hn1
       have hn1e:n1=1:=by omega
       subst hn1e;have hqb:q<bs.length:=by rw[hqk.out];exact hlt2
       have hck:=h.out q hqb;have h46:bs[q]=46:=by
        have e:=g1.out hlt2;rw[←hqk.out,List.getElem?_eq_getElem hqb]at e;exact Option.some.inj e
       rw[h46]at hck;rw[←hN.out]at hTp;clear h46 hlt2 g1 g3 g4;rw[←hqk.out]at hD2 hTp;replace hTp:=hi_ hTp;have hd2in:Hid (∀k,∀hk:k<(ae bs (q+1)).length,bs[q+1+k]?=some (ae bs (q+1))[k]∧isD (ae bs (q+1))[k]=true):=hi_ (fun k hk=>dL hk);have hbd:=hi_ (iW (ae bs (q+1)) dI);generalize ae bs (q+1)=E at *;go_wp2
       go_loop [12,13] (fun fv kv=>∃k:Nat,k≤5∧kv=.int .i64 k∧fv=.int .i64 (aX (E.take k)*10 ^ (k - E.length):Nat)) (fun _ kv=>5 - (RowKit.intOf kv).toNat)
       case atStart=>exact⟨0,by omega,by rfl,by simp[aX]⟩
       case round=>
        obtain⟨k,hk,rfl,rfl⟩:=hrel;by_cases hk5:k<5
        ·have hb1:aX (E.take k)*10 ^ (k - E.length)≤9999:=by
          have h1:=hbd.out k;have h2:10 ^ k≤10 ^ 4:=Nat.pow_le_pow_right (by omega) (by omega);omega
         obtain⟨hf1,hf2⟩:=iX E k;replace hf1:=hi_ hf1;replace hf2:=hi_ hf2;generalize aX (E.take k)*10 ^ (k - E.length)=m at *;obtain⟨M,hM⟩:=aT (m:Int);have hM0:0≤M∧M≤9999:=by rw[hM.out];omega
         rw[←hM.out];clear hb1;by_cases hke:k<E.length
         ·obtain⟨hd1,hd2⟩:=hd2in.out k hke
          have hqk2:q+1+k<bs.length:=by omega
          have hck2:=h.out (q+1+k) hqk2;have hbd2:bs[q+1+k]=E[k]:=by
           rw[List.getElem?_eq_getElem hqk2]at hd1;exact Option.some.inj hd1
          rw[hbd2]at hck2;have hf3:=hi_ (hf1.out hke);clear hbd2 hd1 hd2in hf1 hf2;generalize E[k]=x at *;have hx:48≤(x.toNat:Int)∧(x.toNat:Int)≤57:=by
           unfold isD at hd2;have:=(Bool.and_eq_true_iff.1 hd2);have h1:=of_decide_eq_true this.1;have h2:=of_decide_eq_true this.2;omega
          obtain⟨hx1,hx2⟩:=hx;clear hd2;go_wp2
          have e:=hf3.out;refine⟨⟨k+1,by omega,by rfl,by rw[e];congr 1;have:=hM.out;omega⟩,by simp only[RowKit.intOf];omega⟩
         ·have hf3:=hi_ (hf2.out hke)
          clear hf1 hf2 hd2in;go_wp2
          have e:=hf3.out;refine⟨⟨k+1,by omega,by rfl,by rw[e];congr 1;have:=hM.out;omega⟩,by simp only[RowKit.intOf];omega⟩
        ·have hk5:k=5:=by omega
         subst hk5;have hb1:bp E≤99999:=by
          have h1:=hbd.out 5;unfold bp;omega
         change _ at hk;rw[show aX (E.take 5)*10 ^ (5 - E.length)=bp E from rfl];generalize bp E=m at *;obtain⟨M,hM⟩:=aT (m:Int);have hM0:0≤M∧M≤99999:=by rw[hM.out];omega
         rw[←hM.out];clear hb1 hd2in hbd;go_wp2
         go_ret3
         rw[hTp.out,←hM.out];exact⟨by simp[bh],Below.refl _ _⟩
theorem sF {w:World}(A:Option Addr) (c:Nat) :
 Calls Tryz.prog 195 #[.slice A 0 c] w fun e w'=>e=.returned (.tuple #[.int .i64 0,.bool false,.int .i64 4])∧Below w.heap.size w w':=by
 go_enter Tryz.func195,Tryz.ntmps195;go_wp2
 go_loop [7,8,9] (fun pv dv iv=>iv=.int .i64 0∧pv=.int .i64 0∧dv=.int .i64 0) (fun _ _ _=>0)
 case atStart=>exact⟨rfl,rfl,rfl⟩
 case round=>
  obtain⟨rfl,rfl,rfl⟩:=hrel;go_wp2
  go_ret3
  exact⟨rfl,Below.refl _ _⟩
theorem m8 {w:World}{A:Option Addr}{c:Nat}{bs:List UInt8}(h:Byt w A bs) (hc:bs.length≤c) (hs:bs.length≤1000000000) :
 Calls Tryz.prog 195 #[.slice A bs.length c] w fun e w'=>e=.returned (.tuple #[.int .i64 (ao bs).1,.bool (ao bs).2.1,.int .i64 (ao bs).2.2])∧Below w.heap.size w w':=by
 by_cases h0:0<bs.length
 ·obtain⟨b,o,rfl,hcell⟩:=h.2 h0
  by_cases e43:bs[0]=43
  ·exact rc hcell h0 hc hs e43
  ·by_cases e45:bs[0]=45
   ·exact pn hcell h0 hc hs e45
   ·refine q9 hcell h0 hc hs (fun e=>e43 ?_) (fun e=>e45 ?_)
    ·exact UInt8.toNat_inj.1 (by show bs[0].toNat=43;omega)
    ·exact UInt8.toNat_inj.1 (by show bs[0].toNat=45;omega)
 ·have e:bs=[]:=List.length_eq_zero_iff.1 (by omega)
  subst e;exact sF A c
section
open Go Go.RowKit Go.Wk Go.Rd Go.Fx
section
variable {L T:Nat}{A:Option Addr}{c:Nat}{bs:Bs}{D P AT:Value}{w0 w w':World}{r r':Bs}
theorem Own.out2 {B:Nat}{w:World}{v:Value}{bs:List UInt8}(h:Own B w v bs) (hm:bs.length≤maxLen):∃A c,v=.slice A bs.length c∧Byt w A bs∧(A=none→c=0)∧bs.length≤c:=by
 obtain⟨A,c,e,h1,h2⟩:=h.out hm;refine⟨A,c,e,h1,h2,?_⟩;rcases h.row.2 with ⟨e1,hn⟩|⟨g,cap,cur,e1,_,_,hnc,_⟩
 ·rw[e]at e1;injection e1 with e1 e2 e3;omega
 ·rw[e]at e1;injection e1 with e1 e2 e3;omega
theorem Own.not_ {B:Nat}{w:World}{v:Value}{b:List UInt8}(h:Own B w v b) {g:Nat}{t:TypeId}{cs:Array Value}(hb:Blk w g t cs) (ht:t≠5):v.ownBlock≠some g:=by
 rcases h.row.2 with ⟨rfl,_⟩|⟨g',cap,cur,rfl,_,hh,_⟩
 ·simp[Value.ownBlock]
 ·intro e
  have e:g'=g:=by simpa [Value.ownBlock] using e
  subst e;unfold Blk at hb;rw[hb]at hh;injection hh with hh;injection hh with _ h2;exact ht h2
theorem Own.far_ {B:Nat}{w:World}{v:Value}{b:List UInt8}(h:Own B w v b) {g i:Nat}{u:Value}(hg:v.ownBlock≠some g):Own B (w.setCell ⟨g,i,none⟩ u) v b:=
 bJ h (aj w g i u) (fun q hq e=>hg (by rw[hq];injection e with e;rw[e]))
theorem Save.far_ {L T o:Nat}{a b:World}{u:Value}(h:Save L a b) (hT:a.heap.size≤T):Save L a (b.setCell ⟨T,o,none⟩ u):=
 ⟨h.os,h.tape,h.output,by simpa [World.setCell] using h.size,fun k hk hn=>(Below.heap_setCell b ⟨T,o,none⟩ u k (by show k≠T;omega)).trans (h.block k hk hn)⟩
def Off (A:Option Addr) (bs:Bs) (w0:World):Prop:=0<bs.length→∀x,A=some x→x.block<w0.heap.size
theorem LX.far_ {o:Nat}{u:Value}(h:LX L A c bs D P w r) (hT:L≠T) (hA:0<bs.length→∀x,A=some x→x.block≠T):LX L A c bs D P (w.setCell ⟨T,o,none⟩ u) r:=by
 refine⟨h.blk.far hT u,⟨h.byt.1,fun h0=>?_⟩,h.ne,h.suf,h.cap,h.small⟩;obtain⟨g,o',e,hc⟩:=h.byt.2 h0;refine⟨g,o',e,fun i hi=>?_⟩;rw[World.cell?_setCell_other _ _ _ _ (by intro e2;injection e2 with e2;exact hA h0 _ e (by first|exact e2|exact e2.symm))];exact hc i hi
def dP (L T:Nat) (A:Option Addr) (c:Nat) (bs:Bs) (D P AT:Value) (w0:World) (res:Res Tok) (e:Ending) (w':World):Prop:=match res with
 | .ok k u=>e=.returned (.int .i64 0)∧(∃v,Blk w' T 119 #[.int .i64 k.k,AT,.int .i64 k.n,v]∧Own w0.heap.size w' v k.b)∧LX L A c bs D P w' u∧Save L w0 w'
 | .err n _=>n≠0∧e=.returned (.int .i64 n)∧(∃a b v,Blk w' T 119 #[a,AT,b,v])∧(∃q:Int,Blk w' L 55 #[.slice A bs.length c,.int .i64 q,D,P])∧Save L w0 w'
structure TS (L T:Nat) (A:Option Addr) (c:Nat) (bs:Bs) (D P AT:Value) (w0 w:World) (r:Bs):Prop where
 lx:LX L A c bs D P w r
 tk:Blk w T 119 #[.int .i64 0,AT,.int .i64 0,.slice none 0 0]
 sv:Save L w0 w
 ll:L<w0.heap.size
 lt:w0.heap.size≤T
 off:Off A bs w0
theorem TS.ne (h:TS L T A c bs D P AT w0 w r):L≠T:=by have:=h.ll;have:=h.lt;omega
theorem TS.na (h:TS L T A c bs D P AT w0 w r):0<bs.length→∀x,A=some x→x.block≠T:=fun h0 x hx=>by have:=h.off h0 x hx;have:=h.lt;omega
theorem mY (l:Bs):(ao l).2.2=0∨(ao l).2.2=4∨(ao l).2.2=5:=by
 unfold ao
 repeat' split
 all_goals simp
theorem mZ (l:Bs): -9223372036854775808≤(ao l).1∧(ao l).1≤9223372036854775807:=by
 have h1:∀p,(aA (ae l p)).1≤2147483647:=fun p=>cy _ (0,true) (by decide)
 have h2:∀p,bp (ae l p)≤99999:=fun p=>eo l p
 have h3:∀b,bh b=1∨bh b= -1:=fun b=>by cases b <;> simp[bh]
 unfold ao;have a1:=h1 (sgn l).1;have a2:=h2 ((sgn l).1+(ae l (sgn l).1).length+1);have a3:=h3 (sgn l).2;generalize (aA (ae l (sgn l).1)).1=n at *;generalize bp (ae l ((sgn l).1+(ae l (sgn l).1).length+1))=f at *;generalize bh (sgn l).2=s at *
 repeat' split
 all_goals first
  |(simp;done)
  |(simp only[];rcases a3 with rfl|rfl <;> omega)
theorem eM (h:TS L T A c bs D P AT w0 w r) (h0:0<r.length):Calls Tryz.prog 161 #[.pointer (some ⟨L,0,none⟩),.pointer (some ⟨T,0,none⟩)] w (dP L T A c bs D P AT w0 (dS r)):=by
 have crun:=px h.lx h0;obtain⟨R,hR⟩:∃R,R=aN r:=⟨_,rfl⟩;have hRl:R.length≤1000000000:=by
  rw[hR];have h1:=(List.takeWhile_prefix (p:=bu) (l:=r)).length_le;have h2:=aB h.lx.suf;have h3:=h.lx.small;have:(aN r).length≤r.length:=h1;omega
 unfold dS;rw[←hR]at crun⊢;have cpa:=fun W A' c' (hb:Byt W A' R) (hc:R.length≤c')=>m8 (w:=W) (A:=A') (c:=c') (bs:=R) hb hc hRl
 obtain⟨N,hN⟩:∃N,N=(ao R).1:=⟨_,rfl⟩;obtain⟨wh,hwh⟩:∃N,N=(ao R).2.1:=⟨_,rfl⟩;obtain⟨er,her⟩:∃N,N=(ao R).2.2:=⟨_,rfl⟩;have he3:=mY R;rw[←her]at he3;rw[←hN,←hwh,←her]at cpa⊢;refine h6_ hN hwh her cpa crun hR ?_;clear hN hwh her cpa crun hR;intro hN hwh her cpa crun hR;have hml:R.length≤maxLen:=by unfold maxLen;omega
 refine h3_ hml hRl he3 ?_;clear hml hRl he3;intro hml hRl he3;obtain⟨Z,hZ⟩:∃Z:Res Tok,Z=(if er=0 then .ok ⟨if wh then 1 else 2,N,[]⟩ (r.drop R.length) else .err er r):=⟨_,rfl⟩;rw[←hZ];have fin:∀wz (k:Int),(er=0→k=if wh then 1 else 2)→Blk wz T 119 #[.int .i64 k,AT,.int .i64 N,.slice none 0 0]→LX L A c bs D P wz (r.drop R.length)→Save L w0 wz→dP L T A c bs D P AT w0 Z (.returned (.int .i64 er)) wz:=fun wz k hk hb hl hs=>by
  rw[hZ];by_cases e0:er=0
  ·rw[if_pos e0]
   refine⟨by rw[e0],⟨_,by rw[←hk e0];exact hb,Own.nil _ _⟩,hl,hs⟩
  ·rw[if_neg e0]
   exact⟨e0,rfl,⟨_,_,_,hb⟩,hl.at_,hs⟩
 refine h3_ fin hZ h ?_;clear fin hZ h;intro fin hZ h;cases wh with
 |true=>
  go_enter Tryz.func161,Tryz.ntmps161;go_wp2_with (first
   |(go_at_call 162;(with_reducible refine (crun.out).mono ?_);rintro e w2 ⟨v2,rfl,hO2,hL2,hS2⟩;obtain⟨A2,c2,rfl,hby2,hA2,hc2⟩:=hO2.out2 hml.out;have c3:=cpa.out w2 A2 c2 hby2 hc2;replace hL2:=hi_ hL2;replace hS2:=hi_ hS2;clear hO2 hby2 hA2 hc2)
   |(go_at_call 195;(with_reducible refine (c3).mono ?_);rintro e w3 ⟨rfl,hB3⟩;have hL3:=hL2.out.below hB3;have hS3:=hS2.out.then_ hB3;have hT3:=hS3.blk h.out.ne.symm h.out.tk;have t0:=hT3.cell 0;have t2:=hT3.cell 2;have f0:=hT3.frozen 0;have f2:=hT3.frozen 2;replace hL3:=hi_ hL3;replace hS3:=hi_ hS3;replace hT3:=hi_ hT3))
  go_ret
  have hne:=h.out.ne;have hna:=h.out.na;have hlt:=h.out.lt;have hsv:=h.out.sv;exact fin.out _ 1 (fun _=>rfl) (((hT3.out.set_ 0 _).set_ 0 _).set_ 2 _) (((hL3.out.far_ hne hna).far_ hne hna).far_ hne hna) ((((hsv.trans hS3.out).far_ hlt).far_ hlt).far_ hlt)
 |false=>
  go_enter Tryz.func161,Tryz.ntmps161;go_wp2_with (first
   |(go_at_call 162;(with_reducible refine (crun.out).mono ?_);rintro e w2 ⟨v2,rfl,hO2,hL2,hS2⟩;obtain⟨A2,c2,rfl,hby2,hA2,hc2⟩:=hO2.out2 hml.out;have c3:=cpa.out w2 A2 c2 hby2 hc2;replace hL2:=hi_ hL2;replace hS2:=hi_ hS2;clear hO2 hby2 hA2 hc2)
   |(go_at_call 195;(with_reducible refine (c3).mono ?_);rintro e w3 ⟨rfl,hB3⟩;have hL3:=hL2.out.below hB3;have hS3:=hS2.out.then_ hB3;have hT3:=hS3.blk h.out.ne.symm h.out.tk;have t0:=hT3.cell 0;have t2:=hT3.cell 2;have f0:=hT3.frozen 0;have f2:=hT3.frozen 2;replace hL3:=hi_ hL3;replace hS3:=hi_ hS3;replace hT3:=hi_ hT3))
  go_ret
  have hne:=h.out.ne;have hna:=h.out.na;have hlt:=h.out.lt;have hsv:=h.out.sv;exact fin.out _ 2 (fun _=>rfl) ((hT3.out.set_ 0 _).set_ 2 _) ((hL3.out.far_ hne hna).far_ hne hna) (((hsv.trans hS3.out).far_ hlt).far_ hlt)
end
end
section
open Go Go.RowKit Go.Wk Go.Rd Go.Fx
section
variable {L T:Nat}{A:Option Addr}{c:Nat}{bs:Bs}{D P AT:Value}{w0 w w':World}{r r':Bs}
theorem rf (r:Bs):(aN r).length≤r.length:=(List.takeWhile_prefix (p:=bu) (l:=r)).length_le
theorem fz {k:Int}{b:Bs}{u:Bs}{v z:Value}(h:TS L T A c bs D P AT w0 w r) (hT:Blk w' T 119 #[.int .i64 k,AT,.int .i64 0,z]) (hO:Own w0.heap.size w' v b) (hL:LX L A c bs D P w' u) (hS:Save L w0 w') :
 dP L T A c bs D P AT w0 (.ok ⟨k,0,b⟩ u) (.returned (.int .i64 0)) (w'.setCell ⟨T,3,none⟩ v):=
 ⟨rfl,⟨v,hT.set_ 3 v,hO.far_ (hO.not_ hT (by decide))⟩,hL.far_ h.ne h.na,hS.far_ h.lt⟩
theorem jn {k n:Int}{a z:Value}{u:Bs}(h:TS L T A c bs D P AT w0 w r) (hn:n≠0) (hT:Blk w' T 119 #[.int .i64 k,AT,a,z]) (hq:∃q:Int,Blk w' L 55 #[.slice A bs.length c,.int .i64 q,D,P]) (hS:Save L w0 w') :
 dP L T A c bs D P AT w0 (.err n u) (.returned (.int .i64 n)) (w'.setCell ⟨T,3,none⟩ (.slice none 0 0)):=by
 obtain⟨q,hq⟩:=hq;exact⟨hn,rfl,⟨_,_,_,hT.set_ 3 _⟩,⟨q,hq.far h.ne _⟩,hS.far_ h.lt⟩
theorem gv {k x:Int}{u:Bs}(h:TS L T A c bs D P AT w0 w r) (hT:Blk w' T 119 #[.int .i64 0,AT,.int .i64 0,.slice none 0 0]) (hS:Save L w0 w') (hL:LX L A c bs D P ((w'.setCell ⟨T,0,none⟩ (.int .i64 k)).setCell ⟨L,1,none⟩ (.int .i64 x)) u) :
 dP L T A c bs D P AT w0 (.ok ⟨k,0,[]⟩ u) (.returned (.int .i64 0)) ((w'.setCell ⟨T,0,none⟩ (.int .i64 k)).setCell ⟨L,1,none⟩ (.int .i64 x)):=
 ⟨rfl,⟨_,(hT.set_ 0 _).far h.ne.symm _,Own.nil _ _⟩,hL,(hS.far_ h.lt).store 1 _⟩
theorem l6:∀(f:Nat) (out r:Bs) (k:Int) (u:Bs),aJ f out r=.err k u→k≠0
 |0,out,r,k,u,h=>by rw[aJ]at h;cases h;decide
 |f+1,out,[],k,u,h=>by rw[aJ]at h;cases h
 |f+1,out,x :: t,k,u,h=>by
  rw[aJ]at h
  repeat' split at h
  all_goals first
   |(cases h;done)
   |(cases h;decide)
   |exact l6 _ _ _ _ _ h
theorem mt:∀(f op:Nat) (out r:Bs) (k:Int) (u:Bs),textS f op out r=.err k u→k≠0
 |0,op,out,r,k,u,h=>by rw[textS]at h;cases h;decide
 |f+1,op,out,[],k,u,h=>by rw[textS]at h;cases h;decide
 |f+1,op,out,x :: t,k,u,h=>by
  rw[textS.eq_def]at h;simp only[]at h
  repeat' split at h
  all_goals first
   |(cases h;done)
   |(cases h;decide)
   |exact mt _ _ _ _ _ _ h
theorem oz:∀(f:Nat) (g:Int) (out r:Bs) (k:Int) (u:Bs),bm f g out r=.err k u→k≠0
 |0,g,out,r,k,u,h=>by rw[bm]at h;cases h;decide
 |f+1,g,out,[],k,u,h=>by rw[bm]at h;cases h;decide
 |f+1,g,out,x :: t,k,u,h=>by
  rw[bm]at h
  repeat' split at h
  all_goals first
   |(cases h;done)
   |(cases h;decide)
   |exact oz _ _ _ _ _ _ h
theorem oS {x:UInt8}{X:Int}(h:X=(x.toNat:Int)):dR x=((X == 43) || (X == 45) || (X == 46) || (decide (48≤X) && decide (X≤57))):=by
 subst h;unfold dR;rw[aq x 43,aq x 45,aq x 46];rw[Bool.eq_iff_iff];simp;omega
theorem sW (h:TS L T A c bs D P AT w0 w ([])):Calls Tryz.prog 126 #[.pointer (some ⟨L,0,none⟩),.pointer (some ⟨T,0,none⟩)] w (dP L T A c bs D P AT w0 (tokA ([]))):=by
 have hRS:tokA ([])=.ok ⟨0,0,[]⟩ []:=rfl;obtain⟨RS,hR⟩:∃R,R=tokA ([]):=⟨_,rfl⟩;rw[←hR];rw[hRS]at hR;clear hRS;have cp:=fun W h=>dr (L:=L) (A:=A) (c:=c) (bs:=bs) (D:=D) (P:=P) W h
 replace cp:=hi_ cp;obtain⟨q,hq,hq0,hq1⟩:=h.lx.pos_i;have q1:=h.lx.blk.cell 1;have v1:=h.lx.blk.frozen 1;rw[←hq]at q1;have t0:=h.tk.cell 0;have g0:=h.tk.frozen 0;have t3:=h.tk.cell 3;have g3:=h.tk.frozen 3;obtain⟨hL,hS,hT⟩:Hid (LX L A c bs D P w ([]))∧Hid (Save L w0 w)∧Hid (Blk w T 119 #[.int .i64 0,AT,.int .i64 0,.slice none 0 0]):=⟨Lib.hid h.lx,Lib.hid h.sv,Lib.hid h.tk⟩;refine h3_ hq h hR ?_;clear hq h hR;intro hq h hR;go_enter Tryz.func126,Tryz.ntmps126;go_wp2_with (go_at_call 68;(with_reducible refine (cp.out _ hL.out).mono ?_);rintro e w1 ⟨rfl,hB⟩;replace hL:=hi_ (hL.out.below hB);replace hS:=hi_ (hS.out.then_ hB);replace q1:=hL.out.blk.cell 1;rw[←hq.out]at q1;replace v1:=hL.out.blk.frozen 1;replace hT:=hi_ (hT.out.below hB hT.out.lt);replace t0:=hT.out.cell 0;replace g0:=hT.out.frozen 0;replace t3:=hT.out.cell 3;replace g3:=hT.out.frozen 3;clear hB)
 go_ret
 rw[hR.out];exact⟨rfl,⟨_,hT.out,Own.nil _ _⟩,hL.out,hS.out⟩
theorem rr {t:Bs}(h:TS L T A c bs D P AT w0 w (91 :: t)):Calls Tryz.prog 126 #[.pointer (some ⟨L,0,none⟩),.pointer (some ⟨T,0,none⟩)] w (dP L T A c bs D P AT w0 (tokA (91 :: t))):=by
 have hRS:tokA (91 :: t)=.ok ⟨5,0,[]⟩ t:=by rw[tokA,if_pos rfl]
 obtain⟨RS,hR⟩:∃R,R=tokA (91 :: t):=⟨_,rfl⟩;rw[←hR];rw[hRS]at hR;clear hRS;have cp:=fun W h=>aH (L:=L) (A:=A) (c:=c) (bs:=bs) (D:=D) (P:=P) (x:=91) (t:=t) 91 rfl W h
 replace cp:=hi_ cp;obtain⟨q,hq,hq0,hq1⟩:=h.lx.pos_i;have q1:=h.lx.blk.cell 1;have v1:=h.lx.blk.frozen 1;rw[←hq]at q1;have t0:=h.tk.cell 0;have g0:=h.tk.frozen 0;have t3:=h.tk.cell 3;have g3:=h.tk.frozen 3;obtain⟨hL,hS,hT⟩:Hid (LX L A c bs D P w (91 :: t))∧Hid (Save L w0 w)∧Hid (Blk w T 119 #[.int .i64 0,AT,.int .i64 0,.slice none 0 0]):=⟨Lib.hid h.lx,Lib.hid h.sv,Lib.hid h.tk⟩;refine h3_ hq h hR ?_;clear hq h hR;intro hq h hR;go_enter Tryz.func126,Tryz.ntmps126;go_wp2_with (go_at_call 68;(with_reducible refine (cp.out _ hL.out).mono ?_);rintro e w1 ⟨rfl,hB⟩;replace hL:=hi_ (hL.out.below hB);replace hS:=hi_ (hS.out.then_ hB);replace q1:=hL.out.blk.cell 1;rw[←hq.out]at q1;replace v1:=hL.out.blk.frozen 1;replace hT:=hi_ (hT.out.below hB hT.out.lt);replace t0:=hT.out.cell 0;replace g0:=hT.out.frozen 0;replace t3:=hT.out.cell 3;replace g3:=hT.out.frozen 3;clear hB)
 go_ret
 rw[hR.out];have hne:=h.out.ne;have hna:=h.out.na;have hlt:=h.out.lt;exact gv h.out hT.out hS.out ((hL.out.far_ hne hna).next hq.out)
theorem pI {t:Bs}(h:TS L T A c bs D P AT w0 w (93 :: t)):Calls Tryz.prog 126 #[.pointer (some ⟨L,0,none⟩),.pointer (some ⟨T,0,none⟩)] w (dP L T A c bs D P AT w0 (tokA (93 :: t))):=by
 have hRS:tokA (93 :: t)=.ok ⟨6,0,[]⟩ t:=by rw[tokA,if_neg (by decide),if_pos rfl]
 obtain⟨RS,hR⟩:∃R,R=tokA (93 :: t):=⟨_,rfl⟩;rw[←hR];rw[hRS]at hR;clear hRS;have cp:=fun W h=>aH (L:=L) (A:=A) (c:=c) (bs:=bs) (D:=D) (P:=P) (x:=93) (t:=t) 93 rfl W h
 replace cp:=hi_ cp;obtain⟨q,hq,hq0,hq1⟩:=h.lx.pos_i;have q1:=h.lx.blk.cell 1;have v1:=h.lx.blk.frozen 1;rw[←hq]at q1;have t0:=h.tk.cell 0;have g0:=h.tk.frozen 0;have t3:=h.tk.cell 3;have g3:=h.tk.frozen 3;obtain⟨hL,hS,hT⟩:Hid (LX L A c bs D P w (93 :: t))∧Hid (Save L w0 w)∧Hid (Blk w T 119 #[.int .i64 0,AT,.int .i64 0,.slice none 0 0]):=⟨Lib.hid h.lx,Lib.hid h.sv,Lib.hid h.tk⟩;refine h3_ hq h hR ?_;clear hq h hR;intro hq h hR;go_enter Tryz.func126,Tryz.ntmps126;go_wp2_with (go_at_call 68;(with_reducible refine (cp.out _ hL.out).mono ?_);rintro e w1 ⟨rfl,hB⟩;replace hL:=hi_ (hL.out.below hB);replace hS:=hi_ (hS.out.then_ hB);replace q1:=hL.out.blk.cell 1;rw[←hq.out]at q1;replace v1:=hL.out.blk.frozen 1;replace hT:=hi_ (hT.out.below hB hT.out.lt);replace t0:=hT.out.cell 0;replace g0:=hT.out.frozen 0;replace t3:=hT.out.cell 3;replace g3:=hT.out.frozen 3;clear hB)
 go_ret
 rw[hR.out];have hne:=h.out.ne;have hna:=h.out.na;have hlt:=h.out.lt;exact gv h.out hT.out hS.out ((hL.out.far_ hne hna).next hq.out)
theorem ro {t:Bs}(h:TS L T A c bs D P AT w0 w (60 :: 60 :: t)):Calls Tryz.prog 126 #[.pointer (some ⟨L,0,none⟩),.pointer (some ⟨T,0,none⟩)] w (dP L T A c bs D P AT w0 (tokA (60 :: 60 :: t))):=by
 have hRS:tokA (60 :: 60 :: t)=.ok ⟨7,0,[]⟩ t:=by rw[tokA,if_neg (by decide),if_neg (by decide),if_pos ⟨rfl,rfl⟩];rfl
 obtain⟨RS,hR⟩:∃R,R=tokA (60 :: 60 :: t):=⟨_,rfl⟩;rw[←hR];rw[hRS]at hR;clear hRS;have cp:=fun W h=>aH (L:=L) (A:=A) (c:=c) (bs:=bs) (D:=D) (P:=P) (x:=60) (t:=60 :: t) 60 rfl W h
 replace cp:=hi_ cp;have cp1:=(fun W h=>fO W h:∀W,LX L A c bs D P W (60 :: 60 :: t)→Calls Tryz.prog 68 #[.pointer (some ⟨L,0,none⟩),.int .i64 1] W fun e w'=>e=.returned (.int .i64 60)∧Below W.heap.size W w');replace cp1:=hi_ cp1;obtain⟨q,hq,hq0,hq1⟩:=h.lx.pos_i;have q1:=h.lx.blk.cell 1;have v1:=h.lx.blk.frozen 1;rw[←hq]at q1;have t0:=h.tk.cell 0;have g0:=h.tk.frozen 0;have t3:=h.tk.cell 3;have g3:=h.tk.frozen 3;obtain⟨hL,hS,hT⟩:Hid (LX L A c bs D P w (60 :: 60 :: t))∧Hid (Save L w0 w)∧Hid (Blk w T 119 #[.int .i64 0,AT,.int .i64 0,.slice none 0 0]):=⟨Lib.hid h.lx,Lib.hid h.sv,Lib.hid h.tk⟩;refine h3_ hq h hR ?_;clear hq h hR;intro hq h hR;go_enter Tryz.func126,Tryz.ntmps126;go_wp2_with (first|((first|(go_at_call 68;(with_reducible refine (cp.out _ hL.out).mono ?_))|(go_at_call 68;(with_reducible refine (cp1.out _ hL.out).mono ?_)));rintro e w1 ⟨rfl,hB⟩;replace hL:=hi_ (hL.out.below hB);replace hS:=hi_ (hS.out.then_ hB);replace q1:=hL.out.blk.cell 1;rw[←hq.out]at q1;replace v1:=hL.out.blk.frozen 1;replace hT:=hi_ (hT.out.below hB hT.out.lt);replace t0:=hT.out.cell 0;replace g0:=hT.out.frozen 0;replace t3:=hT.out.cell 3;replace g3:=hT.out.frozen 3;clear hB))
 go_ret
 rw[hR.out];have hne:=h.out.ne;have hna:=h.out.na;have hlt:=h.out.lt;have hL2:=(hL.out.far_ (o:=0) (u:=.int .i64 7) hne hna).next2 (by simp) hq.out;exact gv h.out hT.out hS.out hL2
theorem pJ {t:Bs}(h:TS L T A c bs D P AT w0 w (62 :: 62 :: t)):Calls Tryz.prog 126 #[.pointer (some ⟨L,0,none⟩),.pointer (some ⟨T,0,none⟩)] w (dP L T A c bs D P AT w0 (tokA (62 :: 62 :: t))):=by
 have hRS:tokA (62 :: 62 :: t)=.ok ⟨8,0,[]⟩ t:=by rw[tokA,if_neg (by decide),if_neg (by decide),if_neg (by rintro⟨h,_⟩;exact absurd h (by decide)),if_pos ⟨rfl,rfl⟩];rfl
 obtain⟨RS,hR⟩:∃R,R=tokA (62 :: 62 :: t):=⟨_,rfl⟩;rw[←hR];rw[hRS]at hR;clear hRS;have cp:=fun W h=>aH (L:=L) (A:=A) (c:=c) (bs:=bs) (D:=D) (P:=P) (x:=62) (t:=62 :: t) 62 rfl W h
 replace cp:=hi_ cp;have cp1:=(fun W h=>fO W h:∀W,LX L A c bs D P W (62 :: 62 :: t)→Calls Tryz.prog 68 #[.pointer (some ⟨L,0,none⟩),.int .i64 1] W fun e w'=>e=.returned (.int .i64 62)∧Below W.heap.size W w');replace cp1:=hi_ cp1;obtain⟨q,hq,hq0,hq1⟩:=h.lx.pos_i;have q1:=h.lx.blk.cell 1;have v1:=h.lx.blk.frozen 1;rw[←hq]at q1;have t0:=h.tk.cell 0;have g0:=h.tk.frozen 0;have t3:=h.tk.cell 3;have g3:=h.tk.frozen 3;obtain⟨hL,hS,hT⟩:Hid (LX L A c bs D P w (62 :: 62 :: t))∧Hid (Save L w0 w)∧Hid (Blk w T 119 #[.int .i64 0,AT,.int .i64 0,.slice none 0 0]):=⟨Lib.hid h.lx,Lib.hid h.sv,Lib.hid h.tk⟩;refine h3_ hq h hR ?_;clear hq h hR;intro hq h hR;go_enter Tryz.func126,Tryz.ntmps126;go_wp2_with (first|((first|(go_at_call 68;(with_reducible refine (cp.out _ hL.out).mono ?_))|(go_at_call 68;(with_reducible refine (cp1.out _ hL.out).mono ?_)));rintro e w1 ⟨rfl,hB⟩;replace hL:=hi_ (hL.out.below hB);replace hS:=hi_ (hS.out.then_ hB);replace q1:=hL.out.blk.cell 1;rw[←hq.out]at q1;replace v1:=hL.out.blk.frozen 1;replace hT:=hi_ (hT.out.below hB hT.out.lt);replace t0:=hT.out.cell 0;replace g0:=hT.out.frozen 0;replace t3:=hT.out.cell 3;replace g3:=hT.out.frozen 3;clear hB))
 go_ret
 rw[hR.out];have hne:=h.out.ne;have hna:=h.out.na;have hlt:=h.out.lt;have hL2:=(hL.out.far_ (o:=0) (u:=.int .i64 8) hne hna).next2 (by simp) hq.out;exact gv h.out hT.out hS.out hL2
theorem l5:∀(f:Nat) (out r b u:Bs),aJ f out r=.ok b u→out.length≤127→b.length≤1000000
 |0,out,r,b,u,h,_=>by rw[aJ]at h;cases h
 |f+1,out,[],b,u,h,ho=>by rw[aJ]at h;cases h;omega
 |f+1,out,x :: t,b,u,h,ho=>by
  rw[aJ]at h
  repeat' split at h
  all_goals first
   |(cases h;done)
   |(cases h;omega)
   |exact l5 _ _ _ _ _ h (by simp only[List.length_append,List.length_cons,List.length_nil];omega)
theorem ms:∀(f op:Nat) (out r b u:Bs),textS f op out r=.ok b u→out.length≤32767→b.length≤1000000
 |0,op,out,r,b,u,h,_=>by rw[textS]at h;cases h
 |f+1,op,out,[],b,u,h,ho=>by rw[textS]at h;cases h
 |f+1,op,out,x :: t,b,u,h,ho=>by
  rw[textS.eq_def]at h;simp only[]at h
  repeat' split at h
  all_goals first
   |(cases h;done)
   |(cases h;omega)
   |exact ms _ _ _ _ _ _ h (by first|assumption|(simp only[List.length_append,List.length_cons,List.length_nil];omega))
theorem oy:∀(f:Nat) (g:Int) (out r b u:Bs),bm f g out r=.ok b u→out.length≤32767→b.length≤1000000
 |0,g,out,r,b,u,h,_=>by rw[bm]at h;cases h
 |f+1,g,out,[],b,u,h,ho=>by rw[bm]at h;cases h
 |f+1,g,out,x :: t,b,u,h,ho=>by
  rw[bm]at h
  repeat' split at h
  all_goals first
   |(cases h;done)
   |(cases h;omega)
   |(cases h;simp only[List.length_append,List.length_cons,List.length_nil];omega)
   |exact oy _ _ _ _ _ _ h (by first|assumption|(simp only[List.length_append,List.length_cons,List.length_nil];omega))
theorem rp {t:Bs}(h:TS L T A c bs D P AT w0 w (47 :: t)):Calls Tryz.prog 126 #[.pointer (some ⟨L,0,none⟩),.pointer (some ⟨T,0,none⟩)] w (dP L T A c bs D P AT w0 (tokA (47 :: t))):=by
 have hRS:tokA (47 :: t)=bw 4 (47 :: t) (aJ (t.length+1) [] t):=by rw[tokA,if_neg (by decide),if_neg (by decide),if_neg (by rintro⟨h,_⟩;exact absurd h (by decide)),if_neg (by rintro⟨h,_⟩;exact absurd h (by decide)),if_pos rfl]
 obtain⟨RS,hR⟩:∃R,R=tokA (47 :: t):=⟨_,rfl⟩;rw[←hR];rw[hRS]at hR;clear hRS;have cn:=fun W (h:LX L A c bs D P W t)=>rh h
 obtain⟨N,hN⟩:∃N,N=aJ (t.length+1) [] t:=⟨_,rfl⟩;have hne9:=fun k u (h:N=.err k u)=>l6 _ _ _ k u (hN.symm.trans h)
 rw[←hN]at cn hR;refine h3_ cn hN hne9 ?_;clear cn hN hne9;intro cn hN hne9;have cp:=fun W h=>aH (L:=L) (A:=A) (c:=c) (bs:=bs) (D:=D) (P:=P) (x:=47) (t:=t) 47 rfl W h
 replace cp:=hi_ cp;obtain⟨q,hq,hq0,hq1⟩:=h.lx.pos_i;have q1:=h.lx.blk.cell 1;have v1:=h.lx.blk.frozen 1;rw[←hq]at q1;have t0:=h.tk.cell 0;have g0:=h.tk.frozen 0;have t3:=h.tk.cell 3;have g3:=h.tk.frozen 3;obtain⟨hL,hS,hT⟩:Hid (LX L A c bs D P w (47 :: t))∧Hid (Save L w0 w)∧Hid (Blk w T 119 #[.int .i64 0,AT,.int .i64 0,.slice none 0 0]):=⟨Lib.hid h.lx,Lib.hid h.sv,Lib.hid h.tk⟩;refine h3_ hq h hR ?_;clear hq h hR;intro hq h hR;cases N with
 |ok b4 u4=>
  have hbl:b4.length≤1000000:=l5 _ _ _ _ _ hN.out.symm (by simp);replace hbl:=hi_ hbl;simp only[bw]at hR;go_enter Tryz.func126,Tryz.ntmps126;go_wp2_with (first
   |(go_at_call 68;(with_reducible refine (cp.out _ hL.out).mono ?_);rintro e w1 ⟨rfl,hB⟩;replace hL:=hi_ (hL.out.below hB);replace hS:=hi_ (hS.out.then_ hB);replace q1:=hL.out.blk.cell 1;rw[←hq.out]at q1;replace v1:=hL.out.blk.frozen 1;replace hT:=hi_ (hT.out.below hB hT.out.lt);replace t0:=hT.out.cell 0;replace g0:=hT.out.frozen 0;replace t3:=hT.out.cell 3;replace g3:=hT.out.frozen 3;clear hB)
   |(go_at_call 158;(with_reducible refine (cn.out _ ((hL.out.next hq.out).far_ h.out.ne h.out.na)).mono ?_);rintro e w4 ⟨v4,rfl,hO4,hL4,hS4⟩;have hT4:=hS4.blk h.out.ne.symm ((hT.out.far (p:=⟨L,1,none⟩) h.out.ne.symm _).set_ 0 (.int .i64 4));replace t3:=hT4.cell 3;replace g3:=hT4.frozen 3;obtain⟨A4,c4,rfl,_,_,_⟩:=hO4.out2 (by unfold maxLen;have:=hbl.out;omega);replace hO4:=hi_ hO4;replace hL4:=hi_ hL4;replace hT4:=hi_ hT4;replace hS4:=hi_ hS4))
  go_ret
  rw[hR.out];have hsz:=hS.out.size;have hS5:Save L w0 w4:=((hS.out.store 1 _).far_ h.out.lt).trans hS4.out;exact fz h.out hT4.out (hO4.out.base (by simpa [World.setCell] using hsz)) hL4.out hS5
 |err k4 u4=>
  simp only[bw]at hR;go_enter Tryz.func126,Tryz.ntmps126;go_wp2_with (first
   |(go_at_call 68;(with_reducible refine (cp.out _ hL.out).mono ?_);rintro e w1 ⟨rfl,hB⟩;replace hL:=hi_ (hL.out.below hB);replace hS:=hi_ (hS.out.then_ hB);replace q1:=hL.out.blk.cell 1;rw[←hq.out]at q1;replace v1:=hL.out.blk.frozen 1;replace hT:=hi_ (hT.out.below hB hT.out.lt);replace t0:=hT.out.cell 0;replace g0:=hT.out.frozen 0;replace t3:=hT.out.cell 3;replace g3:=hT.out.frozen 3;clear hB)
   |(go_at_call 158;(with_reducible refine (cn.out _ ((hL.out.next hq.out).far_ h.out.ne h.out.na)).mono ?_);rintro e w4 ⟨rfl,hq4,hS4⟩;have hT4:=hS4.blk h.out.ne.symm ((hT.out.far (p:=⟨L,1,none⟩) h.out.ne.symm _).set_ 0 (.int .i64 4));replace t3:=hT4.cell 3;replace g3:=hT4.frozen 3;replace hq4:=hi_ hq4;replace hT4:=hi_ hT4;replace hS4:=hi_ hS4))
  go_ret
  rw[hR.out];have hS5:Save L w0 w4:=((hS.out.store 1 _).far_ h.out.lt).trans hS4.out;exact jn h.out (hne9.out _ _ rfl) hT4.out hq4.out hS5
theorem rt {t:Bs}(h:TS L T A c bs D P AT w0 w (40 :: t)):Calls Tryz.prog 126 #[.pointer (some ⟨L,0,none⟩),.pointer (some ⟨T,0,none⟩)] w (dP L T A c bs D P AT w0 (tokA (40 :: t))):=by
 have hRS:tokA (40 :: t)=bw 3 (40 :: t) (textS (t.length+1) 1 [] t):=by rw[tokA,if_neg (by decide),if_neg (by decide),if_neg (by rintro⟨h,_⟩;exact absurd h (by decide)),if_neg (by rintro⟨h,_⟩;exact absurd h (by decide)),if_neg (by decide),if_pos rfl]
 obtain⟨RS,hR⟩:∃R,R=tokA (40 :: t):=⟨_,rfl⟩;rw[←hR];rw[hRS]at hR;clear hRS;have cn:=fun W (h:LX L A c bs D P W t)=>ri h
 obtain⟨N,hN⟩:∃N,N=textS (t.length+1) 1 [] t:=⟨_,rfl⟩;have hne9:=fun k u (h:N=.err k u)=>mt _ _ _ _ k u (hN.symm.trans h)
 rw[←hN]at cn hR;refine h3_ cn hN hne9 ?_;clear cn hN hne9;intro cn hN hne9;have cp:=fun W h=>aH (L:=L) (A:=A) (c:=c) (bs:=bs) (D:=D) (P:=P) (x:=40) (t:=t) 40 rfl W h
 replace cp:=hi_ cp;obtain⟨q,hq,hq0,hq1⟩:=h.lx.pos_i;have q1:=h.lx.blk.cell 1;have v1:=h.lx.blk.frozen 1;rw[←hq]at q1;have t0:=h.tk.cell 0;have g0:=h.tk.frozen 0;have t3:=h.tk.cell 3;have g3:=h.tk.frozen 3;obtain⟨hL,hS,hT⟩:Hid (LX L A c bs D P w (40 :: t))∧Hid (Save L w0 w)∧Hid (Blk w T 119 #[.int .i64 0,AT,.int .i64 0,.slice none 0 0]):=⟨Lib.hid h.lx,Lib.hid h.sv,Lib.hid h.tk⟩;refine h3_ hq h hR ?_;clear hq h hR;intro hq h hR;cases N with
 |ok b4 u4=>
  have hbl:b4.length≤1000000:=ms _ _ _ _ _ _ hN.out.symm (by simp);replace hbl:=hi_ hbl;simp only[bw]at hR;go_enter Tryz.func126,Tryz.ntmps126;go_wp2_with (first
   |(go_at_call 68;(with_reducible refine (cp.out _ hL.out).mono ?_);rintro e w1 ⟨rfl,hB⟩;replace hL:=hi_ (hL.out.below hB);replace hS:=hi_ (hS.out.then_ hB);replace q1:=hL.out.blk.cell 1;rw[←hq.out]at q1;replace v1:=hL.out.blk.frozen 1;replace hT:=hi_ (hT.out.below hB hT.out.lt);replace t0:=hT.out.cell 0;replace g0:=hT.out.frozen 0;replace t3:=hT.out.cell 3;replace g3:=hT.out.frozen 3;clear hB)
   |(go_at_call 159;(with_reducible refine (cn.out _ ((hL.out.next hq.out).far_ h.out.ne h.out.na)).mono ?_);rintro e w4 ⟨v4,rfl,hO4,hL4,hS4⟩;have hT4:=hS4.blk h.out.ne.symm ((hT.out.far (p:=⟨L,1,none⟩) h.out.ne.symm _).set_ 0 (.int .i64 3));replace t3:=hT4.cell 3;replace g3:=hT4.frozen 3;obtain⟨A4,c4,rfl,_,_,_⟩:=hO4.out2 (by unfold maxLen;have:=hbl.out;omega);replace hO4:=hi_ hO4;replace hL4:=hi_ hL4;replace hT4:=hi_ hT4;replace hS4:=hi_ hS4))
  go_ret
  rw[hR.out];have hsz:=hS.out.size;have hS5:Save L w0 w4:=((hS.out.store 1 _).far_ h.out.lt).trans hS4.out;exact fz h.out hT4.out (hO4.out.base (by simpa [World.setCell] using hsz)) hL4.out hS5
 |err k4 u4=>
  simp only[bw]at hR;go_enter Tryz.func126,Tryz.ntmps126;go_wp2_with (first
   |(go_at_call 68;(with_reducible refine (cp.out _ hL.out).mono ?_);rintro e w1 ⟨rfl,hB⟩;replace hL:=hi_ (hL.out.below hB);replace hS:=hi_ (hS.out.then_ hB);replace q1:=hL.out.blk.cell 1;rw[←hq.out]at q1;replace v1:=hL.out.blk.frozen 1;replace hT:=hi_ (hT.out.below hB hT.out.lt);replace t0:=hT.out.cell 0;replace g0:=hT.out.frozen 0;replace t3:=hT.out.cell 3;replace g3:=hT.out.frozen 3;clear hB)
   |(go_at_call 159;(with_reducible refine (cn.out _ ((hL.out.next hq.out).far_ h.out.ne h.out.na)).mono ?_);rintro e w4 ⟨rfl,hq4,hS4⟩;have hT4:=hS4.blk h.out.ne.symm ((hT.out.far (p:=⟨L,1,none⟩) h.out.ne.symm _).set_ 0 (.int .i64 3));replace t3:=hT4.cell 3;replace g3:=hT4.frozen 3;replace hq4:=hi_ hq4;replace hT4:=hi_ hT4;replace hS4:=hi_ hS4))
  go_ret
  rw[hR.out];have hS5:Save L w0 w4:=((hS.out.store 1 _).far_ h.out.lt).trans hS4.out;exact jn h.out (hne9.out _ _ rfl) hT4.out hq4.out hS5
theorem oW {x n:UInt8}{t:Bs}(h:¬t[0]?=some n):(pk (x :: t) 1 == (n.toNat:Int))=false:=by
 rw[beq_eq_false_iff_ne];intro e;unfold pk at e;rw[List.getElem?_cons_succ]at e;cases h9:t[0]? with
 |none=>rw[h9]at e;simp only[]at e;omega
 |some b=>
  rw[h9]at e h;have:b=n:=UInt8.toNat_inj.1 (by simp only[]at e;omega);exact h (by rw[this])
theorem sS {t:Bs}(hp:¬t[0]?=some 60) (h:TS L T A c bs D P AT w0 w (60 :: t)):Calls Tryz.prog 126 #[.pointer (some ⟨L,0,none⟩),.pointer (some ⟨T,0,none⟩)] w (dP L T A c bs D P AT w0 (tokA (60 :: t))):=by
 have hRS:tokA (60 :: t)=bw 3 (60 :: t) (bm (t.length+1) (-1) [] t):=by rw[tokA,if_neg (by decide),if_neg (by decide),if_neg (fun h=>hp h.2),if_neg (by rintro⟨h,_⟩;exact absurd h (by decide)),if_neg (by decide),if_neg (by decide),if_pos rfl]
 obtain⟨RS,hR⟩:∃R,R=tokA (60 :: t):=⟨_,rfl⟩;rw[←hR];rw[hRS]at hR;clear hRS;have cn:=fun W (h:LX L A c bs D P W t)=>sH h
 obtain⟨N,hN⟩:∃N,N=bm (t.length+1) (-1) [] t:=⟨_,rfl⟩;have hne9:=fun k u (h:N=.err k u)=>oz _ _ _ _ k u (hN.symm.trans h)
 rw[←hN]at cn hR;refine h3_ cn hN hne9 ?_;clear cn hN hne9;intro cn hN hne9;obtain⟨pb,hpb⟩:∃p,p=pk (60 :: t) 1:=⟨_,rfl⟩;have hpn:(pb == 60)=false:=by rw[hpb];exact oW hp
 have cp1:=fun W (h:LX L A c bs D P W (60 :: t))=>fO W h
 rw[←hpb]at cp1;replace cp1:=hi_ cp1;replace hpb:=hi_ hpb;clear hp;have cp:=fun W h=>aH (L:=L) (A:=A) (c:=c) (bs:=bs) (D:=D) (P:=P) (x:=60) (t:=t) 60 rfl W h
 replace cp:=hi_ cp;obtain⟨q,hq,hq0,hq1⟩:=h.lx.pos_i;have q1:=h.lx.blk.cell 1;have v1:=h.lx.blk.frozen 1;rw[←hq]at q1;have t0:=h.tk.cell 0;have g0:=h.tk.frozen 0;have t3:=h.tk.cell 3;have g3:=h.tk.frozen 3;obtain⟨hL,hS,hT⟩:Hid (LX L A c bs D P w (60 :: t))∧Hid (Save L w0 w)∧Hid (Blk w T 119 #[.int .i64 0,AT,.int .i64 0,.slice none 0 0]):=⟨Lib.hid h.lx,Lib.hid h.sv,Lib.hid h.tk⟩;refine h3_ hq h hR ?_;clear hq h hR;intro hq h hR;cases N with
 |ok b4 u4=>
  have hbl:b4.length≤1000000:=oy _ _ _ _ _ _ hN.out.symm (by simp);replace hbl:=hi_ hbl;simp only[bw]at hR;go_enter Tryz.func126,Tryz.ntmps126;go_wp2_with (first|((first|(go_at_call 68;(with_reducible refine (cp.out _ hL.out).mono ?_))|(go_at_call 68;(with_reducible refine (cp1.out _ hL.out).mono ?_)));rintro e w1 ⟨rfl,hB⟩;replace hL:=hi_ (hL.out.below hB);replace hS:=hi_ (hS.out.then_ hB);replace q1:=hL.out.blk.cell 1;rw[←hq.out]at q1;replace v1:=hL.out.blk.frozen 1;replace hT:=hi_ (hT.out.below hB hT.out.lt);replace t0:=hT.out.cell 0;replace g0:=hT.out.frozen 0;replace t3:=hT.out.cell 3;replace g3:=hT.out.frozen 3;clear hB)|(go_at_call 160;(with_reducible refine (cn.out _ ((hL.out.next hq.out).far_ h.out.ne h.out.na)).mono ?_);rintro e w4 ⟨v4,rfl,hO4,hL4,hS4⟩;have hT4:=hS4.blk h.out.ne.symm ((hT.out.far (p:=⟨L,1,none⟩) h.out.ne.symm _).set_ 0 (.int .i64 3));replace t3:=hT4.cell 3;replace g3:=hT4.frozen 3;obtain⟨A4,c4,rfl,_,_,_⟩:=hO4.out2 (by unfold maxLen;have:=hbl.out;omega);replace hO4:=hi_ hO4;replace hL4:=hi_ hL4;replace hT4:=hi_ hT4;replace hS4:=hi_ hS4))
  go_ret
  rw[hR.out];have hsz:=hS.out.size;have hS5:Save L w0 w4:=((hS.out.store 1 _).far_ h.out.lt).trans hS4.out;exact fz h.out hT4.out (hO4.out.base (by simpa [World.setCell] using hsz)) hL4.out hS5
 |err k4 u4=>
  simp only[bw]at hR;go_enter Tryz.func126,Tryz.ntmps126;go_wp2_with (first|((first|(go_at_call 68;(with_reducible refine (cp.out _ hL.out).mono ?_))|(go_at_call 68;(with_reducible refine (cp1.out _ hL.out).mono ?_)));rintro e w1 ⟨rfl,hB⟩;replace hL:=hi_ (hL.out.below hB);replace hS:=hi_ (hS.out.then_ hB);replace q1:=hL.out.blk.cell 1;rw[←hq.out]at q1;replace v1:=hL.out.blk.frozen 1;replace hT:=hi_ (hT.out.below hB hT.out.lt);replace t0:=hT.out.cell 0;replace g0:=hT.out.frozen 0;replace t3:=hT.out.cell 3;replace g3:=hT.out.frozen 3;clear hB)|(go_at_call 160;(with_reducible refine (cn.out _ ((hL.out.next hq.out).far_ h.out.ne h.out.na)).mono ?_);rintro e w4 ⟨rfl,hq4,hS4⟩;have hT4:=hS4.blk h.out.ne.symm ((hT.out.far (p:=⟨L,1,none⟩) h.out.ne.symm _).set_ 0 (.int .i64 3));replace t3:=hT4.cell 3;replace g3:=hT4.frozen 3;replace hq4:=hi_ hq4;replace hT4:=hi_ hT4;replace hS4:=hi_ hS4))
  go_ret
  rw[hR.out];have hS5:Save L w0 w4:=((hS.out.store 1 _).far_ h.out.lt).trans hS4.out;exact jn h.out (hne9.out _ _ rfl) hT4.out hq4.out hS5
theorem tL {t:Bs}(hp:¬t[0]?=some 62) (h:TS L T A c bs D P AT w0 w (62 :: t)):Calls Tryz.prog 126 #[.pointer (some ⟨L,0,none⟩),.pointer (some ⟨T,0,none⟩)] w (dP L T A c bs D P AT w0 (tokA (62 :: t))):=by
 have hRS:tokA (62 :: t)=.err 4 (62 :: t):=by rw[tokA,if_neg (by decide),if_neg (by decide),if_neg (by rintro⟨h,_⟩;exact absurd h (by decide)),if_neg (fun h=>hp h.2),if_neg (by decide),if_neg (by decide),if_neg (by decide),if_neg (by decide),if_neg (by decide)]
 obtain⟨RS,hR⟩:∃R,R=tokA (62 :: t):=⟨_,rfl⟩;rw[←hR];rw[hRS]at hR;clear hRS;obtain⟨pb,hpb⟩:∃p,p=pk (62 :: t) 1:=⟨_,rfl⟩;have hpn:(pb == 62)=false:=by rw[hpb];exact oW hp
 have cp1:=fun W (h:LX L A c bs D P W (62 :: t))=>fO W h
 rw[←hpb]at cp1;replace cp1:=hi_ cp1;replace hpb:=hi_ hpb;clear hp;have cr:∀W,Calls Tryz.prog 67 #[.int .i64 62] W fun e w'=>e=.returned (.bool false)∧W=w':=fun W=>by have:=bV (w:=W) 62 (by omega);rw[show rgI 62=false from rfl]at this;exact this
 replace cr:=hi_ cr;have cp:=fun W h=>aH (L:=L) (A:=A) (c:=c) (bs:=bs) (D:=D) (P:=P) (x:=62) (t:=t) 62 rfl W h
 replace cp:=hi_ cp;obtain⟨q,hq,hq0,hq1⟩:=h.lx.pos_i;have q1:=h.lx.blk.cell 1;have v1:=h.lx.blk.frozen 1;rw[←hq]at q1;have t0:=h.tk.cell 0;have g0:=h.tk.frozen 0;have t3:=h.tk.cell 3;have g3:=h.tk.frozen 3;obtain⟨hL,hS,hT⟩:Hid (LX L A c bs D P w (62 :: t))∧Hid (Save L w0 w)∧Hid (Blk w T 119 #[.int .i64 0,AT,.int .i64 0,.slice none 0 0]):=⟨Lib.hid h.lx,Lib.hid h.sv,Lib.hid h.tk⟩;refine h3_ hq h hR ?_;clear hq h hR;intro hq h hR;go_enter Tryz.func126,Tryz.ntmps126;go_wp2_with (first|((first|(go_at_call 68;(with_reducible refine (cp.out _ hL.out).mono ?_))|(go_at_call 68;(with_reducible refine (cp1.out _ hL.out).mono ?_)));rintro e w1 ⟨rfl,hB⟩;replace hL:=hi_ (hL.out.below hB);replace hS:=hi_ (hS.out.then_ hB);replace q1:=hL.out.blk.cell 1;rw[←hq.out]at q1;replace v1:=hL.out.blk.frozen 1;replace hT:=hi_ (hT.out.below hB hT.out.lt);replace t0:=hT.out.cell 0;replace g0:=hT.out.frozen 0;replace t3:=hT.out.cell 3;replace g3:=hT.out.frozen 3;clear hB)|(go_at_call 67;(with_reducible refine (cr.out _).mono ?_);rintro e w2 ⟨rfl,rfl⟩))
 go_ret
 rw[hR.out];exact⟨by decide,rfl,⟨_,_,_,hT.out⟩,hL.out.at_,hS.out⟩
theorem sT {t:Bs}(h:TS L T A c bs D P AT w0 w (43 :: t)):Calls Tryz.prog 126 #[.pointer (some ⟨L,0,none⟩),.pointer (some ⟨T,0,none⟩)] w (dP L T A c bs D P AT w0 (tokA (43 :: t))):=by
 have hRS:tokA (43 :: t)=dS (43 :: t):=by rw[tokA,if_neg (by decide),if_neg (by decide),if_neg (by rintro⟨h,_⟩;exact absurd h (by decide)),if_neg (by rintro⟨h,_⟩;exact absurd h (by decide)),if_neg (by decide),if_neg (by decide),if_neg (by decide),if_pos (by decide)]
 obtain⟨RS,hR⟩:∃R,R=tokA (43 :: t):=⟨_,rfl⟩;rw[←hR];rw[hRS]at hR;clear hRS;have cn:=fun W (h:TS L T A c bs D P AT w0 W (43 :: t))=>eM h (by simp)
 obtain⟨N,hN⟩:∃N,N=dS (43 :: t):=⟨_,rfl⟩;rw[←hN]at cn hR;replace cn:=hi_ cn;clear hN;have cp:=fun W h=>aH (L:=L) (A:=A) (c:=c) (bs:=bs) (D:=D) (P:=P) (x:=43) (t:=t) 43 rfl W h
 replace cp:=hi_ cp;obtain⟨q,hq,hq0,hq1⟩:=h.lx.pos_i;have q1:=h.lx.blk.cell 1;have v1:=h.lx.blk.frozen 1;rw[←hq]at q1;have t0:=h.tk.cell 0;have g0:=h.tk.frozen 0;have t3:=h.tk.cell 3;have g3:=h.tk.frozen 3;obtain⟨hL,hS,hT⟩:Hid (LX L A c bs D P w (43 :: t))∧Hid (Save L w0 w)∧Hid (Blk w T 119 #[.int .i64 0,AT,.int .i64 0,.slice none 0 0]):=⟨Lib.hid h.lx,Lib.hid h.sv,Lib.hid h.tk⟩;refine h3_ hq h hR ?_;clear hq h hR;intro hq h hR;cases N with
 |ok k4 u4=>
  go_enter Tryz.func126,Tryz.ntmps126;go_wp2_with (first
   |(go_at_call 68;(with_reducible refine (cp.out _ hL.out).mono ?_);rintro e w1 ⟨rfl,hB⟩;replace hL:=hi_ (hL.out.below hB);replace hS:=hi_ (hS.out.then_ hB);replace q1:=hL.out.blk.cell 1;rw[←hq.out]at q1;replace v1:=hL.out.blk.frozen 1;replace hT:=hi_ (hT.out.below hB hT.out.lt);replace t0:=hT.out.cell 0;replace g0:=hT.out.frozen 0;replace t3:=hT.out.cell 3;replace g3:=hT.out.frozen 3;clear hB)
   |(go_at_call 161;(with_reducible refine (cn.out _ ⟨hL.out,hT.out,hS.out,h.out.ll,h.out.lt,h.out.off⟩).mono ?_);rintro e w4 ⟨rfl,k1,k2,k3⟩;replace k1:=hi_ k1;replace k2:=hi_ k2;replace k3:=hi_ k3))
  go_ret
  rw[hR.out];exact⟨rfl,k1.out,k2.out,k3.out⟩
 |err k4 u4=>
  go_enter Tryz.func126,Tryz.ntmps126;go_wp2_with (first
   |(go_at_call 68;(with_reducible refine (cp.out _ hL.out).mono ?_);rintro e w1 ⟨rfl,hB⟩;replace hL:=hi_ (hL.out.below hB);replace hS:=hi_ (hS.out.then_ hB);replace q1:=hL.out.blk.cell 1;rw[←hq.out]at q1;replace v1:=hL.out.blk.frozen 1;replace hT:=hi_ (hT.out.below hB hT.out.lt);replace t0:=hT.out.cell 0;replace g0:=hT.out.frozen 0;replace t3:=hT.out.cell 3;replace g3:=hT.out.frozen 3;clear hB)
   |(go_at_call 161;(with_reducible refine (cn.out _ ⟨hL.out,hT.out,hS.out,h.out.ll,h.out.lt,h.out.off⟩).mono ?_);rintro e w4 ⟨k0,rfl,k1,k2,k3⟩;replace k1:=hi_ k1;replace k2:=hi_ k2;replace k3:=hi_ k3))
  go_ret
  rw[hR.out];exact⟨k0,rfl,k1.out,k2.out,k3.out⟩
theorem sU {t:Bs}(h:TS L T A c bs D P AT w0 w (45 :: t)):Calls Tryz.prog 126 #[.pointer (some ⟨L,0,none⟩),.pointer (some ⟨T,0,none⟩)] w (dP L T A c bs D P AT w0 (tokA (45 :: t))):=by
 have hRS:tokA (45 :: t)=dS (45 :: t):=by rw[tokA,if_neg (by decide),if_neg (by decide),if_neg (by rintro⟨h,_⟩;exact absurd h (by decide)),if_neg (by rintro⟨h,_⟩;exact absurd h (by decide)),if_neg (by decide),if_neg (by decide),if_neg (by decide),if_pos (by decide)]
 obtain⟨RS,hR⟩:∃R,R=tokA (45 :: t):=⟨_,rfl⟩;rw[←hR];rw[hRS]at hR;clear hRS;have cn:=fun W (h:TS L T A c bs D P AT w0 W (45 :: t))=>eM h (by simp)
 obtain⟨N,hN⟩:∃N,N=dS (45 :: t):=⟨_,rfl⟩;rw[←hN]at cn hR;replace cn:=hi_ cn;clear hN;have cp:=fun W h=>aH (L:=L) (A:=A) (c:=c) (bs:=bs) (D:=D) (P:=P) (x:=45) (t:=t) 45 rfl W h
 replace cp:=hi_ cp;obtain⟨q,hq,hq0,hq1⟩:=h.lx.pos_i;have q1:=h.lx.blk.cell 1;have v1:=h.lx.blk.frozen 1;rw[←hq]at q1;have t0:=h.tk.cell 0;have g0:=h.tk.frozen 0;have t3:=h.tk.cell 3;have g3:=h.tk.frozen 3;obtain⟨hL,hS,hT⟩:Hid (LX L A c bs D P w (45 :: t))∧Hid (Save L w0 w)∧Hid (Blk w T 119 #[.int .i64 0,AT,.int .i64 0,.slice none 0 0]):=⟨Lib.hid h.lx,Lib.hid h.sv,Lib.hid h.tk⟩;refine h3_ hq h hR ?_;clear hq h hR;intro hq h hR;cases N with
 |ok k4 u4=>
  go_enter Tryz.func126,Tryz.ntmps126;go_wp2_with (first
   |(go_at_call 68;(with_reducible refine (cp.out _ hL.out).mono ?_);rintro e w1 ⟨rfl,hB⟩;replace hL:=hi_ (hL.out.below hB);replace hS:=hi_ (hS.out.then_ hB);replace q1:=hL.out.blk.cell 1;rw[←hq.out]at q1;replace v1:=hL.out.blk.frozen 1;replace hT:=hi_ (hT.out.below hB hT.out.lt);replace t0:=hT.out.cell 0;replace g0:=hT.out.frozen 0;replace t3:=hT.out.cell 3;replace g3:=hT.out.frozen 3;clear hB)
   |(go_at_call 161;(with_reducible refine (cn.out _ ⟨hL.out,hT.out,hS.out,h.out.ll,h.out.lt,h.out.off⟩).mono ?_);rintro e w4 ⟨rfl,k1,k2,k3⟩;replace k1:=hi_ k1;replace k2:=hi_ k2;replace k3:=hi_ k3))
  go_ret
  rw[hR.out];exact⟨rfl,k1.out,k2.out,k3.out⟩
 |err k4 u4=>
  go_enter Tryz.func126,Tryz.ntmps126;go_wp2_with (first
   |(go_at_call 68;(with_reducible refine (cp.out _ hL.out).mono ?_);rintro e w1 ⟨rfl,hB⟩;replace hL:=hi_ (hL.out.below hB);replace hS:=hi_ (hS.out.then_ hB);replace q1:=hL.out.blk.cell 1;rw[←hq.out]at q1;replace v1:=hL.out.blk.frozen 1;replace hT:=hi_ (hT.out.below hB hT.out.lt);replace t0:=hT.out.cell 0;replace g0:=hT.out.frozen 0;replace t3:=hT.out.cell 3;replace g3:=hT.out.frozen 3;clear hB)
   |(go_at_call 161;(with_reducible refine (cn.out _ ⟨hL.out,hT.out,hS.out,h.out.ll,h.out.lt,h.out.off⟩).mono ?_);rintro e w4 ⟨k0,rfl,k1,k2,k3⟩;replace k1:=hi_ k1;replace k2:=hi_ k2;replace k3:=hi_ k3))
  go_ret
  rw[hR.out];exact⟨k0,rfl,k1.out,k2.out,k3.out⟩
theorem sV {t:Bs}(h:TS L T A c bs D P AT w0 w (46 :: t)):Calls Tryz.prog 126 #[.pointer (some ⟨L,0,none⟩),.pointer (some ⟨T,0,none⟩)] w (dP L T A c bs D P AT w0 (tokA (46 :: t))):=by
 have hRS:tokA (46 :: t)=dS (46 :: t):=by rw[tokA,if_neg (by decide),if_neg (by decide),if_neg (by rintro⟨h,_⟩;exact absurd h (by decide)),if_neg (by rintro⟨h,_⟩;exact absurd h (by decide)),if_neg (by decide),if_neg (by decide),if_neg (by decide),if_pos (by decide)]
 obtain⟨RS,hR⟩:∃R,R=tokA (46 :: t):=⟨_,rfl⟩;rw[←hR];rw[hRS]at hR;clear hRS;have cn:=fun W (h:TS L T A c bs D P AT w0 W (46 :: t))=>eM h (by simp)
 obtain⟨N,hN⟩:∃N,N=dS (46 :: t):=⟨_,rfl⟩;rw[←hN]at cn hR;replace cn:=hi_ cn;clear hN;have cp:=fun W h=>aH (L:=L) (A:=A) (c:=c) (bs:=bs) (D:=D) (P:=P) (x:=46) (t:=t) 46 rfl W h
 replace cp:=hi_ cp;obtain⟨q,hq,hq0,hq1⟩:=h.lx.pos_i;have q1:=h.lx.blk.cell 1;have v1:=h.lx.blk.frozen 1;rw[←hq]at q1;have t0:=h.tk.cell 0;have g0:=h.tk.frozen 0;have t3:=h.tk.cell 3;have g3:=h.tk.frozen 3;obtain⟨hL,hS,hT⟩:Hid (LX L A c bs D P w (46 :: t))∧Hid (Save L w0 w)∧Hid (Blk w T 119 #[.int .i64 0,AT,.int .i64 0,.slice none 0 0]):=⟨Lib.hid h.lx,Lib.hid h.sv,Lib.hid h.tk⟩;refine h3_ hq h hR ?_;clear hq h hR;intro hq h hR;cases N with
 |ok k4 u4=>
  go_enter Tryz.func126,Tryz.ntmps126;go_wp2_with (first
   |(go_at_call 68;(with_reducible refine (cp.out _ hL.out).mono ?_);rintro e w1 ⟨rfl,hB⟩;replace hL:=hi_ (hL.out.below hB);replace hS:=hi_ (hS.out.then_ hB);replace q1:=hL.out.blk.cell 1;rw[←hq.out]at q1;replace v1:=hL.out.blk.frozen 1;replace hT:=hi_ (hT.out.below hB hT.out.lt);replace t0:=hT.out.cell 0;replace g0:=hT.out.frozen 0;replace t3:=hT.out.cell 3;replace g3:=hT.out.frozen 3;clear hB)
   |(go_at_call 161;(with_reducible refine (cn.out _ ⟨hL.out,hT.out,hS.out,h.out.ll,h.out.lt,h.out.off⟩).mono ?_);rintro e w4 ⟨rfl,k1,k2,k3⟩;replace k1:=hi_ k1;replace k2:=hi_ k2;replace k3:=hi_ k3))
  go_ret
  rw[hR.out];exact⟨rfl,k1.out,k2.out,k3.out⟩
 |err k4 u4=>
  go_enter Tryz.func126,Tryz.ntmps126;go_wp2_with (first
   |(go_at_call 68;(with_reducible refine (cp.out _ hL.out).mono ?_);rintro e w1 ⟨rfl,hB⟩;replace hL:=hi_ (hL.out.below hB);replace hS:=hi_ (hS.out.then_ hB);replace q1:=hL.out.blk.cell 1;rw[←hq.out]at q1;replace v1:=hL.out.blk.frozen 1;replace hT:=hi_ (hT.out.below hB hT.out.lt);replace t0:=hT.out.cell 0;replace g0:=hT.out.frozen 0;replace t3:=hT.out.cell 3;replace g3:=hT.out.frozen 3;clear hB)
   |(go_at_call 161;(with_reducible refine (cn.out _ ⟨hL.out,hT.out,hS.out,h.out.ll,h.out.lt,h.out.off⟩).mono ?_);rintro e w4 ⟨k0,rfl,k1,k2,k3⟩;replace k1:=hi_ k1;replace k2:=hi_ k2;replace k3:=hi_ k3))
  go_ret
  rw[hR.out];exact⟨k0,rfl,k1.out,k2.out,k3.out⟩
theorem pN {x:UInt8}{t:Bs}(hd:isD x=true):tokA (x :: t)=dS (x :: t):=by
 obtain⟨e1,e2,e3,e4,e5,e6,e7,e8,e9,e10⟩:=kO hd;rw[tokA,if_neg e5,if_neg e6,if_neg (fun h=>e7 h.1),if_neg (fun h=>e8 h.1),if_neg e9,if_neg e10,if_neg e7,if_pos e4]
theorem sR {x:UInt8}{t:Bs}(hd:isD x=true) (h:TS L T A c bs D P AT w0 w (x :: t)):Calls Tryz.prog 126 #[.pointer (some ⟨L,0,none⟩),.pointer (some ⟨T,0,none⟩)] w (dP L T A c bs D P AT w0 (tokA (x :: t))):=by
 have hRS:tokA (x :: t)=dS (x :: t):=pN hd;obtain⟨RS,hR⟩:∃R,R=tokA (x :: t):=⟨_,rfl⟩;rw[←hR];rw[hRS]at hR;clear hRS;obtain⟨X,hX⟩:=aT (x.toNat:Int);have hX0:0≤X∧X≤255:=by rw[hX.out];have:=x.toNat_lt;omega
 have cp:=fun W h=>aH (L:=L) (A:=A) (c:=c) (bs:=bs) (D:=D) (P:=P) (x:=x) (t:=t) X hX.out W h
 replace cp:=hi_ cp;obtain⟨e1,e2,e3,e4,e5,e6,e7,e8,e9,e10⟩:=kO hd;have x91:(X == 91)=false:=by rw[hX.out,show (((x.toNat:Int) == 91)=(x == 91)) from (aq x 91).symm];exact beq_eq_false_iff_ne.2 e5
 have x93:(X == 93)=false:=by rw[hX.out,show (((x.toNat:Int) == 93)=(x == 93)) from (aq x 93).symm];exact beq_eq_false_iff_ne.2 e6
 have x60:(X == 60)=false:=by rw[hX.out,show (((x.toNat:Int) == 60)=(x == 60)) from (aq x 60).symm];exact beq_eq_false_iff_ne.2 e7
 have x62:(X == 62)=false:=by rw[hX.out,show (((x.toNat:Int) == 62)=(x == 62)) from (aq x 62).symm];exact beq_eq_false_iff_ne.2 e8
 have x47:(X == 47)=false:=by rw[hX.out,show (((x.toNat:Int) == 47)=(x == 47)) from (aq x 47).symm];exact beq_eq_false_iff_ne.2 e9
 have x40:(X == 40)=false:=by rw[hX.out,show (((x.toNat:Int) == 40)=(x == 40)) from (aq x 40).symm];exact beq_eq_false_iff_ne.2 e10
 have hd1:48≤X∧X≤57:=by
  simp only[isD,Bool.and_eq_true,decide_eq_true_eq]at hd;rw[hX.out];omega
 have hd2:48≤X:=hd1.1;have hd3:X≤57:=hd1.2;clear e1 e2 e3 e4 e5 e6 e7 e8 e9 e10 hd hd1;have cn:=fun W (h:TS L T A c bs D P AT w0 W (x :: t))=>eM h (by simp)
 obtain⟨N,hN⟩:∃N,N=dS (x :: t):=⟨_,rfl⟩;rw[←hN]at cn hR;replace cn:=hi_ cn;clear hN;obtain⟨q,hq,hq0,hq1⟩:=h.lx.pos_i;have q1:=h.lx.blk.cell 1;have v1:=h.lx.blk.frozen 1;rw[←hq]at q1;have t0:=h.tk.cell 0;have g0:=h.tk.frozen 0;have t3:=h.tk.cell 3;have g3:=h.tk.frozen 3;obtain⟨hL,hS,hT⟩:Hid (LX L A c bs D P w (x :: t))∧Hid (Save L w0 w)∧Hid (Blk w T 119 #[.int .i64 0,AT,.int .i64 0,.slice none 0 0]):=⟨Lib.hid h.lx,Lib.hid h.sv,Lib.hid h.tk⟩;refine h3_ hq h hR ?_;clear hq h hR;intro hq h hR;cases N with
 |ok k4 u4=>
  go_enter Tryz.func126,Tryz.ntmps126;go_wp2_with (first
   |(go_at_call 68;(with_reducible refine (cp.out _ hL.out).mono ?_);rintro e w1 ⟨rfl,hB⟩;replace hL:=hi_ (hL.out.below hB);replace hS:=hi_ (hS.out.then_ hB);replace q1:=hL.out.blk.cell 1;rw[←hq.out]at q1;replace v1:=hL.out.blk.frozen 1;replace hT:=hi_ (hT.out.below hB hT.out.lt);replace t0:=hT.out.cell 0;replace g0:=hT.out.frozen 0;replace t3:=hT.out.cell 3;replace g3:=hT.out.frozen 3;clear hB)
   |(go_at_call 161;(with_reducible refine (cn.out _ ⟨hL.out,hT.out,hS.out,h.out.ll,h.out.lt,h.out.off⟩).mono ?_);rintro e w4 ⟨rfl,k1,k2,k3⟩;replace k1:=hi_ k1;replace k2:=hi_ k2;replace k3:=hi_ k3))
  go_ret
  rw[hR.out];exact⟨rfl,k1.out,k2.out,k3.out⟩
 |err k4 u4=>
  go_enter Tryz.func126,Tryz.ntmps126;go_wp2_with (first
   |(go_at_call 68;(with_reducible refine (cp.out _ hL.out).mono ?_);rintro e w1 ⟨rfl,hB⟩;replace hL:=hi_ (hL.out.below hB);replace hS:=hi_ (hS.out.then_ hB);replace q1:=hL.out.blk.cell 1;rw[←hq.out]at q1;replace v1:=hL.out.blk.frozen 1;replace hT:=hi_ (hT.out.below hB hT.out.lt);replace t0:=hT.out.cell 0;replace g0:=hT.out.frozen 0;replace t3:=hT.out.cell 3;replace g3:=hT.out.frozen 3;clear hB)
   |(go_at_call 161;(with_reducible refine (cn.out _ ⟨hL.out,hT.out,hS.out,h.out.ll,h.out.lt,h.out.off⟩).mono ?_);rintro e w4 ⟨k0,rfl,k1,k2,k3⟩;replace k1:=hi_ k1;replace k2:=hi_ k2;replace k3:=hi_ k3))
  go_ret
  rw[hR.out];exact⟨k0,rfl,k1.out,k2.out,k3.out⟩
theorem rq {x:UInt8}{t:Bs}(hne:x≠91∧x≠93∧x≠60∧x≠62∧x≠47∧x≠40) (hn:dR x=false) (hr:bu x=false) (h:TS L T A c bs D P AT w0 w (x :: t)):Calls Tryz.prog 126 #[.pointer (some ⟨L,0,none⟩),.pointer (some ⟨T,0,none⟩)] w (dP L T A c bs D P AT w0 (tokA (x :: t))):=by
 have hRS:tokA (x :: t)=.err 4 (x :: t):=by rw[tokA,if_neg hne.1,if_neg hne.2.1,if_neg (fun h=>hne.2.2.1 h.1),if_neg (fun h=>hne.2.2.2.1 h.1),if_neg hne.2.2.2.2.1,if_neg hne.2.2.2.2.2,if_neg hne.2.2.1,hn,if_neg (by decide),hr,if_neg (by decide)]
 obtain⟨RS,hR⟩:∃R,R=tokA (x :: t):=⟨_,rfl⟩;rw[←hR];rw[hRS]at hR;clear hRS;obtain⟨X,hX⟩:=aT (x.toNat:Int);have hX0:0≤X∧X≤255:=by rw[hX.out];have:=x.toNat_lt;omega
 have cp:=fun W h=>aH (L:=L) (A:=A) (c:=c) (bs:=bs) (D:=D) (P:=P) (x:=x) (t:=t) X hX.out W h
 replace cp:=hi_ cp;have x91:(X == 91)=false:=by rw[hX.out,show (((x.toNat:Int) == 91)=(x == 91)) from (aq x 91).symm];exact beq_eq_false_iff_ne.2 hne.1
 have x93:(X == 93)=false:=by rw[hX.out,show (((x.toNat:Int) == 93)=(x == 93)) from (aq x 93).symm];exact beq_eq_false_iff_ne.2 hne.2.1
 have x60:(X == 60)=false:=by rw[hX.out,show (((x.toNat:Int) == 60)=(x == 60)) from (aq x 60).symm];exact beq_eq_false_iff_ne.2 hne.2.2.1
 have x62:(X == 62)=false:=by rw[hX.out,show (((x.toNat:Int) == 62)=(x == 62)) from (aq x 62).symm];exact beq_eq_false_iff_ne.2 hne.2.2.2.1
 have x47:(X == 47)=false:=by rw[hX.out,show (((x.toNat:Int) == 47)=(x == 47)) from (aq x 47).symm];exact beq_eq_false_iff_ne.2 hne.2.2.2.2.1
 have x40:(X == 40)=false:=by rw[hX.out,show (((x.toNat:Int) == 40)=(x == 40)) from (aq x 40).symm];exact beq_eq_false_iff_ne.2 hne.2.2.2.2.2
 have hnc:=oS hX.out;rw[hn]at hnc;replace hnc:=hnc.symm;simp only[Bool.or_eq_false_iff]at hnc;obtain⟨⟨⟨x43,x45⟩,x46⟩,hdg⟩:=hnc;have hdg2:X<48∨57<X:=by
  rcases Int.lt_or_le X 48 with h|h
  ·exact .inl h
  ·rcases Int.lt_or_le 57 X with h'|h'
   ·exact .inr h'
   ·rw[decide_eq_true h,decide_eq_true h']at hdg;cases hdg
 clear hdg;have cr:∀W,Calls Tryz.prog 67 #[.int .i64 X] W fun e w'=>e=.returned (.bool false)∧W=w':=fun W=>by have:=bV (w:=W) X (by omega);rw[show rgI X=false from by rw[hX.out,jh,hr]]at this;exact this
 replace cr:=hi_ cr;clear hne hn hr;obtain⟨q,hq,hq0,hq1⟩:=h.lx.pos_i;have q1:=h.lx.blk.cell 1;have v1:=h.lx.blk.frozen 1;rw[←hq]at q1;have t0:=h.tk.cell 0;have g0:=h.tk.frozen 0;have t3:=h.tk.cell 3;have g3:=h.tk.frozen 3;obtain⟨hL,hS,hT⟩:Hid (LX L A c bs D P w (x :: t))∧Hid (Save L w0 w)∧Hid (Blk w T 119 #[.int .i64 0,AT,.int .i64 0,.slice none 0 0]):=⟨Lib.hid h.lx,Lib.hid h.sv,Lib.hid h.tk⟩;refine h3_ hq h hR ?_;clear hq h hR;intro hq h hR;rcases hdg2 with hdg2|hdg2
 ·go_enter Tryz.func126,Tryz.ntmps126
  go_wp2_with (first
   |(go_at_call 68;(with_reducible refine (cp.out _ hL.out).mono ?_);rintro e w1 ⟨rfl,hB⟩;replace hL:=hi_ (hL.out.below hB);replace hS:=hi_ (hS.out.then_ hB);replace q1:=hL.out.blk.cell 1;rw[←hq.out]at q1;replace v1:=hL.out.blk.frozen 1;replace hT:=hi_ (hT.out.below hB hT.out.lt);replace t0:=hT.out.cell 0;replace g0:=hT.out.frozen 0;replace t3:=hT.out.cell 3;replace g3:=hT.out.frozen 3;clear hB)
   |(go_at_call 67;(with_reducible refine (cr.out _).mono ?_);rintro e w2 ⟨rfl,rfl⟩))
  go_ret
  rw[hR.out];exact⟨by decide,rfl,⟨_,_,_,hT.out⟩,hL.out.at_,hS.out⟩
 ·go_enter Tryz.func126,Tryz.ntmps126
  go_wp2_with (first
   |(go_at_call 68;(with_reducible refine (cp.out _ hL.out).mono ?_);rintro e w1 ⟨rfl,hB⟩;replace hL:=hi_ (hL.out.below hB);replace hS:=hi_ (hS.out.then_ hB);replace q1:=hL.out.blk.cell 1;rw[←hq.out]at q1;replace v1:=hL.out.blk.frozen 1;replace hT:=hi_ (hT.out.below hB hT.out.lt);replace t0:=hT.out.cell 0;replace g0:=hT.out.frozen 0;replace t3:=hT.out.cell 3;replace g3:=hT.out.frozen 3;clear hB)
   |(go_at_call 67;(with_reducible refine (cr.out _).mono ?_);rintro e w2 ⟨rfl,rfl⟩))
  go_ret
  rw[hR.out];exact⟨by decide,rfl,⟨_,_,_,hT.out⟩,hL.out.at_,hS.out⟩
theorem ru {x:UInt8}{t:Bs}(hne:x≠91∧x≠93∧x≠60∧x≠62∧x≠47∧x≠40) (hn:dR x=false) (hr:bu x=true) (h:TS L T A c bs D P AT w0 w (x :: t)):Calls Tryz.prog 126 #[.pointer (some ⟨L,0,none⟩),.pointer (some ⟨T,0,none⟩)] w (dP L T A c bs D P AT w0 (tokA (x :: t))):=by
 have hRS:tokA (x :: t)=if 127<(aN (x :: t)).length then .err 3 (x :: t) else .ok ⟨9,0,aN (x :: t)⟩ ((x :: t).drop (aN (x :: t)).length):=by rw[tokA,if_neg hne.1,if_neg hne.2.1,if_neg (fun h=>hne.2.2.1 h.1),if_neg (fun h=>hne.2.2.2.1 h.1),if_neg hne.2.2.2.2.1,if_neg hne.2.2.2.2.2,if_neg hne.2.2.1,hn,if_neg (by decide),hr,if_pos rfl]
 obtain⟨RS,hR⟩:∃R,R=tokA (x :: t):=⟨_,rfl⟩;rw[←hR];rw[hRS]at hR;clear hRS;obtain⟨X,hX⟩:=aT (x.toNat:Int);have hX0:0≤X∧X≤255:=by rw[hX.out];have:=x.toNat_lt;omega
 have cp:=fun W h=>aH (L:=L) (A:=A) (c:=c) (bs:=bs) (D:=D) (P:=P) (x:=x) (t:=t) X hX.out W h
 replace cp:=hi_ cp;have x91:(X == 91)=false:=by rw[hX.out,show (((x.toNat:Int) == 91)=(x == 91)) from (aq x 91).symm];exact beq_eq_false_iff_ne.2 hne.1
 have x93:(X == 93)=false:=by rw[hX.out,show (((x.toNat:Int) == 93)=(x == 93)) from (aq x 93).symm];exact beq_eq_false_iff_ne.2 hne.2.1
 have x60:(X == 60)=false:=by rw[hX.out,show (((x.toNat:Int) == 60)=(x == 60)) from (aq x 60).symm];exact beq_eq_false_iff_ne.2 hne.2.2.1
 have x62:(X == 62)=false:=by rw[hX.out,show (((x.toNat:Int) == 62)=(x == 62)) from (aq x 62).symm];exact beq_eq_false_iff_ne.2 hne.2.2.2.1
 have x47:(X == 47)=false:=by rw[hX.out,show (((x.toNat:Int) == 47)=(x == 47)) from (aq x 47).symm];exact beq_eq_false_iff_ne.2 hne.2.2.2.2.1
 have x40:(X == 40)=false:=by rw[hX.out,show (((x.toNat:Int) == 40)=(x == 40)) from (aq x 40).symm];exact beq_eq_false_iff_ne.2 hne.2.2.2.2.2
 have hnc:=oS hX.out;rw[hn]at hnc;replace hnc:=hnc.symm;simp only[Bool.or_eq_false_iff]at hnc;obtain⟨⟨⟨x43,x45⟩,x46⟩,hdg⟩:=hnc;have hdg2:X<48∨57<X:=by
  rcases Int.lt_or_le X 48 with h|h
  ·exact .inl h
  ·rcases Int.lt_or_le 57 X with h'|h'
   ·exact .inr h'
   ·rw[decide_eq_true h,decide_eq_true h']at hdg;cases hdg
 clear hdg;have cr:∀W,Calls Tryz.prog 67 #[.int .i64 X] W fun e w'=>e=.returned (.bool true)∧W=w':=fun W=>by have:=bV (w:=W) X (by omega);rw[show rgI X=true from by rw[hX.out,jh,hr]]at this;exact this
 replace cr:=hi_ cr;clear hne hn hr;have cn:=fun W (h:LX L A c bs D P W (x :: t))=>px h (by simp)
 have hrl:=rf (x :: t);have hbl:=aB h.lx.suf;have hsm:=h.lx.small;obtain⟨N,hN⟩:∃N,N=aN (x :: t):=⟨_,rfl⟩;rw[←hN]at cn hR hrl;have hNl:N.length≤1000000000:=by omega
 replace hNl:=hi_ hNl;replace cn:=hi_ cn;clear hrl hbl hsm;replace hN:=hi_ hN;obtain⟨q,hq,hq0,hq1⟩:=h.lx.pos_i;have q1:=h.lx.blk.cell 1;have v1:=h.lx.blk.frozen 1;rw[←hq]at q1;have t0:=h.tk.cell 0;have g0:=h.tk.frozen 0;have t3:=h.tk.cell 3;have g3:=h.tk.frozen 3;obtain⟨hL,hS,hT⟩:Hid (LX L A c bs D P w (x :: t))∧Hid (Save L w0 w)∧Hid (Blk w T 119 #[.int .i64 0,AT,.int .i64 0,.slice none 0 0]):=⟨Lib.hid h.lx,Lib.hid h.sv,Lib.hid h.tk⟩;refine h3_ hq h hR ?_;clear hq h hR;intro hq h hR;by_cases h127:127<N.length
 ·have hll:decide ((127:Int)<(N.length:Int))=true:=by simp;omega
  rw[if_pos h127]at hR;replace h127:=hi_ h127;rcases hdg2 with hdg2|hdg2
  ·go_enter Tryz.func126,Tryz.ntmps126
   go_wp2_with (first
    |(go_at_call 68;(with_reducible refine (cp.out _ hL.out).mono ?_);rintro e w1 ⟨rfl,hB⟩;replace hL:=hi_ (hL.out.below hB);replace hS:=hi_ (hS.out.then_ hB);replace q1:=hL.out.blk.cell 1;rw[←hq.out]at q1;replace v1:=hL.out.blk.frozen 1;replace hT:=hi_ (hT.out.below hB hT.out.lt);replace t0:=hT.out.cell 0;replace g0:=hT.out.frozen 0;replace t3:=hT.out.cell 3;replace g3:=hT.out.frozen 3;clear hB)
    |(go_at_call 67;(with_reducible refine (cr.out _).mono ?_);rintro e w2 ⟨rfl,rfl⟩)
    |(go_at_call 162;(with_reducible refine (cn.out _ (hL.out.far_ h.out.ne h.out.na)).mono ?_);rintro e w4 ⟨v4,rfl,hO4,hL4,hS4⟩;have hT4:=hS4.blk h.out.ne.symm (hT.out.set_ 0 (.int .i64 9));replace t3:=hT4.cell 3;replace g3:=hT4.frozen 3;obtain⟨A4,c4,rfl,_,_,_⟩:=hO4.out2 (by have:=hNl.out;unfold maxLen;omega);replace hO4:=hi_ hO4;replace hL4:=hi_ hL4;replace hT4:=hi_ hT4;replace hS4:=hi_ hS4))
   go_ret
   rw[hR.out];have hsz:=hS.out.size;have hS5:Save L w0 w4:=(hS.out.far_ h.out.lt).trans hS4.out;exact⟨by decide,rfl,⟨_,_,_,hT4.out.set_ 3 _⟩,((hL4.out.far_ h.out.ne h.out.na).at_),hS5.far_ h.out.lt⟩
  ·go_enter Tryz.func126,Tryz.ntmps126
   go_wp2_with (first
    |(go_at_call 68;(with_reducible refine (cp.out _ hL.out).mono ?_);rintro e w1 ⟨rfl,hB⟩;replace hL:=hi_ (hL.out.below hB);replace hS:=hi_ (hS.out.then_ hB);replace q1:=hL.out.blk.cell 1;rw[←hq.out]at q1;replace v1:=hL.out.blk.frozen 1;replace hT:=hi_ (hT.out.below hB hT.out.lt);replace t0:=hT.out.cell 0;replace g0:=hT.out.frozen 0;replace t3:=hT.out.cell 3;replace g3:=hT.out.frozen 3;clear hB)
    |(go_at_call 67;(with_reducible refine (cr.out _).mono ?_);rintro e w2 ⟨rfl,rfl⟩)
    |(go_at_call 162;(with_reducible refine (cn.out _ (hL.out.far_ h.out.ne h.out.na)).mono ?_);rintro e w4 ⟨v4,rfl,hO4,hL4,hS4⟩;have hT4:=hS4.blk h.out.ne.symm (hT.out.set_ 0 (.int .i64 9));replace t3:=hT4.cell 3;replace g3:=hT4.frozen 3;obtain⟨A4,c4,rfl,_,_,_⟩:=hO4.out2 (by have:=hNl.out;unfold maxLen;omega);replace hO4:=hi_ hO4;replace hL4:=hi_ hL4;replace hT4:=hi_ hT4;replace hS4:=hi_ hS4))
   go_ret
   rw[hR.out];have hsz:=hS.out.size;have hS5:Save L w0 w4:=(hS.out.far_ h.out.lt).trans hS4.out;exact⟨by decide,rfl,⟨_,_,_,hT4.out.set_ 3 _⟩,((hL4.out.far_ h.out.ne h.out.na).at_),hS5.far_ h.out.lt⟩
 ·have hll:decide ((127:Int)<(N.length:Int))=false:=by simp;omega
  rw[if_neg h127]at hR;replace h127:=hi_ h127;rcases hdg2 with hdg2|hdg2
  ·go_enter Tryz.func126,Tryz.ntmps126
   go_wp2_with (first
    |(go_at_call 68;(with_reducible refine (cp.out _ hL.out).mono ?_);rintro e w1 ⟨rfl,hB⟩;replace hL:=hi_ (hL.out.below hB);replace hS:=hi_ (hS.out.then_ hB);replace q1:=hL.out.blk.cell 1;rw[←hq.out]at q1;replace v1:=hL.out.blk.frozen 1;replace hT:=hi_ (hT.out.below hB hT.out.lt);replace t0:=hT.out.cell 0;replace g0:=hT.out.frozen 0;replace t3:=hT.out.cell 3;replace g3:=hT.out.frozen 3;clear hB)
    |(go_at_call 67;(with_reducible refine (cr.out _).mono ?_);rintro e w2 ⟨rfl,rfl⟩)
    |(go_at_call 162;(with_reducible refine (cn.out _ (hL.out.far_ h.out.ne h.out.na)).mono ?_);rintro e w4 ⟨v4,rfl,hO4,hL4,hS4⟩;have hT4:=hS4.blk h.out.ne.symm (hT.out.set_ 0 (.int .i64 9));replace t3:=hT4.cell 3;replace g3:=hT4.frozen 3;obtain⟨A4,c4,rfl,_,_,_⟩:=hO4.out2 (by have:=hNl.out;unfold maxLen;omega);replace hO4:=hi_ hO4;replace hL4:=hi_ hL4;replace hT4:=hi_ hT4;replace hS4:=hi_ hS4))
   go_ret
   rw[hR.out];have hsz:=hS.out.size;have hS5:Save L w0 w4:=(hS.out.far_ h.out.lt).trans hS4.out;exact fz h.out hT4.out (hO4.out.base (by simpa [World.setCell] using hsz)) hL4.out hS5
  ·go_enter Tryz.func126,Tryz.ntmps126
   go_wp2_with (first
    |(go_at_call 68;(with_reducible refine (cp.out _ hL.out).mono ?_);rintro e w1 ⟨rfl,hB⟩;replace hL:=hi_ (hL.out.below hB);replace hS:=hi_ (hS.out.then_ hB);replace q1:=hL.out.blk.cell 1;rw[←hq.out]at q1;replace v1:=hL.out.blk.frozen 1;replace hT:=hi_ (hT.out.below hB hT.out.lt);replace t0:=hT.out.cell 0;replace g0:=hT.out.frozen 0;replace t3:=hT.out.cell 3;replace g3:=hT.out.frozen 3;clear hB)
    |(go_at_call 67;(with_reducible refine (cr.out _).mono ?_);rintro e w2 ⟨rfl,rfl⟩)
    |(go_at_call 162;(with_reducible refine (cn.out _ (hL.out.far_ h.out.ne h.out.na)).mono ?_);rintro e w4 ⟨v4,rfl,hO4,hL4,hS4⟩;have hT4:=hS4.blk h.out.ne.symm (hT.out.set_ 0 (.int .i64 9));replace t3:=hT4.cell 3;replace g3:=hT4.frozen 3;obtain⟨A4,c4,rfl,_,_,_⟩:=hO4.out2 (by have:=hNl.out;unfold maxLen;omega);replace hO4:=hi_ hO4;replace hL4:=hi_ hL4;replace hT4:=hi_ hT4;replace hS4:=hi_ hS4))
   go_ret
   rw[hR.out];have hsz:=hS.out.size;have hS5:Save L w0 w4:=(hS.out.far_ h.out.lt).trans hS4.out;exact fz h.out hT4.out (hO4.out.base (by simpa [World.setCell] using hsz)) hL4.out hS5
theorem py (h:TS L T A c bs D P AT w0 w r):Calls Tryz.prog 126 #[.pointer (some ⟨L,0,none⟩),.pointer (some ⟨T,0,none⟩)] w (dP L T A c bs D P AT w0 (tokA r)):=by
 cases r with
 |nil=>exact sW h
 |cons x t=>
  by_cases h1:x=91
  ·subst h1;exact rr h
  by_cases h2:x=93
  ·subst h2;exact pI h
  by_cases h3:x=60
  ·subst h3
   by_cases hp:t[0]?=some 60
   ·obtain⟨u,rfl⟩:∃u,t=60 :: u:=by
     cases t with
     |nil=>simp at hp
     |cons y u=>simp at hp;exact⟨u,by rw[hp]⟩
    exact ro h
   ·exact sS hp h
  by_cases h4:x=62
  ·subst h4
   by_cases hp:t[0]?=some 62
   ·obtain⟨u,rfl⟩:∃u,t=62 :: u:=by
     cases t with
     |nil=>simp at hp
     |cons y u=>simp at hp;exact⟨u,by rw[hp]⟩
    exact pJ h
   ·exact tL hp h
  by_cases h5:x=47
  ·subst h5;exact rp h
  by_cases h6:x=40
  ·subst h6;exact rt h
  cases hn:dR x with
  |true=>
   by_cases k1:x=43
   ·subst k1;exact sT h
   by_cases k2:x=45
   ·subst k2;exact sU h
   by_cases k3:x=46
   ·subst k3;exact sV h
   refine sR ?_ h;unfold dR at hn;rw[beq_eq_false_iff_ne.2 k1,beq_eq_false_iff_ne.2 k2,beq_eq_false_iff_ne.2 k3]at hn
   simpa [isD] using hn
  |false=>
   cases hr:bu x with
   |true=>exact ru ⟨h1,h2,h3,h4,h5,h6⟩ hn hr h
   |false=>exact rq ⟨h1,h2,h3,h4,h5,h6⟩ hn hr h
end
end
section
open Go Go.RowKit Go.Wk Go.Rd Go.Fx
section
variable {L:Nat}{A:Option Addr}{c:Nat}{bs:Bs}{D P:Value}{w w':World}{r r':Bs}
def qh (L:Nat) (A:Option Addr) (c:Nat) (bs:Bs) (D P:Value) (w:World) (r:Bs) (e:Ending) (w':World):Prop:=match ar r with
 | .ok k u=>∃v,e=.returned (.tuple #[.agg #[.int .i64 k.k,.int .i64 (pos bs (af false r):Nat),.int .i64 k.n,v],.int .i64 0])∧Own w.heap.size w' v k.b∧LX L A c bs D P w' u∧Save L w w'
 | .err n _=>n≠0∧e=.returned (.tuple #[.agg #[.int .i64 0,.int .i64 (pos bs (af false r):Nat),.int .i64 0,.slice none 0 0],.int .i64 n])∧LX L A c bs D P w' (af false r)∧Save L w w'
theorem cC:∀(b:Bool) (r:Bs),af b r <:+r
 |true,[]=>List.suffix_refl _
 |false,[]=>List.suffix_refl _
 |true,c :: r=>by
  rw[af];split
  ·exact (cC false r).trans (List.suffix_cons c r)
  ·exact (cC true r).trans (List.suffix_cons c r)
 |false,c :: r=>by
  rw[af];split
  ·exact (cC false r).trans (List.suffix_cons c r)
  ·split
   ·exact (cC true r).trans (List.suffix_cons c r)
   ·exact List.suffix_refl _
theorem Own.len {B:Nat}{w:World}{v:Value}{b:List UInt8}(h:Own B w v b):b.length≤maxLen:=by
 rcases h.row.2 with ⟨_,h0⟩|⟨g,cap,cur,_,_,_,hnc,hcm,_⟩
 ·rw[h0];unfold maxLen;omega
 ·exact Nat.le_trans hnc hcm
theorem sI {w:World}{R:Nat}{t:TypeId}{z0 z1 z2 z3 u0 u1 u2 u3:Value}(hR:Blk w R t #[z0,z1,z2,z3]) {Wf:World}
 (hWf:Wf=(((w.setCell ⟨R,0,none⟩ u0).setCell ⟨R,1,none⟩ u1).setCell ⟨R,2,none⟩ u2).setCell ⟨R,3,none⟩ u3) :
 Blk Wf R t #[u0,u1,u2,u3]∧w.grownBy Wf (some R)∧Wf.heap.size=w.heap.size:=by
 have hg:w.grownBy Wf (some R):=by
  rw[hWf];exact (((aj _ _ _ _).trans (aj _ _ _ _)).trans (aj _ _ _ _)).trans (aj _ _ _ _)
 refine⟨?_,hg,by rw[hWf];simp[World.setCell]⟩;rw[hWf];exact (((hR.set_ 0 u0).set_ 1 u1).set_ 2 u2).set_ 3 u3
theorem LX.grown_ {R:Nat}{W':World}(h:LX L A c bs D P w r) (hg:w.grownBy W' (some R)) (hR:L≠R) (hA:0<bs.length→∀x,A=some x→x.block≠R):LX L A c bs D P W' r:=by
 refine⟨h.blk.grown hg (by intro e;injection e with e;exact hR e),⟨h.byt.1,fun h0=>?_⟩,h.ne,h.suf,h.cap,h.small⟩;obtain⟨g,o',e,hc⟩:=h.byt.2 h0;refine⟨g,o',e,fun i hi=>?_⟩;have hlt:=ac (hc i hi);rw[World.cell?_of_block (w:=w) (hg.block g hlt (by intro e2;injection e2 with e2;exact hA h0 _ e e2))];exact hc i hi
theorem Save.grown_ {R:Nat}{a b b':World}(h:Save L a b) (hg:b.grownBy b' (some R)) (hR:a.heap.size≤R):Save L a b':=
 ⟨hg.os.trans h.os,hg.tape.trans h.tape,hg.output.trans h.output,Nat.le_trans h.size hg.size,fun k hk hn=>(hg.block k (Nat.lt_of_lt_of_le hk h.size) (by intro e;injection e with e;omega)).trans (h.block k hk hn)⟩
theorem km (h:LX L A c bs D P w r):Calls Tryz.prog 96 #[.pointer (some ⟨L,0,none⟩)] w (qh L A c bs D P w r):=by
 have hLw:=h.lt;have hAw:=h.a_lt;obtain⟨W1,hW1,b1,hR1⟩:=ak w 119 #[.int .i64 0,.int .i64 0,.int .i64 0,.slice none 0 0];have z1:W1.heap.size=w.heap.size+1:=by rw[hW1];exact World.size_alloc _ _
 have cb:=gT (h.below b1);obtain⟨B,hB⟩:∃B,B=af false r:=⟨_,rfl⟩;unfold qh ar;rw[←hB]at cb⊢;obtain⟨q,hq⟩:∃q,q=pos bs B:=⟨_,rfl⟩;obtain⟨N,hN⟩:∃N,N=tokA B:=⟨_,rfl⟩;rw[←hq,←hN];refine h6_ cb hR1 b1 hAw hB z1 ?_;clear cb hR1 b1 hAw hB z1;intro cb hR1 b1 hAw hB z1;go_enter Tryz.func96,Tryz.ntmps96;go_upto_region 2 with (go_at_call 37;rw[←hW1];(with_reducible refine (cb.out).mono ?_);rintro e w2 ⟨rfl,hL2,hS2⟩;replace hL2:=hi_ hL2;replace hS2:=hi_ hS2)
 have hL2':=hL2.out;have hS2':=hS2.out;have hR2:=hS2'.blk (by omega) hR1.out;have q1:=hL2'.blk.cell 1;rw[←hq]at q1;have hR2lt:=hR2.lt;obtain⟨W3,hW3,b3,hT3⟩:=ak w2 119 #[.int .i64 0,.int .i64 (q:Nat),.int .i64 0,.slice none 0 0];have hts:TS L w2.heap.size A c bs D P (.int .i64 (q:Nat)) w2 W3 B:=⟨hL2'.below b3,hT3,Save.of_below b3,by have:=hS2'.size;have:=z1.out;omega,Nat.le_refl _,fun h0 x hx=>by have:=hAw.out h0 x hx;have:=hS2'.size;have:=z1.out;omega⟩;have hne:=hts.ne;have hna:=hts.na;have hww:w.heap.size≤w2.heap.size:=by have:=hS2'.size;have:=z1.out;omega
 have hSw:Save L w w2:=(Save.of_below b1.out).trans hS2';have ct:=py hts;rw[←hN]at ct;have hLR:L≠w.heap.size:=by omega
 have hAR:0<bs.length→∀x,A=some x→x.block≠w.heap.size:=fun h0 x hx=>by have:=hAw.out h0 x hx;omega
 refine h9_ hLR hAR ct hN hts hne hna hSw hR2 ?_;clear hLR hAR ct hN hts hne hna hSw hR2;intro hLR hAR ct hN hts hne hna hSw hR2;refine h3_ hT3 b3 hq ?_;clear hT3 b3 hq;intro hT3 b3 hq;replace hL2':=hi_ hL2';clear hS2' h;go_upto_region 3 with (fail)
 rw[←hW3];replace hW3:=hi_ hW3;cases N with
 |ok k u=>
  go_upto_region 7 with (go_at_call 126;(with_reducible refine (ct.out).mono ?_);rintro e w4 ⟨rfl,⟨v4,hT4,hO4⟩,hL4,hS4⟩;have hR4:=hS4.blk hLR.out.symm hR2.out;obtain⟨A4,c4,rfl,_,_,_⟩:=hO4.out2 hO4.len;replace hO4:=hi_ hO4;replace hL4:=hi_ hL4;obtain⟨t0,t1,t2,t3,-⟩:=hT4.b4;obtain⟨p0,p1,p2,p3,f0,f1,f2,f3⟩:=hR4.b4;have hOR:=hO4.out.not_ hR4 (by decide);replace hT4:=hi_ hT4;replace hR4:=hi_ hR4;replace hS4:=hi_ hS4;replace hOR:=hi_ hOR)
  go_wp2
  generalize hWf:World.setCell _ _ _=Wf;replace hWf:=hWf.symm;obtain⟨hbf,hgf,hzf⟩:=sI hR4.out hWf;obtain⟨u0,u1,u2,u3,-⟩:=hbf.b4;have hOf:=bJ (hO4.out.base hww) hgf (fun g hg e=>hOR.out (by rw[hg];exact e));have hLf:=hL4.out.grown_ hgf hLR.out hAR.out;have hSf:=(hSw.out.trans hS4.out).grown_ hgf (Nat.le_refl _);refine h4_ hOf hLf hSf hWf ?_;clear hOf hLf hSf hWf;intro hOf hLf hSf hWf;clear hbf hgf;exact bodyPost_ret (by simp[results,Tryz.results96,go_sem,u0,u1,u2,u3];try rfl) rfl ⟨_,rfl,hOf.out,hLf.out,hSf.out⟩
 |err n u=>
  go_upto_region 4 with (go_at_call 126;(with_reducible refine (ct.out).mono ?_);rintro e w4 ⟨hn0,rfl,⟨a4,b4,v4,hT4⟩,⟨q4,hL4⟩,hS4⟩;have hR4:=hS4.blk hLR.out.symm hR2.out;have t1:=hT4.cell 1;have v1:=hL4.frozen 1;have l1:=hL4.cell 1;obtain⟨p0,p1,p2,p3,f0,f1,f2,f3⟩:=hR4.b4;replace hT4:=hi_ hT4;replace hR4:=hi_ hR4;replace hS4:=hi_ hS4;replace hL4:=hi_ hL4)
  have hnb:(n !=0)=true:=by simpa using hn0
  replace hn0:=hi_ hn0;have hRL:w.heap.size≠L:=hLR.out.symm;have hTL:w2.heap.size≠L:=hne.out.symm;go_wp2
  obtain⟨W5,hW5⟩:∃W,W=w4.setCell ⟨L,1,none⟩ (.int .i64 (q:Nat)):=⟨_,rfl⟩;rw[←hW5];have hR5:Blk W5 w.heap.size 119 #[.int .i64 0,.int .i64 0,.int .i64 0,.slice none 0 0]:=by rw[hW5];exact hR4.out.far (p:=⟨L,1,none⟩) hRL _
  have hS5:Save L w2 W5:=by rw[hW5];exact hS4.out.store 1 _
  have hB5:Blk W5 L 55 #[.slice A bs.length c,.int .i64 (pos bs B:Nat),D,P]:=by rw[hW5,←hq.out];exact hL4.out.set_ 1 _
  have hL5:=hL2'.out.to hS5 hB5 hL2'.out.suf;generalize hWf:World.setCell _ _ _=Wf;replace hWf:=hWf.symm;obtain⟨hbf,hgf,hzf⟩:=sI hR5 hWf;obtain⟨u0,u1,u2,u3,-⟩:=hbf.b4;have hLf:=hL5.grown_ hgf hLR.out hAR.out;have hSf:=(hSw.out.trans hS5).grown_ hgf (Nat.le_refl _);refine h3_ hLf hSf hWf ?_;clear hLf hSf hWf;intro hLf hSf hWf;clear hbf hgf;exact bodyPost_ret (by simp[results,Tryz.results96,go_sem,u0,u1,u2,u3];try rfl) rfl ⟨hn0.out,rfl,hLf.out,hSf.out⟩
end
end
section
open Go Go.RowKit Go.Wk
def iR (N:Nat):Prop:=∀(o:Ob) (vs:List Value) (w:World),ObAt w o vs→o.bulk≤N→Calls Tryz.prog 79 #[.agg vs.toArray] w fun e w'=>∃us,e=.returned (.agg (List.toArray us))∧ObI w.heap.size w'.heap.size w' o us∧Below w.heap.size w w'
def CpyE (w:World) (k n:Int) (b:List UInt8) (l:List Ob) (d:List (List UInt8×Ob)) (e:Ending) (w':World):Prop:=∃vB vL vD rl rd,e=.returned (.agg #[.int .i64 k,.int .i64 n,vB,vL,vD])∧Own w.heap.size w' vB b∧RowG ObI 32 5 w.heap.size w' vL l rl∧RowG EnI 91 6 w.heap.size w' vD d rd∧Below w.heap.size w w'
def sc (N:Nat):Prop:=∀(k n:Int) (b:List UInt8) (l:List Ob) (d:List (List UInt8×Ob)) (vs:List Value) (w:World),ObAt w (.mk k n b l d) vs→(Ob.mk k n b l d).bulk≤N→Calls Tryz.prog 79 #[.agg vs.toArray] w (CpyE w k n b l d)
def GLr (W5s g p:Nat) (vL:Value) (gL oL m cL i:Nat) (ag:Array Value) (o:Ob):Nat→Value→World→Prop:=fun j v w=>match j with
 |0=>v=.pointer (some ⟨g,3,none⟩)
 |1=>v=vL
 |2=>v=.pointer (some ⟨p,3,none⟩)
 |3=>v=.slice (some ⟨gL,oL,none⟩) m cL
 |4=>v=.int .i64 (i:Int)
 |5=>v=.pointer (some ⟨gL,oL+i*5,none⟩)
 |6=>v=.agg ag
 |7=>∃us hi,v=.agg (List.toArray us)∧ObI W5s hi w o us
 |_=>∃q us hi,v=.slice (some ⟨q,0,none⟩) 1 1∧ObI W5s hi w o us∧∀j u,us[j]?=some u→w.cell? ⟨q,j,none⟩=some u
theorem nI {W5s g p:Nat}{vL:Value}{gL oL m cL i:Nat}{ag:Array Value}{o:Ob}(j:Nat) (v:Value) (w w':World) (hG:GLr W5s g p vL gL oL m cL i ag o j v w) (hk:Below w.heap.size w w'):GLr W5s g p vL gL oL m cL i ag o j v w':=by
 unfold GLr at hG⊢;split at hG <;> first
  |exact hG
  |(obtain⟨us,hi,e,h⟩:=hG;exact⟨us,hi,e,aF h hk⟩)
  |(obtain⟨q,us,hi,e,h,hc⟩:=hG;exact⟨q,us,hi,e,aF h hk,fun j u hu=>(hk.cell (ac (hc j u hu))).trans (hc j u hu)⟩)
def GEr (W5s g p:Nat) (vD:Value) (gD oD m cD i:Nat) (K:ByteArray) (ag:Array Value) (e:List UInt8×Ob):Nat→Value→World→Prop:=fun j v w=>match j with
 |0=>v=.pointer (some ⟨g,4,none⟩)
 |1=>v=vD
 |2|8=>v=.pointer (some ⟨p,4,none⟩)
 |3|9=>v=.slice (some ⟨gD,oD,none⟩) m cD
 |4|10=>v=.int .i64 (i:Int)
 |5|6|11=>v=.pointer (some ⟨gD,oD+i*6,none⟩)
 |7=>v=.string K
 |12=>v=.pointer (some ⟨gD,oD+i*6+1,none⟩)
 |13=>v=.agg ag
 |14=>∃us hi,v=.agg (List.toArray us)∧ObI W5s hi w e.2 us
 |15=>∃us hi,v=.agg (List.toArray (.string K :: us))∧ObI W5s hi w e.2 us
 |_=>∃q us hi,v=.slice (some ⟨q,0,none⟩) 1 1∧ObI W5s hi w e.2 us∧∀j u,(Value.string K :: us)[j]?=some u→w.cell? ⟨q,j,none⟩=some u
theorem nG {W5s g p:Nat}{vD:Value}{gD oD m cD i:Nat}{K:ByteArray}{ag:Array Value}{e:List UInt8×Ob}(j:Nat) (v:Value) (w w':World) (hG:GEr W5s g p vD gD oD m cD i K ag e j v w) (hk:Below w.heap.size w w'):GEr W5s g p vD gD oD m cD i K ag e j v w':=by
 unfold GEr at hG⊢;split at hG <;> first
  |exact hG
  |(obtain⟨us,hi,e,h⟩:=hG;exact⟨us,hi,e,aF h hk⟩)
  |(obtain⟨q,us,hi,e,h,hc⟩:=hG;exact⟨q,us,hi,e,aF h hk,fun j u hu=>(hk.cell (ac (hc j u hu))).trans (hc j u hu)⟩)
theorem kg (N:Nat) (hN:N+1≤100000000) (ih:iR N):sc (N+1):=by
 intro k n b l d vs w h hbk;cases h with
 |mk k n b l d A AL AD c cL cD gL oL gD oD vl vd h1 h2 h3 h4 hB5 h6 h7 h8 h9 h10 h11 hAL hl hlv hAD hdo hdk hdv=>
 have zk:b.length+bv l+aI d+1≤N+1:=hbk;have zl:=dV l;have zd:=cH d;have zlk:=fun i hi=>dG l i hi
 have zdk:=fun i hi=>bZ d i hi
 obtain⟨m2,hm2⟩:∃m,m=l.length:=⟨_,rfl⟩;obtain⟨m3,hm3⟩:∃m,m=d.length:=⟨_,rfl⟩;have zb1:b.length≤100000000:=by omega
 rw[←hm2]at zl⊢;rw[←hm3]at zd⊢;have zl1:m2≤100000000:=by omega
 have zd1:m3≤100000000:=by omega
 obtain⟨W1,hW1⟩:∃W,W=w.alloc (.cells #[.int .i64 k,.int .i64 n,.slice A b.length c,.slice AL m2 cL,.slice AD m3 cD] 32):=⟨_,rfl⟩;obtain⟨W2,hW2⟩:∃W,W=W1.alloc (.cells #[.int .i64 0,.int .i64 0,.slice none 0 0,.slice none 0 0,.slice none 0 0] 32):=⟨_,rfl⟩;have hb1:Below w.heap.size w W1:=by rw[hW1];exact (Below.refl _ _).alloc (Nat.le_refl _) _
 have z1:W1.heap.size=w.heap.size+1:=by rw[hW1,World.size_alloc]
 have hb2:Below w.heap.size w W2:=by rw[hW2];exact hb1.alloc (by omega) _
 have z2:W2.heap.size=w.heap.size+2:=by rw[hW2,World.size_alloc,z1]
 have f:=ap (cz hW1) (W':=W2) (by rw[hW2];exact (Below.refl _ _).alloc (Nat.le_refl _) _);have hR2:Blk W2 (w.heap.size+1) 32 #[.int .i64 0,.int .i64 0,.slice none 0 0,.slice none 0 0,.slice none 0 0]:=by rw[hW2,←z1];exact Blk.new W1 32 _
 obtain⟨f0,f1,f2,f3,f4⟩:=id f;have e41:100000000≤maxLen:=by unfold maxLen;omega
 have hbb:=hB5.below hb2;refine h9_ hm2 hm3 hAL hl hlv hAD hdo hdk hdv ?_;clear hm2 hm3 hAL hl hlv hAD hdo hdk hdv;intro hm2 hm3 hAL hl hlv hAD hdo hdk hdv;refine h8_ zlk zdk ih hb1 hb2 f hR2 hbb ?_;clear zlk zdk ih hb1 hb2 f hR2 hbb;intro zlk zdk ih hb1 hb2 f hR2 hbb;have hrng:=hi_ (And.intro h1 (And.intro h2 (And.intro h3 h4)));replace h7:=hi_ h7;clear h1 h2 h3 h4 hB5 h6 h8 h9 h10 h11 hbk;go_enter Tryz.func79,Tryz.ntmps79;go_upto_region 1 with (fail)
 rw[←hW1,←hW2];refine aL (by kernel_rfl) [none,none,none,some 8,none,none,some 0,some 1,some 2,some 3,some 4,some 5,some 6,some 7,none,none,none,none,none,none,none,none,none,none,none,none,none,none,none,none,none,none,none,none,none,none,none,none,none,none,none,none,none,none,none,none,none,none,none,none,none,none,none,none,none,none,none,none,none] (fun w'=>Below W2.heap.size W2 w') (fun w' w''=>Below w'.heap.size w' w'') (GC w.heap.size W2.heap.size k n A c b) (by rfl) (by kernel_rfl) 9 _ rfl (by decide) (by kernel_rfl) [1,7,3,7,5,6,7,9,9,0] (by kernel_rfl) ?hR ?mono (.cons 8 (ab [] rfl (by kernel_rfl) ?s8) (.cons 7 (ab [1,3,6] rfl (by kernel_rfl) ?s7) (.cons 6 (ab [5] rfl (by kernel_rfl) ?s6) (.cons 5 (ab [4] rfl (by kernel_rfl) ?s5) (.cons 4 (ab [] rfl (by kernel_rfl) ?s4) (.cons 3 (ab [2] rfl (by kernel_rfl) ?s3) (.cons 2 (ab [] rfl (by kernel_rfl) ?s2) (.cons 1 (ab [0] rfl (by kernel_rfl) ?s1) (.cons 0 (ab [] rfl (by kernel_rfl) ?s0) (.nil)))))))))) ?done
 case hR=>exact (Below.refl _ _).drew
 case mono=>exact lG
 case' s0|s1|s2|s3|s4|s5|s6|s7|s8=>
  intro x w' hRw hd K9 hK;simp only[All,GC]at hd;simp +decide only[upd,GC,ai,if_true,if_false]at hK⊢
 case s0=>
  obtain⟨_⟩:=hd;go_simp;have hK2:=hK _ _ ⟨hRw,Below.refl _ _,rfl⟩;exact hK2
 case s1=>
  obtain⟨e0,_⟩:=hd;obtain⟨y0,y1,y2,y3,y4⟩:=ap f.out hRw;simp only[e0]at hK⊢;go_simp;have hK2:=hK _ _ ⟨hRw,Below.refl _ _,rfl⟩;exact hK2
 case s2=>
  obtain⟨_⟩:=hd;go_simp;have hK2:=hK _ _ ⟨hRw,Below.refl _ _,rfl⟩;exact hK2
 case s3=>
  obtain⟨e2,_⟩:=hd;obtain⟨y0,y1,y2,y3,y4⟩:=ap f.out hRw;simp only[e2]at hK⊢;go_simp;have hK2:=hK _ _ ⟨hRw,Below.refl _ _,rfl⟩;exact hK2
 case s4=>
  obtain⟨_⟩:=hd;go_simp;have hK2:=hK _ _ ⟨hRw,Below.refl _ _,rfl⟩;exact hK2
 case s5=>
  obtain⟨e4,_⟩:=hd;obtain⟨y0,y1,y2,y3,y4⟩:=ap f.out hRw;simp only[e4]at hK⊢;go_simp;have hK2:=hK _ _ ⟨hRw,Below.refl _ _,rfl⟩;exact hK2
 case s6=>
  obtain⟨e5,_⟩:=hd;simp only[e5]at hK⊢;go_simp;refine (mn A c b w' (hbb.out.below hRw) (by omega)).mono ?_;rintro e' w9 ⟨v9,rfl,hO9,hB9⟩;have hK2:=hK _ _ ⟨ah hRw hB9,hB9,hO9.base hRw.size⟩;exact hK2
 case s7=>
  obtain⟨e1,e3,hO,_⟩:=hd;obtain⟨A6,c6,e6,_⟩:=fp hO.row;rw[e6]at hO;simp only[e6]at hK⊢;simp only[e1,e3]at hK⊢;go_simp;have hK2:=hK _ _ ⟨hRw,Below.refl _ _,_,_,rfl,hO⟩;exact hK2
 case s8=>
  obtain⟨_⟩:=hd;go_simp;have hK2:=hK _ _ ⟨hRw.alloc hRw.size _,(Below.refl _ _).alloc (Nat.le_refl _) _,_,rfl,Blk.new w' 32 _,hRw.size⟩;exact hK2
 case done=>
  intro x w3 hRw hG fr hfr;have g7:=hG 7 (by omega);have g8:=hG 8 (by omega);simp only[GC]at g7 g8;clear hG;obtain⟨AB,cB,e7,hO⟩:=g7;obtain⟨g,e8,hblk,hg⟩:=g8;simp only[ai]at hfr;rw[e7,e8]at hfr;subst hfr;have hne:=me hO hblk;have hglt:=hblk.lt;obtain⟨c0,c1,c2,c3,c4,q0,q1,q2,q3,q4⟩:=hblk.b5;obtain⟨W4,hW4⟩:∃W,W=((((w3.setCell ⟨g,0,none⟩ (.int .i64 k)).setCell ⟨g,1,none⟩ (.int .i64 n)).setCell ⟨g,2,none⟩ (.slice AB b.length cB)).setCell ⟨g,3,none⟩ (.slice none 0 0)).setCell ⟨g,4,none⟩ (.slice none 0 0):=⟨_,rfl⟩;have hgr:w3.grownBy W4 (some g):=by
   rw[hW4];exact ((((aj _ _ _ _).trans (aj _ _ _ _)).trans (aj _ _ _ _)).trans (aj _ _ _ _)).trans (aj _ _ _ _)
  have hblk4:Blk W4 g 32 #[.int .i64 k,.int .i64 n,.slice AB b.length cB,.slice none 0 0,.slice none 0 0]:=by
   rw[hW4];exact ((((hblk.set_ 0 _).set_ 1 _).set_ 2 _).set_ 3 _).set_ 4 _
  have z4:W4.heap.size=w3.heap.size:=by rw[hW4];simp[World.setCell]
  have hO4:Own W2.heap.size W4 (.slice AB b.length cB) b:=bJ hO hgr fun q hq e=>by injection e with e;exact hne (by rw[hq,e])
  have hB4:Below W2.heap.size W2 W4:=hRw.grown hgr (by omega) fun q hq=>by injection hq with hq;omega
  have hL0:CpL W2 W2.heap.size W4.heap.size g k n (.slice AB b.length cB) b W4 (.slice none 0 0) [] []:=
   ⟨hblk4,hO4,fun q hq=>⟨fun e=>hne (by rw[hq,e]),(hO4.row.lt q hq).2⟩,RowG.nil _ _ _ _ _,hB4,hg,by omega,Nat.le_refl _⟩
  obtain⟨p0,p1,p2,p3,p4⟩:=ap f.out hB4;clear hgr hblk4 hO4 hO hne hblk;refine h3_ hRw hB4 hL0 ?_;clear hRw hB4 hL0;intro hRw hB4 hL0;go_upto_region 2 with (fail)
  rw[←hW4];clear c0 c1 c2 c3 c4 q0 q1 q2 q3 q4;replace hW4:=hi_ hW4;obtain⟨HS,hHS⟩:∃z,z=W4.heap.size:=⟨_,rfl⟩;rw[←hHS]at hL0;replace hHS:=hi_ hHS;go_wp2
  go_loopw [4] (fun s4 wr=>∃(i:Nat) (vL:Value) (rl:List (List Value)),i≤m2∧s4=.int .i64 i∧CpL W2 W2.heap.size HS g k n (.slice AB b.length cB) b wr vL (l.take i) rl) (fun s4 _=>m2 - (RowKit.intOf s4).toNat)
  case atStart=>exact⟨0,_,_,by omega,rfl,hL0.out⟩
  case round=>
   obtain⟨i,vL,rl,hi,rfl,hL⟩:=hrel;obtain⟨k0,k1,k2,k3,k4⟩:=ap f.out hL.below;by_cases him:i<m2
   ·have hil:i<l.length:=by rw[←hm2.out];exact him
    have hAe:=hAL.out (by omega);subst hAe;have hbw:Below w.heap.size w wr:=ah hb2.out hL.below;obtain⟨o,ho⟩:∃o,o=l[i]:=⟨_,rfl⟩;have hob:=(hl.out i hil).kept hbw;have hcv:=hlv.out i hil;rw[←ho]at hob;have hzo:o.bulk≤N:=by have:=dG l i hil;rw[←ho]at this;omega
    obtain⟨us0,hus0⟩:∃us,us=vl i:=⟨_,rfl⟩;rw[←hus0]at hob hcv;obtain⟨en,E1,E2,E3,en1,ec1,en2,ec2,en3,ec3,hys⟩:=ay hob;obtain⟨kk,hkk⟩:∃k,k=o.kind:=⟨_,rfl⟩;rw[←hkk]at hys;subst hys;have five:∀j u,[Value.int .i64 kk,.int .i64 en,.slice E1 en1 ec1,.slice E2 en2 ec2,.slice E3 en3 ec3][j]?=some u→wr.cell? ⟨gL,oL+i*5+j,none⟩=some u:=fun j u hj=>by
     have h0:=hcv j (by have:=(List.getElem?_eq_some_iff.1 hj).1;simpa using this);rw[hj]at h0;have h1:=(hbw.cell (ac h0)).trans h0;rw[show oL+(5*i+j)=oL+i*5+j by omega]at h1;exact h1
    have x0:wr.cell? ⟨gL,oL+i*5,none⟩=some (.int .i64 kk):=five 0 _ rfl;have x1:wr.cell? ⟨gL,oL+i*5+1,none⟩=some (.int .i64 en):=five 1 _ rfl;have x2:wr.cell? ⟨gL,oL+i*5+2,none⟩=some (.slice E1 en1 ec1):=five 2 _ rfl;have x3:wr.cell? ⟨gL,oL+i*5+3,none⟩=some (.slice E2 en2 ec2):=five 3 _ rfl;have x4:wr.cell? ⟨gL,oL+i*5+4,none⟩=some (.slice E3 en3 ec3):=five 4 _ rfl;have c51:=fun W (hW:Below wr.heap.size wr W)=>ih.out o _ W (hob.kept hW) hzo
    have hT:l.take (i+1)=l.take i++[o]:=by rw[List.take_succ_eq_append_getElem hil,ho]
    have hzl:(l.take i).length≤1000000000:=by rw[List.length_take];omega
    have z5:HS≤wr.heap.size:=hL.hs;have xx:=fun W (hW:Below wr.heap.size wr W)=>And.intro ((hW.cell (ac x0)).trans x0) (And.intro ((hW.cell (ac x1)).trans x1) (And.intro ((hW.cell (ac x2)).trans x2) (And.intro ((hW.cell (ac x3)).trans x3) ((hW.cell (ac x4)).trans x4))))
    clear five hcv hob hus0 x0 x1 x2 x3 x4;refine h8_ c51 xx hL ho hkk hT hbw hzl ?_;clear c51 xx hL ho hkk hT hbw hzl;intro c51 xx hL ho hkk hT hbw hzl;go_upto_region 5 with (fail)
    refine aL (by kernel_rfl) [none,none,none,none,none,none,none,none,none,none,none,none,none,none,none,none,none,none,none,none,none,some 0,some 1,some 2,some 3,some 4,some 5,some 6,some 7,some 8,none,none,none,none,none,none,none,none,none,none,none,none,none,none,none,none,none,none,none,none,none,none,none,none,none,none,none,none,none] (fun w'=>Below wr.heap.size wr w') (fun w' w''=>Below w'.heap.size w' w'') (GLr wr.heap.size g w.heap.size vL gL oL m2 cL i #[.int .i64 kk,.int .i64 en,.slice E1 en1 ec1,.slice E2 en2 ec2,.slice E3 en3 ec3] o) (by rfl) (by kernel_rfl) 9 _ rfl (by decide) (by kernel_rfl) [1,9,3,5,5,6,7,8,9,0] (by kernel_rfl) ?ahR ?amono (.cons 8 (ab [7] rfl (by kernel_rfl) ?a8) (.cons 7 (ab [6] rfl (by kernel_rfl) ?a7) (.cons 6 (ab [5] rfl (by kernel_rfl) ?a6) (.cons 5 (ab [3,4] rfl (by kernel_rfl) ?a5) (.cons 4 (ab [] rfl (by kernel_rfl) ?a4) (.cons 3 (ab [2] rfl (by kernel_rfl) ?a3) (.cons 2 (ab [] rfl (by kernel_rfl) ?a2) (.cons 1 (ab [0] rfl (by kernel_rfl) ?a1) (.cons 0 (ab [] rfl (by kernel_rfl) ?a0) (.nil)))))))))) ?adone
    case ahR=>exact (Below.refl _ _).drew
    case amono=>exact nI
    case a0=>
     intro x w' hRw hd K9 hK;simp only[All,GLr]at hd;obtain⟨_⟩:=hd;simp +decide only[upd,GLr,ai,if_true,if_false]at hK⊢;go_simp;have hK2:=hK _ _ ⟨hRw,Below.refl _ _,rfl⟩;exact hK2
    case a1=>
     intro x w' hRw hd K9 hK;simp only[All,GLr]at hd;obtain⟨e0,_⟩:=hd;simp +decide only[upd,GLr,ai,if_true,if_false]at hK⊢;have hcc:=(hL.out.step hRw).blk.cell 3;simp only[e0]at hK⊢;go_simp;have hK2:=hK _ _ ⟨hRw,Below.refl _ _,rfl⟩;exact hK2
    case a2=>
     intro x w' hRw hd K9 hK;simp only[All,GLr]at hd;obtain⟨_⟩:=hd;simp +decide only[upd,GLr,ai,if_true,if_false]at hK⊢;go_simp;have hK2:=hK _ _ ⟨hRw,Below.refl _ _,rfl⟩;exact hK2
    case a3=>
     intro x w' hRw hd K9 hK;simp only[All,GLr]at hd;obtain⟨e2,_⟩:=hd;simp +decide only[upd,GLr,ai,if_true,if_false]at hK⊢;obtain⟨y0,y1,y2,y3,y4⟩:=ap f.out (hL.out.step hRw).below;simp only[e2]at hK⊢;go_simp;have hK2:=hK _ _ ⟨hRw,Below.refl _ _,rfl⟩;exact hK2
    case a4=>
     intro x w' hRw hd K9 hK;simp only[All,GLr]at hd;obtain⟨_⟩:=hd;simp +decide only[upd,GLr,ai,if_true,if_false]at hK⊢;go_simp;have hK2:=hK _ _ ⟨hRw,Below.refl _ _,rfl⟩;exact hK2
    case a5=>
     intro x w' hRw hd K9 hK;simp only[All,GLr]at hd;obtain⟨e3,e4,_⟩:=hd;simp +decide only[upd,GLr,ai,if_true,if_false]at hK⊢;simp only[e3,e4]at hK⊢;go_simp;have hK2:=hK _ _ ⟨hRw,Below.refl _ _,rfl⟩;exact hK2
    case a6=>
     intro x w' hRw hd K9 hK;simp only[All,GLr]at hd;obtain⟨e5,_⟩:=hd;simp +decide only[upd,GLr,ai,if_true,if_false]at hK⊢;obtain⟨y0,y1,y2,y3,y4⟩:=xx.out w' hRw;simp only[e5]at hK⊢;go_simp;have hK2:=hK _ _ ⟨hRw,Below.refl _ _,rfl⟩;exact hK2
    case a7=>
     intro x w' hRw hd K9 hK;simp only[All,GLr]at hd;obtain⟨e6,_⟩:=hd;simp +decide only[upd,GLr,ai,if_true,if_false]at hK⊢;simp only[e6]at hK⊢;go_simp;refine (c51.out w' hRw).mono ?_;rintro e' w2 ⟨us,rfl,hI,hB9⟩;have hI2:ObI wr.heap.size w2.heap.size w2 o us:=hI.wide hRw.size;have hK2:=hK _ _ ⟨ah hRw hB9,hB9,us,_,rfl,hI2⟩;exact hK2
    case a8=>
     intro x w' hRw hd K9 hK;simp only[All,GLr]at hd;obtain⟨⟨us,hi9,e7,hI⟩,_⟩:=hd;simp +decide only[upd,GLr,ai,if_true,if_false]at hK⊢;obtain⟨en',E1',E2',E3',en1',ec1',en2',ec2',en3',ec3',hys'⟩:=ay hI.ob;rw[←hkk.out]at hys';subst hys';simp only[e7]at hK⊢;go_simp;have hba:Below w'.heap.size w' (w'.alloc (.cells #[.int .i64 kk,.int .i64 en',.slice E1' en1' ec1',.slice E2' en2' ec2',.slice E3' en3' ec3'] 32)):=(Below.refl _ _).alloc (Nat.le_refl _) _;have hK2:=hK _ _ ⟨ah hRw hba,hba,_,_,_,rfl,aF hI hba,cI w' _ 32⟩;exact hK2
    case adone=>
     intro x w4 hR2 hG fr hfr;have e1:=hG 1 (by omega);have e4:=hG 8 (by omega);simp only[GLr]at e1 e4;clear hG;obtain⟨q,us,hi9,e4,hI,hcs⟩:=e4;simp only[ai]at hfr;rw[e1,e4]at hfr;have hL6:=hL.out.step hR2;have hz6:=hL6.hs;subst hfr;refine iS rfl _ _ rfl HS _ _ _ rfl hL6.row q wr.heap.size hi9 o us rfl hI z5 (fun q hq=>.inl (hL.out.row.row.lt q hq).2) hcs hzl.out hz6 ?_;intro v' w5 hR3 hg3 hat3;obtain⟨A',n',cc',rfl⟩:∃A' n' c',v'=.slice A' n' c':=by obtain⟨A',cc',g',hv',_⟩:=hR3.out aQ (by omega);exact⟨_,_,_,hv'⟩
     obtain⟨hbk3,hL8⟩:=hL6.put hR3 hg3;have c3':=hbk3.cell 3;have q3':=hbk3.frozen 3;replace hL8:=hi_ hL8;clear hR3 hg3 hat3 hbk3 hL6 hI hcs e1 e4 hz6 hR2;go_wp2
     go_roundw
     case rel=>exact⟨i+1,_,_,by omega,by go_num,by rw[hT.out];exact hL8.out⟩
     case measure=>simp[RowKit.intOf];omega
   ·obtain rfl:i=m2:=by omega
    have hT:l.take i=l:=by rw[hm2.out,List.take_length]
    rw[hT]at hL;have hD0:=hL.toD;obtain⟨p0,p1,p2,p3,p4⟩:=ap f.out hL.below;obtain⟨HD,hHD⟩:∃z,z=wr.heap.size:=⟨_,rfl⟩;rw[←hHD]at hD0;refine h4_ hHD hD0 hL hT ?_;clear hHD hD0 hL hT;intro hHD hD0 hL hT;go_wp2
    go_loopw [5] (fun s5 wr=>∃(j:Nat) (vD:Value) (rd:List (List Value)),j≤m3∧s5=.int .i64 j∧CpD W2 W2.heap.size HS HD g k n (.slice AB b.length cB) b vL l rl wr vD (d.take j) rd) (fun s5 _=>m3 - (RowKit.intOf s5).toNat)
    case atStart=>exact⟨0,_,_,by omega,rfl,hD0.out⟩
    case round=>
    obtain⟨j,vD,rd,hj,rfl,hD⟩:=hrel;obtain⟨k0',k1',k2',k3',k4'⟩:=ap f.out hD.below;by_cases hjm:j<m3
    ·have hjl:j<d.length:=by rw[←hm3.out];exact hjm
     have hAe:=hAD.out (by omega);subst hAe;have hbw:Below w.heap.size w wr:=ah hb2.out hD.below;obtain⟨e,he⟩:∃e,e=d[j]:=⟨_,rfl⟩;have hob:=(hdo.out j hjl).kept hbw;have hky:=hdk.out j hjl;have hcv:=hdv.out j hjl;rw[←he]at hob hky;have hzo:e.2.bulk≤N:=by have:=bZ d j hjl;rw[←he]at this;omega
     obtain⟨us0,hus0⟩:∃us,us=vd j:=⟨_,rfl⟩;rw[←hus0]at hob hcv;obtain⟨en,E1,E2,E3,en1,ec1,en2,ec2,en3,ec3,hys⟩:=ay hob;obtain⟨kk,hkk⟩:∃k,k=e.2.kind:=⟨_,rfl⟩;rw[←hkk]at hys;subst hys;obtain⟨K,hK⟩:∃K,K=bytes e.1:=⟨_,rfl⟩;have x0:wr.cell? ⟨gD,oD+j*6,none⟩=some (.string K):=by
      have h1:=(hbw.cell (ac hky.2)).trans hky.2;rw[Nat.mul_comm]at h1;rw[h1,hK];rfl
     have five:∀q u,[Value.int .i64 kk,.int .i64 en,.slice E1 en1 ec1,.slice E2 en2 ec2,.slice E3 en3 ec3][q]?=some u→wr.cell? ⟨gD,oD+j*6+1+q,none⟩=some u:=fun q u hq=>by
      have h0:=hcv q (by have:=(List.getElem?_eq_some_iff.1 hq).1;simpa using this);rw[hq]at h0;have h1:=(hbw.cell (ac h0)).trans h0;rw[show oD+(6*j+1+q)=oD+j*6+1+q by omega]at h1;exact h1
     have x1:wr.cell? ⟨gD,oD+j*6+1,none⟩=some (.int .i64 kk):=five 0 _ rfl;have x2:wr.cell? ⟨gD,oD+j*6+2,none⟩=some (.int .i64 en):=five 1 _ rfl;have x3:wr.cell? ⟨gD,oD+j*6+3,none⟩=some (.slice E1 en1 ec1):=five 2 _ rfl;have x4:wr.cell? ⟨gD,oD+j*6+4,none⟩=some (.slice E2 en2 ec2):=five 3 _ rfl;have x5:wr.cell? ⟨gD,oD+j*6+5,none⟩=some (.slice E3 en3 ec3):=five 4 _ rfl;have c51:=fun W (hW:Below wr.heap.size wr W)=>ih.out e.2 _ W (hob.kept hW) hzo
     have hT2:d.take (j+1)=d.take j++[e]:=by rw[List.take_succ_eq_append_getElem hjl,he]
     have hzl:(d.take j).length≤1000000000:=by rw[List.length_take];omega
     have z5:HD≤wr.heap.size:=hD.hs;have hkm:=hky.1;have xx:=fun W (hW:Below wr.heap.size wr W)=>And.intro ((hW.cell (ac x0)).trans x0) (And.intro ((hW.cell (ac x1)).trans x1) (And.intro ((hW.cell (ac x2)).trans x2) (And.intro ((hW.cell (ac x3)).trans x3) (And.intro ((hW.cell (ac x4)).trans x4) ((hW.cell (ac x5)).trans x5)))))
     clear five hcv hob hus0 hky x0 x1 x2 x3 x4 x5;refine h9_ c51 xx hD he hkk hK hT2 hbw hzl ?_;clear c51 xx hD he hkk hK hT2 hbw hzl;intro c51 xx hD he hkk hK hT2 hbw hzl;replace hkm:=hi_ hkm;go_upto_region 9 with (fail)
     refine aL (by kernel_rfl) [none,none,none,none,none,none,none,none,none,none,none,none,none,none,none,none,none,none,none,none,none,none,none,none,none,none,none,none,none,none,none,none,none,none,none,none,none,none,none,some 0,some 1,some 2,some 3,some 4,some 5,some 6,some 7,some 8,some 9,some 10,some 11,some 12,some 13,some 14,some 15,some 16,none,none,none] (fun w'=>Below wr.heap.size wr w') (fun w' w''=>Below w'.heap.size w' w'') (GEr wr.heap.size g w.heap.size vD gD oD m3 cD j K #[.int .i64 kk,.int .i64 en,.slice E1 en1 ec1,.slice E2 en2 ec2,.slice E3 en3 ec3] e) (by rfl) (by kernel_rfl) 17 _ rfl (by decide) (by kernel_rfl) [1,17,3,5,5,6,7,15,9,11,11,12,13,14,15,16,17,0] (by kernel_rfl) ?dhR ?dmono (.cons 16 (ab [15] rfl (by kernel_rfl) ?d16) (.cons 15 (ab [7,14] rfl (by kernel_rfl) ?d15) (.cons 14 (ab [13] rfl (by kernel_rfl) ?d14) (.cons 13 (ab [12] rfl (by kernel_rfl) ?d13) (.cons 12 (ab [11] rfl (by kernel_rfl) ?d12) (.cons 11 (ab [9,10] rfl (by kernel_rfl) ?d11) (.cons 10 (ab [] rfl (by kernel_rfl) ?d10) (.cons 9 (ab [8] rfl (by kernel_rfl) ?d9) (.cons 8 (ab [] rfl (by kernel_rfl) ?d8) (.cons 7 (ab [6] rfl (by kernel_rfl) ?d7) (.cons 6 (ab [5] rfl (by kernel_rfl) ?d6) (.cons 5 (ab [3,4] rfl (by kernel_rfl) ?d5) (.cons 4 (ab [] rfl (by kernel_rfl) ?d4) (.cons 3 (ab [2] rfl (by kernel_rfl) ?d3) (.cons 2 (ab [] rfl (by kernel_rfl) ?d2) (.cons 1 (ab [0] rfl (by kernel_rfl) ?d1) (.cons 0 (ab [] rfl (by kernel_rfl) ?d0) (.nil)))))))))))))))))) ?ddone
     case dhR=>exact (Below.refl _ _).drew
     case dmono=>exact nG
     case d0=>
      intro x w' hRw hd K9 hK;simp only[All,GEr]at hd;obtain⟨_⟩:=hd;simp +decide only[upd,GEr,ai,if_true,if_false]at hK⊢;go_simp;have hK2:=hK _ _ ⟨hRw,Below.refl _ _,rfl⟩;exact hK2
     case d1=>
      intro x w' hRw hd K9 hK;simp only[All,GEr]at hd;obtain⟨e0,_⟩:=hd;simp +decide only[upd,GEr,ai,if_true,if_false]at hK⊢;have hcc:=(hD.out.step hRw).blk.cell 4;simp only[e0]at hK⊢;go_simp;have hK2:=hK _ _ ⟨hRw,Below.refl _ _,rfl⟩;exact hK2
     case d2=>
      intro x w' hRw hd K9 hK;simp only[All,GEr]at hd;obtain⟨_⟩:=hd;simp +decide only[upd,GEr,ai,if_true,if_false]at hK⊢;go_simp;have hK2:=hK _ _ ⟨hRw,Below.refl _ _,rfl⟩;exact hK2
     case d3=>
      intro x w' hRw hd K9 hK;simp only[All,GEr]at hd;obtain⟨e2,_⟩:=hd;simp +decide only[upd,GEr,ai,if_true,if_false]at hK⊢;obtain⟨y0,y1,y2,y3,y4⟩:=ap f.out (hD.out.step hRw).below;simp only[e2]at hK⊢;go_simp;have hK2:=hK _ _ ⟨hRw,Below.refl _ _,rfl⟩;exact hK2
     case d4=>
      intro x w' hRw hd K9 hK;simp only[All,GEr]at hd;obtain⟨_⟩:=hd;simp +decide only[upd,GEr,ai,if_true,if_false]at hK⊢;go_simp;have hK2:=hK _ _ ⟨hRw,Below.refl _ _,rfl⟩;exact hK2
     case d5=>
      intro x w' hRw hd K9 hK;simp only[All,GEr]at hd;obtain⟨e3,e4,_⟩:=hd;simp +decide only[upd,GEr,ai,if_true,if_false]at hK⊢;simp only[e3,e4]at hK⊢;go_simp;have hK2:=hK _ _ ⟨hRw,Below.refl _ _,rfl⟩;exact hK2
     case d6=>
      intro x w' hRw hd K9 hK;simp only[All,GEr]at hd;obtain⟨e5,_⟩:=hd;simp +decide only[upd,GEr,ai,if_true,if_false]at hK⊢;simp only[e5]at hK⊢;go_simp;have hK2:=hK _ _ ⟨hRw,Below.refl _ _,rfl⟩;exact hK2
     case d7=>
      intro x w' hRw hd K9 hK;simp only[All,GEr]at hd;obtain⟨e6,_⟩:=hd;simp +decide only[upd,GEr,ai,if_true,if_false]at hK⊢;obtain⟨y0,y1,y2,y3,y4,y5⟩:=xx.out w' hRw;simp only[e6]at hK⊢;go_simp;have hK2:=hK _ _ ⟨hRw,Below.refl _ _,rfl⟩;exact hK2
     case d8=>
      intro x w' hRw hd K9 hK;simp only[All,GEr]at hd;obtain⟨_⟩:=hd;simp +decide only[upd,GEr,ai,if_true,if_false]at hK⊢;go_simp;have hK2:=hK _ _ ⟨hRw,Below.refl _ _,rfl⟩;exact hK2
     case d9=>
      intro x w' hRw hd K9 hK;simp only[All,GEr]at hd;obtain⟨e8,_⟩:=hd;simp +decide only[upd,GEr,ai,if_true,if_false]at hK⊢;obtain⟨y0,y1,y2,y3,y4⟩:=ap f.out (hD.out.step hRw).below;simp only[e8]at hK⊢;go_simp;have hK2:=hK _ _ ⟨hRw,Below.refl _ _,rfl⟩;exact hK2
     case d10=>
      intro x w' hRw hd K9 hK;simp only[All,GEr]at hd;obtain⟨_⟩:=hd;simp +decide only[upd,GEr,ai,if_true,if_false]at hK⊢;go_simp;have hK2:=hK _ _ ⟨hRw,Below.refl _ _,rfl⟩;exact hK2
     case d11=>
      intro x w' hRw hd K9 hK;simp only[All,GEr]at hd;obtain⟨e9,e10,_⟩:=hd;simp +decide only[upd,GEr,ai,if_true,if_false]at hK⊢;simp only[e9,e10]at hK⊢;go_simp;have hK2:=hK _ _ ⟨hRw,Below.refl _ _,rfl⟩;exact hK2
     case d12=>
      intro x w' hRw hd K9 hK;simp only[All,GEr]at hd;obtain⟨e11,_⟩:=hd;simp +decide only[upd,GEr,ai,if_true,if_false]at hK⊢;simp only[e11]at hK⊢;go_simp;have hK2:=hK _ _ ⟨hRw,Below.refl _ _,rfl⟩;exact hK2
     case d13=>
      intro x w' hRw hd K9 hK;simp only[All,GEr]at hd;obtain⟨e12,_⟩:=hd;simp +decide only[upd,GEr,ai,if_true,if_false]at hK⊢;obtain⟨y0,y1,y2,y3,y4,y5⟩:=xx.out w' hRw;simp only[e12]at hK⊢;go_simp;have hK2:=hK _ _ ⟨hRw,Below.refl _ _,rfl⟩;exact hK2
     case d14=>
      intro x w' hRw hd K9 hK;simp only[All,GEr]at hd;obtain⟨e13,_⟩:=hd;simp +decide only[upd,GEr,ai,if_true,if_false]at hK⊢;simp only[e13]at hK⊢;go_simp;refine (c51.out w' hRw).mono ?_;rintro e' w2 ⟨us,rfl,hI,hB9⟩;have hI2:ObI wr.heap.size w2.heap.size w2 e.2 us:=hI.wide hRw.size;have hK2:=hK _ _ ⟨ah hRw hB9,hB9,us,_,rfl,hI2⟩;exact hK2
     case d15=>
      intro x w' hRw hd K9 hK;simp only[All,GEr]at hd;obtain⟨e7,⟨us,hi9,e14,hI⟩,_⟩:=hd;simp +decide only[upd,GEr,ai,if_true,if_false]at hK⊢;obtain⟨en',E1',E2',E3',en1',ec1',en2',ec2',en3',ec3',hys'⟩:=ay hI.ob;rw[←hkk.out]at hys';subst hys';simp only[e7,e14]at hK⊢;go_simp;have hK2:=hK _ _ ⟨hRw,Below.refl _ _,_,_,rfl,hI⟩;exact hK2
     case d16=>
      intro x w' hRw hd K9 hK;simp only[All,GEr]at hd;obtain⟨⟨us,hi9,e15,hI⟩,_⟩:=hd;simp +decide only[upd,GEr,ai,if_true,if_false]at hK⊢;obtain⟨en',E1',E2',E3',en1',ec1',en2',ec2',en3',ec3',hys'⟩:=ay hI.ob;rw[←hkk.out]at hys';subst hys';simp only[e15]at hK⊢;go_simp;have hba:Below w'.heap.size w' (w'.alloc (.cells #[.string K,.int .i64 kk,.int .i64 en',.slice E1' en1' ec1',.slice E2' en2' ec2',.slice E3' en3' ec3'] 91)):=(Below.refl _ _).alloc (Nat.le_refl _) _;have hK2:=hK _ _ ⟨ah hRw hba,hba,_,_,_,rfl,aF hI hba,cI w' _ 91⟩;exact hK2
     case ddone=>
      intro x w4 hR2 hG fr hfr;have e1:=hG 1 (by omega);have e8:=hG 16 (by omega);simp only[GEr]at e1 e8;clear hG;obtain⟨q,us,hi9,e8,hI,hcs⟩:=e8;simp only[ai]at hfr;rw[e1,e8]at hfr;have hL6:=hD.out.step hR2;have hz6:=hL6.hs;have hE:EnI wr.heap.size hi9 w4 e (.string K :: us):=⟨us,by rw[hK.out];rfl,hkm.out,hI⟩;subst hfr;refine kJ rfl _ _ rfl HD _ _ _ rfl hL6.row q wr.heap.size hi9 e (.string K :: us) rfl hE z5 (fun q hq=>.inl (hD.out.row.row.lt q hq).2) hcs hzl.out hz6 ?_;intro v' w5 hR3 hg3 hat3;obtain⟨A',n',cc',rfl⟩:∃A' n' c',v'=.slice A' n' c':=by obtain⟨A',cc',g',hv',_⟩:=hR3.out en_law (by omega);exact⟨_,_,_,hv'⟩
      obtain⟨hbk3,hL8⟩:=hL6.put hR3 hg3;have c4':=hbk3.cell 4;have q4':=hbk3.frozen 4;replace hL8:=hi_ hL8;clear hR3 hg3 hat3 hbk3 hL6 hI hcs e1 e8 hz6 hR2 hE;go_wp2
      go_roundw
      case rel=>exact⟨j+1,_,_,by omega,by go_num,by rw[hT2.out];exact hL8.out⟩
      case measure=>simp[RowKit.intOf];omega
    ·obtain rfl:j=m3:=by omega
     have hT2:d.take j=d:=by rw[hm3.out,List.take_length]
     rw[hT2]at hD;obtain⟨A3,n3,c3,rfl⟩:∃A' n' c',vL=.slice A' n' c':=by obtain⟨A',cc',g',hv',_⟩:=(hD.rowL wr (fun _ _ _=>rfl) hD.hs).out aQ (by omega);exact⟨_,_,_,hv'⟩
     obtain⟨A4,n4,c4,rfl⟩:∃A' n' c',vD=.slice A' n' c':=by obtain⟨A',cc',g',hv',_⟩:=hD.row.out en_law (by omega);exact⟨_,_,_,hv'⟩
     obtain⟨t0,t1,t2,t3,t4,-⟩:=hD.blk.b5;have hRb:=hR2.out.below hD.below (by omega);obtain⟨r0,r1,r2,r3,r4,v0,v1,v2,v3,v4⟩:=hRb.b5;refine h3_ hD hRb hT2 ?_;clear hD hRb hT2;intro hD hRb hT2;go_wp2
     obtain⟨Wf,hWf⟩:∃W,W=((((wr.setCell ⟨w.heap.size+1,0,none⟩ (.int .i64 k)).setCell ⟨w.heap.size+1,1,none⟩ (.int .i64 n)).setCell ⟨w.heap.size+1,2,none⟩ (.slice AB b.length cB)).setCell ⟨w.heap.size+1,3,none⟩ (.slice A3 n3 c3)).setCell ⟨w.heap.size+1,4,none⟩ (.slice A4 n4 c4):=⟨_,rfl⟩;have hgf:wr.grownBy Wf (some (w.heap.size+1)):=by
      rw[hWf];exact ((((aj _ _ _ _).trans (aj _ _ _ _)).trans (aj _ _ _ _)).trans (aj _ _ _ _)).trans (aj _ _ _ _)
     have hbf:Blk Wf (w.heap.size+1) 32 #[.int .i64 k,.int .i64 n,.slice AB b.length cB,.slice A3 n3 c3,.slice A4 n4 c4]:=by
      rw[hWf];exact ((((hRb.out.set_ 0 _).set_ 1 _).set_ 2 _).set_ 3 _).set_ 4 _
     have z9:Wf.heap.size=wr.heap.size:=by rw[hWf];simp[World.setCell]
     rw[←hWf];have hD:=hD.out;have g1:=hD.g1;obtain⟨e1,e2,e3,e4⟩:=hrng.out;have hBf:Below w.heap.size w Wf:=(ah hb2.out hD.below).grown hgf (by have:=hD.hs;have:=hD.h1;have:=hD.g2;omega) (fun q hq=>by injection hq with hq;omega);obtain⟨u0,u1,u2,u3,u4,-⟩:=hbf.b5;have hrow:=RowG.base (B':=w.heap.size) (hD.row.far en_law (fun q h1 h2=>hgf.block q h2 (fun e=>by injection e with e;have:=hD.g2;have:=hD.h1;omega)) (by omega)) (by have:=hD.g2;have:=hD.h1;omega);have hrowL:=RowG.base (B':=w.heap.size) (hD.rowL Wf (fun c c1 c2=>hgf.block c (by have:=hD.hs;omega) (fun e=>by injection e with e;have:=hD.g2;omega)) (by have:=hD.hs;omega)) (by have:=hD.g2;omega);have hrowB:=bJ (hD.own.base (B:=w.heap.size) (by omega)) hgf (fun q hq e=>by injection e with e;have:=(World.ownsRow.lt hD.own.row q hq).1;omega);refine h4_ hrow hrowL hrowB hBf ?_;clear hrow hrowL hrowB hBf;intro hrow hrowL hrowB hBf;clear hD hgf hbf;replace hWf:=hi_ hWf;exact bodyPost_ret (by simp[results,Tryz.results79,go_sem,u0,u1,u2,u3,u4];try rfl) rfl ⟨_,_,_,_,_,rfl,hrowB.out,hrowL.out,hrow.out,hBf.out⟩
theorem CpyE.ob {w:World}{k n:Int}{b:List UInt8}{l:List Ob}{d:List (List UInt8×Ob)}{e:Ending}{w':World}(hk:(-9223372036854775808≤k∧k≤9223372036854775807)∧-9223372036854775808≤n∧n≤9223372036854775807) (h:CpyE w k n b l d e w'):∃us,e=.returned (.agg (List.toArray us))∧ObI w.heap.size w'.heap.size w' (.mk k n b l d) us∧Below w.heap.size w w':=by
 obtain⟨vB,vL,vD,rl,rd,h1,h2,h3,h4,h5⟩:=h;have hbl:b.length≤maxLen:=by
  rcases h2.row.2 with ⟨_,h0⟩|⟨g,cap,cur,_,_,_,hnc,hcm,_⟩
  ·rw[h0];unfold maxLen;omega
  ·exact Nat.le_trans hnc hcm
 exact⟨[.int .i64 k,.int .i64 n,vB,vL,vD],h1,el hk.1.1 hk.1.2 hk.2.1 hk.2.2 h2.row hbl h3 h4,h5⟩
theorem ObAt.range {w:World}{k n:Int}{b:List UInt8}{l:List Ob}{d:List (List UInt8×Ob)}{vs:List Value}(h:ObAt w (.mk k n b l d) vs):(-9223372036854775808≤k∧k≤9223372036854775807)∧-9223372036854775808≤n∧n≤9223372036854775807:=by
 cases h with
 |mk k n b l d A AL AD c cL cD gL oL gD oD vl vd h1 h2 h3 h4=>exact⟨⟨h1,h2⟩,h3,h4⟩
theorem lh (N:Nat) (hN:N+1≤100000000) (ih:iR N):iR (N+1):=fun o vs w h hbk=>by
 cases o with
 |mk k n b l d=>exact (kg N hN ih k n b l d vs w h hbk).mono fun e w' hq=>hq.ob (ObAt.range h)
theorem iC:∀N,N≤100000000→iR N
 |0,_=>fun o vs w _ h=>by have:=dk o;omega
 |N+1,h=>lh N h (iC N (by omega))
end
end Go.Proofs.YthffpbkndnhlfaaGreatDoor
