/- Walks and laws, joined: part K. No condition. -/
import Derived.Test.YthffpbkndnhlfaaGreatDoorTrJJ
import Derived.Test.YthffpbkndnhlfaaGreatDoorTrJF
import Derived.Test.YthffpbkndnhlfaaGreatDoorTrJH
import Derived.Test.YthffpbkndnhlfaaGreatDoorTrJG
import Derived.Deep.RegionHeld3
import Derived.Deep.DrawnRows
import Derived.Test.YthffpbkndnhlfaaGreatDoorTrJD
import Derived.Test.YthffpbkndnhlfaaGreatDoorTrJA
import Derived.Deep.QuietTactic
import Derived.BigQuiet
set_option linter.unusedSimpArgs false
set_option linter.unusedVariables false
set_option maxRecDepth 100000
set_option maxHeartbeats 32000000
namespace Go.Proofs.YthffpbkndnhlfaaGreatDoor
open Go Go.RowKit Go.Wk Go.Rd Go.Fx
section
variable {L:Nat}{A:Option Addr}{c:Nat}{bs:Bs}{D P:Value}{w w':World}{r r' u:Bs}{k:Tok}
theorem rE (h:ar r=.ok k u): -9223372036854775808≤k.n∧k.n≤9223372036854775807:=by
 unfold ar at h;have key:∀B:Bs,tokA B=.ok k u→-9223372036854775808≤k.n∧k.n≤9223372036854775807:=fun B h=>by
  cases B with
  |nil=>rw[tokA]at h;cases h;simp
  |cons x t=>
   rw[tokA]at h;have ht:∀kk R,bw kk (x :: t) R=.ok k u→-9223372036854775808≤k.n∧k.n≤9223372036854775807:=fun kk R h=>by
    cases R with
    |ok b v=>cases h;simp
    |err e v=>cases h
   unfold dS at h;have hp:=mZ (aN (x :: t))
   repeat' split at h
   all_goals first
    |(cases h;done)
    |exact ht _ _ h
    |(cases h;exact hp)
    |(cases h;simp;done)
 exact key _ h
theorem fE (b s:Bs) (S:ByteArray) (hS:S.data.toList=s):((bytes b).toList == S.toList)=decide (b=s):=by
 rw[ByteArray.toList_eq,ByteArray.toList_eq,hS,Bool.eq_iff_iff];show (b == s)=true↔_
 simp
theorem dh {B1 B2:Nat}{W Wf:World}{o:Ob}{v0 v1 v2 v3 v4:Value}(hS:Save L w W) (hL:LX L A c bs D P W r) (hR:Blk W w.heap.size 32 #[.int .i64 0,.int .i64 0,.slice none 0 0,.slice none 0 0,.slice none 0 0]) (hne:L≠w.heap.size) (hAw:0<bs.length→∀x,A=some x→x.block<w.heap.size) (hI:ObI B1 B2 W o [v0,v1,v2,v3,v4]) (hB1:w.heap.size<B1) (hB2:B2=W.heap.size)
 (hWf:Wf=((((W.setCell ⟨w.heap.size,0,none⟩ v0).setCell ⟨w.heap.size,1,none⟩ v1).setCell ⟨w.heap.size,2,none⟩ v2).setCell ⟨w.heap.size,3,none⟩ v3).setCell ⟨w.heap.size,4,none⟩ v4) :
 Blk Wf w.heap.size 32 #[v0,v1,v2,v3,v4]∧ObI w.heap.size Wf.heap.size Wf o [v0,v1,v2,v3,v4]∧LX L A c bs D P Wf r∧Save L w Wf:=by
 obtain⟨hbf,hgf,hzf⟩:=dt hR hWf;refine⟨hbf,?_,hL.grown_ hgf hne (fun h0 x hx=>by have:=hAw h0 x hx;omega),hS.grown_ hgf (Nat.le_refl _)⟩;have h1:=hI.keep (w':=Wf) (fun b h1 h2=>hgf.block b (by have:=hI.1;omega) (by intro e;injection e with e;omega)) (by omega);rw[hB2]at h1;rw[hzf];exact h1.wide (by omega)
theorem gn {w:World}{o:Ob}{vs:List Value}(h:ObAt w o vs):∃(k n:Int) (A1 A2 A3:Option Addr) (n1 c1 n2 c2 n3 c3:Nat),vs=[.int .i64 k,.int .i64 n,.slice A1 n1 c1,.slice A2 n2 c2,.slice A3 n3 c3]:=by
 obtain⟨n,A1,A2,A3,n1,c1,n2,c2,n3,c3,e⟩:=ay h;exact⟨_,_,_,_,_,_,_,_,_,_,_,e⟩
theorem lN {B:Nat}{w:World}{k:Int}{v:Value}{b:Bs}(hk1: -9223372036854775808≤k) (hk2:k≤9223372036854775807) (h:Own B w v b):ObI B w.heap.size w (.mk k 0 b [] []) [.int .i64 k,.int .i64 0,v,.slice none 0 0,.slice none 0 0]:=
 el (tO:=32) (tE:=91) hk1 hk2 (by decide) (by decide) h.row h.len (RowG.nil _ _ _ _ _) (RowG.nil _ _ _ _ _)
theorem ib {pl:Bool}{d:Nat}(ih:∀d',d=d'+1→nL pl d') (hd:d≤1001):nL pl d:=by
 intro L A c bs D w r h hsm;have hLw:=h.lt;have hAw:=h.a_lt;obtain⟨W1,hW1,b1⟩:=bH w 32 #[.int .i64 0,.int .i64 0,.slice none 0 0,.slice none 0 0,.slice none 0 0];have z1:W1.heap.size=w.heap.size+1:=by rw[hW1,World.size_alloc]
 have hR:=Blk.new w 32 #[.int .i64 0,.int .i64 0,.slice none 0 0,.slice none 0 0,.slice none 0 0];rw[←hW1]at hR;have hL:=h.below b1;have hS:=Save.of_below (L:=L) b1;have hneR:w.heap.size≠L:=by omega
 have hsuf:=h.suf;obtain⟨R,hRe⟩:∃R,R=valS pl d r:=⟨_,rfl⟩;rw[←hRe];obtain⟨di,hdi⟩:∃i:Int,i=(d:Nat):=⟨_,rfl⟩;rw[←hdi];replace hdi:=hi_ hdi;have l1:=hL.blk.cell 1;have lv:=hL.blk.frozen 1;obtain⟨p0,p1,p2,p3,p4,f0,f1,f2,f3,f4⟩:=hR.b5;refine h7_ hRe hAw hL hR hS ih z1 ?_;clear hRe hAw hL hR hS ih z1;intro hRe hAw hL hR hS ih z1;clear h b1;cases ht:ar r with
 |err n u=>
  have hE2:R=.err n u:=by rw[hRe.out,valS,ht]
  subst hE2;obtain⟨a1,ha1⟩:∃a:Int,a=(pos bs (af false r):Nat):=⟨_,rfl⟩;have ctok:=fun W (h:LX L A c bs D (.bool pl) W r)=>eZ h ht ha1
  replace ctok:=hi_ ctok;clear ha1 ht;go_enter Tryz.func70,Tryz.ntmps70;go_upto_region 2 with (fail)
  go_at_call 96
  rw[←hW1];replace hW1:=hi_ hW1
  (with_reducible refine (ctok.out _ hL.out).mono ?_)
  rintro e w3 ⟨hn0,rfl,hL3,hS3⟩;obtain⟨w4,hw4,b4,hK4⟩:=ak w3 119 #[.int .i64 0,.int .i64 a1,.int .i64 0,.slice none 0 0];obtain⟨k40,k41c,k42,k43,-⟩:=hK4.b4;have z4:w.heap.size+1≤w4.heap.size:=by have:=hS3.size;have:=b4.size;have:=z1.out;omega
  replace hL:=hi_ hL3;replace hR:=hi_ (hS3.blk hneR hR.out);replace hS:=hi_ (hS.out.trans hS3);replace hL:=hi_ (hL.out.below b4);replace hR:=hi_ (hR.out.below b4 hR.out.lt);replace hS:=hi_ (hS.out.then_ b4);replace l1:=hL.out.blk.cell 1;replace lv:=hL.out.blk.frozen 1;obtain⟨p0,p1,p2,p3,p4,f0,f1,f2,f3,f4⟩:=hR.out.b5;go_upto_region 2 with (fail)
  rw[←hw4];replace hw4:=hi_ hw4;clear b4 hS3 hL3;have hnb:(n !=0)=true:=by simpa using hn0
  go_wp2
  generalize hWf:World.setCell _ _ _=Wf;replace hWf:=hWf.symm;obtain⟨hbf,hLf,hSf⟩:=aw hS.out hL.out hR.out (Nat.le_refl _) hneR.symm hAw.out hWf;obtain⟨u0,u1,u2,u3,u4,-⟩:=hbf.b5;refine h4_ hLf hSf hWf hn0 ?_;clear hLf hSf hWf hn0;intro hLf hSf hWf hn0;clear hbf;exact bodyPost_ret (by simp[results,Tryz.results70,go_sem,u0,u1,u2,u3,u4];try rfl) rfl ⟨hn0.out,rfl,hLf.out,hSf.out⟩
 |ok k u=>
  have hn64:=rE ht;obtain⟨a1,ha1⟩:∃a:Int,a=(pos bs (af false r):Nat):=⟨_,rfl⟩;have ctok:=fun W (h:LX L A c bs D (.bool pl) W r)=>dO h ht ha1
  have hbsuf:af false r <:+bs:=(cC false r).trans hsuf;have cst:=fun W n (h:LX L A c bs D (.bool pl) W u)=>mq h hbsuf ha1 n
  replace cst:=hi_ cst;obtain⟨kk,hkk⟩:∃x,x=k.k:=⟨_,rfl⟩;rw[←hkk]at ctok;replace ctok:=hi_ ctok;have hE2:=hRe.out;rw[valS,ht]at hE2;simp only[]at hE2;rw[←hkk]at hE2;refine h3_ hE2 hkk hn64 ?_;clear hE2 hkk hn64;intro hE2 hkk hn64;clear ha1 hbsuf ht hRe hsuf;go_enter Tryz.func70,Tryz.ntmps70;go_upto_region 2 with (fail)
  go_at_call 96
  rw[←hW1];replace hW1:=hi_ hW1
  (with_reducible refine (ctok.out _ hL.out).mono ?_)
  rintro e w3 ⟨A3,c3,rfl,hO3,hL3,hS3⟩;obtain⟨w4,hw4,b4,hK4⟩:=ak w3 119 #[.int .i64 kk,.int .i64 a1,.int .i64 k.n,.slice A3 k.b.length c3];obtain⟨k40,k41c,k42,k43,-⟩:=hK4.b4;have z4:w.heap.size+1≤w4.heap.size:=by have:=hS3.size;have:=b4.size;have:=z1.out;omega
  replace hL:=hi_ hL3;replace hR:=hi_ (hS3.blk hneR hR.out);replace hS:=hi_ (hS.out.trans hS3);replace hL:=hi_ (hL.out.below b4);replace hR:=hi_ (hR.out.below b4 hR.out.lt);replace hS:=hi_ (hS.out.then_ b4);replace l1:=hL.out.blk.cell 1;replace lv:=hL.out.blk.frozen 1;obtain⟨p0,p1,p2,p3,p4,f0,f1,f2,f3,f4⟩:=hR.out.b5;have hOb4:=hO3.below b4;obtain⟨_,_,e3,hby4,hA3,_⟩:=hOb4.out2 hOb4.len;cases e3;replace hOb4:=hi_ hOb4;replace hby4:=hi_ hby4;clear hA3;go_upto_region 2 with (fail)
  rw[←hw4];replace hw4:=hi_ hw4;replace hK4:=hi_ hK4;clear hO3 b4 hS3 hL3;replace hE2:=hE2.out;by_cases hk0:kk=0
  ·subst hk0
   rw[if_pos rfl]at hE2;subst hE2;go_wp2_with (go_at_call 97;(with_reducible refine (cst.out _ _ hL.out).mono ?_);rintro e w5 ⟨rfl,hL5,hS5⟩;replace hL:=hi_ hL5;replace hR:=hi_ (hS5.blk hneR hR.out);replace hS:=hi_ (hS.out.trans hS5);replace l1:=hL.out.blk.cell 1;replace lv:=hL.out.blk.frozen 1;obtain⟨p0,p1,p2,p3,p4,f0,f1,f2,f3,f4⟩:=hR.out.b5;clear hL5 hS5)
   generalize hWf:World.setCell _ _ _=Wf;replace hWf:=hWf.symm;obtain⟨hbf,hLf,hSf⟩:=aw hS.out hL.out hR.out (Nat.le_refl _) hneR.symm hAw.out hWf;obtain⟨u0,u1,u2,u3,u4,-⟩:=hbf.b5;refine h3_ hLf hSf hWf ?_;clear hLf hSf hWf;intro hLf hSf hWf;clear hbf;exact bodyPost_ret (by simp[results,Tryz.results70,go_sem,u0,u1,u2,u3,u4];try rfl) rfl ⟨by decide,rfl,hLf.out,hSf.out⟩
  rw[if_neg hk0]at hE2;have hn0:(kk == 0)=false:=by simpa using hk0
  by_cases hk1:kk=1
  ·subst hk1
   rw[if_pos rfl]at hE2;subst hE2;have cw:=pt (kk:=1) (n:=k.n) (at1:=.int .i64 a1) (v1:=.slice A3 k.b.length c3) hL.out hn64.out;replace cw:=hi_ cw;go_wp2_with (go_at_call 98;(with_reducible refine (cw.out).mono ?_);rintro e w5 ⟨us,rfl,hI5,hL5,hS5⟩;obtain⟨xk,xn,F1,F2,F3,fn1,fc1,fn2,fc2,fn3,fc3,hxs⟩:=gn hI5.ob;subst hxs;have hI:=hi_ hI5;replace hL:=hi_ hL5;replace hR:=hi_ (hS5.blk hneR hR.out);replace hS:=hi_ (hS.out.trans hS5);replace l1:=hL.out.blk.cell 1;replace lv:=hL.out.blk.frozen 1;obtain⟨p0,p1,p2,p3,p4,f0,f1,f2,f3,f4⟩:=hR.out.b5;clear hL5 hS5 hI5)
   generalize hWf:World.setCell _ _ _=Wf;replace hWf:=hWf.symm;obtain⟨hbf,hIf,hLf,hSf⟩:=dh hS.out hL.out hR.out hneR.symm hAw.out (hI.out) (by have:=z1.out;omega) rfl hWf;obtain⟨u0,u1,u2,u3,u4,-⟩:=hbf.b5;refine h4_ hIf hLf hSf hWf ?_;clear hIf hLf hSf hWf;intro hIf hLf hSf hWf;clear hbf;exact bodyPost_ret (by simp[results,Tryz.results70,go_sem,u0,u1,u2,u3,u4];try rfl) rfl ⟨_,rfl,hIf.out,hLf.out,hSf.out⟩
  rw[if_neg hk1]at hE2;have hn1:(kk == 1)=false:=by simpa using hk1
  by_cases hk2:kk=2
  ·subst hk2
   rw[if_pos rfl]at hE2;subst hE2;go_wp2
   generalize hWf:World.setCell _ _ _=Wf;replace hWf:=hWf.symm;obtain⟨hbf,hIf,hLf,hSf⟩:=dh hS.out hL.out hR.out hneR.symm hAw.out (jS (B:=w4.heap.size) 3 k.n (by decide) (by decide) hn64.out) (by have:=z1.out;omega) rfl hWf;obtain⟨u0,u1,u2,u3,u4,-⟩:=hbf.b5;refine h4_ hIf hLf hSf hWf ?_;clear hIf hLf hSf hWf;intro hIf hLf hSf hWf;clear hbf;exact bodyPost_ret (by simp[results,Tryz.results70,go_sem,u0,u1,u2,u3,u4];try rfl) rfl ⟨_,rfl,hIf.out,hLf.out,hSf.out⟩
  rw[if_neg hk2]at hE2;have hn2:(kk == 2)=false:=by simpa using hk2
  by_cases hk3:kk=3
  ·subst hk3
   rw[if_pos rfl]at hE2;subst hE2;go_wp2
   generalize hWf:World.setCell _ _ _=Wf;replace hWf:=hWf.symm;obtain⟨hbf,hIf,hLf,hSf⟩:=dh hS.out hL.out hR.out hneR.symm hAw.out (lN (k:=4) (by decide) (by decide) hOb4.out) (by have:=z1.out;omega) rfl hWf;obtain⟨u0,u1,u2,u3,u4,-⟩:=hbf.b5;refine h4_ hIf hLf hSf hWf ?_;clear hIf hLf hSf hWf;intro hIf hLf hSf hWf;clear hbf;exact bodyPost_ret (by simp[results,Tryz.results70,go_sem,u0,u1,u2,u3,u4];try rfl) rfl ⟨_,rfl,hIf.out,hLf.out,hSf.out⟩
  rw[if_neg hk3]at hE2;have hn3:(kk == 3)=false:=by simpa using hk3
  by_cases hk4:kk=4
  ·subst hk4
   rw[if_pos rfl]at hE2;subst hE2;go_wp2
   generalize hWf:World.setCell _ _ _=Wf;replace hWf:=hWf.symm;obtain⟨hbf,hIf,hLf,hSf⟩:=dh hS.out hL.out hR.out hneR.symm hAw.out (lN (k:=5) (by decide) (by decide) hOb4.out) (by have:=z1.out;omega) rfl hWf;obtain⟨u0,u1,u2,u3,u4,-⟩:=hbf.b5;refine h4_ hIf hLf hSf hWf ?_;clear hIf hLf hSf hWf;intro hIf hLf hSf hWf;clear hbf;exact bodyPost_ret (by simp[results,Tryz.results70,go_sem,u0,u1,u2,u3,u4];try rfl) rfl ⟨_,rfl,hIf.out,hLf.out,hSf.out⟩
  rw[if_neg hk4]at hE2;have hn4:(kk == 4)=false:=by simpa using hk4
  by_cases hk9:kk=9
  ·subst hk9
   rw[if_pos rfl]at hE2;have hcv:=cN w4 A3 c3 k.b hby4.out;have hq1:=fE k.b [116,114,117,101] ⟨#[116,114,117,101]⟩ rfl;have hq2:=fE k.b [102,97,108,115,101] ⟨#[102,97,108,115,101]⟩ rfl;have hq3:=fE k.b [110,117,108,108] ⟨#[110,117,108,108]⟩ rfl;have hy:∀b:Bs,ByteArray.toList ⟨b.toArray⟩=b:=fun b=>by rw[ByteArray.toList_eq]
   rw[hy [116,114,117,101]]at hq1;rw[hy [102,97,108,115,101]]at hq2;rw[hy [110,117,108,108]]at hq3;unfold kH at hE2;clear hy;by_cases hb1:k.b=[116,114,117,101]
   ·rw[if_pos hb1]at hE2
    rw[decide_eq_true hb1]at hq1;subst hE2;clear hb1 hq2 hq3;go_wp2
    generalize hWf:World.setCell _ _ _=Wf;replace hWf:=hWf.symm;obtain⟨hbf,hIf,hLf,hSf⟩:=dh hS.out hL.out hR.out hneR.symm hAw.out (jS (B:=w4.heap.size) 1 1 (by decide) (by decide) (by decide)) (by have:=z1.out;omega) rfl hWf;obtain⟨u0,u1,u2,u3,u4,-⟩:=hbf.b5;refine h4_ hIf hLf hSf hWf ?_;clear hIf hLf hSf hWf;intro hIf hLf hSf hWf;clear hbf;exact bodyPost_ret (by simp[results,Tryz.results70,go_sem,u0,u1,u2,u3,u4];try rfl) rfl ⟨_,rfl,hIf.out,hLf.out,hSf.out⟩
   rw[if_neg hb1]at hE2;rw[decide_eq_false hb1]at hq1;clear hb1;by_cases hb1:k.b=[102,97,108,115,101]
   ·rw[if_pos hb1]at hE2
    rw[decide_eq_true hb1]at hq2;subst hE2;clear hb1 hq3;go_wp2
    generalize hWf:World.setCell _ _ _=Wf;replace hWf:=hWf.symm;obtain⟨hbf,hIf,hLf,hSf⟩:=dh hS.out hL.out hR.out hneR.symm hAw.out (jS (B:=w4.heap.size) 1 0 (by decide) (by decide) (by decide)) (by have:=z1.out;omega) rfl hWf;obtain⟨u0,u1,u2,u3,u4,-⟩:=hbf.b5;refine h4_ hIf hLf hSf hWf ?_;clear hIf hLf hSf hWf;intro hIf hLf hSf hWf;clear hbf;exact bodyPost_ret (by simp[results,Tryz.results70,go_sem,u0,u1,u2,u3,u4];try rfl) rfl ⟨_,rfl,hIf.out,hLf.out,hSf.out⟩
   rw[if_neg hb1]at hE2;rw[decide_eq_false hb1]at hq2;clear hb1;by_cases hb1:k.b=[110,117,108,108]
   ·rw[if_pos hb1]at hE2
    rw[decide_eq_true hb1]at hq3;subst hE2;clear hb1;go_wp2
    generalize hWf:World.setCell _ _ _=Wf;replace hWf:=hWf.symm;obtain⟨hbf,hIf,hLf,hSf⟩:=dh hS.out hL.out hR.out hneR.symm hAw.out (jS (B:=w4.heap.size) 0 0 (by decide) (by decide) (by decide)) (by have:=z1.out;omega) rfl hWf;obtain⟨u0,u1,u2,u3,u4,-⟩:=hbf.b5;refine h4_ hIf hLf hSf hWf ?_;clear hIf hLf hSf hWf;intro hIf hLf hSf hWf;clear hbf;exact bodyPost_ret (by simp[results,Tryz.results70,go_sem,u0,u1,u2,u3,u4];try rfl) rfl ⟨_,rfl,hIf.out,hLf.out,hSf.out⟩
   rw[if_neg hb1]at hE2;rw[decide_eq_false hb1]at hq3;clear hb1;subst hE2;go_wp2_with (go_at_call 97;(with_reducible refine (cst.out _ _ hL.out).mono ?_);rintro e w5 ⟨rfl,hL5,hS5⟩;replace hL:=hi_ hL5;replace hR:=hi_ (hS5.blk hneR hR.out);replace hS:=hi_ (hS.out.trans hS5);replace l1:=hL.out.blk.cell 1;replace lv:=hL.out.blk.frozen 1;obtain⟨p0,p1,p2,p3,p4,f0,f1,f2,f3,f4⟩:=hR.out.b5;clear hL5 hS5)
   generalize hWf:World.setCell _ _ _=Wf;replace hWf:=hWf.symm;obtain⟨hbf,hLf,hSf⟩:=aw hS.out hL.out hR.out (Nat.le_refl _) hneR.symm hAw.out hWf;obtain⟨u0,u1,u2,u3,u4,-⟩:=hbf.b5;refine h3_ hLf hSf hWf ?_;clear hLf hSf hWf;intro hLf hSf hWf;clear hbf;exact bodyPost_ret (by simp[results,Tryz.results70,go_sem,u0,u1,u2,u3,u4];try rfl) rfl ⟨by decide,rfl,hLf.out,hSf.out⟩
  rw[if_neg hk9]at hE2;have hn9:(kk == 9)=false:=by simpa using hk9
  by_cases hk5:kk=5
  ·subst hk5
   rw[if_pos rfl]at hE2;cases d with
   |zero=>
    simp only[]at hE2;subst hE2;obtain rfl:di=0:=hdi.out;go_wp2_with (go_at_call 97;(with_reducible refine (cst.out _ _ hL.out).mono ?_);rintro e w5 ⟨rfl,hL5,hS5⟩;replace hL:=hi_ hL5;replace hR:=hi_ (hS5.blk hneR hR.out);replace hS:=hi_ (hS.out.trans hS5);replace l1:=hL.out.blk.cell 1;replace lv:=hL.out.blk.frozen 1;obtain⟨p0,p1,p2,p3,p4,f0,f1,f2,f3,f4⟩:=hR.out.b5;clear hL5 hS5)
    generalize hWf:World.setCell _ _ _=Wf;replace hWf:=hWf.symm;obtain⟨hbf,hLf,hSf⟩:=aw hS.out hL.out hR.out (Nat.le_refl _) hneR.symm hAw.out hWf;obtain⟨u0,u1,u2,u3,u4,-⟩:=hbf.b5;refine h3_ hLf hSf hWf ?_;clear hLf hSf hWf;intro hLf hSf hWf;clear hbf;exact bodyPost_ret (by simp[results,Tryz.results70,go_sem,u0,u1,u2,u3,u4];try rfl) rfl ⟨by decide,rfl,hLf.out,hSf.out⟩
   |succ d'=>
    simp only[]at hE2;have hdo:=hdi.out;have hd1:di - 1=(d':Nat):=by omega
    have hd2:decide (di<1)=false:=by simp only[decide_eq_false_iff_not];omega
    have hd3:1≤di:=by omega
    have hd4:di≤1001:=by omega
    clear hdo;replace hd1:=hi_ hd1;have cv:Calls Tryz.prog 99 #[.pointer (some ⟨L,0,none⟩),.int .i64 (d':Nat)] w4 (mu L A c bs D (.bool pl) w4 R):=by
     have c0:=pm (ih.out d' rfl) (by omega) hL.out hsm;rw[hE2];generalize dj (valS pl d') (u.length+1) [] u=X at c0⊢;cases X <;> exact c0
    replace cv:=hi_ cv;clear hE2;cases R with
    |err n v=>
     go_wp2_with (go_at_call 99;rw[hd1.out];(with_reducible refine (cv.out).mono ?_);rintro e w5 ⟨hn0,rfl,hL5,hS5⟩;replace hL:=hi_ hL5;replace hR:=hi_ (hS5.blk hneR hR.out);replace hS:=hi_ (hS.out.trans hS5);replace l1:=hL.out.blk.cell 1;replace lv:=hL.out.blk.frozen 1;obtain⟨p0,p1,p2,p3,p4,f0,f1,f2,f3,f4⟩:=hR.out.b5;clear hL5 hS5)
     generalize hWf:World.setCell _ _ _=Wf;replace hWf:=hWf.symm;obtain⟨hbf,hLf,hSf⟩:=aw hS.out hL.out hR.out (Nat.le_refl _) hneR.symm hAw.out hWf;obtain⟨u0,u1,u2,u3,u4,-⟩:=hbf.b5;refine h4_ hLf hSf hWf hn0 ?_;clear hLf hSf hWf hn0;intro hLf hSf hWf hn0;clear hbf;exact bodyPost_ret (by simp[results,Tryz.results70,go_sem,u0,u1,u2,u3,u4];try rfl) rfl ⟨hn0.out,rfl,hLf.out,hSf.out⟩
    |ok o v=>
     go_wp2_with (go_at_call 99;rw[hd1.out];(with_reducible refine (cv.out).mono ?_);rintro e w5 ⟨us,rfl,hI5,hL5,hS5⟩;obtain⟨xk,xn,F1,F2,F3,fn1,fc1,fn2,fc2,fn3,fc3,hxs⟩:=gn hI5.ob;subst hxs;have hI:=hi_ hI5;replace hL:=hi_ hL5;replace hR:=hi_ (hS5.blk hneR hR.out);replace hS:=hi_ (hS.out.trans hS5);replace l1:=hL.out.blk.cell 1;replace lv:=hL.out.blk.frozen 1;obtain⟨p0,p1,p2,p3,p4,f0,f1,f2,f3,f4⟩:=hR.out.b5;clear hL5 hS5 hI5)
     generalize hWf:World.setCell _ _ _=Wf;replace hWf:=hWf.symm;obtain⟨hbf,hIf,hLf,hSf⟩:=dh hS.out hL.out hR.out hneR.symm hAw.out (hI.out) (by have:=z1.out;omega) rfl hWf;obtain⟨u0,u1,u2,u3,u4,-⟩:=hbf.b5;refine h4_ hIf hLf hSf hWf ?_;clear hIf hLf hSf hWf;intro hIf hLf hSf hWf;clear hbf;exact bodyPost_ret (by simp[results,Tryz.results70,go_sem,u0,u1,u2,u3,u4];try rfl) rfl ⟨_,rfl,hIf.out,hLf.out,hSf.out⟩
  rw[if_neg hk5]at hE2;have hn5:(kk == 5)=false:=by simpa using hk5
  by_cases hk7:kk=7
  ·subst hk7
   rw[if_pos rfl]at hE2;cases d with
   |zero=>
    simp only[]at hE2;subst hE2;obtain rfl:di=0:=hdi.out;go_wp2_with (go_at_call 97;(with_reducible refine (cst.out _ _ hL.out).mono ?_);rintro e w5 ⟨rfl,hL5,hS5⟩;replace hL:=hi_ hL5;replace hR:=hi_ (hS5.blk hneR hR.out);replace hS:=hi_ (hS.out.trans hS5);replace l1:=hL.out.blk.cell 1;replace lv:=hL.out.blk.frozen 1;obtain⟨p0,p1,p2,p3,p4,f0,f1,f2,f3,f4⟩:=hR.out.b5;clear hL5 hS5)
    generalize hWf:World.setCell _ _ _=Wf;replace hWf:=hWf.symm;obtain⟨hbf,hLf,hSf⟩:=aw hS.out hL.out hR.out (Nat.le_refl _) hneR.symm hAw.out hWf;obtain⟨u0,u1,u2,u3,u4,-⟩:=hbf.b5;refine h3_ hLf hSf hWf ?_;clear hLf hSf hWf;intro hLf hSf hWf;clear hbf;exact bodyPost_ret (by simp[results,Tryz.results70,go_sem,u0,u1,u2,u3,u4];try rfl) rfl ⟨by decide,rfl,hLf.out,hSf.out⟩
   |succ d'=>
    simp only[]at hE2;have hdo:=hdi.out;have hd1:di - 1=(d':Nat):=by omega
    have hd2:decide (di<1)=false:=by simp only[decide_eq_false_iff_not];omega
    have hd3:1≤di:=by omega
    have hd4:di≤1001:=by omega
    clear hdo;replace hd1:=hi_ hd1;have cv:Calls Tryz.prog 100 #[.pointer (some ⟨L,0,none⟩),.int .i64 (d':Nat)] w4 (mu L A c bs D (.bool pl) w4 R):=by
     have c0:=q8 (ih.out d' rfl) (by omega) hL.out hsm;rw[hE2];generalize bQ (valS pl d') (u.length+1) [] [] u=X at c0⊢;cases X <;> exact c0
    replace cv:=hi_ cv;clear hE2;cases R with
    |err n v=>
     go_wp2_with (go_at_call 100;rw[hd1.out];(with_reducible refine (cv.out).mono ?_);rintro e w5 ⟨hn0,rfl,hL5,hS5⟩;replace hL:=hi_ hL5;replace hR:=hi_ (hS5.blk hneR hR.out);replace hS:=hi_ (hS.out.trans hS5);replace l1:=hL.out.blk.cell 1;replace lv:=hL.out.blk.frozen 1;obtain⟨p0,p1,p2,p3,p4,f0,f1,f2,f3,f4⟩:=hR.out.b5;clear hL5 hS5)
     generalize hWf:World.setCell _ _ _=Wf;replace hWf:=hWf.symm;obtain⟨hbf,hLf,hSf⟩:=aw hS.out hL.out hR.out (Nat.le_refl _) hneR.symm hAw.out hWf;obtain⟨u0,u1,u2,u3,u4,-⟩:=hbf.b5;refine h4_ hLf hSf hWf hn0 ?_;clear hLf hSf hWf hn0;intro hLf hSf hWf hn0;clear hbf;exact bodyPost_ret (by simp[results,Tryz.results70,go_sem,u0,u1,u2,u3,u4];try rfl) rfl ⟨hn0.out,rfl,hLf.out,hSf.out⟩
    |ok o v=>
     go_wp2_with (go_at_call 100;rw[hd1.out];(with_reducible refine (cv.out).mono ?_);rintro e w5 ⟨us,rfl,hI5,hL5,hS5⟩;obtain⟨xk,xn,F1,F2,F3,fn1,fc1,fn2,fc2,fn3,fc3,hxs⟩:=gn hI5.ob;subst hxs;have hI:=hi_ hI5;replace hL:=hi_ hL5;replace hR:=hi_ (hS5.blk hneR hR.out);replace hS:=hi_ (hS.out.trans hS5);replace l1:=hL.out.blk.cell 1;replace lv:=hL.out.blk.frozen 1;obtain⟨p0,p1,p2,p3,p4,f0,f1,f2,f3,f4⟩:=hR.out.b5;clear hL5 hS5 hI5)
     generalize hWf:World.setCell _ _ _=Wf;replace hWf:=hWf.symm;obtain⟨hbf,hIf,hLf,hSf⟩:=dh hS.out hL.out hR.out hneR.symm hAw.out (hI.out) (by have:=z1.out;omega) rfl hWf;obtain⟨u0,u1,u2,u3,u4,-⟩:=hbf.b5;refine h4_ hIf hLf hSf hWf ?_;clear hIf hLf hSf hWf;intro hIf hLf hSf hWf;clear hbf;exact bodyPost_ret (by simp[results,Tryz.results70,go_sem,u0,u1,u2,u3,u4];try rfl) rfl ⟨_,rfl,hIf.out,hLf.out,hSf.out⟩
  rw[if_neg hk7]at hE2;have hn7:(kk == 7)=false:=by simpa using hk7
  subst hE2;go_wp2_with (go_at_call 97;(with_reducible refine (cst.out _ _ hL.out).mono ?_);rintro e w5 ⟨rfl,hL5,hS5⟩;replace hL:=hi_ hL5;replace hR:=hi_ (hS5.blk hneR hR.out);replace hS:=hi_ (hS.out.trans hS5);replace l1:=hL.out.blk.cell 1;replace lv:=hL.out.blk.frozen 1;obtain⟨p0,p1,p2,p3,p4,f0,f1,f2,f3,f4⟩:=hR.out.b5;clear hL5 hS5)
  generalize hWf:World.setCell _ _ _=Wf;replace hWf:=hWf.symm;obtain⟨hbf,hLf,hSf⟩:=aw hS.out hL.out hR.out (Nat.le_refl _) hneR.symm hAw.out hWf;obtain⟨u0,u1,u2,u3,u4,-⟩:=hbf.b5;refine h3_ hLf hSf hWf ?_;clear hLf hSf hWf;intro hLf hSf hWf;clear hbf;exact bodyPost_ret (by simp[results,Tryz.results70,go_sem,u0,u1,u2,u3,u4];try rfl) rfl ⟨by decide,rfl,hLf.out,hSf.out⟩
theorem ki:∀(d:Nat),d≤1001→∀{pl:Bool},nL pl d
 |0,hd,_=>ib (fun d' e=>by omega) hd
 |d+1,hd,_=>ib (fun d' e=>by
  obtain rfl:d=d':=by omega
  exact ki d (by omega)) hd
end
section
variable {L:Nat}{A:Option Addr}{c:Nat}{bs:Bs}{D P:Value}{w w':World}{r r' u:Bs}{k:Tok}
def rN (L:Nat) (A:Option Addr) (c:Nat) (bs:Bs) (D P:Value) (w:World) (res:Res Tok) (e:Ending) (w':World):Prop:=match res with
 | .ok t u=>∃(a:Int) (Av:Option Addr) (nv cv:Nat),e=.returned (.tuple #[.agg #[.int .i64 t.k,.int .i64 a,.int .i64 t.n,.slice Av nv cv],.int .i64 0])∧LX L A c bs D P w' u∧Save L w w'
 | .err n u=>n≠0∧e=.returned (.tuple #[.agg #[.int .i64 0,.int .i64 0,.int .i64 0,.slice none 0 0],.int .i64 n])∧LX L A c bs D P w' u∧Save L w w'
theorem cT {W Wf:World}{v0 v1 v2 v3:Value}(hS:Save L w W) (hL:LX L A c bs D P W r) (hR:Blk W w.heap.size 119 #[.int .i64 0,.int .i64 0,.int .i64 0,.slice none 0 0]) (hne:L≠w.heap.size) (hAw:0<bs.length→∀x,A=some x→x.block<w.heap.size)
 (hWf:Wf=(((W.setCell ⟨w.heap.size,0,none⟩ v0).setCell ⟨w.heap.size,1,none⟩ v1).setCell ⟨w.heap.size,2,none⟩ v2).setCell ⟨w.heap.size,3,none⟩ v3) :
 Blk Wf w.heap.size 119 #[v0,v1,v2,v3]∧LX L A c bs D P Wf r∧Save L w Wf:=by
 obtain⟨hbf,hgf,hzf⟩:=sI hR hWf;exact⟨hbf,hL.grown_ hgf hne (fun h0 x hx=>by have:=hAw h0 x hx;omega),hS.grown_ hgf (Nat.le_refl _)⟩
theorem pj {pl:Bool}{d:Nat}(h:LX L A c bs (.int .i64 (d:Nat)) (.bool pl) w r) (hd:d≤1001) (hsm:bs.length≤60000000):Calls Tryz.prog 38 #[.pointer (some ⟨L,0,none⟩)] w (mu L A c bs (.int .i64 (d:Nat)) (.bool pl) w (valS pl d r)):=by
 have hLw:=h.lt;have hAw:=h.a_lt;obtain⟨di,hdi⟩:∃i:Int,i=(d:Nat):=⟨_,rfl⟩;rw[←hdi]at h⊢;obtain⟨W1,hW1,b1⟩:=bH w 32 #[.int .i64 0,.int .i64 0,.slice none 0 0,.slice none 0 0,.slice none 0 0];have z1:W1.heap.size=w.heap.size+1:=by rw[hW1,World.size_alloc]
 have hR:=Blk.new w 32 #[.int .i64 0,.int .i64 0,.slice none 0 0,.slice none 0 0,.slice none 0 0];rw[←hW1]at hR;have hL:=h.below b1;have hS:=Save.of_below (L:=L) b1;have hneR:w.heap.size≠L:=by omega
 have l2:=hL.blk.cell 2;obtain⟨R,hRe⟩:∃R,R=valS pl d r:=⟨_,rfl⟩;rw[←hRe];have cv:=ki d hd (pl:=pl) L A c bs (.int .i64 di) W1 r hL hsm;rw[←hRe]at cv;rw[←hdi]at cv;refine h8_ cv hdi hRe hAw hL hR hS z1 ?_;clear cv hdi hRe hAw hL hR hS z1;intro cv hdi hRe hAw hL hR hS z1;clear h b1;go_enter Tryz.func38,Tryz.ntmps38;go_upto_region 1 with (fail)
 rw[←hW1];replace hW1:=hi_ hW1;cases R with
 |err n v=>
  go_wp2_with (go_at_call 70;(with_reducible refine (cv.out).mono ?_);rintro e w5 ⟨hn0,rfl,hL5,hS5⟩;replace hL:=hi_ hL5;replace hR:=hi_ (hS5.blk hneR hR.out);replace hS:=hi_ (hS.out.trans hS5);obtain⟨p0,p1,p2,p3,p4,f0,f1,f2,f3,f4⟩:=hR.out.b5;clear hL5 hS5)
  generalize hWf:World.setCell _ _ _=Wf;replace hWf:=hWf.symm;obtain⟨hbf,hLf,hSf⟩:=aw hS.out hL.out hR.out (Nat.le_refl _) hneR.symm hAw.out hWf;obtain⟨u0,u1,u2,u3,u4,-⟩:=hbf.b5;refine h4_ hLf hSf hWf hn0 ?_;clear hLf hSf hWf hn0;intro hLf hSf hWf hn0;clear hbf;exact bodyPost_ret (by simp[results,Tryz.results38,go_sem,u0,u1,u2,u3,u4];try rfl) rfl ⟨hn0.out,rfl,hLf.out,hSf.out⟩
 |ok o v=>
  go_wp2_with (go_at_call 70;(with_reducible refine (cv.out).mono ?_);rintro e w5 ⟨us,rfl,hI5,hL5,hS5⟩;obtain⟨xk,xn,F1,F2,F3,fn1,fc1,fn2,fc2,fn3,fc3,hxs⟩:=gn hI5.ob;subst hxs;have hI:=hi_ hI5;replace hL:=hi_ hL5;replace hR:=hi_ (hS5.blk hneR hR.out);replace hS:=hi_ (hS.out.trans hS5);obtain⟨p0,p1,p2,p3,p4,f0,f1,f2,f3,f4⟩:=hR.out.b5;clear hL5 hS5 hI5)
  generalize hWf:World.setCell _ _ _=Wf;replace hWf:=hWf.symm;obtain⟨hbf,hIf,hLf,hSf⟩:=dh hS.out hL.out hR.out hneR.symm hAw.out (hI.out) (by have:=z1.out;omega) rfl hWf;obtain⟨u0,u1,u2,u3,u4,-⟩:=hbf.b5;refine h4_ hIf hLf hSf hWf ?_;clear hIf hLf hSf hWf;intro hIf hLf hSf hWf;clear hbf;exact bodyPost_ret (by simp[results,Tryz.results38,go_sem,u0,u1,u2,u3,u4];try rfl) rfl ⟨_,rfl,hIf.out,hLf.out,hSf.out⟩
theorem pr {pl:Bool}{S:ByteArray}(lo hi:Int) (h:LX L A c bs D (.bool pl) w r):Calls Tryz.prog 65 #[.pointer (some ⟨L,0,none⟩),.int .i64 9,.string S,.int .i64 lo,.int .i64 hi] w (rN L A c bs D (.bool pl) w (cx S.data.toList r)):=by
 have hLw:=h.lt;have hAw:=h.a_lt;obtain⟨W1,hW1,b1⟩:=bH w 119 #[.int .i64 0,.int .i64 0,.int .i64 0,.slice none 0 0];have z1:W1.heap.size=w.heap.size+1:=by rw[hW1,World.size_alloc]
 have hR:=Blk.new w 119 #[.int .i64 0,.int .i64 0,.int .i64 0,.slice none 0 0];rw[←hW1]at hR;have hL:=h.below b1;have hS:=Save.of_below (L:=L) b1;have hneR:w.heap.size≠L:=by omega
 have hsuf:=h.suf;have l1:=hL.blk.cell 1;have lv:=hL.blk.frozen 1;obtain⟨p0,p1,p2,p3,f0,f1,f2,f3⟩:=hR.b4;refine h5_ hAw hL hR hS z1 ?_;clear hAw hL hR hS z1;intro hAw hL hR hS z1;clear h b1;obtain⟨R,hRe⟩:∃R,R=cx S.data.toList r:=⟨_,rfl⟩;rw[←hRe];cases ht:ar r with
 |err n u=>
  have hE2:R=.err n u:=hRe.trans (r8 ht);subst hE2;obtain⟨a1,ha1⟩:∃a:Int,a=(pos bs (af false r):Nat):=⟨_,rfl⟩;have ctok:=fun W (h:LX L A c bs D (.bool pl) W r)=>eZ h ht ha1
  replace ctok:=hi_ ctok;clear ha1 ht hRe;go_enter Tryz.func65,Tryz.ntmps65;go_upto_region 2 with (fail)
  go_at_call 96
  rw[←hW1];replace hW1:=hi_ hW1
  (with_reducible refine (ctok.out _ hL.out).mono ?_)
  rintro e w3 ⟨hn0,rfl,hL3,hS3⟩;obtain⟨w4,hw4,b4,hK4⟩:=ak w3 119 #[.int .i64 0,.int .i64 a1,.int .i64 0,.slice none 0 0];obtain⟨k40,k41c,k42,k43,-⟩:=hK4.b4;have z4:w.heap.size+1≤w4.heap.size:=by have:=hS3.size;have:=b4.size;have:=z1.out;omega
  replace hL:=hi_ hL3;replace hR:=hi_ (hS3.blk hneR hR.out);replace hS:=hi_ (hS.out.trans hS3);replace hL:=hi_ (hL.out.below b4);replace hR:=hi_ (hR.out.below b4 hR.out.lt);replace hS:=hi_ (hS.out.then_ b4);replace l1:=hL.out.blk.cell 1;replace lv:=hL.out.blk.frozen 1;obtain⟨p0,p1,p2,p3,f0,f1,f2,f3⟩:=hR.out.b4;go_upto_region 2 with (fail)
  rw[←hw4];replace hw4:=hi_ hw4;clear b4 hS3 hL3;have hnb:(n !=0)=true:=by simpa using hn0
  go_wp2
  generalize hWf:World.setCell _ _ _=Wf;replace hWf:=hWf.symm;obtain⟨hbf,hLf,hSf⟩:=cT hS.out hL.out hR.out hneR.symm hAw.out hWf;obtain⟨u0,u1,u2,u3,-⟩:=hbf.b4;refine h4_ hLf hSf hWf hn0 ?_;clear hLf hSf hWf hn0;intro hLf hSf hWf hn0;clear hbf;exact bodyPost_ret (by simp[results,Tryz.results65,go_sem,u0,u1,u2,u3];try rfl) rfl ⟨hn0.out,rfl,hLf.out,hSf.out⟩
 |ok k u=>
  obtain⟨a1,ha1⟩:∃a:Int,a=(pos bs (af false r):Nat):=⟨_,rfl⟩;have ctok:=fun W (h:LX L A c bs D (.bool pl) W r)=>dO h ht ha1
  have hbsuf:af false r <:+bs:=(cC false r).trans hsuf;obtain⟨kk,hkk⟩:∃x,x=k.k:=⟨_,rfl⟩;obtain⟨nn,hnn⟩:∃x,x=k.n:=⟨_,rfl⟩;rw[←hkk,←hnn]at ctok;refine h7_ ctok hkk hnn ht ha1 hbsuf hRe ?_;clear ctok hkk hnn ht ha1 hbsuf hRe;intro ctok hkk hnn ht ha1 hbsuf hRe;clear hsuf;go_enter Tryz.func65,Tryz.ntmps65;go_upto_region 2 with (fail)
  go_at_call 96
  rw[←hW1];replace hW1:=hi_ hW1
  (with_reducible refine (ctok.out _ hL.out).mono ?_)
  rintro e w3 ⟨A3,c3,rfl,hO3,hL3,hS3⟩;obtain⟨w4,hw4,b4,hK4⟩:=ak w3 119 #[.int .i64 kk,.int .i64 a1,.int .i64 nn,.slice A3 k.b.length c3];obtain⟨k40,k41c,k42,k43,-⟩:=hK4.b4;have z4:w.heap.size+1≤w4.heap.size:=by have:=hS3.size;have:=b4.size;have:=z1.out;omega
  replace hL:=hi_ hL3;replace hR:=hi_ (hS3.blk hneR hR.out);replace hS:=hi_ (hS.out.trans hS3);replace hL:=hi_ (hL.out.below b4);replace hR:=hi_ (hR.out.below b4 hR.out.lt);replace hS:=hi_ (hS.out.then_ b4);replace l1:=hL.out.blk.cell 1;replace lv:=hL.out.blk.frozen 1;obtain⟨p0,p1,p2,p3,f0,f1,f2,f3⟩:=hR.out.b4;have hOb4:=hO3.below b4;obtain⟨_,_,e3,hby4,hA3,_⟩:=hOb4.out2 hOb4.len;cases e3;have hcv:=cN w4 A3 c3 k.b hby4;replace hOb4:=hi_ hOb4;clear hA3 hby4;go_upto_region 2 with (fail)
  rw[←hw4];replace hw4:=hi_ hw4;replace hK4:=hi_ hK4;clear hO3 b4 hS3 hL3;by_cases hk0:kk=0
  ·have hE2:R=.err 2 (af false r):=hRe.out.trans (r7 ht.out (by rw[←hkk.out];exact hk0))
   subst hE2;subst hk0;go_wp2
   obtain⟨w5,hw5⟩:∃W,W=w4.setCell ⟨L,1,none⟩ (.int .i64 a1):=⟨_,rfl⟩;rw[←hw5];have hL5:LX L A c bs D (.bool pl) w5 (af false r):=by rw[hw5,ha1.out];exact hL.out.go hbsuf.out
   have hS5:Save L w4 w5:=by rw[hw5];exact (Save.refl L w4).store 1 _
   replace hw5:=hi_ hw5;replace hL:=hi_ hL5;replace hR:=hi_ (hS5.blk hneR hR.out);replace hS:=hi_ (hS.out.trans hS5);clear hL5 hS5;generalize hWf:World.setCell _ _ _=Wf;replace hWf:=hWf.symm;obtain⟨hbf,hLf,hSf⟩:=cT hS.out hL.out hR.out hneR.symm hAw.out hWf;obtain⟨u0,u1,u2,u3,-⟩:=hbf.b4;refine h3_ hLf hSf hWf ?_;clear hLf hSf hWf;intro hLf hSf hWf;clear hbf;exact bodyPost_ret (by simp[results,Tryz.results65,go_sem,u0,u1,u2,u3];try rfl) rfl ⟨by decide,rfl,hLf.out,hSf.out⟩
  have hk1:(kk == 0)=false:=by simpa using hk0
  have hq:=fE k.b S.data.toList S rfl;have hqn:((bytes k.b).toList !=S.toList)=!decide (k.b=S.data.toList):=by rw[bne,hq]
  by_cases hk9:kk=9
  ·by_cases hb:k.b=S.data.toList
   ·have hE2:R=.ok k u:=hRe.out.trans (r9 ht.out ⟨by rw[←hkk.out];exact hk9,hb⟩)
    have hfin:∀v:Value,Ending.returned (.tuple #[.agg #[.int .i64 kk,.int .i64 a1,.int .i64 nn,v],.int .i64 0])=.returned (.tuple #[.agg #[.int .i64 k.k,.int .i64 a1,.int .i64 k.n,v],.int .i64 0]):=fun v=>by rw[hkk.out,hnn.out]
    subst hE2;rw[decide_eq_true hb]at hq hqn;replace hfin:=hi_ hfin;subst hk9;clear hb hk0;go_wp2
    generalize hWf:World.setCell _ _ _=Wf;replace hWf:=hWf.symm;obtain⟨hbf,hLf,hSf⟩:=cT hS.out hL.out hR.out hneR.symm hAw.out hWf;obtain⟨u0,u1,u2,u3,-⟩:=hbf.b4;refine h3_ hLf hSf hWf ?_;clear hLf hSf hWf;intro hLf hSf hWf;clear hbf;exact bodyPost_ret (by simp[results,Tryz.results65,go_sem,u0,u1,u2,u3];try rfl) rfl ⟨a1,A3,k.b.length,c3,hfin.out _,hLf.out,hSf.out⟩
   ·have hE2:R=.err 4 (af false r):=hRe.out.trans (tj ht.out (by rw[←hkk.out];exact hk0) (fun h=>hb h.2))
    subst hE2;rw[decide_eq_false hb]at hq hqn;subst hk9;clear hb hk0;go_wp2
    obtain⟨w5,hw5⟩:∃W,W=w4.setCell ⟨L,1,none⟩ (.int .i64 a1):=⟨_,rfl⟩;rw[←hw5];have hL5:LX L A c bs D (.bool pl) w5 (af false r):=by rw[hw5,ha1.out];exact hL.out.go hbsuf.out
    have hS5:Save L w4 w5:=by rw[hw5];exact (Save.refl L w4).store 1 _
    replace hw5:=hi_ hw5;replace hL:=hi_ hL5;replace hR:=hi_ (hS5.blk hneR hR.out);replace hS:=hi_ (hS.out.trans hS5);clear hL5 hS5;generalize hWf:World.setCell _ _ _=Wf;replace hWf:=hWf.symm;obtain⟨hbf,hLf,hSf⟩:=cT hS.out hL.out hR.out hneR.symm hAw.out hWf;obtain⟨u0,u1,u2,u3,-⟩:=hbf.b4;refine h3_ hLf hSf hWf ?_;clear hLf hSf hWf;intro hLf hSf hWf;clear hbf;exact bodyPost_ret (by simp[results,Tryz.results65,go_sem,u0,u1,u2,u3];try rfl) rfl ⟨by decide,rfl,hLf.out,hSf.out⟩
  ·have hE2:R=.err 4 (af false r):=hRe.out.trans (tj ht.out (by rw[←hkk.out];exact hk0) (fun h=>hk9 (by rw[hkk.out];exact h.1)))
   subst hE2;have hk91:(kk !=9)=true:=by simpa using hk9
   clear hk0 hk9 hq hqn;go_wp2
   obtain⟨w5,hw5⟩:∃W,W=w4.setCell ⟨L,1,none⟩ (.int .i64 a1):=⟨_,rfl⟩;rw[←hw5];have hL5:LX L A c bs D (.bool pl) w5 (af false r):=by rw[hw5,ha1.out];exact hL.out.go hbsuf.out
   have hS5:Save L w4 w5:=by rw[hw5];exact (Save.refl L w4).store 1 _
   replace hw5:=hi_ hw5;replace hL:=hi_ hL5;replace hR:=hi_ (hS5.blk hneR hR.out);replace hS:=hi_ (hS.out.trans hS5);clear hL5 hS5;generalize hWf:World.setCell _ _ _=Wf;replace hWf:=hWf.symm;obtain⟨hbf,hLf,hSf⟩:=cT hS.out hL.out hR.out hneR.symm hAw.out hWf;obtain⟨u0,u1,u2,u3,-⟩:=hbf.b4;refine h3_ hLf hSf hWf ?_;clear hLf hSf hWf;intro hLf hSf hWf;clear hbf;exact bodyPost_ret (by simp[results,Tryz.results65,go_sem,u0,u1,u2,u3];try rfl) rfl ⟨by decide,rfl,hLf.out,hSf.out⟩
theorem po {pl:Bool}{S:ByteArray}(lo hi:Int) (h:LX L A c bs D (.bool pl) w r):Calls Tryz.prog 65 #[.pointer (some ⟨L,0,none⟩),.int .i64 1,.string S,.int .i64 lo,.int .i64 hi] w (rN L A c bs D (.bool pl) w (bx lo hi r)):=by
 have hLw:=h.lt;have hAw:=h.a_lt;obtain⟨W1,hW1,b1⟩:=bH w 119 #[.int .i64 0,.int .i64 0,.int .i64 0,.slice none 0 0];have z1:W1.heap.size=w.heap.size+1:=by rw[hW1,World.size_alloc]
 have hR:=Blk.new w 119 #[.int .i64 0,.int .i64 0,.int .i64 0,.slice none 0 0];rw[←hW1]at hR;have hL:=h.below b1;have hS:=Save.of_below (L:=L) b1;have hneR:w.heap.size≠L:=by omega
 have hsuf:=h.suf;have l1:=hL.blk.cell 1;have lv:=hL.blk.frozen 1;obtain⟨p0,p1,p2,p3,f0,f1,f2,f3⟩:=hR.b4;refine h5_ hAw hL hR hS z1 ?_;clear hAw hL hR hS z1;intro hAw hL hR hS z1;clear h b1;obtain⟨R,hRe⟩:∃R,R=bx lo hi r:=⟨_,rfl⟩;rw[←hRe];cases ht:ar r with
 |err n u=>
  have hE2:R=.err n u:=hRe.trans (rX ht);subst hE2;obtain⟨a1,ha1⟩:∃a:Int,a=(pos bs (af false r):Nat):=⟨_,rfl⟩;have ctok:=fun W (h:LX L A c bs D (.bool pl) W r)=>eZ h ht ha1
  replace ctok:=hi_ ctok;clear ha1 ht hRe;go_enter Tryz.func65,Tryz.ntmps65;go_upto_region 2 with (fail)
  go_at_call 96
  rw[←hW1];replace hW1:=hi_ hW1
  (with_reducible refine (ctok.out _ hL.out).mono ?_)
  rintro e w3 ⟨hn0,rfl,hL3,hS3⟩;obtain⟨w4,hw4,b4,hK4⟩:=ak w3 119 #[.int .i64 0,.int .i64 a1,.int .i64 0,.slice none 0 0];obtain⟨k40,k41c,k42,k43,-⟩:=hK4.b4;have z4:w.heap.size+1≤w4.heap.size:=by have:=hS3.size;have:=b4.size;have:=z1.out;omega
  replace hL:=hi_ hL3;replace hR:=hi_ (hS3.blk hneR hR.out);replace hS:=hi_ (hS.out.trans hS3);replace hL:=hi_ (hL.out.below b4);replace hR:=hi_ (hR.out.below b4 hR.out.lt);replace hS:=hi_ (hS.out.then_ b4);replace l1:=hL.out.blk.cell 1;replace lv:=hL.out.blk.frozen 1;obtain⟨p0,p1,p2,p3,f0,f1,f2,f3⟩:=hR.out.b4;go_upto_region 2 with (fail)
  rw[←hw4];replace hw4:=hi_ hw4;clear b4 hS3 hL3;have hnb:(n !=0)=true:=by simpa using hn0
  go_wp2
  generalize hWf:World.setCell _ _ _=Wf;replace hWf:=hWf.symm;obtain⟨hbf,hLf,hSf⟩:=cT hS.out hL.out hR.out hneR.symm hAw.out hWf;obtain⟨u0,u1,u2,u3,-⟩:=hbf.b4;refine h4_ hLf hSf hWf hn0 ?_;clear hLf hSf hWf hn0;intro hLf hSf hWf hn0;clear hbf;exact bodyPost_ret (by simp[results,Tryz.results65,go_sem,u0,u1,u2,u3];try rfl) rfl ⟨hn0.out,rfl,hLf.out,hSf.out⟩
 |ok k u=>
  obtain⟨a1,ha1⟩:∃a:Int,a=(pos bs (af false r):Nat):=⟨_,rfl⟩;have ctok:=fun W (h:LX L A c bs D (.bool pl) W r)=>dO h ht ha1
  have hbsuf:af false r <:+bs:=(cC false r).trans hsuf;obtain⟨kk,hkk⟩:∃x,x=k.k:=⟨_,rfl⟩;obtain⟨nn,hnn⟩:∃x,x=k.n:=⟨_,rfl⟩;rw[←hkk,←hnn]at ctok;refine h7_ ctok hkk hnn ht ha1 hbsuf hRe ?_;clear ctok hkk hnn ht ha1 hbsuf hRe;intro ctok hkk hnn ht ha1 hbsuf hRe;clear hsuf;go_enter Tryz.func65,Tryz.ntmps65;go_upto_region 2 with (fail)
  go_at_call 96
  rw[←hW1];replace hW1:=hi_ hW1
  (with_reducible refine (ctok.out _ hL.out).mono ?_)
  rintro e w3 ⟨A3,c3,rfl,hO3,hL3,hS3⟩;obtain⟨w4,hw4,b4,hK4⟩:=ak w3 119 #[.int .i64 kk,.int .i64 a1,.int .i64 nn,.slice A3 k.b.length c3];obtain⟨k40,k41c,k42,k43,-⟩:=hK4.b4;have z4:w.heap.size+1≤w4.heap.size:=by have:=hS3.size;have:=b4.size;have:=z1.out;omega
  replace hL:=hi_ hL3;replace hR:=hi_ (hS3.blk hneR hR.out);replace hS:=hi_ (hS.out.trans hS3);replace hL:=hi_ (hL.out.below b4);replace hR:=hi_ (hR.out.below b4 hR.out.lt);replace hS:=hi_ (hS.out.then_ b4);replace l1:=hL.out.blk.cell 1;replace lv:=hL.out.blk.frozen 1;obtain⟨p0,p1,p2,p3,f0,f1,f2,f3⟩:=hR.out.b4;have hOb4:=hO3.below b4;obtain⟨_,_,e3,hby4,hA3,_⟩:=hOb4.out2 hOb4.len;cases e3;have hcv:=cN w4 A3 c3 k.b hby4;replace hOb4:=hi_ hOb4;clear hA3 hby4;go_upto_region 2 with (fail)
  rw[←hw4];replace hw4:=hi_ hw4;replace hK4:=hi_ hK4;clear hO3 b4 hS3 hL3;by_cases hk0:kk=0
  ·have hE2:R=.err 2 (af false r):=hRe.out.trans (rW ht.out (by rw[←hkk.out];exact hk0))
   subst hE2;subst hk0;go_wp2
   obtain⟨w5,hw5⟩:∃W,W=w4.setCell ⟨L,1,none⟩ (.int .i64 a1):=⟨_,rfl⟩;rw[←hw5];have hL5:LX L A c bs D (.bool pl) w5 (af false r):=by rw[hw5,ha1.out];exact hL.out.go hbsuf.out
   have hS5:Save L w4 w5:=by rw[hw5];exact (Save.refl L w4).store 1 _
   replace hw5:=hi_ hw5;replace hL:=hi_ hL5;replace hR:=hi_ (hS5.blk hneR hR.out);replace hS:=hi_ (hS.out.trans hS5);clear hL5 hS5;generalize hWf:World.setCell _ _ _=Wf;replace hWf:=hWf.symm;obtain⟨hbf,hLf,hSf⟩:=cT hS.out hL.out hR.out hneR.symm hAw.out hWf;obtain⟨u0,u1,u2,u3,-⟩:=hbf.b4;refine h3_ hLf hSf hWf ?_;clear hLf hSf hWf;intro hLf hSf hWf;clear hbf;exact bodyPost_ret (by simp[results,Tryz.results65,go_sem,u0,u1,u2,u3];try rfl) rfl ⟨by decide,rfl,hLf.out,hSf.out⟩
  have hk1:(kk == 0)=false:=by simpa using hk0
  by_cases hk9:kk=1
  ·rcases Int.lt_or_le nn lo with h1|h1
   ·have hE2:R=.err 4 (af false r):=hRe.out.trans (qH ht.out (by rw[←hkk.out];exact hk0) (fun h=>by have:=h.2.1;have:=hnn.out;omega))
    subst hE2;have hb1:decide (nn<lo)=true:=decide_eq_true h1;subst hk9;clear hk0;go_wp2
    obtain⟨w5,hw5⟩:∃W,W=w4.setCell ⟨L,1,none⟩ (.int .i64 a1):=⟨_,rfl⟩;rw[←hw5];have hL5:LX L A c bs D (.bool pl) w5 (af false r):=by rw[hw5,ha1.out];exact hL.out.go hbsuf.out
    have hS5:Save L w4 w5:=by rw[hw5];exact (Save.refl L w4).store 1 _
    replace hw5:=hi_ hw5;replace hL:=hi_ hL5;replace hR:=hi_ (hS5.blk hneR hR.out);replace hS:=hi_ (hS.out.trans hS5);clear hL5 hS5;generalize hWf:World.setCell _ _ _=Wf;replace hWf:=hWf.symm;obtain⟨hbf,hLf,hSf⟩:=cT hS.out hL.out hR.out hneR.symm hAw.out hWf;obtain⟨u0,u1,u2,u3,-⟩:=hbf.b4;refine h3_ hLf hSf hWf ?_;clear hLf hSf hWf;intro hLf hSf hWf;clear hbf;exact bodyPost_ret (by simp[results,Tryz.results65,go_sem,u0,u1,u2,u3];try rfl) rfl ⟨by decide,rfl,hLf.out,hSf.out⟩
   ·have hb1:decide (nn<lo)=false:=decide_eq_false (by omega)
    rcases Int.lt_or_le hi nn with h2|h2
    ·have hE2:R=.err 4 (af false r):=hRe.out.trans (qH ht.out (by rw[←hkk.out];exact hk0) (fun h=>by have:=h.2.2;have:=hnn.out;omega))
     subst hE2;have hb2:decide (hi<nn)=true:=decide_eq_true h2;subst hk9;clear hk0;go_wp2
     obtain⟨w5,hw5⟩:∃W,W=w4.setCell ⟨L,1,none⟩ (.int .i64 a1):=⟨_,rfl⟩;rw[←hw5];have hL5:LX L A c bs D (.bool pl) w5 (af false r):=by rw[hw5,ha1.out];exact hL.out.go hbsuf.out
     have hS5:Save L w4 w5:=by rw[hw5];exact (Save.refl L w4).store 1 _
     replace hw5:=hi_ hw5;replace hL:=hi_ hL5;replace hR:=hi_ (hS5.blk hneR hR.out);replace hS:=hi_ (hS.out.trans hS5);clear hL5 hS5;generalize hWf:World.setCell _ _ _=Wf;replace hWf:=hWf.symm;obtain⟨hbf,hLf,hSf⟩:=cT hS.out hL.out hR.out hneR.symm hAw.out hWf;obtain⟨u0,u1,u2,u3,-⟩:=hbf.b4;refine h3_ hLf hSf hWf ?_;clear hLf hSf hWf;intro hLf hSf hWf;clear hbf;exact bodyPost_ret (by simp[results,Tryz.results65,go_sem,u0,u1,u2,u3];try rfl) rfl ⟨by decide,rfl,hLf.out,hSf.out⟩
    ·have hE2:R=.ok k u:=hRe.out.trans (rY ht.out ⟨by rw[←hkk.out];exact hk9,by rw[←hnn.out];exact h1,by rw[←hnn.out];exact h2⟩)
     have hfin:∀v:Value,Ending.returned (.tuple #[.agg #[.int .i64 kk,.int .i64 a1,.int .i64 nn,v],.int .i64 0])=.returned (.tuple #[.agg #[.int .i64 k.k,.int .i64 a1,.int .i64 k.n,v],.int .i64 0]):=fun v=>by rw[hkk.out,hnn.out]
     subst hE2;have hb2:decide (hi<nn)=false:=decide_eq_false (by omega);replace hfin:=hi_ hfin;subst hk9;clear hk0;go_wp2
     generalize hWf:World.setCell _ _ _=Wf;replace hWf:=hWf.symm;obtain⟨hbf,hLf,hSf⟩:=cT hS.out hL.out hR.out hneR.symm hAw.out hWf;obtain⟨u0,u1,u2,u3,-⟩:=hbf.b4;refine h3_ hLf hSf hWf ?_;clear hLf hSf hWf;intro hLf hSf hWf;clear hbf;exact bodyPost_ret (by simp[results,Tryz.results65,go_sem,u0,u1,u2,u3];try rfl) rfl ⟨a1,A3,k.b.length,c3,hfin.out _,hLf.out,hSf.out⟩
  ·have hE2:R=.err 4 (af false r):=hRe.out.trans (qH ht.out (by rw[←hkk.out];exact hk0) (fun h=>hk9 (by rw[hkk.out];exact h.1)))
   subst hE2;have hk91:(kk !=1)=true:=by simpa using hk9
   clear hk0 hk9;go_wp2
   obtain⟨w5,hw5⟩:∃W,W=w4.setCell ⟨L,1,none⟩ (.int .i64 a1):=⟨_,rfl⟩;rw[←hw5];have hL5:LX L A c bs D (.bool pl) w5 (af false r):=by rw[hw5,ha1.out];exact hL.out.go hbsuf.out
   have hS5:Save L w4 w5:=by rw[hw5];exact (Save.refl L w4).store 1 _
   replace hw5:=hi_ hw5;replace hL:=hi_ hL5;replace hR:=hi_ (hS5.blk hneR hR.out);replace hS:=hi_ (hS.out.trans hS5);clear hL5 hS5;generalize hWf:World.setCell _ _ _=Wf;replace hWf:=hWf.symm;obtain⟨hbf,hLf,hSf⟩:=cT hS.out hL.out hR.out hneR.symm hAw.out hWf;obtain⟨u0,u1,u2,u3,-⟩:=hbf.b4;refine h3_ hLf hSf hWf ?_;clear hLf hSf hWf;intro hLf hSf hWf;clear hbf;exact bodyPost_ret (by simp[results,Tryz.results65,go_sem,u0,u1,u2,u3];try rfl) rfl ⟨by decide,rfl,hLf.out,hSf.out⟩
end
section
variable {L:Nat}{A:Option Addr}{c:Nat}{bs:Bs}{D P:Value}{w w':World}{r r' u:Bs}{k:Tok}
def kwS (s:Bs) (r:Bs):Bool:=(s == (af false r).take s.length) && !eR ((af false r).drop s.length)
theorem q7 {pl:Bool}{S:ByteArray}(h:LX L A c bs D (.bool pl) w r):Calls Tryz.prog 31 #[.pointer (some ⟨L,0,none⟩),.string S] w fun e w'=>match cx S.data.toList r with
 | .ok _ u=>e=.returned (.int .i64 0)∧LX L A c bs D (.bool pl) w' u∧Save L w w'
 | .err n u=>n≠0∧e=.returned (.int .i64 n)∧LX L A c bs D (.bool pl) w' u∧Save L w w':=by
 have cw:=pr (S:=S) 0 0 h;obtain⟨R,hR⟩:∃R,R=cx S.data.toList r:=⟨_,rfl⟩;rw[←hR]at cw⊢;refine h3_ cw hR h ?_;clear cw hR h;intro cw hR h;go_enter Tryz.func31,Tryz.ntmps31;cases R with
 |err n v=>
  go_wp2_with (go_at_call 65;(with_reducible refine (cw.out).mono ?_);rintro e w5 ⟨hn0,rfl,hL5,hS5⟩;replace hL5:=hi_ hL5;replace hS5:=hi_ hS5;replace hn0:=hi_ hn0)
  go_ret
  exact⟨hn0.out,rfl,hL5.out.below ((Below.refl _ _).alloc (Nat.le_refl _) _),hS5.out.then_ ((Below.refl _ _).alloc (Nat.le_refl _) _)⟩
 |ok t v=>
  go_upto_region 2 with (go_at_call 65;(with_reducible refine (cw.out).mono ?_);rintro e w5 ⟨a5,A5,n5,c5,rfl,hL5,hS5⟩;replace hL5:=hi_ hL5;replace hS5:=hi_ hS5)
  go_wp2
  go_ret
  exact⟨rfl,hL5.out.below ((Below.refl _ _).alloc (Nat.le_refl _) _),hS5.out.then_ ((Below.refl _ _).alloc (Nat.le_refl _) _)⟩
theorem fu {pl:Bool}(lo hi:Int) (h:LX L A c bs D (.bool pl) w r):Calls Tryz.prog 33 #[.pointer (some ⟨L,0,none⟩),.int .i64 lo,.int .i64 hi] w fun e w'=>match bx lo hi r with
 | .ok t u=>e=.returned (.tuple #[.int .i64 t.n,.int .i64 0])∧LX L A c bs D (.bool pl) w' u∧Save L w w'
 | .err n u=>n≠0∧e=.returned (.tuple #[.int .i64 0,.int .i64 n])∧LX L A c bs D (.bool pl) w' u∧Save L w w':=by
 have cw:=po (S:=⟨#[]⟩) lo hi h;obtain⟨R,hR⟩:∃R,R=bx lo hi r:=⟨_,rfl⟩;rw[←hR]at cw⊢;refine h3_ cw hR h ?_;clear cw hR h;intro cw hR h;go_enter Tryz.func33,Tryz.ntmps33;cases R with
 |err n v=>
  go_upto_region 2 with (go_at_call 65;(with_reducible refine (cw.out).mono ?_);rintro e w5 ⟨hn0,rfl,hL5,hS5⟩;replace hL5:=hi_ hL5;replace hS5:=hi_ hS5;replace hn0:=hi_ hn0)
  have bl:=Blk.new w5 119 #[.int .i64 0,.int .i64 0,.int .i64 0,.slice none 0 0];have b5:Below w5.heap.size w5 (w5.alloc (.cells #[.int .i64 0,.int .i64 0,.int .i64 0,.slice none 0 0] 119)):=(Below.refl _ _).alloc (Nat.le_refl _) _;have t2:=bl.cell 2;replace b5:=hi_ b5;clear bl;go_wp2
  exact bodyPost_ret (by simp[results,Tryz.results33,go_sem];try rfl) rfl ⟨hn0.out,rfl,hL5.out.below b5.out,hS5.out.then_ b5.out⟩
 |ok t v=>
  go_upto_region 2 with (go_at_call 65;(with_reducible refine (cw.out).mono ?_);rintro e w5 ⟨a5,A5,n5,c5,rfl,hL5,hS5⟩;replace hL5:=hi_ hL5;replace hS5:=hi_ hS5)
  have bl:=Blk.new w5 119 #[.int .i64 t.k,.int .i64 a5,.int .i64 t.n,.slice A5 n5 c5];have b5:Below w5.heap.size w5 (w5.alloc (.cells #[.int .i64 t.k,.int .i64 a5,.int .i64 t.n,.slice A5 n5 c5] 119)):=(Below.refl _ _).alloc (Nat.le_refl _) _;have t2:=bl.cell 2;replace b5:=hi_ b5;clear bl;go_wp2
  exact bodyPost_ret (by simp[results,Tryz.results33,go_sem];try rfl) rfl ⟨rfl,hL5.out.below b5.out,hS5.out.then_ b5.out⟩
theorem iJ {s:Bs}(h:r.length<s.length):(s == r.take s.length)=false:=by
 rw[beq_eq_false_iff_ne];intro e;have:=congrArg List.length e;rw[List.length_take]at this;omega
theorem nb (hby:Byt w A bs) (hcap:bs.length≤c) (hsm:bs.length≤1000000000) (hs:r <:+bs) (S:ByteArray) (hS0:0<S.size) (hS1:S.size≤100):Calls Tryz.prog 66 #[.slice A bs.length c,.int .i64 (pos bs r:Nat),.string S] w fun e w'=>e=.returned (.bool (S.data.toList == r.take S.data.toList.length))∧w=w':=by
 have hsl:S.data.toList.length=S.size:=by rw[Array.length_toList];rfl
 have hpl:=aK hs;have hple:=aE bs r;obtain⟨p,hp⟩:∃p,p=pos bs r:=⟨_,rfl⟩;rw[←hp]at hpl hple⊢;obtain⟨R,hR⟩:∃R,R=(S.data.toList == r.take S.data.toList.length):=⟨_,rfl⟩;rw[←hR];by_cases hlen:r.length<S.size
 ·obtain rfl:R=false:=hR.trans (iJ (by rw[hsl];exact hlen))
  obtain⟨N,hN⟩:∃N,N=bs.length:=⟨_,rfl⟩;obtain⟨m,hm⟩:∃m,m=S.size:=⟨_,rfl⟩;rw[←hN]at hpl hple hsm⊢;rw[←hm]at hlen hS0 hS1;have hf:N<m∨(m≤N∧(N:Int) - (m:Int)<(p:Int)):=by omega
  refine h3_ hp hR hN ?_;clear hp hR hN;intro hp hR hN;have hm2:S.size=m:=hm.symm;refine h5_ hm hsl hlen hby hpl ?_;clear hm hsl hlen hby hpl;intro hm hsl hlen hby hpl;rcases hf with hf|⟨hf1,hf2⟩
  ·go_enter Tryz.func66,Tryz.ntmps66
   go_wp2
   go_ret
   exact⟨rfl,rfl⟩
  ·go_enter Tryz.func66,Tryz.ntmps66
   go_wp2
   go_ret
   exact⟨rfl,rfl⟩
 ·obtain⟨b,o,hAe,hcell⟩:=hby.2 (by omega)
  subst hAe;have htl:(r.take S.size).length=S.size:=by rw[List.length_take];omega
  have hb2:Byt w (some ⟨b,o+p,none⟩) (r.take S.size):=⟨by rw[htl];unfold maxLen;omega,fun h1=>⟨b,o+p,rfl,fun i hi=>by
   have hi2:i<S.size:=by omega
   have h9:=hcell (p+i) (by omega);rw[Nat.add_assoc,h9];have e3:(r.take S.size)[i]?=bs[p+i]?:=by rw[List.getElem?_take_of_lt hi2,hp,ly hs]
   rw[List.getElem?_eq_getElem hi,List.getElem?_eq_getElem (by omega)]at e3;injection e3 with e3;rw[e3]⟩⟩
  have hcv:=cN w (some ⟨b,o+p,none⟩) (c - p) (r.take S.size) hb2;rw[htl]at hcv;have hq:=fE (r.take S.size) S.data.toList S rfl;have hRe:decide (r.take S.size=S.data.toList)=R:=by
   rw[hR,hsl,Bool.eq_iff_iff];simp only[decide_eq_true_eq,beq_iff_eq];exact⟨fun h=>h.symm,fun h=>h.symm⟩
  rw[hRe]at hq;obtain⟨N,hN⟩:∃N,N=bs.length:=⟨_,rfl⟩;obtain⟨m,hm⟩:∃m,m=S.size:=⟨_,rfl⟩;rw[←hN]at hpl hple hsm hcap⊢;rw[←hm]at hlen hS0 hS1 hcv hq;have hf1:m≤N:=by omega
  have hf2:(p:Int)≤(N:Int) - (m:Int):=by omega
  have hpm:p+m≤c:=by omega
  refine h4_ hp hR hRe hN ?_;clear hp hR hRe hN;intro hp hR hRe hN;have hm2:S.size=m:=hm.symm;refine h7_ hm hsl hlen hby hb2 hcell htl ?_;clear hm hsl hlen hby hb2 hcell htl;intro hm hsl hlen hby hb2 hcell htl;go_enter Tryz.func66,Tryz.ntmps66;go_wp2
  go_ret
  exact⟨rfl,rfl⟩
theorem mg (r:Bs) (m:Nat):pk r m=pk (r.drop m) 0:=by unfold pk;rw[List.getElem?_drop,Nat.add_zero]
theorem lk (h:LX L A c bs D P w r) (S:ByteArray) (hS0:0<S.size) (hS1:S.size≤100):Calls Tryz.prog 32 #[.pointer (some ⟨L,0,none⟩),.string S] w fun e w'=>e=.returned (.bool (kwS S.data.toList r))∧LX L A c bs D P w' (if kwS S.data.toList r then (af false r).drop S.size else r)∧Save L w w':=by
 have hsl:S.data.toList.length=S.size:=by rw[Array.length_toList];rfl
 have cb:=gT h;have hsuf:=h.suf;obtain⟨q,hq,hq0,hq1⟩:=h.pos_i;have l1:=h.blk.cell 1;rw[←hq]at l1;obtain⟨B,hB⟩:∃B,B=af false r:=⟨_,rfl⟩;have hkw:kwS S.data.toList r=((S.data.toList == B.take S.data.toList.length) && !eR (B.drop S.size)):=by unfold kwS;rw[←hB,hsl]
 rw[←hB]at cb⊢;obtain⟨st,hst⟩:∃x,x=(S.data.toList == B.take S.data.toList.length):=⟨_,rfl⟩;obtain⟨rg,hrg⟩:∃x,x=eR (B.drop S.size):=⟨_,rfl⟩;obtain⟨m,hm⟩:∃m,m=S.size:=⟨_,rfl⟩;have hlm:st=true→m≤B.length:=fun e=>by
  rw[hm];rcases Nat.lt_or_ge B.length S.size with h9|h9
  ·rw[hst,iJ (by rw[hsl];exact h9)]at e;cases e
  ·exact h9
 obtain⟨KB,hKB⟩:∃x,x=kwS S.data.toList r:=⟨_,rfl⟩;rw[hkw,←hst,←hrg]at hKB;obtain⟨RR,hRR⟩:∃x,x=(if KB then B.drop S.size else r):=⟨_,rfl⟩;rw[hkw,←hst,←hrg,←hKB,←hRR];refine h8_ cb h hB hsl hkw hlm hq hsuf ?_;clear cb h hB hsl hkw hlm hq hsuf;intro cb h hB hsl hkw hlm hq hsuf;go_enter Tryz.func32,Tryz.ntmps32;go_upto_region 3 with (go_at_call 37;(with_reducible refine (cb.out).mono ?_);rintro e w1 ⟨rfl,hL,hS⟩;replace hL:=hi_ hL;replace hS:=hi_ hS)
 obtain⟨q2,hq2,hq20,hq21⟩:=hL.out.pos_i;have hLd:=hL.out.below (Below.refl _ _).drew;have hSd:=hS.out.then_ (Below.refl _ _).drew;have n0:=hL.out.blk.cell 0;have n1:=hL.out.blk.cell 1;rw[←hq2]at n1;have d1:=hLd.blk.cell 1;have dv1:=hLd.blk.frozen 1;rw[←hq2]at d1;have d0:=hLd.blk.cell 0;have cs:=fun W (hW:Below w1.heap.size w1 W)=>nb (hL.out.byt.below hW) hL.out.cap hL.out.small hL.out.suf S hS0 hS1
 have cp:=fun W (h:LX L A c bs D P W B)=>fw h m (by omega)
 have cr:=fun W=>bV (w:=W) (pk B m) (dn _ _)
 rw[mg B m,pg,hm,←hrg]at cr;rw[mg B m,hm]at cp;rw[←hst,←hq2]at cs;rw[←hm]at cr cp;obtain⟨X,hX⟩:∃X,X=pk (B.drop m) 0:=⟨_,rfl⟩;rw[←hX]at cp cr;refine h7_ cs cp cr hX hq2 hrg hst ?_;clear cs cp cr hX hq2 hrg hst;intro cs cp cr hX hq2 hrg hst;have hm2:S.size=m:=hm.symm;refine h3_ hm hLd hSd ?_;clear hm hLd hSd;intro hm hLd hSd;cases st with
 |false=>
  have hK0:KB=false:=hKB.trans (by simp);rw[hK0]at hRR;have hR0:RR=r:=hRR.trans (by simp);clear hRR hKB;replace hKB:=hi_ hK0;replace hRR:=hi_ hR0;clear hK0 hR0
  first|go_region_with (first
   |(go_at_call 66;(with_reducible refine (cs.out _ (by first|exact (Below.refl _ _).drew|exact Below.refl _ _)).mono ?_);rintro e w2 ⟨rfl,rfl⟩)
   |(go_at_call 68;(with_reducible refine (cp.out _ (by first|exact hLd.out|exact hL.out)).mono ?_);rintro e w3 ⟨rfl,hB3⟩;have hL3:=hLd.out.below hB3;replace d1:=hL3.blk.cell 1;rw[←hq2.out]at d1;replace dv1:=hL3.blk.frozen 1;clear hL3;replace hB3:=hi_ hB3)
   |(go_at_call 67;(with_reducible refine (cr.out _).mono ?_);rintro e w4 ⟨rfl,rfl⟩))|fail
  all_goals go_wp2
  all_goals go_ret
  all_goals (
   have hgo:=hLd.out.go hsuf.out;rw[←hq.out,←hRR.out]at hgo;exact⟨by rw[hKB.out];rfl,hgo,hSd.out.store 1 _⟩)
 |true=>
  have hml:=hlm.out rfl;cases rg with
  |true=>
   have hK0:KB=false:=hKB.trans (by simp);rw[hK0]at hRR;have hR0:RR=r:=hRR.trans (by simp);clear hRR hKB;replace hKB:=hi_ hK0;replace hRR:=hi_ hR0;clear hK0 hR0
   first|go_region_with (first
   |(go_at_call 66;(with_reducible refine (cs.out _ (by first|exact (Below.refl _ _).drew|exact Below.refl _ _)).mono ?_);rintro e w2 ⟨rfl,rfl⟩)
   |(go_at_call 68;(with_reducible refine (cp.out _ (by first|exact hLd.out|exact hL.out)).mono ?_);rintro e w3 ⟨rfl,hB3⟩;have hL3:=hLd.out.below hB3;replace d1:=hL3.blk.cell 1;rw[←hq2.out]at d1;replace dv1:=hL3.blk.frozen 1;clear hL3;replace hB3:=hi_ hB3)
   |(go_at_call 67;(with_reducible refine (cr.out _).mono ?_);rintro e w4 ⟨rfl,rfl⟩))|fail
   all_goals go_wp2
   all_goals go_ret
   all_goals (
    have hgo:=(hLd.out.below hB3.out).go hsuf.out;rw[←hq.out,←hRR.out]at hgo;exact⟨by rw[hKB.out];rfl,hgo,(hSd.out.then_ hB3.out).store 1 _⟩)
  |false=>
   have hK0:KB=true:=hKB.trans (by simp);rw[hK0]at hRR;have hR0:RR=B.drop m:=hRR.trans (by simp[hm2]);clear hRR hKB;replace hKB:=hi_ hK0;replace hRR:=hi_ hR0;clear hK0 hR0
   first|go_region_with (first
   |(go_at_call 66;(with_reducible refine (cs.out _ (by first|exact (Below.refl _ _).drew|exact Below.refl _ _)).mono ?_);rintro e w2 ⟨rfl,rfl⟩)
   |(go_at_call 68;(with_reducible refine (cp.out _ (by first|exact hLd.out|exact hL.out)).mono ?_);rintro e w3 ⟨rfl,hB3⟩;have hL3:=hLd.out.below hB3;replace d1:=hL3.blk.cell 1;rw[←hq2.out]at d1;replace dv1:=hL3.blk.frozen 1;clear hL3;replace hB3:=hi_ hB3)
   |(go_at_call 67;(with_reducible refine (cr.out _).mono ?_);rintro e w4 ⟨rfl,rfl⟩))|fail
   all_goals go_wp2
   all_goals go_ret
   all_goals (
    have hgo:=(hLd.out.below hB3.out).go (dc (hLd.out.suf) m);rw[dq hLd.out.suf m hml,Int.natCast_add,←hq2.out,←hRR.out]at hgo;exact⟨by rw[hKB.out];rfl,hgo,(hSd.out.then_ hB3.out).store 1 _⟩)
end
theorem q6 (A:Option Addr) (c:Nat) (bs:Bs) (w:World) (hby:Byt w A bs) (hcap:bs.length≤c) (hsm:bs.length≤1000000000) (dep:Int) (d:Nat) (hd:min (max dep 0) 28=(d:Int)) :
 Calls Tryz.prog 9 #[.slice A bs.length c,.int .i64 dep] w fun e w'=>e=.returned (.pointer (some ⟨w.heap.size,0,none⟩))∧LX w.heap.size A c bs (.int .i64 (d:Nat)) (.bool false) w' bs∧Below w.heap.size w w':=by
 obtain⟨n,hn⟩:∃n,n=bs.length:=⟨_,rfl⟩;have key:LX w.heap.size A c bs (.int .i64 (d:Nat)) (.bool false) (w.alloc (.cells #[.slice A bs.length c,.int .i64 0,.int .i64 (d:Nat),.bool false] 55)) bs:=by
  have hb:Below w.heap.size w (w.alloc (.cells #[.slice A bs.length c,.int .i64 0,.int .i64 (d:Nat),.bool false] 55)):=(Below.refl _ _).alloc (Nat.le_refl _) _;have hp:pos bs bs=0:=by unfold pos;omega
  refine⟨?_,hby.below hb,fun h0 x hx e=>?_,List.suffix_refl _,hcap,hsm⟩
  ·have:=Blk.new w 55 #[.slice A bs.length c,.int .i64 0,.int .i64 (d:Nat),.bool false]
   rw[hp];exact this
  ·obtain⟨g,o,e2,hc⟩:=hby.2 h0
   rw[hx]at e2;injection e2 with e2;have:=ac (hc 0 h0);rw[e2]at e;have e3:g=w.heap.size:=e;have h4:g<w.heap.size:=this;omega
 have hb:Below w.heap.size w (w.alloc (.cells #[.slice A bs.length c,.int .i64 0,.int .i64 (d:Nat),.bool false] 55)):=(Below.refl _ _).alloc (Nat.le_refl _) _;rw[←hn]at key hb⊢;refine h3_ key hb hn ?_;clear key hb hn;intro key hb hn;clear hby
 go_enter Tryz.func9,Tryz.ntmps9;go_wp2
 go_ret
 exact⟨rfl,key.out,hb.out⟩
theorem ph (A:Option Addr) (c:Nat) (bs:Bs) (w:World) (hb:Byt w A bs) (q:Nat) (hs:bs.length≤1000000000) (hq:q≤2000000000) :
 Calls Tryz.prog 35 #[.slice A bs.length c,.int .i64 (q:Nat)] w fun e w'=>e=.returned (.int .i64 (aU bs q))∧∃m,w'=w.drewN m:=by
 obtain⟨S,hS⟩:∃S,S=aU bs q:=⟨_,rfl⟩;rw[←hS];obtain⟨m,hm⟩:∃m,m=bs.length:=⟨_,rfl⟩;by_cases hlt:q<bs.length
 ·obtain⟨b,o,rfl,hc⟩:=hb.2 (by omega)
  have hck:=hc q hlt;rw[jY hlt]at hS;have hx0:=dK bs[q];generalize bs[q]=x at *;obtain⟨xn,hxn⟩:∃n:Int,n=(x.toNat:Int):=⟨_,rfl⟩;rw[←hxn]at hck hx0 hS;have hx1:0≤xn:=by omega
  have hxw:wrap64 xn=xn:=by unfold wrap64;omega
  rw[←hm]at hlt hs⊢;refine h3_ hS hm hxw ?_;clear hS hm hxw;intro hS hm hxw;clear hc hb hxn;go_enter Tryz.func35,Tryz.ntmps35;go_wp2
  go_ret
  exact⟨by rw[hS.out];first|rfl|exact congrArg (fun z=>Ending.returned (.int .i64 z)) hxw.out,by first|exact⟨0,rfl⟩|exact⟨1,rfl⟩⟩
 ·rw[fN hlt]at hS
  rw[←hm]at hlt hs⊢;replace hS:=hi_ hS;replace hm:=hi_ hm;clear hb;go_enter Tryz.func35,Tryz.ntmps35;go_wp2
  go_ret
  exact⟨by rw[hS.out];rfl,by first|exact⟨0,rfl⟩|exact⟨1,rfl⟩⟩
theorem tt (r:Bs):gh (pk r 0)=match r with|[]=>false|x :: _=>aY x:=by
 cases r with
 |nil=>rfl
 |cons x t=>exact eC x
theorem qC (s r:Bs):kwS s r=kwL s r:=by
 unfold kwS;rw[oG]
 congr 1
 rw[Bool.eq_iff_iff];simp only[beq_iff_eq,decide_eq_true_eq];exact List.prefix_iff_eq_take.symm
section
variable {L:Nat}{A:Option Addr}{c:Nat}{bs:Bs}{D P:Value}{d T:Nat}{pl:Bool}{W X X' w w':World}{r r' u v:Bs}{k:Tok}{acc acc':List R4}{vL v':Value}
structure VS (W:World) (L:Nat) (A:Option Addr) (c:Nat) (bs:Bs) (D P:Value) (T:Nat) (acc:List R4) (vL:Value) (X:World) (r:Bs):Prop where
 lx:LX L A c bs D P X r
 sv:Save L W X
 bT:Blk X W.heap.size 40 #[.slice none 0 0,.int .i64 0,.int .i64 0,.slice none 0 0,.slice none 0 0,.slice none 0 0]
 bS:Blk X T 40 #[vL,.int .i64 0,.int .i64 0,.slice none 0 0,.slice none 0 0,.slice none 0 0]
 own:OwnR 70 (T+1) X vL acc
 lT:W.heap.size<T
 lL:L<W.heap.size
 off:0<bs.length→∀x,A=some x→x.block<W.heap.size
theorem VS.to (h:VS W L A c bs D P T acc vL X r) (hP:LX L A c bs D P X' r') (hF:Save L X X'):VS W L A c bs D P T acc vL X' r':=
 ⟨hP,h.sv.trans hF,hF.blk (by have:=h.lL;omega) h.bT,hF.blk (by have:=h.lL;have:=h.lT;omega) h.bS,am h.own (fun b h1 h2=>hF.block b h2 (by have:=h.lL;have:=h.lT;omega)),h.lT,h.lL,h.off⟩
theorem VS.belowW (h:VS W L A c bs D P T acc vL X r) (hb:Below X.heap.size X X'):VS W L A c bs D P T acc vL X' r:=h.to (h.lx.below hb) (Save.of_below hb)
theorem VS.grown {b:Nat}(h:VS W L A c bs D P T acc vL X r) (hg:X.grownBy X' (some b)) (hb:W.heap.size≤b):LX L A c bs D P X' r∧Save L W X':=by
 have hB:Below W.heap.size X X':=((Below.refl X.heap.size X).mono h.sv.size).grown hg h.sv.size (fun k hk=>by injection hk with hk;omega);exact⟨h.lx.belowB hB h.lL h.off,h.sv.thenB hB⟩
theorem VS.more {Y:World}(h:VS W L A c bs D P T acc vL X r) (hR:OwnR 70 (T+1) Y v' acc') (hg:X.grownBy Y vL.ownBlock):VS W L A c bs D P T acc' v' (Y.setCell ⟨T,0,none⟩ v') r:=by
 have hT:=h.bS.lt;have hB:Below (T+1) X Y:=((Below.refl X.heap.size X).mono (by omega)).grown hg (by omega) (fun k hk=>(World.ownsRow.lt h.own k hk).1);have hg2:=aO Y T 0 v';have lT:=h.lT;have lL:=h.lL;have hB2:Below W.heap.size Y (Y.setCell ⟨T,0,none⟩ v'):=((Below.refl Y.heap.size Y).mono (by have:=hB.size;omega)).grown hg2 (by have:=hB.size;omega) (fun k hk=>by injection hk with hk;omega);have h2:=h.lx.belowB hB (by omega) (fun h0 x hx=>by have:=h.off h0 x hx;omega);refine⟨h2.belowB hB2 lL h.off,(h.sv.thenB (hB.mono (by omega))).thenB hB2,(h.bT.below hB (by omega)).far (p:=⟨T,0,none⟩) (by show W.heap.size≠T;omega) _,(h.bS.below hB (by omega)).set_ 0 _,?_,h.lT,h.lL,h.off⟩;exact World.ownsRow.kept hR hg2 (.inr fun e=>by have:=(World.ownsRow.lt hR _ e).1;omega)
theorem VS.cellU (h:VS W L A c bs D P T acc vL X r) (q i:Nat) (u:Value) (hT:T<q) (hne:vL.ownBlock=none∨vL.ownBlock≠some q):VS W L A c bs D P T acc vL (X.setCell ⟨q,i,none⟩ u) r:=by
 have hg:=aO X q i u;have lT:=h.lT;have hLS:=h.grown hg (by omega);exact⟨hLS.1,hLS.2,h.bT.far (p:=⟨q,i,none⟩) (by show W.heap.size≠q;omega) _,h.bS.far (p:=⟨q,i,none⟩) (by show T≠q;omega) _,World.ownsRow.kept h.own hg hne,h.lT,h.lL,h.off⟩
def tB (L:Nat) (A:Option Addr) (c:Nat) (bs:Bs) (D P:Value) (w:World) (res:Res (List R4×Ob)) (e:Ending) (w':World):Prop:=match res with
 | .ok lo u=>∃v us,e=.returned (.tuple #[.agg (List.toArray (v :: us)),.int .i64 0])∧OwnR 70 w.heap.size w' v lo.1∧ObI w.heap.size w'.heap.size w' lo.2 us∧LX L A c bs D P w' u∧Save L w w'
 | .err n u=>n≠0∧e=.returned (.tuple #[.agg #[.slice none 0 0,.int .i64 0,.int .i64 0,.slice none 0 0,.slice none 0 0,.slice none 0 0],.int .i64 n])∧LX L A c bs D P w' u∧Save L w w'
theorem pf (hd:d≤1001) (hsm6:bs.length≤60000000) (W:World) (h:LX L A c bs (.int .i64 (d:Nat)) (.bool pl) W r):Calls Tryz.prog 11 #[.pointer (some ⟨L,0,none⟩)] W (tB L A c bs (.int .i64 (d:Nat)) (.bool pl) W (gg pl d r)):=by
 obtain⟨K,hK⟩:∃K,K=gg pl d r:=⟨_,rfl⟩;rw[←hK];have hrl:=aB h.suf;have hcl:bs.length≤c:=h.cap;obtain⟨W1,hW1,b1,hT1⟩:=ak W 40 #[.slice none 0 0,.int .i64 0,.int .i64 0,.slice none 0 0,.slice none 0 0,.slice none 0 0];have z1:W1.heap.size=W.heap.size+1:=by rw[hW1,World.size_alloc]
 obtain⟨W2,hW2,b2,hS2⟩:=ak W1 40 #[.slice none 0 0,.int .i64 0,.int .i64 0,.slice none 0 0,.slice none 0 0,.slice none 0 0];obtain⟨T,hTe⟩:∃T,T=W1.heap.size:=⟨_,rfl⟩;rw[←hTe]at hS2;have b12:=ah b1 b2;have hA:VS W L A c bs (.int .i64 (d:Nat)) (.bool pl) T [] (.slice none 0 0) W2 r:=⟨h.below b12,Save.of_below b12,hT1.below b2 (by omega),hS2,OwnR.nil _ _ _,by omega,h.lt,h.a_lt⟩;have cw:=fun W h=>q7 (L:=L) (A:=A) (c:=c) (bs:=bs) (D:=.int .i64 (d:Nat)) (pl:=pl) (r:=r) (S:=⟨#[120,114,101,102]⟩) (w:=W) h
 rw[show (⟨#[120,114,101,102]⟩:ByteArray).data.toList=iQ from rfl]at cw;unfold gg at hK;have p0:=hA.lx.blk.cell 0;have p1:=hA.lx.blk.cell 1;have f1:=hA.lx.blk.frozen 1;refine h7_ hA hcl hsm6 hrl hTe z1 cw ?_;clear hA hcl hsm6 hrl hTe z1 cw;intro hA hcl hsm6 hrl hTe z1 cw;clear h b1 hT1 b2 hS2 b12;cases h1:cx iQ r with
 |err n u=>
  have cw2:=hi_ (fun W h=>by have:=cw.out W h;rw[h1]at this;exact this:∀W,LX L A c bs (.int .i64 (d:Nat)) (.bool pl) W r→Calls Tryz.prog 31 #[.pointer (some ⟨L,0,none⟩),.string ⟨#[120,114,101,102]⟩] W fun e w'=>n≠0∧e=.returned (.int .i64 n)∧LX L A c bs (.int .i64 (d:Nat)) (.bool pl) w' u∧Save L W w');rw[h1]at hK;simp only[]at hK;subst hK;clear h1 cw;go_enter Tryz.func11,Tryz.ntmps11;go_upto_region 1 with fail
  rw[←hW1];replace hW1:=hi_ hW1;go_upto_region 2 with fail
  rw[←hTe.out,←hW2];replace hW2:=hi_ hW2;go_wp2_with (go_at_call 31;(with_reducible refine (cw2.out _ hA.out.lx).mono ?_);rintro e w4 ⟨hn0,rfl,hL2,hS2⟩;replace hA:=hi_ (hA.out.to hL2 hS2);replace p0:=hA.out.lx.blk.cell 0;replace p1:=hA.out.lx.blk.cell 1;replace f1:=hA.out.lx.blk.frozen 1;obtain⟨z0,z1,z2,z3,z4,z5,v0,v1,v2,v3,v4,v5⟩:=hA.out.bT.b6;have hnb:=bne_iff_ne.2 hn0;replace hn0:=hi_ hn0;clear hL2 hS2)
  generalize hWf:World.setCell _ _ _=Wf;replace hWf:=hWf.symm;obtain⟨hb,hg⟩:=eb hA.out.bT hWf;obtain⟨u0,u1,u2,u3,u4,u5,-⟩:=hb.b6;have hLf:=hi_ (hA.out.grown hg (Nat.le_refl _));replace hg:=hi_ hg;replace hWf:=hi_ hWf;clear hb z0 v0 z1 v1 z2 v2 z3 v3 z4 v4 z5 v5;refine bodyPost_ret (v:=.tuple #[.agg #[.slice none 0 0,.int .i64 0,.int .i64 0,.slice none 0 0,.slice none 0 0,.slice none 0 0],.int .i64 n]) (by simp only[results,Tryz.results11];simp[go_sem,u0,u1,u2,u3,u4,u5]) rfl ?_;exact⟨hn0.out,rfl,hLf.out.1,hLf.out.2⟩
 |ok t u=>
  have cw2:=hi_ (fun W h=>by have:=cw.out W h;rw[h1]at this;exact this:∀W,LX L A c bs (.int .i64 (d:Nat)) (.bool pl) W r→Calls Tryz.prog 31 #[.pointer (some ⟨L,0,none⟩),.string ⟨#[120,114,101,102]⟩] W fun e w'=>e=.returned (.int .i64 0)∧LX L A c bs (.int .i64 (d:Nat)) (.bool pl) w' u∧Save L W w');rw[h1]at hK;simp only[]at hK;clear h1 cw;replace hK:=hi_ hK;go_enter Tryz.func11,Tryz.ntmps11;go_upto_region 1 with fail
  rw[←hW1];replace hW1:=hi_ hW1;go_upto_region 2 with fail
  rw[←hTe.out,←hW2];replace hW2:=hi_ hW2
  go_upto_block 0 with (go_at_call 31;(with_reducible refine (cw2.out _ hA.out.lx).mono ?_);rintro e w4 ⟨rfl,hL2,hS2⟩;replace hA:=hi_ (hA.out.to hL2 hS2);replace p0:=hA.out.lx.blk.cell 0;replace p1:=hA.out.lx.blk.cell 1;replace f1:=hA.out.lx.blk.frozen 1;clear hL2 hS2)
  have hul:u.length≤bs.length:=aB hA.out.lx.suf;replace hul:=hi_ hul;obtain⟨Z,hZ⟩:∃Z,Z=gf (u.length+1) [] u:=⟨_,rfl⟩;have hKZ:K=kR pl d Z:=by rw[hZ];exact hK.out
  replace hKZ:=hi_ hKZ;replace hZ:=hi_ hZ;clear hK cw2;go_wp2
  go_loopw [] (fun wr=>∃(f:Nat) (acc:List R4) (vL:Value) (r1:Bs),VS W L A c bs (.int .i64 (d:Nat)) (.bool pl) T acc vL wr r1∧gf f acc r1=Z∧r1.length<f∧20*acc.length+r1.length≤bs.length) (fun wr=>bs.length+1 - posOf L wr)
  case atStart=>exact⟨_,[],_,u,hA.out,hZ.out.symm,Nat.lt_succ_self _,by have:=hul.out;simpa using this⟩
  case round=>
   clear hA hZ;obtain⟨f,acc,vL,r1,hA,hE,hf,hacc⟩:=hrel;obtain⟨f,rfl⟩:∃g,f=g+1:=⟨f - 1,by omega⟩;have hbw:bs.length+1 - posOf L wr=r1.length+1:=by rw[hA.lx.posOf];have:=aK hA.lx.suf;have:=aE bs r1;omega
   have hal:acc.length≤100000000:=by have:=hsm6.out;omega
   obtain⟨AL,cL,hvL,_⟩:=hA.own.out (by unfold maxLen;omega);have p0:=hA.lx.blk.cell 0;have p1:=hA.lx.blk.cell 1;have f1:=hA.lx.blk.frozen 1;have ck:=hi_ fun W h=>lk (L:=L) (A:=A) (c:=c) (bs:=bs) (D:=.int .i64 (d:Nat)) (P:=.bool pl) (r:=r1) (w:=W) h ⟨#[116,114,97,105,108,101,114]⟩ (by decide) (by decide)
   rw[show (⟨#[116,114,97,105,108,101,114]⟩:ByteArray).data.toList=gY from rfl,show (⟨#[116,114,97,105,108,101,114]⟩:ByteArray).size=7 from rfl]at ck;simp only[qC]at ck;rw[gf]at hE;obtain⟨kb,hkb⟩:∃k,k=kwL gY r1:=⟨_,rfl⟩;rw[←hkb]at ck hE;obtain⟨nacc,hnacc⟩:∃n,n=acc.length:=⟨_,rfl⟩;rw[←hnacc]at hvL;refine h8_ hkb hbw hal hf hacc hnacc hA hE ?_;clear hkb hbw hal hf hacc hnacc hA hE;intro hkb hbw hal hf hacc hnacc hA hE;subst hvL;cases kb with
   |true=>
    have hE2:Res.ok acc ((af false r1).drop 7)=Z:=by simpa using hE.out
    subst hE2;obtain⟨v7,hv7⟩:∃x,x=(af false r1).drop 7:=⟨_,rfl⟩;have ck2:∀W,LX L A c bs (.int .i64 (d:Nat)) (.bool pl) W r1→Calls Tryz.prog 32 #[.pointer (some ⟨L,0,none⟩),.string ⟨#[116,114,97,105,108,101,114]⟩] W fun e w'=>e=.returned (.bool true)∧LX L A c bs (.int .i64 (d:Nat)) (.bool pl) w' v7∧Save L W w':=fun W h=>by rw[hv7];exact ck.out W h
    have hKZ2:=hKZ.out;rw[←hv7]at hKZ2;simp only[kR]at hKZ2;replace hKZ:=hi_ hKZ2;obtain⟨B,hB⟩:∃x,x=af false v7:=⟨_,rfl⟩;have cb:=fun W (h:LX L A c bs (.int .i64 (d:Nat)) (.bool pl) W v7)=>gT h
    rw[←hB]at hKZ2 cb;obtain⟨q,hq⟩:∃q:Int,q=(pos bs B:Nat):=⟨_,rfl⟩;have cv:=fun W (h:LX L A c bs (.int .i64 (d:Nat)) (.bool pl) W B)=>pj h hd hsm6.out
    obtain⟨RR,hRR⟩:∃x,x=valS pl d B:=⟨_,rfl⟩;rw[←hRR]at hKZ2 cv;replace hKZ:=hi_ hKZ2;refine h6_ cv cb ck2 hRR hB hv7 ?_;clear cv cb ck2 hRR hB hv7;intro cv cb ck2 hRR hB hv7;clear hKZ2 hE ck;go_upto_region 27 with (first|(go_at_call 32;(with_reducible refine (ck2.out _ hA.out.lx).mono ?_);rintro e w4 ⟨rfl,hL2,hS2⟩;replace hA:=hi_ (hA.out.to hL2 hS2);replace p0:=hA.out.lx.blk.cell 0;replace p1:=hA.out.lx.blk.cell 1;replace f1:=hA.out.lx.blk.frozen 1;clear hL2 hS2)|(go_at_call 37;(with_reducible refine (cb.out _ hA.out.lx).mono ?_);rintro e w4 ⟨rfl,hL2,hS2⟩;replace hA:=hi_ (hA.out.to hL2 hS2);replace p0:=hA.out.lx.blk.cell 0;replace p1:=hA.out.lx.blk.cell 1;replace f1:=hA.out.lx.blk.frozen 1;have hsufB:=hi_ hA.out.lx.suf;rw[←hq]at p1;replace hq:=hi_ hq;clear hL2 hS2))
    cases RR with
    |err n z=>
     have hKn:K=.err n z:=hKZ.out;subst hKn;go_upto_region 28 with (go_at_call 38;(with_reducible refine (cv.out _ hA.out.lx).mono ?_);rintro e w4 ⟨hn0,rfl,hL2,hS2⟩;replace hA:=hi_ (hA.out.to hL2 hS2);replace p0:=hA.out.lx.blk.cell 0;replace p1:=hA.out.lx.blk.cell 1;replace f1:=hA.out.lx.blk.frozen 1;have hnb:=bne_iff_ne.2 hn0;replace hn0:=hi_ hn0;clear hL2 hS2)
     obtain⟨WA,hWA,bA⟩:=bH w4 32 #[.int .i64 0,.int .i64 0,.slice none 0 0,.slice none 0 0,.slice none 0 0];rw[←hWA];replace hA:=hi_ (hA.out.belowW bA);replace p0:=hA.out.lx.blk.cell 0;replace p1:=hA.out.lx.blk.cell 1;replace f1:=hA.out.lx.blk.frozen 1;obtain⟨z0,z1,z2,z3,z4,z5,v0,v1,v2,v3,v4,-⟩:=hA.out.bT.b6;have v5:=hA.out.bT.frozen 5;
     replace hWA:=hi_ hWA;replace bA:=hi_ bA;go_wp2
     generalize hWf:World.setCell _ _ _=Wf;replace hWf:=hWf.symm;obtain⟨hb,hg⟩:=eb hA.out.bT hWf;obtain⟨u0,u1,u2,u3,u4,u5,-⟩:=hb.b6;have hLf:=hi_ (hA.out.grown hg (Nat.le_refl _));replace hg:=hi_ hg;replace hWf:=hi_ hWf;clear hb z0 v0 z1 v1 z2 v2 z3 v3 z4 v4 z5 v5;refine bodyPost_ret (v:=.tuple #[.agg #[.slice none 0 0,.int .i64 0,.int .i64 0,.slice none 0 0,.slice none 0 0,.slice none 0 0],.int .i64 n]) (by simp only[results,Tryz.results11];simp[go_sem,u0,u1,u2,u3,u4,u5]) rfl ?_;exact⟨hn0.out,rfl,hLf.out.1,hLf.out.2⟩
    |ok o z=>
     go_upto_region 28 with (go_at_call 38;(with_reducible refine (cv.out _ hA.out.lx).mono ?_);rintro e w7 ⟨us,rfl,hI,hL2,hS2⟩;obtain⟨xn,F1,F2,F3,fn1,fc1,fn2,fc2,fn3,fc3,hus⟩:=ay hI.ob;obtain⟨xk,hxk⟩:∃x,x=o.kind:=⟨_,rfl⟩;rw[←hxk]at hus;subst hus;replace hxk:=hi_ hxk;have hszV:=hi_ hA.out.sv.size;have hszT:=hi_ hA.out.bS.lt;replace hA:=hi_ (hA.out.to hL2 hS2);replace p0:=hA.out.lx.blk.cell 0;replace p1:=hA.out.lx.blk.cell 1;replace f1:=hA.out.lx.blk.frozen 1;replace hI:=hi_ hI;clear hL2 hS2)
     obtain⟨WA,hWA,bA,hXA⟩:=ak w7 32 #[.int .i64 xk,.int .i64 xn,.slice F1 fn1 fc1,.slice F2 fn2 fc2,.slice F3 fn3 fc3];rw[←hWA];obtain⟨x0,x1,x2,x3,x4,-⟩:=hXA.b5;have hIA:=hI.out.keep (fun b _ hb=>bA.block b (by have:=hI.out.1;omega)) (Nat.le_trans hI.out.1 bA.size);have hTlt:=hA.out.bS.lt;have hTX:T≠w7.heap.size:=by omega
     replace hA:=hi_ (hA.out.belowW bA);replace p0:=hA.out.lx.blk.cell 0;replace p1:=hA.out.lx.blk.cell 1;replace f1:=hA.out.lx.blk.frozen 1;obtain⟨z0,z1,z2,z3,z4,z5,v0,v1,v2,v3,v4,-⟩:=hA.out.bT.b6;have v5:=hA.out.bT.frozen 5;
     refine h3_ hWA bA hIA ?_;clear hWA bA hIA;intro hWA bA hIA;by_cases hk7:xk=7
     ·have hKo:K=.ok (acc,o) z:=by have:=hKZ.out;rw[kP,if_pos (hxk.out.symm.trans hk7)]at this;exact this
      subst hKo;subst hk7;obtain⟨s0,s1,s2,s3,s4,s5,-,g1,g2,g3,g4,g5⟩:=hA.out.bS.b6;replace hXA:=hi_ hXA;go_upto_region 34 with fail
      obtain⟨WC,hWC⟩:∃Wx,Wx=((((WA.setCell ⟨T,1,none⟩ (.int .i64 7)).setCell ⟨T,2,none⟩ (.int .i64 xn)).setCell ⟨T,3,none⟩ (.slice F1 fn1 fc1)).setCell ⟨T,4,none⟩ (.slice F2 fn2 fc2)).setCell ⟨T,5,none⟩ (.slice F3 fn3 fc3):=⟨_,rfl⟩;rw[←hWC];obtain⟨hSC,hgC⟩:=r6 hA.out.bS hWC;have hneT:=hA.out.lT;have hTC:Blk WC W.heap.size 40 #[.slice none 0 0,.int .i64 0,.int .i64 0,.slice none 0 0,.slice none 0 0,.slice none 0 0]:=(hgC.block _ hA.out.bT.lt (by intro e;injection e with e;omega)).trans hA.out.bT;have hLC:=hA.out.grown hgC (by omega);have hOC:=hi_ (World.ownsRow.kept hA.out.own hgC (.inr fun e=>by have:=(World.ownsRow.lt hA.out.own _ e).1;omega));clear s0 s1 s2 s3 s4 s5 g1 g2 g3 g4 g5 x0 x1 x2 x3 x4;obtain⟨s0,s1,s2,s3,s4,s5,-⟩:=hSC.b6;obtain⟨z0,z1,z2,z3,z4,z5,v0,v1,v2,v3,v4,v5⟩:=hTC.b6;refine h5_ hWC hgC hSC hTC hLC ?_;clear hWC hgC hSC hTC hLC;intro hWC hgC hSC hTC hLC;go_wp2
      generalize hWf:World.setCell _ _ _=Wf;replace hWf:=hWf.symm;obtain⟨hb,hg⟩:=eb hTC.out hWf;obtain⟨u0,u1,u2,u3,u4,u5,-⟩:=hb.b6;have hBf:Below W.heap.size WC Wf:=((Below.refl WC.heap.size WC).mono hLC.out.2.size).grown hg hLC.out.2.size (fun k hk=>by injection hk with hk;omega);have hLf:=hi_ (hLC.out.1.belowB hBf hA.out.lL hA.out.off);have hSf:=hi_ (hLC.out.2.thenB hBf);have hOf:OwnR 70 W.heap.size Wf (.slice AL nacc cL) acc:=iz (World.ownsRow.kept hOC.out hg (.inr fun e=>by have:=(World.ownsRow.lt hOC.out _ e).1;omega)) (by omega);have hIf:=((hIA.out.keep (fun b hb1 hb2=>hgC.out.block b (by have:=hIA.out.1;omega) (by intro e;injection e with e;have:=hszT.out;omega)) (Nat.le_trans hIA.out.1 hgC.out.size)).keep (fun b hb1 hb2=>hg.block b (by have:=hIA.out.1;have:=hgC.out.size;omega) (by intro e;injection e with e;have:=hszV.out;have:=hszT.out;omega)) (Nat.le_trans (Nat.le_trans hIA.out.1 hgC.out.size) hg.size)).wide (lo':=W.heap.size) (by have:=hszT.out;omega);have hIg:=hi_ (show ObI W.heap.size Wf.heap.size Wf o [.int .i64 7,.int .i64 xn,.slice F1 fn1 fc1,.slice F2 fn2 fc2,.slice F3 fn3 fc3] from ⟨Nat.le_refl _,fun w' h hz=>hIf.2 w' (fun b h1 h2=>h b h1 (Nat.lt_of_lt_of_le h2 hIf.1)) (Nat.le_trans hIf.1 hz)⟩);refine h3_ hOf hg hWf ?_;clear hOf hg hWf;intro hOf hg hWf;clear hb hIf hBf z0 z1 z2 z3 z4 z5 v0 v1 v2 v3 v4 v5 s0 s1 s2 s3 s4 s5;refine bodyPost_ret (v:=.tuple #[.agg #[.slice AL nacc cL,.int .i64 7,.int .i64 xn,.slice F1 fn1 fc1,.slice F2 fn2 fc2,.slice F3 fn3 fc3],.int .i64 0]) (by simp only[results,Tryz.results11];simp[go_sem,u0,u1,u2,u3,u4,u5]) rfl ?_;exact⟨.slice AL nacc cL,[.int .i64 7,.int .i64 xn,.slice F1 fn1 fc1,.slice F2 fn2 fc2,.slice F3 fn3 fc3],rfl,hOf.out,hIg.out,hLf.out,hSf.out⟩
     ·have hKo:K=.err 4 B:=by have:=hKZ.out;rw[kP,if_neg (fun e=>hk7 (hxk.out.trans e))]at this;exact this
      subst hKo;have hkb7:(xk !=7)=true:=bne_iff_ne.2 hk7;replace hk7:=hi_ hk7;replace hXA:=hi_ hXA;clear x1 x2 x3 x4;go_upto_region 32 with fail
      have hgo:=hA.out.lx.go hsufB.out;rw[←hq.out]at hgo;have hsv:Save L WA (WA.setCell ⟨L,1,none⟩ (.int .i64 q)):=(Save.refl L WA).store 1 _;replace hA:=hi_ (hA.out.to hgo hsv);obtain⟨WB,hWB⟩:∃Wx,Wx=WA.setCell ⟨L,1,none⟩ (.int .i64 q):=⟨_,rfl⟩;rw[←hWB]at hA⊢;replace hWB:=hi_ hWB;clear hgo hsv;clear z0 v0 z1 v1 z2 v2 z3 v3 z4 v4 z5 v5;replace p0:=hA.out.lx.blk.cell 0;replace p1:=hA.out.lx.blk.cell 1;replace f1:=hA.out.lx.blk.frozen 1;obtain⟨z0,z1,z2,z3,z4,z5,v0,v1,v2,v3,v4,-⟩:=hA.out.bT.b6;have v5:=hA.out.bT.frozen 5;
      go_wp2
      generalize hWf:World.setCell _ _ _=Wf;replace hWf:=hWf.symm;obtain⟨hb,hg⟩:=eb hA.out.bT hWf;obtain⟨u0,u1,u2,u3,u4,u5,-⟩:=hb.b6;have hLf:=hi_ (hA.out.grown hg (Nat.le_refl _));replace hg:=hi_ hg;replace hWf:=hi_ hWf;clear hb z0 v0 z1 v1 z2 v2 z3 v3 z4 v4 z5 v5;refine bodyPost_ret (v:=.tuple #[.agg #[.slice none 0 0,.int .i64 0,.int .i64 0,.slice none 0 0,.slice none 0 0,.slice none 0 0],.int .i64 4]) (by simp only[results,Tryz.results11];simp[go_sem,u0,u1,u2,u3,u4,u5]) rfl ?_;exact⟨by decide,rfl,hLf.out.1,hLf.out.2⟩
   |false=>
    have ck2:∀W,LX L A c bs (.int .i64 (d:Nat)) (.bool pl) W r1→Calls Tryz.prog 32 #[.pointer (some ⟨L,0,none⟩),.string ⟨#[116,114,97,105,108,101,114]⟩] W fun e w'=>e=.returned (.bool false)∧LX L A c bs (.int .i64 (d:Nat)) (.bool pl) w' r1∧Save L W w':=fun W h=>ck.out W h
    have hE2:=hE.out;rw[if_neg (by decide)]at hE2;unfold fq at hE2;have cp:=hi_ fun W h=>fu (L:=L) (A:=A) (c:=c) (bs:=bs) (D:=.int .i64 (d:Nat)) (pl:=pl) (r:=r1) (w:=W) 0 8388607 h
    replace ck2:=hi_ ck2;clear hE ck;cases h1:bx 0 8388607 r1 with
    |err n u2=>
     rw[h1]at hE2;simp only[]at hE2;subst hE2;have hKn:K=.err n u2:=hKZ.out;subst hKn;have cp2:∀W,LX L A c bs (.int .i64 (d:Nat)) (.bool pl) W r1→Calls Tryz.prog 33 #[.pointer (some ⟨L,0,none⟩),.int .i64 0,.int .i64 8388607] W fun e w'=>n≠0∧e=.returned (.tuple #[.int .i64 0,.int .i64 n])∧LX L A c bs (.int .i64 (d:Nat)) (.bool pl) w' u2∧Save L W w':=fun W h=>by have:=cp.out W h;rw[h1]at this;exact this
     replace cp2:=hi_ cp2;clear cp h1;go_wp2_with (first|(go_at_call 32;(with_reducible refine (ck2.out _ hA.out.lx).mono ?_);rintro e w4 ⟨rfl,hL2,hS2⟩;replace hA:=hi_ (hA.out.to hL2 hS2);replace p0:=hA.out.lx.blk.cell 0;replace p1:=hA.out.lx.blk.cell 1;replace f1:=hA.out.lx.blk.frozen 1;clear hL2 hS2)|(go_at_call 33;(with_reducible refine (cp2.out _ hA.out.lx).mono ?_);rintro e w4 ⟨hn0,rfl,hL2,hS2⟩;replace hA:=hi_ (hA.out.to hL2 hS2);replace p0:=hA.out.lx.blk.cell 0;replace p1:=hA.out.lx.blk.cell 1;replace f1:=hA.out.lx.blk.frozen 1;obtain⟨z0,z1,z2,z3,z4,z5,v0,v1,v2,v3,v4,v5⟩:=hA.out.bT.b6;have hnb:=bne_iff_ne.2 hn0;replace hn0:=hi_ hn0;clear hL2 hS2))
     generalize hWf:World.setCell _ _ _=Wf;replace hWf:=hWf.symm;obtain⟨hb,hg⟩:=eb hA.out.bT hWf;obtain⟨u0,u1,u2,u3,u4,u5,-⟩:=hb.b6;have hLf:=hi_ (hA.out.grown hg (Nat.le_refl _));replace hg:=hi_ hg;replace hWf:=hi_ hWf;clear hb z0 v0 z1 v1 z2 v2 z3 v3 z4 v4 z5 v5;refine bodyPost_ret (v:=.tuple #[.agg #[.slice none 0 0,.int .i64 0,.int .i64 0,.slice none 0 0,.slice none 0 0,.slice none 0 0],.int .i64 n]) (by simp only[results,Tryz.results11];simp[go_sem,u0,u1,u2,u3,u4,u5]) rfl ?_;exact⟨hn0.out,rfl,hLf.out.1,hLf.out.2⟩
    |ok t u2=>
     rw[h1]at hE2;simp only[]at hE2;have hin1:=qG h1;have hcut1:=fD h1;obtain⟨N,hN⟩:∃N,N=t.n:=⟨_,rfl⟩;have cp2:∀W,LX L A c bs (.int .i64 (d:Nat)) (.bool pl) W r1→Calls Tryz.prog 33 #[.pointer (some ⟨L,0,none⟩),.int .i64 0,.int .i64 8388607] W fun e w'=>e=.returned (.tuple #[.int .i64 N,.int .i64 0])∧LX L A c bs (.int .i64 (d:Nat)) (.bool pl) w' u2∧Save L W w':=fun W h=>by have:=cp.out W h;rw[h1]at this;rw[hN];exact this
     rw[←hN]at hin1 hE2;have hw8:IntKind.i64.wrap (8388608 - N)=8388608 - N:=by rw[IntWalk.i64_in _ (by omega)]
     have cq:=hi_ fun W h=>fu (L:=L) (A:=A) (c:=c) (bs:=bs) (D:=.int .i64 (d:Nat)) (pl:=pl) (r:=u2) (w:=W) 0 (8388608 - N) h
     refine h3_ hN cp2 hcut1 ?_;clear hN cp2 hcut1;intro hN cp2 hcut1;clear cp h1;cases h2:bx 0 (8388608 - N) u2 with
     |err n v=>
      have cq2:∀W,LX L A c bs (.int .i64 (d:Nat)) (.bool pl) W u2→Calls Tryz.prog 33 #[.pointer (some ⟨L,0,none⟩),.int .i64 0,.int .i64 (8388608 - N)] W fun e w'=>n≠0∧e=.returned (.tuple #[.int .i64 0,.int .i64 n])∧LX L A c bs (.int .i64 (d:Nat)) (.bool pl) w' v∧Save L W w':=fun W h=>by have:=cq.out W h;rw[h2]at this;exact this
      rw[h2]at hE2;simp only[]at hE2;subst hE2;have hKn:K=.err n v:=hKZ.out;subst hKn;replace cq2:=hi_ cq2;clear cq h2;go_wp2_with (first|((first|(go_at_call 32;(with_reducible refine (ck2.out _ hA.out.lx).mono ?_))|(go_at_call 33;(with_reducible refine (cp2.out _ hA.out.lx).mono ?_)));rintro e w4 ⟨rfl,hL2,hS2⟩;replace hA:=hi_ (hA.out.to hL2 hS2);replace p0:=hA.out.lx.blk.cell 0;replace p1:=hA.out.lx.blk.cell 1;replace f1:=hA.out.lx.blk.frozen 1;clear hL2 hS2)|(go_at_call 33;(with_reducible refine (cq2.out _ hA.out.lx).mono ?_);rintro e w4 ⟨hn0,rfl,hL2,hS2⟩;replace hA:=hi_ (hA.out.to hL2 hS2);replace p0:=hA.out.lx.blk.cell 0;replace p1:=hA.out.lx.blk.cell 1;replace f1:=hA.out.lx.blk.frozen 1;obtain⟨z0,z1,z2,z3,z4,z5,v0,v1,v2,v3,v4,v5⟩:=hA.out.bT.b6;have hnb:=bne_iff_ne.2 hn0;replace hn0:=hi_ hn0;clear hL2 hS2))
      generalize hWf:World.setCell _ _ _=Wf;replace hWf:=hWf.symm;obtain⟨hb,hg⟩:=eb hA.out.bT hWf;obtain⟨u0,u1,u2,u3,u4,u5,-⟩:=hb.b6;have hLf:=hi_ (hA.out.grown hg (Nat.le_refl _));replace hg:=hi_ hg;replace hWf:=hi_ hWf;clear hb z0 v0 z1 v1 z2 v2 z3 v3 z4 v4 z5 v5;refine bodyPost_ret (v:=.tuple #[.agg #[.slice none 0 0,.int .i64 0,.int .i64 0,.slice none 0 0,.slice none 0 0,.slice none 0 0],.int .i64 n]) (by simp only[results,Tryz.results11];simp[go_sem,u0,u1,u2,u3,u4,u5]) rfl ?_;exact⟨hn0.out,rfl,hLf.out.1,hLf.out.2⟩
     |ok t2 v=>
      have hin2:=qG h2;have hcut2:=fD h2;obtain⟨m,hm⟩:∃m,m=t2.n.toNat:=⟨_,rfl⟩;obtain⟨M,hM⟩:∃M:Int,M=(m:Nat):=⟨_,rfl⟩;have htn:t2.n=M:=by omega
      have cq2:∀W,LX L A c bs (.int .i64 (d:Nat)) (.bool pl) W u2→Calls Tryz.prog 33 #[.pointer (some ⟨L,0,none⟩),.int .i64 0,.int .i64 (8388608 - N)] W fun e w'=>e=.returned (.tuple #[.int .i64 M,.int .i64 0])∧LX L A c bs (.int .i64 (d:Nat)) (.bool pl) w' v∧Save L W w':=fun W h=>by have:=cq.out W h;rw[h2]at this;rw[←htn];exact this
      rw[h2]at hE2;simp only[]at hE2;rw[←hm]at hE2;rw[htn]at hin2;obtain⟨K1,hK1⟩:∃x,x=dx N m 0 [] (de v):=⟨_,rfl⟩;rw[←hK1]at hE2;refine h7_ hK1 hE2 hm htn hM cq2 hcut2 ?_;clear hK1 hE2 hm htn hM cq2 hcut2;intro hK1 hE2 hm htn hM cq2 hcut2;clear cq h2
      go_upto_block 2 with (first|((first|(go_at_call 32;(with_reducible refine (ck2.out _ hA.out.lx).mono ?_))|(go_at_call 33;(with_reducible refine (cp2.out _ hA.out.lx).mono ?_))|(go_at_call 33;(with_reducible refine (cq2.out _ hA.out.lx).mono ?_)));rintro e w4 ⟨rfl,hL2,hS2⟩;replace hA:=hi_ (hA.out.to hL2 hS2);replace p0:=hA.out.lx.blk.cell 0;replace p1:=hA.out.lx.blk.cell 1;replace f1:=hA.out.lx.blk.frozen 1;clear hL2 hS2))
      clear ck2 cp2 cq2;obtain⟨Zw,hZw⟩:∃x,x=de v:=⟨_,rfl⟩;have hK1':=hK1.out;rw[←hZw]at hK1';replace hK1:=hi_ hK1';replace hZw:=hi_ hZw;have hvl:v.length<r1.length:=by have:=hcut1.out;have:=hcut2.out;omega
      replace hvl:=hi_ hvl;clear hK1';go_wp2
      go_loopw [] (fun wr=>∃r2,VS W L A c bs (.int .i64 (d:Nat)) (.bool pl) T acc (.slice AL nacc cL) wr r2∧de r2=Zw∧r2.length<r1.length) (fun wr=>bs.length+1 - posOf L wr)
      case atStart=>exact⟨v,hA.out,hZw.out.symm,hvl.out⟩
      case round=>
       clear hA hvl;obtain⟨r2,hA,hE,hvl⟩:=hrel;have hbw2:bs.length+1 - posOf L wr=r2.length+1:=by rw[hA.lx.posOf];have:=aK hA.lx.suf;have:=aE bs r2;omega
       have p0:=hA.lx.blk.cell 0;have p1:=hA.lx.blk.cell 1;have f1:=hA.lx.blk.frozen 1;have hple:=aE bs r2;have hsmall:=hA.lx.small;obtain⟨pq,hpq⟩:∃x,x=pos bs r2:=⟨_,rfl⟩;rw[←hpq]at p1 hple;obtain⟨Pk,hPk⟩:∃x,x=pk r2 0:=⟨_,rfl⟩;obtain⟨wb,hwb⟩:∃b,b=gh Pk:=⟨_,rfl⟩;have ckq:∀k,Calls Tryz.prog 35 #[.slice A bs.length c,.int .i64 (pq:Nat)] (wr.drewN k) fun e w'=>e=.returned (.int .i64 Pk)∧∃m,w'=(wr.drewN k).drewN m:=fun k=>by
        have h0:=ph A c bs (wr.drewN k) (hA.lx.byt.below (ax wr k)) (pos bs r2+0) hsmall (by omega);rw[iB hA.lx.suf,Nat.add_zero,←hpq,←hPk]at h0;exact h0
       have cwq:∀k,Calls Tryz.prog 34 #[.int .i64 Pk] (wr.drewN k) fun e w'=>e=.returned (.bool wb)∧w'=wr.drewN k:=fun k=>by
        rw[hwb];exact (ft (w:=wr.drewN k) Pk).mono fun _ _ h=>⟨h.1,h.2.symm⟩
       have hwr2:=tt r2;rw[←hPk,←hwb]at hwr2;refine h8_ hwb hPk hA hpq hbw2 hvl ckq cwq ?_;clear hwb hPk hA hpq hbw2 hvl ckq cwq;intro hwb hPk hA hpq hbw2 hvl ckq cwq;cases wb with
       |true=>
        cases r2 with
        |nil=>exact absurd hwr2 (by simp)
        |cons x t=>
         have hx:aY x=true:=hwr2.symm;have hE3:de t=Zw:=by rw[←hE];unfold de;rw[List.dropWhile_cons,if_pos hx]
         have hpc:=bU hA.out.lx.suf;have hlt:(pq:Int)<(bs.length:Int):=by have:=hpq.out;omega
         have hwq:IntKind.i64.wrap ((pq:Int)+1)=(pq:Int)+1:=by rw[IntWalk.i64_in _ (by omega)]
         replace hE3:=hi_ hE3;replace hpc:=hi_ hpc;clear hE hwr2 hx;go_upto_region 12 with fail
         go_quiet (first
          |(go_at_call 35;with_reducible exact Calls.quiet_of (ckq.out _))
          |(go_at_call 34;with_reducible exact Calls.quiet_of_same (cwq.out _)))
         obtain⟨wy,hwy⟩:∃Wx,Wx=wr.drewN nq:=⟨_,rfl⟩;have by_:Below wr.heap.size wr wy:=by rw[hwy];exact ax wr nq
         rw[←hwy];replace hA:=hi_ (hA.out.belowW by_);replace p0:=hA.out.lx.blk.cell 0;replace p1:=hA.out.lx.blk.cell 1;replace f1:=hA.out.lx.blk.frozen 1;rw[←hpq.out]at p1;replace hwy:=hi_ hwy;replace by_:=hi_ by_;clear ckq cwq;go_wp2
         have hgo:=hA.out.lx.next (by rw[←hpq.out]:((pq:Nat):Int)=(pos bs (x :: t):Int));have hA3:=hA.out.to hgo ((Save.refl L wy).store 1 _);have e1:=hA3.lx.posOf;have e2:=aK hA3.lx.suf;have e3:=aE bs t;have e4:=hbw2.out;have e5:=hvl.out;simp only[List.length_cons]at e4 e5;exact⟨⟨t,hA3,hE3.out,by omega⟩,by rw[e1];omega⟩
       |false=>
        have hE3:Zw=r2:=by
         rw[←hE];cases r2 with
         |nil=>rfl
         |cons x t=>
          have hx:aY x=false:=hwr2.symm;unfold de;rw[List.dropWhile_cons,if_neg (by rw[hx];decide)]
        subst hE3;clear hE hwr2;go_upto_region 12 with fail
        go_quiet (first
         |(go_at_call 35;with_reducible exact Calls.quiet_of (ckq.out _))
         |(go_at_call 34;with_reducible exact Calls.quiet_of_same (cwq.out _)))
        obtain⟨wy,hwy⟩:∃Wx,Wx=wr.drewN nq:=⟨_,rfl⟩;have by_:Below wr.heap.size wr wy:=by rw[hwy];exact ax wr nq
        rw[←hwy];replace hA:=hi_ (hA.out.belowW by_);replace p0:=hA.out.lx.blk.cell 0;replace p1:=hA.out.lx.blk.cell 1;replace f1:=hA.out.lx.blk.frozen 1;rw[←hpq.out]at p1;replace hwy:=hi_ hwy;replace by_:=hi_ by_;clear ckq cwq;have hmM:=hM.out;rw[hmM];replace hmM:=hi_ hmM;go_wp2
        go_loopw [9] (fun s9 wr=>∃(i j:Nat) (acc1:List R4) (vL:Value) (r3:Bs),s9=.int .i64 i∧i+j=m∧VS W L A c bs (.int .i64 (d:Nat)) (.bool pl) T (acc++acc1) vL wr r3∧dx N j i acc1 r3=K1∧acc1.length=i∧20*i+r3.length<r1.length) (fun s9 _=>m - (RowKit.intOf s9).toNat)
        case atStart=>exact⟨0,m,[],_,Zw,rfl,by omega,by rw[List.append_nil];exact hA.out,hK1.out.symm,rfl,by have:=hvl.out;omega⟩
        case round=>
         clear hA hvl hpq hbw2 hwb hPk hple p0 p1 f1 hK1 hZw;obtain⟨i,j,acc1,vL,r3,rfl,hij,hA,hE,hal1,hlen⟩:=hrel;have hmb:=hmM.out;have hmx:m≤8388608:=by omega
         have hn60:=hsm6.out;have hacl:(acc++acc1).length≤100000000:=by rw[List.length_append];have:=hacc.out;omega
         obtain⟨AE,cE,hvE,_⟩:=hA.own.out (by unfold maxLen;omega);obtain⟨nE,hnE⟩:∃n,n=(acc++acc1).length:=⟨_,rfl⟩;rw[←hnE]at hvE;subst hvE;have p0:=hA.lx.blk.cell 0;have p1:=hA.lx.blk.cell 1;have f1:=hA.lx.blk.frozen 1;cases j with
         |zero=>
          obtain rfl:i=m:=by omega
          have hKe:K1=.ok acc1 r3:=by rw[←hE,dx]
          have hE4:=hE2.out;rw[hKe]at hE4;simp only[]at hE4;refine h5_ hE4 hA hKe hlen hal1 ?_;clear hE4 hA hKe hlen hal1;intro hE4 hA hKe hlen hal1;clear hE;go_wp2
          have e1:=hA.out.lx.posOf;have e2:=aK hA.out.lx.suf;have e3:=aE bs r3;have e4:=hbw.out;have e6:=hf.out;have e7:=hacc.out;have e8:=hlen.out;have e9:=hal1.out;exact⟨⟨f,acc++acc1,_,r3,hA.out,hE4.out,by omega,by rw[List.length_append];omega⟩,by rw[e1];omega⟩
         |succ j=>
          have him:i<m:=by omega
          have hple:=aE bs r3;have hpl:=aK hA.lx.suf;obtain⟨pq,hpq⟩:∃x,x=pos bs r3:=⟨_,rfl⟩;rw[←hpq]at p1 hple hpl;have hws:IntKind.i64.wrap ((bs.length:Int) - (pq:Int))=(bs.length:Int) - (pq:Int):=by rw[IntWalk.i64_in _ (by omega)]
          by_cases h20:r3.length<20
          ·have hKe:K1=.err 2 r3:=by rw[←hE,dx,if_pos h20]
           have hE4:=hE2.out;rw[hKe]at hE4;simp only[]at hE4;have hKn:K=.err 2 r3:=by have:=hKZ.out;rw[←hE4]at this;exact this
           subst hKn;have hlt20:(bs.length:Int) - (pq:Int)<20:=by omega
           refine h4_ hA hpq hKe hE4 ?_;clear hA hpq hKe hE4;intro hA hpq hKe hE4;clear hE;go_upto_region 17 with fail
           go_quiet (fail)
           obtain⟨wy,hwy⟩:∃Wx,Wx=wr.drewN nq:=⟨_,rfl⟩;have by_:Below wr.heap.size wr wy:=by rw[hwy];exact ax wr nq
           rw[←hwy];replace hA:=hi_ (hA.out.belowW by_);replace p0:=hA.out.lx.blk.cell 0;replace p1:=hA.out.lx.blk.cell 1;replace f1:=hA.out.lx.blk.frozen 1;obtain⟨z0,z1,z2,z3,z4,z5,v0,v1,v2,v3,v4,-⟩:=hA.out.bT.b6;have v5:=hA.out.bT.frozen 5;
           replace hwy:=hi_ hwy;replace by_:=hi_ by_;go_wp2
           generalize hWf:World.setCell _ _ _=Wf;replace hWf:=hWf.symm;obtain⟨hb,hg⟩:=eb hA.out.bT hWf;obtain⟨u0,u1,u2,u3,u4,u5,-⟩:=hb.b6;have hLf:=hi_ (hA.out.grown hg (Nat.le_refl _));replace hg:=hi_ hg;replace hWf:=hi_ hWf;clear hb z0 v0 z1 v1 z2 v2 z3 v3 z4 v4 z5 v5;refine bodyPost_ret (v:=.tuple #[.agg #[.slice none 0 0,.int .i64 0,.int .i64 0,.slice none 0 0,.slice none 0 0,.slice none 0 0],.int .i64 2]) (by simp only[results,Tryz.results11];simp[go_sem,u0,u1,u2,u3,u4,u5]) rfl ?_;exact⟨by decide,rfl,hLf.out.1,hLf.out.2⟩
          ·have h20l:(r3.take 20).length=20:=by rw[List.length_take];omega
           have hE3:=hE;rw[dx,if_neg h20,jz]at hE3;obtain⟨gA,oA,hAe,hcells⟩:=hA.lx.byt.2 (by omega);subst hAe;have hr3:(bs.drop pq).take 20=r3.take 20:=by rw[hpq,fy hA.lx.suf]
           have hc20:pq+20≤c:=by have:=hcl.out;omega
           have ce0:∀w',Below wr.heap.size wr w'→Calls Tryz.prog 36 #[.slice (some ⟨gA,oA+pq,none⟩) 20 (c - pq)] w' fun e w2=>e=.returned (.tuple #[.agg (if okE (r3.take 20)=true then #[.int .i64 0,.int .i64 (dZ (r3.take 20)),.int .i64 (bN ((r3.take 20).take 10)).1,.int .i64 (bN (((r3.take 20).drop 11).take 5)).1] else #[.int .i64 0,.int .i64 0,.int .i64 0,.int .i64 0]),.bool (okE (r3.take 20))])∧Below w'.heap.size w' w2:=fun w' hw=>by
            have h0:=ef (hA.lx.byt.below hw) pq 20 (by omega);rw[hr3]at h0;exact m7 _ (c - pq) (r3.take 20) h20l (by omega) w' h0
           obtain⟨ok,hok⟩:∃x,x=okE (r3.take 20):=⟨_,rfl⟩;obtain⟨KD,hKD⟩:∃x,x=dZ (r3.take 20):=⟨_,rfl⟩;obtain⟨n1,hn1⟩:∃x,x=(bN ((r3.take 20).take 10)).1:=⟨_,rfl⟩;obtain⟨n2,hn2⟩:∃x,x=(bN (((r3.take 20).drop 11).take 5)).1:=⟨_,rfl⟩;rw[←hok,←hKD,←hn1,←hn2]at hE3;simp only[←hok,←hKD,←hn1,←hn2]at ce0;have hge20:¬((bs.length:Int) - (pq:Int)<20):=by omega
           have hwp:IntKind.i64.wrap ((pq:Int)+20)=(pq:Int)+20:=by rw[IntWalk.i64_in _ (by omega)]
           have kp:=hi_ fun (w':World) (hb:Below wr.heap.size wr w')=>(⟨(hb.cell (ac p0)).trans p0,(hb.cell (ac p1)).trans p1⟩:w'.cell? ⟨L,0,none⟩=some (.slice (some ⟨gA,oA,none⟩) bs.length c)∧w'.cell? ⟨L,1,none⟩=some (.int .i64 (pq:Nat)))
           have hp0:(0:Int)≤(pq:Int):=by omega
           have hpn:(pq:Int)+20≤(c:Int):=by omega
           have hcne:¬(c=pq):=by omega
           have ht20:((pq:Int)+20).toNat - pq=20:=by omega
           have hpn2:(pq:Int)≤(pq:Int)+20:=by omega
           refine h9_ hA hpq hok hKD hn1 hn2 hE3 h20l hr3 ?_;clear hA hpq hok hKD hn1 hn2 hE3 h20l hr3;intro hA hpq hok hKD hn1 hn2 hE3 h20l hr3;refine h5_ hcells hal1 hacl hnE hlen ?_;clear hcells hal1 hacl hnE hlen;intro hcells hal1 hacl hnE hlen;clear hE;go_upto_region 17 with fail
           go_quiet (fail)
           obtain⟨wy,hwy⟩:∃Wx,Wx=wr.drewN nq:=⟨_,rfl⟩;have by_:Below wr.heap.size wr wy:=by rw[hwy];exact ax wr nq
           rw[←hwy];replace hA:=hi_ (hA.out.belowW by_);replace p0:=hA.out.lx.blk.cell 0;replace p1:=hA.out.lx.blk.cell 1;replace f1:=hA.out.lx.blk.frozen 1;rw[←hpq.out]at p1;replace hwy:=hi_ hwy;replace by_:=hi_ by_;cases ok with
           |false=>
            have ce:∀w',Below wy.heap.size wy w'→Calls Tryz.prog 36 #[.slice (some ⟨gA,oA+pq,none⟩) 20 (c - pq)] w' fun e w2=>e=.returned (.tuple #[.agg #[.int .i64 0,.int .i64 0,.int .i64 0,.int .i64 0],.bool false])∧Below w'.heap.size w' w2:=fun w' hw=>ce0 w' (by_.out.trans (hw.mono by_.out.size))
            replace ce:=hi_ ce;have kpy:=hi_ fun w' (hb:Below wy.heap.size wy w')=>kp.out w' (by_.out.trans (hb.mono by_.out.size))
            clear ce0;go_upto_region 19 with fail
            go_cut [10,11] from 101 to 120 (fun s10 s11 wr=>∃q,s10=.pointer (some ⟨q,0,none⟩)∧s11=.bool false∧wy.heap.size≤q∧Blk wr q 70 #[.int .i64 0,.int .i64 0,.int .i64 0,.int .i64 0]∧Below wy.heap.size wy wr)
            case first=>
             go_region_held3 (fun w'=>w'.cell? ⟨L,0,none⟩=some (.slice (some ⟨gA,oA,none⟩) bs.length c)∧w'.cell? ⟨L,1,none⟩=some (.int .i64 (pq:Nat)))
              (first|go_keep|exact kpy.out _ hB6|exact kpy.out _ hB7|exact kpy.out _ (hB6.alloc hB6.size _)|exact kpy.out _ (hB7.grown (bf hK6 rfl).2 hB7.size (fun k hk=>by injection hk with hk;omega))|exact kpy.out _ ((Below.refl _ _).alloc (Nat.le_refl _) _))
              (
               first
               |(go_at_call 36;(with_reducible refine (ce.out _ ((Below.refl _ _).drew)).mono ?_);rintro e w6 ⟨rfl,hB6⟩;replace hB6:Below wy.heap.size wy w6:=(Below.refl _ _).drew.trans hB6;have hB7:Below wy.heap.size wy (w6.alloc (.cells #[.int .i64 0,.int .i64 0,.int .i64 0,.int .i64 0] 70)):=hB6.alloc hB6.size _;have hq7:wy.heap.size≤w6.heap.size:=hB6.size;have hK6:=Blk.new w6 70 #[.int .i64 0,.int .i64 0,.int .i64 0,.int .i64 0];obtain⟨t0,t1,t2,t3,y0,y1,y2,y3⟩:=hK6.b4)
               |(go_at_call 36;(with_reducible refine (ce.out _ (((Below.refl _ _).alloc (Nat.le_refl _) _).drew)).mono ?_);rintro e w6 ⟨rfl,hB6⟩;have hK6:=(show Blk (wy.alloc (.cells #[.int .i64 0,.int .i64 0,.int .i64 0,.int .i64 0] 70)).drew wy.heap.size 70 #[.int .i64 0,.int .i64 0,.int .i64 0,.int .i64 0] from Blk.new wy _ _).below hB6 (show wy.heap.size<(wy.alloc (.cells #[.int .i64 0,.int .i64 0,.int .i64 0,.int .i64 0] 70)).heap.size by rw[World.size_alloc];omega);replace hB6:Below wy.heap.size wy w6:=(((Below.refl _ _).alloc (Nat.le_refl _) _).drew).trans (hB6.mono (show wy.heap.size≤(wy.alloc (.cells #[.int .i64 0,.int .i64 0,.int .i64 0,.int .i64 0] 70)).heap.size by rw[World.size_alloc];omega));have hB7:=hB6;have hq7:wy.heap.size≤wy.heap.size:=Nat.le_refl _;obtain⟨t0,t1,t2,t3,y0,y1,y2,y3⟩:=hK6.b4))
             ·go_wp2
              go_meet
              exact⟨_,rfl,rfl,hB6.size,Blk.new w6 _ _,hB6.alloc hB6.size _⟩
             ·go_wp2
              go_meet
              exact⟨_,rfl,rfl,Nat.le_refl _,(bf hK6 rfl).1,hB6.grown (bf hK6 rfl).2 hB6.size (fun k hk=>by injection hk with hk;omega)⟩
            case rest=>
            obtain⟨q,rfl,rfl,hq,hU,hBc⟩:=hcut;clear kpy ce kp;have hKe:K1=.err 4 r3:=by have h3:=hE3.out;simpa using h3.symm
            have hE4:=hE2.out;rw[hKe]at hE4;simp only[]at hE4;have hKn:K=.err 4 r3:=by have:=hKZ.out;rw[←hE4]at this;exact this
            subst hKn;replace hA:=hi_ (hA.out.belowW hBc);replace p0:=hA.out.lx.blk.cell 0;replace p1:=hA.out.lx.blk.cell 1;replace f1:=hA.out.lx.blk.frozen 1;obtain⟨z0,z1,z2,z3,z4,z5,v0,v1,v2,v3,v4,-⟩:=hA.out.bT.b6;have v5:=hA.out.bT.frozen 5;
            refine h4_ hKe hE4 hBc hU ?_;clear hKe hE4 hBc hU;intro hKe hE4 hBc hU;go_wp2
            generalize hWf:World.setCell _ _ _=Wf;replace hWf:=hWf.symm;obtain⟨hb,hg⟩:=eb hA.out.bT hWf;obtain⟨u0,u1,u2,u3,u4,u5,-⟩:=hb.b6;have hLf:=hi_ (hA.out.grown hg (Nat.le_refl _));replace hg:=hi_ hg;replace hWf:=hi_ hWf;clear hb z0 v0 z1 v1 z2 v2 z3 v3 z4 v4 z5 v5;refine bodyPost_ret (v:=.tuple #[.agg #[.slice none 0 0,.int .i64 0,.int .i64 0,.slice none 0 0,.slice none 0 0,.slice none 0 0],.int .i64 4]) (by simp only[results,Tryz.results11];simp[go_sem,u0,u1,u2,u3,u4,u5]) rfl ?_;exact⟨by decide,rfl,hLf.out.1,hLf.out.2⟩
           |true=>
            have ce:∀w',Below wy.heap.size wy w'→Calls Tryz.prog 36 #[.slice (some ⟨gA,oA+pq,none⟩) 20 (c - pq)] w' fun e w2=>e=.returned (.tuple #[.agg #[.int .i64 0,.int .i64 KD,.int .i64 n1,.int .i64 n2],.bool true])∧Below w'.heap.size w' w2:=fun w' hw=>ce0 w' (by_.out.trans (hw.mono by_.out.size))
            replace ce:=hi_ ce;have kpy:=hi_ fun w' (hb:Below wy.heap.size wy w')=>kp.out w' (by_.out.trans (hb.mono by_.out.size))
            clear ce0;go_upto_region 19 with fail
            go_cut [10,11] from 101 to 120 (fun s10 s11 wr=>∃q,s10=.pointer (some ⟨q,0,none⟩)∧s11=.bool true∧wy.heap.size≤q∧Blk wr q 70 #[.int .i64 0,.int .i64 KD,.int .i64 n1,.int .i64 n2]∧Below wy.heap.size wy wr)
            case first=>
             go_region_held3 (fun w'=>w'.cell? ⟨L,0,none⟩=some (.slice (some ⟨gA,oA,none⟩) bs.length c)∧w'.cell? ⟨L,1,none⟩=some (.int .i64 (pq:Nat)))
              (first|go_keep|exact kpy.out _ hB6|exact kpy.out _ hB7|exact kpy.out _ (hB6.alloc hB6.size _)|exact kpy.out _ (hB7.grown (bf hK6 rfl).2 hB7.size (fun k hk=>by injection hk with hk;omega))|exact kpy.out _ ((Below.refl _ _).alloc (Nat.le_refl _) _))
              (
               first
               |(go_at_call 36;(with_reducible refine (ce.out _ ((Below.refl _ _).drew)).mono ?_);rintro e w6 ⟨rfl,hB6⟩;replace hB6:Below wy.heap.size wy w6:=(Below.refl _ _).drew.trans hB6;have hB7:Below wy.heap.size wy (w6.alloc (.cells #[.int .i64 0,.int .i64 0,.int .i64 0,.int .i64 0] 70)):=hB6.alloc hB6.size _;have hq7:wy.heap.size≤w6.heap.size:=hB6.size;have hK6:=Blk.new w6 70 #[.int .i64 0,.int .i64 0,.int .i64 0,.int .i64 0];obtain⟨t0,t1,t2,t3,y0,y1,y2,y3⟩:=hK6.b4)
               |(go_at_call 36;(with_reducible refine (ce.out _ (((Below.refl _ _).alloc (Nat.le_refl _) _).drew)).mono ?_);rintro e w6 ⟨rfl,hB6⟩;have hK6:=(show Blk (wy.alloc (.cells #[.int .i64 0,.int .i64 0,.int .i64 0,.int .i64 0] 70)).drew wy.heap.size 70 #[.int .i64 0,.int .i64 0,.int .i64 0,.int .i64 0] from Blk.new wy _ _).below hB6 (show wy.heap.size<(wy.alloc (.cells #[.int .i64 0,.int .i64 0,.int .i64 0,.int .i64 0] 70)).heap.size by rw[World.size_alloc];omega);replace hB6:Below wy.heap.size wy w6:=(((Below.refl _ _).alloc (Nat.le_refl _) _).drew).trans (hB6.mono (show wy.heap.size≤(wy.alloc (.cells #[.int .i64 0,.int .i64 0,.int .i64 0,.int .i64 0] 70)).heap.size by rw[World.size_alloc];omega));have hB7:=hB6;have hq7:wy.heap.size≤wy.heap.size:=Nat.le_refl _;obtain⟨t0,t1,t2,t3,y0,y1,y2,y3⟩:=hK6.b4))
             ·go_wp2
              go_meet
              exact⟨_,rfl,rfl,hB6.size,Blk.new w6 _ _,hB6.alloc hB6.size _⟩
             ·go_wp2
              go_meet
              exact⟨_,rfl,rfl,Nat.le_refl _,(bf hK6 rfl).1,hB6.grown (bf hK6 rfl).2 hB6.size (fun k hk=>by injection hk with hk;omega)⟩
            case rest=>
            obtain⟨q,rfl,rfl,hq,hU,hBc⟩:=hcut;clear kpy ce kp;have hE4:dx N j (i+1) (acc1++[⟨N+i,KD,n1,n2⟩]) (r3.drop 20)=K1:=by have h3:=hE3.out;simpa using h3
            have hTq:T<q:=by have:=hA.out.bS.lt;omega
            have hltv:(Value.slice AE nE cE).ownBlock=none∨(Value.slice AE nE cE).ownBlock≠some q:=.inr fun e=>by have:=(World.ownsRow.lt hA.out.own _ e).2;omega
            replace hA:=hi_ (hA.out.belowW hBc);have hwi:IntKind.i64.wrap (N+(i:Int))=N+i:=by rw[IntWalk.i64_in _ (by omega)]
            obtain⟨Ni,hNi⟩:∃x:Int,x=N+i:=⟨_,rfl⟩;rw[←hNi]at hE4 hwi;obtain⟨k0,k1,k2,k3,g0,-⟩:=hU.b4;refine h5_ hE4 hNi hltv hBc hU ?_;clear hE4 hNi hltv hBc hU;intro hE4 hNi hltv hBc hU;clear hE3 hcells;go_upto_region 23 with fail
            rw[←hNi.out];obtain⟨W8,hW8⟩:∃Wx,Wx=wc.setCell ⟨q,0,none⟩ (.int .i64 Ni):=⟨_,rfl⟩;rw[←hW8];have hU8:Blk W8 q 70 #[.int .i64 Ni,.int .i64 KD,.int .i64 n1,.int .i64 n2]:=by rw[hW8];exact hU.out.set_ 0 _
            have hA8:=hA.out.cellU q 0 (.int .i64 Ni) hTq hltv.out;rw[←hW8]at hA8;replace hA:=hi_ hA8;clear hA8 k0 k1 k2 k3 g0;obtain⟨k0,k1,k2,k3,-⟩:=hU8.b4;have s0:=hA.out.bS.cell 0;obtain⟨W9,hW9,b9⟩:=bH W8 70 #[.int .i64 Ni,.int .i64 KD,.int .i64 n1,.int .i64 n2];have hA9:=hA.out.belowW b9;have hc9:∀j u,(rv ⟨Ni,KD,n1,n2⟩)[j]?=some u→W9.cell? ⟨W8.heap.size,j,none⟩=some u:=fun j u hu=>by rw[hW9];exact ei W8 _ _ j u hu
            have hal9:(acc++acc1).length≤1000000000:=by have:=hacl.out;omega
            have hown9:=hA9.own;rw[show (Value.slice AE nE cE)=.slice AE nE cE from rfl]at hown9;refine h9_ hU8 hW8 hW9 b9 hA9 hc9 hal9 hown9 hTq ?_;clear hU8 hW8 hW9 b9 hA9 hc9 hal9 hown9 hTq;intro hU8 hW8 hW9 b9 hA9 hc9 hal9 hown9 hTq;go_wp2_with (at_builtin;rw[←hW9.out];refine rQ uj rfl _ _ rfl (T+1) _ (acc++acc1) rfl hown9.out W8.heap.size ⟨Ni,KD,n1,n2⟩ rfl hc9.out hal9.out hA9.out.bS.lt ?_;intro vE wE hRE hgE hatE;obtain⟨AF,cF,hvF,_⟩:=hRE.out (by rw[List.length_append];simp only[List.length_cons,List.length_nil];have:=hal9.out;unfold maxLen;omega);subst hvF;have hBE:Below (T+1) W9 wE:=((Below.refl W9.heap.size W9).mono hA9.out.bS.lt).grown hgE hA9.out.bS.lt (fun k hk=>(World.ownsRow.lt hA9.out.own k hk).1);have hS2:=hA9.out.bS.below hBE (by omega);replace s0:=hS2.cell 0;have g0:=hS2.frozen 0;have hAE:=hA9.out.more hRE hgE;obtain⟨nF,hnF⟩:∃n,n=(acc++acc1++[(⟨Ni,KD,n1,n2⟩:R4)]).length:=⟨_,rfl⟩;rw[←hnF]at hAE⊢;replace p1:=hAE.lx.blk.cell 1;rw[←hpq.out]at p1;replace f1:=hAE.lx.blk.frozen 1;rw[List.append_assoc]at hAE;replace hAE:=hi_ hAE;replace hnF:=hi_ hnF;clear hRE hgE hatE hBE hS2 p0)
            have hgo:=hAE.out.lx.go (dc hAE.out.lx.suf 20);rw[dq hAE.out.lx.suf 20 (by omega),←hpq.out,show ((pq+20:Nat):Int)=(pq:Int)+20 by omega]at hgo;have hAF:=hAE.out.to hgo ((Save.refl L _).store 1 _)
            go_roundw
            case rel=>exact⟨i+1,j,_,_,r3.drop 20,by go_num,by omega,hAF,hE4.out,by rw[List.length_append,hal1.out];simp only[List.length_cons,List.length_nil],by have:=hlen.out;rw[List.length_drop];omega⟩
            case measure=>simp[RowKit.intOf];omega
end
section
open Go Go.RowKit Go.Wk Go.Extern Go.Extern.Rtype
theorem ul (w:World):Calls Tryz.prog 127 #[.agg #[.int .i64 7,.int .i64 0,.slice none 0 0,.slice none 0 0,.slice none 0 0]] w fun e w'=>e=.returned (.bool true)∧Below w.heap.size w w':=by
 have ce:=fun w=>fY 7 (.int .i64 0) (.slice none 0 0) (.slice none 0 0) (.slice none 0 0) w
 go_enter Tryz.func127,Tryz.ntmps127;go_wp2_with (go_at_call 163;(with_reducible refine (ce _).mono ?_);rintro e w1 ⟨rfl,hB1⟩;replace hB1:=hi_ hB1)
 go_ret
 exact⟨rfl,ah ((Below.refl _ _).alloc (Nat.le_refl _) _) hB1.out⟩
theorem ug (f:Value) (w:World):Calls Tryz.prog 168 #[.slice none 0 0,f] w fun e w'=>e=.returned (.int .i64 (-1))∧w=w':=by
 go_enter Tryz.func168,Tryz.ntmps168;go_wp2
 refine wp_loop_rounds 1 ?_;rw[rounds_succ];go_wp2
 go_ret
 exact⟨rfl,rfl⟩
theorem uf (f:Value) (w:World):Calls Tryz.prog 135 #[.slice none 0 0,f] w fun e w'=>e=.returned (.bool false)∧w=w':=by
 have ci:=ug f;go_enter Tryz.func135,Tryz.ntmps135;go_wp2_with (go_at_call 168;(with_reducible refine (ci _).mono ?_);rintro e w1 ⟨rfl,rfl⟩)
 go_ret
 exact⟨rfl,rfl⟩
theorem um (dd:Nat) (w:World):Calls Tryz.prog 133 #[.iface 30 (.slice none 0 0),.func (.func 134) #[] #[.pointer (some ⟨dd,0,none⟩)]] w fun e w'=>e=.returned (.bool true)∧Below w.heap.size w w':=by
 obtain⟨i0,hi0,hd0⟩:=td;have hv:=Lib.run_valueOf_slice (P:=Tryz.prog) 30 91 i0 hi0 hd0 none 0 0 w;have hl:=fun a w ha=>Lib.run_valueLen_slice (P:=Tryz.prog) 30 91 i0 hi0 hd0 (by kernel_rfl) a none 0 0 w ha
 have hgl:Tryz.prog.globals.size=6:=by kernel_rfl
 simp only[typeHandle,hgl]at hv hl;clear hi0 hd0;go_enter Tryz.func133,Tryz.ntmps133;go_wp2
 rw[run_callFunc_extern Tryz.func166 (by kernel_rfl) (by kernel_rfl) (by kernel_rfl) (e:=fun args=>Extern.ReflectliteValue.unpack (args.getD 0 (.tuple #[]))) (by kernel_rfl),
  show Sem.run Tryz.prog ((fun args:Array Value=>Extern.ReflectliteValue.unpack (args.getD 0 (.tuple #[]))) #[.iface 30 (.slice none 0 0)]) w=_ from hv]
 simp only[Result.andThen];rw[Oper.upon_value];go_wp2
 rw[run_callFunc_extern Tryz.func167 (by kernel_rfl) (by kernel_rfl) (by kernel_rfl) (e:=Extern.ReflectliteValue.method (Extern.ReflectliteValue.valueError "reflectlite.Value.Len" 0) Extern.ReflectliteValue.len) (by kernel_rfl),hl _ _ (by simp)];simp only[Result.andThen];rw[Oper.upon_value];go_wp2
 refine wp_loop_rounds 1 ?_;rw[rounds_succ];go_wp2
 go_ret
 exact⟨rfl,((Below.refl _ _).alloc (Nat.le_refl _) _).alloc (by simp) _⟩
theorem tK (w:World):Calls Tryz.prog 101 #[.agg #[.int .i64 7,.int .i64 0,.slice none 0 0,.slice none 0 0,.slice none 0 0],.int .i64 28] w fun e w'=>e=.returned (.bool true)∧Below w.heap.size w w':=by
 obtain⟨W1,hW1⟩:∃W,W=w.alloc (.cells #[.int .i64 7,.int .i64 0,.slice none 0 0,.slice none 0 0,.slice none 0 0] 32):=⟨_,rfl⟩;obtain⟨W2,hW2⟩:∃W,W=W1.alloc (.cells #[.int .i64 28] 3):=⟨_,rfl⟩;have b1:Below w.heap.size w W1:=by rw[hW1];exact (Below.refl _ _).alloc (Nat.le_refl _) _
 have z1:W1.heap.size=w.heap.size+1:=by rw[hW1,World.size_alloc]
 have b2:Below W1.heap.size W1 W2:=by rw[hW2];exact (Below.refl _ _).alloc (Nat.le_refl _) _
 have hT1:Blk W1 w.heap.size 32 #[.int .i64 7,.int .i64 0,.slice none 0 0,.slice none 0 0,.slice none 0 0]:=by rw[hW1];exact Blk.new w _ _
 have hT:=hT1.below b2 (by omega);have hU:Blk W2 (w.heap.size+1) 3 #[.int .i64 28]:=by rw[hW2,←z1];exact Blk.new W1 _ _
 have hb:=ah b1 b2;have st:∀W,Below W2.heap.size W2 W→W.cell? ⟨w.heap.size+1,0,none⟩=some (.int .i64 28)∧W.cell? ⟨w.heap.size,0,none⟩=some (.int .i64 7)∧W.cell? ⟨w.heap.size,1,none⟩=some (.int .i64 0)∧W.cell? ⟨w.heap.size,2,none⟩=some (.slice none 0 0)∧W.cell? ⟨w.heap.size,3,none⟩=some (.slice none 0 0)∧W.cell? ⟨w.heap.size,4,none⟩=some (.slice none 0 0):=fun W hW=>
  ⟨(hW.cell (ac (hU.cell 0))).trans (hU.cell 0),(hW.cell (ac (hT.cell 0))).trans (hT.cell 0),(hW.cell (ac (hT.cell 1))).trans (hT.cell 1),(hW.cell (ac (hT.cell 2))).trans (hT.cell 2),(hW.cell (ac (hT.cell 3))).trans (hT.cell 3),(hW.cell (ac (hT.cell 4))).trans (hT.cell 4)⟩
 obtain⟨s0,s1,s2,s3,s4,s5⟩:=st W2 (Below.refl _ _);have cs:=fun w=>ul w
 have cr:=fun w'=>um w.heap.size w'
 have cc:=fun f w=>uf f w
 replace st:=hi_ st;replace hb:=hi_ hb;clear hT1 hT hU b1 b2 z1;go_enter Tryz.func101,Tryz.ntmps101;go_upto_region 1 with fail
 rw[←hW1,←hW2];replace hW1:=hi_ hW1;replace hW2:=hi_ hW2;go_wp2_with (first
  |(go_at_call 127;(with_reducible refine (cs _).mono ?_);rintro e w1 ⟨rfl,hB1⟩;obtain⟨s0,s1,s2,s3,s4,s5⟩:=st.out w1 hB1;replace hB1:=hi_ hB1)
  |(go_at_call 133;(with_reducible refine (cr _).mono ?_);rintro e w2 ⟨rfl,hB2⟩;have hB3:=ah hB1.out hB2;obtain⟨s0,s1,s2,s3,s4,s5⟩:=st.out w2 hB3;replace hB2:=hi_ hB2;replace hB3:=hi_ hB3)
  |(go_at_call 135;(with_reducible refine (cc _ _).mono ?_);rintro e w3 ⟨rfl,rfl⟩))
 go_ret
 exact⟨rfl,ah hb.out hB3.out⟩
end
section
open Go Go.RowKit Go.Wk
def ez:R4:=⟨0,0,0,65535⟩
def GEw (g c B:Nat):Nat→Value→World→Prop:=fun j v w=>match j with
 |0|1|4|5=>v=.slice (some ⟨g,0,none⟩) 1 c
 |2|6=>v=.int .i64 1
 |3|7=>v=.int .i64 0
 |8|13=>v=.pointer (some ⟨g,0,none⟩)
 |9=>v=.slice none 0 0
 |10=>v=.agg #[.int .i64 0,.int .i64 0,.int .i64 0,.int .i64 65535]
 |11=>∃gb,v=.slice (some ⟨gb,0,none⟩) 1 1∧∀j u,(rv ez)[j]?=some u→w.cell? ⟨gb,j,none⟩=some u
 |_=>∃k c2,v=.slice (some ⟨k,0,none⟩) 1 c2∧B≤k∧∀j u,(rv ez)[j]?=some u→w.cell? ⟨k,j,none⟩=some u
theorem nH {g c B:Nat}(j:Nat) (v:Value) (w w':World) (hG:GEw g c B j v w) (hk:Below w.heap.size w w'):GEw g c B j v w':=by
 unfold GEw at hG⊢;split at hG <;> first
  |exact hG
  |(obtain⟨g,e,hc⟩:=hG;exact⟨g,e,fun j u h=>(hk.cell (ac (hc j u h))).trans (hc j u h)⟩)
  |(obtain⟨g,c,e,h1,hc⟩:=hG;exact⟨g,c,e,h1,fun j u h=>(hk.cell (ac (hc j u h))).trans (hc j u h)⟩)
theorem su:∃i,Tryz.prog.info? 28=some i∧i.zero=some (.slice none 0 0)∧i.size=1∧i.bytes=24:=⟨Tryz.t28,by kernel_rfl,by kernel_rfl,by kernel_rfl,by kernel_rfl⟩
theorem jx (w:World) (n:Nat):Below w.heap.size w (w.drewN n):=⟨rfl,rfl,rfl,Nat.le_refl _,fun _ _=>rfl⟩
theorem nP {w:World}{ops:Array Oper}{rest:List Oper}{o:Oper}{a:Act}{Q:Exit→Act→World→Prop}(hgd:o.guard=none) (s x:Operand)
 (ho:o.op=.call {callee:=.builtin .append,args:=#[s,x],argTypes:=#[95,95]}) (hv:a.eval s=.slice none 0 0)
 (g:Nat) (hx:a.eval x=.slice (some ⟨g,0,none⟩) 1 1) (hc:w.cell? ⟨g,0,none⟩=some (.slice none 0 0))
 (h:∀k c w',w'.cell? ⟨k,0,none⟩=some (.slice none 0 0)→w'.frozen? ⟨k,0,none⟩=false→w.heap.size≤k→k<w'.heap.size→Below w.heap.size w w'→wpList Tryz.prog ops Q rest (a.put o.dst (.slice (some ⟨k,0,none⟩) 1 c)) w'):wpList Tryz.prog ops Q (o :: rest) a w:=by
 obtain⟨i0,hi0,hz0,hz1,hz2⟩:=su;refine wpList_append_own_at w hgd s x 95 ho w.heap.size 28 i0 _ 1 24 Tryz.underlying95 hi0 hz0 hz1 hz2 rfl (by decide) (.slice none 0 0) 0 [] hv (World.ownsRow_nil _ _ _ _) ⟨g,0,none⟩ 1 1 [.slice none 0 0] hx rfl ?_ (by simp[Value.oneCell']) (by unfold maxLen;omega) (by omega) (Nat.le_refl _) ?_
 ·intro j u hu;rw[bz,Nat.zero_add]
  match j with
  |0=>rw[←hu];exact hc
  |j+1=>cases hu
 ·intro v' w' h1 h2 _ h3
  rcases h1.2 with ⟨_,h0⟩|⟨k,cap,cur,rfl,hB,hh,hnc,hcm,hcs,htk⟩
  ·omega
  ·have hcc:=World.ownsRow.cells (w:=w') (base:=w.heap.size) (e:=28) (size:=1) (v:=.slice (some ⟨k,0,none⟩) 1 cap) (n:=1) (xs:=[.slice none 0 0]) h1 (g:=k) rfl 0 _ rfl
   refine h k cap w' (by simpa [bz] using hcc) (by simp[World.frozen?,hh]) hB (by exact (Array.getElem?_eq_some_iff.1 hh).1) ((Below.refl _ _).grown h2 (Nat.le_refl _) fun k hk=>by cases hk)
theorem lw (w:World) (g i:Nat) (v:Value):w.grownBy (w.setCell ⟨g,i,none⟩ v) (some g):=
 ⟨rfl,rfl,rfl,by simp[World.setCell],fun k _ hk=>Below.heap_setCell _ _ _ _ (fun e=>hk (by rw[e]))⟩
theorem gS (w:World):∀j u,(rv ez)[j]?=some u→(w.alloc (.cells #[.int .i64 0,.int .i64 0,.int .i64 0,.int .i64 65535] 64)).cell? ⟨w.heap.size,j,none⟩=some u:=by
 intro j u hu;have:=bP (w:=w) (vs:=#[.int .i64 0,.int .i64 0,.int .i64 0,.int .i64 65535]) (e:=64) (i:=j);rw[Nat.zero_add]at this;rw[this,←hu]
 match j with
 |0|1|2|3=>rfl
 |j+4=>rfl
theorem nB {w:World}{o:Oper}{a:Act}{K:Act→World→Prop}{Q:Exit→Act→World→Prop}(s x:Operand)
 (ho:o.op=.call {callee:=.builtin .append,args:=#[s,x],argTypes:=#[28,28]}) (hs:a.eval s=.slice none 0 0)
 (g:Nat) (hx:a.eval x=.slice (some ⟨g,0,none⟩) 1 1) (hc:∀j u,(rv ez)[j]?=some u→w.cell? ⟨g,j,none⟩=some u)
 (h:∀k c w',(∀j u,(rv ez)[j]?=some u→w'.cell? ⟨k,j,none⟩=some u)→w.heap.size≤k→Below w.heap.size w w'→K (a.put o.dst (.slice (some ⟨k,0,none⟩) 1 c)) w'):Oper.wp Tryz.prog o a w K Q:=by
 obtain⟨i0,hi0,hz0,hz1,hz2⟩:=rt28.i;obtain⟨v',w',hr,h2,h3,h4,h5⟩:=run_append_own_at (P:=Tryz.prog) w w.heap.size 28 o.type 64 i0 _ 4 32 rt28.u hi0 hz0 hz1 hz2 rfl (by decide) (.slice none 0 0) 0 [] (World.ownsRow_nil _ _ _ _) ⟨g,0,none⟩ 1 1 (rv ez) rfl (fun j u hu=>by rw[bz,Nat.zero_add];exact hc j u hu) (lj ez) (by unfold maxLen;omega) (by omega) (Nat.le_refl _);unfold Oper.wp execOp;simp only[ho,resolve,invoke,builtin,Sem.run_bind,Sem.run_pure,Result.andThen_ok,List.map_toArray,List.map_cons,List.map_nil,hs,hx,hr];rcases h2.2 with ⟨_,h0⟩|⟨k,cap,cur,rfl,hB,hh,hnc,hcm,hcs,htk⟩
 ·omega
 ·refine h k cap w' (fun j u hu=>?_) hB ((Below.refl _ _).grown h3 (Nat.le_refl _) fun k hk=>by cases hk)
  have:=World.ownsRow.cells (w:=w') (base:=w.heap.size) (e:=64) (size:=4) (v:=.slice (some ⟨k,0,none⟩) 1 cap) (n:=1) (xs:=rv ez) h2 (g:=k) rfl j u hu
  simpa [bz] using this
theorem qN (g c:Nat) (w:World) (hg:∀j u,(rv ez)[j]?=some u→w.cell? ⟨g,j,none⟩=some u):Calls Tryz.prog 41 #[.slice (some ⟨g,0,none⟩) 1 c] w fun e w'=>∃h k c1 c2,e=.returned (.tuple #[.slice (some ⟨h,0,none⟩) 1 c1,.bool true])∧w'.cell? ⟨h,0,none⟩=some (.slice (some ⟨k,0,none⟩) 1 c2)∧(∀j u,(rv ez)[j]?=some u→w'.cell? ⟨k,j,none⟩=some u)∧Below w.heap.size w w':=by
 have y0:=hg 0 _ rfl;have y1:=hg 1 _ rfl;have y2:=hg 2 _ rfl;have y3:=hg 3 _ rfl;simp only[ez]at y0 y1 y2 y3;obtain⟨W1,hW1,b1⟩:=bH w 64 #[.int .i64 0,.int .i64 0,.int .i64 0,.int .i64 65535];obtain⟨c0,c1,c2,c3⟩:=cY hW1;have cs:=hi_ (cY hW1);replace b1:=hi_ b1;replace hg:=hi_ hg;go_enter Tryz.func41,Tryz.ntmps41;go_wp2
 refine wp_loop_rounds 2 ?_;rw[rounds_succ];go_upto_region 5 with fail
 rw[←hW1];replace hW1:=hi_ hW1;clear y0 y1 y2 y3
 go_quiet (fail)
 obtain⟨W2,hW2⟩:∃W,W=W1.drewN nq:=⟨_,rfl⟩;rw[←hW2];have hb2:Below W1.heap.size W1 W2:=by rw[hW2];exact jx _ _
 replace hW2:=hi_ hW2;clear c0 c1 c2 c3;obtain⟨c0,c1,c2,c3⟩:=dY cs.out hb2;have cs2:=hi_ (dY cs.out hb2);have hD2:=hi_ (ah b1.out hb2);replace hb2:=hi_ hb2;go_upto_region 7 with fail
 go_quiet (fail)
 obtain⟨W3,hW3⟩:∃W,W=W2.drewN nq:=⟨_,rfl⟩;rw[←hW3];have hb3:Below W2.heap.size W2 W3:=by rw[hW3];exact jx _ _
 replace hW3:=hi_ hW3;have hD3:=hi_ (ah hD2.out hb3);have cs3:=dY cs2.out hb3;have hal:Below W3.heap.size W3 (W3.alloc (.cells #[.slice none 0 0] 28)):=(Below.refl _ _).alloc (Nat.le_refl _) _;have cs4:=hi_ (dY cs3 hal);have hD4:=hi_ (ah hD3.out hal);have hcn:(W3.alloc (.cells #[.slice none 0 0] 28)).cell? ⟨W3.heap.size,0,none⟩=some (.slice none 0 0):=by simp
 refine h3_ hcn hal hb3 ?_;clear hcn hal hb3;intro hcn hal hb3;clear c0 c1 c2 c3 cs3;go_upto_region 9 with (at_builtin;refine nP rfl _ _ rfl rfl W3.heap.size rfl hcn.out ?_;intro h cc1 WX hX1 hX2 hX3 hX4 hBX;have csX:=hi_ (dY cs4.out hBX);have hDX:=hi_ (ah hD4.out hBX);have hh:=hi_ (show w.heap.size≤h from by have:=hD4.out.size;omega);replace hX1:=hi_ hX1;replace hX2:=hi_ hX2;replace hX3:=hi_ hX3;replace hX4:=hi_ hX4;replace hBX:=hi_ hBX)
 obtain⟨c0,c1,c2,c3⟩:=csX.out;refine aL (by kernel_rfl) [none,none,none,none,none,none,none,none,none,none,none,none,none,none,none,none,none,none,none,none,none,none,none,none,none,none,none,none,none,none,none,none,none,none,none,none,none,none,none,none,none,none,none,none,some 0,some 1,some 2,some 3,some 4,some 5,some 6,some 7,some 8,some 9,some 10,some 11,some 12,some 13,none,none] (fun w'=>Below WX.heap.size WX w') (fun w' w''=>Below w'.heap.size w' w'') (GEw h cc1 WX.heap.size) (by rfl) (by kernel_rfl) 14 _ rfl (by decide) (by kernel_rfl) [14,14,14,14,14,14,14,14,14,14,14,14,14,14,0] (by kernel_rfl) ?hR ?mono (.cons 13 (ab [0,3] rfl (by kernel_rfl) ?s13) (.cons 12 (ab [9,11] rfl (by kernel_rfl) ?s12) (.cons 11 (ab [10] rfl (by kernel_rfl) ?s11) (.cons 10 (ab [] rfl (by kernel_rfl) ?s10) (.cons 9 (ab [8] rfl (by kernel_rfl) ?s9) (.cons 8 (ab [4,7] rfl (by kernel_rfl) ?s8) (.cons 7 (ab [6] rfl (by kernel_rfl) ?s7) (.cons 6 (ab [5] rfl (by kernel_rfl) ?s6) (.cons 5 (ab [] rfl (by kernel_rfl) ?s5) (.cons 4 (ab [] rfl (by kernel_rfl) ?s4) (.cons 3 (ab [2] rfl (by kernel_rfl) ?s3) (.cons 2 (ab [1] rfl (by kernel_rfl) ?s2) (.cons 1 (ab [] rfl (by kernel_rfl) ?s1) (.cons 0 (ab [] rfl (by kernel_rfl) ?s0) (.nil))))))))))))))) ?done
 case hR=>exact (Below.refl _ _).drew
 case mono=>exact nH
 case s0=>
  intro x w' hRw hd K' hK;simp only[All,GEw]at hd;simp +decide only[upd,GEw,ai,if_true,if_false]at hK⊢;go_simp;have hK2:=hK _ _ ⟨hRw,Below.refl _ _,rfl⟩;exact hK2
 case s1=>
  intro x w' hRw hd K' hK;simp only[All,GEw]at hd;simp +decide only[upd,GEw,ai,if_true,if_false]at hK⊢;go_simp;have hK2:=hK _ _ ⟨hRw,Below.refl _ _,rfl⟩;exact hK2
 case s4=>
  intro x w' hRw hd K' hK;simp only[All,GEw]at hd;simp +decide only[upd,GEw,ai,if_true,if_false]at hK⊢;go_simp;have hK2:=hK _ _ ⟨hRw,Below.refl _ _,rfl⟩;exact hK2
 case s5=>
  intro x w' hRw hd K' hK;simp only[All,GEw]at hd;simp +decide only[upd,GEw,ai,if_true,if_false]at hK⊢;go_simp;have hK2:=hK _ _ ⟨hRw,Below.refl _ _,rfl⟩;exact hK2
 case s2=>
  intro x w' hRw hd K' hK;simp only[All,GEw]at hd;obtain⟨e1,_⟩:=hd;simp +decide only[upd,GEw,ai,if_true,if_false]at hK⊢;simp only[e1]at hK⊢;go_simp;have hK2:=hK _ _ ⟨hRw,Below.refl _ _,rfl⟩;exact hK2
 case s3=>
  intro x w' hRw hd K' hK;simp only[All,GEw]at hd;obtain⟨e2,_⟩:=hd;simp +decide only[upd,GEw,ai,if_true,if_false]at hK⊢;simp only[e2]at hK⊢;go_simp;have hK2:=hK _ _ ⟨hRw,Below.refl _ _,rfl⟩;exact hK2
 case s6=>
  intro x w' hRw hd K' hK;simp only[All,GEw]at hd;obtain⟨e5,_⟩:=hd;simp +decide only[upd,GEw,ai,if_true,if_false]at hK⊢;simp only[e5]at hK⊢;go_simp;have hK2:=hK _ _ ⟨hRw,Below.refl _ _,rfl⟩;exact hK2
 case s7=>
  intro x w' hRw hd K' hK;simp only[All,GEw]at hd;obtain⟨e6,_⟩:=hd;simp +decide only[upd,GEw,ai,if_true,if_false]at hK⊢;simp only[e6]at hK⊢;go_simp;have hK2:=hK _ _ ⟨hRw,Below.refl _ _,rfl⟩;exact hK2
 case s8=>
  intro x w' hRw hd K' hK;simp only[All,GEw]at hd;obtain⟨e4,e7,_⟩:=hd;simp +decide only[upd,GEw,ai,if_true,if_false]at hK⊢;simp only[e4,e7]at hK⊢;go_simp;have hK2:=hK _ _ ⟨hRw,Below.refl _ _,rfl⟩;exact hK2
 case s9=>
  intro x w' hRw hd K' hK;simp only[All,GEw]at hd;obtain⟨e8,_⟩:=hd;have hc9:=(hRw.cell (ac hX1.out)).trans hX1.out;simp +decide only[upd,GEw,ai,if_true,if_false]at hK⊢;simp only[e8]at hK⊢;go_simp;have hK2:=hK _ _ ⟨hRw,Below.refl _ _,rfl⟩;exact hK2
 case s10=>
  intro x w' hRw hd K' hK;simp only[All,GEw]at hd;have t0:=(hRw.cell (ac c0)).trans c0;have t1:=(hRw.cell (ac c1)).trans c1;have t2:=(hRw.cell (ac c2)).trans c2;have t3:=(hRw.cell (ac c3)).trans c3;simp +decide only[upd,GEw,ai,if_true,if_false]at hK⊢;go_simp;have hK2:=hK _ _ ⟨hRw,Below.refl _ _,rfl⟩;exact hK2
 case s11=>
  intro x w' hRw hd K' hK;simp only[All,GEw]at hd;obtain⟨e10,_⟩:=hd;have al:Below w'.heap.size w' (w'.alloc (.cells #[.int .i64 0,.int .i64 0,.int .i64 0,.int .i64 65535] 64)):=(Below.refl _ _).alloc (Nat.le_refl _) _;simp +decide only[upd,GEw,ai,if_true,if_false]at hK⊢;simp only[e10]at hK⊢;go_simp;have hK2:=hK _ _ ⟨ah hRw al,al,w'.heap.size,rfl,gS w'⟩;exact hK2
 case s12=>
  intro x w' hRw hd K' hK;simp only[All,GEw]at hd;obtain⟨e9,⟨gb,e11,hgb⟩,_⟩:=hd;have zW:=hRw.size;simp +decide only[upd,GEw,ai,if_true,if_false]at hK⊢;simp only[e9,e11]at hK⊢;rw[if_pos (show Region.wanted _ _=true from rfl)];refine nB _ _ rfl rfl gb rfl hgb ?_;intro k c2 w7 q1 q2 q3;have hK2:=hK _ w7 ⟨ah hRw q3,q3,k,c2,rfl,by have:=hX4.out;omega,q1⟩;exact hK2
 case s13=>
  intro x w' hRw hd K' hK;simp only[All,GEw]at hd;obtain⟨e0,e3,_⟩:=hd;simp +decide only[upd,GEw,ai,if_true,if_false]at hK⊢;simp only[e0,e3]at hK⊢;go_simp;have hK2:=hK _ _ ⟨hRw,Below.refl _ _,rfl⟩;exact hK2
 case done=>
  intro x w7 hR2 hG fr hfr;have a12:=hG 12 (by omega);have a13:=hG 13 (by omega);simp only[GEw]at a12 a13;clear hG;obtain⟨k,kc,a12,hk,hck⟩:=a12;simp only[ai]at hfr;rw[a12,a13]at hfr;subst hfr;have hD7:=ah hDX.out hR2;have x0:=(hR2.cell (ac hX1.out)).trans hX1.out;have xf:=(hR2.frozen (show (⟨h,0,none⟩:Addr).block<_ from hX4.out)).trans hX2.out;obtain⟨Wf,hWf⟩:∃Wf,Wf=w7.setCell ⟨h,0,none⟩ (.slice (some ⟨k,0,none⟩) 1 kc):=⟨_,rfl⟩;have hDf:Below w.heap.size w Wf:=by rw[hWf];exact hD7.grown (lw _ _ _ _) (by have:=hD7.size;omega) (fun q hq=>by injection hq with hq;have:=hh.out;omega)
  have x1:Wf.cell? ⟨h,0,none⟩=some (.slice (some ⟨k,0,none⟩) 1 kc):=by rw[hWf];exact World.cell?_setCell_same _ _ _ x0
  have xk:∀j u,(rv ez)[j]?=some u→Wf.cell? ⟨k,j,none⟩=some u:=fun j u hj=>by rw[hWf];exact (World.cell?_of_block (Below.heap_setCell _ _ _ _ (by have:=hX4.out;intro e;dsimp only at e;omega))).trans (hck j u hj)
  refine h4_ hD7 hDf xk hck ?_;clear hD7 hDf xk hck;intro hD7 hDf xk hck;clear c0 c1 c2 c3;go_wp2
  rw[←hWf];replace hWf:=hi_ hWf;rw[rounds_succ];go_wp2
  go_ret2
  exact⟨h,k,_,_,rfl,x1,xk.out,hDf.out⟩
end
section
open Go Go.RowKit Go.Wk
def kN:List UInt8:=[60,60,62,62]
theorem si (w:World):Calls Tryz.prog 107 #[.slice none 0 0] w (RB w kN):=by
 have c1:∀W,Calls Tryz.prog 102 #[.slice (some ⟨W.heap.size,0,none⟩) 1 1] (W.alloc (.cells #[.string ⟨#[60,60]⟩] 9)) (RB W [60,60]):=fun W=>rZ W [60,60] (by decide)
 have c2:∀W,Calls Tryz.prog 102 #[.slice (some ⟨W.heap.size,0,none⟩) 1 1] (W.alloc (.cells #[.string ⟨#[62,62]⟩] 9)) (RB W [62,62]):=fun W=>rZ W [62,62] (by decide)
 have c34:=c1 w;go_enter Tryz.func107,Tryz.ntmps107;go_wp2_with (go_at_call 102;(with_reducible refine c34.mono ?_);rintro e w2 ⟨A2,k2,rfl,hb2,hA2,hB2⟩;have c35:=c2 w2;replace hb2:=hi_ hb2;replace hA2:=hi_ hA2;replace hB2:=hi_ hB2)
 refine wp_loop_rounds 1 ?_;rw[rounds_succ];go_wp2_with (first
  |(go_at_call 102;(with_reducible refine c35.mono ?_);rintro e w3 ⟨A3,k3,rfl,hb3,hA3,hB3⟩;have c42:Calls Tryz.prog 142 #[.slice (some ⟨w3.heap.size,0,none⟩) 2 2] (w3.alloc (.cells #[.slice A2 2 k2,.slice A3 2 k3] 22)) (RB (w3.alloc (.cells #[.slice A2 2 k2,.slice A3 2 k3] 22)) kN):=qp w3 A2 A3 k2 k3 [60,60] [62,62] (hb2.out.below hB3) hb3 (by decide);replace hb3:=hi_ hb3;replace hA3:=hi_ hA3;replace hB3:=hi_ hB3)
  |(go_at_call 142;(with_reducible refine c42.mono ?_);rintro e w4 ⟨A4,k4,rfl,hb4,hA4,hB4⟩;replace hb4:=hi_ hb4;replace hA4:=hi_ hA4;replace hB4:=hi_ hB4))
 go_ret
 exact⟨A4,k4,rfl,hb4.out,hA4.out,ah hB2.out (ah hB3.out (ah ((Below.refl _ _).alloc (Nat.le_refl _) _) hB4.out))⟩
theorem sJ (w:World):Calls Tryz.prog 76 #[.agg #[.int .i64 7,.int .i64 0,.slice none 0 0,.slice none 0 0,.slice none 0 0]] w (RB w kN):=by
 obtain⟨W1,hW1,b1,hT⟩:=ak w 32 #[.int .i64 7,.int .i64 0,.slice none 0 0,.slice none 0 0,.slice none 0 0];have x0:=hT.cell 0;have x4:=hT.cell 4;have cd:=si W1;replace b1:=hi_ b1;replace hT:=hi_ hT;go_enter Tryz.func76,Tryz.ntmps76;go_upto_region 1 with fail
 rw[←hW1];replace hW1:=hi_ hW1;go_wp2_with (go_at_call 107;(with_reducible refine cd.mono ?_);rintro e w2 ⟨A2,k2,rfl,hb2,hA2,hB2⟩;replace hb2:=hi_ hb2;replace hA2:=hi_ hA2;replace hB2:=hi_ hB2)
 go_ret
 exact⟨A2,k2,rfl,hb2.out,hA2.out,ah b1.out hB2.out⟩
theorem tx (w:World):Calls Tryz.prog 75 #[.agg #[.int .i64 7,.int .i64 0,.slice none 0 0,.slice none 0 0,.slice none 0 0]] w fun e w'=>e=.returned (.bool true)∧Below w.heap.size w w':=by
 obtain⟨W1,hW1,b1,hT⟩:=ak w 32 #[.int .i64 7,.int .i64 0,.slice none 0 0,.slice none 0 0,.slice none 0 0];obtain⟨x0,x1,x2,x3,x4,-⟩:=hT.b5;have cd:=tK W1;replace b1:=hi_ b1;replace hT:=hi_ hT;go_enter Tryz.func75,Tryz.ntmps75;go_upto_region 1 with fail
 rw[←hW1];replace hW1:=hi_ hW1;go_wp2_with (go_at_call 101;(with_reducible refine cd.mono ?_);rintro e w2 ⟨rfl,hB2⟩;replace hB2:=hi_ hB2)
 go_ret
 exact⟨rfl,ah b1.out hB2.out⟩
theorem tN (w:World):Calls Tryz.prog 42 #[.agg #[.int .i64 7,.int .i64 0,.slice none 0 0,.slice none 0 0,.slice none 0 0]] w fun e w'=>∃A c,e=.returned (.tuple #[.slice A 4 c,.int .i64 0])∧Byt w' A kN∧(A=none→c=0)∧Below w.heap.size w w':=by
 obtain⟨W1,hW1,b1,hT⟩:=ak w 32 #[.int .i64 7,.int .i64 0,.slice none 0 0,.slice none 0 0,.slice none 0 0];obtain⟨x0,x1,x2,x3,x4,-⟩:=hT.b5;have cm:=tx W1;have cs:=fun W=>sJ W
 replace b1:=hi_ b1;replace hT:=hi_ hT;go_enter Tryz.func42,Tryz.ntmps42;go_upto_region 1 with fail
 rw[←hW1];replace hW1:=hi_ hW1;go_wp2_with (first
  |(go_at_call 75;(with_reducible refine cm.mono ?_);rintro e w2 ⟨rfl,hB2⟩;have hT2:=hT.out.below hB2 hT.out.lt;obtain⟨y0,y1,y2,y3,y4,-⟩:=hT2.b5;replace hT2:=hi_ hT2;replace hB2:=hi_ hB2)
  |(go_at_call 76;(with_reducible refine (cs _).mono ?_);rintro e w3 ⟨A3,k3,rfl,hb3,hA3,hB3⟩;replace hb3:=hi_ hb3;replace hA3:=hi_ hA3;replace hB3:=hi_ hB3))
 go_ret2
 exact⟨A3,k3,rfl,hb3.out,hA3.out,ah b1.out (ah hB2.out hB3.out)⟩
end
end Go.Proofs.YthffpbkndnhlfaaGreatDoor
