/- Walks and laws, joined: part E. No condition. -/
import Derived.Test.YthffpbkndnhlfaaGreatDoorTrJD
import Derived.Test.YthffpbkndnhlfaaGreatDoorTrJA
import Derived.Shelf.Small.Strs
set_option linter.unusedSimpArgs false
set_option linter.unusedVariables false
set_option maxRecDepth 100000
set_option maxHeartbeats 32000000
namespace Go.Proofs.YthffpbkndnhlfaaGreatDoor
open Go Go.RowKit Go.Wk Go.Rd Go.Fx
section
variable {P L R:Nat}{A:Option Addr}{c:Nat}{bs:Bs}{d dd:Nat}{pl:Bool}{W X X' w w':World}{r r' u v:Bs}{k s:Tok}
theorem lf (l:Bs): -9223372036854775808≤(ao l).1∧(ao l).1≤9223372036854775807:=by
 have h1:∀p,(aA (ae l p)).1≤2147483647:=fun p=>cy _ (0,true) (by decide)
 have h2:∀p,bp (ae l p)≤99999:=fun p=>eo l p
 have h3:∀b,bh b=1∨bh b= -1:=fun b=>by cases b <;> simp[bh]
 unfold ao;have a1:=h1 (sgn l).1;have a2:=h2 ((sgn l).1+(ae l (sgn l).1).length+1);have a3:=h3 (sgn l).2;generalize (aA (ae l (sgn l).1)).1=n at *;generalize bp (ae l ((sgn l).1+(ae l (sgn l).1).length+1))=f at *;generalize bh (sgn l).2=s at *
 repeat' split
 all_goals first
  |(simp;done)
  |(simp only[];rcases a3 with rfl|rfl <;> omega)
theorem kB (h:ar r=.ok k u): -9223372036854775808≤k.n∧k.n≤9223372036854775807:=by
 unfold ar at h;have key:∀B:Bs,tokA B=.ok k u→-9223372036854775808≤k.n∧k.n≤9223372036854775807:=fun B h=>by
  cases B with
  |nil=>rw[tokA]at h;cases h;simp
  |cons x t=>
   rw[tokA]at h;have ht:∀kk R,bw kk (x :: t) R=.ok k u→-9223372036854775808≤k.n∧k.n≤9223372036854775807:=fun kk R h=>by
    cases R with
    |ok b v=>cases h;simp
    |err e v=>cases h
   unfold dS at h;have hp:=lf (aN (x :: t))
   repeat' split at h
   all_goals first
    |(cases h;done)
    |exact ht _ _ h
    |(cases h;exact hp)
    |(cases h;simp;done)
 exact key _ h
theorem th {n:Int}(ht:ar r=.err n u) (W:World) (h:PS P L R A c bs d pl W r):Calls Tryz.prog 64 #[.pointer (some ⟨P,0,none⟩),.int .i64 (dd:Nat)] W (dT P L R A c bs d pl W (valS pl dd r)):=by
 have hres:=hi_ (show valS pl dd r=.err n u from by unfold valS;rw[ht]);obtain⟨K,hK⟩:∃K,K=valS pl dd r:=⟨_,rfl⟩;rw[←hK];rw[←hK]at hres;replace hK:=hi_ hK;obtain⟨W1,hW1,b1,hT⟩:=ak W 32 #[.int .i64 0,.int .i64 0,.slice none 0 0,.slice none 0 0,.slice none 0 0];have zs:W1.heap.size=W.heap.size+1:=by rw[hW1];exact World.size_alloc _ _
 have hP:=h.belowW b1;have hLT:=h.L_lt;have hRT:=h.R_lt;have hPT:=h.P_lt;have hAT:=h.a_lt;have hneL:W.heap.size≠L:=by omega
 have hneR:W.heap.size≠R:=by omega
 have hsuf:=(av false r).trans h.suf;obtain⟨at1,ha1⟩:∃a:Int,a=(pos bs (af false r):Nat):=⟨_,rfl⟩;have ct:=hi_ fun W h=>eY (P:=P) (L:=L) (R:=R) (A:=A) (c:=c) (bs:=bs) (d:=d) (pl:=pl) ht ha1 W h
 have p0:=hP.p0;have q0:=hP.q0;have hF:=hi_ (Fr.of_below (L:=L) (R:=R) b1);refine h9_ ha1 hsuf hP hT b1 zs hneL hneR hAT ?_;clear ha1 hsuf hP hT b1 zs hneL hneR hAT;intro ha1 hsuf hP hT b1 zs hneL hneR hAT;clear h;go_enter Tryz.func64,Tryz.ntmps64;go_upto_region 1 with fail
 rw[←hW1];replace hW1:=hi_ hW1;go_upto_region 2 with (first|(go_at_call 82;(with_reducible refine (ct.out _ hP.out).mono ?_);rintro e w4 ⟨hn0,rfl,hP2,hF2⟩;replace hT:=hi_ (hF2.blk hneL.out hneR.out hT.out);replace hF:=hi_ (hF.out.trans hF2);replace hP:=hi_ hP2;replace p0:=hP.out.p0;replace q0:=hP.out.q0;have hnb:=bne_iff_ne.2 hn0;replace hn0:=hi_ hn0;clear hP2 hF2))
 obtain⟨W5,hW5,b5,hU5⟩:=ak w4 108 #[.int .i64 0,.int .i64 at1,.int .i64 0,.slice none 0 0];rw[←hW5];replace hT:=hi_ (hT.out.below b5 hT.out.lt);replace hP:=hi_ (hP.out.belowW b5);replace hF:=hi_ (hF.out.trans (Fr.of_below (L:=L) (R:=R) b5));replace p0:=hP.out.p0;replace q0:=hP.out.q0;obtain⟨t0,t1,t2,t3,-⟩:=hU5.b4;refine h3_ hU5 b5 hW5 ?_;clear hU5 b5 hW5;intro hU5 b5 hW5;obtain⟨z0,z1,z2,z3,z4,v0,v1,v2,v3,v4⟩:=hT.out.b5;go_wp2
 generalize hWf:World.setCell _ _ _=Wf;replace hWf:=hWf.symm;obtain⟨hb,hg⟩:=aD hT.out hWf;obtain⟨u0,u1,u2,u3,u4,-⟩:=hb.b5;have hPf:=hi_ (hP.out.grownL hg (by omega) (by omega) (by omega) (fun h0 x hx=>by have:=hAT.out h0 x hx;omega));have hFf:=hi_ (hF.out.grownL hg (Nat.le_refl _));replace hg:=hi_ hg;replace hWf:=hi_ hWf;clear hb z0 z1 z2 z3 z4 v0 v1 v2 v3 v4;refine bodyPost_ret (by simp[results,Tryz.results64,go_sem,u0,u1,u2,u3,u4];try rfl) rfl ?_;rw[hres.out];exact⟨hn0.out,rfl,hPf.out,hFf.out⟩
theorem tg (ht:ar r=.ok k u) (hk:k.k=0) (W:World) (h:PS P L R A c bs d pl W r):Calls Tryz.prog 64 #[.pointer (some ⟨P,0,none⟩),.int .i64 (dd:Nat)] W (dT P L R A c bs d pl W (valS pl dd r)):=by
 have hres:=hi_ (show valS pl dd r=.err 2 (af false r) from by unfold valS;rw[ht];simp only[];rw[if_pos hk]);obtain⟨K,hK⟩:∃K,K=valS pl dd r:=⟨_,rfl⟩;rw[←hK];rw[←hK]at hres;replace hK:=hi_ hK;obtain⟨W1,hW1,b1,hT⟩:=ak W 32 #[.int .i64 0,.int .i64 0,.slice none 0 0,.slice none 0 0,.slice none 0 0];have zs:W1.heap.size=W.heap.size+1:=by rw[hW1];exact World.size_alloc _ _
 have hP:=h.belowW b1;have hLT:=h.L_lt;have hRT:=h.R_lt;have hPT:=h.P_lt;have hAT:=h.a_lt;have hneL:W.heap.size≠L:=by omega
 have hneR:W.heap.size≠R:=by omega
 have hsuf:=(av false r).trans h.suf;obtain⟨at1,ha1⟩:∃a:Int,a=(pos bs (af false r):Nat):=⟨_,rfl⟩;have ct:=hi_ fun W h=>bF (P:=P) (L:=L) (R:=R) (A:=A) (c:=c) (bs:=bs) (d:=d) (pl:=pl) ht ha1 W h
 have cs:=hi_ fun (r2:Bs) W h=>dB (P:=P) (L:=L) (R:=R) (A:=A) (c:=c) (bs:=bs) (d:=d) (pl:=pl) (r:=r2) hsuf ha1 2 W h
 obtain⟨kk,hkk⟩:∃x,x=k.k:=⟨_,rfl⟩;rw[←hkk]at ct hk;replace hkk:=hi_ hkk;subst hk;have p0:=hP.p0;have q0:=hP.q0;have hF:=hi_ (Fr.of_below (L:=L) (R:=R) b1);refine h9_ ha1 hsuf hP hT b1 zs hneL hneR hAT ?_;clear ha1 hsuf hP hT b1 zs hneL hneR hAT;intro ha1 hsuf hP hT b1 zs hneL hneR hAT;clear h;go_enter Tryz.func64,Tryz.ntmps64;go_upto_region 1 with fail
 rw[←hW1];replace hW1:=hi_ hW1;go_upto_region 2 with (first|(go_at_call 82;(with_reducible refine (ct.out _ hP.out).mono ?_);rintro e w4 ⟨a2,c2,rfl,hO,hP2,hF2⟩;replace hT:=hi_ (hF2.blk hneL.out hneR.out hT.out);replace hF:=hi_ (hF.out.trans hF2);replace hP:=hi_ hP2;replace p0:=hP.out.p0;replace q0:=hP.out.q0;replace hO:=hi_ hO;clear hP2 hF2))
 obtain⟨W5,hW5,b5,hU5⟩:=ak w4 108 #[.int .i64 0,.int .i64 at1,.int .i64 k.n,.slice a2 k.b.length c2];rw[←hW5];replace hT:=hi_ (hT.out.below b5 hT.out.lt);replace hP:=hi_ (hP.out.belowW b5);replace hF:=hi_ (hF.out.trans (Fr.of_below (L:=L) (R:=R) b5));replace p0:=hP.out.p0;replace q0:=hP.out.q0;obtain⟨t0,t1,t2,t3,-⟩:=hU5.b4;replace hO:=hi_ (hO.out.below b5);refine h3_ hU5 b5 hW5 ?_;clear hU5 b5 hW5;intro hU5 b5 hW5;go_wp2_with (go_at_call 83;(with_reducible refine (cs.out _ _ hP.out).mono ?_);rintro e w6 ⟨rfl,hP2,hF2⟩;replace hT:=hi_ (hF2.blk hneL.out hneR.out hT.out);replace hF:=hi_ (hF.out.trans hF2);replace hP:=hi_ hP2;replace p0:=hP.out.p0;replace q0:=hP.out.q0;obtain⟨z0,z1,z2,z3,z4,v0,v1,v2,v3,v4⟩:=hT.out.b5;clear hP2 hF2)
 generalize hWf:World.setCell _ _ _=Wf;replace hWf:=hWf.symm;obtain⟨hb,hg⟩:=aD hT.out hWf;obtain⟨u0,u1,u2,u3,u4,-⟩:=hb.b5;have hPf:=hi_ (hP.out.grownL hg (by omega) (by omega) (by omega) (fun h0 x hx=>by have:=hAT.out h0 x hx;omega));have hFf:=hi_ (hF.out.grownL hg (Nat.le_refl _));replace hg:=hi_ hg;replace hWf:=hi_ hWf;clear hb z0 z1 z2 z3 z4 v0 v1 v2 v3 v4;refine bodyPost_ret (by simp[results,Tryz.results64,go_sem,u0,u1,u2,u3,u4];try rfl) rfl ?_;rw[hres.out];exact⟨by decide,rfl,hPf.out,hFf.out⟩
theorem pZ (ht:ar r=.ok k u) (hk:k.k=6) (W:World) (h:PS P L R A c bs d pl W r):Calls Tryz.prog 64 #[.pointer (some ⟨P,0,none⟩),.int .i64 (dd:Nat)] W (dT P L R A c bs d pl W (valS pl dd r)):=by
 have hres:=hi_ (show valS pl dd r=.err 4 (af false r) from by unfold valS;rw[ht];simp only[];simp[hk]);obtain⟨K,hK⟩:∃K,K=valS pl dd r:=⟨_,rfl⟩;rw[←hK];rw[←hK]at hres;replace hK:=hi_ hK;obtain⟨W1,hW1,b1,hT⟩:=ak W 32 #[.int .i64 0,.int .i64 0,.slice none 0 0,.slice none 0 0,.slice none 0 0];have zs:W1.heap.size=W.heap.size+1:=by rw[hW1];exact World.size_alloc _ _
 have hP:=h.belowW b1;have hLT:=h.L_lt;have hRT:=h.R_lt;have hPT:=h.P_lt;have hAT:=h.a_lt;have hneL:W.heap.size≠L:=by omega
 have hneR:W.heap.size≠R:=by omega
 have hsuf:=(av false r).trans h.suf;obtain⟨at1,ha1⟩:∃a:Int,a=(pos bs (af false r):Nat):=⟨_,rfl⟩;have ct:=hi_ fun W h=>bF (P:=P) (L:=L) (R:=R) (A:=A) (c:=c) (bs:=bs) (d:=d) (pl:=pl) ht ha1 W h
 have cs:=hi_ fun (r2:Bs) W h=>dB (P:=P) (L:=L) (R:=R) (A:=A) (c:=c) (bs:=bs) (d:=d) (pl:=pl) (r:=r2) hsuf ha1 4 W h
 obtain⟨kk,hkk⟩:∃x,x=k.k:=⟨_,rfl⟩;rw[←hkk]at ct hk;replace hkk:=hi_ hkk;subst hk;have p0:=hP.p0;have q0:=hP.q0;have hF:=hi_ (Fr.of_below (L:=L) (R:=R) b1);refine h9_ ha1 hsuf hP hT b1 zs hneL hneR hAT ?_;clear ha1 hsuf hP hT b1 zs hneL hneR hAT;intro ha1 hsuf hP hT b1 zs hneL hneR hAT;clear h;go_enter Tryz.func64,Tryz.ntmps64;go_upto_region 1 with fail
 rw[←hW1];replace hW1:=hi_ hW1;go_upto_region 2 with (first|(go_at_call 82;(with_reducible refine (ct.out _ hP.out).mono ?_);rintro e w4 ⟨a2,c2,rfl,hO,hP2,hF2⟩;replace hT:=hi_ (hF2.blk hneL.out hneR.out hT.out);replace hF:=hi_ (hF.out.trans hF2);replace hP:=hi_ hP2;replace p0:=hP.out.p0;replace q0:=hP.out.q0;replace hO:=hi_ hO;clear hP2 hF2))
 obtain⟨W5,hW5,b5,hU5⟩:=ak w4 108 #[.int .i64 6,.int .i64 at1,.int .i64 k.n,.slice a2 k.b.length c2];rw[←hW5];replace hT:=hi_ (hT.out.below b5 hT.out.lt);replace hP:=hi_ (hP.out.belowW b5);replace hF:=hi_ (hF.out.trans (Fr.of_below (L:=L) (R:=R) b5));replace p0:=hP.out.p0;replace q0:=hP.out.q0;obtain⟨t0,t1,t2,t3,-⟩:=hU5.b4;replace hO:=hi_ (hO.out.below b5);refine h3_ hU5 b5 hW5 ?_;clear hU5 b5 hW5;intro hU5 b5 hW5;go_wp2_with (go_at_call 83;(with_reducible refine (cs.out _ _ hP.out).mono ?_);rintro e w6 ⟨rfl,hP2,hF2⟩;replace hT:=hi_ (hF2.blk hneL.out hneR.out hT.out);replace hF:=hi_ (hF.out.trans hF2);replace hP:=hi_ hP2;replace p0:=hP.out.p0;replace q0:=hP.out.q0;obtain⟨z0,z1,z2,z3,z4,v0,v1,v2,v3,v4⟩:=hT.out.b5;clear hP2 hF2)
 generalize hWf:World.setCell _ _ _=Wf;replace hWf:=hWf.symm;obtain⟨hb,hg⟩:=aD hT.out hWf;obtain⟨u0,u1,u2,u3,u4,-⟩:=hb.b5;have hPf:=hi_ (hP.out.grownL hg (by omega) (by omega) (by omega) (fun h0 x hx=>by have:=hAT.out h0 x hx;omega));have hFf:=hi_ (hF.out.grownL hg (Nat.le_refl _));replace hg:=hi_ hg;replace hWf:=hi_ hWf;clear hb z0 z1 z2 z3 z4 v0 v1 v2 v3 v4;refine bodyPost_ret (by simp[results,Tryz.results64,go_sem,u0,u1,u2,u3,u4];try rfl) rfl ?_;rw[hres.out];exact⟨by decide,rfl,hPf.out,hFf.out⟩
theorem p8 (ht:ar r=.ok k u) (hk:k.k=8) (W:World) (h:PS P L R A c bs d pl W r):Calls Tryz.prog 64 #[.pointer (some ⟨P,0,none⟩),.int .i64 (dd:Nat)] W (dT P L R A c bs d pl W (valS pl dd r)):=by
 have hres:=hi_ (show valS pl dd r=.err 4 (af false r) from by unfold valS;rw[ht];simp only[];simp[hk]);obtain⟨K,hK⟩:∃K,K=valS pl dd r:=⟨_,rfl⟩;rw[←hK];rw[←hK]at hres;replace hK:=hi_ hK;obtain⟨W1,hW1,b1,hT⟩:=ak W 32 #[.int .i64 0,.int .i64 0,.slice none 0 0,.slice none 0 0,.slice none 0 0];have zs:W1.heap.size=W.heap.size+1:=by rw[hW1];exact World.size_alloc _ _
 have hP:=h.belowW b1;have hLT:=h.L_lt;have hRT:=h.R_lt;have hPT:=h.P_lt;have hAT:=h.a_lt;have hneL:W.heap.size≠L:=by omega
 have hneR:W.heap.size≠R:=by omega
 have hsuf:=(av false r).trans h.suf;obtain⟨at1,ha1⟩:∃a:Int,a=(pos bs (af false r):Nat):=⟨_,rfl⟩;have ct:=hi_ fun W h=>bF (P:=P) (L:=L) (R:=R) (A:=A) (c:=c) (bs:=bs) (d:=d) (pl:=pl) ht ha1 W h
 have cs:=hi_ fun (r2:Bs) W h=>dB (P:=P) (L:=L) (R:=R) (A:=A) (c:=c) (bs:=bs) (d:=d) (pl:=pl) (r:=r2) hsuf ha1 4 W h
 obtain⟨kk,hkk⟩:∃x,x=k.k:=⟨_,rfl⟩;rw[←hkk]at ct hk;replace hkk:=hi_ hkk;subst hk;have p0:=hP.p0;have q0:=hP.q0;have hF:=hi_ (Fr.of_below (L:=L) (R:=R) b1);refine h9_ ha1 hsuf hP hT b1 zs hneL hneR hAT ?_;clear ha1 hsuf hP hT b1 zs hneL hneR hAT;intro ha1 hsuf hP hT b1 zs hneL hneR hAT;clear h;go_enter Tryz.func64,Tryz.ntmps64;go_upto_region 1 with fail
 rw[←hW1];replace hW1:=hi_ hW1;go_upto_region 2 with (first|(go_at_call 82;(with_reducible refine (ct.out _ hP.out).mono ?_);rintro e w4 ⟨a2,c2,rfl,hO,hP2,hF2⟩;replace hT:=hi_ (hF2.blk hneL.out hneR.out hT.out);replace hF:=hi_ (hF.out.trans hF2);replace hP:=hi_ hP2;replace p0:=hP.out.p0;replace q0:=hP.out.q0;replace hO:=hi_ hO;clear hP2 hF2))
 obtain⟨W5,hW5,b5,hU5⟩:=ak w4 108 #[.int .i64 8,.int .i64 at1,.int .i64 k.n,.slice a2 k.b.length c2];rw[←hW5];replace hT:=hi_ (hT.out.below b5 hT.out.lt);replace hP:=hi_ (hP.out.belowW b5);replace hF:=hi_ (hF.out.trans (Fr.of_below (L:=L) (R:=R) b5));replace p0:=hP.out.p0;replace q0:=hP.out.q0;obtain⟨t0,t1,t2,t3,-⟩:=hU5.b4;replace hO:=hi_ (hO.out.below b5);refine h3_ hU5 b5 hW5 ?_;clear hU5 b5 hW5;intro hU5 b5 hW5;go_wp2_with (go_at_call 83;(with_reducible refine (cs.out _ _ hP.out).mono ?_);rintro e w6 ⟨rfl,hP2,hF2⟩;replace hT:=hi_ (hF2.blk hneL.out hneR.out hT.out);replace hF:=hi_ (hF.out.trans hF2);replace hP:=hi_ hP2;replace p0:=hP.out.p0;replace q0:=hP.out.q0;obtain⟨z0,z1,z2,z3,z4,v0,v1,v2,v3,v4⟩:=hT.out.b5;clear hP2 hF2)
 generalize hWf:World.setCell _ _ _=Wf;replace hWf:=hWf.symm;obtain⟨hb,hg⟩:=aD hT.out hWf;obtain⟨u0,u1,u2,u3,u4,-⟩:=hb.b5;have hPf:=hi_ (hP.out.grownL hg (by omega) (by omega) (by omega) (fun h0 x hx=>by have:=hAT.out h0 x hx;omega));have hFf:=hi_ (hF.out.grownL hg (Nat.le_refl _));replace hg:=hi_ hg;replace hWf:=hi_ hWf;clear hb z0 z1 z2 z3 z4 v0 v1 v2 v3 v4;refine bodyPost_ret (by simp[results,Tryz.results64,go_sem,u0,u1,u2,u3,u4];try rfl) rfl ?_;rw[hres.out];exact⟨by decide,rfl,hPf.out,hFf.out⟩
theorem p5 (hdd:dd=0) (ht:ar r=.ok k u) (hk:k.k=5) (W:World) (h:PS P L R A c bs d pl W r):Calls Tryz.prog 64 #[.pointer (some ⟨P,0,none⟩),.int .i64 (dd:Nat)] W (dT P L R A c bs d pl W (valS pl dd r)):=by
 have hres:=hi_ (show valS pl dd r=.err 6 (af false r) from by subst hdd;unfold valS;rw[ht];simp only[];simp[hk]);obtain⟨K,hK⟩:∃K,K=valS pl dd r:=⟨_,rfl⟩;rw[←hK];rw[←hK]at hres;replace hK:=hi_ hK;obtain⟨W1,hW1,b1,hT⟩:=ak W 32 #[.int .i64 0,.int .i64 0,.slice none 0 0,.slice none 0 0,.slice none 0 0];have zs:W1.heap.size=W.heap.size+1:=by rw[hW1];exact World.size_alloc _ _
 have hP:=h.belowW b1;have hLT:=h.L_lt;have hRT:=h.R_lt;have hPT:=h.P_lt;have hAT:=h.a_lt;have hneL:W.heap.size≠L:=by omega
 have hneR:W.heap.size≠R:=by omega
 have hsuf:=(av false r).trans h.suf;obtain⟨at1,ha1⟩:∃a:Int,a=(pos bs (af false r):Nat):=⟨_,rfl⟩;have ct:=hi_ fun W h=>bF (P:=P) (L:=L) (R:=R) (A:=A) (c:=c) (bs:=bs) (d:=d) (pl:=pl) ht ha1 W h
 have cs:=hi_ fun (r2:Bs) W h=>dB (P:=P) (L:=L) (R:=R) (A:=A) (c:=c) (bs:=bs) (d:=d) (pl:=pl) (r:=r2) hsuf ha1 6 W h
 obtain⟨kk,hkk⟩:∃x,x=k.k:=⟨_,rfl⟩;rw[←hkk]at ct hk;replace hkk:=hi_ hkk;subst hk;subst hdd;have p0:=hP.p0;have q0:=hP.q0;have hF:=hi_ (Fr.of_below (L:=L) (R:=R) b1);refine h9_ ha1 hsuf hP hT b1 zs hneL hneR hAT ?_;clear ha1 hsuf hP hT b1 zs hneL hneR hAT;intro ha1 hsuf hP hT b1 zs hneL hneR hAT;clear h;go_enter Tryz.func64,Tryz.ntmps64;go_upto_region 1 with fail
 rw[←hW1];replace hW1:=hi_ hW1;go_upto_region 2 with (first|(go_at_call 82;(with_reducible refine (ct.out _ hP.out).mono ?_);rintro e w4 ⟨a2,c2,rfl,hO,hP2,hF2⟩;replace hT:=hi_ (hF2.blk hneL.out hneR.out hT.out);replace hF:=hi_ (hF.out.trans hF2);replace hP:=hi_ hP2;replace p0:=hP.out.p0;replace q0:=hP.out.q0;replace hO:=hi_ hO;clear hP2 hF2))
 obtain⟨W5,hW5,b5,hU5⟩:=ak w4 108 #[.int .i64 5,.int .i64 at1,.int .i64 k.n,.slice a2 k.b.length c2];rw[←hW5];replace hT:=hi_ (hT.out.below b5 hT.out.lt);replace hP:=hi_ (hP.out.belowW b5);replace hF:=hi_ (hF.out.trans (Fr.of_below (L:=L) (R:=R) b5));replace p0:=hP.out.p0;replace q0:=hP.out.q0;obtain⟨t0,t1,t2,t3,-⟩:=hU5.b4;replace hO:=hi_ (hO.out.below b5);refine h3_ hU5 b5 hW5 ?_;clear hU5 b5 hW5;intro hU5 b5 hW5;go_wp2_with (go_at_call 83;(with_reducible refine (cs.out _ _ hP.out).mono ?_);rintro e w6 ⟨rfl,hP2,hF2⟩;replace hT:=hi_ (hF2.blk hneL.out hneR.out hT.out);replace hF:=hi_ (hF.out.trans hF2);replace hP:=hi_ hP2;replace p0:=hP.out.p0;replace q0:=hP.out.q0;obtain⟨z0,z1,z2,z3,z4,v0,v1,v2,v3,v4⟩:=hT.out.b5;clear hP2 hF2)
 generalize hWf:World.setCell _ _ _=Wf;replace hWf:=hWf.symm;obtain⟨hb,hg⟩:=aD hT.out hWf;obtain⟨u0,u1,u2,u3,u4,-⟩:=hb.b5;have hPf:=hi_ (hP.out.grownL hg (by omega) (by omega) (by omega) (fun h0 x hx=>by have:=hAT.out h0 x hx;omega));have hFf:=hi_ (hF.out.grownL hg (Nat.le_refl _));replace hg:=hi_ hg;replace hWf:=hi_ hWf;clear hb z0 z1 z2 z3 z4 v0 v1 v2 v3 v4;refine bodyPost_ret (by simp[results,Tryz.results64,go_sem,u0,u1,u2,u3,u4];try rfl) rfl ?_;rw[hres.out];exact⟨by decide,rfl,hPf.out,hFf.out⟩
theorem p6 (hdd:dd=0) (ht:ar r=.ok k u) (hk:k.k=7) (W:World) (h:PS P L R A c bs d pl W r):Calls Tryz.prog 64 #[.pointer (some ⟨P,0,none⟩),.int .i64 (dd:Nat)] W (dT P L R A c bs d pl W (valS pl dd r)):=by
 have hres:=hi_ (show valS pl dd r=.err 6 (af false r) from by subst hdd;unfold valS;rw[ht];simp only[];simp[hk]);obtain⟨K,hK⟩:∃K,K=valS pl dd r:=⟨_,rfl⟩;rw[←hK];rw[←hK]at hres;replace hK:=hi_ hK;obtain⟨W1,hW1,b1,hT⟩:=ak W 32 #[.int .i64 0,.int .i64 0,.slice none 0 0,.slice none 0 0,.slice none 0 0];have zs:W1.heap.size=W.heap.size+1:=by rw[hW1];exact World.size_alloc _ _
 have hP:=h.belowW b1;have hLT:=h.L_lt;have hRT:=h.R_lt;have hPT:=h.P_lt;have hAT:=h.a_lt;have hneL:W.heap.size≠L:=by omega
 have hneR:W.heap.size≠R:=by omega
 have hsuf:=(av false r).trans h.suf;obtain⟨at1,ha1⟩:∃a:Int,a=(pos bs (af false r):Nat):=⟨_,rfl⟩;have ct:=hi_ fun W h=>bF (P:=P) (L:=L) (R:=R) (A:=A) (c:=c) (bs:=bs) (d:=d) (pl:=pl) ht ha1 W h
 have cs:=hi_ fun (r2:Bs) W h=>dB (P:=P) (L:=L) (R:=R) (A:=A) (c:=c) (bs:=bs) (d:=d) (pl:=pl) (r:=r2) hsuf ha1 6 W h
 obtain⟨kk,hkk⟩:∃x,x=k.k:=⟨_,rfl⟩;rw[←hkk]at ct hk;replace hkk:=hi_ hkk;subst hk;subst hdd;have p0:=hP.p0;have q0:=hP.q0;have hF:=hi_ (Fr.of_below (L:=L) (R:=R) b1);refine h9_ ha1 hsuf hP hT b1 zs hneL hneR hAT ?_;clear ha1 hsuf hP hT b1 zs hneL hneR hAT;intro ha1 hsuf hP hT b1 zs hneL hneR hAT;clear h;go_enter Tryz.func64,Tryz.ntmps64;go_upto_region 1 with fail
 rw[←hW1];replace hW1:=hi_ hW1;go_upto_region 2 with (first|(go_at_call 82;(with_reducible refine (ct.out _ hP.out).mono ?_);rintro e w4 ⟨a2,c2,rfl,hO,hP2,hF2⟩;replace hT:=hi_ (hF2.blk hneL.out hneR.out hT.out);replace hF:=hi_ (hF.out.trans hF2);replace hP:=hi_ hP2;replace p0:=hP.out.p0;replace q0:=hP.out.q0;replace hO:=hi_ hO;clear hP2 hF2))
 obtain⟨W5,hW5,b5,hU5⟩:=ak w4 108 #[.int .i64 7,.int .i64 at1,.int .i64 k.n,.slice a2 k.b.length c2];rw[←hW5];replace hT:=hi_ (hT.out.below b5 hT.out.lt);replace hP:=hi_ (hP.out.belowW b5);replace hF:=hi_ (hF.out.trans (Fr.of_below (L:=L) (R:=R) b5));replace p0:=hP.out.p0;replace q0:=hP.out.q0;obtain⟨t0,t1,t2,t3,-⟩:=hU5.b4;replace hO:=hi_ (hO.out.below b5);refine h3_ hU5 b5 hW5 ?_;clear hU5 b5 hW5;intro hU5 b5 hW5;go_wp2_with (go_at_call 83;(with_reducible refine (cs.out _ _ hP.out).mono ?_);rintro e w6 ⟨rfl,hP2,hF2⟩;replace hT:=hi_ (hF2.blk hneL.out hneR.out hT.out);replace hF:=hi_ (hF.out.trans hF2);replace hP:=hi_ hP2;replace p0:=hP.out.p0;replace q0:=hP.out.q0;obtain⟨z0,z1,z2,z3,z4,v0,v1,v2,v3,v4⟩:=hT.out.b5;clear hP2 hF2)
 generalize hWf:World.setCell _ _ _=Wf;replace hWf:=hWf.symm;obtain⟨hb,hg⟩:=aD hT.out hWf;obtain⟨u0,u1,u2,u3,u4,-⟩:=hb.b5;have hPf:=hi_ (hP.out.grownL hg (by omega) (by omega) (by omega) (fun h0 x hx=>by have:=hAT.out h0 x hx;omega));have hFf:=hi_ (hF.out.grownL hg (Nat.le_refl _));replace hg:=hi_ hg;replace hWf:=hi_ hWf;clear hb z0 z1 z2 z3 z4 v0 v1 v2 v3 v4;refine bodyPost_ret (by simp[results,Tryz.results64,go_sem,u0,u1,u2,u3,u4];try rfl) rfl ?_;rw[hres.out];exact⟨by decide,rfl,hPf.out,hFf.out⟩
theorem p9 (ht:ar r=.ok k u) (hk:k.k=1) (W:World) (h:PS P L R A c bs d pl W r):Calls Tryz.prog 64 #[.pointer (some ⟨P,0,none⟩),.int .i64 (dd:Nat)] W (dT P L R A c bs d pl W (valS pl dd r)):=by
 have hres:=hi_ (show valS pl dd r=.ok (.mk (au pl k.n u).1 k.n [] [] []) (au pl k.n u).2 from by unfold valS;rw[ht];simp only[];rw[if_neg (by rw[hk];decide),if_pos hk,rK]);obtain⟨K,hK⟩:∃K,K=valS pl dd r:=⟨_,rfl⟩;rw[←hK];rw[←hK]at hres;replace hK:=hi_ hK;obtain⟨W1,hW1,b1,hT⟩:=ak W 32 #[.int .i64 0,.int .i64 0,.slice none 0 0,.slice none 0 0,.slice none 0 0];have zs:W1.heap.size=W.heap.size+1:=by rw[hW1];exact World.size_alloc _ _
 have hP:=h.belowW b1;have hLT:=h.L_lt;have hRT:=h.R_lt;have hPT:=h.P_lt;have hAT:=h.a_lt;have hneL:W.heap.size≠L:=by omega
 have hneR:W.heap.size≠R:=by omega
 have hsuf:=(av false r).trans h.suf;obtain⟨at1,ha1⟩:∃a:Int,a=(pos bs (af false r):Nat):=⟨_,rfl⟩;have ct:=hi_ fun W h=>bF (P:=P) (L:=L) (R:=R) (A:=A) (c:=c) (bs:=bs) (d:=d) (pl:=pl) ht ha1 W h
 have cw:=hi_ fun W h=>pe (P:=P) (L:=L) (R:=R) (A:=A) (c:=c) (bs:=bs) (d:=d) (pl:=pl) (r:=u) (n:=k.n) W h
 have hwk:(au pl k.n u).1=2∨(au pl k.n u).1=9:=by
  unfold au
  repeat' split
  all_goals simp
 have hi:=kB ht;obtain⟨kn,hkn⟩:∃x,x=k.n:=⟨_,rfl⟩;rw[←hkn]at ct hi cw hwk;have hres:=hres.out;rw[←hkn]at hres;replace hkn:=hi_ hkn;replace hi:=hi_ hi;generalize au pl kn u=wk at *;obtain⟨wk1,wk2⟩:=wk;simp only[]at cw hres hwk;replace hres:=hi_ hres;replace hwk:=hi_ hwk;obtain⟨kk,hkk⟩:∃x,x=k.k:=⟨_,rfl⟩;rw[←hkk]at ct hk;replace hkk:=hi_ hkk;subst hk;have p0:=hP.p0;have q0:=hP.q0;have hF:=hi_ (Fr.of_below (L:=L) (R:=R) b1);refine h9_ ha1 hsuf hP hT b1 zs hneL hneR hAT ?_;clear ha1 hsuf hP hT b1 zs hneL hneR hAT;intro ha1 hsuf hP hT b1 zs hneL hneR hAT;clear h;go_enter Tryz.func64,Tryz.ntmps64;go_upto_region 1 with fail
 rw[←hW1];replace hW1:=hi_ hW1;go_upto_region 2 with (first|(go_at_call 82;(with_reducible refine (ct.out _ hP.out).mono ?_);rintro e w4 ⟨a2,c2,rfl,hO,hP2,hF2⟩;replace hT:=hi_ (hF2.blk hneL.out hneR.out hT.out);replace hF:=hi_ (hF.out.trans hF2);replace hP:=hi_ hP2;replace p0:=hP.out.p0;replace q0:=hP.out.q0;replace hO:=hi_ hO;clear hP2 hF2))
 obtain⟨W5,hW5,b5,hU5⟩:=ak w4 108 #[.int .i64 1,.int .i64 at1,.int .i64 kn,.slice a2 k.b.length c2];rw[←hW5];replace hT:=hi_ (hT.out.below b5 hT.out.lt);replace hP:=hi_ (hP.out.belowW b5);replace hF:=hi_ (hF.out.trans (Fr.of_below (L:=L) (R:=R) b5));replace p0:=hP.out.p0;replace q0:=hP.out.q0;obtain⟨t0,t1,t2,t3,-⟩:=hU5.b4;replace hO:=hi_ (hO.out.below b5);refine h3_ hU5 b5 hW5 ?_;clear hU5 b5 hW5;intro hU5 b5 hW5;go_wp2_with (go_at_call 89;(with_reducible refine (cw.out _ hP.out).mono ?_);rintro e w6 ⟨rfl,hP2,hF2⟩;replace hT:=hi_ (hF2.blk hneL.out hneR.out hT.out);replace hF:=hi_ (hF.out.trans hF2);replace hP:=hi_ hP2;replace p0:=hP.out.p0;replace q0:=hP.out.q0;obtain⟨z0,z1,z2,z3,z4,v0,v1,v2,v3,v4⟩:=hT.out.b5;clear hP2 hF2)
 generalize hWf:World.setCell _ _ _=Wf;replace hWf:=hWf.symm;obtain⟨hb,hg⟩:=aD hT.out hWf;obtain⟨u0,u1,u2,u3,u4,-⟩:=hb.b5;have hPf:=hi_ (hP.out.grownL hg (by omega) (by omega) (by omega) (fun h0 x hx=>by have:=hAT.out h0 x hx;omega));have hFf:=hi_ (hF.out.grownL hg (Nat.le_refl _));replace hg:=hi_ hg;replace hWf:=hi_ hWf;clear hb z0 z1 z2 z3 z4 v0 v1 v2 v3 v4;refine bodyPost_ret (by simp[results,Tryz.results64,go_sem,u0,u1,u2,u3,u4];try rfl) rfl ?_;rw[hres.out];exact⟨_,rfl,lb wk1 kn (by have:=hwk.out;omega) (by have:=hwk.out;omega) hi.out,hPf.out,hFf.out⟩
theorem rG (ht:ar r=.ok k u) (hk:k.k=2) (W:World) (h:PS P L R A c bs d pl W r):Calls Tryz.prog 64 #[.pointer (some ⟨P,0,none⟩),.int .i64 (dd:Nat)] W (dT P L R A c bs d pl W (valS pl dd r)):=by
 have hres:=hi_ (show valS pl dd r=.ok (.mk 3 k.n [] [] []) u from by unfold valS;rw[ht];simp only[];simp[hk]);obtain⟨K,hK⟩:∃K,K=valS pl dd r:=⟨_,rfl⟩;rw[←hK];rw[←hK]at hres;replace hK:=hi_ hK;obtain⟨W1,hW1,b1,hT⟩:=ak W 32 #[.int .i64 0,.int .i64 0,.slice none 0 0,.slice none 0 0,.slice none 0 0];have zs:W1.heap.size=W.heap.size+1:=by rw[hW1];exact World.size_alloc _ _
 have hP:=h.belowW b1;have hLT:=h.L_lt;have hRT:=h.R_lt;have hPT:=h.P_lt;have hAT:=h.a_lt;have hneL:W.heap.size≠L:=by omega
 have hneR:W.heap.size≠R:=by omega
 have hsuf:=(av false r).trans h.suf;obtain⟨at1,ha1⟩:∃a:Int,a=(pos bs (af false r):Nat):=⟨_,rfl⟩;have ct:=hi_ fun W h=>bF (P:=P) (L:=L) (R:=R) (A:=A) (c:=c) (bs:=bs) (d:=d) (pl:=pl) ht ha1 W h
 have hi:=kB ht;obtain⟨kn,hkn⟩:∃x,x=k.n:=⟨_,rfl⟩;rw[←hkn]at ct hi;have hres:=hres.out;rw[←hkn]at hres;refine h3_ hres hkn hi ?_;clear hres hkn hi;intro hres hkn hi;obtain⟨kk,hkk⟩:∃x,x=k.k:=⟨_,rfl⟩;rw[←hkk]at ct hk;replace hkk:=hi_ hkk;subst hk;have p0:=hP.p0;have q0:=hP.q0;have hF:=hi_ (Fr.of_below (L:=L) (R:=R) b1);refine h9_ ha1 hsuf hP hT b1 zs hneL hneR hAT ?_;clear ha1 hsuf hP hT b1 zs hneL hneR hAT;intro ha1 hsuf hP hT b1 zs hneL hneR hAT;clear h;go_enter Tryz.func64,Tryz.ntmps64;go_upto_region 1 with fail
 rw[←hW1];replace hW1:=hi_ hW1;go_upto_region 2 with (first|(go_at_call 82;(with_reducible refine (ct.out _ hP.out).mono ?_);rintro e w4 ⟨a2,c2,rfl,hO,hP2,hF2⟩;replace hT:=hi_ (hF2.blk hneL.out hneR.out hT.out);replace hF:=hi_ (hF.out.trans hF2);replace hP:=hi_ hP2;replace p0:=hP.out.p0;replace q0:=hP.out.q0;replace hO:=hi_ hO;clear hP2 hF2))
 obtain⟨W5,hW5,b5,hU5⟩:=ak w4 108 #[.int .i64 2,.int .i64 at1,.int .i64 kn,.slice a2 k.b.length c2];rw[←hW5];replace hT:=hi_ (hT.out.below b5 hT.out.lt);replace hP:=hi_ (hP.out.belowW b5);replace hF:=hi_ (hF.out.trans (Fr.of_below (L:=L) (R:=R) b5));replace p0:=hP.out.p0;replace q0:=hP.out.q0;obtain⟨t0,t1,t2,t3,-⟩:=hU5.b4;replace hO:=hi_ (hO.out.below b5);refine h3_ hU5 b5 hW5 ?_;clear hU5 b5 hW5;intro hU5 b5 hW5;go_wp2_with (go_at_call 90;(with_reducible refine (nY kn _).mono ?_);rintro e w6 ⟨rfl,hB6⟩;have hF2:=Fr.of_below (L:=L) (R:=R) hB6;have hP2:=hP.out.belowW hB6;replace hT:=hi_ (hF2.blk hneL.out hneR.out hT.out);replace hF:=hi_ (hF.out.trans hF2);replace hP:=hi_ hP2;replace p0:=hP.out.p0;replace q0:=hP.out.q0;obtain⟨z0,z1,z2,z3,z4,v0,v1,v2,v3,v4⟩:=hT.out.b5;clear hP2 hF2 hB6)
 generalize hWf:World.setCell _ _ _=Wf;replace hWf:=hWf.symm;obtain⟨hb,hg⟩:=aD hT.out hWf;obtain⟨u0,u1,u2,u3,u4,-⟩:=hb.b5;have hPf:=hi_ (hP.out.grownL hg (by omega) (by omega) (by omega) (fun h0 x hx=>by have:=hAT.out h0 x hx;omega));have hFf:=hi_ (hF.out.grownL hg (Nat.le_refl _));replace hg:=hi_ hg;replace hWf:=hi_ hWf;clear hb z0 z1 z2 z3 z4 v0 v1 v2 v3 v4;refine bodyPost_ret (by simp[results,Tryz.results64,go_sem,u0,u1,u2,u3,u4];try rfl) rfl ?_;rw[hres.out];exact⟨_,rfl,lb 3 kn (by decide) (by decide) hi.out,hPf.out,hFf.out⟩
theorem ti (ht:ar r=.ok k u) (hk:k.k=3) (W:World) (h:PS P L R A c bs d pl W r):Calls Tryz.prog 64 #[.pointer (some ⟨P,0,none⟩),.int .i64 (dd:Nat)] W (dT P L R A c bs d pl W (valS pl dd r)):=by
 have hres:=hi_ (show valS pl dd r=.ok (.mk 4 0 k.b [] []) u from by unfold valS;rw[ht];simp only[];simp[hk]);obtain⟨K,hK⟩:∃K,K=valS pl dd r:=⟨_,rfl⟩;rw[←hK];rw[←hK]at hres;replace hK:=hi_ hK;obtain⟨W1,hW1,b1,hT⟩:=ak W 32 #[.int .i64 0,.int .i64 0,.slice none 0 0,.slice none 0 0,.slice none 0 0];have zs:W1.heap.size=W.heap.size+1:=by rw[hW1];exact World.size_alloc _ _
 have hP:=h.belowW b1;have hLT:=h.L_lt;have hRT:=h.R_lt;have hPT:=h.P_lt;have hAT:=h.a_lt;have hneL:W.heap.size≠L:=by omega
 have hneR:W.heap.size≠R:=by omega
 have hsuf:=(av false r).trans h.suf;obtain⟨at1,ha1⟩:∃a:Int,a=(pos bs (af false r):Nat):=⟨_,rfl⟩;have ct:=hi_ fun W h=>bF (P:=P) (L:=L) (R:=R) (A:=A) (c:=c) (bs:=bs) (d:=d) (pl:=pl) ht ha1 W h
 have hbl:k.b.length≤1000000000:=by
  have h1:=bY ht;have h2:=aB h.suf;have h3:=h.small;unfold cM at h1;rw[hk]at h1;simp at h1;omega
 replace hbl:=hi_ hbl;obtain⟨kk,hkk⟩:∃x,x=k.k:=⟨_,rfl⟩;rw[←hkk]at ct hk;replace hkk:=hi_ hkk;subst hk;have p0:=hP.p0;have q0:=hP.q0;have hF:=hi_ (Fr.of_below (L:=L) (R:=R) b1);refine h9_ ha1 hsuf hP hT b1 zs hneL hneR hAT ?_;clear ha1 hsuf hP hT b1 zs hneL hneR hAT;intro ha1 hsuf hP hT b1 zs hneL hneR hAT;clear h;go_enter Tryz.func64,Tryz.ntmps64;go_upto_region 1 with fail
 rw[←hW1];replace hW1:=hi_ hW1;go_upto_region 2 with (first|(go_at_call 82;(with_reducible refine (ct.out _ hP.out).mono ?_);rintro e w4 ⟨a2,c2,rfl,hO,hP2,hF2⟩;replace hT:=hi_ (hF2.blk hneL.out hneR.out hT.out);replace hF:=hi_ (hF.out.trans hF2);replace hP:=hi_ hP2;replace p0:=hP.out.p0;replace q0:=hP.out.q0;replace hO:=hi_ hO;clear hP2 hF2))
 obtain⟨W5,hW5,b5,hU5⟩:=ak w4 108 #[.int .i64 3,.int .i64 at1,.int .i64 k.n,.slice a2 k.b.length c2];rw[←hW5];replace hT:=hi_ (hT.out.below b5 hT.out.lt);replace hP:=hi_ (hP.out.belowW b5);replace hF:=hi_ (hF.out.trans (Fr.of_below (L:=L) (R:=R) b5));replace p0:=hP.out.p0;replace q0:=hP.out.q0;obtain⟨t0,t1,t2,t3,-⟩:=hU5.b4;replace hO:=hi_ (hO.out.below b5);refine h3_ hU5 b5 hW5 ?_;clear hU5 b5 hW5;intro hU5 b5 hW5;go_wp2_with (go_at_call 91;(with_reducible refine (qo _ hO.out hbl.out).mono ?_);rintro e w6 ⟨a3,m3,c3,rfl,hO6,hB6⟩;have hO7:=hi_ (hO6.base (B:=W.heap.size) hF.out.size);have hF2:=Fr.of_below (L:=L) (R:=R) hB6;have hP2:=hP.out.belowW hB6;replace hT:=hi_ (hF2.blk hneL.out hneR.out hT.out);replace hF:=hi_ (hF.out.trans hF2);replace hP:=hi_ hP2;replace p0:=hP.out.p0;replace q0:=hP.out.q0;obtain⟨z0,z1,z2,z3,z4,v0,v1,v2,v3,v4⟩:=hT.out.b5;clear hP2 hF2 hB6 hO6)
 generalize hWf:World.setCell _ _ _=Wf;replace hWf:=hWf.symm;obtain⟨hb,hg⟩:=aD hT.out hWf;obtain⟨u0,u1,u2,u3,u4,-⟩:=hb.b5;have hPf:=hi_ (hP.out.grownL hg (by omega) (by omega) (by omega) (fun h0 x hx=>by have:=hAT.out h0 x hx;omega));have hFf:=hi_ (hF.out.grownL hg (Nat.le_refl _));replace hg:=hi_ hg;replace hWf:=hi_ hWf;clear hb z0 z1 z2 z3 z4 v0 v1 v2 v3 v4;refine bodyPost_ret (by simp[results,Tryz.results64,go_sem,u0,u1,u2,u3,u4];try rfl) rfl ?_;rw[hres.out];have hOf:Own W.heap.size Wf (.slice a3 m3 c3) k.b:=bj hO7.out hg.out (fun g hg e=>hO7.out.notL hT.out (by decide) (by rw[hg];exact e));exact⟨_,rfl,nR (by decide) (by decide) hOf,hPf.out,hFf.out⟩
theorem rF (ht:ar r=.ok k u) (hk:k.k=4) (W:World) (h:PS P L R A c bs d pl W r):Calls Tryz.prog 64 #[.pointer (some ⟨P,0,none⟩),.int .i64 (dd:Nat)] W (dT P L R A c bs d pl W (valS pl dd r)):=by
 have hres:=hi_ (show valS pl dd r=.ok (.mk 5 0 k.b [] []) u from by unfold valS;rw[ht];simp only[];simp[hk]);obtain⟨K,hK⟩:∃K,K=valS pl dd r:=⟨_,rfl⟩;rw[←hK];rw[←hK]at hres;replace hK:=hi_ hK;obtain⟨W1,hW1,b1,hT⟩:=ak W 32 #[.int .i64 0,.int .i64 0,.slice none 0 0,.slice none 0 0,.slice none 0 0];have zs:W1.heap.size=W.heap.size+1:=by rw[hW1];exact World.size_alloc _ _
 have hP:=h.belowW b1;have hLT:=h.L_lt;have hRT:=h.R_lt;have hPT:=h.P_lt;have hAT:=h.a_lt;have hneL:W.heap.size≠L:=by omega
 have hneR:W.heap.size≠R:=by omega
 have hsuf:=(av false r).trans h.suf;obtain⟨at1,ha1⟩:∃a:Int,a=(pos bs (af false r):Nat):=⟨_,rfl⟩;have ct:=hi_ fun W h=>bF (P:=P) (L:=L) (R:=R) (A:=A) (c:=c) (bs:=bs) (d:=d) (pl:=pl) ht ha1 W h
 have hbl:k.b.length≤1000000000:=by
  have h1:=bY ht;have h2:=aB h.suf;have h3:=h.small;unfold cM at h1;rw[hk]at h1;simp at h1;omega
 have hml:k.b.length≤maxLen:=by unfold maxLen;omega
 have cn:=hi_ fun W=>nV hml W
 obtain⟨S,hSS⟩:∃S:ByteArray,S=⟨k.b.toArray⟩:=⟨_,rfl⟩;rw[←hSS]at cn;refine h3_ hSS hbl hml ?_;clear hSS hbl hml;intro hSS hbl hml;obtain⟨kk,hkk⟩:∃x,x=k.k:=⟨_,rfl⟩;rw[←hkk]at ct hk;replace hkk:=hi_ hkk;subst hk;have p0:=hP.p0;have q0:=hP.q0;have hF:=hi_ (Fr.of_below (L:=L) (R:=R) b1);refine h9_ ha1 hsuf hP hT b1 zs hneL hneR hAT ?_;clear ha1 hsuf hP hT b1 zs hneL hneR hAT;intro ha1 hsuf hP hT b1 zs hneL hneR hAT;clear h;go_enter Tryz.func64,Tryz.ntmps64;go_upto_region 1 with fail
 rw[←hW1];replace hW1:=hi_ hW1;go_upto_region 2 with (first|(go_at_call 82;(with_reducible refine (ct.out _ hP.out).mono ?_);rintro e w4 ⟨a2,c2,rfl,hO,hP2,hF2⟩;replace hT:=hi_ (hF2.blk hneL.out hneR.out hT.out);replace hF:=hi_ (hF.out.trans hF2);replace hP:=hi_ hP2;replace p0:=hP.out.p0;replace q0:=hP.out.q0;replace hO:=hi_ hO;clear hP2 hF2))
 obtain⟨W5,hW5,b5,hU5⟩:=ak w4 108 #[.int .i64 4,.int .i64 at1,.int .i64 k.n,.slice a2 k.b.length c2];rw[←hW5];replace hT:=hi_ (hT.out.below b5 hT.out.lt);replace hP:=hi_ (hP.out.belowW b5);replace hF:=hi_ (hF.out.trans (Fr.of_below (L:=L) (R:=R) b5));replace p0:=hP.out.p0;replace q0:=hP.out.q0;obtain⟨t0,t1,t2,t3,-⟩:=hU5.b4;replace hO:=hi_ (hO.out.below b5);refine h3_ hU5 b5 hW5 ?_;clear hU5 b5 hW5;intro hU5 b5 hW5;have hcv:=cX hO.out;rw[←hSS.out]at hcv;have hwT:=hi_ hT.out.lt;go_wp2_with (go_at_call 92;(with_reducible refine (cn.out _).mono ?_);rintro e w6 ⟨g6,c3,rfl,hg1,hg2,hby,hcap,hB6⟩;have hg1':=hi_ hg1;replace hg2:=hi_ hg2;replace hby:=hi_ hby;replace hcap:=hi_ hcap;clear hg1;have hF2:=Fr.of_below (L:=L) (R:=R) hB6;have hP2:=hP.out.belowW hB6;replace hT:=hi_ (hF2.blk hneL.out hneR.out hT.out);replace hF:=hi_ (hF.out.trans hF2);replace hP:=hi_ hP2;replace p0:=hP.out.p0;replace q0:=hP.out.q0;obtain⟨z0,z1,z2,z3,z4,v0,v1,v2,v3,v4⟩:=hT.out.b5;clear hP2 hF2 hB6)
 generalize hWf:World.setCell _ _ _=Wf;replace hWf:=hWf.symm;obtain⟨hb,hg⟩:=aD hT.out hWf;obtain⟨u0,u1,u2,u3,u4,-⟩:=hb.b5;have hPf:=hi_ (hP.out.grownL hg (by omega) (by omega) (by omega) (fun h0 x hx=>by have:=hAT.out h0 x hx;omega));have hFf:=hi_ (hF.out.grownL hg (Nat.le_refl _));replace hg:=hi_ hg;replace hWf:=hi_ hWf;clear hb z0 z1 z2 z3 z4 v0 v1 v2 v3 v4;refine bodyPost_ret (by simp[results,Tryz.results64,go_sem,u0,u1,u2,u3,u4];try rfl) rfl ?_;rw[hres.out];have hgT:g6≠W.heap.size:=by have:=hg1'.out;have:=hwT.out;omega
 have hbf:Byt Wf (some ⟨g6,0,none⟩) k.b:=by
  refine⟨hby.out.1,fun h0=>?_⟩;obtain⟨g2,o2,e,hc2⟩:=hby.out.2 h0;refine⟨g2,o2,e,fun i hi=>?_⟩;injection e with e;injection e with e1 e2;subst e1 e2;exact (World.cell?_of_block (a:=⟨g6,0+i,none⟩) (hg.out.block _ hg2.out (by intro e;injection e with e;exact hgT e))).trans (hc2 i hi)
 exact⟨_,rfl,tG (by decide) (by decide) (by have:=hg1'.out;have:=hwT.out;omega) (Nat.lt_of_lt_of_le hg2.out hg.out.size) hbf hcap.out,hPf.out,hFf.out⟩
theorem rI (ht:ar r=.ok k u) (hk:k.k=9) (hw:(bn k.b).2.2=true) (W:World) (h:PS P L R A c bs d pl W r):Calls Tryz.prog 64 #[.pointer (some ⟨P,0,none⟩),.int .i64 (dd:Nat)] W (dT P L R A c bs d pl W (valS pl dd r)):=by
 have hres:=hi_ (show valS pl dd r=.ok (.mk (bn k.b).1 (bn k.b).2.1 [] [] []) u from by unfold valS;rw[ht];simp only[];simp[hk,qd,hw]);obtain⟨K,hK⟩:∃K,K=valS pl dd r:=⟨_,rfl⟩;rw[←hK];rw[←hK]at hres;replace hK:=hi_ hK;obtain⟨W1,hW1,b1,hT⟩:=ak W 32 #[.int .i64 0,.int .i64 0,.slice none 0 0,.slice none 0 0,.slice none 0 0];have zs:W1.heap.size=W.heap.size+1:=by rw[hW1];exact World.size_alloc _ _
 have hP:=h.belowW b1;have hLT:=h.L_lt;have hRT:=h.R_lt;have hPT:=h.P_lt;have hAT:=h.a_lt;have hneL:W.heap.size≠L:=by omega
 have hneR:W.heap.size≠R:=by omega
 have hsuf:=(av false r).trans h.suf;obtain⟨at1,ha1⟩:∃a:Int,a=(pos bs (af false r):Nat):=⟨_,rfl⟩;have ct:=hi_ fun W h=>bF (P:=P) (L:=L) (R:=R) (A:=A) (c:=c) (bs:=bs) (d:=d) (pl:=pl) ht ha1 W h
 have cw:=hi_ fun W=>ml k.b W
 have hwr:(0:Int)≤(bn k.b).1∧(bn k.b).1≤1∧(0:Int)≤(bn k.b).2.1∧(bn k.b).2.1≤1:=by
  unfold bn
  repeat' split
  all_goals simp
 obtain⟨S,hSS⟩:∃S:ByteArray,S=⟨k.b.toArray⟩:=⟨_,rfl⟩;rw[←hSS]at cw;replace hSS:=hi_ hSS;have hres:=hres.out;obtain⟨Q,hQ⟩:∃Q,Q=bn k.b:=⟨_,rfl⟩;rw[←hQ]at cw hwr hres;rw[←hQ]at hw;replace hQ:=hi_ hQ;obtain⟨wk,wn,wb⟩:=Q;simp only[]at cw hwr hres hw;subst hw;replace hres:=hi_ hres;replace hwr:=hi_ hwr;obtain⟨kk,hkk⟩:∃x,x=k.k:=⟨_,rfl⟩;rw[←hkk]at ct hk;replace hkk:=hi_ hkk;subst hk;have p0:=hP.p0;have q0:=hP.q0;have hF:=hi_ (Fr.of_below (L:=L) (R:=R) b1);refine h9_ ha1 hsuf hP hT b1 zs hneL hneR hAT ?_;clear ha1 hsuf hP hT b1 zs hneL hneR hAT;intro ha1 hsuf hP hT b1 zs hneL hneR hAT;clear h;go_enter Tryz.func64,Tryz.ntmps64;go_upto_region 1 with fail
 rw[←hW1];replace hW1:=hi_ hW1;go_upto_region 2 with (first|(go_at_call 82;(with_reducible refine (ct.out _ hP.out).mono ?_);rintro e w4 ⟨a2,c2,rfl,hO,hP2,hF2⟩;replace hT:=hi_ (hF2.blk hneL.out hneR.out hT.out);replace hF:=hi_ (hF.out.trans hF2);replace hP:=hi_ hP2;replace p0:=hP.out.p0;replace q0:=hP.out.q0;replace hO:=hi_ hO;clear hP2 hF2))
 obtain⟨W5,hW5,b5,hU5⟩:=ak w4 108 #[.int .i64 9,.int .i64 at1,.int .i64 k.n,.slice a2 k.b.length c2];rw[←hW5];replace hT:=hi_ (hT.out.below b5 hT.out.lt);replace hP:=hi_ (hP.out.belowW b5);replace hF:=hi_ (hF.out.trans (Fr.of_below (L:=L) (R:=R) b5));replace p0:=hP.out.p0;replace q0:=hP.out.q0;obtain⟨t0,t1,t2,t3,-⟩:=hU5.b4;replace hO:=hi_ (hO.out.below b5);refine h3_ hU5 b5 hW5 ?_;clear hU5 b5 hW5;intro hU5 b5 hW5;have hcv:=cX hO.out;rw[←hSS.out]at hcv;go_upto_region 17 with (first|(go_at_call 93;(with_reducible refine (cw.out _).mono ?_);rintro e w6 ⟨rfl,hB6⟩;have hF2:=Fr.of_below (L:=L) (R:=R) hB6;have hP2:=hP.out.belowW hB6;replace hT:=hi_ (hF2.blk hneL.out hneR.out hT.out);replace hF:=hi_ (hF.out.trans hF2);replace hP:=hi_ hP2;replace p0:=hP.out.p0;replace q0:=hP.out.q0;have hB7:=hi_ hB6;clear hP2 hF2 hB6))
 obtain⟨W8,hW8,b8,hX8⟩:=ak w6 32 #[.int .i64 wk,.int .i64 wn,.slice none 0 0,.slice none 0 0,.slice none 0 0];rw[←hW8];obtain⟨x0,x1,x2,x3,x4,-⟩:=hX8.b5;have hUx:=hU5;replace hT:=hi_ (hT.out.below b8 hT.out.lt);replace hP:=hi_ (hP.out.belowW b8);replace hF:=hi_ (hF.out.trans (Fr.of_below (L:=L) (R:=R) b8));replace p0:=hP.out.p0;replace q0:=hP.out.q0;replace hU5:=hi_ ((hU5.out.below hB7.out hU5.out.lt).below b8 (hU5.out.below hB7.out hU5.out.lt).lt);replace t1:=hU5.out.cell 1;refine h3_ hX8 b8 hW8 ?_;clear hX8 b8 hW8;intro hX8 b8 hW8;obtain⟨z0,z1,z2,z3,z4,v0,v1,v2,v3,v4⟩:=hT.out.b5;go_wp2
 generalize hWf:World.setCell _ _ _=Wf;replace hWf:=hWf.symm;obtain⟨hb,hg⟩:=aD hT.out hWf;obtain⟨u0,u1,u2,u3,u4,-⟩:=hb.b5;have hPf:=hi_ (hP.out.grownL hg (by omega) (by omega) (by omega) (fun h0 x hx=>by have:=hAT.out h0 x hx;omega));have hFf:=hi_ (hF.out.grownL hg (Nat.le_refl _));replace hg:=hi_ hg;replace hWf:=hi_ hWf;clear hb z0 z1 z2 z3 z4 v0 v1 v2 v3 v4;refine bodyPost_ret (by simp[results,Tryz.results64,go_sem,u0,u1,u2,u3,u4];try rfl) rfl ?_;rw[hres.out];exact⟨_,rfl,lb wk wn (by have:=hwr.out;omega) (by have:=hwr.out;omega) (by have:=hwr.out;omega),hPf.out,hFf.out⟩
theorem nw (ht:ar r=.ok k u) (hk:k.k=9) (hw:(bn k.b).2.2=false) (W:World) (h:PS P L R A c bs d pl W r):Calls Tryz.prog 64 #[.pointer (some ⟨P,0,none⟩),.int .i64 (dd:Nat)] W (dT P L R A c bs d pl W (valS pl dd r)):=by
 have hres:=hi_ (show valS pl dd r=.err 4 (af false r) from by unfold valS;rw[ht];simp only[];simp[hk,qd,hw]);obtain⟨K,hK⟩:∃K,K=valS pl dd r:=⟨_,rfl⟩;rw[←hK];rw[←hK]at hres;replace hK:=hi_ hK;obtain⟨W1,hW1,b1,hT⟩:=ak W 32 #[.int .i64 0,.int .i64 0,.slice none 0 0,.slice none 0 0,.slice none 0 0];have zs:W1.heap.size=W.heap.size+1:=by rw[hW1];exact World.size_alloc _ _
 have hP:=h.belowW b1;have hLT:=h.L_lt;have hRT:=h.R_lt;have hPT:=h.P_lt;have hAT:=h.a_lt;have hneL:W.heap.size≠L:=by omega
 have hneR:W.heap.size≠R:=by omega
 have hsuf:=(av false r).trans h.suf;obtain⟨at1,ha1⟩:∃a:Int,a=(pos bs (af false r):Nat):=⟨_,rfl⟩;have ct:=hi_ fun W h=>bF (P:=P) (L:=L) (R:=R) (A:=A) (c:=c) (bs:=bs) (d:=d) (pl:=pl) ht ha1 W h
 have cs:=hi_ fun (r2:Bs) W h=>dB (P:=P) (L:=L) (R:=R) (A:=A) (c:=c) (bs:=bs) (d:=d) (pl:=pl) (r:=r2) hsuf ha1 4 W h
 have cw:=hi_ fun W=>ml k.b W
 have hwr:(0:Int)≤(bn k.b).1∧(bn k.b).1≤1∧(0:Int)≤(bn k.b).2.1∧(bn k.b).2.1≤1:=by
  unfold bn
  repeat' split
  all_goals simp
 obtain⟨S,hSS⟩:∃S:ByteArray,S=⟨k.b.toArray⟩:=⟨_,rfl⟩;rw[←hSS]at cw;replace hSS:=hi_ hSS;have hres:=hres.out;obtain⟨Q,hQ⟩:∃Q,Q=bn k.b:=⟨_,rfl⟩;rw[←hQ]at cw hwr;rw[←hQ]at hw;replace hQ:=hi_ hQ;obtain⟨wk,wn,wb⟩:=Q;simp only[]at cw hwr hw;subst hw;replace hres:=hi_ hres;replace hwr:=hi_ hwr;obtain⟨kk,hkk⟩:∃x,x=k.k:=⟨_,rfl⟩;rw[←hkk]at ct hk;replace hkk:=hi_ hkk;subst hk;have p0:=hP.p0;have q0:=hP.q0;have hF:=hi_ (Fr.of_below (L:=L) (R:=R) b1);refine h9_ ha1 hsuf hP hT b1 zs hneL hneR hAT ?_;clear ha1 hsuf hP hT b1 zs hneL hneR hAT;intro ha1 hsuf hP hT b1 zs hneL hneR hAT;clear h;go_enter Tryz.func64,Tryz.ntmps64;go_upto_region 1 with fail
 rw[←hW1];replace hW1:=hi_ hW1;go_upto_region 2 with (first|(go_at_call 82;(with_reducible refine (ct.out _ hP.out).mono ?_);rintro e w4 ⟨a2,c2,rfl,hO,hP2,hF2⟩;replace hT:=hi_ (hF2.blk hneL.out hneR.out hT.out);replace hF:=hi_ (hF.out.trans hF2);replace hP:=hi_ hP2;replace p0:=hP.out.p0;replace q0:=hP.out.q0;replace hO:=hi_ hO;clear hP2 hF2))
 obtain⟨W5,hW5,b5,hU5⟩:=ak w4 108 #[.int .i64 9,.int .i64 at1,.int .i64 k.n,.slice a2 k.b.length c2];rw[←hW5];replace hT:=hi_ (hT.out.below b5 hT.out.lt);replace hP:=hi_ (hP.out.belowW b5);replace hF:=hi_ (hF.out.trans (Fr.of_below (L:=L) (R:=R) b5));replace p0:=hP.out.p0;replace q0:=hP.out.q0;obtain⟨t0,t1,t2,t3,-⟩:=hU5.b4;replace hO:=hi_ (hO.out.below b5);refine h3_ hU5 b5 hW5 ?_;clear hU5 b5 hW5;intro hU5 b5 hW5;have hcv:=cX hO.out;rw[←hSS.out]at hcv;go_upto_region 17 with (first|(go_at_call 93;(with_reducible refine (cw.out _).mono ?_);rintro e w6 ⟨rfl,hB6⟩;have hF2:=Fr.of_below (L:=L) (R:=R) hB6;have hP2:=hP.out.belowW hB6;replace hT:=hi_ (hF2.blk hneL.out hneR.out hT.out);replace hF:=hi_ (hF.out.trans hF2);replace hP:=hi_ hP2;replace p0:=hP.out.p0;replace q0:=hP.out.q0;have hB7:=hi_ hB6;clear hP2 hF2 hB6))
 obtain⟨W8,hW8,b8,hX8⟩:=ak w6 32 #[.int .i64 wk,.int .i64 wn,.slice none 0 0,.slice none 0 0,.slice none 0 0];rw[←hW8];obtain⟨x0,x1,x2,x3,x4,-⟩:=hX8.b5;have hUx:=hU5;replace hT:=hi_ (hT.out.below b8 hT.out.lt);replace hP:=hi_ (hP.out.belowW b8);replace hF:=hi_ (hF.out.trans (Fr.of_below (L:=L) (R:=R) b8));replace p0:=hP.out.p0;replace q0:=hP.out.q0;replace hU5:=hi_ ((hU5.out.below hB7.out hU5.out.lt).below b8 (hU5.out.below hB7.out hU5.out.lt).lt);replace t1:=hU5.out.cell 1;refine h3_ hX8 b8 hW8 ?_;clear hX8 b8 hW8;intro hX8 b8 hW8;go_wp2_with (go_at_call 83;(with_reducible refine (cs.out _ _ hP.out).mono ?_);rintro e w6 ⟨rfl,hP2,hF2⟩;replace hT:=hi_ (hF2.blk hneL.out hneR.out hT.out);replace hF:=hi_ (hF.out.trans hF2);replace hP:=hi_ hP2;replace p0:=hP.out.p0;replace q0:=hP.out.q0;obtain⟨z0,z1,z2,z3,z4,v0,v1,v2,v3,v4⟩:=hT.out.b5;clear hP2 hF2)
 generalize hWf:World.setCell _ _ _=Wf;replace hWf:=hWf.symm;obtain⟨hb,hg⟩:=aD hT.out hWf;obtain⟨u0,u1,u2,u3,u4,-⟩:=hb.b5;have hPf:=hi_ (hP.out.grownL hg (by omega) (by omega) (by omega) (fun h0 x hx=>by have:=hAT.out h0 x hx;omega));have hFf:=hi_ (hF.out.grownL hg (Nat.le_refl _));replace hg:=hi_ hg;replace hWf:=hi_ hWf;clear hb z0 z1 z2 z3 z4 v0 v1 v2 v3 v4;refine bodyPost_ret (by simp[results,Tryz.results64,go_sem,u0,u1,u2,u3,u4];try rfl) rfl ?_;rw[hres.out];exact⟨by decide,rfl,hPf.out,hFf.out⟩
theorem te {dd':Nat}(hdd:dd'≤1000) (hin:∀W,PS P L R A c bs d pl W u→Calls Tryz.prog 94 #[.pointer (some ⟨P,0,none⟩),.int .i64 (dd':Nat)] W (dT P L R A c bs d pl W (match dj (valS pl dd') (u.length+1) [] u with| .ok l v=>.ok (.mk 6 0 [] l []) v| .err e v=>.err e v))) (ht:ar r=.ok k u) (hk:k.k=5) (W:World) (h:PS P L R A c bs d pl W r):Calls Tryz.prog 64 #[.pointer (some ⟨P,0,none⟩),.int .i64 ((dd'+1:Nat))] W (dT P L R A c bs d pl W (valS pl (dd'+1) r)):=by
 have hres:=hi_ (show valS pl (dd'+1) r=match dj (valS pl dd') (u.length+1) [] u with| .ok l v=>.ok (.mk 6 0 [] l []) v| .err e v=>.err e v from by unfold valS;rw[ht];simp only[];simp[hk];cases dj (valS pl dd') (u.length+1) [] u <;> rfl);obtain⟨K,hK⟩:∃K,K=valS pl (dd'+1) r:=⟨_,rfl⟩;rw[←hK];rw[←hK]at hres;replace hK:=hi_ hK;obtain⟨W1,hW1,b1,hT⟩:=ak W 32 #[.int .i64 0,.int .i64 0,.slice none 0 0,.slice none 0 0,.slice none 0 0];have zs:W1.heap.size=W.heap.size+1:=by rw[hW1];exact World.size_alloc _ _
 have hP:=h.belowW b1;have hLT:=h.L_lt;have hRT:=h.R_lt;have hPT:=h.P_lt;have hAT:=h.a_lt;have hneL:W.heap.size≠L:=by omega
 have hneR:W.heap.size≠R:=by omega
 have hsuf:=(av false r).trans h.suf;obtain⟨at1,ha1⟩:∃a:Int,a=(pos bs (af false r):Nat):=⟨_,rfl⟩;have ct:=hi_ fun W h=>bF (P:=P) (L:=L) (R:=R) (A:=A) (c:=c) (bs:=bs) (d:=d) (pl:=pl) ht ha1 W h
 have hD0:(((dd'+1:Nat):Int) == 0)=false:=by rw[beq_eq_false_iff_ne];omega
 have hDw:IntKind.i64.wrap (((dd'+1:Nat):Int) - 1)=(dd':Int):=by rw[IntWalk.i64_in _ (by omega)];omega
 have ca:=hi_ fun W h=>hin W h
 obtain⟨D,hD⟩:=aT (((dd'+1:Nat):Int));rw[←hD.out]at hD0 hDw⊢;have hres:=hres.out;obtain⟨RR,hRR⟩:∃RR:Res Ob,RR=(match dj (valS pl dd') (u.length+1) [] u with| .ok l v=>.ok (.mk 6 0 [] l []) v| .err e v=>.err e v)
 ·exact⟨_,rfl⟩
 rw[←hRR]at ca hres;replace hRR:=hi_ hRR;replace hres:=hi_ hres;obtain⟨kk,hkk⟩:∃x,x=k.k:=⟨_,rfl⟩;rw[←hkk]at ct hk;replace hkk:=hi_ hkk;subst hk;have p0:=hP.p0;have q0:=hP.q0;have hF:=hi_ (Fr.of_below (L:=L) (R:=R) b1);refine h9_ ha1 hsuf hP hT b1 zs hneL hneR hAT ?_;clear ha1 hsuf hP hT b1 zs hneL hneR hAT;intro ha1 hsuf hP hT b1 zs hneL hneR hAT;clear h;go_enter Tryz.func64,Tryz.ntmps64;go_upto_region 1 with fail
 rw[←hW1];replace hW1:=hi_ hW1;go_upto_region 2 with (first|(go_at_call 82;(with_reducible refine (ct.out _ hP.out).mono ?_);rintro e w4 ⟨a2,c2,rfl,hO,hP2,hF2⟩;replace hT:=hi_ (hF2.blk hneL.out hneR.out hT.out);replace hF:=hi_ (hF.out.trans hF2);replace hP:=hi_ hP2;replace p0:=hP.out.p0;replace q0:=hP.out.q0;replace hO:=hi_ hO;clear hP2 hF2))
 obtain⟨W5,hW5,b5,hU5⟩:=ak w4 108 #[.int .i64 5,.int .i64 at1,.int .i64 k.n,.slice a2 k.b.length c2];rw[←hW5];replace hT:=hi_ (hT.out.below b5 hT.out.lt);replace hP:=hi_ (hP.out.belowW b5);replace hF:=hi_ (hF.out.trans (Fr.of_below (L:=L) (R:=R) b5));replace p0:=hP.out.p0;replace q0:=hP.out.q0;obtain⟨t0,t1,t2,t3,-⟩:=hU5.b4;replace hO:=hi_ (hO.out.below b5);refine h3_ hU5 b5 hW5 ?_;clear hU5 b5 hW5;intro hU5 b5 hW5;cases RR with
 |err n v=>
  go_wp2_with (go_at_call 94;(with_reducible refine (ca.out _ hP.out).mono ?_);rintro e w6 ⟨hn0,rfl,hP2,hF2⟩;replace hn0:=hi_ hn0;replace hT:=hi_ (hF2.blk hneL.out hneR.out hT.out);replace hF:=hi_ (hF.out.trans hF2);replace hP:=hi_ hP2;replace p0:=hP.out.p0;replace q0:=hP.out.q0;obtain⟨z0,z1,z2,z3,z4,v0,v1,v2,v3,v4⟩:=hT.out.b5;clear hP2 hF2)
  generalize hWf:World.setCell _ _ _=Wf;replace hWf:=hWf.symm;obtain⟨hb,hg⟩:=aD hT.out hWf;obtain⟨u0,u1,u2,u3,u4,-⟩:=hb.b5;have hPf:=hi_ (hP.out.grownL hg (by omega) (by omega) (by omega) (fun h0 x hx=>by have:=hAT.out h0 x hx;omega));have hFf:=hi_ (hF.out.grownL hg (Nat.le_refl _));replace hg:=hi_ hg;replace hWf:=hi_ hWf;clear hb z0 z1 z2 z3 z4 v0 v1 v2 v3 v4;refine bodyPost_ret (by simp[results,Tryz.results64,go_sem,u0,u1,u2,u3,u4];try rfl) rfl ?_;rw[hres.out];exact⟨hn0.out,rfl,hPf.out,hFf.out⟩
 |ok o v=>
  go_wp2_with (go_at_call 94;(with_reducible refine (ca.out _ hP.out).mono ?_);rintro e w6 ⟨us,rfl,hI,hP2,hF2⟩;obtain⟨xk,xn,F1,F2,F3,fn1,fc1,fn2,fc2,fn3,fc3,rfl⟩:=cg hI.ob;replace hI:=hi_ hI;have hwb:=hi_ hF.out.size;have hwT:=hi_ hT.out.lt;replace hT:=hi_ (hF2.blk hneL.out hneR.out hT.out);replace hF:=hi_ (hF.out.trans hF2);replace hP:=hi_ hP2;replace p0:=hP.out.p0;replace q0:=hP.out.q0;obtain⟨z0,z1,z2,z3,z4,v0,v1,v2,v3,v4⟩:=hT.out.b5;clear hP2 hF2)
  generalize hWf:World.setCell _ _ _=Wf;replace hWf:=hWf.symm;obtain⟨hb,hg⟩:=aD hT.out hWf;obtain⟨u0,u1,u2,u3,u4,-⟩:=hb.b5;have hPf:=hi_ (hP.out.grownL hg (by omega) (by omega) (by omega) (fun h0 x hx=>by have:=hAT.out h0 x hx;omega));have hFf:=hi_ (hF.out.grownL hg (Nat.le_refl _));replace hg:=hi_ hg;replace hWf:=hi_ hWf;clear hb z0 z1 z2 z3 z4 v0 v1 v2 v3 v4;refine bodyPost_ret (by simp[results,Tryz.results64,go_sem,u0,u1,u2,u3,u4];try rfl) rfl ?_;rw[hres.out];have hIf:=(hI.out.keep (fun b hb1 hb2=>hg.out.block b (by have:=hI.out.1;omega) (by intro e;injection e with e;have:=hwT.out;omega)) (Nat.le_trans hI.out.1 hg.out.size)).wide hwb.out;have hIg:ObI W.heap.size Wf.heap.size Wf o _:=⟨Nat.le_refl _,fun w' h hz=>hIf.2 w' (fun b h1 h2=>h b h1 (Nat.lt_of_lt_of_le h2 hIf.1)) (Nat.le_trans hIf.1 hz)⟩;exact⟨_,rfl,hIg,hPf.out,hFf.out⟩
theorem tf {dd':Nat}(hdd:dd'≤1000) (hin:∀W,PS P L R A c bs d pl W u→Calls Tryz.prog 95 #[.pointer (some ⟨P,0,none⟩),.int .i64 (dd':Nat)] W (dT P L R A c bs d pl W (match bQ (valS pl dd') (u.length+1) [] [] u with| .ok l v=>.ok (.mk 7 0 [] [] l) v| .err e v=>.err e v))) (ht:ar r=.ok k u) (hk:k.k=7) (W:World) (h:PS P L R A c bs d pl W r):Calls Tryz.prog 64 #[.pointer (some ⟨P,0,none⟩),.int .i64 ((dd'+1:Nat))] W (dT P L R A c bs d pl W (valS pl (dd'+1) r)):=by
 have hres:=hi_ (show valS pl (dd'+1) r=match bQ (valS pl dd') (u.length+1) [] [] u with| .ok l v=>.ok (.mk 7 0 [] [] l) v| .err e v=>.err e v from by unfold valS;rw[ht];simp only[];simp[hk];cases bQ (valS pl dd') (u.length+1) [] [] u <;> rfl);obtain⟨K,hK⟩:∃K,K=valS pl (dd'+1) r:=⟨_,rfl⟩;rw[←hK];rw[←hK]at hres;replace hK:=hi_ hK;obtain⟨W1,hW1,b1,hT⟩:=ak W 32 #[.int .i64 0,.int .i64 0,.slice none 0 0,.slice none 0 0,.slice none 0 0];have zs:W1.heap.size=W.heap.size+1:=by rw[hW1];exact World.size_alloc _ _
 have hP:=h.belowW b1;have hLT:=h.L_lt;have hRT:=h.R_lt;have hPT:=h.P_lt;have hAT:=h.a_lt;have hneL:W.heap.size≠L:=by omega
 have hneR:W.heap.size≠R:=by omega
 have hsuf:=(av false r).trans h.suf;obtain⟨at1,ha1⟩:∃a:Int,a=(pos bs (af false r):Nat):=⟨_,rfl⟩;have ct:=hi_ fun W h=>bF (P:=P) (L:=L) (R:=R) (A:=A) (c:=c) (bs:=bs) (d:=d) (pl:=pl) ht ha1 W h
 have hD0:(((dd'+1:Nat):Int) == 0)=false:=by rw[beq_eq_false_iff_ne];omega
 have hDw:IntKind.i64.wrap (((dd'+1:Nat):Int) - 1)=(dd':Int):=by rw[IntWalk.i64_in _ (by omega)];omega
 have ca:=hi_ fun W h=>hin W h
 obtain⟨D,hD⟩:=aT (((dd'+1:Nat):Int));rw[←hD.out]at hD0 hDw⊢;have hres:=hres.out;obtain⟨RR,hRR⟩:∃RR:Res Ob,RR=(match bQ (valS pl dd') (u.length+1) [] [] u with| .ok l v=>.ok (.mk 7 0 [] [] l) v| .err e v=>.err e v)
 ·exact⟨_,rfl⟩
 rw[←hRR]at ca hres;replace hRR:=hi_ hRR;replace hres:=hi_ hres;obtain⟨kk,hkk⟩:∃x,x=k.k:=⟨_,rfl⟩;rw[←hkk]at ct hk;replace hkk:=hi_ hkk;subst hk;have p0:=hP.p0;have q0:=hP.q0;have hF:=hi_ (Fr.of_below (L:=L) (R:=R) b1);refine h9_ ha1 hsuf hP hT b1 zs hneL hneR hAT ?_;clear ha1 hsuf hP hT b1 zs hneL hneR hAT;intro ha1 hsuf hP hT b1 zs hneL hneR hAT;clear h;go_enter Tryz.func64,Tryz.ntmps64;go_upto_region 1 with fail
 rw[←hW1];replace hW1:=hi_ hW1;go_upto_region 2 with (first|(go_at_call 82;(with_reducible refine (ct.out _ hP.out).mono ?_);rintro e w4 ⟨a2,c2,rfl,hO,hP2,hF2⟩;replace hT:=hi_ (hF2.blk hneL.out hneR.out hT.out);replace hF:=hi_ (hF.out.trans hF2);replace hP:=hi_ hP2;replace p0:=hP.out.p0;replace q0:=hP.out.q0;replace hO:=hi_ hO;clear hP2 hF2))
 obtain⟨W5,hW5,b5,hU5⟩:=ak w4 108 #[.int .i64 7,.int .i64 at1,.int .i64 k.n,.slice a2 k.b.length c2];rw[←hW5];replace hT:=hi_ (hT.out.below b5 hT.out.lt);replace hP:=hi_ (hP.out.belowW b5);replace hF:=hi_ (hF.out.trans (Fr.of_below (L:=L) (R:=R) b5));replace p0:=hP.out.p0;replace q0:=hP.out.q0;obtain⟨t0,t1,t2,t3,-⟩:=hU5.b4;replace hO:=hi_ (hO.out.below b5);refine h3_ hU5 b5 hW5 ?_;clear hU5 b5 hW5;intro hU5 b5 hW5;cases RR with
 |err n v=>
  go_wp2_with (go_at_call 95;(with_reducible refine (ca.out _ hP.out).mono ?_);rintro e w6 ⟨hn0,rfl,hP2,hF2⟩;replace hn0:=hi_ hn0;replace hT:=hi_ (hF2.blk hneL.out hneR.out hT.out);replace hF:=hi_ (hF.out.trans hF2);replace hP:=hi_ hP2;replace p0:=hP.out.p0;replace q0:=hP.out.q0;obtain⟨z0,z1,z2,z3,z4,v0,v1,v2,v3,v4⟩:=hT.out.b5;clear hP2 hF2)
  generalize hWf:World.setCell _ _ _=Wf;replace hWf:=hWf.symm;obtain⟨hb,hg⟩:=aD hT.out hWf;obtain⟨u0,u1,u2,u3,u4,-⟩:=hb.b5;have hPf:=hi_ (hP.out.grownL hg (by omega) (by omega) (by omega) (fun h0 x hx=>by have:=hAT.out h0 x hx;omega));have hFf:=hi_ (hF.out.grownL hg (Nat.le_refl _));replace hg:=hi_ hg;replace hWf:=hi_ hWf;clear hb z0 z1 z2 z3 z4 v0 v1 v2 v3 v4;refine bodyPost_ret (by simp[results,Tryz.results64,go_sem,u0,u1,u2,u3,u4];try rfl) rfl ?_;rw[hres.out];exact⟨hn0.out,rfl,hPf.out,hFf.out⟩
 |ok o v=>
  go_wp2_with (go_at_call 95;(with_reducible refine (ca.out _ hP.out).mono ?_);rintro e w6 ⟨us,rfl,hI,hP2,hF2⟩;obtain⟨xk,xn,F1,F2,F3,fn1,fc1,fn2,fc2,fn3,fc3,rfl⟩:=cg hI.ob;replace hI:=hi_ hI;have hwb:=hi_ hF.out.size;have hwT:=hi_ hT.out.lt;replace hT:=hi_ (hF2.blk hneL.out hneR.out hT.out);replace hF:=hi_ (hF.out.trans hF2);replace hP:=hi_ hP2;replace p0:=hP.out.p0;replace q0:=hP.out.q0;obtain⟨z0,z1,z2,z3,z4,v0,v1,v2,v3,v4⟩:=hT.out.b5;clear hP2 hF2)
  generalize hWf:World.setCell _ _ _=Wf;replace hWf:=hWf.symm;obtain⟨hb,hg⟩:=aD hT.out hWf;obtain⟨u0,u1,u2,u3,u4,-⟩:=hb.b5;have hPf:=hi_ (hP.out.grownL hg (by omega) (by omega) (by omega) (fun h0 x hx=>by have:=hAT.out h0 x hx;omega));have hFf:=hi_ (hF.out.grownL hg (Nat.le_refl _));replace hg:=hi_ hg;replace hWf:=hi_ hWf;clear hb z0 z1 z2 z3 z4 v0 v1 v2 v3 v4;refine bodyPost_ret (by simp[results,Tryz.results64,go_sem,u0,u1,u2,u3,u4];try rfl) rfl ?_;rw[hres.out];have hIf:=(hI.out.keep (fun b hb1 hb2=>hg.out.block b (by have:=hI.out.1;omega) (by intro e;injection e with e;have:=hwT.out;omega)) (Nat.le_trans hI.out.1 hg.out.size)).wide hwb.out;have hIg:ObI W.heap.size Wf.heap.size Wf o _:=⟨Nat.le_refl _,fun w' h hz=>hIf.2 w' (fun b h1 h2=>h b h1 (Nat.lt_of_lt_of_le h2 hIf.1)) (Nat.le_trans hIf.1 hz)⟩;exact⟨_,rfl,hIg,hPf.out,hFf.out⟩
end
section
open Go Go.RowKit Go.Wk
theorem aj (w:World) (g i:Nat) (v:Value):w.grownBy (w.setCell ⟨g,i,none⟩ v) (some g):=
 ⟨rfl,rfl,rfl,by simp[World.setCell],fun k _ hk=>Below.heap_setCell _ _ _ _ (fun e=>hk (by rw[e]))⟩
theorem bJ {B:Nat}{w w':World}{v:Value}{b:List UInt8}{row:Option Nat}(h:Own B w v b) (hg:w.grownBy w' row) (hne:∀q,v.ownBlock=some q→some q≠row):Own B w' v b:=
 ⟨h.row.kept hg (by cases e:v.ownBlock with
  |none=>exact .inl rfl
  |some q=>exact .inr (hne q e))⟩
structure CpL (W2:World) (BB HS g:Nat) (k n:Int) (vB:Value) (b:List UInt8) (w:World) (vL:Value) (l:List Ob) (rl:List (List Value)):Prop where
 blk:Blk w g 32 #[.int .i64 k,.int .i64 n,vB,vL,.slice none 0 0]
 own:Own BB w vB b
 lt:∀q,vB.ownBlock=some q→q≠g∧q<HS
 row:RowG ObI 32 5 HS w vL l rl
 below:Below BB W2 w
 g1:BB≤g
 g2:g<HS
 hs:HS≤w.heap.size
theorem CpL.step {W2:World}{BB HS g:Nat}{k n:Int}{vB:Value}{b:List UInt8}{w w':World}{vL:Value}{l:List Ob}{rl:List (List Value)}(h:CpL W2 BB HS g k n vB b w vL l rl) (hb:Below w.heap.size w w'):CpL W2 BB HS g k n vB b w' vL l rl:=
 ⟨h.blk.below hb h.blk.lt,h.own.below hb,h.lt,h.row.below aQ hb,h.below.trans (hb.mono (by have:=h.g1;have:=h.g2;have:=h.hs;omega)),h.g1,h.g2,Nat.le_trans h.hs hb.size⟩
theorem CpL.apart {W2:World}{BB HS g:Nat}{k n:Int}{vB:Value}{b:List UInt8}{w:World}{vL:Value}{l:List Ob}{rl:List (List Value)}(h:CpL W2 BB HS g k n vB b w vL l rl):some g≠vL.ownBlock:=fun e=>by
 have:=(h.row.row.lt g e.symm).1;have:=h.g2;omega
theorem CpL.put {W2:World}{BB HS g:Nat}{k n:Int}{vB:Value}{b:List UInt8}{w w3:World}{vL v':Value}{l l':List Ob}{rl rl':List (List Value)}(h:CpL W2 BB HS g k n vB b w vL l rl)
 (hR:RowG ObI 32 5 HS w3 v' l' rl') (hg:w.grownBy w3 vL.ownBlock):Blk w3 g 32 #[.int .i64 k,.int .i64 n,vB,vL,.slice none 0 0]∧CpL W2 BB HS g k n vB b (w3.setCell ⟨g,3,none⟩ v') v' l' rl':=by
 have hblk:=h.blk.grown hg h.apart;have hs:=aj w3 g 3 v';have z3:=hg.size;have h1:=h.g1;have h2:=h.g2;have h3:=h.hs;have hz:(w3.setCell ⟨g,3,none⟩ v').heap.size=w3.heap.size:=by simp[World.setCell]
 refine⟨hblk,⟨hblk.set_ 3 v',?_,h.lt,?_,?_,h1,h2,by omega⟩⟩
 ·refine bJ (bJ h.own hg fun q hq e=>?_) hs fun q hq e=>?_
  ·have:=(h.row.row.lt q e.symm).1
   have:=(h.lt q hq).2;omega
  ·injection e with e
   exact (h.lt q hq).1 e
 ·exact hR.far aQ (fun b hb _=>Below.heap_setCell _ _ _ _ (by show b≠g;omega)) (by omega)
 ·refine ((h.below).grown hg (by omega) fun q hq=>?_).grown hs (by omega) fun q hq=>?_
  ·have:=(h.row.row.lt q hq).1;omega
  ·injection hq with hq;omega
structure CpD (W2:World) (BB HS HD g:Nat) (k n:Int) (vB:Value) (b:List UInt8) (vL:Value) (l:List Ob) (rl:List (List Value)) (w:World) (vD:Value) (d:List (List UInt8×Ob)) (rd:List (List Value)):Prop where
 blk:Blk w g 32 #[.int .i64 k,.int .i64 n,vB,vL,vD]
 own:Own BB w vB b
 lt:∀q,vB.ownBlock=some q→q≠g∧q<HS
 rowL:∀w':World,(∀c,HS≤c→c<HD→w'.heap[c]?=w.heap[c]?)→HD≤w'.heap.size→RowG ObI 32 5 HS w' vL l rl
 row:RowG EnI 91 6 HD w vD d rd
 below:Below BB W2 w
 g1:BB≤g
 g2:g<HS
 h1:HS≤HD
 hs:HD≤w.heap.size
theorem CpL.toD {W2:World}{BB HS g:Nat}{k n:Int}{vB:Value}{b:List UInt8}{w:World}{vL:Value}{l:List Ob}{rl:List (List Value)}(h:CpL W2 BB HS g k n vB b w vL l rl):CpD W2 BB HS w.heap.size g k n vB b vL l rl w (.slice none 0 0) [] []:=
 ⟨h.blk,h.own,h.lt,fun w' hw hz=>h.row.far aQ hw hz,RowG.nil _ _ _ _ _,h.below,h.g1,h.g2,h.hs,Nat.le_refl _⟩
theorem CpD.step {W2:World}{BB HS HD g:Nat}{k n:Int}{vB:Value}{b:List UInt8}{w w':World}{vL vD:Value}{l:List Ob}{rl:List (List Value)}{d:List (List UInt8×Ob)}{rd:List (List Value)}(h:CpD W2 BB HS HD g k n vB b vL l rl w vD d rd) (hb:Below w.heap.size w w'):CpD W2 BB HS HD g k n vB b vL l rl w' vD d rd:=
 ⟨h.blk.below hb h.blk.lt,h.own.below hb,h.lt,fun w2 hw hz=>h.rowL w2 (fun c h1 h2=>(hw c h1 h2).trans (hb.block c (by have:=h.hs;omega))) hz,h.row.below en_law hb,h.below.trans (hb.mono (by have:=h.g1;have:=h.g2;have:=h.h1;have:=h.hs;omega)),h.g1,h.g2,h.h1,Nat.le_trans h.hs hb.size⟩
theorem CpD.apart {W2:World}{BB HS HD g:Nat}{k n:Int}{vB:Value}{b:List UInt8}{w:World}{vL vD:Value}{l:List Ob}{rl:List (List Value)}{d:List (List UInt8×Ob)}{rd:List (List Value)}(h:CpD W2 BB HS HD g k n vB b vL l rl w vD d rd):some g≠vD.ownBlock:=fun e=>by
 have:=(h.row.row.lt g e.symm).1;have:=h.g2;have:=h.h1;omega
theorem CpD.put {W2:World}{BB HS HD g:Nat}{k n:Int}{vB:Value}{b:List UInt8}{w w3:World}{vL vD v':Value}{l:List Ob}{rl:List (List Value)}{d d':List (List UInt8×Ob)}{rd rd':List (List Value)}(h:CpD W2 BB HS HD g k n vB b vL l rl w vD d rd)
 (hR:RowG EnI 91 6 HD w3 v' d' rd') (hg:w.grownBy w3 vD.ownBlock):Blk w3 g 32 #[.int .i64 k,.int .i64 n,vB,vL,vD]∧CpD W2 BB HS HD g k n vB b vL l rl (w3.setCell ⟨g,4,none⟩ v') v' d' rd':=by
 have hblk:=h.blk.grown hg h.apart;have hs:=aj w3 g 4 v';have z3:=hg.size;have h1:=h.g1;have h2:=h.g2;have h3:=h.hs;have h4:=h.h1;have hz:(w3.setCell ⟨g,4,none⟩ v').heap.size=w3.heap.size:=by simp[World.setCell]
 refine⟨hblk,⟨hblk.set_ 4 v',?_,h.lt,fun w2 hw hz2=>?_,?_,?_,h1,h2,h4,by omega⟩⟩
 ·refine bJ (bJ h.own hg fun q hq e=>?_) hs fun q hq e=>?_
  ·have:=(h.row.row.lt q e.symm).1
   have:=(h.lt q hq).2;omega
  ·injection e with e
   exact (h.lt q hq).1 e
 ·refine h.rowL w2 (fun c c1 c2=>((hw c c1 c2).trans (Below.heap_setCell _ _ _ _ (by show c≠g;omega))).trans (hg.block c (by omega) fun e=>?_)) hz2
  have:=(h.row.row.lt c e.symm).1;omega
 ·exact hR.far en_law (fun b hb _=>Below.heap_setCell _ _ _ _ (by show b≠g;omega)) (by omega)
 ·refine ((h.below).grown hg (by omega) fun q hq=>?_).grown hs (by omega) fun q hq=>?_
  ·have:=(h.row.row.lt q hq).1;omega
  ·injection hq with hq;omega
theorem _root_.Go.Wk.RowG.base {α:Type}{I:Nat→Nat→World→α→List Value→Prop}{e:TypeId}{sz B B':Nat}{w:World}{v:Value}{l:List α}{rss:List (List Value)}(h:RowG I e sz B w v l rss) (hB:B'≤B):RowG I e sz B' w v l rss:=by
 refine⟨h.len,⟨h.row.1,?_⟩,fun i hi=>?_⟩
 ·rcases h.row.2 with h2|⟨g,cap,cur,e',hb,rest⟩
  ·exact .inl h2
  ·exact .inr ⟨g,cap,cur,e',Nat.le_trans hB hb,rest⟩
 ·obtain⟨lo,hi',h1,h2,h3⟩:=h.it i hi
  exact⟨lo,hi',by omega,h2,h3⟩
theorem CpD.done {W2:World}{B BB HS HD g:Nat}{k n:Int}{vB:Value}{b:List UInt8}{w:World}{vL vD:Value}{l:List Ob}{rl:List (List Value)}{d:List (List UInt8×Ob)}{rd:List (List Value)}(h:CpD W2 BB HS HD g k n vB b vL l rl w vD d rd)
 (hk1: -9223372036854775808≤k) (hk2:k≤9223372036854775807) (hn1: -9223372036854775808≤n) (hn2:n≤9223372036854775807) (hbm:b.length≤maxLen) (hB:B≤BB) :
 ObI B w.heap.size w (.mk k n b l d) [.int .i64 k,.int .i64 n,vB,vL,vD]:=by
 have h1:=h.g1;have h2:=h.g2;have h3:=h.h1;exact el hk1 hk2 hn1 hn2 ((h.own.base hB).row) hbm ((h.rowL w (fun _ _ _=>rfl) h.hs).base (by omega)) (h.row.base (by omega))
end
section
open Go Go.RowKit Go.Wk
def nD (N:Nat):Prop:=∀(o:Ob) (vs:List Value) (w:World),ObAt w o vs→o.bulk≤N→Calls Tryz.prog 188 #[.agg vs.toArray] w fun e w'=>∃us,e=.returned (.agg (List.toArray us))∧ObI w.heap.size w'.heap.size w' o us∧Below w.heap.size w w'
def GC (p BB:Nat) (k n:Int) (A:Option Addr) (c:Nat) (b:List UInt8):Nat→Value→World→Prop:=fun j v w=>match j with
 |0=>v=.pointer (some ⟨p,0,none⟩)
 |1=>v=.int .i64 k
 |2=>v=.pointer (some ⟨p,1,none⟩)
 |3=>v=.int .i64 n
 |4=>v=.pointer (some ⟨p,2,none⟩)
 |5=>v=.slice A b.length c
 |6=>Own BB w v b
 |7=>∃A' c',v=.agg #[.int .i64 k,.int .i64 n,.slice A' b.length c',.slice none 0 0,.slice none 0 0]∧Own BB w (.slice A' b.length c') b
 |_=>∃g,v=.pointer (some ⟨g,0,none⟩)∧Blk w g 32 #[.int .i64 0,.int .i64 0,.slice none 0 0,.slice none 0 0,.slice none 0 0]∧BB≤g
theorem lG {p BB:Nat}{k n:Int}{A:Option Addr}{c:Nat}{b:List UInt8}(j:Nat) (v:Value) (w w':World) (hG:GC p BB k n A c b j v w) (hk:Below w.heap.size w w'):GC p BB k n A c b j v w':=by
 unfold GC at hG⊢;split at hG <;> first
  |exact hG
  |exact hG.below hk
  |(obtain⟨A',c',e,h⟩:=hG;exact⟨A',c',e,h.below hk⟩)
  |(obtain⟨g,e,h,hb⟩:=hG;exact⟨g,e,h.below hk h.lt,hb⟩)
theorem me {B:Nat}{w:World}{v:Value}{b:List UInt8}(h:Own B w v b) {g:Nat}{cs:Array Value}(hb:Blk w g 32 cs):v.ownBlock≠some g:=by
 rcases h.row.2 with ⟨rfl,_⟩|⟨g',cap,cur,rfl,_,hh,_⟩
 ·simp[Value.ownBlock]
 ·intro e
  simp only[Value.ownBlock,Option.some.injEq]at e;subst e;unfold Blk at hb;rw[hb]at hh;simp at hh
theorem ec {w:World}{v0 v1 v2 v3 v4 v5:Value}{W:World}(hW:W=w.alloc (.cells #[v0,v1,v2,v3,v4,v5] 91)) :
 W.cell? ⟨w.heap.size,0,none⟩=some v0∧W.cell? ⟨w.heap.size,1,none⟩=some v1∧W.cell? ⟨w.heap.size,2,none⟩=some v2∧W.cell? ⟨w.heap.size,3,none⟩=some v3∧W.cell? ⟨w.heap.size,4,none⟩=some v4∧W.cell? ⟨w.heap.size,5,none⟩=some v5:=by
 subst hW;refine⟨?_,?_,?_,?_,?_,?_⟩ <;> simp
theorem bq {p:Nat}{v0 v1 v2 v3 v4 v5:Value}{W W':World}(h:W.cell? ⟨p,0,none⟩=some v0∧W.cell? ⟨p,1,none⟩=some v1∧W.cell? ⟨p,2,none⟩=some v2∧W.cell? ⟨p,3,none⟩=some v3∧W.cell? ⟨p,4,none⟩=some v4∧W.cell? ⟨p,5,none⟩=some v5) (hb:Below W.heap.size W W') :
 W'.cell? ⟨p,0,none⟩=some v0∧W'.cell? ⟨p,1,none⟩=some v1∧W'.cell? ⟨p,2,none⟩=some v2∧W'.cell? ⟨p,3,none⟩=some v3∧W'.cell? ⟨p,4,none⟩=some v4∧W'.cell? ⟨p,5,none⟩=some v5:=
 ⟨(hb.cell (ac h.1)).trans h.1,(hb.cell (ac h.2.1)).trans h.2.1,(hb.cell (ac h.2.2.1)).trans h.2.2.1,(hb.cell (ac h.2.2.2.1)).trans h.2.2.2.1,(hb.cell (ac h.2.2.2.2.1)).trans h.2.2.2.2.1,(hb.cell (ac h.2.2.2.2.2)).trans h.2.2.2.2.2⟩
def GL (W5s g:Nat) (vL:Value) (ag:Array Value) (o:Ob):Nat→Value→World→Prop:=fun j v w=>match j with
 |0|6=>v=.pointer (some ⟨g,3,none⟩)
 |1=>v=vL
 |2=>v=.agg ag
 |3=>∃us hi,v=.agg (List.toArray us)∧ObI W5s hi w o us
 |_=>∃q us hi,v=.slice (some ⟨q,0,none⟩) 1 1∧ObI W5s hi w o us∧∀j u,us[j]?=some u→w.cell? ⟨q,j,none⟩=some u
theorem aF {lo hi:Nat}{w w':World}{o:Ob}{us:List Value}(h:ObI lo hi w o us) (hk:Below w.heap.size w w'):ObI lo hi w' o us:=h.keep (fun b _ hb=>hk.block b (by have:=h.1;omega)) (Nat.le_trans h.1 hk.size)
theorem qg {W5s g:Nat}{vL:Value}{ag:Array Value}{o:Ob}(j:Nat) (v:Value) (w w':World) (hG:GL W5s g vL ag o j v w) (hk:Below w.heap.size w w'):GL W5s g vL ag o j v w':=by
 unfold GL at hG⊢;split at hG <;> first
  |exact hG
  |(obtain⟨us,hi,e,h⟩:=hG;exact⟨us,hi,e,aF h hk⟩)
  |(obtain⟨q,us,hi,e,h,hc⟩:=hG;exact⟨q,us,hi,e,aF h hk,fun j u hu=>(hk.cell (ac (hc j u hu))).trans (hc j u hu)⟩)
def GE (W5s g p:Nat) (vD:Value) (K:ByteArray) (ag:Array Value) (e:List UInt8×Ob):Nat→Value→World→Prop:=fun j v w=>match j with
 |0|10=>v=.pointer (some ⟨g,4,none⟩)
 |1=>v=vD
 |2=>v=.pointer (some ⟨p,0,none⟩)
 |3=>v=.string K
 |4=>v=.pointer (some ⟨p,1,none⟩)
 |5=>v=.agg ag
 |6=>∃us hi,v=.agg (List.toArray us)∧ObI W5s hi w e.2 us
 |7=>∃us hi,v=.agg (List.toArray (.string K :: us))∧ObI W5s hi w e.2 us
 |_=>∃q us hi,v=.slice (some ⟨q,0,none⟩) 1 1∧ObI W5s hi w e.2 us∧∀j u,(Value.string K :: us)[j]?=some u→w.cell? ⟨q,j,none⟩=some u
theorem qf {W5s g p:Nat}{vD:Value}{K:ByteArray}{ag:Array Value}{e:List UInt8×Ob}(j:Nat) (v:Value) (w w':World) (hG:GE W5s g p vD K ag e j v w) (hk:Below w.heap.size w w'):GE W5s g p vD K ag e j v w':=by
 unfold GE at hG⊢;split at hG <;> first
  |exact hG
  |(obtain⟨us,hi,e,h⟩:=hG;exact⟨us,hi,e,aF h hk⟩)
  |(obtain⟨q,us,hi,e,h,hc⟩:=hG;exact⟨q,us,hi,e,aF h hk,fun j u hu=>(hk.cell (ac (hc j u hu))).trans (hc j u hu)⟩)
theorem cI (w:World) (us:List Value) (t:TypeId):∀j u,us[j]?=some u→(w.alloc (.cells us.toArray t)).cell? ⟨w.heap.size,j,none⟩=some u:=fun j u hu=>by
 have h0:=bP (w:=w) (vs:=us.toArray) (e:=t) (i:=j);rw[Nat.zero_add]at h0;rw[h0]
 simpa using hu
theorem mA (N:Nat) (hN:N+1≤100000000) (ih:nD N):nD (N+1):=by
 intro o vs w h hbk;cases h with
 |mk k n b l d A AL AD c cL cD gL oL gD oD vl vd h1 h2 h3 h4 hB5 h6 h7 h8 h9 h10 h11 hAL hl hlv hAD hdo hdk hdv=>
 have zk:b.length+bv l+aI d+1≤N+1:=hbk;have zl:=dV l;have zd:=cH d;have zlk:=fun i hi=>dG l i hi
 have zdk:=fun i hi=>bZ d i hi
 obtain⟨m2,hm2⟩:∃m,m=l.length:=⟨_,rfl⟩;obtain⟨m3,hm3⟩:∃m,m=d.length:=⟨_,rfl⟩;have zb1:b.length≤100000000:=by omega
 rw[←hm2]at zl⊢;rw[←hm3]at zd⊢;have zl1:m2≤100000000:=by omega
 have zd1:m3≤100000000:=by omega
 obtain⟨W1,hW1⟩:∃W,W=w.alloc (.cells #[.int .i64 k,.int .i64 n,.slice A b.length c,.slice AL m2 cL,.slice AD m3 cD] 32):=⟨_,rfl⟩;obtain⟨W2,hW2⟩:∃W,W=W1.alloc (.cells #[.int .i64 0,.int .i64 0,.slice none 0 0,.slice none 0 0,.slice none 0 0] 32):=⟨_,rfl⟩;have hb1:Below w.heap.size w W1:=by rw[hW1];exact (Below.refl _ _).alloc (Nat.le_refl _) _
 have z1:W1.heap.size=w.heap.size+1:=by rw[hW1,World.size_alloc]
 have hb2:Below w.heap.size w W2:=by rw[hW2];exact hb1.alloc (by omega) _
 have z2:W2.heap.size=w.heap.size+2:=by rw[hW2,World.size_alloc,z1]
 have f:=ap (cz hW1) (W':=W2) (by rw[hW2];exact (Below.refl _ _).alloc (Nat.le_refl _) _);have hR2:Blk W2 (w.heap.size+1) 32 #[.int .i64 0,.int .i64 0,.slice none 0 0,.slice none 0 0,.slice none 0 0]:=by rw[hW2,←z1];exact Blk.new W1 32 _
 obtain⟨f0,f1,f2,f3,f4⟩:=id f;have e41:100000000≤maxLen:=by unfold maxLen;omega
 have hbb:=hB5.below hb2;refine h9_ hm2 hm3 hAL hl hlv hAD hdo hdk hdv ?_;clear hm2 hm3 hAL hl hlv hAD hdo hdk hdv;intro hm2 hm3 hAL hl hlv hAD hdo hdk hdv;refine h8_ zlk zdk ih hb1 hb2 f hR2 hbb ?_;clear zlk zdk ih hb1 hb2 f hR2 hbb;intro zlk zdk ih hb1 hb2 f hR2 hbb;have hrng:=hi_ (And.intro h1 (And.intro h2 (And.intro h3 h4)));replace h7:=hi_ h7;clear h1 h2 h3 h4 hB5 h6 h8 h9 h10 h11 hbk;go_enter Tryz.func188,Tryz.ntmps188;go_upto_region 1 with (fail)
 rw[←hW1,←hW2];refine aL (by kernel_rfl) [none,none,none,some 8,none,none,none,none,some 0,some 1,some 2,some 3,some 4,some 5,some 6,some 7,none,none,none,none,none,none,none,none,none,none,none,none,none,none,none,none,none,none,none,none,none,none,none,none,none,none,none,none,none,none,none,none,none,none,none] (fun w'=>Below W2.heap.size W2 w') (fun w' w''=>Below w'.heap.size w' w'') (GC w.heap.size W2.heap.size k n A c b) (by rfl) (by kernel_rfl) 9 _ rfl (by decide) (by kernel_rfl) [1,7,3,7,5,6,7,9,9,0] (by kernel_rfl) ?hR ?mono (.cons 8 (ab [] rfl (by kernel_rfl) ?s8) (.cons 7 (ab [1,3,6] rfl (by kernel_rfl) ?s7) (.cons 6 (ab [5] rfl (by kernel_rfl) ?s6) (.cons 5 (ab [4] rfl (by kernel_rfl) ?s5) (.cons 4 (ab [] rfl (by kernel_rfl) ?s4) (.cons 3 (ab [2] rfl (by kernel_rfl) ?s3) (.cons 2 (ab [] rfl (by kernel_rfl) ?s2) (.cons 1 (ab [0] rfl (by kernel_rfl) ?s1) (.cons 0 (ab [] rfl (by kernel_rfl) ?s0) (.nil)))))))))) ?done
 case hR=>exact (Below.refl _ _).drew
 case mono=>exact lG
 case' s0|s1|s2|s3|s4|s5|s6|s7|s8=>
  intro x w' hRw hd K9 hK;simp only[All,GC]at hd;simp +decide only[upd,GC,ai,if_true,if_false]at hK⊢
 case s0=>
  obtain⟨_⟩:=hd;go_simp;have hK2:=hK _ _ ⟨hRw,Below.refl _ _,rfl⟩;exact hK2
 case s1=>
  obtain⟨e0,_⟩:=hd;obtain⟨y0,y1,y2,y3,y4⟩:=ap f.out hRw;simp only[e0]at hK⊢;go_simp;have hK2:=hK _ _ ⟨hRw,Below.refl _ _,rfl⟩;exact hK2
 case s2=>
  obtain⟨_⟩:=hd;go_simp;have hK2:=hK _ _ ⟨hRw,Below.refl _ _,rfl⟩;exact hK2
 case s3=>
  obtain⟨e2,_⟩:=hd;obtain⟨y0,y1,y2,y3,y4⟩:=ap f.out hRw;simp only[e2]at hK⊢;go_simp;have hK2:=hK _ _ ⟨hRw,Below.refl _ _,rfl⟩;exact hK2
 case s4=>
  obtain⟨_⟩:=hd;go_simp;have hK2:=hK _ _ ⟨hRw,Below.refl _ _,rfl⟩;exact hK2
 case s5=>
  obtain⟨e4,_⟩:=hd;obtain⟨y0,y1,y2,y3,y4⟩:=ap f.out hRw;simp only[e4]at hK⊢;go_simp;have hK2:=hK _ _ ⟨hRw,Below.refl _ _,rfl⟩;exact hK2
 case s6=>
  obtain⟨e5,_⟩:=hd;simp only[e5]at hK⊢;go_simp;refine (mx A c b w' (hbb.out.below hRw) h7.out (by omega)).mono ?_;rintro e' w9 ⟨v9,rfl,hO9,hB9⟩;have hK2:=hK _ _ ⟨ah hRw hB9,hB9,hO9.base hRw.size⟩;exact hK2
 case s7=>
  obtain⟨e1,e3,hO,_⟩:=hd;obtain⟨A6,c6,e6,_⟩:=fp hO.row;rw[e6]at hO;simp only[e6]at hK⊢;simp only[e1,e3]at hK⊢;go_simp;have hK2:=hK _ _ ⟨hRw,Below.refl _ _,_,_,rfl,hO⟩;exact hK2
 case s8=>
  obtain⟨_⟩:=hd;go_simp;have hK2:=hK _ _ ⟨hRw.alloc hRw.size _,(Below.refl _ _).alloc (Nat.le_refl _) _,_,rfl,Blk.new w' 32 _,hRw.size⟩;exact hK2
 case done=>
  intro x w3 hRw hG fr hfr;have g7:=hG 7 (by omega);have g8:=hG 8 (by omega);simp only[GC]at g7 g8;clear hG;obtain⟨AB,cB,e7,hO⟩:=g7;obtain⟨g,e8,hblk,hg⟩:=g8;simp only[ai]at hfr;rw[e7,e8]at hfr;subst hfr;have hne:=me hO hblk;have hglt:=hblk.lt;obtain⟨c0,c1,c2,c3,c4,q0,q1,q2,q3,q4⟩:=hblk.b5;obtain⟨W4,hW4⟩:∃W,W=((((w3.setCell ⟨g,0,none⟩ (.int .i64 k)).setCell ⟨g,1,none⟩ (.int .i64 n)).setCell ⟨g,2,none⟩ (.slice AB b.length cB)).setCell ⟨g,3,none⟩ (.slice none 0 0)).setCell ⟨g,4,none⟩ (.slice none 0 0):=⟨_,rfl⟩;have hgr:w3.grownBy W4 (some g):=by
   rw[hW4];exact ((((aj _ _ _ _).trans (aj _ _ _ _)).trans (aj _ _ _ _)).trans (aj _ _ _ _)).trans (aj _ _ _ _)
  have hblk4:Blk W4 g 32 #[.int .i64 k,.int .i64 n,.slice AB b.length cB,.slice none 0 0,.slice none 0 0]:=by
   rw[hW4];exact ((((hblk.set_ 0 _).set_ 1 _).set_ 2 _).set_ 3 _).set_ 4 _
  have z4:W4.heap.size=w3.heap.size:=by rw[hW4];simp[World.setCell]
  have hO4:Own W2.heap.size W4 (.slice AB b.length cB) b:=bJ hO hgr fun q hq e=>by injection e with e;exact hne (by rw[hq,e])
  have hB4:Below W2.heap.size W2 W4:=hRw.grown hgr (by omega) fun q hq=>by injection hq with hq;omega
  have hL0:CpL W2 W2.heap.size W4.heap.size g k n (.slice AB b.length cB) b W4 (.slice none 0 0) [] []:=
   ⟨hblk4,hO4,fun q hq=>⟨fun e=>hne (by rw[hq,e]),(hO4.row.lt q hq).2⟩,RowG.nil _ _ _ _ _,hB4,hg,by omega,Nat.le_refl _⟩
  obtain⟨p0,p1,p2,p3,p4⟩:=ap f.out hB4;clear hgr hblk4 hO4 hO hne hblk;refine h3_ hRw hB4 hL0 ?_;clear hRw hB4 hL0;intro hRw hB4 hL0;go_upto_region 2 with (fail)
  rw[←hW4];clear c0 c1 c2 c3 c4 q0 q1 q2 q3 q4;replace hW4:=hi_ hW4;obtain⟨HS,hHS⟩:∃z,z=W4.heap.size:=⟨_,rfl⟩;rw[←hHS]at hL0;replace hHS:=hi_ hHS;go_wp2
  go_loopw [19] (fun s19 wr=>∃(i:Nat) (vL:Value) (rl:List (List Value)),i≤m2∧s19=.int .i64 i∧CpL W2 W2.heap.size HS g k n (.slice AB b.length cB) b wr vL (l.take i) rl) (fun s19 _=>m2 - (RowKit.intOf s19).toNat)
  case atStart=>exact⟨0,_,_,by omega,rfl,hL0.out⟩
  case round=>
   obtain⟨i,vL,rl,hi,rfl,hL⟩:=hrel;by_cases him:i<m2
   ·have hil:i<l.length:=by rw[←hm2.out];exact him
    have hAe:=hAL.out (by omega);subst hAe;have hbw:Below w.heap.size w wr:=ah hb2.out hL.below;obtain⟨o,ho⟩:∃o,o=l[i]:=⟨_,rfl⟩;have hob:=(hl.out i hil).kept hbw;have hcv:=hlv.out i hil;rw[←ho]at hob;have hzo:o.bulk≤N:=by have:=dG l i hil;rw[←ho]at this;omega
    obtain⟨us0,hus0⟩:∃us,us=vl i:=⟨_,rfl⟩;rw[←hus0]at hob hcv;obtain⟨en,E1,E2,E3,en1,ec1,en2,ec2,en3,ec3,hys⟩:=ay hob;obtain⟨kk,hkk⟩:∃k,k=o.kind:=⟨_,rfl⟩;rw[←hkk]at hys;subst hys;have five:∀j u,[Value.int .i64 kk,.int .i64 en,.slice E1 en1 ec1,.slice E2 en2 ec2,.slice E3 en3 ec3][j]?=some u→wr.cell? ⟨gL,oL+i*5+j,none⟩=some u:=fun j u hj=>by
     have h0:=hcv j (by have:=(List.getElem?_eq_some_iff.1 hj).1;simpa using this);rw[hj]at h0;have h1:=(hbw.cell (ac h0)).trans h0;rw[show oL+(5*i+j)=oL+i*5+j by omega]at h1;exact h1
    have x0:wr.cell? ⟨gL,oL+i*5,none⟩=some (.int .i64 kk):=five 0 _ rfl;have x1:wr.cell? ⟨gL,oL+i*5+1,none⟩=some (.int .i64 en):=five 1 _ rfl;have x2:wr.cell? ⟨gL,oL+i*5+2,none⟩=some (.slice E1 en1 ec1):=five 2 _ rfl;have x3:wr.cell? ⟨gL,oL+i*5+3,none⟩=some (.slice E2 en2 ec2):=five 3 _ rfl;have x4:wr.cell? ⟨gL,oL+i*5+4,none⟩=some (.slice E3 en3 ec3):=five 4 _ rfl;obtain⟨W5,hW5,hb5⟩:=bH wr 32 #[.int .i64 kk,.int .i64 en,.slice E1 en1 ec1,.slice E2 en2 ec2,.slice E3 en3 ec3];have hL5:=hL.step hb5;have c66:=fun W (hW:Below W5.heap.size W5 W)=>ih.out o _ W (hob.kept (ah hb5 hW)) hzo
    have hy5:=hi_ (cz hW5);replace c66:=hi_ c66;have hT:l.take (i+1)=l.take i++[o]:=by rw[List.take_succ_eq_append_getElem hil,ho]
    have hzl:(l.take i).length≤1000000000:=by rw[List.length_take];omega
    have z5:HS≤W5.heap.size:=hL5.hs;clear five hcv hob hus0;refine h8_ hL hL5 ho hkk hT hb5 hbw hzl ?_;clear hL hL5 ho hkk hT hb5 hbw hzl;intro hL hL5 ho hkk hT hb5 hbw hzl;go_upto_region 5 with (fail)
    rw[←hW5];replace hW5:=hi_ hW5;clear x0 x1 x2 x3 x4;refine aL (by kernel_rfl) [none,none,none,none,none,none,none,none,none,none,none,none,none,none,none,none,none,none,none,none,none,none,none,some 0,some 1,some 2,some 3,some 4,none,none,none,none,none,none,none,none,none,none,none,none,none,none,none,none,none,none,none,none,none,none,none] (fun w'=>Below W5.heap.size W5 w') (fun w' w''=>Below w'.heap.size w' w'') (GL W5.heap.size g vL #[.int .i64 kk,.int .i64 en,.slice E1 en1 ec1,.slice E2 en2 ec2,.slice E3 en3 ec3] o) (by rfl) (by kernel_rfl) 5 _ rfl (by decide) (by kernel_rfl) [1,5,3,4,5,0] (by kernel_rfl) ?ahR ?amono (.cons 4 (ab [3] rfl (by kernel_rfl) ?a4) (.cons 3 (ab [2] rfl (by kernel_rfl) ?a3) (.cons 2 (ab [] rfl (by kernel_rfl) ?a2) (.cons 1 (ab [0] rfl (by kernel_rfl) ?a1) (.cons 0 (ab [] rfl (by kernel_rfl) ?a0) (.nil)))))) ?adone
    case ahR=>exact (Below.refl _ _).drew
    case amono=>exact qg
    case a0=>
     intro x w' hRw hd K9 hK;simp only[All,GL]at hd;obtain⟨_⟩:=hd;simp +decide only[upd,GL,ai,if_true,if_false]at hK⊢;go_simp;have hK2:=hK _ _ ⟨hRw,Below.refl _ _,rfl⟩;exact hK2
    case a1=>
     intro x w' hRw hd K9 hK;simp only[All,GL]at hd;obtain⟨e0,_⟩:=hd;simp +decide only[upd,GL,ai,if_true,if_false]at hK⊢;have hcc:=(hL5.out.step hRw).blk.cell 3;simp only[e0]at hK⊢;go_simp;have hK2:=hK _ _ ⟨hRw,Below.refl _ _,rfl⟩;exact hK2
    case a2=>
     intro x w' hRw hd K9 hK;simp only[All,GL]at hd;obtain⟨_⟩:=hd;simp +decide only[upd,GL,ai,if_true,if_false]at hK⊢;obtain⟨y0,y1,y2,y3,y4⟩:=ap hy5.out hRw;go_simp;have hK2:=hK _ _ ⟨hRw,Below.refl _ _,rfl⟩;exact hK2
    case a3=>
     intro x w' hRw hd K9 hK;simp only[All,GL]at hd;obtain⟨e2,_⟩:=hd;simp +decide only[upd,GL,ai,if_true,if_false]at hK⊢;simp only[e2]at hK⊢;go_simp;refine (c66.out w' hRw).mono ?_;rintro e' w2 ⟨us,rfl,hI,hB9⟩;have hI2:ObI W5.heap.size w2.heap.size w2 o us:=hI.wide hRw.size;have hK2:=hK _ _ ⟨ah hRw hB9,hB9,us,_,rfl,hI2⟩;exact hK2
    case a4=>
     intro x w' hRw hd K9 hK;simp only[All,GL]at hd;obtain⟨⟨us,hi9,e3,hI⟩,_⟩:=hd;simp +decide only[upd,GL,ai,if_true,if_false]at hK⊢;obtain⟨en',E1',E2',E3',en1',ec1',en2',ec2',en3',ec3',hys'⟩:=ay hI.ob;rw[←hkk.out]at hys';subst hys';simp only[e3]at hK⊢;go_simp;have hba:Below w'.heap.size w' (w'.alloc (.cells #[.int .i64 kk,.int .i64 en',.slice E1' en1' ec1',.slice E2' en2' ec2',.slice E3' en3' ec3'] 32)):=(Below.refl _ _).alloc (Nat.le_refl _) _;have hK2:=hK _ _ ⟨ah hRw hba,hba,_,_,_,rfl,aF hI hba,cI w' _ 32⟩;exact hK2
    case adone=>
     intro x w4 hR2 hG fr hfr;have e1:=hG 1 (by omega);have e4:=hG 4 (by omega);simp only[GL]at e1 e4;clear hG;obtain⟨q,us,hi9,e4,hI,hcs⟩:=e4;simp only[ai]at hfr;rw[e1,e4]at hfr;have hL6:=hL5.out.step hR2;have hz6:=hL6.hs;subst hfr;refine iS rfl _ _ rfl HS _ _ _ rfl hL6.row q W5.heap.size hi9 o us rfl hI z5 (fun q hq=>.inl (hL5.out.row.row.lt q hq).2) hcs hzl.out hz6 ?_;intro v' w5 hR3 hg3 hat3;obtain⟨A',n',cc',rfl⟩:∃A' n' c',v'=.slice A' n' c':=by obtain⟨A',cc',g',hv',_⟩:=hR3.out aQ (by omega);exact⟨_,_,_,hv'⟩
     obtain⟨hbk3,hL8⟩:=hL6.put hR3 hg3;have c3':=hbk3.cell 3;have q3':=hbk3.frozen 3;replace hL8:=hi_ hL8;clear hR3 hg3 hat3 hbk3 hL6 hI hcs e1 e4 hz6 hR2;go_wp2
     go_roundw
     case rel=>exact⟨i+1,_,_,by omega,by go_num,by rw[hT.out];exact hL8.out⟩
     case measure=>simp[RowKit.intOf];omega
   ·obtain rfl:i=m2:=by omega
    have hT:l.take i=l:=by rw[hm2.out,List.take_length]
    rw[hT]at hL;have hD0:=hL.toD;obtain⟨p0,p1,p2,p3,p4⟩:=ap f.out hL.below;obtain⟨HD,hHD⟩:∃z,z=wr.heap.size:=⟨_,rfl⟩;rw[←hHD]at hD0;refine h4_ hHD hD0 hL hT ?_;clear hHD hD0 hL hT;intro hHD hD0 hL hT;go_wp2
    go_loopw [34] (fun s34 wr=>∃(j:Nat) (vD:Value) (rd:List (List Value)),j≤m3∧s34=.int .i64 j∧CpD W2 W2.heap.size HS HD g k n (.slice AB b.length cB) b vL l rl wr vD (d.take j) rd) (fun s34 _=>m3 - (RowKit.intOf s34).toNat)
    case atStart=>exact⟨0,_,_,by omega,rfl,hD0.out⟩
    case round=>
    obtain⟨j,vD,rd,hj,rfl,hD⟩:=hrel;by_cases hjm:j<m3
    ·have hjl:j<d.length:=by rw[←hm3.out];exact hjm
     have hAe:=hAD.out (by omega);subst hAe;have hbw:Below w.heap.size w wr:=ah hb2.out hD.below;obtain⟨e,he⟩:∃e,e=d[j]:=⟨_,rfl⟩;have hob:=(hdo.out j hjl).kept hbw;have hky:=hdk.out j hjl;have hcv:=hdv.out j hjl;rw[←he]at hob hky;have hzo:e.2.bulk≤N:=by have:=bZ d j hjl;rw[←he]at this;omega
     obtain⟨us0,hus0⟩:∃us,us=vd j:=⟨_,rfl⟩;rw[←hus0]at hob hcv;obtain⟨en,E1,E2,E3,en1,ec1,en2,ec2,en3,ec3,hys⟩:=ay hob;obtain⟨kk,hkk⟩:∃k,k=e.2.kind:=⟨_,rfl⟩;rw[←hkk]at hys;subst hys;obtain⟨K,hK⟩:∃K,K=bytes e.1:=⟨_,rfl⟩;have x0:wr.cell? ⟨gD,oD+j*6,none⟩=some (.string K):=by
      have h1:=(hbw.cell (ac hky.2)).trans hky.2;rw[Nat.mul_comm]at h1;rw[h1,hK];rfl
     have five:∀q u,[Value.int .i64 kk,.int .i64 en,.slice E1 en1 ec1,.slice E2 en2 ec2,.slice E3 en3 ec3][q]?=some u→wr.cell? ⟨gD,oD+j*6+1+q,none⟩=some u:=fun q u hq=>by
      have h0:=hcv q (by have:=(List.getElem?_eq_some_iff.1 hq).1;simpa using this);rw[hq]at h0;have h1:=(hbw.cell (ac h0)).trans h0;rw[show oD+(6*j+1+q)=oD+j*6+1+q by omega]at h1;exact h1
     have x1:wr.cell? ⟨gD,oD+j*6+1,none⟩=some (.int .i64 kk):=five 0 _ rfl;have x2:wr.cell? ⟨gD,oD+j*6+2,none⟩=some (.int .i64 en):=five 1 _ rfl;have x3:wr.cell? ⟨gD,oD+j*6+3,none⟩=some (.slice E1 en1 ec1):=five 2 _ rfl;have x4:wr.cell? ⟨gD,oD+j*6+4,none⟩=some (.slice E2 en2 ec2):=five 3 _ rfl;have x5:wr.cell? ⟨gD,oD+j*6+5,none⟩=some (.slice E3 en3 ec3):=five 4 _ rfl;obtain⟨W5,hW5,hb5⟩:=bH wr 91 #[.string K,.int .i64 kk,.int .i64 en,.slice E1 en1 ec1,.slice E2 en2 ec2,.slice E3 en3 ec3];have hD5:=hD.step hb5;have hy5:=hi_ (ec hW5);have c66:=fun W (hW:Below W5.heap.size W5 W)=>ih.out e.2 _ W (hob.kept (ah hb5 hW)) hzo
     have hT2:d.take (j+1)=d.take j++[e]:=by rw[List.take_succ_eq_append_getElem hjl,he]
     have hzl:(d.take j).length≤1000000000:=by rw[List.length_take];omega
     have z5:HD≤W5.heap.size:=hD5.hs;have hkm:=hky.1;clear five hcv hob hus0 hky;refine h9_ c66 hD hD5 he hkk hK hT2 hb5 hbw ?_;clear c66 hD hD5 he hkk hK hT2 hb5 hbw;intro c66 hD hD5 he hkk hK hT2 hb5 hbw;replace hzl:=hi_ hzl;replace hkm:=hi_ hkm;go_upto_region 10 with (fail)
     rw[←hW5];replace hW5:=hi_ hW5;clear x0 x1 x2 x3 x4 x5;refine aL (by kernel_rfl) [none,none,none,none,none,none,none,none,none,none,none,none,none,none,none,none,none,none,none,none,none,none,none,none,none,none,none,none,none,none,none,none,none,none,none,none,none,none,some 0,some 1,some 2,some 3,some 4,some 5,some 6,some 7,some 8,none,none,none,none] (fun w'=>Below W5.heap.size W5 w') (fun w' w''=>Below w'.heap.size w' w'') (GE W5.heap.size g wr.heap.size vD K #[.int .i64 kk,.int .i64 en,.slice E1 en1 ec1,.slice E2 en2 ec2,.slice E3 en3 ec3] e) (by rfl) (by kernel_rfl) 9 _ rfl (by decide) (by kernel_rfl) [1,9,3,7,5,6,7,8,9,0] (by kernel_rfl) ?dhR ?dmono (.cons 8 (ab [7] rfl (by kernel_rfl) ?d8) (.cons 7 (ab [3,6] rfl (by kernel_rfl) ?d7) (.cons 6 (ab [5] rfl (by kernel_rfl) ?d6) (.cons 5 (ab [4] rfl (by kernel_rfl) ?d5) (.cons 4 (ab [] rfl (by kernel_rfl) ?d4) (.cons 3 (ab [2] rfl (by kernel_rfl) ?d3) (.cons 2 (ab [] rfl (by kernel_rfl) ?d2) (.cons 1 (ab [0] rfl (by kernel_rfl) ?d1) (.cons 0 (ab [] rfl (by kernel_rfl) ?d0) (.nil)))))))))) ?ddone
     case dhR=>exact (Below.refl _ _).drew
     case dmono=>exact qf
     case d0=>
      intro x w' hRw hd K9 hK;simp only[All,GE]at hd;obtain⟨_⟩:=hd;simp +decide only[upd,GE,ai,if_true,if_false]at hK⊢;go_simp;have hK2:=hK _ _ ⟨hRw,Below.refl _ _,rfl⟩;exact hK2
     case d1=>
      intro x w' hRw hd K9 hK;simp only[All,GE]at hd;obtain⟨e0,_⟩:=hd;simp +decide only[upd,GE,ai,if_true,if_false]at hK⊢;have hcc:=(hD5.out.step hRw).blk.cell 4;simp only[e0]at hK⊢;go_simp;have hK2:=hK _ _ ⟨hRw,Below.refl _ _,rfl⟩;exact hK2
     case d2=>
      intro x w' hRw hd K9 hK;simp only[All,GE]at hd;obtain⟨_⟩:=hd;simp +decide only[upd,GE,ai,if_true,if_false]at hK⊢;go_simp;have hK2:=hK _ _ ⟨hRw,Below.refl _ _,rfl⟩;exact hK2
     case d3=>
      intro x w' hRw hd K9 hK;simp only[All,GE]at hd;obtain⟨e2,_⟩:=hd;simp +decide only[upd,GE,ai,if_true,if_false]at hK⊢;obtain⟨y0,y1,y2,y3,y4,y5⟩:=bq hy5.out hRw;simp only[e2]at hK⊢;go_simp;have hK2:=hK _ _ ⟨hRw,Below.refl _ _,rfl⟩;exact hK2
     case d4=>
      intro x w' hRw hd K9 hK;simp only[All,GE]at hd;obtain⟨_⟩:=hd;simp +decide only[upd,GE,ai,if_true,if_false]at hK⊢;go_simp;have hK2:=hK _ _ ⟨hRw,Below.refl _ _,rfl⟩;exact hK2
     case d5=>
      intro x w' hRw hd K9 hK;simp only[All,GE]at hd;obtain⟨e4,_⟩:=hd;simp +decide only[upd,GE,ai,if_true,if_false]at hK⊢;obtain⟨y0,y1,y2,y3,y4,y5⟩:=bq hy5.out hRw;simp only[e4]at hK⊢;go_simp;have hK2:=hK _ _ ⟨hRw,Below.refl _ _,rfl⟩;exact hK2
     case d6=>
      intro x w' hRw hd K9 hK;simp only[All,GE]at hd;obtain⟨e5,_⟩:=hd;simp +decide only[upd,GE,ai,if_true,if_false]at hK⊢;simp only[e5]at hK⊢;go_simp;refine (c66.out w' hRw).mono ?_;rintro e' w2 ⟨us,rfl,hI,hB9⟩;have hI2:ObI W5.heap.size w2.heap.size w2 e.2 us:=hI.wide hRw.size;have hK2:=hK _ _ ⟨ah hRw hB9,hB9,us,_,rfl,hI2⟩;exact hK2
     case d7=>
      intro x w' hRw hd K9 hK;simp only[All,GE]at hd;obtain⟨e3,⟨us,hi9,e6,hI⟩,_⟩:=hd;simp +decide only[upd,GE,ai,if_true,if_false]at hK⊢;obtain⟨en',E1',E2',E3',en1',ec1',en2',ec2',en3',ec3',hys'⟩:=ay hI.ob;rw[←hkk.out]at hys';subst hys';simp only[e3,e6]at hK⊢;go_simp;have hK2:=hK _ _ ⟨hRw,Below.refl _ _,_,_,rfl,hI⟩;exact hK2
     case d8=>
      intro x w' hRw hd K9 hK;simp only[All,GE]at hd;obtain⟨⟨us,hi9,e7,hI⟩,_⟩:=hd;simp +decide only[upd,GE,ai,if_true,if_false]at hK⊢;obtain⟨en',E1',E2',E3',en1',ec1',en2',ec2',en3',ec3',hys'⟩:=ay hI.ob;rw[←hkk.out]at hys';subst hys';simp only[e7]at hK⊢;go_simp;have hba:Below w'.heap.size w' (w'.alloc (.cells #[.string K,.int .i64 kk,.int .i64 en',.slice E1' en1' ec1',.slice E2' en2' ec2',.slice E3' en3' ec3'] 91)):=(Below.refl _ _).alloc (Nat.le_refl _) _;have hK2:=hK _ _ ⟨ah hRw hba,hba,_,_,_,rfl,aF hI hba,cI w' _ 91⟩;exact hK2
     case ddone=>
      intro x w4 hR2 hG fr hfr;have e1:=hG 1 (by omega);have e8:=hG 8 (by omega);simp only[GE]at e1 e8;clear hG;obtain⟨q,us,hi9,e8,hI,hcs⟩:=e8;simp only[ai]at hfr;rw[e1,e8]at hfr;have hL6:=hD5.out.step hR2;have hz6:=hL6.hs;have hE:EnI W5.heap.size hi9 w4 e (.string K :: us):=⟨us,by rw[hK.out];rfl,hkm.out,hI⟩;subst hfr;refine kJ rfl _ _ rfl HD _ _ _ rfl hL6.row q W5.heap.size hi9 e (.string K :: us) rfl hE z5 (fun q hq=>.inl (hD5.out.row.row.lt q hq).2) hcs hzl.out hz6 ?_;intro v' w5 hR3 hg3 hat3;obtain⟨A',n',cc',rfl⟩:∃A' n' c',v'=.slice A' n' c':=by obtain⟨A',cc',g',hv',_⟩:=hR3.out en_law (by omega);exact⟨_,_,_,hv'⟩
      obtain⟨hbk3,hL8⟩:=hL6.put hR3 hg3;have c4':=hbk3.cell 4;have q4':=hbk3.frozen 4;replace hL8:=hi_ hL8;clear hR3 hg3 hat3 hbk3 hL6 hI hcs e1 e8 hz6 hR2 hE;go_wp2
      go_roundw
      case rel=>exact⟨j+1,_,_,by omega,by go_num,by rw[hT2.out];exact hL8.out⟩
      case measure=>simp[RowKit.intOf];omega
    ·obtain rfl:j=m3:=by omega
     have hT2:d.take j=d:=by rw[hm3.out,List.take_length]
     rw[hT2]at hD;obtain⟨A3,n3,c3,rfl⟩:∃A' n' c',vL=.slice A' n' c':=by obtain⟨A',cc',g',hv',_⟩:=(hD.rowL wr (fun _ _ _=>rfl) hD.hs).out aQ (by omega);exact⟨_,_,_,hv'⟩
     obtain⟨A4,n4,c4,rfl⟩:∃A' n' c',vD=.slice A' n' c':=by obtain⟨A',cc',g',hv',_⟩:=hD.row.out en_law (by omega);exact⟨_,_,_,hv'⟩
     obtain⟨t0,t1,t2,t3,t4,-⟩:=hD.blk.b5;have hRb:=hR2.out.below hD.below (by omega);obtain⟨r0,r1,r2,r3,r4,v0,v1,v2,v3,v4⟩:=hRb.b5;refine h3_ hD hRb hT2 ?_;clear hD hRb hT2;intro hD hRb hT2;go_wp2
     obtain⟨Wf,hWf⟩:∃W,W=((((wr.setCell ⟨w.heap.size+1,0,none⟩ (.int .i64 k)).setCell ⟨w.heap.size+1,1,none⟩ (.int .i64 n)).setCell ⟨w.heap.size+1,2,none⟩ (.slice AB b.length cB)).setCell ⟨w.heap.size+1,3,none⟩ (.slice A3 n3 c3)).setCell ⟨w.heap.size+1,4,none⟩ (.slice A4 n4 c4):=⟨_,rfl⟩;have hgf:wr.grownBy Wf (some (w.heap.size+1)):=by
      rw[hWf];exact ((((aj _ _ _ _).trans (aj _ _ _ _)).trans (aj _ _ _ _)).trans (aj _ _ _ _)).trans (aj _ _ _ _)
     have hbf:Blk Wf (w.heap.size+1) 32 #[.int .i64 k,.int .i64 n,.slice AB b.length cB,.slice A3 n3 c3,.slice A4 n4 c4]:=by
      rw[hWf];exact ((((hRb.out.set_ 0 _).set_ 1 _).set_ 2 _).set_ 3 _).set_ 4 _
     have z9:Wf.heap.size=wr.heap.size:=by rw[hWf];simp[World.setCell]
     rw[←hWf];have hD:=hD.out;have g1:=hD.g1;obtain⟨e1,e2,e3,e4⟩:=hrng.out;have hI:=hD.done (B:=W2.heap.size) e1 e2 e3 e4 (by omega) (Nat.le_refl _);have hI2:ObI w.heap.size Wf.heap.size Wf (.mk k n b l d) [.int .i64 k,.int .i64 n,.slice AB b.length cB,.slice A3 n3 c3,.slice A4 n4 c4]:=by
      rw[z9];exact (hI.keep (fun q h1 h2=>hgf.block q h2 (fun e=>by injection e with e;omega)) (by omega)).wide (by omega)
     have hBf:Below w.heap.size w Wf:=(ah hb2.out hD.below).grown hgf (by have:=hD.hs;have:=hD.h1;have:=hD.g2;omega) (fun q hq=>by injection hq with hq;omega);obtain⟨u0,u1,u2,u3,u4,-⟩:=hbf.b5;replace hI2:=hi_ hI2;replace hBf:=hi_ hBf;clear hI hD hgf hbf;replace hWf:=hi_ hWf;exact bodyPost_ret (by simp[results,Tryz.results188,go_sem,u0,u1,u2,u3,u4];try rfl) rfl ⟨[.int .i64 k,.int .i64 n,.slice AB b.length cB,.slice A3 n3 c3,.slice A4 n4 c4],rfl,hI2.out,hBf.out⟩
theorem gy:∀N,N≤100000000→nD N
 |0,_=>fun o vs w _ h=>by have:=dk o;omega
 |N+1,h=>mA N h (gy N (by omega))
end
section
open Go Go.RowKit Go.Wk
theorem qk (a b:ByteArray) (w:World):Calls Tryz.prog 219 #[.string a,.string b] w fun e w'=>e=.returned (.int .i64 (Lib.compareBytes a.data.toList b.data.toList))∧w'=w:=by
 go_enter Tryz.func219,Tryz.ntmps219;go_wp2
 rw[run_callFunc_extern Tryz.func225 (by kernel_rfl) (by kernel_rfl) (by kernel_rfl) (e:=Extern.BytealgCompare.compare) (by kernel_rfl),Lib.run_compareString];simp only[Result.andThen];rw[Oper.upon_value];go_wp2
 go_ret
 exact⟨rfl,rfl⟩
theorem kz (a b:ByteArray) (w:World):Calls Tryz.prog 212 #[.string a,.string b] w fun e w'=>e=.returned (.int .i64 (Lib.compareBytes a.data.toList b.data.toList))∧w'=w:=by
 have c:=qk a b w;go_enter Tryz.func212,Tryz.ntmps212;go_wp2_with (go_at_call 219;(with_reducible refine c.mono ?_);rintro e w' ⟨rfl,rfl⟩)
 go_ret
 exact⟨rfl,rfl⟩
theorem nQ (K K':ByteArray) (a0 a1 a2 a3 a4 b0 b1 b2 b3 b4:Value) (w:World):Calls Tryz.prog 191 #[.agg #[.string K,a0,a1,a2,a3,a4],.agg #[.string K',b0,b1,b2,b3,b4]] w fun e w'=>e=.returned (.int .i64 (Lib.compareBytes K.data.toList K'.data.toList))∧Below w.heap.size w w':=by
 have c:=fun W=>kz K K' W
 have hb:Below w.heap.size w ((w.alloc (.cells #[.string K,a0,a1,a2,a3,a4] 91)).alloc (.cells #[.string K',b0,b1,b2,b3,b4] 91)):=((Below.refl _ _).alloc (Nat.le_refl _) _).alloc (by rw[World.size_alloc];omega) _;replace hb:=hi_ hb;go_enter Tryz.func191,Tryz.ntmps191;go_wp2_with (go_at_call 212;(with_reducible refine (c _).mono ?_);rintro e w' ⟨rfl,rfl⟩)
 go_ret
 exact⟨rfl,hb.out⟩
theorem nT (K K':ByteArray) (a0 a1 a2 a3 a4 b0 b1 b2 b3 b4:Value) (w:World) (p q:Nat) (hp:w.cell? ⟨p,0,none⟩=some (.func (.func 191) #[] #[]))
 (hq:w.cell? ⟨q,0,none⟩=some (.string K')∧w.cell? ⟨q,1,none⟩=some b0∧w.cell? ⟨q,2,none⟩=some b1∧w.cell? ⟨q,3,none⟩=some b2∧w.cell? ⟨q,4,none⟩=some b3∧w.cell? ⟨q,5,none⟩=some b4) :
 Calls Tryz.prog 208 #[.agg #[.string K,a0,a1,a2,a3,a4],.pointer (some ⟨p,0,none⟩),.pointer (some ⟨q,0,none⟩)] w fun e w'=>e=.returned (.bool (decide (0≤Lib.compareBytes K.data.toList K'.data.toList)))∧Below w.heap.size w w':=by
 obtain⟨q0,q1,q2,q3,q4,q5⟩:=hq;obtain⟨C,hC⟩:∃C,C=Lib.compareBytes K.data.toList K'.data.toList:=⟨_,rfl⟩;have c:=fun W=>nQ K K' a0 a1 a2 a3 a4 b0 b1 b2 b3 b4 W
 rw[←hC]at c⊢;have hb:Below w.heap.size w (w.alloc (.cells #[.string K,a0,a1,a2,a3,a4] 91)):=(Below.refl _ _).alloc (Nat.le_refl _) _;replace hb:=hi_ hb;replace hC:=hi_ hC;have l1:=ac hp;have l2:=ac q0;go_enter Tryz.func208,Tryz.ntmps208;go_wp2_with (go_at_call 191;(with_reducible refine (c _).mono ?_);rintro e w' ⟨rfl,hB⟩;replace hB:=hi_ hB)
 go_ret
 exact⟨rfl,ah hb.out hB.out⟩
theorem nS (K K':ByteArray) (a0 a1 a2 a3 a4 b0 b1 b2 b3 b4:Value) (w:World) (p q:Nat) (hp:w.cell? ⟨p,0,none⟩=some (.func (.func 191) #[] #[]))
 (hq:w.cell? ⟨q,0,none⟩=some (.string K')∧w.cell? ⟨q,1,none⟩=some b0∧w.cell? ⟨q,2,none⟩=some b1∧w.cell? ⟨q,3,none⟩=some b2∧w.cell? ⟨q,4,none⟩=some b3∧w.cell? ⟨q,5,none⟩=some b4) :
 Calls Tryz.prog 209 #[.agg #[.string K,a0,a1,a2,a3,a4],.pointer (some ⟨p,0,none⟩),.pointer (some ⟨q,0,none⟩)] w fun e w'=>e=.returned (.bool (Lib.compareBytes K.data.toList K'.data.toList == 0))∧Below w.heap.size w w':=by
 obtain⟨q0,q1,q2,q3,q4,q5⟩:=hq;obtain⟨C,hC⟩:∃C,C=Lib.compareBytes K.data.toList K'.data.toList:=⟨_,rfl⟩;have c:=fun W=>nQ K K' a0 a1 a2 a3 a4 b0 b1 b2 b3 b4 W
 rw[←hC]at c⊢;have hb:Below w.heap.size w (w.alloc (.cells #[.string K,a0,a1,a2,a3,a4] 91)):=(Below.refl _ _).alloc (Nat.le_refl _) _;replace hb:=hi_ hb;replace hC:=hi_ hC;have l1:=ac hp;have l2:=ac q0;go_enter Tryz.func209,Tryz.ntmps209;go_wp2_with (go_at_call 191;(with_reducible refine (c _).mono ?_);rintro e w' ⟨rfl,hB⟩;replace hB:=hi_ hB)
 go_ret
 exact⟨rfl,ah hb.out hB.out⟩
theorem kM:∀(a b:List UInt8),decide (0≤Lib.compareBytes a b)=!ltB a b
 |[],[]=>by simp[Lib.compareBytes,ltB]
 |[],_ :: _=>by simp[Lib.compareBytes,ltB]
 |_ :: _,[]=>by simp[Lib.compareBytes,ltB]
 |a :: r,b :: s=>by
  have ih:=kM r s;unfold Lib.compareBytes ltB;by_cases h1:a<b
  ·simp[h1]
  ·by_cases h2:b<a
   ·simp[h1,h2]
   ·simp[h1,h2];simpa using ih
theorem iT:∀(a b:List UInt8),(Lib.compareBytes a b == 0)=(a == b)
 |[],[]=>by simp[Lib.compareBytes]
 |[],_ :: _=>by simp[Lib.compareBytes]
 |_ :: _,[]=>by simp[Lib.compareBytes]
 |a :: r,b :: s=>by
  have ih:=iT r s;unfold Lib.compareBytes;by_cases h1:a<b
  ·have:a≠b:=fun e=>by subst e;exact absurd h1 (by simp)
   simp[h1,this]
  ·by_cases h2:b<a
   ·have:a≠b:=fun e=>by subst e;exact absurd h2 (by simp)
    simp[h1,h2,this]
   ·have:a=b:=by
     apply UInt8.toNat_inj.1
     have e1:¬a.toNat<b.toNat:=h1;have e2:¬b.toNat<a.toNat:=h2;omega
    subst this;simp[h1];simpa using ih
end
section
open Go Go.RowKit Go.Wk
def du (p:Nat→Bool) (n:Nat):Int:=match (List.range n).find? p with
 |some i=>(i:Int)
 |none=> -1
theorem eJ {p:Nat→Bool}{n k:Nat}(hk:k<n) (h:∀i,i<k→p i=false) (hp:p k=true):du p n=(k:Int):=by
 unfold du;have:(List.range n).find? p=some k:=by
  rw[List.find?_eq_some_iff_getElem];exact⟨hp,k,by simpa using hk,by simp,fun j hj=>by simp[h j hj]⟩
 rw[this]
theorem dX {p:Nat→Bool}{n:Nat}(h:∀i,i<n→p i=false):du p n= -1:=by
 unfold du;have:(List.range n).find? p=none:=by
  rw[List.find?_eq_none];intro i hi;rw[h i (List.mem_range.1 hi)];simp
 rw[this]
theorem lY (w:World) (AL:Option Addr) (g oL n cL pp qq:Nat) (p:Nat→Bool) (vl:Nat→List Value) (hn:n≤1000000000) (hA:0<n→AL=some ⟨g,oL,none⟩) (h5:∀i,i<n→(vl i).length=6)
 (hc:∀i,i<n→∀j,j<6→w.cell? ⟨g,oL+(6*i+j),none⟩=(vl i)[j]?)
 (call:∀i W,i<n→Below w.heap.size w W→Calls Tryz.prog 208 #[.agg (vl i).toArray,.pointer (some ⟨pp,0,none⟩),.pointer (some ⟨qq,0,none⟩)] W fun e w'=>e=.returned (.bool (p i))∧Below W.heap.size W w') :
 Calls Tryz.prog 168 #[.slice AL n cL,.func (.func 208) #[] #[.pointer (some ⟨pp,0,none⟩),.pointer (some ⟨qq,0,none⟩)]] w fun e w'=>e=.returned (.int .i64 (du p n))∧Below w.heap.size w w':=by
 refine h4_ call hc h5 hA ?_;clear call hc h5 hA;intro call hc h5 hA;go_enter Tryz.func168,Tryz.ntmps168;go_wp2
 go_loopw [5,8] (fun _ s8 wr=>∃k:Nat,k≤n∧s8=.int .i64 k∧(∀i,i<k→p i=false)∧Below w.heap.size w wr) (fun _ s8 _=>n - (RowKit.intOf s8).toNat)
 case atStart=>exact⟨0,by omega,rfl,fun i hi=>by omega,Below.refl _ _⟩
 case round=>
  obtain⟨k,hk,rfl,hP,hB⟩:=hrel;by_cases hkn:k<n
  ·have hA:=hA.out (by omega)
   subst hA;have h5k:=h5.out k hkn;have hck:=hc.out k hkn;have cl:=call.out k wr hkn hB;obtain⟨us,hus⟩:∃us,us=vl k:=⟨_,rfl⟩;rw[←hus]at h5k hck cl
   ·obtain⟨c0,c1,c2,c3,c4,c5,rfl⟩:=kw us h5k
    have w0:w.cell? ⟨g,oL+k*6,none⟩=some c0:=by have:=hck 0 (by omega);rw[Nat.mul_comm,Nat.add_zero]at this;exact this
    have w1:w.cell? ⟨g,oL+k*6+1,none⟩=some c1:=by have:=hck 1 (by omega);rw[Nat.mul_comm,←Nat.add_assoc]at this;exact this
    have w2:w.cell? ⟨g,oL+k*6+2,none⟩=some c2:=by have:=hck 2 (by omega);rw[Nat.mul_comm,←Nat.add_assoc]at this;exact this
    have w3:w.cell? ⟨g,oL+k*6+3,none⟩=some c3:=by have:=hck 3 (by omega);rw[Nat.mul_comm,←Nat.add_assoc]at this;exact this
    have w4:w.cell? ⟨g,oL+k*6+4,none⟩=some c4:=by have:=hck 4 (by omega);rw[Nat.mul_comm,←Nat.add_assoc]at this;exact this
    have w5:w.cell? ⟨g,oL+k*6+5,none⟩=some c5:=by have:=hck 5 (by omega);rw[Nat.mul_comm,←Nat.add_assoc]at this;exact this
    have x5:=(hB.cell (ac w5)).trans w5;have x0:=(hB.cell (ac w0)).trans w0;have x1:=(hB.cell (ac w1)).trans w1;have x2:=(hB.cell (ac w2)).trans w2;have x3:=(hB.cell (ac w3)).trans w3;have x4:=(hB.cell (ac w4)).trans w4;clear w0 w1 w2 w3 w4 w5 hck hus h5k;cases hp:p k with
    |true=>
     rw[hp]at cl;have hT:du p n=(k:Int):=eJ hkn (fun i hi=>hP i hi) hp;refine h3_ hT hB hP ?_;clear hT hB hP;intro hT hB hP;clear hp;go_wp2_with (go_at_call 208;(with_reducible refine cl.mono ?_);rintro e w1 ⟨rfl,hB1⟩;replace hB1:=hi_ hB1)
     go_ret
     exact⟨by rw[hT.out];rfl,ah hB.out hB1.out⟩
    |false=>
     rw[hp]at cl;have hP2:∀i,i<k+1→p i=false:=fun i hi=>by
      by_cases h:i=k
      ·subst h;exact hp
      ·exact hP i (by omega)
     replace hP2:=hi_ hP2;replace hB:=hi_ hB;clear hP hp;go_wp2_with (go_at_call 208;(with_reducible refine cl.mono ?_);rintro e w1 ⟨rfl,hB1⟩;replace hB1:=hi_ hB1)
     go_roundw
     case rel=>exact⟨k+1,by omega,by go_num,hP2.out,ah hB.out hB1.out⟩
     case measure=>simp[RowKit.intOf];omega
  ·obtain rfl:k=n:=by omega
   have hT:du p k= -1:=dX fun i hi=>hP i hi
   refine h3_ hT hB hP ?_;clear hT hB hP;intro hT hB hP;go_wp2
   go_ret
   exact⟨by rw[hT.out];rfl,hB.out⟩
theorem qA (w:World) (AL:Option Addr) (g oL n cL pp qq:Nat) (p:Nat→Bool) (vl:Nat→List Value) (hn:n≤1000000000) (hA:0<n→AL=some ⟨g,oL,none⟩) (h5:∀i,i<n→(vl i).length=6)
 (hc:∀i,i<n→∀j,j<6→w.cell? ⟨g,oL+(6*i+j),none⟩=(vl i)[j]?)
 (call:∀i W,i<n→Below w.heap.size w W→Calls Tryz.prog 209 #[.agg (vl i).toArray,.pointer (some ⟨pp,0,none⟩),.pointer (some ⟨qq,0,none⟩)] W fun e w'=>e=.returned (.bool (p i))∧Below W.heap.size W w') :
 Calls Tryz.prog 168 #[.slice AL n cL,.func (.func 209) #[] #[.pointer (some ⟨pp,0,none⟩),.pointer (some ⟨qq,0,none⟩)]] w fun e w'=>e=.returned (.int .i64 (du p n))∧Below w.heap.size w w':=by
 refine h4_ call hc h5 hA ?_;clear call hc h5 hA;intro call hc h5 hA;go_enter Tryz.func168,Tryz.ntmps168;go_wp2
 go_loopw [5,8] (fun _ s8 wr=>∃k:Nat,k≤n∧s8=.int .i64 k∧(∀i,i<k→p i=false)∧Below w.heap.size w wr) (fun _ s8 _=>n - (RowKit.intOf s8).toNat)
 case atStart=>exact⟨0,by omega,rfl,fun i hi=>by omega,Below.refl _ _⟩
 case round=>
  obtain⟨k,hk,rfl,hP,hB⟩:=hrel;by_cases hkn:k<n
  ·have hA:=hA.out (by omega)
   subst hA;have h5k:=h5.out k hkn;have hck:=hc.out k hkn;have cl:=call.out k wr hkn hB;obtain⟨us,hus⟩:∃us,us=vl k:=⟨_,rfl⟩;rw[←hus]at h5k hck cl
   ·obtain⟨c0,c1,c2,c3,c4,c5,rfl⟩:=kw us h5k
    have w0:w.cell? ⟨g,oL+k*6,none⟩=some c0:=by have:=hck 0 (by omega);rw[Nat.mul_comm,Nat.add_zero]at this;exact this
    have w1:w.cell? ⟨g,oL+k*6+1,none⟩=some c1:=by have:=hck 1 (by omega);rw[Nat.mul_comm,←Nat.add_assoc]at this;exact this
    have w2:w.cell? ⟨g,oL+k*6+2,none⟩=some c2:=by have:=hck 2 (by omega);rw[Nat.mul_comm,←Nat.add_assoc]at this;exact this
    have w3:w.cell? ⟨g,oL+k*6+3,none⟩=some c3:=by have:=hck 3 (by omega);rw[Nat.mul_comm,←Nat.add_assoc]at this;exact this
    have w4:w.cell? ⟨g,oL+k*6+4,none⟩=some c4:=by have:=hck 4 (by omega);rw[Nat.mul_comm,←Nat.add_assoc]at this;exact this
    have w5:w.cell? ⟨g,oL+k*6+5,none⟩=some c5:=by have:=hck 5 (by omega);rw[Nat.mul_comm,←Nat.add_assoc]at this;exact this
    have x5:=(hB.cell (ac w5)).trans w5;have x0:=(hB.cell (ac w0)).trans w0;have x1:=(hB.cell (ac w1)).trans w1;have x2:=(hB.cell (ac w2)).trans w2;have x3:=(hB.cell (ac w3)).trans w3;have x4:=(hB.cell (ac w4)).trans w4;clear w0 w1 w2 w3 w4 w5 hck hus h5k;cases hp:p k with
    |true=>
     rw[hp]at cl;have hT:du p n=(k:Int):=eJ hkn (fun i hi=>hP i hi) hp;refine h3_ hT hB hP ?_;clear hT hB hP;intro hT hB hP;clear hp;go_wp2_with (go_at_call 209;(with_reducible refine cl.mono ?_);rintro e w1 ⟨rfl,hB1⟩;replace hB1:=hi_ hB1)
     go_ret
     exact⟨by rw[hT.out];rfl,ah hB.out hB1.out⟩
    |false=>
     rw[hp]at cl;have hP2:∀i,i<k+1→p i=false:=fun i hi=>by
      by_cases h:i=k
      ·subst h;exact hp
      ·exact hP i (by omega)
     replace hP2:=hi_ hP2;replace hB:=hi_ hB;clear hP hp;go_wp2_with (go_at_call 209;(with_reducible refine cl.mono ?_);rintro e w1 ⟨rfl,hB1⟩;replace hB1:=hi_ hB1)
     go_roundw
     case rel=>exact⟨k+1,by omega,by go_num,hP2.out,ah hB.out hB1.out⟩
     case measure=>simp[RowKit.intOf];omega
  ·obtain rfl:k=n:=by omega
   have hT:du p k= -1:=dX fun i hi=>hP i hi
   refine h3_ hT hB hP ?_;clear hT hB hP;intro hT hB hP;go_wp2
   go_ret
   exact⟨by rw[hT.out];rfl,hB.out⟩
end
section
open Go Go.RowKit Go.Wk
theorem fg (w:World) (AL:Option Addr) (g oL n cL pp qq:Nat) (p:Nat→Bool) (vl:Nat→List Value) (hn:n≤1000000000) (hA:0<n→AL=some ⟨g,oL,none⟩) (h5:∀i,i<n→(vl i).length=6)
 (hc:∀i,i<n→∀j,j<6→w.cell? ⟨g,oL+(6*i+j),none⟩=(vl i)[j]?)
 (call:∀i W,i<n→Below w.heap.size w W→Calls Tryz.prog 209 #[.agg (vl i).toArray,.pointer (some ⟨pp,0,none⟩),.pointer (some ⟨qq,0,none⟩)] W fun e w'=>e=.returned (.bool (p i))∧Below W.heap.size W w')
 (hno:∀i,i<n→p i=false) :
 Calls Tryz.prog 210 #[.slice AL n cL,.func (.func 209) #[] #[.pointer (some ⟨pp,0,none⟩),.pointer (some ⟨qq,0,none⟩)]] w fun e w'=>e=.returned (.slice AL n cL)∧Below w.heap.size w w':=by
 have c:=qA w AL g oL n cL pp qq p vl hn hA h5 hc call;rw[dX hno]at c;clear call hc h5 hA;go_enter Tryz.func210,Tryz.ntmps210;go_wp2_with (go_at_call 168;(with_reducible refine c.mono ?_);rintro e w' ⟨rfl,hB⟩;replace hB:=hi_ hB)
 go_ret
 exact⟨rfl,hB.out⟩
theorem jc {n:Nat}{vl:Nat→List Value}{i:Nat}(hi:i<n):((List.range n).map vl).getD i []=vl i:=by
 rw[List.getD_eq_getElem?_getD,List.getElem?_map,List.getElem?_range hi];rfl
theorem kS {w:World}{g oL n sz:Nat}{vl:Nat→List Value}(hsz:0<sz) (h5:∀i,i<n→(vl i).length=sz) (hc:∀i,i<n→∀j,j<sz→w.cell? ⟨g,oL+(sz*i+j),none⟩=(vl i)[j]?) :
 ((List.range n).map vl).flatten.length=n*sz∧∀j u,((List.range n).map vl).flatten[j]?=some u→w.cell? ((⟨g,oL,none⟩:Addr).add j)=some u:=by
 have hlen:((List.range n).map vl).flatten.length=n*sz:=by
  rw[List.length_flatten,List.map_map];have:∀m,m≤n→((List.range m).map (List.length ∘ vl)).sum=m*sz:=by
   intro m
   induction m with
   |zero=>intro _;simp
   |succ m ih=>
    intro hm;rw[List.range_succ,List.map_append,List.sum_append,ih (by omega)];simp[h5 m (by omega),Nat.succ_mul]
  exact this n (Nat.le_refl _)
 refine⟨hlen,fun j u hu=>?_⟩;have hj:j<n*sz:=by
  have:=(List.getElem?_eq_some_iff.1 hu).1;omega
 obtain⟨i,q,hq,rfl⟩:∃i q,q<sz∧j=sz*i+q:=⟨j / sz,j % sz,Nat.mod_lt _ hsz,(Nat.div_add_mod j sz).symm⟩;have hi:i<n:=by
  rcases Nat.lt_or_ge i n with h|h
  ·exact h
  ·exfalso
   have:=Nat.mul_le_mul_left sz h;rw[Nat.mul_comm sz n]at this;omega
 rw[fF,hc i hi q hq];rw[iV (rss:=(List.range n).map vl) (sz:=sz) (fun k hk=>by
  rw[List.length_map,List.length_range]at hk;rw[jc hk];exact h5 k hk) i q (by simpa using hi) hq,jc hi]at hu
 exact hu
theorem fx (w:World) (AL:Option Addr) (g oL n cL:Nat) (vl:Nat→List Value) (hn:n≤1000000000) (hA:0<n→AL=some ⟨g,oL,none⟩) (h5:∀i,i<n→(vl i).length=6)
 (hc:∀i,i<n→∀j,j<6→w.cell? ⟨g,oL+(6*i+j),none⟩=(vl i)[j]?) (h1:∀i,i<n→∀u∈vl i,u.oneCell'=true) :
 Calls Tryz.prog 211 #[.slice AL n cL] w fun e w'=>∃v,e=.returned v∧w'.ownsRow w.heap.size 91 6 v n ((List.range n).map vl).flatten∧Below w.heap.size w w':=by
 cases AL with
 |none=>
  have hn0:n=0:=by
   rcases Nat.eq_zero_or_pos n with h|h
   ·exact h
   ·have:=hA h;cases this
  subst hn0;have hq:(binOp .eql 30 (.slice none 0 cL) (.slice none 0 0)).run Tryz.prog w=.ok (.bool true) w:=Lib.run_eql_slice_nil w 30 91 none 0 cL 0 0 Tryz.underlying30;clear hc h1 h5 hA;go_enter Tryz.func211,Tryz.ntmps211;go_wp2
  go_ret
  exact⟨_,rfl,World.ownsRow_nil _ _ _ _,Below.refl _ _⟩
 |some ad=>
  have hq:(binOp .eql 30 (.slice (some ad) n cL) (.slice none 0 0)).run Tryz.prog w=.ok (.bool false) w:=Lib.run_eql_slice_nil w 30 91 (some ad) n cL 0 0 Tryz.underlying30;obtain⟨i0,hi0,hz0,hz1,hz2⟩:=eI;have hb0:Below w.heap.size w (w.alloc (.cells #[] 91)):=(Below.refl _ _).alloc (Nat.le_refl _) _;obtain⟨f1,f2⟩:=kS (w:=w.alloc (.cells #[] 91)) (by omega) h5 (fun i hi j hj=>by
   have h9:=hc i hi j hj;obtain⟨u,hu⟩:∃u,(vl i)[j]?=some u:=⟨_,List.getElem?_eq_getElem (by rw[h5 i hi];exact hj)⟩;rw[hu]at h9⊢;exact (hb0.cell (ac h9)).trans h9)
  have f2:∀j u,((List.range n).map vl).flatten[j]?=some u→(w.alloc (.cells #[] 91)).cell? (ad.add j)=some u:=fun j u hu=>by
   rcases Nat.eq_zero_or_pos n with h|h
   ·subst h;simp at hu
   ·have e:=hA h
    injection e with e;subst e;exact f2 j u hu
  have f3:∀u∈((List.range n).map vl).flatten,u.oneCell'=true:=fun u hu=>by
   obtain⟨l,hl,hul⟩:=List.mem_flatten.1 hu;obtain⟨i,hi,rfl⟩:=List.mem_map.1 hl;exact h1 i (List.mem_range.1 hi) u hul
  have hO:(w.alloc (.cells #[] 91)).ownsRow w.heap.size 91 6 (.slice (some ⟨w.heap.size,0,none⟩) 0 0) 0 []:=World.ownsRow_made w #[] 0 (Nat.le_refl _) (by decide) rfl;obtain⟨F,hF⟩:∃F,F=((List.range n).map vl).flatten:=⟨_,rfl⟩;rw[←hF]at f1 f2 f3⊢;refine h9_ hF f1 f2 f3 hO hb0 hi0 hz0 hz1 ?_;clear hF f1 f2 f3 hO hb0 hi0 hz0 hz1;intro hF f1 f2 f3 hO hb0 hi0 hz0 hz1;replace hz2:=hi_ hz2;clear hc h1 h5 hA;go_enter Tryz.func211,Tryz.ntmps211;go_wp2_with (at_builtin;refine wpList_append_own_at _ rfl _ _ 30 rfl w.heap.size 91 i0 _ 6 104 Tryz.underlying30 hi0.out hz0.out hz1.out hz2.out rfl (by decide) _ 0 [] rfl hO.out ad n cL F rfl f1.out f2.out f3.out (by unfold maxLen;omega) (by omega) (by rw[World.size_alloc];omega) ?_;intro v' w2 hO2 hg2 _ _;have hB2:Below w.heap.size w w2:=hb0.out.grown hg2 (by rw[World.size_alloc];omega) (fun k hk=>by have h9:=(World.ownsRow.lt hO.out _ hk).1;omega);replace hO2:=hi_ hO2;replace hB2:=hi_ hB2;clear hg2)
  go_ret
  exact⟨_,rfl,by simpa using hO2.out,hB2.out⟩
end
section
open Go Go.RowKit Go.Wk
theorem aR {B B':Nat}{e:TypeId}{sz:Nat}{w:World}{v:Value}{n:Nat}{xs:List Value}(h:w.ownsRow B e sz v n xs) (hB:B'≤B):w.ownsRow B' e sz v n xs:=by
 refine⟨h.1,?_⟩;rcases h.2 with h2|⟨g,cap,cur,e',hb,r⟩
 ·exact .inl h2
 ·exact .inr ⟨g,cap,cur,e',by omega,r⟩
theorem eL {B:Nat}{w:World}{v:Value}{n:Nat}{vl:Nat→List Value}(h:w.ownsRow B 91 6 v n ((List.range n).map vl).flatten) (h5:∀i,i<n→(vl i).length=6) :
 ∃A g c,v=.slice A n c∧(0<n→A=some ⟨g,0,none⟩)∧∀i,i<n→∀j,j<6→w.cell? ⟨g,0+(6*i+j),none⟩=(vl i)[j]?:=by
 rcases h.2 with ⟨rfl,hn⟩|⟨g,cap,cur,rfl,hB,hh,hnc,hcm,hcs,htk⟩
 ·exact⟨none,0,0,by rw[hn],by omega,fun i hi=>by omega⟩
 ·refine⟨_,g,cap,rfl,fun _=>rfl,fun i hi j hj=>?_⟩
  have e1:=iV (rss:=(List.range n).map vl) (sz:=6) (fun k hk=>by rw[List.length_map,List.length_range]at hk;rw[jc hk];exact h5 k hk) i j (by simpa using hi) hj;rw[jc hi]at e1;rw[←e1,←htk,List.getElem?_take,if_pos (by omega),Nat.zero_add];simp[World.cell?,hh]
theorem kU (w:World) (r:Option Nat):w.grownBy w r:=⟨rfl,rfl,rfl,Nat.le_refl _,fun _ _ _=>rfl⟩
theorem dy {w:World}{ops:Array Oper}{rest:List Oper}{o:Oper}{a:Act}{Q:Exit→Act→World→Prop}(hgd:o.guard=none) (s x:Operand)
 (ho:o.op=.call {callee:=.builtin .append,args:=#[s,x],argTypes:=#[30,30]}) (B:Nat) (v:Value) (n:Nat) (xs:List Value) (hs:a.eval s=v) (hR:w.ownsRow B 91 6 v n xs)
 (B2:Nat) (v2:Value) (m:Nat) (news:List Value) (hx:a.eval x=v2) (hR2:w.ownsRow B2 91 6 v2 m news) (h1:∀u∈news,u.oneCell'=true) (hl:n+m≤1000000000) (hB:B≤w.heap.size)
 (h:∀v' w',w'.ownsRow B 91 6 v' (n+m) (xs++news)→w.grownBy w' v.ownBlock→wpList Tryz.prog ops Q rest (a.put o.dst v') w'):wpList Tryz.prog ops Q (o :: rest) a w:=by
 obtain⟨i0,hi0,hz0,hz1,hz2⟩:=eI;rcases hR2.2 with ⟨rfl,hn⟩|⟨g,cap,cur,rfl,hB2,hh,hnc,hcm,hcs,htk⟩
 ·have hnil:news=[]:=by
   have:=hR2.1;rw[hn]at this;exact List.length_eq_zero_iff.1 (by omega)
  subst hnil;subst hn;refine wpList_append_own_none hgd s x 30 ho B 91 i0 6 Tryz.underlying30 hi0 v n xs hs hR hx ?_;exact h v w (by simpa using hR) (kU _ _)
 ·refine wpList_append_own_at w hgd s x 30 ho B 91 i0 _ 6 104 Tryz.underlying30 hi0 hz0 hz1 hz2 rfl (by decide) v n xs hs hR ⟨g,0,none⟩ m cap news hx hR2.1 ?_ h1 (by unfold maxLen;omega) (by omega) hB ?_
  ·exact hR2.cells rfl
  ·intro v' w' h1 h2 _ h3
   exact h v' w' h1 h2
theorem fo (w:World) (us:List Value) (h:us.length=6):(w.alloc (.cells us.toArray 91)).ownsRow w.heap.size 91 6 (.slice (some ⟨w.heap.size,0,none⟩) 1 1) 1 us:=
 ⟨by rw[h],.inr ⟨w.heap.size,1,us.toArray,rfl,Nat.le_refl _,heap_alloc_new w _,Nat.le_refl _,by decide,by simp[h],by rw[List.take_of_length_le (by simp[h])]⟩⟩
theorem rk (w:World) (AL:Option Addr) (g oL n cL:Nat) (vl:Nat→List Value) (key:Nat→ByteArray) (K:ByteArray) (X0 X1 X2 X3 X4:Value) (k:Nat) (hk:k≤n) (hn:n≤100000000) (hnc:n≤cL) (hA:0<n→AL=some ⟨g,oL,none⟩)
 (h5:∀i,i<n→∃c1 c2 c3 c4 c5,vl i=[.string (key i),c1,c2,c3,c4,c5]) (hc:∀i,i<n→∀j,j<6→w.cell? ⟨g,oL+(6*i+j),none⟩=(vl i)[j]?) (h1:∀i,i<n→∀u∈vl i,u.oneCell'=true)
 (hX:∀u∈[Value.string K,X0,X1,X2,X3,X4],u.oneCell'=true)
 (hlt:∀i,i<k→ltB (key i).data.toList K.data.toList=true) (hge:k<n→ltB (key k).data.toList K.data.toList=false) (hne:∀i,i<n→((key i).data.toList == K.data.toList)=false) :
 Calls Tryz.prog 189 #[.slice AL n cL,.agg #[.string K,X0,X1,X2,X3,X4],.func (.func 191) #[] #[],.bool true] w fun e w'=>∃v,e=.returned v∧
  w'.ownsRow w.heap.size 91 6 v (n+1) (((List.range k).map vl).flatten++[.string K,X0,X1,X2,X3,X4]++((List.range (n - k)).map fun i=>vl (k+i)).flatten)∧Below w.heap.size w w':=by
 obtain⟨W1,hW1⟩:∃W,W=w.alloc (.cells #[.string K,X0,X1,X2,X3,X4] 91):=⟨_,rfl⟩;obtain⟨W2,hW2⟩:∃W,W=W1.alloc (.cells #[.func (.func 191) #[] #[]] 225):=⟨_,rfl⟩;have z1:W1.heap.size=w.heap.size+1:=by rw[hW1,World.size_alloc]
 have z2:W2.heap.size=w.heap.size+2:=by rw[hW2,World.size_alloc,z1]
 have hb1:Below w.heap.size w W1:=by rw[hW1];exact (Below.refl _ _).alloc (Nat.le_refl _) _
 have hb12:Below W1.heap.size W1 W2:=by rw[hW2];exact (Below.refl _ _).alloc (Nat.le_refl _) _
 have hb2:Below w.heap.size w W2:=ah hb1 hb12;have fX:=bq (ec hW1) hb12;have fC:W2.cell? ⟨w.heap.size+1,0,none⟩=some (.func (.func 191) #[] #[]):=by rw[hW2,←z1];simp
 -- the closures
 have h6:∀i,i<n→(vl i).length=6:=fun i hi=>by obtain⟨c1,c2,c3,c4,c5,e⟩:=h5 i hi;rw[e];rfl
 have cge:∀W,Below W2.heap.size W2 W→∀i W',i<n→Below W.heap.size W W'→Calls Tryz.prog 208 #[.agg (vl i).toArray,.pointer (some ⟨w.heap.size+1,0,none⟩),.pointer (some ⟨w.heap.size,0,none⟩)] W' fun e w'=>e=.returned (.bool (!ltB (key i).data.toList K.data.toList))∧Below W'.heap.size W' w':=fun W hW i W' hi hB=>by
  obtain⟨c1,c2,c3,c4,c5,e⟩:=h5 i hi;have hD:=ah hW hB;rw[e,←kM];exact nT (key i) K c1 c2 c3 c4 c5 X0 X1 X2 X3 X4 W' _ _ ((hD.cell (ac fC)).trans fC) (bq fX hD)
 have ceq:∀W,Below W2.heap.size W2 W→∀i W',i<n→Below W.heap.size W W'→Calls Tryz.prog 209 #[.agg (vl i).toArray,.pointer (some ⟨w.heap.size+1,0,none⟩),.pointer (some ⟨w.heap.size,0,none⟩)] W' fun e w'=>e=.returned (.bool ((key i).data.toList == K.data.toList))∧Below W'.heap.size W' w':=fun W hW i W' hi hB=>by
  obtain⟨c1,c2,c3,c4,c5,e⟩:=h5 i hi;have hD:=ah hW hB;rw[e,←iT];exact nS (key i) K c1 c2 c3 c4 c5 X0 X1 X2 X3 X4 W' _ _ ((hD.cell (ac fC)).trans fC) (bq fX hD)
 have hcW:∀W,Below w.heap.size w W→∀i,i<n→∀j,j<6→W.cell? ⟨g,oL+(6*i+j),none⟩=(vl i)[j]?:=fun W hW i hi j hj=>by
  have h9:=hc i hi j hj;obtain⟨u,hu⟩:∃u,(vl i)[j]?=some u:=⟨_,List.getElem?_eq_getElem (by rw[h6 i hi];exact hj)⟩;rw[hu]at h9⊢;exact (hW.cell (ac h9)).trans h9
 -- the calls
 have c104:=lY W2 AL g oL n cL (w.heap.size+1) w.heap.size (fun i=>!ltB (key i).data.toList K.data.toList) vl (by omega) hA h6 (hcW W2 hb2) (fun i W hi hB=>cge W2 (Below.refl _ _) i W hi hB);have cl1:∀W,Below W2.heap.size W2 W→Calls Tryz.prog 211 #[.slice AL k cL] W fun e w'=>∃v,e=.returned v∧w'.ownsRow W.heap.size 91 6 v k ((List.range k).map vl).flatten∧Below W.heap.size W w':=fun W hW=>
  fx W AL g oL k cL vl (by omega) (fun h=>hA (by omega)) (fun i hi=>h6 i (by omega)) (fun i hi=>hcW W (ah hb2 hW) i (by omega)) (fun i hi=>h1 i (by omega))
 have cl2:∀W AL2 c2,Below W2.heap.size W2 W→(0<n - k→AL2=some ⟨g,oL+6*k,none⟩)→Calls Tryz.prog 211 #[.slice AL2 (n - k) c2] W fun e w'=>∃v,e=.returned v∧w'.ownsRow W.heap.size 91 6 v (n - k) ((List.range (n - k)).map fun i=>vl (k+i)).flatten∧Below W.heap.size W w':=fun W AL2 c2 hW a1=>by
  refine fx W AL2 g (oL+6*k) (n - k) c2 (fun i=>vl (k+i)) (by omega) a1 (fun i hi=>h6 (k+i) (by omega)) (fun i hi j hj=>?_) (fun i hi=>h1 (k+i) (by omega));rw[←hcW W (ah hb2 hW) (k+i) (by omega) j hj]
  congr 2
  omega
 have cd1:∀W v,Below W2.heap.size W2 W→W.ownsRow W2.heap.size 91 6 v k ((List.range k).map vl).flatten→Calls Tryz.prog 210 #[v,.func (.func 209) #[] #[.pointer (some ⟨w.heap.size+1,0,none⟩),.pointer (some ⟨w.heap.size,0,none⟩)]] W fun e w'=>e=.returned v∧Below W.heap.size W w':=fun W v hW hO=>by
  obtain⟨A,g',c,rfl,q1,q2⟩:=eL hO (fun i hi=>h6 i (by omega));exact fg W A g' 0 k c _ _ (fun i=>(key i).data.toList == K.data.toList) vl (by omega) q1 (fun i hi=>h6 i (by omega)) q2 (fun i W' hi hB=>ceq W hW i W' (by omega) hB) (fun i hi=>hne i (by omega))
 have cd2:∀W v,Below W2.heap.size W2 W→W.ownsRow W2.heap.size 91 6 v (n - k) ((List.range (n - k)).map fun i=>vl (k+i)).flatten→Calls Tryz.prog 210 #[v,.func (.func 209) #[] #[.pointer (some ⟨w.heap.size+1,0,none⟩),.pointer (some ⟨w.heap.size,0,none⟩)]] W fun e w'=>e=.returned v∧Below W.heap.size W w':=fun W v hW hO=>by
  obtain⟨A,g',c,rfl,q1,q2⟩:=eL hO (fun i hi=>h6 (k+i) (by omega));exact fg W A g' 0 (n - k) c _ _ (fun i=>(key (k+i)).data.toList == K.data.toList) (fun i=>vl (k+i)) (by omega) q1 (fun i hi=>h6 (k+i) (by omega)) q2 (fun i W' hi hB=>ceq W hW (k+i) W' (by omega) hB) (fun i hi=>hne (k+i) (by omega))
 obtain⟨m,hm⟩:∃m,m=n - k:=⟨_,rfl⟩;rw[←hm]at cl2 cd2⊢;obtain⟨F1,hF1⟩:∃F,F=((List.range k).map vl).flatten:=⟨_,rfl⟩;obtain⟨F2,hF2⟩:∃F,F=((List.range m).map fun i=>vl (k+i)).flatten:=⟨_,rfl⟩;have o2:∀u∈F2,u.oneCell'=true:=fun u hu=>by
  rw[hF2]at hu;obtain⟨l,hl,hul⟩:=List.mem_flatten.1 hu;obtain⟨i,hi,rfl⟩:=List.mem_map.1 hl;exact h1 (k+i) (by have:=List.mem_range.1 hi;omega) u hul
 rw[←hF1]at cl1 cd1⊢;rw[←hF2]at cl2 cd2⊢;have hfi:du (fun i=>!ltB (key i).data.toList K.data.toList) n=if k<n then (k:Int) else -1:=by
  by_cases h:k<n
  ·rw[if_pos h];exact eJ h (fun i hi=>by simp[hlt i hi]) (by simp[hge h])
  ·rw[if_neg h];exact dX fun i hi=>by simp[hlt i (by omega)]
 rw[hfi]at c104;clear cge ceq hcW hc h5 h1 hlt hge hne hfi h6;obtain⟨f0,f1,f2,f3,f4,f5⟩:=id fX;refine h9_ hA fX fC hb2 hb1 hb12 cl1 cl2 cd1 ?_;clear hA fX fC hb2 hb1 hb12 cl1 cl2 cd1;intro hA fX fC hb2 hb1 hb12 cl1 cl2 cd1;refine h5_ cd2 hF1 hF2 o2 hX ?_;clear cd2 hF1 hF2 o2 hX;intro cd2 hF1 hF2 o2 hX;obtain⟨i0,hi0,hz0,hz1,hz2⟩:=eI;refine h4_ hi0 hz0 hz1 hz2 ?_;clear hi0 hz0 hz1 hz2;intro hi0 hz0 hz1 hz2;go_enter Tryz.func189,Tryz.ntmps189;go_upto_region 1 with (fail)
 rw[←hW1,←hW2];replace hW1:=hi_ hW1;replace hW2:=hi_ hW2;by_cases hkn:k<n
 ·rw[if_pos hkn]at c104
  subst hm;go_wp2_with (first
   |(go_at_call 168;(with_reducible refine c104.mono ?_);rintro e w3 ⟨rfl,hB3⟩;have c108:=cl1.out w3 hB3;replace hB3:=hi_ hB3)
   |(go_at_call 211;(with_reducible refine c108.mono ?_);rintro e w4 ⟨v4,rfl,hO4,hB4⟩;replace hO4:=aR hO4 hB3.out.size;have hD4:=ah hB3.out hB4;have c107:=cd1.out w4 v4 hD4 hO4;replace hO4:=hi_ hO4;replace hD4:=hi_ hD4;clear hB4 c108)
   |(go_at_call 210;(with_reducible refine c107.mono ?_);rintro e w5 ⟨rfl,hB5⟩;have hD5:=ah hD4.out hB5;have hO5:=am hO4.out (fun b _ hb=>hB5.block b hb);obtain⟨y0,y1,y2,y3,y4,y5⟩:=bq fX.out hD5;have hbA:=(Below.refl w5.heap.size w5).alloc (Nat.le_refl _) (.cells #[.string K,X0,X1,X2,X3,X4] 91);have hzA:(w5.alloc (.cells #[.string K,X0,X1,X2,X3,X4] 91)).heap.size=w5.heap.size+1:=(World.size_alloc _ _);have hOA:=am hO5 (fun b _ hb=>hbA.block b hb);have hOX:=fo w5 [.string K,X0,X1,X2,X3,X4] rfl;replace hD5:=hi_ hD5;replace hbA:=hi_ hbA;replace hzA:=hi_ hzA;replace hOA:=hi_ hOA;replace hOX:=hi_ hOX;clear hB5 c107 hO5)
   |(at_builtin;refine dy rfl _ _ rfl W2.heap.size v4 k F1 rfl hOA.out w5.heap.size _ 1 [.string K,X0,X1,X2,X3,X4] rfl hOX.out hX.out (by omega) (by rw[hzA.out];have:=hD5.out.size;omega) ?_;intro v6 w6 hO6 hg6;have hD6:Below W2.heap.size W2 w6:=(ah hD5.out hbA.out).grown hg6 (by rw[hzA.out];have:=hD5.out.size;omega) (fun q hq=>(World.ownsRow.lt hOA.out _ hq).1);have c108b:=cl2.out w6 (Option.map (fun x=>x.add (k*6)) AL) (cL - k) hD6 (fun h=>by rw[hA.out (by omega)];simp[Addr.add,Nat.mul_comm]);replace hO6:=hi_ hO6;clear hg6 hOA;replace hD6:=hi_ hD6)
   |(go_at_call 211;(with_reducible refine c108b.mono ?_);rintro e w7 ⟨v7,rfl,hO7,hB7⟩;replace hO7:=aR hO7 hD6.out.size;have hD7:=ah hD6.out hB7;have c107b:=cd2.out w7 v7 hD7 hO7;have hP7:=am hO6.out (fun b _ hb=>hB7.block b hb);replace hO7:=hi_ hO7;replace hD7:=hi_ hD7;replace hP7:=hi_ hP7;clear hB7 c108b)
   |(go_at_call 210;(with_reducible refine c107b.mono ?_);rintro e w8 ⟨rfl,hB8⟩;have hD8:=ah hD7.out hB8;have hO8:=am hO7.out (fun b _ hb=>hB8.block b hb);have hP8:=am hP7.out (fun b _ hb=>hB8.block b hb);replace hO8:=hi_ hO8;replace hP8:=hi_ hP8;replace hD8:=hi_ hD8;clear hB8 c107b)
   |(at_builtin;refine dy rfl _ _ rfl W2.heap.size v6 (k+1) (F1++[.string K,X0,X1,X2,X3,X4]) rfl hP8.out W2.heap.size _ (n - k) F2 rfl hO8.out o2.out (by omega) hD8.out.size ?_;intro v9 w9 hO9 hg9;have hD9:Below W2.heap.size W2 w9:=hD8.out.grown hg9 hD8.out.size (fun q hq=>(World.ownsRow.lt hP8.out _ hq).1);replace hO9:=hi_ hO9;replace hD9:=hi_ hD9;clear hg9))
  go_ret
  exact⟨v9,rfl,by have h9:=aR hO9.out (B':=w.heap.size) (by omega);rw[show k+1+(n - k)=n+1 by omega]at h9;exact h9,hb2.out.trans (hD9.out.mono (by omega))⟩
 ·obtain rfl:k=n:=by omega
  rw[if_neg (by omega)]at c104;obtain rfl:m=0:=by omega
  clear hm;by_cases hck:cL=k
  ·replace hck:=hck.symm
   subst hck;go_wp2_with (first
    |(go_at_call 168;(with_reducible refine c104.mono ?_);rintro e w3 ⟨rfl,hB3⟩;have c108:=cl1.out w3 hB3;replace hB3:=hi_ hB3)
    |(go_at_call 211;(with_reducible refine c108.mono ?_);rintro e w4 ⟨v4,rfl,hO4,hB4⟩;replace hO4:=aR hO4 hB3.out.size;have hD4:=ah hB3.out hB4;have c107:=cd1.out w4 v4 hD4 hO4;replace hO4:=hi_ hO4;replace hD4:=hi_ hD4;clear hB4 c108)
    |(go_at_call 210;(with_reducible refine c107.mono ?_);rintro e w5 ⟨rfl,hB5⟩;have hD5:=ah hD4.out hB5;have hO5:=am hO4.out (fun b _ hb=>hB5.block b hb);obtain⟨y0,y1,y2,y3,y4,y5⟩:=bq fX.out hD5;have hbA:=(Below.refl w5.heap.size w5).alloc (Nat.le_refl _) (.cells #[.string K,X0,X1,X2,X3,X4] 91);have hzA:(w5.alloc (.cells #[.string K,X0,X1,X2,X3,X4] 91)).heap.size=w5.heap.size+1:=(World.size_alloc _ _);have hOA:=am hO5 (fun b _ hb=>hbA.block b hb);have hOX:=fo w5 [.string K,X0,X1,X2,X3,X4] rfl;replace hD5:=hi_ hD5;replace hbA:=hi_ hbA;replace hzA:=hi_ hzA;replace hOA:=hi_ hOA;replace hOX:=hi_ hOX;clear hB5 c107 hO5)
    |(at_builtin;refine dy rfl _ _ rfl W2.heap.size v4 k F1 rfl hOA.out w5.heap.size _ 1 [.string K,X0,X1,X2,X3,X4] rfl hOX.out hX.out (by omega) (by rw[hzA.out];have:=hD5.out.size;omega) ?_;intro v6 w6 hO6 hg6;have hD6:Below W2.heap.size W2 w6:=(ah hD5.out hbA.out).grown hg6 (by rw[hzA.out];have:=hD5.out.size;omega) (fun q hq=>(World.ownsRow.lt hOA.out _ hq).1);have c108b:=cl2.out w6 AL 0 hD6 (fun h=>by omega);replace hO6:=hi_ hO6;clear hg6 hOA;replace hD6:=hi_ hD6)
    |(go_at_call 211;(with_reducible refine c108b.mono ?_);rintro e w7 ⟨v7,rfl,hO7,hB7⟩;replace hO7:=aR hO7 hD6.out.size;have hD7:=ah hD6.out hB7;have c107b:=cd2.out w7 v7 hD7 hO7;have hP7:=am hO6.out (fun b _ hb=>hB7.block b hb);replace hO7:=hi_ hO7;replace hD7:=hi_ hD7;replace hP7:=hi_ hP7;clear hB7 c108b)
    |(go_at_call 210;(with_reducible refine c107b.mono ?_);rintro e w8 ⟨rfl,hB8⟩;have hD8:=ah hD7.out hB8;have hO8:=am hO7.out (fun b _ hb=>hB8.block b hb);have hP8:=am hP7.out (fun b _ hb=>hB8.block b hb);replace hO8:=hi_ hO8;replace hP8:=hi_ hP8;replace hD8:=hi_ hD8;clear hB8 c107b)
    |(at_builtin;refine dy rfl _ _ rfl W2.heap.size v6 (k+1) (F1++[.string K,X0,X1,X2,X3,X4]) rfl hP8.out W2.heap.size _ 0 F2 rfl hO8.out o2.out (by omega) hD8.out.size ?_;intro v9 w9 hO9 hg9;have hD9:Below W2.heap.size W2 w9:=hD8.out.grown hg9 hD8.out.size (fun q hq=>(World.ownsRow.lt hP8.out _ hq).1);replace hO9:=hi_ hO9;replace hD9:=hi_ hD9;clear hg9))
   go_ret
   exact⟨v9,rfl,by have h9:=aR hO9.out (B':=w.heap.size) (by omega);exact h9,hb2.out.trans (hD9.out.mono (by omega))⟩
  ·have hck2:cL - k≠0:=by omega
   go_wp2_with (first
    |(go_at_call 168;(with_reducible refine c104.mono ?_);rintro e w3 ⟨rfl,hB3⟩;have c108:=cl1.out w3 hB3;replace hB3:=hi_ hB3)
    |(go_at_call 211;(with_reducible refine c108.mono ?_);rintro e w4 ⟨v4,rfl,hO4,hB4⟩;replace hO4:=aR hO4 hB3.out.size;have hD4:=ah hB3.out hB4;have c107:=cd1.out w4 v4 hD4 hO4;replace hO4:=hi_ hO4;replace hD4:=hi_ hD4;clear hB4 c108)
    |(go_at_call 210;(with_reducible refine c107.mono ?_);rintro e w5 ⟨rfl,hB5⟩;have hD5:=ah hD4.out hB5;have hO5:=am hO4.out (fun b _ hb=>hB5.block b hb);obtain⟨y0,y1,y2,y3,y4,y5⟩:=bq fX.out hD5;have hbA:=(Below.refl w5.heap.size w5).alloc (Nat.le_refl _) (.cells #[.string K,X0,X1,X2,X3,X4] 91);have hzA:(w5.alloc (.cells #[.string K,X0,X1,X2,X3,X4] 91)).heap.size=w5.heap.size+1:=(World.size_alloc _ _);have hOA:=am hO5 (fun b _ hb=>hbA.block b hb);have hOX:=fo w5 [.string K,X0,X1,X2,X3,X4] rfl;replace hD5:=hi_ hD5;replace hbA:=hi_ hbA;replace hzA:=hi_ hzA;replace hOA:=hi_ hOA;replace hOX:=hi_ hOX;clear hB5 c107 hO5)
    |(at_builtin;refine dy rfl _ _ rfl W2.heap.size v4 k F1 rfl hOA.out w5.heap.size _ 1 [.string K,X0,X1,X2,X3,X4] rfl hOX.out hX.out (by omega) (by rw[hzA.out];have:=hD5.out.size;omega) ?_;intro v6 w6 hO6 hg6;have hD6:Below W2.heap.size W2 w6:=(ah hD5.out hbA.out).grown hg6 (by rw[hzA.out];have:=hD5.out.size;omega) (fun q hq=>(World.ownsRow.lt hOA.out _ hq).1);have c108b:=cl2.out w6 (Option.map (fun x=>x.add (k*6)) AL) (cL - k) hD6 (fun h=>by omega);replace hO6:=hi_ hO6;clear hg6 hOA;replace hD6:=hi_ hD6)
    |(go_at_call 211;(with_reducible refine c108b.mono ?_);rintro e w7 ⟨v7,rfl,hO7,hB7⟩;replace hO7:=aR hO7 hD6.out.size;have hD7:=ah hD6.out hB7;have c107b:=cd2.out w7 v7 hD7 hO7;have hP7:=am hO6.out (fun b _ hb=>hB7.block b hb);replace hO7:=hi_ hO7;replace hD7:=hi_ hD7;replace hP7:=hi_ hP7;clear hB7 c108b)
    |(go_at_call 210;(with_reducible refine c107b.mono ?_);rintro e w8 ⟨rfl,hB8⟩;have hD8:=ah hD7.out hB8;have hO8:=am hO7.out (fun b _ hb=>hB8.block b hb);have hP8:=am hP7.out (fun b _ hb=>hB8.block b hb);replace hO8:=hi_ hO8;replace hP8:=hi_ hP8;replace hD8:=hi_ hD8;clear hB8 c107b)
    |(at_builtin;refine dy rfl _ _ rfl W2.heap.size v6 (k+1) (F1++[.string K,X0,X1,X2,X3,X4]) rfl hP8.out W2.heap.size _ 0 F2 rfl hO8.out o2.out (by omega) hD8.out.size ?_;intro v9 w9 hO9 hg9;have hD9:Below W2.heap.size W2 w9:=hD8.out.grown hg9 hD8.out.size (fun q hq=>(World.ownsRow.lt hP8.out _ hq).1);replace hO9:=hi_ hO9;replace hD9:=hi_ hD9;clear hg9))
   go_ret
   exact⟨v9,rfl,by have h9:=aR hO9.out (B':=w.heap.size) (by omega);exact h9,hb2.out.trans (hD9.out.mono (by omega))⟩
end
section
open Go Go.RowKit Go.Wk
theorem qT {w:World}{R lo hi:Nat}{o:Ob}{K:ByteArray}{z0 z1 z2 z3 z4 z5 u0 u1 u2 u3 u4:Value}(hR:Blk w R 91 #[z0,z1,z2,z3,z4,z5]) (hI:ObI lo hi w o [u0,u1,u2,u3,u4]) (hlt:R<lo) {Wf:World}
 (hWf:Wf=(((((w.setCell ⟨R,0,none⟩ (.string K)).setCell ⟨R,1,none⟩ u0).setCell ⟨R,2,none⟩ u1).setCell ⟨R,3,none⟩ u2).setCell ⟨R,4,none⟩ u3).setCell ⟨R,5,none⟩ u4) :
 Blk Wf R 91 #[.string K,u0,u1,u2,u3,u4]∧ObI lo Wf.heap.size Wf o [u0,u1,u2,u3,u4]∧w.grownBy Wf (some R)∧Wf.heap.size=w.heap.size:=by
 have hg:w.grownBy Wf (some R):=by
  rw[hWf];exact (((((aj _ _ _ _).trans (aj _ _ _ _)).trans (aj _ _ _ _)).trans (aj _ _ _ _)).trans (aj _ _ _ _)).trans (aj _ _ _ _)
 have hz:Wf.heap.size=w.heap.size:=by rw[hWf];simp[World.setCell]
 refine⟨?_,?_,hg,hz⟩
 ·rw[hWf];exact (((((hR.set_ 0 (.string K)).set_ 1 u0).set_ 2 u1).set_ 3 u2).set_ 4 u3).set_ 5 u4
 ·have h2:=hI.keep (w':=Wf) (fun b h1 h2=>hg.block b (by have:=hI.1;omega) (fun e=>by injection e with e;omega)) (by have:=hI.1;omega)
  exact⟨Nat.le_refl _,fun w2 h3 h4=>h2.2 w2 (fun b h5 h6=>h3 b h5 (by have:=h2.1;omega)) (by have:=h2.1;omega)⟩
theorem nX (o:Ob) (vs:List Value) (w:World) (h:ObAt w o vs) (hbk:o.bulk≤100000000) (K:ByteArray):Calls Tryz.prog 190 #[.string K,.agg vs.toArray] w fun e w'=>∃us,e=.returned (.agg (List.toArray (.string K :: us)))∧ObI w.heap.size w'.heap.size w' o us∧Below w.heap.size w w':=by
 obtain⟨en,E1,E2,E3,en1,ec1,en2,ec2,en3,ec3,hys⟩:=ay h;obtain⟨kk,hkk⟩:∃k,k=o.kind:=⟨_,rfl⟩;rw[←hkk]at hys;subst hys;obtain⟨W1,hW1⟩:∃W,W=w.alloc (.cells #[.int .i64 kk,.int .i64 en,.slice E1 en1 ec1,.slice E2 en2 ec2,.slice E3 en3 ec3] 32):=⟨_,rfl⟩;obtain⟨W2,hW2⟩:∃W,W=W1.alloc (.cells #[.string ⟨#[]⟩,.int .i64 0,.int .i64 0,.slice none 0 0,.slice none 0 0,.slice none 0 0] 91):=⟨_,rfl⟩;have hb1:Below w.heap.size w W1:=by rw[hW1];exact (Below.refl _ _).alloc (Nat.le_refl _) _
 have z1:W1.heap.size=w.heap.size+1:=by rw[hW1,World.size_alloc]
 have hb12:Below W1.heap.size W1 W2:=by rw[hW2];exact (Below.refl _ _).alloc (Nat.le_refl _) _
 have hb2:Below w.heap.size w W2:=ah hb1 hb12;have z2:W2.heap.size=w.heap.size+2:=by rw[hW2,World.size_alloc,z1]
 obtain⟨f0,f1,f2,f3,f4⟩:=ap (cz hW1) hb12;have hR2:Blk W2 (w.heap.size+1) 91 #[.string ⟨#[]⟩,.int .i64 0,.int .i64 0,.slice none 0 0,.slice none 0 0,.slice none 0 0]:=by rw[hW2,←z1];exact Blk.new W1 91 _
 have cc:=gy 100000000 (Nat.le_refl _) o _ W2 (h.kept hb2) hbk;refine h5_ hkk hb2 hb1 hb12 hR2 ?_;clear hkk hb2 hb1 hb12 hR2;intro hkk hb2 hb1 hb12 hR2;clear h hbk;go_enter Tryz.func190,Tryz.ntmps190;go_upto_region 1 with (fail)
 rw[←hW1,←hW2];replace hW1:=hi_ hW1;replace hW2:=hi_ hW2;go_wp2_with (go_at_call 188;(with_reducible refine cc.mono ?_);rintro e' w6 ⟨us,rfl,hI,hB6⟩;obtain⟨en',E1',E2',E3',en1',ec1',en2',ec2',en3',ec3',hys'⟩:=ay hI.ob;rw[←hkk.out]at hys';subst hys';have hRb:=hR2.out.below hB6 (by omega);obtain⟨r0,r1,r2,r3,r4,r5,v0,v1,v2,v3,v4,v5⟩:=hRb.b6;replace hRb:=hi_ hRb;replace hB6:=hi_ hB6;replace hI:=hi_ hI;clear cc)
 generalize hWf:World.setCell _ _ _=Wf;replace hWf:=hWf.symm;obtain⟨hbf,hI2,hg,hz⟩:=qT hRb.out hI.out (by omega) hWf;have hBf:Below w.heap.size w Wf:=(ah hb2.out hB6.out).grown hg (by have:=hB6.out.size;omega) (fun q hq=>by injection hq with hq;omega);obtain⟨u0,u1,u2,u3,u4,u5,-⟩:=hbf.b6;replace hI2:=hi_ (hI2.wide (show w.heap.size≤W2.heap.size by omega));replace hBf:=hi_ hBf;clear hbf hg;replace hWf:=hi_ hWf;exact bodyPost_ret (by simp[results,Tryz.results190,go_sem,u0,u1,u2,u3,u4,u5];try rfl) rfl ⟨[.int .i64 kk,.int .i64 en',.slice E1' en1' ec1',.slice E2' en2' ec2',.slice E3' en3' ec3'],rfl,hI2.out,hBf.out⟩
end
end Go.Proofs.YthffpbkndnhlfaaGreatDoor
