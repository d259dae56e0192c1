/- Walks and laws, joined: part D. No condition. -/
import Derived.Test.YthffpbkndnhlfaaGreatDoorTrJC
import Derived.Deep.DeepCutAuto
import Derived.Lib.ConvBytes
import Derived.Lib.ReflectliteSlice
import Derived.Test.YthffpbkndnhlfaaGreatDoorTrJA
import Derived.Lib.SliceRun
set_option linter.unusedSimpArgs false
set_option linter.unusedVariables false
set_option maxRecDepth 100000
set_option maxHeartbeats 32000000
namespace Go.Proofs.YthffpbkndnhlfaaGreatDoor
open Go Go.RowKit Go.Wk Go.Rd Go.Fx
theorem io (W:World) (c:Nat):(convert 22 9 (.slice none 0 c)).run Tryz.prog W=.ok (.string ⟨#[]⟩) W:=by
 rw[run_convert_bytes_string W 22 9 5 none 0 c Tryz.underlying22 Tryz.underlying5 Tryz.underlying9]
 rfl
theorem cX {B:Nat}{w:World}{A:Option Addr}{b:Bs}{n c:Nat}(h:Own B w (.slice A n c) b):(convert 22 9 (.slice A n c)).run Tryz.prog w=.ok (.string ⟨b.toArray⟩) w:=by
 obtain⟨A9,c9,e9,hby,_⟩:=h.out2L h.lenL;injection e9 with i1 i2 i3;subst i1 i2 i3;cases A with
 |none=>
  have hb:b=[]:=by
   cases b with
   |nil=>rfl
   |cons y l=>obtain⟨b,o,e,_⟩:=hby.2 (by simp);cases e
  subst hb;exact io w c
 |some ad=>
  by_cases h0:0<b.length
  ·obtain⟨g,o,e,_⟩:=hby.2 h0
   injection e with e;subst e;exact fI w g o c b hby
  ·have hb:b=[]:=List.eq_nil_of_length_eq_zero (by omega)
   subst hb;exact run_convert_bytes_back (P:=Tryz.prog) w 22 9 5 ad c [] Tryz.underlying22 Tryz.underlying5 Tryz.underlying9 (fun j hj=>absurd hj (by simp))
def au (plain:Bool) (n:Int) (r:Bs):Int×Bs:=
 if 1≤n∧n≤8388607∧plain=false then
  match ar r with
  | .ok t u=>if t.k=1∧t.n=0 then
   match ar u with
   | .ok s v=>if s.k=9∧s.b=[82] then (9,v) else (2,r)
   | .err _ _=>(2,r)
   else (2,r)
  | .err _ _=>(2,r)
 else (2,r)
theorem rK (pl:Bool) (n:Int) (r:Bs):aZ pl n r=(.mk (au pl n r).1 n [] [] [],(au pl n r).2):=by
 unfold aZ au;split
 ·cases ar r with
  |err e u=>rfl
  |ok t u=>
   simp only[];split
   ·cases ar u with
    |err e v=>rfl
    |ok s v=>
     simp only[];split <;> rfl
   ·rfl
 ·rfl
section
variable {P L R:Nat}{A:Option Addr}{c:Nat}{bs:Bs}{d:Nat}{pl:Bool}{w w':World}{r r' u v:Bs}{k s:Tok}
theorem tY {n:Int}(hn:n<1) (W:World) (h:PS P L R A c bs d pl W r):Calls Tryz.prog 89 #[.pointer (some ⟨P,0,none⟩),.int .i64 n] W fun e w'=>e=.returned (.agg #[.int .i64 (au pl n r).1,.int .i64 n,.slice none 0 0,.slice none 0 0,.slice none 0 0])∧PS P L R A c bs d pl w' (au pl n r).2∧Fr L R W w':=by
 rw[show au pl n r=(2,r) from by unfold au;rw[if_neg (by omega)]];obtain⟨W1,hW1,b1,hT⟩:=ak W 32 #[.int .i64 0,.int .i64 0,.slice none 0 0,.slice none 0 0,.slice none 0 0];have hP:=h.belowW b1;have hLT:=h.L_lt;have hRT:=h.R_lt;have hPT:=h.P_lt;have hAT:=h.a_lt;have hneL:W.heap.size≠L:=by omega
 have hneR:W.heap.size≠R:=by omega
 have hsuf:=h.suf;have cps:=hi_ fun W h=>cQ (P:=P) (L:=L) (R:=R) (A:=A) (c:=c) (bs:=bs) (d:=d) (pl:=pl) (r:=r) W h
 have csk:=hi_ fun (r2:Bs) W h=>bL (P:=P) (L:=L) (R:=R) (A:=A) (c:=c) (bs:=bs) (d:=d) (pl:=pl) (r:=r2) hsuf rfl W h
 obtain⟨p,hp⟩:∃p:Int,p=(pos bs r:Nat):=⟨_,rfl⟩;rw[←hp]at cps csk;have ci:=hi_ fun W=>dg n W
 have p0:=hP.p0;have q0:=hP.q0;have x1:=hP.par.cell 2;have hF:=hi_ (Fr.of_below (L:=L) (R:=R) b1);refine h8_ hp hsuf hP hT b1 hneL hneR hAT ?_;clear hp hsuf hP hT b1 hneL hneR hAT;intro hp hsuf hP hT b1 hneL hneR hAT;clear h;go_enter Tryz.func89,Tryz.ntmps89;go_upto_region 1 with fail
 rw[←hW1];replace hW1:=hi_ hW1;go_wp2_with (first|(go_at_call 14;(with_reducible refine (cps.out _ hP.out).mono ?_);rintro e w2 ⟨rfl,rfl⟩)|(go_at_call 30;(with_reducible refine ((csk.out _) _ hP.out).mono ?_);rintro e w5 ⟨rfl,hP2,hF2⟩;replace hT:=hi_ (hF2.blk hneL.out hneR.out hT.out);replace hF:=hi_ (hF.out.trans hF2);replace hP:=hi_ hP2;clear hP2 hF2)|(go_at_call 122;(with_reducible refine (ci.out _).mono ?_);rintro e w6 ⟨rfl,hB6⟩;have hT2:=hT.out.below hB6 hT.out.lt;obtain⟨z0,z1,z2,z3,z4,v0,v1,v2,v3,v4⟩:=hT2.b5;replace hT2:=hi_ hT2;replace hF:=hi_ (hF.out.trans (Fr.of_below (L:=L) (R:=R) hB6));replace hP:=hi_ (hP.out.belowW hB6);clear hB6))
 generalize hWf:World.setCell _ _ _=Wf;replace hWf:=hWf.symm;obtain⟨hb,hg⟩:=aD hT2.out hWf;obtain⟨u0,u1,u2,u3,u4,-⟩:=hb.b5;have hPf:=hi_ (hP.out.grownL hg (by omega) (by omega) (by omega) (fun h0 x hx=>by have:=hAT.out h0 x hx;omega));have hFf:=hi_ (hF.out.grownL hg (Nat.le_refl _));replace hg:=hi_ hg;replace hWf:=hi_ hWf;clear hb z0 z1 z2 z3 z4 v0 v1 v2 v3 v4;refine bodyPost_ret (by simp[results,Tryz.results89,go_sem,u0,u1,u2,u3,u4];try rfl) rfl ?_;exact⟨rfl,hPf.out,hFf.out⟩
theorem tX {n:Int}(hn1:1≤n) (hn:8388607<n) (W:World) (h:PS P L R A c bs d pl W r):Calls Tryz.prog 89 #[.pointer (some ⟨P,0,none⟩),.int .i64 n] W fun e w'=>e=.returned (.agg #[.int .i64 (au pl n r).1,.int .i64 n,.slice none 0 0,.slice none 0 0,.slice none 0 0])∧PS P L R A c bs d pl w' (au pl n r).2∧Fr L R W w':=by
 rw[show au pl n r=(2,r) from by unfold au;rw[if_neg (by omega)]];obtain⟨W1,hW1,b1,hT⟩:=ak W 32 #[.int .i64 0,.int .i64 0,.slice none 0 0,.slice none 0 0,.slice none 0 0];have hP:=h.belowW b1;have hLT:=h.L_lt;have hRT:=h.R_lt;have hPT:=h.P_lt;have hAT:=h.a_lt;have hneL:W.heap.size≠L:=by omega
 have hneR:W.heap.size≠R:=by omega
 have hsuf:=h.suf;have cps:=hi_ fun W h=>cQ (P:=P) (L:=L) (R:=R) (A:=A) (c:=c) (bs:=bs) (d:=d) (pl:=pl) (r:=r) W h
 have csk:=hi_ fun (r2:Bs) W h=>bL (P:=P) (L:=L) (R:=R) (A:=A) (c:=c) (bs:=bs) (d:=d) (pl:=pl) (r:=r2) hsuf rfl W h
 obtain⟨p,hp⟩:∃p:Int,p=(pos bs r:Nat):=⟨_,rfl⟩;rw[←hp]at cps csk;have ci:=hi_ fun W=>dg n W
 have p0:=hP.p0;have q0:=hP.q0;have x1:=hP.par.cell 2;have hF:=hi_ (Fr.of_below (L:=L) (R:=R) b1);refine h8_ hp hsuf hP hT b1 hneL hneR hAT ?_;clear hp hsuf hP hT b1 hneL hneR hAT;intro hp hsuf hP hT b1 hneL hneR hAT;clear h;go_enter Tryz.func89,Tryz.ntmps89;go_upto_region 1 with fail
 rw[←hW1];replace hW1:=hi_ hW1;go_wp2_with (first|(go_at_call 14;(with_reducible refine (cps.out _ hP.out).mono ?_);rintro e w2 ⟨rfl,rfl⟩)|(go_at_call 30;(with_reducible refine ((csk.out _) _ hP.out).mono ?_);rintro e w5 ⟨rfl,hP2,hF2⟩;replace hT:=hi_ (hF2.blk hneL.out hneR.out hT.out);replace hF:=hi_ (hF.out.trans hF2);replace hP:=hi_ hP2;clear hP2 hF2)|(go_at_call 122;(with_reducible refine (ci.out _).mono ?_);rintro e w6 ⟨rfl,hB6⟩;have hT2:=hT.out.below hB6 hT.out.lt;obtain⟨z0,z1,z2,z3,z4,v0,v1,v2,v3,v4⟩:=hT2.b5;replace hT2:=hi_ hT2;replace hF:=hi_ (hF.out.trans (Fr.of_below (L:=L) (R:=R) hB6));replace hP:=hi_ (hP.out.belowW hB6);clear hB6))
 generalize hWf:World.setCell _ _ _=Wf;replace hWf:=hWf.symm;obtain⟨hb,hg⟩:=aD hT2.out hWf;obtain⟨u0,u1,u2,u3,u4,-⟩:=hb.b5;have hPf:=hi_ (hP.out.grownL hg (by omega) (by omega) (by omega) (fun h0 x hx=>by have:=hAT.out h0 x hx;omega));have hFf:=hi_ (hF.out.grownL hg (Nat.le_refl _));replace hg:=hi_ hg;replace hWf:=hi_ hWf;clear hb z0 z1 z2 z3 z4 v0 v1 v2 v3 v4;refine bodyPost_ret (by simp[results,Tryz.results89,go_sem,u0,u1,u2,u3,u4];try rfl) rfl ?_;exact⟨rfl,hPf.out,hFf.out⟩
theorem ud {n:Int}(hn1:1≤n) (hn:n≤8388607) (W:World) (h:PS P L R A c bs d true W r):Calls Tryz.prog 89 #[.pointer (some ⟨P,0,none⟩),.int .i64 n] W fun e w'=>e=.returned (.agg #[.int .i64 (au true n r).1,.int .i64 n,.slice none 0 0,.slice none 0 0,.slice none 0 0])∧PS P L R A c bs d true w' (au true n r).2∧Fr L R W w':=by
 rw[show au true n r=(2,r) from by unfold au;rw[if_neg (by simp)]];obtain⟨W1,hW1,b1,hT⟩:=ak W 32 #[.int .i64 0,.int .i64 0,.slice none 0 0,.slice none 0 0,.slice none 0 0];have hP:=h.belowW b1;have hLT:=h.L_lt;have hRT:=h.R_lt;have hPT:=h.P_lt;have hAT:=h.a_lt;have hneL:W.heap.size≠L:=by omega
 have hneR:W.heap.size≠R:=by omega
 have hsuf:=h.suf;have cps:=hi_ fun W h=>cQ (P:=P) (L:=L) (R:=R) (A:=A) (c:=c) (bs:=bs) (d:=d) (pl:=true) (r:=r) W h
 have csk:=hi_ fun (r2:Bs) W h=>bL (P:=P) (L:=L) (R:=R) (A:=A) (c:=c) (bs:=bs) (d:=d) (pl:=true) (r:=r2) hsuf rfl W h
 obtain⟨p,hp⟩:∃p:Int,p=(pos bs r:Nat):=⟨_,rfl⟩;rw[←hp]at cps csk;have ci:=hi_ fun W=>dg n W
 have p0:=hP.p0;have q0:=hP.q0;have x1:=hP.par.cell 2;have hF:=hi_ (Fr.of_below (L:=L) (R:=R) b1);refine h8_ hp hsuf hP hT b1 hneL hneR hAT ?_;clear hp hsuf hP hT b1 hneL hneR hAT;intro hp hsuf hP hT b1 hneL hneR hAT;clear h;go_enter Tryz.func89,Tryz.ntmps89;go_upto_region 1 with fail
 rw[←hW1];replace hW1:=hi_ hW1;go_wp2_with (first|(go_at_call 14;(with_reducible refine (cps.out _ hP.out).mono ?_);rintro e w2 ⟨rfl,rfl⟩)|(go_at_call 30;(with_reducible refine ((csk.out _) _ hP.out).mono ?_);rintro e w5 ⟨rfl,hP2,hF2⟩;replace hT:=hi_ (hF2.blk hneL.out hneR.out hT.out);replace hF:=hi_ (hF.out.trans hF2);replace hP:=hi_ hP2;clear hP2 hF2)|(go_at_call 122;(with_reducible refine (ci.out _).mono ?_);rintro e w6 ⟨rfl,hB6⟩;have hT2:=hT.out.below hB6 hT.out.lt;obtain⟨z0,z1,z2,z3,z4,v0,v1,v2,v3,v4⟩:=hT2.b5;replace hT2:=hi_ hT2;replace hF:=hi_ (hF.out.trans (Fr.of_below (L:=L) (R:=R) hB6));replace hP:=hi_ (hP.out.belowW hB6);clear hB6))
 generalize hWf:World.setCell _ _ _=Wf;replace hWf:=hWf.symm;obtain⟨hb,hg⟩:=aD hT2.out hWf;obtain⟨u0,u1,u2,u3,u4,-⟩:=hb.b5;have hPf:=hi_ (hP.out.grownL hg (by omega) (by omega) (by omega) (fun h0 x hx=>by have:=hAT.out h0 x hx;omega));have hFf:=hi_ (hF.out.grownL hg (Nat.le_refl _));replace hg:=hi_ hg;replace hWf:=hi_ hWf;clear hb z0 z1 z2 z3 z4 v0 v1 v2 v3 v4;refine bodyPost_ret (by simp[results,Tryz.results89,go_sem,u0,u1,u2,u3,u4];try rfl) rfl ?_;exact⟨rfl,hPf.out,hFf.out⟩
theorem tV {n:Int}(hn1:1≤n) (hn:n≤8388607) {er:Int}(ht:ar r=.err er u) (W:World) (h:PS P L R A c bs d false W r):Calls Tryz.prog 89 #[.pointer (some ⟨P,0,none⟩),.int .i64 n] W fun e w'=>e=.returned (.agg #[.int .i64 (au false n r).1,.int .i64 n,.slice none 0 0,.slice none 0 0,.slice none 0 0])∧PS P L R A c bs d false w' (au false n r).2∧Fr L R W w':=by
 rw[show au false n r=(2,r) from by unfold au;rw[if_pos ⟨hn1,hn,rfl⟩];rw[ht]];obtain⟨W1,hW1,b1,hT⟩:=ak W 32 #[.int .i64 0,.int .i64 0,.slice none 0 0,.slice none 0 0,.slice none 0 0];have hP:=h.belowW b1;have hLT:=h.L_lt;have hRT:=h.R_lt;have hPT:=h.P_lt;have hAT:=h.a_lt;have hneL:W.heap.size≠L:=by omega
 have hneR:W.heap.size≠R:=by omega
 have hsuf:=h.suf;have cps:=hi_ fun W h=>cQ (P:=P) (L:=L) (R:=R) (A:=A) (c:=c) (bs:=bs) (d:=d) (pl:=false) (r:=r) W h
 have csk:=hi_ fun (r2:Bs) W h=>bL (P:=P) (L:=L) (R:=R) (A:=A) (c:=c) (bs:=bs) (d:=d) (pl:=false) (r:=r2) hsuf rfl W h
 obtain⟨p,hp⟩:∃p:Int,p=(pos bs r:Nat):=⟨_,rfl⟩;rw[←hp]at cps csk;have ci:=hi_ fun W=>dg n W
 have ct:=hi_ fun W h=>eY (P:=P) (L:=L) (R:=R) (A:=A) (c:=c) (bs:=bs) (d:=d) (pl:=false) ht rfl W h
 obtain⟨at1,ha1⟩:∃a:Int,a=(pos bs (af false r):Nat):=⟨_,rfl⟩;rw[←ha1]at ct;replace ha1:=hi_ ha1;have p0:=hP.p0;have q0:=hP.q0;have x1:=hP.par.cell 2;have hF:=hi_ (Fr.of_below (L:=L) (R:=R) b1);refine h8_ hp hsuf hP hT b1 hneL hneR hAT ?_;clear hp hsuf hP hT b1 hneL hneR hAT;intro hp hsuf hP hT b1 hneL hneR hAT;clear h;go_enter Tryz.func89,Tryz.ntmps89;go_upto_region 1 with fail
 rw[←hW1];replace hW1:=hi_ hW1;go_upto_region 4 with (first|(go_at_call 14;(with_reducible refine (cps.out _ hP.out).mono ?_);rintro e w2 ⟨rfl,rfl⟩)|(go_at_call 82;(with_reducible refine (ct.out _ hP.out).mono ?_);rintro e w4 ⟨hn0,rfl,hP2,hF2⟩;replace hT:=hi_ (hF2.blk hneL.out hneR.out hT.out);replace hF:=hi_ (hF.out.trans hF2);have hnb:=bne_iff_ne.2 hn0;have hnb2:=beq_eq_false_iff_ne.2 hn0;replace hn0:=hi_ hn0;replace hP:=hi_ hP2;replace p0:=hP.out.p0;replace q0:=hP.out.q0;replace x1:=hP.out.par.cell 2;clear hP2 hF2))
 obtain⟨W7,hW7,b7,hU7⟩:=ak w4 108 #[.int .i64 0,.int .i64 at1,.int .i64 0,.slice none 0 0];rw[←hW7];replace hT:=hi_ (hT.out.below b7 hT.out.lt);replace hP:=hi_ (hP.out.belowW b7);replace hF:=hi_ (hF.out.trans (Fr.of_below (L:=L) (R:=R) b7));replace p0:=hP.out.p0;replace q0:=hP.out.q0;replace x1:=hP.out.par.cell 2;have t70:=hU7.cell 0;have t72:=hU7.cell 2;have t73:=hU7.cell 3;refine h3_ hU7 b7 hW7 ?_;clear hU7 b7 hW7;intro hU7 b7 hW7;go_wp2_with (first|(go_at_call 30;(with_reducible refine ((csk.out _) _ hP.out).mono ?_);rintro e w5 ⟨rfl,hP2,hF2⟩;replace hT:=hi_ (hF2.blk hneL.out hneR.out hT.out);replace hF:=hi_ (hF.out.trans hF2);replace hP:=hi_ hP2;clear hP2 hF2)|(go_at_call 122;(with_reducible refine (ci.out _).mono ?_);rintro e w6 ⟨rfl,hB6⟩;have hT2:=hT.out.below hB6 hT.out.lt;obtain⟨z0,z1,z2,z3,z4,v0,v1,v2,v3,v4⟩:=hT2.b5;replace hT2:=hi_ hT2;replace hF:=hi_ (hF.out.trans (Fr.of_below (L:=L) (R:=R) hB6));replace hP:=hi_ (hP.out.belowW hB6);clear hB6))
 generalize hWf:World.setCell _ _ _=Wf;replace hWf:=hWf.symm;obtain⟨hb,hg⟩:=aD hT2.out hWf;obtain⟨u0,u1,u2,u3,u4,-⟩:=hb.b5;have hPf:=hi_ (hP.out.grownL hg (by omega) (by omega) (by omega) (fun h0 x hx=>by have:=hAT.out h0 x hx;omega));have hFf:=hi_ (hF.out.grownL hg (Nat.le_refl _));replace hg:=hi_ hg;replace hWf:=hi_ hWf;clear hb z0 z1 z2 z3 z4 v0 v1 v2 v3 v4;refine bodyPost_ret (by simp[results,Tryz.results89,go_sem,u0,u1,u2,u3,u4];try rfl) rfl ?_;exact⟨rfl,hPf.out,hFf.out⟩
theorem tZ {n:Int}(hn1:1≤n) (hn:n≤8388607) (ht:ar r=.ok k u) (hk:¬k.k=1) (W:World) (h:PS P L R A c bs d false W r):Calls Tryz.prog 89 #[.pointer (some ⟨P,0,none⟩),.int .i64 n] W fun e w'=>e=.returned (.agg #[.int .i64 (au false n r).1,.int .i64 n,.slice none 0 0,.slice none 0 0,.slice none 0 0])∧PS P L R A c bs d false w' (au false n r).2∧Fr L R W w':=by
 rw[show au false n r=(2,r) from by unfold au;rw[if_pos ⟨hn1,hn,rfl⟩];rw[ht];simp only[];rw[if_neg (fun h=>hk h.1)]];obtain⟨W1,hW1,b1,hT⟩:=ak W 32 #[.int .i64 0,.int .i64 0,.slice none 0 0,.slice none 0 0,.slice none 0 0];have hP:=h.belowW b1;have hLT:=h.L_lt;have hRT:=h.R_lt;have hPT:=h.P_lt;have hAT:=h.a_lt;have hneL:W.heap.size≠L:=by omega
 have hneR:W.heap.size≠R:=by omega
 have hsuf:=h.suf;have cps:=hi_ fun W h=>cQ (P:=P) (L:=L) (R:=R) (A:=A) (c:=c) (bs:=bs) (d:=d) (pl:=false) (r:=r) W h
 have csk:=hi_ fun (r2:Bs) W h=>bL (P:=P) (L:=L) (R:=R) (A:=A) (c:=c) (bs:=bs) (d:=d) (pl:=false) (r:=r2) hsuf rfl W h
 obtain⟨p,hp⟩:∃p:Int,p=(pos bs r:Nat):=⟨_,rfl⟩;rw[←hp]at cps csk;have ci:=hi_ fun W=>dg n W
 have ct:=hi_ fun W h=>bF (P:=P) (L:=L) (R:=R) (A:=A) (c:=c) (bs:=bs) (d:=d) (pl:=false) ht rfl W h
 obtain⟨at1,ha1⟩:∃a:Int,a=(pos bs (af false r):Nat):=⟨_,rfl⟩;rw[←ha1]at ct;replace ha1:=hi_ ha1;obtain⟨kk,hkk⟩:∃x,x=k.k:=⟨_,rfl⟩;obtain⟨kn,hkn⟩:∃x,x=k.n:=⟨_,rfl⟩;rw[←hkk,←hkn]at ct;rw[←hkk]at hk;replace hkk:=hi_ hkk;replace hkn:=hi_ hkn;have p0:=hP.p0;have q0:=hP.q0;have x1:=hP.par.cell 2;have hF:=hi_ (Fr.of_below (L:=L) (R:=R) b1);refine h8_ hp hsuf hP hT b1 hneL hneR hAT ?_;clear hp hsuf hP hT b1 hneL hneR hAT;intro hp hsuf hP hT b1 hneL hneR hAT;clear h;go_enter Tryz.func89,Tryz.ntmps89;go_upto_region 1 with fail
 rw[←hW1];replace hW1:=hi_ hW1;go_upto_region 4 with (first|(go_at_call 14;(with_reducible refine (cps.out _ hP.out).mono ?_);rintro e w2 ⟨rfl,rfl⟩)|(go_at_call 82;(with_reducible refine (ct.out _ hP.out).mono ?_);rintro e w4 ⟨a2,c2,rfl,hO,hP2,hF2⟩;replace hT:=hi_ (hF2.blk hneL.out hneR.out hT.out);replace hF:=hi_ (hF.out.trans hF2);replace hO:=hi_ hO;replace hP:=hi_ hP2;replace p0:=hP.out.p0;replace q0:=hP.out.q0;replace x1:=hP.out.par.cell 2;clear hP2 hF2))
 obtain⟨W7,hW7,b7,hU7⟩:=ak w4 108 #[.int .i64 kk,.int .i64 at1,.int .i64 kn,.slice a2 k.b.length c2];rw[←hW7];replace hT:=hi_ (hT.out.below b7 hT.out.lt);replace hP:=hi_ (hP.out.belowW b7);replace hF:=hi_ (hF.out.trans (Fr.of_below (L:=L) (R:=R) b7));replace p0:=hP.out.p0;replace q0:=hP.out.q0;replace x1:=hP.out.par.cell 2;have t70:=hU7.cell 0;have t72:=hU7.cell 2;have t73:=hU7.cell 3;replace hO:=hi_ (hO.out.below b7);refine h3_ hU7 b7 hW7 ?_;clear hU7 b7 hW7;intro hU7 b7 hW7;go_wp2_with (first|(go_at_call 30;(with_reducible refine ((csk.out _) _ hP.out).mono ?_);rintro e w5 ⟨rfl,hP2,hF2⟩;replace hT:=hi_ (hF2.blk hneL.out hneR.out hT.out);replace hF:=hi_ (hF.out.trans hF2);replace hP:=hi_ hP2;clear hP2 hF2)|(go_at_call 122;(with_reducible refine (ci.out _).mono ?_);rintro e w6 ⟨rfl,hB6⟩;have hT2:=hT.out.below hB6 hT.out.lt;obtain⟨z0,z1,z2,z3,z4,v0,v1,v2,v3,v4⟩:=hT2.b5;replace hT2:=hi_ hT2;replace hF:=hi_ (hF.out.trans (Fr.of_below (L:=L) (R:=R) hB6));replace hP:=hi_ (hP.out.belowW hB6);clear hB6))
 generalize hWf:World.setCell _ _ _=Wf;replace hWf:=hWf.symm;obtain⟨hb,hg⟩:=aD hT2.out hWf;obtain⟨u0,u1,u2,u3,u4,-⟩:=hb.b5;have hPf:=hi_ (hP.out.grownL hg (by omega) (by omega) (by omega) (fun h0 x hx=>by have:=hAT.out h0 x hx;omega));have hFf:=hi_ (hF.out.grownL hg (Nat.le_refl _));replace hg:=hi_ hg;replace hWf:=hi_ hWf;clear hb z0 z1 z2 z3 z4 v0 v1 v2 v3 v4;refine bodyPost_ret (by simp[results,Tryz.results89,go_sem,u0,u1,u2,u3,u4];try rfl) rfl ?_;exact⟨rfl,hPf.out,hFf.out⟩
theorem ua {n:Int}(hn1:1≤n) (hn:n≤8388607) (ht:ar r=.ok k u) (hk:k.k=1) (hk0:¬k.n=0) (W:World) (h:PS P L R A c bs d false W r):Calls Tryz.prog 89 #[.pointer (some ⟨P,0,none⟩),.int .i64 n] W fun e w'=>e=.returned (.agg #[.int .i64 (au false n r).1,.int .i64 n,.slice none 0 0,.slice none 0 0,.slice none 0 0])∧PS P L R A c bs d false w' (au false n r).2∧Fr L R W w':=by
 rw[show au false n r=(2,r) from by unfold au;rw[if_pos ⟨hn1,hn,rfl⟩];rw[ht];simp only[];rw[if_neg (fun h=>hk0 h.2)]];obtain⟨W1,hW1,b1,hT⟩:=ak W 32 #[.int .i64 0,.int .i64 0,.slice none 0 0,.slice none 0 0,.slice none 0 0];have hP:=h.belowW b1;have hLT:=h.L_lt;have hRT:=h.R_lt;have hPT:=h.P_lt;have hAT:=h.a_lt;have hneL:W.heap.size≠L:=by omega
 have hneR:W.heap.size≠R:=by omega
 have hsuf:=h.suf;have cps:=hi_ fun W h=>cQ (P:=P) (L:=L) (R:=R) (A:=A) (c:=c) (bs:=bs) (d:=d) (pl:=false) (r:=r) W h
 have csk:=hi_ fun (r2:Bs) W h=>bL (P:=P) (L:=L) (R:=R) (A:=A) (c:=c) (bs:=bs) (d:=d) (pl:=false) (r:=r2) hsuf rfl W h
 obtain⟨p,hp⟩:∃p:Int,p=(pos bs r:Nat):=⟨_,rfl⟩;rw[←hp]at cps csk;have ci:=hi_ fun W=>dg n W
 have ct:=hi_ fun W h=>bF (P:=P) (L:=L) (R:=R) (A:=A) (c:=c) (bs:=bs) (d:=d) (pl:=false) ht rfl W h
 obtain⟨at1,ha1⟩:∃a:Int,a=(pos bs (af false r):Nat):=⟨_,rfl⟩;rw[←ha1]at ct;replace ha1:=hi_ ha1;obtain⟨kk,hkk⟩:∃x,x=k.k:=⟨_,rfl⟩;obtain⟨kn,hkn⟩:∃x,x=k.n:=⟨_,rfl⟩;rw[←hkk,←hkn]at ct;rw[←hkk]at hk;rw[←hkn]at hk0;replace hkk:=hi_ hkk;replace hkn:=hi_ hkn;subst hk;have p0:=hP.p0;have q0:=hP.q0;have x1:=hP.par.cell 2;have hF:=hi_ (Fr.of_below (L:=L) (R:=R) b1);refine h8_ hp hsuf hP hT b1 hneL hneR hAT ?_;clear hp hsuf hP hT b1 hneL hneR hAT;intro hp hsuf hP hT b1 hneL hneR hAT;clear h;go_enter Tryz.func89,Tryz.ntmps89;go_upto_region 1 with fail
 rw[←hW1];replace hW1:=hi_ hW1;go_upto_region 4 with (first|(go_at_call 14;(with_reducible refine (cps.out _ hP.out).mono ?_);rintro e w2 ⟨rfl,rfl⟩)|(go_at_call 82;(with_reducible refine (ct.out _ hP.out).mono ?_);rintro e w4 ⟨a2,c2,rfl,hO,hP2,hF2⟩;replace hT:=hi_ (hF2.blk hneL.out hneR.out hT.out);replace hF:=hi_ (hF.out.trans hF2);replace hO:=hi_ hO;replace hP:=hi_ hP2;replace p0:=hP.out.p0;replace q0:=hP.out.q0;replace x1:=hP.out.par.cell 2;clear hP2 hF2))
 obtain⟨W7,hW7,b7,hU7⟩:=ak w4 108 #[.int .i64 1,.int .i64 at1,.int .i64 kn,.slice a2 k.b.length c2];rw[←hW7];replace hT:=hi_ (hT.out.below b7 hT.out.lt);replace hP:=hi_ (hP.out.belowW b7);replace hF:=hi_ (hF.out.trans (Fr.of_below (L:=L) (R:=R) b7));replace p0:=hP.out.p0;replace q0:=hP.out.q0;replace x1:=hP.out.par.cell 2;have t70:=hU7.cell 0;have t72:=hU7.cell 2;have t73:=hU7.cell 3;replace hO:=hi_ (hO.out.below b7);refine h3_ hU7 b7 hW7 ?_;clear hU7 b7 hW7;intro hU7 b7 hW7;go_wp2_with (first|(go_at_call 30;(with_reducible refine ((csk.out _) _ hP.out).mono ?_);rintro e w5 ⟨rfl,hP2,hF2⟩;replace hT:=hi_ (hF2.blk hneL.out hneR.out hT.out);replace hF:=hi_ (hF.out.trans hF2);replace hP:=hi_ hP2;clear hP2 hF2)|(go_at_call 122;(with_reducible refine (ci.out _).mono ?_);rintro e w6 ⟨rfl,hB6⟩;have hT2:=hT.out.below hB6 hT.out.lt;obtain⟨z0,z1,z2,z3,z4,v0,v1,v2,v3,v4⟩:=hT2.b5;replace hT2:=hi_ hT2;replace hF:=hi_ (hF.out.trans (Fr.of_below (L:=L) (R:=R) hB6));replace hP:=hi_ (hP.out.belowW hB6);clear hB6))
 generalize hWf:World.setCell _ _ _=Wf;replace hWf:=hWf.symm;obtain⟨hb,hg⟩:=aD hT2.out hWf;obtain⟨u0,u1,u2,u3,u4,-⟩:=hb.b5;have hPf:=hi_ (hP.out.grownL hg (by omega) (by omega) (by omega) (fun h0 x hx=>by have:=hAT.out h0 x hx;omega));have hFf:=hi_ (hF.out.grownL hg (Nat.le_refl _));replace hg:=hi_ hg;replace hWf:=hi_ hWf;clear hb z0 z1 z2 z3 z4 v0 v1 v2 v3 v4;refine bodyPost_ret (by simp[results,Tryz.results89,go_sem,u0,u1,u2,u3,u4];try rfl) rfl ?_;exact⟨rfl,hPf.out,hFf.out⟩
theorem tW {n:Int}(hn1:1≤n) (hn:n≤8388607) {er:Int}(ht:ar r=.ok k u) (hk:k.k=1) (hk0:k.n=0) (ht2:ar u=.err er v) (W:World) (h:PS P L R A c bs d false W r):Calls Tryz.prog 89 #[.pointer (some ⟨P,0,none⟩),.int .i64 n] W fun e w'=>e=.returned (.agg #[.int .i64 (au false n r).1,.int .i64 n,.slice none 0 0,.slice none 0 0,.slice none 0 0])∧PS P L R A c bs d false w' (au false n r).2∧Fr L R W w':=by
 rw[show au false n r=(2,r) from by unfold au;rw[if_pos ⟨hn1,hn,rfl⟩];rw[ht];simp only[];rw[if_pos ⟨hk,hk0⟩];simp only[ht2]];obtain⟨W1,hW1,b1,hT⟩:=ak W 32 #[.int .i64 0,.int .i64 0,.slice none 0 0,.slice none 0 0,.slice none 0 0];have hP:=h.belowW b1;have hLT:=h.L_lt;have hRT:=h.R_lt;have hPT:=h.P_lt;have hAT:=h.a_lt;have hneL:W.heap.size≠L:=by omega
 have hneR:W.heap.size≠R:=by omega
 have hsuf:=h.suf;have cps:=hi_ fun W h=>cQ (P:=P) (L:=L) (R:=R) (A:=A) (c:=c) (bs:=bs) (d:=d) (pl:=false) (r:=r) W h
 have csk:=hi_ fun (r2:Bs) W h=>bL (P:=P) (L:=L) (R:=R) (A:=A) (c:=c) (bs:=bs) (d:=d) (pl:=false) (r:=r2) hsuf rfl W h
 obtain⟨p,hp⟩:∃p:Int,p=(pos bs r:Nat):=⟨_,rfl⟩;rw[←hp]at cps csk;have ci:=hi_ fun W=>dg n W
 have ct:=hi_ fun W h=>bF (P:=P) (L:=L) (R:=R) (A:=A) (c:=c) (bs:=bs) (d:=d) (pl:=false) ht rfl W h
 obtain⟨at1,ha1⟩:∃a:Int,a=(pos bs (af false r):Nat):=⟨_,rfl⟩;rw[←ha1]at ct;replace ha1:=hi_ ha1;obtain⟨kk,hkk⟩:∃x,x=k.k:=⟨_,rfl⟩;obtain⟨kn,hkn⟩:∃x,x=k.n:=⟨_,rfl⟩;rw[←hkk,←hkn]at ct;rw[←hkk]at hk;rw[←hkn]at hk0;replace hkk:=hi_ hkk;replace hkn:=hi_ hkn;subst hk;subst hk0;have ct2:=hi_ fun W h=>eY (P:=P) (L:=L) (R:=R) (A:=A) (c:=c) (bs:=bs) (d:=d) (pl:=false) ht2 rfl W h
 obtain⟨at2,ha2⟩:∃a:Int,a=(pos bs (af false u):Nat):=⟨_,rfl⟩;rw[←ha2]at ct2;replace ha2:=hi_ ha2;have p0:=hP.p0;have q0:=hP.q0;have x1:=hP.par.cell 2;have hF:=hi_ (Fr.of_below (L:=L) (R:=R) b1);refine h8_ hp hsuf hP hT b1 hneL hneR hAT ?_;clear hp hsuf hP hT b1 hneL hneR hAT;intro hp hsuf hP hT b1 hneL hneR hAT;clear h;go_enter Tryz.func89,Tryz.ntmps89;go_upto_region 1 with fail
 rw[←hW1];replace hW1:=hi_ hW1;go_upto_region 4 with (first|(go_at_call 14;(with_reducible refine (cps.out _ hP.out).mono ?_);rintro e w2 ⟨rfl,rfl⟩)|(go_at_call 82;(with_reducible refine (ct.out _ hP.out).mono ?_);rintro e w4 ⟨a2,c2,rfl,hO,hP2,hF2⟩;replace hT:=hi_ (hF2.blk hneL.out hneR.out hT.out);replace hF:=hi_ (hF.out.trans hF2);replace hO:=hi_ hO;replace hP:=hi_ hP2;replace p0:=hP.out.p0;replace q0:=hP.out.q0;replace x1:=hP.out.par.cell 2;clear hP2 hF2))
 obtain⟨W7,hW7,b7,hU7⟩:=ak w4 108 #[.int .i64 1,.int .i64 at1,.int .i64 0,.slice a2 k.b.length c2];rw[←hW7];replace hT:=hi_ (hT.out.below b7 hT.out.lt);replace hP:=hi_ (hP.out.belowW b7);replace hF:=hi_ (hF.out.trans (Fr.of_below (L:=L) (R:=R) b7));replace p0:=hP.out.p0;replace q0:=hP.out.q0;replace x1:=hP.out.par.cell 2;have t70:=hU7.cell 0;have t72:=hU7.cell 2;have t73:=hU7.cell 3;replace hO:=hi_ (hO.out.below b7);refine h3_ hU7 b7 hW7 ?_;clear hU7 b7 hW7;intro hU7 b7 hW7;go_upto_region 6 with (first|(go_at_call 82;(with_reducible refine (ct2.out _ hP.out).mono ?_);rintro e w4 ⟨hn0,rfl,hP2,hF2⟩;replace hT:=hi_ (hF2.blk hneL.out hneR.out hT.out);replace hF:=hi_ (hF.out.trans hF2);have hnb:=bne_iff_ne.2 hn0;have hnb2:=beq_eq_false_iff_ne.2 hn0;replace hn0:=hi_ hn0;replace hP:=hi_ hP2;replace p0:=hP.out.p0;replace q0:=hP.out.q0;replace x1:=hP.out.par.cell 2;clear hP2 hF2))
 obtain⟨W8,hW8,b8,hU8⟩:=ak w4 108 #[.int .i64 0,.int .i64 at2,.int .i64 0,.slice none 0 0];rw[←hW8];replace hT:=hi_ (hT.out.below b8 hT.out.lt);replace hP:=hi_ (hP.out.belowW b8);replace hF:=hi_ (hF.out.trans (Fr.of_below (L:=L) (R:=R) b8));replace p0:=hP.out.p0;replace q0:=hP.out.q0;replace x1:=hP.out.par.cell 2;have t80:=hU8.cell 0;have t82:=hU8.cell 2;have t83:=hU8.cell 3;refine h3_ hU8 b8 hW8 ?_;clear hU8 b8 hW8;intro hU8 b8 hW8;go_wp2_with (first|(go_at_call 30;(with_reducible refine ((csk.out _) _ hP.out).mono ?_);rintro e w5 ⟨rfl,hP2,hF2⟩;replace hT:=hi_ (hF2.blk hneL.out hneR.out hT.out);replace hF:=hi_ (hF.out.trans hF2);replace hP:=hi_ hP2;clear hP2 hF2)|(go_at_call 122;(with_reducible refine (ci.out _).mono ?_);rintro e w6 ⟨rfl,hB6⟩;have hT2:=hT.out.below hB6 hT.out.lt;obtain⟨z0,z1,z2,z3,z4,v0,v1,v2,v3,v4⟩:=hT2.b5;replace hT2:=hi_ hT2;replace hF:=hi_ (hF.out.trans (Fr.of_below (L:=L) (R:=R) hB6));replace hP:=hi_ (hP.out.belowW hB6);clear hB6))
 generalize hWf:World.setCell _ _ _=Wf;replace hWf:=hWf.symm;obtain⟨hb,hg⟩:=aD hT2.out hWf;obtain⟨u0,u1,u2,u3,u4,-⟩:=hb.b5;have hPf:=hi_ (hP.out.grownL hg (by omega) (by omega) (by omega) (fun h0 x hx=>by have:=hAT.out h0 x hx;omega));have hFf:=hi_ (hF.out.grownL hg (Nat.le_refl _));replace hg:=hi_ hg;replace hWf:=hi_ hWf;clear hb z0 z1 z2 z3 z4 v0 v1 v2 v3 v4;refine bodyPost_ret (by simp[results,Tryz.results89,go_sem,u0,u1,u2,u3,u4];try rfl) rfl ?_;exact⟨rfl,hPf.out,hFf.out⟩
theorem ub {n:Int}(hn1:1≤n) (hn:n≤8388607) (ht:ar r=.ok k u) (hk:k.k=1) (hk0:k.n=0) (ht2:ar u=.ok s v) (hs:¬s.k=9) (W:World) (h:PS P L R A c bs d false W r):Calls Tryz.prog 89 #[.pointer (some ⟨P,0,none⟩),.int .i64 n] W fun e w'=>e=.returned (.agg #[.int .i64 (au false n r).1,.int .i64 n,.slice none 0 0,.slice none 0 0,.slice none 0 0])∧PS P L R A c bs d false w' (au false n r).2∧Fr L R W w':=by
 rw[show au false n r=(2,r) from by unfold au;rw[if_pos ⟨hn1,hn,rfl⟩];rw[ht];simp only[];rw[if_pos ⟨hk,hk0⟩];simp only[ht2];rw[if_neg (fun h=>hs h.1)]];obtain⟨W1,hW1,b1,hT⟩:=ak W 32 #[.int .i64 0,.int .i64 0,.slice none 0 0,.slice none 0 0,.slice none 0 0];have hP:=h.belowW b1;have hLT:=h.L_lt;have hRT:=h.R_lt;have hPT:=h.P_lt;have hAT:=h.a_lt;have hneL:W.heap.size≠L:=by omega
 have hneR:W.heap.size≠R:=by omega
 have hsuf:=h.suf;have cps:=hi_ fun W h=>cQ (P:=P) (L:=L) (R:=R) (A:=A) (c:=c) (bs:=bs) (d:=d) (pl:=false) (r:=r) W h
 have csk:=hi_ fun (r2:Bs) W h=>bL (P:=P) (L:=L) (R:=R) (A:=A) (c:=c) (bs:=bs) (d:=d) (pl:=false) (r:=r2) hsuf rfl W h
 obtain⟨p,hp⟩:∃p:Int,p=(pos bs r:Nat):=⟨_,rfl⟩;rw[←hp]at cps csk;have ci:=hi_ fun W=>dg n W
 have ct:=hi_ fun W h=>bF (P:=P) (L:=L) (R:=R) (A:=A) (c:=c) (bs:=bs) (d:=d) (pl:=false) ht rfl W h
 obtain⟨at1,ha1⟩:∃a:Int,a=(pos bs (af false r):Nat):=⟨_,rfl⟩;rw[←ha1]at ct;replace ha1:=hi_ ha1;obtain⟨kk,hkk⟩:∃x,x=k.k:=⟨_,rfl⟩;obtain⟨kn,hkn⟩:∃x,x=k.n:=⟨_,rfl⟩;rw[←hkk,←hkn]at ct;rw[←hkk]at hk;rw[←hkn]at hk0;replace hkk:=hi_ hkk;replace hkn:=hi_ hkn;subst hk;subst hk0;have ct2:=hi_ fun W h=>bF (P:=P) (L:=L) (R:=R) (A:=A) (c:=c) (bs:=bs) (d:=d) (pl:=false) ht2 rfl W h
 obtain⟨at2,ha2⟩:∃a:Int,a=(pos bs (af false u):Nat):=⟨_,rfl⟩;rw[←ha2]at ct2;replace ha2:=hi_ ha2;obtain⟨sk,hsk⟩:∃x,x=s.k:=⟨_,rfl⟩;rw[←hsk]at ct2 hs;replace hsk:=hi_ hsk;have p0:=hP.p0;have q0:=hP.q0;have x1:=hP.par.cell 2;have hF:=hi_ (Fr.of_below (L:=L) (R:=R) b1);refine h8_ hp hsuf hP hT b1 hneL hneR hAT ?_;clear hp hsuf hP hT b1 hneL hneR hAT;intro hp hsuf hP hT b1 hneL hneR hAT;clear h;go_enter Tryz.func89,Tryz.ntmps89;go_upto_region 1 with fail
 rw[←hW1];replace hW1:=hi_ hW1;go_upto_region 4 with (first|(go_at_call 14;(with_reducible refine (cps.out _ hP.out).mono ?_);rintro e w2 ⟨rfl,rfl⟩)|(go_at_call 82;(with_reducible refine (ct.out _ hP.out).mono ?_);rintro e w4 ⟨a2,c2,rfl,hO,hP2,hF2⟩;replace hT:=hi_ (hF2.blk hneL.out hneR.out hT.out);replace hF:=hi_ (hF.out.trans hF2);replace hO:=hi_ hO;replace hP:=hi_ hP2;replace p0:=hP.out.p0;replace q0:=hP.out.q0;replace x1:=hP.out.par.cell 2;clear hP2 hF2))
 obtain⟨W7,hW7,b7,hU7⟩:=ak w4 108 #[.int .i64 1,.int .i64 at1,.int .i64 0,.slice a2 k.b.length c2];rw[←hW7];replace hT:=hi_ (hT.out.below b7 hT.out.lt);replace hP:=hi_ (hP.out.belowW b7);replace hF:=hi_ (hF.out.trans (Fr.of_below (L:=L) (R:=R) b7));replace p0:=hP.out.p0;replace q0:=hP.out.q0;replace x1:=hP.out.par.cell 2;have t70:=hU7.cell 0;have t72:=hU7.cell 2;have t73:=hU7.cell 3;replace hO:=hi_ (hO.out.below b7);refine h3_ hU7 b7 hW7 ?_;clear hU7 b7 hW7;intro hU7 b7 hW7;go_upto_region 6 with (first|(go_at_call 82;(with_reducible refine (ct2.out _ hP.out).mono ?_);rintro e w4 ⟨a2,c2,rfl,hO,hP2,hF2⟩;replace hT:=hi_ (hF2.blk hneL.out hneR.out hT.out);replace hF:=hi_ (hF.out.trans hF2);replace hO:=hi_ hO;replace hP:=hi_ hP2;replace p0:=hP.out.p0;replace q0:=hP.out.q0;replace x1:=hP.out.par.cell 2;clear hP2 hF2))
 obtain⟨W8,hW8,b8,hU8⟩:=ak w4 108 #[.int .i64 sk,.int .i64 at2,.int .i64 s.n,.slice a2 s.b.length c2];rw[←hW8];replace hT:=hi_ (hT.out.below b8 hT.out.lt);replace hP:=hi_ (hP.out.belowW b8);replace hF:=hi_ (hF.out.trans (Fr.of_below (L:=L) (R:=R) b8));replace p0:=hP.out.p0;replace q0:=hP.out.q0;replace x1:=hP.out.par.cell 2;have t80:=hU8.cell 0;have t82:=hU8.cell 2;have t83:=hU8.cell 3;replace hO:=hi_ (hO.out.below b8);refine h3_ hU8 b8 hW8 ?_;clear hU8 b8 hW8;intro hU8 b8 hW8;go_wp2_with (first|(go_at_call 30;(with_reducible refine ((csk.out _) _ hP.out).mono ?_);rintro e w5 ⟨rfl,hP2,hF2⟩;replace hT:=hi_ (hF2.blk hneL.out hneR.out hT.out);replace hF:=hi_ (hF.out.trans hF2);replace hP:=hi_ hP2;clear hP2 hF2)|(go_at_call 122;(with_reducible refine (ci.out _).mono ?_);rintro e w6 ⟨rfl,hB6⟩;have hT2:=hT.out.below hB6 hT.out.lt;obtain⟨z0,z1,z2,z3,z4,v0,v1,v2,v3,v4⟩:=hT2.b5;replace hT2:=hi_ hT2;replace hF:=hi_ (hF.out.trans (Fr.of_below (L:=L) (R:=R) hB6));replace hP:=hi_ (hP.out.belowW hB6);clear hB6))
 generalize hWf:World.setCell _ _ _=Wf;replace hWf:=hWf.symm;obtain⟨hb,hg⟩:=aD hT2.out hWf;obtain⟨u0,u1,u2,u3,u4,-⟩:=hb.b5;have hPf:=hi_ (hP.out.grownL hg (by omega) (by omega) (by omega) (fun h0 x hx=>by have:=hAT.out h0 x hx;omega));have hFf:=hi_ (hF.out.grownL hg (Nat.le_refl _));replace hg:=hi_ hg;replace hWf:=hi_ hWf;clear hb z0 z1 z2 z3 z4 v0 v1 v2 v3 v4;refine bodyPost_ret (by simp[results,Tryz.results89,go_sem,u0,u1,u2,u3,u4];try rfl) rfl ?_;exact⟨rfl,hPf.out,hFf.out⟩
theorem uc {n:Int}(hn1:1≤n) (hn:n≤8388607) (ht:ar r=.ok k u) (hk:k.k=1) (hk0:k.n=0) (ht2:ar u=.ok s v) (hs:s.k=9) (hsb:¬s.b=[82]) (W:World) (h:PS P L R A c bs d false W r):Calls Tryz.prog 89 #[.pointer (some ⟨P,0,none⟩),.int .i64 n] W fun e w'=>e=.returned (.agg #[.int .i64 (au false n r).1,.int .i64 n,.slice none 0 0,.slice none 0 0,.slice none 0 0])∧PS P L R A c bs d false w' (au false n r).2∧Fr L R W w':=by
 rw[show au false n r=(2,r) from by unfold au;rw[if_pos ⟨hn1,hn,rfl⟩];rw[ht];simp only[];rw[if_pos ⟨hk,hk0⟩];simp only[ht2];rw[if_neg (fun h=>hsb h.2)]];obtain⟨W1,hW1,b1,hT⟩:=ak W 32 #[.int .i64 0,.int .i64 0,.slice none 0 0,.slice none 0 0,.slice none 0 0];have hP:=h.belowW b1;have hLT:=h.L_lt;have hRT:=h.R_lt;have hPT:=h.P_lt;have hAT:=h.a_lt;have hneL:W.heap.size≠L:=by omega
 have hneR:W.heap.size≠R:=by omega
 have hsuf:=h.suf;have cps:=hi_ fun W h=>cQ (P:=P) (L:=L) (R:=R) (A:=A) (c:=c) (bs:=bs) (d:=d) (pl:=false) (r:=r) W h
 have csk:=hi_ fun (r2:Bs) W h=>bL (P:=P) (L:=L) (R:=R) (A:=A) (c:=c) (bs:=bs) (d:=d) (pl:=false) (r:=r2) hsuf rfl W h
 obtain⟨p,hp⟩:∃p:Int,p=(pos bs r:Nat):=⟨_,rfl⟩;rw[←hp]at cps csk;have ci:=hi_ fun W=>dg n W
 have ct:=hi_ fun W h=>bF (P:=P) (L:=L) (R:=R) (A:=A) (c:=c) (bs:=bs) (d:=d) (pl:=false) ht rfl W h
 obtain⟨at1,ha1⟩:∃a:Int,a=(pos bs (af false r):Nat):=⟨_,rfl⟩;rw[←ha1]at ct;replace ha1:=hi_ ha1;obtain⟨kk,hkk⟩:∃x,x=k.k:=⟨_,rfl⟩;obtain⟨kn,hkn⟩:∃x,x=k.n:=⟨_,rfl⟩;rw[←hkk,←hkn]at ct;rw[←hkk]at hk;rw[←hkn]at hk0;replace hkk:=hi_ hkk;replace hkn:=hi_ hkn;subst hk;subst hk0;have ct2:=hi_ fun W h=>bF (P:=P) (L:=L) (R:=R) (A:=A) (c:=c) (bs:=bs) (d:=d) (pl:=false) ht2 rfl W h
 obtain⟨at2,ha2⟩:∃a:Int,a=(pos bs (af false u):Nat):=⟨_,rfl⟩;rw[←ha2]at ct2;replace ha2:=hi_ ha2;obtain⟨sk,hsk⟩:∃x,x=s.k:=⟨_,rfl⟩;rw[←hsk]at ct2 hs;replace hsk:=hi_ hsk;subst hs;have e3:=eD s.b [82];obtain⟨S,hSS⟩:∃S:ByteArray,S=⟨s.b.toArray⟩:=⟨_,rfl⟩;rw[←hSS]at e3;rw[decide_eq_false hsb]at e3;replace hsb:=hi_ hsb;replace hSS:=hi_ hSS;have p0:=hP.p0;have q0:=hP.q0;have x1:=hP.par.cell 2;have hF:=hi_ (Fr.of_below (L:=L) (R:=R) b1);refine h8_ hp hsuf hP hT b1 hneL hneR hAT ?_;clear hp hsuf hP hT b1 hneL hneR hAT;intro hp hsuf hP hT b1 hneL hneR hAT;clear h;go_enter Tryz.func89,Tryz.ntmps89;go_upto_region 1 with fail
 rw[←hW1];replace hW1:=hi_ hW1;go_upto_region 4 with (first|(go_at_call 14;(with_reducible refine (cps.out _ hP.out).mono ?_);rintro e w2 ⟨rfl,rfl⟩)|(go_at_call 82;(with_reducible refine (ct.out _ hP.out).mono ?_);rintro e w4 ⟨a2,c2,rfl,hO,hP2,hF2⟩;replace hT:=hi_ (hF2.blk hneL.out hneR.out hT.out);replace hF:=hi_ (hF.out.trans hF2);replace hO:=hi_ hO;replace hP:=hi_ hP2;replace p0:=hP.out.p0;replace q0:=hP.out.q0;replace x1:=hP.out.par.cell 2;clear hP2 hF2))
 obtain⟨W7,hW7,b7,hU7⟩:=ak w4 108 #[.int .i64 1,.int .i64 at1,.int .i64 0,.slice a2 k.b.length c2];rw[←hW7];replace hT:=hi_ (hT.out.below b7 hT.out.lt);replace hP:=hi_ (hP.out.belowW b7);replace hF:=hi_ (hF.out.trans (Fr.of_below (L:=L) (R:=R) b7));replace p0:=hP.out.p0;replace q0:=hP.out.q0;replace x1:=hP.out.par.cell 2;have t70:=hU7.cell 0;have t72:=hU7.cell 2;have t73:=hU7.cell 3;replace hO:=hi_ (hO.out.below b7);refine h3_ hU7 b7 hW7 ?_;clear hU7 b7 hW7;intro hU7 b7 hW7;go_upto_region 6 with (first|(go_at_call 82;(with_reducible refine (ct2.out _ hP.out).mono ?_);rintro e w4 ⟨a2,c2,rfl,hO,hP2,hF2⟩;replace hT:=hi_ (hF2.blk hneL.out hneR.out hT.out);replace hF:=hi_ (hF.out.trans hF2);replace hO:=hi_ hO;replace hP:=hi_ hP2;replace p0:=hP.out.p0;replace q0:=hP.out.q0;replace x1:=hP.out.par.cell 2;clear hP2 hF2))
 obtain⟨W8,hW8,b8,hU8⟩:=ak w4 108 #[.int .i64 9,.int .i64 at2,.int .i64 s.n,.slice a2 s.b.length c2];rw[←hW8];replace hT:=hi_ (hT.out.below b8 hT.out.lt);replace hP:=hi_ (hP.out.belowW b8);replace hF:=hi_ (hF.out.trans (Fr.of_below (L:=L) (R:=R) b8));replace p0:=hP.out.p0;replace q0:=hP.out.q0;replace x1:=hP.out.par.cell 2;have t80:=hU8.cell 0;have t82:=hU8.cell 2;have t83:=hU8.cell 3;replace hO:=hi_ (hO.out.below b8);refine h3_ hU8 b8 hW8 ?_;clear hU8 b8 hW8;intro hU8 b8 hW8;have hcv:=cX hO.out;rw[←hSS.out]at hcv;go_wp2_with (first|(go_at_call 30;(with_reducible refine ((csk.out _) _ hP.out).mono ?_);rintro e w5 ⟨rfl,hP2,hF2⟩;replace hT:=hi_ (hF2.blk hneL.out hneR.out hT.out);replace hF:=hi_ (hF.out.trans hF2);replace hP:=hi_ hP2;clear hP2 hF2)|(go_at_call 122;(with_reducible refine (ci.out _).mono ?_);rintro e w6 ⟨rfl,hB6⟩;have hT2:=hT.out.below hB6 hT.out.lt;obtain⟨z0,z1,z2,z3,z4,v0,v1,v2,v3,v4⟩:=hT2.b5;replace hT2:=hi_ hT2;replace hF:=hi_ (hF.out.trans (Fr.of_below (L:=L) (R:=R) hB6));replace hP:=hi_ (hP.out.belowW hB6);clear hB6))
 generalize hWf:World.setCell _ _ _=Wf;replace hWf:=hWf.symm;obtain⟨hb,hg⟩:=aD hT2.out hWf;obtain⟨u0,u1,u2,u3,u4,-⟩:=hb.b5;have hPf:=hi_ (hP.out.grownL hg (by omega) (by omega) (by omega) (fun h0 x hx=>by have:=hAT.out h0 x hx;omega));have hFf:=hi_ (hF.out.grownL hg (Nat.le_refl _));replace hg:=hi_ hg;replace hWf:=hi_ hWf;clear hb z0 z1 z2 z3 z4 v0 v1 v2 v3 v4;refine bodyPost_ret (by simp[results,Tryz.results89,go_sem,u0,u1,u2,u3,u4];try rfl) rfl ?_;exact⟨rfl,hPf.out,hFf.out⟩
theorem tu {n:Int}(hn1:1≤n) (hn:n≤8388607) (ht:ar r=.ok k u) (hk:k.k=1) (hk0:k.n=0) (ht2:ar u=.ok s v) (hs:s.k=9) (hsb:s.b=[82]) (W:World) (h:PS P L R A c bs d false W r):Calls Tryz.prog 89 #[.pointer (some ⟨P,0,none⟩),.int .i64 n] W fun e w'=>e=.returned (.agg #[.int .i64 (au false n r).1,.int .i64 n,.slice none 0 0,.slice none 0 0,.slice none 0 0])∧PS P L R A c bs d false w' (au false n r).2∧Fr L R W w':=by
 rw[show au false n r=(9,v) from by unfold au;rw[if_pos ⟨hn1,hn,rfl⟩];rw[ht];simp only[];rw[if_pos ⟨hk,hk0⟩];simp only[ht2];rw[if_pos ⟨hs,hsb⟩]];obtain⟨W1,hW1,b1,hT⟩:=ak W 32 #[.int .i64 0,.int .i64 0,.slice none 0 0,.slice none 0 0,.slice none 0 0];have hP:=h.belowW b1;have hLT:=h.L_lt;have hRT:=h.R_lt;have hPT:=h.P_lt;have hAT:=h.a_lt;have hneL:W.heap.size≠L:=by omega
 have hneR:W.heap.size≠R:=by omega
 have hsuf:=h.suf;have cps:=hi_ fun W h=>cQ (P:=P) (L:=L) (R:=R) (A:=A) (c:=c) (bs:=bs) (d:=d) (pl:=false) (r:=r) W h
 have csk:=hi_ fun (r2:Bs) W h=>bL (P:=P) (L:=L) (R:=R) (A:=A) (c:=c) (bs:=bs) (d:=d) (pl:=false) (r:=r2) hsuf rfl W h
 obtain⟨p,hp⟩:∃p:Int,p=(pos bs r:Nat):=⟨_,rfl⟩;rw[←hp]at cps csk;have ci:=hi_ fun W=>dg n W
 have ct:=hi_ fun W h=>bF (P:=P) (L:=L) (R:=R) (A:=A) (c:=c) (bs:=bs) (d:=d) (pl:=false) ht rfl W h
 obtain⟨at1,ha1⟩:∃a:Int,a=(pos bs (af false r):Nat):=⟨_,rfl⟩;rw[←ha1]at ct;replace ha1:=hi_ ha1;obtain⟨kk,hkk⟩:∃x,x=k.k:=⟨_,rfl⟩;obtain⟨kn,hkn⟩:∃x,x=k.n:=⟨_,rfl⟩;rw[←hkk,←hkn]at ct;rw[←hkk]at hk;rw[←hkn]at hk0;replace hkk:=hi_ hkk;replace hkn:=hi_ hkn;subst hk;subst hk0;have ct2:=hi_ fun W h=>bF (P:=P) (L:=L) (R:=R) (A:=A) (c:=c) (bs:=bs) (d:=d) (pl:=false) ht2 rfl W h
 obtain⟨at2,ha2⟩:∃a:Int,a=(pos bs (af false u):Nat):=⟨_,rfl⟩;rw[←ha2]at ct2;replace ha2:=hi_ ha2;obtain⟨sk,hsk⟩:∃x,x=s.k:=⟨_,rfl⟩;rw[←hsk]at ct2 hs;replace hsk:=hi_ hsk;subst hs;have e3:=eD s.b [82];obtain⟨S,hSS⟩:∃S:ByteArray,S=⟨s.b.toArray⟩:=⟨_,rfl⟩;rw[←hSS]at e3;rw[decide_eq_true hsb]at e3;replace hsb:=hi_ hsb;replace hSS:=hi_ hSS;have cr:=hi_ fun W=>qn n W
 have p0:=hP.p0;have q0:=hP.q0;have x1:=hP.par.cell 2;have hF:=hi_ (Fr.of_below (L:=L) (R:=R) b1);refine h8_ hp hsuf hP hT b1 hneL hneR hAT ?_;clear hp hsuf hP hT b1 hneL hneR hAT;intro hp hsuf hP hT b1 hneL hneR hAT;clear h;go_enter Tryz.func89,Tryz.ntmps89;go_upto_region 1 with fail
 rw[←hW1];replace hW1:=hi_ hW1;go_upto_region 4 with (first|(go_at_call 14;(with_reducible refine (cps.out _ hP.out).mono ?_);rintro e w2 ⟨rfl,rfl⟩)|(go_at_call 82;(with_reducible refine (ct.out _ hP.out).mono ?_);rintro e w4 ⟨a2,c2,rfl,hO,hP2,hF2⟩;replace hT:=hi_ (hF2.blk hneL.out hneR.out hT.out);replace hF:=hi_ (hF.out.trans hF2);replace hO:=hi_ hO;replace hP:=hi_ hP2;replace p0:=hP.out.p0;replace q0:=hP.out.q0;replace x1:=hP.out.par.cell 2;clear hP2 hF2))
 obtain⟨W7,hW7,b7,hU7⟩:=ak w4 108 #[.int .i64 1,.int .i64 at1,.int .i64 0,.slice a2 k.b.length c2];rw[←hW7];replace hT:=hi_ (hT.out.below b7 hT.out.lt);replace hP:=hi_ (hP.out.belowW b7);replace hF:=hi_ (hF.out.trans (Fr.of_below (L:=L) (R:=R) b7));replace p0:=hP.out.p0;replace q0:=hP.out.q0;replace x1:=hP.out.par.cell 2;have t70:=hU7.cell 0;have t72:=hU7.cell 2;have t73:=hU7.cell 3;replace hO:=hi_ (hO.out.below b7);refine h3_ hU7 b7 hW7 ?_;clear hU7 b7 hW7;intro hU7 b7 hW7;go_upto_region 6 with (first|(go_at_call 82;(with_reducible refine (ct2.out _ hP.out).mono ?_);rintro e w4 ⟨a2,c2,rfl,hO,hP2,hF2⟩;replace hT:=hi_ (hF2.blk hneL.out hneR.out hT.out);replace hF:=hi_ (hF.out.trans hF2);replace hO:=hi_ hO;replace hP:=hi_ hP2;replace p0:=hP.out.p0;replace q0:=hP.out.q0;replace x1:=hP.out.par.cell 2;clear hP2 hF2))
 obtain⟨W8,hW8,b8,hU8⟩:=ak w4 108 #[.int .i64 9,.int .i64 at2,.int .i64 s.n,.slice a2 s.b.length c2];rw[←hW8];replace hT:=hi_ (hT.out.below b8 hT.out.lt);replace hP:=hi_ (hP.out.belowW b8);replace hF:=hi_ (hF.out.trans (Fr.of_below (L:=L) (R:=R) b8));replace p0:=hP.out.p0;replace q0:=hP.out.q0;replace x1:=hP.out.par.cell 2;have t80:=hU8.cell 0;have t82:=hU8.cell 2;have t83:=hU8.cell 3;replace hO:=hi_ (hO.out.below b8);refine h3_ hU8 b8 hW8 ?_;clear hU8 b8 hW8;intro hU8 b8 hW8;have hcv:=cX hO.out;rw[←hSS.out]at hcv;go_wp2_with (first|(go_at_call 121;(with_reducible refine (cr.out _).mono ?_);rintro e w6 ⟨rfl,hB6⟩;have hT2:=hT.out.below hB6 hT.out.lt;obtain⟨z0,z1,z2,z3,z4,v0,v1,v2,v3,v4⟩:=hT2.b5;replace hT2:=hi_ hT2;replace hF:=hi_ (hF.out.trans (Fr.of_below (L:=L) (R:=R) hB6));replace hP:=hi_ (hP.out.belowW hB6);clear hB6))
 generalize hWf:World.setCell _ _ _=Wf;replace hWf:=hWf.symm;obtain⟨hb,hg⟩:=aD hT2.out hWf;obtain⟨u0,u1,u2,u3,u4,-⟩:=hb.b5;have hPf:=hi_ (hP.out.grownL hg (by omega) (by omega) (by omega) (fun h0 x hx=>by have:=hAT.out h0 x hx;omega));have hFf:=hi_ (hF.out.grownL hg (Nat.le_refl _));replace hg:=hi_ hg;replace hWf:=hi_ hWf;clear hb z0 z1 z2 z3 z4 v0 v1 v2 v3 v4;refine bodyPost_ret (by simp[results,Tryz.results89,go_sem,u0,u1,u2,u3,u4];try rfl) rfl ?_;exact⟨rfl,hPf.out,hFf.out⟩
theorem pe {n:Int}(W:World) (h:PS P L R A c bs d pl W r):Calls Tryz.prog 89 #[.pointer (some ⟨P,0,none⟩),.int .i64 n] W fun e w'=>e=.returned (.agg #[.int .i64 (au pl n r).1,.int .i64 n,.slice none 0 0,.slice none 0 0,.slice none 0 0])∧PS P L R A c bs d pl w' (au pl n r).2∧Fr L R W w':=by
 by_cases h1:n<1
 ·exact tY h1 W h
 by_cases h2:8388607<n
 ·exact tX (by omega) h2 W h
 have g1:1≤n:=by omega
 have g2:n≤8388607:=by omega
 cases pl with
 |true=>exact ud g1 g2 W h
 |false=>
  cases ht:ar r with
  |err e u=>exact tV g1 g2 ht W h
  |ok k u=>
   by_cases hk:k.k=1
   ·by_cases hk0:k.n=0
    ·cases ht2:ar u with
     |err e v=>exact tW g1 g2 ht hk hk0 ht2 W h
     |ok s v=>
      by_cases hs:s.k=9
      ·by_cases hsb:s.b=[82]
       ·exact tu g1 g2 ht hk hk0 ht2 hs hsb W h
       ·exact uc g1 g2 ht hk hk0 ht2 hs hsb W h
      ·exact ub g1 g2 ht hk hk0 ht2 hs W h
    ·exact ua g1 g2 ht hk hk0 W h
   ·exact tZ g1 g2 ht hk W h
end
section
open Go Go.RowKit Go.Wk

end
section
open Go Go.RowKit Go.Wk

end
section
open Go Go.RowKit Go.Wk
theorem cN (w:World) (A:Option Addr) (c:Nat) (bs:List UInt8) (h:Byt w A bs):(convert 22 9 (.slice A bs.length c)).run Tryz.prog w=.ok (.string (bytes bs)) w:=by
 cases bs with
 |nil=>
  show (convert 22 9 (.slice A 0 c)).run Tryz.prog w=_
  rw[run_convert_bytes_string w 22 9 5 A 0 c Tryz.underlying22 Tryz.underlying5 Tryz.underlying9];cases A <;> rfl
 |cons x l=>
  obtain⟨b,o,rfl,_⟩:=h.2 (by simp);exact fI w b o c (x :: l) h
end
section
open Go Go.RowKit Go.Wk

end
section
open Go Go.RowKit Go.Wk
theorem nj {l m:List UInt8}{k:Nat}(h1:k<l.length) (h2:k<m.length) (h:l.take k=m.take k) (e:l[k]=m[k]):l.take (k+1)=m.take (k+1):=by
 rw[List.take_succ_eq_append_getElem h1,List.take_succ_eq_append_getElem h2,h,e]
theorem gR (A A':Option Addr) (c c':Nat) (xs ys:List UInt8) (w:World) (hb:Byt w A xs) (hb':Byt w A' ys) (hl:xs.length≤1000000000) (hl':ys.length≤1000000000) :
 Calls Tryz.prog 23 #[.slice A xs.length c,.slice A' ys.length c'] w fun e w'=>e=.returned (.bool (decide (xs=ys)))∧Below w.heap.size w w':=by
 obtain⟨m,hm⟩:∃m,m=xs.length:=⟨_,rfl⟩;obtain⟨n,hn⟩:∃m,m=ys.length:=⟨_,rfl⟩;rw[←hm]at hl⊢;rw[←hn]at hl'⊢;by_cases hmn:m=n
 ·subst hmn
  refine h3_ hm hn hb ?_;clear hm hn hb;intro hm hn hb;replace hb':=hi_ hb';go_enter Tryz.func23,Tryz.ntmps23;go_wp2
  go_loopw [5] (fun s5 wr=>∃k:Nat,k≤m∧s5=.int .i64 k∧xs.take k=ys.take k∧Below w.heap.size w wr) (fun s5 _=>m - (RowKit.intOf s5).toNat)
  case atStart=>exact⟨0,by omega,rfl,rfl,Below.refl _ _⟩
  case round=>
   obtain⟨k,hk,rfl,hP,hB⟩:=hrel;by_cases hkm:k<m
   ·have hkl:k<xs.length:=by rw[←hm.out];exact hkm
    have hkl':k<ys.length:=by rw[←hn.out];exact hkm
    obtain⟨b,o,rfl,hcell⟩:=hb.out.2 (by omega);obtain⟨b',o',rfl,hcell'⟩:=hb'.out.2 (by omega);obtain⟨x,hx⟩:∃x,x=xs[k]:=⟨_,rfl⟩;obtain⟨y,hy⟩:∃x,x=ys[k]:=⟨_,rfl⟩;have hcx:wr.cell? ⟨b,o+k,none⟩=some (.int .u8 (x.toNat:Int)):=by rw[hx];exact (hB.cell (ac (hcell k hkl))).trans (hcell k hkl)
    have hcy:wr.cell? ⟨b',o'+k,none⟩=some (.int .u8 (y.toNat:Int)):=by rw[hy];exact (hB.cell (ac (hcell' k hkl'))).trans (hcell' k hkl')
    by_cases hxy:x=y
    ·have hT:=nj hkl hkl' hP (by rw[←hx,←hy,hxy])
     subst hxy;refine h3_ hT hB hP ?_;clear hT hB hP;intro hT hB hP;clear hcell hcell' hx hy;go_wp2
     go_region
     all_goals
      go_wp2
      go_roundw
      case rel=>exact⟨k+1,by omega,by go_num,hT.out,hB.out.drew⟩
      case measure=>simp[RowKit.intOf];omega
    ·have hT:decide (xs=ys)=false:=by
      simp only[decide_eq_false_iff_not];rintro rfl;exact hxy (by rw[hx,hy])
     have hne:((x.toNat:Int) !=(y.toNat:Int))=true:=by
      rw[bne_iff_ne];intro e;exact hxy (UInt8.toNat_inj.1 (by omega))
     obtain⟨xi,hxi⟩:∃n:Int,n=(x.toNat:Int):=⟨_,rfl⟩;obtain⟨yi,hyi⟩:∃n:Int,n=(y.toNat:Int):=⟨_,rfl⟩;rw[←hxi]at hcx hne;rw[←hyi]at hcy hne;refine h3_ hT hB hP ?_;clear hT hB hP;intro hT hB hP;clear hcell hcell' hx hy hxy hxi hyi;go_wp2
     go_region
     all_goals
      go_wp2
      go_ret
      exact⟨by rw[hT.out];rfl,hB.out.drew⟩
   ·obtain rfl:k=m:=by omega
    have hT:decide (xs=ys)=true:=by
     have e1:=hm.out;have e2:=hn.out;rw[e1,List.take_length]at hP;rw[←e1,e2,List.take_length]at hP;exact decide_eq_true hP
    refine h3_ hT hB hP ?_;clear hT hB hP;intro hT hB hP;go_wp2
    go_ret
    exact⟨by rw[hT.out];rfl,hB.out⟩
 ·have hT:decide (xs=ys)=false:=by
   simp only[decide_eq_false_iff_not];rintro rfl;exact hmn (by rw[hm,hn])
  rw[hT];have hne:((m:Int) !=(n:Int))=true:=by rw[bne_iff_ne];omega
  clear hb hb' hm hn hT hmn;go_enter Tryz.func23,Tryz.ntmps23;go_wp2
  go_ret
  exact⟨rfl,Below.refl _ _⟩
def sn (k:Int):Bool:=k == 7 || k == 8
theorem fY (k:Int) (v1 v2 v3 v4:Value) (w:World):Calls Tryz.prog 163 #[.agg #[.int .i64 k,v1,v2,v3,v4]] w fun e w'=>e=.returned (.bool (sn k))∧Below w.heap.size w w':=by
 go_enter Tryz.func163,Tryz.ntmps163;go_wp2
 all_goals go_ret
 all_goals refine⟨?_,(Below.refl _ _).alloc (Nat.le_refl _) _⟩
 all_goals simp_all [sn]
end
section
open Go Go.RowKit Go.Wk

end
section
open Go Go.RowKit Go.Wk

end
section
open Go Go.RowKit Go.Wk Go.Extern Go.Extern.Rtype
theorem jI:∀(a b:List UInt8),Op.bytesLess a b=ltB a b
 |[],[]=>rfl
 |[],_ :: _=>rfl
 |_ :: _,[]=>rfl
 |a :: x,b :: y=>by
  have:=jI x y;unfold Op.bytesLess ltB;rw[this];by_cases h1:a<b
  ·simp[h1]
  ·by_cases h2:b<a
   ·have h3:(a == b)=false:=by rw[beq_eq_false_iff_ne];rintro rfl;exact h1 h2
    simp[h1,h2,h3]
   ·have h3:a=b:=by
     apply UInt8.toNat_inj.1
     have e1:¬a.toNat<b.toNat:=h1;have e2:¬b.toNat<a.toNat:=h2;omega
    subst h3;simp[h1]
theorem qD (S T:ByteArray):(Op.bytesLess S.toList T.toList || S.toList == T.toList)=!ltB T.data.toList S.data.toList:=by
 rw[ByteArray.toList_eq,ByteArray.toList_eq,←jI T.data.toList,←Am.less_tri S.data.toList,Bool.not_not]
theorem td:∃i,Tryz.prog.info? 30=some i∧i.desc=.slice 91:=⟨Tryz.t30,by kernel_rfl,by kernel_rfl⟩
end
section
open Go Go.RowKit Go.Wk
theorem kw {α:Type}(us:List α) (h:us.length=6):∃c0 c1 c2 c3 c4 c5,us=[c0,c1,c2,c3,c4,c5]:=by
 match us,h with
 |[c0,c1,c2,c3,c4,c5],_=>exact⟨_,_,_,_,_,_,rfl⟩
end
section
open Go Go.RowKit Go.Wk

end
section
open Go Go.RowKit Go.Wk

end
section
open Go Go.RowKit Go.Wk
theorem ay {w:World}{o:Ob}{vs:List Value}(h:ObAt w o vs):∃(n:Int) (A1 A2 A3:Option Addr) (n1 c1 n2 c2 n3 c3:Nat),vs=[.int .i64 o.kind,.int .i64 n,.slice A1 n1 c1,.slice A2 n2 c2,.slice A3 n3 c3]:=by
 cases h with
 |mk k n b l d A AL AD c cL cD gL oL gD oD vl vd=>exact⟨_,_,_,_,_,_,_,_,_,_,rfl⟩
end
section
open Go Go.RowKit Go.Wk
theorem RB.up {w w1 w':World}{bs:List UInt8}{e:Ending}(h:RB w1 bs e w') (hb:Below w.heap.size w w1):RB w bs e w':=by
 obtain⟨A,c,rfl,h1,h2,h3⟩:=h;exact⟨A,c,rfl,h1,h2,ah hb h3⟩
theorem rZ (W:World) (l:List UInt8) (hl:l.length≤1000000000):Calls Tryz.prog 102 #[.slice (some ⟨W.heap.size,0,none⟩) 1 1] (W.alloc (.cells #[str l] 9)) (RB W l):=by
 have h:=uh W ⟨l.toArray⟩ (by simpa [ByteArray.size] using hl);refine h.mono fun e w' hr=>?_
 have h2:=hr.rb (by simp;unfold maxLen;omega);exact RB.up (by simpa using h2) ((Below.refl _ _).alloc (Nat.le_refl _) _)
end
section
open Go Go.RowKit Go.Wk
theorem bz (b o i:Nat):(⟨b,o,none⟩:Addr).add i=⟨b,o+i,none⟩:=by simp[Addr.add]
theorem il {w:World}{A:Option Addr}{l:List UInt8}(h:Byt w A l) (c:Nat):Lib.HoldsBytes w (.slice A l.length c) l:=by
 refine⟨A,c,rfl,?_,?_⟩
 ·rintro rfl
  cases l with
  |nil=>rfl
  |cons x r=>obtain⟨b,o,e,_⟩:=h.2 (by simp);cases e
 ·rintro a rfl i x hx
  obtain⟨hi,rfl⟩:=List.getElem?_eq_some_iff.1 hx;obtain⟨b,o,e,hc⟩:=h.2 (by omega);cases e;rw[bz];exact hc i hi
theorem mL {B:Nat}{w:World}{v:Value}{l:List UInt8}(h:Lib.FreshBytes B w v l):∃A c,v=.slice A l.length c∧Byt w A l∧(A=none→c=0):=by
 obtain⟨g,cap,zs,rfl,hB,hl,hm,hz,hr,hb,hc,_⟩:=h;refine⟨_,_,rfl,⟨by omega,fun _=>⟨g,0,rfl,fun i hi=>?_⟩⟩,fun e=>(by cases e)⟩;have h0:=hc i (by omega);rw[Nat.zero_add,h0];have hzi:i<zs.length:=by omega
 have he:l[i]?=some (zs[i].toNat.toUInt8):=by
  have h1:=congrArg (fun L=>L[i]?) hb;simp only[Lib.bytesOf,List.getElem?_map,List.getElem?_take]at h1;rw[if_pos hi,List.getElem?_eq_getElem hzi]at h1;exact h1.symm
 rw[List.getElem?_eq_getElem hi]at he;injection he with he;obtain⟨q1,q2⟩:=hr zs[i] (List.getElem_mem hzi);rw[he,List.getD_eq_getElem?_getD,List.getElem?_eq_getElem hzi];have:(zs[i].toNat.toUInt8).toNat=zs[i].toNat:=by
  show zs[i].toNat % 256=_
  omega
 rw[this];simp only[Option.getD_some]
 congr 2
 omega
theorem mN (ls:List (List UInt8)):Lib.join ls []=ls.flatten:=by
 cases ls with
 |nil=>rfl
 |cons x r=>rw[Lib.join_cons];simp[Lib.joinTail]
theorem sh (w:World) (g c n:Nat) (ls:List (List UInt8)) (vs:List Value) (hP:Lib.PartsAt w ⟨g,0,none⟩ vs ls) (hn:ls.length=n) (h2:2≤n) (hc:n≤c) (hn2:n≤100) (hl:Lib.lens ls≤70368744177664) :
 Calls Tryz.prog 142 #[.slice (some ⟨g,0,none⟩) n c] w (RB w ls.flatten):=by
 have cj:=Tryz.bytes_Join_many g 0 n c vs ls (.slice none 0 0) [] w hn h2 hP hc ⟨none,0,rfl,fun _=>rfl,fun a e=>(by cases e)⟩ (by omega) (by simp;omega);rw[mN]at cj;clear hP;go_enter Tryz.func142,Tryz.ntmps142;go_wp2_with (go_at_call 175;(with_reducible refine cj.mono ?_);rintro e w1 ⟨v,rfl,hF,hB⟩;replace hF:=hi_ hF;replace hB:=hi_ hB)
 go_ret
 obtain⟨A,c',rfl,h3,h4⟩:=mL hF.out;exact⟨A,c',rfl,h3,h4,hB.out⟩
theorem qp (W:World) (A1 A2:Option Addr) (c1 c2:Nat) (l1 l2:List UInt8) (h1:Byt W A1 l1) (h2:Byt W A2 l2) (hl:l1.length+l2.length≤1000000000) :
 Calls Tryz.prog 142 #[.slice (some ⟨W.heap.size,0,none⟩) 2 2] (W.alloc (.cells #[.slice A1 l1.length c1,.slice A2 l2.length c2] 22)) (RB (W.alloc (.cells #[.slice A1 l1.length c1,.slice A2 l2.length c2] 22)) (l1++l2)):=by
 have hb:Below W.heap.size W (W.alloc (.cells #[.slice A1 l1.length c1,.slice A2 l2.length c2] 22)):=(Below.refl _ _).alloc (Nat.le_refl _) _;have h:=sh (W.alloc (.cells #[.slice A1 l1.length c1,.slice A2 l2.length c2] 22)) W.heap.size 2 2 [l1,l2] [.slice A1 l1.length c1,.slice A2 l2.length c2] ⟨rfl,fun i v hv=>by
  have h0:=bP (w:=W) (vs:=#[.slice A1 l1.length c1,.slice A2 l2.length c2]) (e:=22) (i:=i);rw[bz];refine h0.trans ?_;rw[←hv]
  match i with
  |0=>rfl
  |1=>rfl
  |k+2=>rfl,fun i v l hv hl=>by
  match i with
  |0=>cases hv;cases hl;exact il (h1.below hb) c1
  |1=>cases hv;cases hl;exact il (h2.below hb) c2
  |k+2=>cases hv⟩ rfl (by omega) (by omega) (by omega) (by simp[Lib.lens];omega)
 simpa using h
end
section
open Go Go.RowKit Go.Wk

end
section
open Go Go.RowKit Go.Wk
theorem cz {w:World}{v0 v1 v2 v3 v4:Value}{W:World}(hW:W=w.alloc (.cells #[v0,v1,v2,v3,v4] 32)) :
 W.cell? ⟨w.heap.size,0,none⟩=some v0∧W.cell? ⟨w.heap.size,1,none⟩=some v1∧W.cell? ⟨w.heap.size,2,none⟩=some v2∧W.cell? ⟨w.heap.size,3,none⟩=some v3∧W.cell? ⟨w.heap.size,4,none⟩=some v4:=by
 subst hW;refine⟨?_,?_,?_,?_,?_⟩ <;> simp
theorem ap {p:Nat}{v0 v1 v2 v3 v4:Value}{W W':World}(h:W.cell? ⟨p,0,none⟩=some v0∧W.cell? ⟨p,1,none⟩=some v1∧W.cell? ⟨p,2,none⟩=some v2∧W.cell? ⟨p,3,none⟩=some v3∧W.cell? ⟨p,4,none⟩=some v4) (hb:Below W.heap.size W W') :
 W'.cell? ⟨p,0,none⟩=some v0∧W'.cell? ⟨p,1,none⟩=some v1∧W'.cell? ⟨p,2,none⟩=some v2∧W'.cell? ⟨p,3,none⟩=some v3∧W'.cell? ⟨p,4,none⟩=some v4:=
 ⟨(hb.cell (ac h.1)).trans h.1,(hb.cell (ac h.2.1)).trans h.2.1,(hb.cell (ac h.2.2.1)).trans h.2.2.1,(hb.cell (ac h.2.2.2.1)).trans h.2.2.2.1,(hb.cell (ac h.2.2.2.2)).trans h.2.2.2.2⟩
def VR (w:World) (o:Ob) (e:Ending) (w':World):Prop:=Below w.heap.size w w'∧∃A c n z,e=.returned (.tuple #[.slice A n c,.int .i64 z])∧(A=none→c=0)∧
 ((o.kind≠8∧o.may 28=true∧n=o.show.length∧Byt w' A o.show∧z=0)∨(¬(o.kind≠8∧o.may 28=true)∧A=none∧n=0∧z=1))
end
section
open Go Go.RowKit Go.Wk
theorem fF (b o i:Nat):(⟨b,o,none⟩:Addr).add i=⟨b,o+i,none⟩:=by simp[Addr.add]
theorem qK:∃i,Tryz.prog.info? 32=some i∧i.zero=some (.agg #[.int .i64 0,.int .i64 0,.slice none 0 0,.slice none 0 0,.slice none 0 0])∧i.size=5∧i.bytes=88:=⟨Tryz.t32,by kernel_rfl,by kernel_rfl,by kernel_rfl,by kernel_rfl⟩
theorem eI:∃i,Tryz.prog.info? 91=some i∧i.zero=some (.agg #[.string ⟨#[]⟩,.int .i64 0,.int .i64 0,.slice none 0 0,.slice none 0 0,.slice none 0 0])∧i.size=6∧i.bytes=104:=⟨Tryz.t91,by kernel_rfl,by kernel_rfl,by kernel_rfl,by kernel_rfl⟩
theorem ea {us:List Value}{w:World}{o:Ob}(h:ObAt w o us):∀u∈us,u.oneCell'=true:=by
 cases h;intro u hu;simp at hu;rcases hu with rfl|rfl|rfl|rfl|rfl <;> rfl
theorem iS {w:World}{ops:Array Oper}{rest:List Oper}{o:Oper}{a:Act}{Q:Exit→Act→World→Prop}(hgd:o.guard=none) (s x:Operand)
 (ho:o.op=.call {callee:=.builtin .append,args:=#[s,x],argTypes:=#[29,29]}) (B:Nat) (v:Value) (l:List Ob) (rss:List (List Value)) (hs:a.eval s=v) (hR:RowG ObI 32 5 B w v l rss)
 (g lo hi:Nat) (ob:Ob) (us:List Value) (hx:a.eval x=.slice (some ⟨g,0,none⟩) 1 1) (hob:ObI lo hi w ob us) (hlo:B≤lo) (hne:∀g,v.ownBlock=some g→g<lo∨hi≤g)
 (hc:∀j u,us[j]?=some u→w.cell? ⟨g,j,none⟩=some u) (hl:l.length≤1000000000) (hB:B≤w.heap.size)
 (h:∀v' w',RowG ObI 32 5 B w' v' (l++[ob]) (rss++[us])→w.grownBy w' v.ownBlock→(v'.ownBlock=v.ownBlock∨v'.ownBlock=some w.heap.size)→wpList Tryz.prog ops Q rest (a.put o.dst v') w'):wpList Tryz.prog ops Q (o :: rest) a w:=by
 obtain⟨i0,hi0,hz0,hz1,hz2⟩:=qK;refine wpList_append_own_at w hgd s x 29 ho B 32 i0 _ 5 88 Tryz.underlying29 hi0 hz0 hz1 hz2 rfl (by decide) v l.length rss.flatten hs hR.row ⟨g,0,none⟩ 1 1 us hx (by rw[hob.ob.five]) ?_ (ea hob.ob) (by unfold maxLen;omega) (by omega) hB ?_
 ·intro j u hu;rw[fF,Nat.zero_add];exact hc j u hu
 ·intro v' w' h1 h2 _ h3
  exact h v' w' (hR.more aQ hob hlo hne h1 h2 h3) h2 h3
theorem mc {rs:List Value}{w:World}{lo hi:Nat}{e:List UInt8×Ob}(h:EnI lo hi w e rs):∀u∈rs,u.oneCell'=true:=by
 obtain⟨us,rfl,_,h3⟩:=h;intro u hu;rcases List.mem_cons.1 hu with rfl|hu
 ·rfl
 ·exact ea h3.ob u hu
theorem kJ {w:World}{ops:Array Oper}{rest:List Oper}{o:Oper}{a:Act}{Q:Exit→Act→World→Prop}(hgd:o.guard=none) (s x:Operand)
 (ho:o.op=.call {callee:=.builtin .append,args:=#[s,x],argTypes:=#[30,30]}) (B:Nat) (v:Value) (l:List (List UInt8×Ob)) (rss:List (List Value)) (hs:a.eval s=v) (hR:RowG EnI 91 6 B w v l rss)
 (g lo hi:Nat) (e:List UInt8×Ob) (us:List Value) (hx:a.eval x=.slice (some ⟨g,0,none⟩) 1 1) (hob:EnI lo hi w e us) (hlo:B≤lo) (hne:∀g,v.ownBlock=some g→g<lo∨hi≤g)
 (hc:∀j u,us[j]?=some u→w.cell? ⟨g,j,none⟩=some u) (hl:l.length≤1000000000) (hB:B≤w.heap.size)
 (h:∀v' w',RowG EnI 91 6 B w' v' (l++[e]) (rss++[us])→w.grownBy w' v.ownBlock→(v'.ownBlock=v.ownBlock∨v'.ownBlock=some w.heap.size)→wpList Tryz.prog ops Q rest (a.put o.dst v') w'):wpList Tryz.prog ops Q (o :: rest) a w:=by
 obtain⟨i0,hi0,hz0,hz1,hz2⟩:=eI;refine wpList_append_own_at w hgd s x 30 ho B 91 i0 _ 6 104 Tryz.underlying30 hi0 hz0 hz1 hz2 rfl (by decide) v l.length rss.flatten hs hR.row ⟨g,0,none⟩ 1 1 us hx (by rw[en_law.len hob]) ?_ (mc hob) (by unfold maxLen;omega) (by omega) hB ?_
 ·intro j u hu;rw[fF,Nat.zero_add];exact hc j u hu
 ·intro v' w' h1 h2 _ h3
  exact h v' w' (hR.more en_law hob hlo hne h1 h2 h3) h2 h3
theorem mX (w:World):Own w.heap.size (w.alloc (.cells #[] 5)) (.slice (some ⟨w.heap.size,0,none⟩) 0 0) []:=
 ⟨World.ownsRow_made w #[] 0 (Nat.le_refl _) (by decide) rfl⟩
theorem mx (A:Option Addr) (c:Nat) (bs:List UInt8) (w:World) (hb:Byt w A bs) (hA:A=none→c=0) (hl:bs.length≤1000000000):Calls Tryz.prog 87 #[.slice A bs.length c] w (RO w bs):=by
 cases A with
 |none=>
  have hbs:bs=[]:=by
   cases bs with
   |nil=>rfl
   |cons y l=>obtain⟨b,o,e,_⟩:=hb.2 (by simp);cases e
  subst hbs;obtain rfl:=hA rfl;have hq:(binOp .eql 22 (.slice none 0 0) (.slice none 0 0)).run Tryz.prog w=.ok (.bool true) w:=Lib.run_eql_slice_nil w 22 5 none 0 0 0 0 Tryz.underlying22;go_enter Tryz.func87,Tryz.ntmps87;go_wp2
  go_ret
  exact⟨_,rfl,Own.nil _ _,Below.refl _ _⟩
 |some ad=>
  have hb2:=hi_ (hb.below ((Below.refl _ _).alloc (Nat.le_refl _) (.cells #[] 5)));have hO:=hi_ (mX w);have hB0:Below w.heap.size w (w.alloc (.cells #[] 5)):=(Below.refl _ _).alloc (Nat.le_refl _) _;replace hB0:=hi_ hB0;obtain⟨m,hm⟩:∃m,m=bs.length:=⟨_,rfl⟩;rw[←hm];replace hm:=hi_ hm;have hq:(binOp .eql 22 (.slice (some ad) m c) (.slice none 0 0)).run Tryz.prog w=.ok (.bool false) w:=Lib.run_eql_slice_nil w 22 5 (some ad) m c 0 0 Tryz.underlying22;clear hb hA;go_enter Tryz.func87,Tryz.ntmps87;go_wp2_with (at_builtin;refine dU rfl _ _ rfl w.heap.size _ _ rfl hO.out (some ad) _ c bs rfl hm.out hb2.out (fun e=>(by cases e)) (by simp only[List.length_nil];omega) (by rw[World.size_alloc];omega) ?_;intro v' w2 hO2 hB2;replace hO2:=hi_ hO2;replace hB2:=hi_ hB2)
  go_ret
  exact⟨_,rfl,by simpa using hO2.out,hB0.out.trans hB2.out⟩
end
section
open Go Go.RowKit Go.Wk

end
end Go.Proofs.YthffpbkndnhlfaaGreatDoor
namespace Go.Rd
open Go Go.Wk Go.Fx
theorem cW:∀(b:Bool) (r:Bs),(af b r).length≤r.length
 |true,[]=>Nat.le_refl _
 |false,[]=>Nat.le_refl _
 |true,c :: r=>by
  have h1:=cW false r;have h2:=cW true r;rw[af];split <;> simp only[List.length_cons] <;> omega
 |false,c :: r=>by
  have h1:=cW false r;have h2:=cW true r;rw[af];split
  ·simp only[List.length_cons];omega
  ·split <;> simp only[List.length_cons] <;> omega
theorem jN:∀(f:Nat) (out r b u:Bs),aJ f out r=.ok b u→b.length+u.length≤out.length+r.length
 |0,out,r,b,u,h=>by rw[aJ]at h;cases h
 |f+1,out,[],b,u,h=>by rw[aJ]at h;cases h;simp
 |f+1,out,x :: t,b,u,h=>by
  rw[aJ]at h
  repeat' split at h
  all_goals first
   |(cases h;done)
   |(cases h;simp;done)
   |(have:=jN _ _ _ _ _ h;simp only[List.length_append,List.length_cons,List.length_nil,List.length_drop]at this⊢;omega)
theorem lV (x:UInt8) (t:Bs):(dm x t).length≤t.length:=by unfold dm;split <;> simp
theorem l7:∀(k n:Nat) (r:Bs),(cu k n r).2.length≤r.length
 |0,n,r=>Nat.le_refl _
 |k+1,n,[]=>Nat.le_refl _
 |k+1,n,c :: r=>by
  rw[cu];split
  ·have:=l7 k (8*n+(c.toNat - 48)) r
   simp only[List.length_cons];omega
  ·exact Nat.le_refl _
theorem qw (d:UInt8) (t:Bs):(bD d t).2.length≤t.length:=by
 unfold bD;split
 ·exact lV d t
 split
 ·exact l7 _ _ _
 ·exact Nat.le_refl _
theorem eB:∀(f op:Nat) (out r b u:Bs),textS f op out r=.ok b u→b.length+u.length≤out.length+r.length
 |0,op,out,r,b,u,h=>by rw[textS]at h;cases h
 |f+1,op,out,[],b,u,h=>by rw[textS]at h;cases h
 |f+1,op,out,x :: t,b,u,h=>by
  rw[textS.eq_def]at h;simp only[]at h;split at h
  ·split at h
   ·cases h
   ·rename_i d v
    have he:=qw d v;cases hE:bD d v with
    |mk o w=>
     rw[hE]at h he;cases o with
     |none=>have:=eB _ _ _ _ _ _ h;simp only[List.length_cons]at this he⊢;omega
     |some y=>
      simp only[]at h;split at h
      ·cases h
      ·have:=eB _ _ _ _ _ _ h
       simp only[List.length_append,List.length_cons,List.length_nil]at this he⊢;omega
  ·split at h
   ·cases h;simp
   ·split at h
    ·cases h
    ·split at h
     ·have:=eB _ _ _ _ _ _ h
      have h9:=lV x t;simp only[List.length_append,List.length_cons,List.length_nil]at this⊢;omega
     ·have:=eB _ _ _ _ _ _ h
      simp only[List.length_append,List.length_cons,List.length_nil]at this⊢;omega
theorem iY:∀(f:Nat) (g:Int) (out r b u:Bs),bm f g out r=.ok b u→b.length+u.length≤out.length+r.length
 |0,g,out,r,b,u,h=>by rw[bm]at h;cases h
 |f+1,g,out,[],b,u,h=>by rw[bm]at h;cases h
 |f+1,g,out,x :: t,b,u,h=>by
  rw[bm]at h
  repeat' split at h
  all_goals first
   |(cases h;done)
   |(cases h;simp;done)
   |(cases h;simp only[List.length_append,List.length_cons,List.length_nil];omega)
   |(have:=iY _ _ _ _ _ _ h;simp only[List.length_append,List.length_cons,List.length_nil]at this⊢;omega)
theorem qJ {c:UInt8}(h:dR c=true):bu c=true:=by
 unfold dR at h;simp only[Bool.or_eq_true,beq_iff_eq]at h;rcases h with ((h|h)|h)|h
 ·rw[h];decide
 ·rw[h];decide
 ·rw[h];decide
 ·exact (kO (by unfold isD;exact h)).1
theorem mr {c:UInt8}{t:Bs}(h:bu c=true):1≤(aN (c :: t)).length∧(aN (c :: t)).length≤(c :: t).length:=by
 refine⟨?_,(List.takeWhile_prefix (p:=bu) (l:=c :: t)).length_le⟩;unfold aN;rw[List.takeWhile_cons,if_pos h];simp
def cM (k:Tok):Nat:=if k.k=0 then 0 else if k.k=9 then 1 else k.b.length+1
theorem pO:∀{r u:Bs}{k:Tok},tokA r=.ok k u→cM k+u.length≤r.length
 |[],u,k,h=>by rw[tokA]at h;cases h;simp[cM]
 |c :: t,u,k,h=>by
  rw[tokA]at h;have hw0:∀n,cM ⟨n,0,[]⟩≤1:=fun n=>by unfold cM;split <;> (try split) <;> simp
  have ht:∀n R,bw n (c :: t) R=.ok k u→(∀b v,R=.ok b v→b.length+v.length≤t.length)→cM k+u.length≤(c :: t).length:=fun n R h hR=>by
   cases R with
   |err e v=>cases h
   |ok b w=>
    have hq:=hR b w rfl;simp only[bw]at h;cases h;have:cM ⟨n,0,b⟩≤b.length+1:=by unfold cM;split <;> (try split) <;> simp
    simp only[List.length_cons];omega
  split at h
  ·cases h;have:=hw0 5;simp only[List.length_cons];omega
  split at h
  ·cases h;have:=hw0 6;simp only[List.length_cons];omega
  split at h
  ·cases h;have:=hw0 7;simp only[List.length_cons,List.length_drop];omega
  split at h
  ·cases h;have:=hw0 8;simp only[List.length_cons,List.length_drop];omega
  split at h
  ·exact ht _ _ h fun b v e=>by simpa using jN _ _ _ _ _ e
  split at h
  ·exact ht _ _ h fun b v e=>by simpa using eB _ _ _ _ _ _ e
  split at h
  ·exact ht _ _ h fun b v e=>by simpa using iY _ _ _ _ _ _ e
  split at h
  ·rename_i hn
   have hp:=mr (t:=t) (qJ hn);unfold dS at h;split at h
   ·cases h
    have:∀n m,cM ⟨n,m,[]⟩≤1:=fun n m=>by unfold cM;split <;> (try split) <;> simp
    have:=this (if (ao (aN (c :: t))).2.1=true then 1 else 2) (ao (aN (c :: t))).1;rw[List.length_drop];omega
   ·cases h
  split at h
  ·rename_i hr
   have hp:=mr (t:=t) hr;split at h
   ·cases h
   ·cases h
    have:cM ⟨9,0,aN (c :: t)⟩=1:=rfl;rw[List.length_drop];omega
  ·cases h
theorem bY {r u:Bs}{k:Tok}(h:ar r=.ok k u):cM k+u.length≤r.length:=by
 have h1:=pO (show tokA (af false r)=.ok k u from h);have h2:=cW false r;omega
theorem nx (pl:Bool) (n:Int) (r:Bs):(aZ pl n r).1.bulk=1∧(aZ pl n r).2.length≤r.length:=by
 have hb:∀k:Int,(Ob.mk k n [] [] []).bulk=1:=fun k=>by simp[Ob.bulk,bv,aI]
 unfold aZ;split
 ·cases ht:ar r with
  |err e u=>exact⟨hb 2,Nat.le_refl _⟩
  |ok t u=>
   have h1:=bY ht;simp only[];split
   ·cases ht2:ar u with
    |err e v=>exact⟨hb 2,Nat.le_refl _⟩
    |ok s v=>
     have h2:=bY ht2;simp only[];split
     ·exact⟨hb 9,by show v.length≤r.length;omega⟩
     ·exact⟨hb 2,Nat.le_refl _⟩
   ·exact⟨hb 2,Nat.le_refl _⟩
 ·exact⟨hb 2,Nat.le_refl _⟩
theorem gx:∀(a b:List Ob),bv (a++b)=bv a+bv b
 |[],b=>by simp[bv]
 |x :: a,b=>by simp only[List.cons_append,bv,gx a b];omega
theorem ee:∀(a b:List (Bs×Ob)),aI (a++b)=aI a+aI b
 |[],b=>by simp[aI]
 |x :: a,b=>by simp only[List.cons_append,aI,ee a b];omega
theorem iN (K:Bs) (X:Ob):∀(d:List (Bs×Ob)) (pb:Bool),aI (br K X pb d)≤aI d+(if pb then 0 else K.length+X.bulk+1)
 |[],pb=>by cases pb <;> simp[br,aI]
 |e :: r,pb=>by
  have h0:=iN K X r (pb || !ltB e.1 K);have h1:aI (if e.1=K then ([]:List (Bs×Ob)) else [e])≤e.1.length+e.2.bulk+1:=by split <;> simp[aI]
  rw[br,ee,ee,aI];generalize aI (if e.1=K then ([]:List (Bs×Ob)) else [e])=E at h1⊢;obtain⟨lt,hlt⟩:∃b,b=ltB e.1 K:=⟨_,rfl⟩;rw[←hlt]at h0⊢;generalize aI (br K X (pb || !lt) r)=G at h0⊢;clear hlt;cases pb <;> cases lt <;> simp only[Bool.not_true,Bool.not_false,Bool.and_true,Bool.and_false,Bool.or_true,Bool.or_false,Bool.false_eq_true,if_true,if_false,aI]at h0⊢<;> omega
def Cut (val:Bs→Res Ob):Prop:=∀r o u,val r=.ok o u→o.bulk+u.length≤r.length
theorem lM {val:Bs→Res Ob}(hv:Cut val):∀(f:Nat) (acc:List Ob) (r:Bs) (l:List Ob) (u:Bs),dj val f acc r=.ok l u→bv l+u.length+1≤bv acc+r.length
 |0,acc,r,l,u,h=>by rw[dj]at h;cases h
 |f+1,acc,r,l,u,h=>by
  rw[dj]at h;cases ht:ar r with
  |err e v=>rw[ht]at h;cases h
  |ok k v=>
   have h1:=bY ht;rw[ht]at h;simp only[]at h;split at h
   ·rename_i hk
    cases h;have:1≤cM k:=by unfold cM;rw[hk];simp
    omega
   ·cases hV:val r with
    |err e v=>rw[hV]at h;cases h
    |ok o v=>
     rw[hV]at h;have h2:=hv r o v hV;have h3:=lM hv f _ v l u h;rw[gx]at h3;simp only[bv]at h3;omega
theorem jw {val:Bs→Res Ob}(hv:Cut val):∀(f:Nat) (keys:List Bs) (acc:List (Bs×Ob)) (r:Bs) (l:List (Bs×Ob)) (u:Bs),bQ val f keys acc r=.ok l u→aI l+u.length+1≤aI acc+r.length
 |0,keys,acc,r,l,u,h=>by rw[bQ]at h;cases h
 |f+1,keys,acc,r,l,u,h=>by
  rw[bQ]at h;cases ht:ar r with
  |err e v=>rw[ht]at h;cases h
  |ok k v=>
   have h1:=bY ht;rw[ht]at h;simp only[]at h;split at h
   ·rename_i hk
    cases h;have:1≤cM k:=by unfold cM;rw[hk];simp
    omega
   split at h
   ·cases h
   split at h
   ·cases h
   rename_i hk4
   have hk4:k.k=4:=by simpa using hk4
   split at h
   ·cases h
   cases hV:val v with
   |err e v=>rw[hV]at h;cases h
   |ok o v2=>
    rw[hV]at h;have h2:=hv v o v2 hV;have h3:=jw hv f _ _ v2 l u h;have h4:=iN k.b o acc (o.kind == 0);have h5:cM k=k.b.length+1:=by unfold cM;rw[hk4];simp
    have h6:aI (dA k.b o acc)≤aI acc+(k.b.length+o.bulk+1):=by unfold dA;split at h4 <;> omega
    omega
theorem fB (pl:Bool):∀d,Cut (valS pl d):=by
 intro d
 induction d using Nat.strongRecOn with
 |_ d IH=>
  intro r o u h;rw[valS.eq_def]at h;cases ht:ar r with
  |err e v=>rw[ht]at h;cases h
  |ok k v=>
   have h1:=bY ht;have hb0:∀(m n:Int) (b:Bs),(Ob.mk m n b [] []).bulk=b.length+1:=fun m n b=>by simp[Ob.bulk,bv,aI]
   rw[ht]at h;simp only[]at h;split at h
   ·cases h
   rename_i hk0
   have hw:1≤cM k:=by unfold cM;rw[if_neg hk0];split <;> omega
   split at h
   ·cases h;have:=nx pl k.n v;omega
   split at h
   ·cases h;rw[hb0];simp only[List.length_nil];omega
   split at h
   ·rename_i hk;cases h;rw[hb0]
    have:cM k=k.b.length+1:=by unfold cM;rw[hk];simp
    omega
   split at h
   ·rename_i hk;cases h;rw[hb0]
    have:cM k=k.b.length+1:=by unfold cM;rw[hk];simp
    omega
   split at h
   ·unfold kH at h
    repeat' split at h
    all_goals first
     |(cases h;done)
     |(
      rename_i e;repeat' split at e
      all_goals first
       |(cases e;done)
       |(cases e;cases h;rw[hb0];simp only[List.length_nil];omega))
   split at h
   ·cases d with
    |zero=>cases h
    |succ d=>
     simp only[]at h;cases hA:dj (valS pl d) (v.length+1) [] v with
     |err e w=>rw[hA]at h;cases h
     |ok l w=>
      rw[hA]at h;cases h;have:=lM (IH d (by omega)) _ _ _ _ _ hA;simp only[bv]at this;simp only[Ob.bulk,List.length_nil,aI];omega
   split at h
   ·cases d with
    |zero=>cases h
    |succ d=>
     simp only[]at h;cases hA:bQ (valS pl d) (v.length+1) [] [] v with
     |err e w=>rw[hA]at h;cases h
     |ok l w=>
      rw[hA]at h;cases h;have:=jw (IH d (by omega)) _ _ _ _ _ _ hA;simp only[aI]at this;simp only[Ob.bulk,List.length_nil,bv];omega
   ·cases h
end Go.Rd
namespace Go.Proofs.YthffpbkndnhlfaaGreatDoor
open Go Go.RowKit Go.Wk Go.Rd Go.Fx
def dT (P L R:Nat) (A:Option Addr) (c:Nat) (bs:Bs) (d:Nat) (pl:Bool) (w:World) (res:Res Ob) (e:Ending) (w':World):Prop:=match res with
 | .ok o u=>∃us,e=.returned (.tuple #[.agg (List.toArray us),.int .i64 0])∧ObI w.heap.size w'.heap.size w' o us∧PS P L R A c bs d pl w' u∧Fr L R w w'
 | .err n u=>n≠0∧e=.returned (.tuple #[.agg #[.int .i64 0,.int .i64 0,.slice none 0 0,.slice none 0 0,.slice none 0 0],.int .i64 n])∧PS P L R A c bs d pl w' u∧Fr L R w w'
def nM (pl:Bool) (dd:Nat):Prop:=∀(P L R:Nat) (A:Option Addr) (c:Nat) (bs:Bs) (d:Nat) (w:World) (r:Bs),bs.length≤100000000→PS P L R A c bs d pl w r→Calls Tryz.prog 64 #[.pointer (some ⟨P,0,none⟩),.int .i64 (dd:Nat)] w (dT P L R A c bs d pl w (valS pl dd r))
structure AS (W:World) (P L R:Nat) (A:Option Addr) (c:Nat) (bs:Bs) (d:Nat) (pl:Bool) (acc:List Ob) (vL:Value) (rl:List (List Value)) (X:World) (r:Bs):Prop where
 ps:PS P L R A c bs d pl X r
 fr:Fr L R W X
 bT:Blk X W.heap.size 32 #[.int .i64 0,.int .i64 0,.slice none 0 0,.slice none 0 0,.slice none 0 0]
 bO:Blk X (W.heap.size+1) 32 #[.int .i64 6,.int .i64 0,.slice none 0 0,vL,.slice none 0 0]
 rows:RowG ObI 32 5 (W.heap.size+2) X vL acc rl
 lL:L<W.heap.size
 lR:R<W.heap.size
 lP:P<W.heap.size
 off:0<bs.length→∀x,A=some x→x.block<W.heap.size
 sz:W.heap.size+2≤X.heap.size
section
variable {P L R:Nat}{A:Option Addr}{c:Nat}{bs:Bs}{d dd:Nat}{pl:Bool}{W X X' w w':World}{r r' u v:Bs}{k s:Tok}{acc:List Ob}{vL:Value}{rl:List (List Value)}
theorem RowG.baseL {α:Type}{I:Nat→Nat→World→α→List Value→Prop}{e:TypeId}{sz B B':Nat}{w:World}{v:Value}{l:List α}{rss:List (List Value)}(h:RowG I e sz B w v l rss) (hB:B'≤B):RowG I e sz B' w v l rss:=by
 refine⟨h.len,⟨h.row.1,?_⟩,fun i hi=>?_⟩
 ·rcases h.row.2 with h2|⟨g,cap,cur,e',hg,rest⟩
  ·exact .inl h2
  ·exact .inr ⟨g,cap,cur,e',Nat.le_trans hB hg,rest⟩
 ·obtain⟨lo,hi',h1,h2,h3⟩:=h.it i hi
  exact⟨lo,hi',Nat.le_trans hB h1,h2,h3⟩
theorem ei (w:World) (us:List Value) (t:TypeId):∀j u,us[j]?=some u→(w.alloc (.cells us.toArray t)).cell? ⟨w.heap.size,j,none⟩=some u:=fun j u hu=>by
 have h0:=bP (w:=w) (vs:=us.toArray) (e:=t) (i:=j);rw[Nat.zero_add]at h0;rw[h0]
 simpa using hu
theorem cg {w:World}{o:Ob}{vs:List Value}(h:ObAt w o vs):∃(k n:Int) (A1 A2 A3:Option Addr) (n1 c1 n2 c2 n3 c3:Nat),vs=[.int .i64 k,.int .i64 n,.slice A1 n1 c1,.slice A2 n2 c2,.slice A3 n3 c3]:=by
 cases h;exact⟨_,_,_,_,_,_,_,_,_,_,_,rfl⟩
theorem AS.to (h:AS W P L R A c bs d pl acc vL rl X r) (hP:PS P L R A c bs d pl X' r') (hF:Fr L R X X'):AS W P L R A c bs d pl acc vL rl X' r':=
 ⟨hP,h.fr.trans hF,hF.blk (by have:=h.lL;omega) (by have:=h.lR;omega) h.bT,hF.blk (by have:=h.lL;omega) (by have:=h.lR;omega) h.bO,
  h.rows.far aQ (fun k h1 h2=>hF.block k h2 (by have:=h.lL;omega) (by have:=h.lR;omega)) hF.size,h.lL,h.lR,h.lP,h.off,Nat.le_trans h.sz hF.size⟩
theorem AS.belowW (h:AS W P L R A c bs d pl acc vL rl X r) (hb:Below X.heap.size X X'):AS W P L R A c bs d pl acc vL rl X' r:=h.to (h.ps.belowW hb) (Fr.of_below hb)
theorem pd (hv:nM pl dd) (hsm6:bs.length≤100000000) (W:World) (h:PS P L R A c bs d pl W r):Calls Tryz.prog 94 #[.pointer (some ⟨P,0,none⟩),.int .i64 (dd:Nat)] W (dT P L R A c bs d pl W (match dj (valS pl dd) (r.length+1) [] r with| .ok l v=>.ok (.mk 6 0 [] l []) v| .err e v=>.err e v)):=by
 obtain⟨W1,hW1⟩:∃W1,W1=(W.alloc (.cells #[.int .i64 0,.int .i64 0,.slice none 0 0,.slice none 0 0,.slice none 0 0] 32)).alloc (.cells #[.int .i64 6,.int .i64 0,.slice none 0 0,.slice none 0 0,.slice none 0 0] 32):=⟨_,rfl⟩;have b1:Below W.heap.size W W1:=by rw[hW1];exact ((Below.refl _ _).alloc (Nat.le_refl _) _).alloc (by rw[World.size_alloc];omega) _
 have z1:W1.heap.size=W.heap.size+2:=by rw[hW1,World.size_alloc,World.size_alloc]
 have hR1:Blk W1 W.heap.size 32 #[.int .i64 0,.int .i64 0,.slice none 0 0,.slice none 0 0,.slice none 0 0]:=by rw[hW1];exact (Blk.new W _ _).alloc _
 have hO1:Blk W1 (W.heap.size+1) 32 #[.int .i64 6,.int .i64 0,.slice none 0 0,.slice none 0 0,.slice none 0 0]:=by
  rw[hW1,show W.heap.size+1=(W.alloc (.cells #[.int .i64 0,.int .i64 0,.slice none 0 0,.slice none 0 0,.slice none 0 0] 32)).heap.size from (World.size_alloc _ _).symm];exact Blk.new _ _ _
 have hA:AS W P L R A c bs d pl [] (.slice none 0 0) [] W1 r:=⟨h.belowW b1,Fr.of_below b1,hR1,hO1,RowG.nil _ _ _ _ _,h.L_lt,h.R_lt,h.P_lt,h.a_lt,by omega⟩;obtain⟨K,hK⟩:∃K,K=dj (valS pl dd) (r.length+1) [] r:=⟨_,rfl⟩;rw[←hK];have hsm:=h.small;have hrb:=aB h.suf;refine h6_ hK hA hv hsm6 hsm hrb ?_;clear hK hA hv hsm6 hsm hrb;intro hK hA hv hsm6 hsm hrb;clear h b1 z1 hR1 hO1;go_enter Tryz.func94,Tryz.ntmps94;go_upto_region 2 with fail
 rw[←hW1];replace hW1:=hi_ hW1;go_loopw [] (fun wr=>∃(f:Nat) (acc:List Ob) (vL:Value) (rl:List (List Value)) (r1:Bs),AS W P L R A c bs d pl acc vL rl wr r1∧dj (valS pl dd) f acc r1=K∧r1.length<f∧acc.length+r1.length≤r.length) (fun wr=>bs.length+1 - posOf L wr)
 case atStart=>exact⟨_,[],_,[],r,hA.out,hK.out.symm,Nat.lt_succ_self _,by simp⟩
 case round=>
  clear hA hK;obtain⟨f,acc,vL,rl,r1,hA,hE,hf,hacc⟩:=hrel;obtain⟨f,rfl⟩:∃g,f=g+1:=⟨f - 1,by omega⟩;have hbw:bs.length+1 - posOf L wr=r1.length+1:=by rw[hA.ps.posOf];have:=aK hA.ps.suf;have:=aE bs r1;omega
  obtain⟨AL,cL,gL,rfl,hgc,hgn,hga,hgm,_⟩:=hA.rows.out aQ (by omega);have hltG:∀g,(Value.slice AL acc.length cL).ownBlock=some g→W.heap.size+2≤g∧g<wr.heap.size:=fun g hg=>⟨(hA.rows.row.lt g hg).1,(hA.rows.row.lt g hg).2⟩
  have p0:=hA.ps.p0;have q0:=hA.ps.q0;have t0:=hA.bT.cell 0;have f0:=hA.bT.frozen 0;have o0:=hA.bO.cell 0;have t1:=hA.bT.cell 1;have f1:=hA.bT.frozen 1;have o1:=hA.bO.cell 1;have t2:=hA.bT.cell 2;have f2:=hA.bT.frozen 2;have o2:=hA.bO.cell 2;have t3:=hA.bT.cell 3;have f3:=hA.bT.frozen 3;have o3:=hA.bO.cell 3;have t4:=hA.bT.cell 4;have f4:=hA.bT.frozen 4;have o4:=hA.bO.cell 4;have cps:=hi_ fun W h=>cQ (P:=P) (L:=L) (R:=R) (A:=A) (c:=c) (bs:=bs) (d:=d) (pl:=pl) (r:=r1) W h
  have hsuf:=hA.ps.suf;have csk:=hi_ fun (r2:Bs) W h=>bL (P:=P) (L:=L) (R:=R) (A:=A) (c:=c) (bs:=bs) (d:=d) (pl:=pl) (r:=r2) hsuf rfl W h
  obtain⟨p,hp⟩:∃p:Int,p=(pos bs r1:Nat):=⟨_,rfl⟩;rw[←hp]at cps csk;obtain⟨at1,ha1⟩:∃a:Int,a=(pos bs (af false r1):Nat):=⟨_,rfl⟩;refine h8_ hp hsuf hA hf hacc hbw hltG hE ?_;clear hp hsuf hA hf hacc hbw hltG hE;intro hp hsuf hA hf hacc hbw hltG hE;clear hgc hgn hga hgm;cases ht:ar r1 with
  |err n u=>
   have ct:=hi_ fun W h=>eY (P:=P) (L:=L) (R:=R) (A:=A) (c:=c) (bs:=bs) (d:=d) (pl:=pl) ht ha1 W h
   obtain rfl:K=.err n u:=by rw[←hE.out,dj,ht]
   clear hE ht;replace ha1:=hi_ ha1;go_upto_region 4 with (first|(go_at_call 14;(with_reducible refine (cps.out _ hA.out.ps).mono ?_);rintro e w2 ⟨rfl,rfl⟩)|(go_at_call 82;(with_reducible refine (ct.out _ hA.out.ps).mono ?_);rintro e w4 ⟨hn0,rfl,hP2,hF2⟩;replace hA:=hi_ (hA.out.to hP2 hF2);replace p0:=hA.out.ps.p0;replace q0:=hA.out.ps.q0;replace t0:=hA.out.bT.cell 0;replace f0:=hA.out.bT.frozen 0;replace o0:=hA.out.bO.cell 0;replace t1:=hA.out.bT.cell 1;replace f1:=hA.out.bT.frozen 1;replace o1:=hA.out.bO.cell 1;replace t2:=hA.out.bT.cell 2;replace f2:=hA.out.bT.frozen 2;replace o2:=hA.out.bO.cell 2;replace t3:=hA.out.bT.cell 3;replace f3:=hA.out.bT.frozen 3;replace o3:=hA.out.bO.cell 3;replace t4:=hA.out.bT.cell 4;replace f4:=hA.out.bT.frozen 4;replace o4:=hA.out.bO.cell 4;have hnb:=bne_iff_ne.2 hn0;replace hn0:=hi_ hn0;clear hP2 hF2))
   obtain⟨W5,hW5,b5,hU5⟩:=ak w4 108 #[.int .i64 0,.int .i64 at1,.int .i64 0,.slice none 0 0];rw[←hW5];have k50:=hU5.cell 0;have k51:=hU5.cell 1;replace hA:=hi_ (hA.out.belowW b5);replace p0:=hA.out.ps.p0;replace q0:=hA.out.ps.q0;replace t0:=hA.out.bT.cell 0;replace f0:=hA.out.bT.frozen 0;replace o0:=hA.out.bO.cell 0;replace t1:=hA.out.bT.cell 1;replace f1:=hA.out.bT.frozen 1;replace o1:=hA.out.bO.cell 1;replace t2:=hA.out.bT.cell 2;replace f2:=hA.out.bT.frozen 2;replace o2:=hA.out.bO.cell 2;replace t3:=hA.out.bT.cell 3;replace f3:=hA.out.bT.frozen 3;replace o3:=hA.out.bO.cell 3;replace t4:=hA.out.bT.cell 4;replace f4:=hA.out.bT.frozen 4;replace o4:=hA.out.bO.cell 4;refine h3_ hU5 b5 hW5 ?_;clear hU5 b5 hW5;intro hU5 b5 hW5;go_wp2
   generalize hWf:World.setCell _ _ _=Wf;replace hWf:=hWf.symm;obtain⟨hb,hg⟩:=aD hA.out.bT hWf;obtain⟨u0,u1,u2,u3,u4,-⟩:=hb.b5;have hPf:=hi_ (hA.out.ps.grownL hg (by have:=hA.out.lL;omega) (by have:=hA.out.lR;omega) (by have:=hA.out.lP;omega) (fun h0 x hx=>by have:=hA.out.off h0 x hx;omega));have hFf:=hi_ (hA.out.fr.grownL hg (Nat.le_refl _));replace hg:=hi_ hg;replace hWf:=hi_ hWf;clear hb t0 t1 t2 t3 t4 f0 f1 f2 f3 f4 o0 o1 o2 o3 o4;refine bodyPost_ret (by simp[results,Tryz.results94,go_sem,u0,u1,u2,u3,u4];try rfl) rfl ?_;exact⟨hn0.out,rfl,hPf.out,hFf.out⟩
  |ok k u=>
   have ct:=hi_ fun W h=>bF (P:=P) (L:=L) (R:=R) (A:=A) (c:=c) (bs:=bs) (d:=d) (pl:=pl) ht ha1 W h
   replace ha1:=hi_ ha1;obtain⟨kk,hkk⟩:∃x,x=k.k:=⟨_,rfl⟩;rw[←hkk]at ct;by_cases hk6:kk=6
   ·have hE2:K=.ok acc u:=by rw[←hE.out,dj,ht];simp only[if_pos (hkk.symm.trans hk6)]
    subst hE2;replace hkk:=hi_ hkk;subst hk6;clear hE ht;go_upto_region 4 with (first|(go_at_call 14;(with_reducible refine (cps.out _ hA.out.ps).mono ?_);rintro e w2 ⟨rfl,rfl⟩)|(go_at_call 82;(with_reducible refine (ct.out _ hA.out.ps).mono ?_);rintro e w4 ⟨a2,c2,rfl,hO,hP2,hF2⟩;replace hA:=hi_ (hA.out.to hP2 hF2);replace p0:=hA.out.ps.p0;replace q0:=hA.out.ps.q0;replace t0:=hA.out.bT.cell 0;replace f0:=hA.out.bT.frozen 0;replace o0:=hA.out.bO.cell 0;replace t1:=hA.out.bT.cell 1;replace f1:=hA.out.bT.frozen 1;replace o1:=hA.out.bO.cell 1;replace t2:=hA.out.bT.cell 2;replace f2:=hA.out.bT.frozen 2;replace o2:=hA.out.bO.cell 2;replace t3:=hA.out.bT.cell 3;replace f3:=hA.out.bT.frozen 3;replace o3:=hA.out.bO.cell 3;replace t4:=hA.out.bT.cell 4;replace f4:=hA.out.bT.frozen 4;replace o4:=hA.out.bO.cell 4;clear hP2 hF2 hO))
    obtain⟨W5,hW5,b5,hU5⟩:=ak w4 108 #[.int .i64 6,.int .i64 at1,.int .i64 k.n,.slice a2 k.b.length c2];rw[←hW5];have k50:=hU5.cell 0;have k51:=hU5.cell 1;replace hA:=hi_ (hA.out.belowW b5);replace p0:=hA.out.ps.p0;replace q0:=hA.out.ps.q0;replace t0:=hA.out.bT.cell 0;replace f0:=hA.out.bT.frozen 0;replace o0:=hA.out.bO.cell 0;replace t1:=hA.out.bT.cell 1;replace f1:=hA.out.bT.frozen 1;replace o1:=hA.out.bO.cell 1;replace t2:=hA.out.bT.cell 2;replace f2:=hA.out.bT.frozen 2;replace o2:=hA.out.bO.cell 2;replace t3:=hA.out.bT.cell 3;replace f3:=hA.out.bT.frozen 3;replace o3:=hA.out.bO.cell 3;replace t4:=hA.out.bT.cell 4;replace f4:=hA.out.bT.frozen 4;replace o4:=hA.out.bO.cell 4;refine h3_ hU5 b5 hW5 ?_;clear hU5 b5 hW5;intro hU5 b5 hW5;go_wp2
    generalize hWf:World.setCell _ _ _=Wf;replace hWf:=hWf.symm;obtain⟨hb,hg⟩:=aD hA.out.bT hWf;obtain⟨u0,u1,u2,u3,u4,-⟩:=hb.b5;have hPf:=hi_ (hA.out.ps.grownL hg (by have:=hA.out.lL;omega) (by have:=hA.out.lR;omega) (by have:=hA.out.lP;omega) (fun h0 x hx=>by have:=hA.out.off h0 x hx;omega));have hFf:=hi_ (hA.out.fr.grownL hg (Nat.le_refl _));replace hg:=hi_ hg;replace hWf:=hi_ hWf;clear hb t0 t1 t2 t3 t4 f0 f1 f2 f3 f4 o0 o1 o2 o3 o4;refine bodyPost_ret (by simp[results,Tryz.results94,go_sem,u0,u1,u2,u3,u4];try rfl) rfl ?_;have hG:=hi_ (RowG.baseL (B':=W.heap.size) (hA.out.rows.far aQ (fun k h1 h2=>hg.out.block k h2 (by intro e;injection e with e;omega)) hg.out.size) (by omega));have hI:ObI W.heap.size Wf.heap.size Wf (.mk 6 0 [] acc []) [.int .i64 6,.int .i64 0,.slice none 0 0,.slice AL acc.length cL,.slice none 0 0]:=
     el (tO:=32) (tE:=91) (tb:=5) (by omega) (by omega) (by omega) (by omega) (Own.nil _ _).row (by simp[maxLen]) hG.out (RowG.nil _ _ _ _ _)
    exact⟨_,rfl,hI,hPf.out,hFf.out⟩
   ·have hk1:(kk == 6)=false:=beq_eq_false_iff_ne.2 hk6
    have hE2:=hE.out;rw[dj,ht]at hE2;simp only[if_neg (fun e=>hk6 (hkk.trans e))]at hE2;have htl:=bY ht;refine h3_ hkk htl hk6 ?_;clear hkk htl hk6;intro hkk htl hk6;clear hE ht;have cv:=hi_ fun W h=>hv.out P L R A c bs d W r1 hsm6.out h
    have hcut:=fB pl dd;obtain⟨V,hV⟩:∃V,V=valS pl dd r1:=⟨_,rfl⟩;rw[←hV]at cv hE2;replace hV:=hi_ hV;go_upto_region 4 with (first|(go_at_call 14;(with_reducible refine (cps.out _ hA.out.ps).mono ?_);rintro e w2 ⟨rfl,rfl⟩)|(go_at_call 82;(with_reducible refine (ct.out _ hA.out.ps).mono ?_);rintro e w4 ⟨a2,c2,rfl,hO,hP2,hF2⟩;replace hA:=hi_ (hA.out.to hP2 hF2);replace p0:=hA.out.ps.p0;replace q0:=hA.out.ps.q0;replace t0:=hA.out.bT.cell 0;replace f0:=hA.out.bT.frozen 0;replace o0:=hA.out.bO.cell 0;replace t1:=hA.out.bT.cell 1;replace f1:=hA.out.bT.frozen 1;replace o1:=hA.out.bO.cell 1;replace t2:=hA.out.bT.cell 2;replace f2:=hA.out.bT.frozen 2;replace o2:=hA.out.bO.cell 2;replace t3:=hA.out.bT.cell 3;replace f3:=hA.out.bT.frozen 3;replace o3:=hA.out.bO.cell 3;replace t4:=hA.out.bT.cell 4;replace f4:=hA.out.bT.frozen 4;replace o4:=hA.out.bO.cell 4;clear hP2 hF2 hO))
    obtain⟨W5,hW5,b5,hU5⟩:=ak w4 108 #[.int .i64 kk,.int .i64 at1,.int .i64 k.n,.slice a2 k.b.length c2];rw[←hW5];have k50:=hU5.cell 0;have k51:=hU5.cell 1;replace hA:=hi_ (hA.out.belowW b5);replace p0:=hA.out.ps.p0;replace q0:=hA.out.ps.q0;replace t0:=hA.out.bT.cell 0;replace f0:=hA.out.bT.frozen 0;replace o0:=hA.out.bO.cell 0;replace t1:=hA.out.bT.cell 1;replace f1:=hA.out.bT.frozen 1;replace o1:=hA.out.bO.cell 1;replace t2:=hA.out.bT.cell 2;replace f2:=hA.out.bT.frozen 2;replace o2:=hA.out.bO.cell 2;replace t3:=hA.out.bT.cell 3;replace f3:=hA.out.bT.frozen 3;replace o3:=hA.out.bO.cell 3;replace t4:=hA.out.bT.cell 4;replace f4:=hA.out.bT.frozen 4;replace o4:=hA.out.bO.cell 4;refine h3_ hU5 b5 hW5 ?_;clear hU5 b5 hW5;intro hU5 b5 hW5;cases V with
    |err n v=>
     have hE3:K=.err n v:=by rw[←hE2]
     subst hE3;clear hE2 hcut;go_upto_region 10 with (first|(go_at_call 30;(with_reducible refine ((csk.out _) _ hA.out.ps).mono ?_);rintro e w4 ⟨rfl,hP2,hF2⟩;replace hA:=hi_ (hA.out.to hP2 hF2);replace p0:=hA.out.ps.p0;replace q0:=hA.out.ps.q0;replace t0:=hA.out.bT.cell 0;replace f0:=hA.out.bT.frozen 0;replace o0:=hA.out.bO.cell 0;replace t1:=hA.out.bT.cell 1;replace f1:=hA.out.bT.frozen 1;replace o1:=hA.out.bO.cell 1;replace t2:=hA.out.bT.cell 2;replace f2:=hA.out.bT.frozen 2;replace o2:=hA.out.bO.cell 2;replace t3:=hA.out.bT.cell 3;replace f3:=hA.out.bT.frozen 3;replace o3:=hA.out.bO.cell 3;replace t4:=hA.out.bT.cell 4;replace f4:=hA.out.bT.frozen 4;replace o4:=hA.out.bO.cell 4;clear hP2 hF2)|(go_at_call 64;(with_reducible refine (cv.out _ hA.out.ps).mono ?_);rintro e w4 ⟨hn0,rfl,hP2,hF2⟩;replace hA:=hi_ (hA.out.to hP2 hF2);replace p0:=hA.out.ps.p0;replace q0:=hA.out.ps.q0;replace t0:=hA.out.bT.cell 0;replace f0:=hA.out.bT.frozen 0;replace o0:=hA.out.bO.cell 0;replace t1:=hA.out.bT.cell 1;replace f1:=hA.out.bT.frozen 1;replace o1:=hA.out.bO.cell 1;replace t2:=hA.out.bT.cell 2;replace f2:=hA.out.bT.frozen 2;replace o2:=hA.out.bO.cell 2;replace t3:=hA.out.bT.cell 3;replace f3:=hA.out.bT.frozen 3;replace o3:=hA.out.bO.cell 3;replace t4:=hA.out.bT.cell 4;replace f4:=hA.out.bT.frozen 4;replace o4:=hA.out.bO.cell 4;have hnb:=bne_iff_ne.2 hn0;replace hn0:=hi_ hn0;clear hP2 hF2))
     obtain⟨W8,hW8,b8⟩:=bH w4 32 #[.int .i64 0,.int .i64 0,.slice none 0 0,.slice none 0 0,.slice none 0 0];rw[←hW8];replace hA:=hi_ (hA.out.belowW b8);replace p0:=hA.out.ps.p0;replace q0:=hA.out.ps.q0;replace t0:=hA.out.bT.cell 0;replace f0:=hA.out.bT.frozen 0;replace o0:=hA.out.bO.cell 0;replace t1:=hA.out.bT.cell 1;replace f1:=hA.out.bT.frozen 1;replace o1:=hA.out.bO.cell 1;replace t2:=hA.out.bT.cell 2;replace f2:=hA.out.bT.frozen 2;replace o2:=hA.out.bO.cell 2;replace t3:=hA.out.bT.cell 3;replace f3:=hA.out.bT.frozen 3;replace o3:=hA.out.bO.cell 3;replace t4:=hA.out.bT.cell 4;replace f4:=hA.out.bT.frozen 4;replace o4:=hA.out.bO.cell 4;replace hW8:=hi_ hW8;replace b8:=hi_ b8;go_wp2
     generalize hWf:World.setCell _ _ _=Wf;replace hWf:=hWf.symm;obtain⟨hb,hg⟩:=aD hA.out.bT hWf;obtain⟨u0,u1,u2,u3,u4,-⟩:=hb.b5;have hPf:=hi_ (hA.out.ps.grownL hg (by have:=hA.out.lL;omega) (by have:=hA.out.lR;omega) (by have:=hA.out.lP;omega) (fun h0 x hx=>by have:=hA.out.off h0 x hx;omega));have hFf:=hi_ (hA.out.fr.grownL hg (Nat.le_refl _));replace hg:=hi_ hg;replace hWf:=hi_ hWf;clear hb t0 t1 t2 t3 t4 f0 f1 f2 f3 f4 o0 o1 o2 o3 o4;refine bodyPost_ret (by simp[results,Tryz.results94,go_sem,u0,u1,u2,u3,u4];try rfl) rfl ?_;exact⟨hn0.out,rfl,hPf.out,hFf.out⟩
    |ok o v=>
     have hE3:=hi_ (show dj (valS pl dd) f (acc++[o]) v=K from hE2);clear hE2;replace hcut:=hi_ hcut;go_upto_region 10 with (first|(go_at_call 30;(with_reducible refine ((csk.out _) _ hA.out.ps).mono ?_);rintro e w4 ⟨rfl,hP2,hF2⟩;replace hA:=hi_ (hA.out.to hP2 hF2);replace p0:=hA.out.ps.p0;replace q0:=hA.out.ps.q0;replace t0:=hA.out.bT.cell 0;replace f0:=hA.out.bT.frozen 0;replace o0:=hA.out.bO.cell 0;replace t1:=hA.out.bT.cell 1;replace f1:=hA.out.bT.frozen 1;replace o1:=hA.out.bO.cell 1;replace t2:=hA.out.bT.cell 2;replace f2:=hA.out.bT.frozen 2;replace o2:=hA.out.bO.cell 2;replace t3:=hA.out.bT.cell 3;replace f3:=hA.out.bT.frozen 3;replace o3:=hA.out.bO.cell 3;replace t4:=hA.out.bT.cell 4;replace f4:=hA.out.bT.frozen 4;replace o4:=hA.out.bO.cell 4;clear hP2 hF2)|(go_at_call 64;(with_reducible refine (cv.out _ hA.out.ps).mono ?_);rintro e w6 ⟨us,rfl,hI,hP2,hF2⟩;obtain⟨xk,xn,F1,F2,F3,fn1,fc1,fn2,fc2,fn3,fc3,rfl⟩:=cg hI.ob;have hltV:=hi_ hA.out.rows.row.lt;have hszV:=hi_ hA.out.sz;have hA6:=hA.out.to hP2 hF2;replace hA:=hi_ hA6;replace p0:=hA.out.ps.p0;replace q0:=hA.out.ps.q0;replace t0:=hA.out.bT.cell 0;replace f0:=hA.out.bT.frozen 0;replace o0:=hA.out.bO.cell 0;replace t1:=hA.out.bT.cell 1;replace f1:=hA.out.bT.frozen 1;replace o1:=hA.out.bO.cell 1;replace t2:=hA.out.bT.cell 2;replace f2:=hA.out.bT.frozen 2;replace o2:=hA.out.bO.cell 2;replace t3:=hA.out.bT.cell 3;replace f3:=hA.out.bT.frozen 3;replace o3:=hA.out.bO.cell 3;replace t4:=hA.out.bT.cell 4;replace f4:=hA.out.bT.frozen 4;replace o4:=hA.out.bO.cell 4;replace hI:=hi_ hI;clear hP2 hF2 hA6))
     obtain⟨W8,hW8,b8,hX8⟩:=ak w6 32 #[.int .i64 xk,.int .i64 xn,.slice F1 fn1 fc1,.slice F2 fn2 fc2,.slice F3 fn3 fc3];rw[←hW8];obtain⟨x0,x1,x2,x3,x4,-⟩:=hX8.b5;replace hA:=hi_ (hA.out.belowW b8);have hI8:=hI.out.keep (fun b _ hb=>b8.block b (by have:=hI.out.1;omega)) (Nat.le_trans hI.out.1 b8.size);replace p0:=hA.out.ps.p0;replace q0:=hA.out.ps.q0;replace t0:=hA.out.bT.cell 0;replace f0:=hA.out.bT.frozen 0;replace o0:=hA.out.bO.cell 0;replace t1:=hA.out.bT.cell 1;replace f1:=hA.out.bT.frozen 1;replace o1:=hA.out.bO.cell 1;replace t2:=hA.out.bT.cell 2;replace f2:=hA.out.bT.frozen 2;replace o2:=hA.out.bO.cell 2;replace t3:=hA.out.bT.cell 3;replace f3:=hA.out.bT.frozen 3;replace o3:=hA.out.bO.cell 3;replace t4:=hA.out.bT.cell 4;replace f4:=hA.out.bT.frozen 4;replace o4:=hA.out.bO.cell 4;refine h4_ hW8 b8 hX8 hI8 ?_;clear hW8 b8 hX8 hI8;intro hW8 b8 hX8 hI8;go_upto_region 12 with fail
     obtain⟨wA,hwA,bA⟩:=bH W8 32 #[.int .i64 xk,.int .i64 xn,.slice F1 fn1 fc1,.slice F2 fn2 fc2,.slice F3 fn3 fc3];have hIA:=hI8.out.keep (fun b _ hb=>bA.block b (by have:=hI8.out.1;omega)) (Nat.le_trans hI8.out.1 bA.size);have hAA:=hA.out.belowW bA;have hcA:∀j u,([.int .i64 xk,.int .i64 xn,.slice F1 fn1 fc1,.slice F2 fn2 fc2,.slice F3 fn3 fc3]:List Value)[j]?=some u→wA.cell? ⟨W8.heap.size,j,none⟩=some u:=fun j u hu=>by rw[hwA];exact ei W8 _ _ j u hu
     have hapA:∀g,(Value.slice AL acc.length cL).ownBlock=some g→g<w4.heap.size∨w6.heap.size≤g:=fun g hg=>.inl (hltV.out g hg).2
     have hAL:acc.length≤1000000000:=by have:=hacc.out;have:=hrb.out;have:=hsm.out;omega
     have oA3:=hAA.bO.cell 3;have gA3:=hAA.bO.frozen 3;refine h7_ hwA bA hIA hAA hcA hapA hAL ?_;clear hwA bA hIA hAA hcA hapA hAL;intro hwA bA hIA hAA hcA hapA hAL;go_wp2_with (at_builtin;rw[←hwA.out];refine iS rfl _ _ rfl (W.heap.size+2) _ acc rl rfl hAA.out.rows W8.heap.size w4.heap.size w6.heap.size o _ rfl hIA.out hszV.out hapA.out hcA.out hAL.out hAA.out.sz ?_;intro v8 w8 hG8 hg8 hat8;obtain⟨A8,c8,rfl⟩:∃A c,v8=.slice A (acc++[o]).length c:=(by obtain⟨A,c,g,e,_⟩:=hG8.out aQ (by omega);exact⟨A,c,e⟩);obtain⟨n8,hn8⟩:∃n,n=(acc++[o]).length:=⟨_,rfl⟩;rw[←hn8]at hG8⊢;have hB8:Below (W.heap.size+2) wA w8:=(Below.refl _ _ |>.mono hAA.out.sz).grown hg8 hAA.out.sz (fun k hk=>(hAA.out.rows.row.lt k hk).1);have hO8:=hAA.out.bO.below hB8 (by omega);have o83:=hO8.cell 3;have g83:=hO8.frozen 3;replace hO8:=hi_ hO8;replace hB8:=hi_ hB8;replace hG8:=hi_ hG8;replace hn8:=hi_ hn8;clear hg8 hat8)
     obtain⟨w9,hw9⟩:∃Wx,Wx=w8.setCell ⟨W.heap.size+1,3,none⟩ (.slice A8 n8 c8):=⟨_,rfl⟩;rw[←hw9];have g9:w8.grownBy w9 (some (W.heap.size+1)):=by rw[hw9];exact aO _ _ _ _
     have hA9:=hAA.out;have hP9:=(hA9.ps.below hB8.out (by have:=hA9.lL;omega) (by have:=hA9.lR;omega) (by have:=hA9.lP;omega) (fun h0 x hx=>by have:=hA9.off h0 x hx;omega)).grownL g9 (by have:=hA9.lL;omega) (by have:=hA9.lR;omega) (by have:=hA9.lP;omega) (fun h0 x hx=>by have:=hA9.off h0 x hx;omega);have hF9:Fr L R W w9:=(hA9.fr.thenB (hB8.out.mono (by omega))).grownL g9 (by omega);have hT9:Blk w9 W.heap.size 32 #[.int .i64 0,.int .i64 0,.slice none 0 0,.slice none 0 0,.slice none 0 0]:=by rw[hw9];exact (hA9.bT.below hB8.out (by omega)).far (p:=⟨W.heap.size+1,3,none⟩) (by show W.heap.size≠W.heap.size+1;omega) _
     have hO9:Blk w9 (W.heap.size+1) 32 #[.int .i64 6,.int .i64 0,.slice none 0 0,.slice A8 n8 c8,.slice none 0 0]:=by rw[hw9];exact hO8.out.set_ 3 _
     have hG9:=hG8.out.far aQ (fun k h1 h2=>g9.block k h2 (by intro e;injection e with e;omega)) g9.size;have hsz9:W.heap.size+2≤w9.heap.size:=Nat.le_trans hA9.sz (Nat.le_trans hB8.out.size g9.size);have hN:AS W P L R A c bs d pl (acc++[o]) (.slice A8 n8 c8) _ w9 v:=⟨hP9,hF9,hT9,hO9,hG9,hA9.lL,hA9.lR,hA9.lP,hA9.off,hsz9⟩;have e1:=hN.ps.posOf;have e2:=hbw.out;have e3:=aK hN.ps.suf;have e5:=hcut.out r1 o v hV.out.symm;have e6:=hf.out;have e7:=hacc.out;have e8:=aE bs v;have e9:=dk o;exact⟨⟨f,_,_,_,v,hN,hE3.out,by omega,by simp only[List.length_append,List.length_cons,List.length_nil];omega⟩,by rw[e1];omega⟩
end
end Go.Proofs.YthffpbkndnhlfaaGreatDoor
