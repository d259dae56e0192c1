/- Walks and laws, joined: part C. No condition. -/
import Derived.Test.YthffpbkndnhlfaaGreatDoorTrJB
import Derived.Test.YthffpbkndnhlfaaGreatDoorTrJA
set_option linter.unusedSimpArgs false
set_option linter.unusedVariables false
set_option maxRecDepth 100000
set_option maxHeartbeats 32000000
namespace Go.Proofs.YthffpbkndnhlfaaGreatDoor
open Go Go.RowKit Go.Wk Go.Rd Go.Fx
section
variable {L R:Nat}{A:Option Addr}{c:Nat}{bs:Bs}{M V:Value}{w w' w0:World}{r r':Bs}{m:Nat}{out:Bs}
theorem Own.lenL {B:Nat}{w:World}{v:Value}{b:List UInt8}(h:Own B w v b):b.length≤maxLen:=by
 rcases h.row.2 with ⟨_,h0⟩|⟨g,cap,cur,_,_,_,hnc,hcm,_⟩
 ·rw[h0];unfold maxLen;omega
 ·omega
def tC (res:Res Bs) (n:Int) (b u:Bs):Prop:=match res with| .ok b' u'=>n=0∧b'=b∧u'=u| .err k _=>n=k
theorem LexL.lo {res:Res Bs}{e:Ending}(h:LexL w0 L R A c bs m res e w'):∃n b u,e=.returned (.int .i64 n)∧LO w0 L R A c bs m b w' u∧tC res n b u:=by
 cases res with
 |ok b u=>exact⟨0,b,u,h.1,h.2,rfl,rfl,rfl⟩
 |err k u=>obtain⟨h1,b,u,h2⟩:=h;exact⟨k,b,u,h1,h2,rfl⟩
theorem jL (kd:Int) (S:Res Bs) (at':Bs) (hne:∀k u,S=.err k u→k≠0)
 (hf:∀w0 w,LO w0 L R A c bs 127 [] w r→Calls Tryz.prog 151 #[.pointer (some ⟨R,0,none⟩)] w (LexL w0 L R A c bs 127 S)) (W:World) (h:LS L R A c bs M V W r) :
 Calls Tryz.prog 150 #[.pointer (some ⟨R,0,none⟩),.int .i64 kd,.int .i64 127,.func (.func 151) #[.pointer (some ⟨R,0,none⟩)] #[]] W (TokL L R A c bs W (bw kd at' S)):=by
 obtain⟨W1,hW1,b1,hT1⟩:=ak W 108 #[.int .i64 0,.int .i64 0,.int .i64 0,.slice none 0 0];have z1:W1.heap.size=W.heap.size+1:=by rw[hW1];exact World.size_alloc _ _
 have hL1:=h.belowW b1;have hLT:=h.L_lt;have hRT:=h.R_lt;have hAT:=h.a_lt;have s1:LS L R A c bs (.int .i64 (127:Nat)) V (W1.setCell ⟨R,1,none⟩ (.int .i64 127)) r:=hL1.set 1 _ _ _ rfl;have s2:LS L R A c bs (.int .i64 (127:Nat)) (.slice none 0 0) ((W1.setCell ⟨R,1,none⟩ (.int .i64 127)).setCell ⟨R,2,none⟩ (.slice none 0 0)) r:=s1.set 2 _ _ _ rfl;have hT2:=(hT1.far (p:=⟨R,1,none⟩) (show W.heap.size≠R by omega) (.int .i64 127)).far (p:=⟨R,2,none⟩) (show W.heap.size≠R by omega) (.slice none 0 0);obtain⟨q0,q1,q2,-,v1,v2⟩:=hL1.rdr.b3;obtain⟨W2,hW2⟩:∃W2,W2=(W1.setCell ⟨R,1,none⟩ (.int .i64 127)).setCell ⟨R,2,none⟩ (.slice none 0 0):=⟨_,rfl⟩;rw[←hW2]at s2 hT2;have f2:Fr L R W W2:=by rw[hW2];exact ((Fr.of_below b1).storeR 1 _).storeR 2 _
 have z2:W2.heap.size=W.heap.size+1:=by rw[hW2];simp[World.setCell,z1]
 have lo:LO W2 L R A c bs 127 [] W2 r:=⟨⟨_,s2,Own.nil _ _⟩,Fr.refl _ _ _,by omega,by omega,fun h0 x hx=>by have:=hAT h0 x hx;omega⟩;have cf:=hi_ (hf W2 W2 lo);refine h9_ hW2 s2 hT2 f2 z2 z1 b1 hT1 hL1 ?_;clear hW2 s2 hT2 f2 z2 z1 b1 hT1 hL1;intro hW2 s2 hT2 f2 z2 z1 b1 hT1 hL1;replace hAT:=hi_ hAT;replace hne:=hi_ hne;obtain⟨K,hK⟩:∃K,K=bw kd at' S:=⟨_,rfl⟩;rw[←hK];replace hK:=hi_ hK;have hneL:W.heap.size≠L:=by omega
 have hneR:W.heap.size≠R:=by omega
 replace hneL:=hi_ hneL;replace hneR:=hi_ hneR;clear h s1 lo hf;go_enter Tryz.func150,Tryz.ntmps150;go_upto_region 1 with fail
 rw[←hW1];replace hW1:=hi_ hW1;go_wp2_with (go_at_call 151;rw[←hW2.out];(with_reducible refine cf.out.mono ?_);rintro e w2 hX;obtain⟨n,b,u,rfl,hO,hR⟩:=LexL.lo hX;clear hX;obtain⟨⟨v,hL3,hW3⟩,hF3,_,_,_⟩:=hO;obtain⟨a2,m2,c2,rfl⟩:=hW3.sl;have hT3:=hF3.blk hneL.out hneR.out hT2.out;have q0:=hL3.rdr.cell 0;have q2:=hL3.rdr.cell 2;obtain⟨p0,p1,p2,p3,v0,v1,v2,v3⟩:=hT3.b4;replace hT3:=hi_ hT3;replace hL3:=hi_ hL3;replace hW3:=hi_ hW3;replace hF3:=hi_ (f2.out.trans hF3);replace hR:=hi_ hR)
 generalize hWf:World.setCell _ _ _=Wf;replace hWf:=hWf.symm;obtain⟨hb,hLf,hFf,hg⟩:=ek rfl hLT hRT hAT.out hT3.out hL3.out hF3.out hWf;obtain⟨u0,u1,u2,u3,-⟩:=hb.b4;have hOf:Own W.heap.size Wf (.slice a2 m2 c2) b:=by
  have h1:=hW3.out.notL hT3.out (by decide);exact bj (hW3.out.base (by have:=z2.out;omega)) hg (fun g hg e=>h1 (by rw[hg];exact e))
 refine h4_ hLf hFf hOf hWf ?_;clear hLf hFf hOf hWf;intro hLf hFf hOf hWf;clear hb hg p0 p1 p2 p3 v0 v1 v2 v3 q0 q2;refine bodyPost_ret (by simp[results,Tryz.results150,go_sem,u0,u1,u2,u3];try rfl) rfl ?_;rw[hK.out];have hR:=hR.out;cases S with
 |ok b' u'=>
  obtain⟨rfl,rfl,rfl⟩:=hR;obtain⟨A9,c9,e9,_⟩:=hOf.out.out2L hOf.out.lenL;injection e9 with i1 i2 i3;subst i1 i2 i3;exact⟨_,_,rfl,hOf.out,⟨_,_,hLf.out⟩,hFf.out⟩
 |err k u'=>
  have hR:n=k:=hR;subst hR;exact⟨hne.out _ _ rfl,⟨_,_,_,_,_,rfl⟩,⟨_,_,_,hLf.out⟩,hFf.out⟩
theorem jM (kd:Int) (S:Res Bs) (at':Bs) (hne:∀k u,S=.err k u→k≠0)
 (hf:∀w0 w,LO w0 L R A c bs 32767 [] w r→Calls Tryz.prog 152 #[.pointer (some ⟨R,0,none⟩)] w (LexL w0 L R A c bs 32767 S)) (W:World) (h:LS L R A c bs M V W r) :
 Calls Tryz.prog 150 #[.pointer (some ⟨R,0,none⟩),.int .i64 kd,.int .i64 32767,.func (.func 152) #[.pointer (some ⟨R,0,none⟩)] #[]] W (TokL L R A c bs W (bw kd at' S)):=by
 obtain⟨W1,hW1,b1,hT1⟩:=ak W 108 #[.int .i64 0,.int .i64 0,.int .i64 0,.slice none 0 0];have z1:W1.heap.size=W.heap.size+1:=by rw[hW1];exact World.size_alloc _ _
 have hL1:=h.belowW b1;have hLT:=h.L_lt;have hRT:=h.R_lt;have hAT:=h.a_lt;have s1:LS L R A c bs (.int .i64 (32767:Nat)) V (W1.setCell ⟨R,1,none⟩ (.int .i64 32767)) r:=hL1.set 1 _ _ _ rfl;have s2:LS L R A c bs (.int .i64 (32767:Nat)) (.slice none 0 0) ((W1.setCell ⟨R,1,none⟩ (.int .i64 32767)).setCell ⟨R,2,none⟩ (.slice none 0 0)) r:=s1.set 2 _ _ _ rfl;have hT2:=(hT1.far (p:=⟨R,1,none⟩) (show W.heap.size≠R by omega) (.int .i64 32767)).far (p:=⟨R,2,none⟩) (show W.heap.size≠R by omega) (.slice none 0 0);obtain⟨q0,q1,q2,-,v1,v2⟩:=hL1.rdr.b3;obtain⟨W2,hW2⟩:∃W2,W2=(W1.setCell ⟨R,1,none⟩ (.int .i64 32767)).setCell ⟨R,2,none⟩ (.slice none 0 0):=⟨_,rfl⟩;rw[←hW2]at s2 hT2;have f2:Fr L R W W2:=by rw[hW2];exact ((Fr.of_below b1).storeR 1 _).storeR 2 _
 have z2:W2.heap.size=W.heap.size+1:=by rw[hW2];simp[World.setCell,z1]
 have lo:LO W2 L R A c bs 32767 [] W2 r:=⟨⟨_,s2,Own.nil _ _⟩,Fr.refl _ _ _,by omega,by omega,fun h0 x hx=>by have:=hAT h0 x hx;omega⟩;have cf:=hi_ (hf W2 W2 lo);refine h9_ hW2 s2 hT2 f2 z2 z1 b1 hT1 hL1 ?_;clear hW2 s2 hT2 f2 z2 z1 b1 hT1 hL1;intro hW2 s2 hT2 f2 z2 z1 b1 hT1 hL1;replace hAT:=hi_ hAT;replace hne:=hi_ hne;obtain⟨K,hK⟩:∃K,K=bw kd at' S:=⟨_,rfl⟩;rw[←hK];replace hK:=hi_ hK;have hneL:W.heap.size≠L:=by omega
 have hneR:W.heap.size≠R:=by omega
 replace hneL:=hi_ hneL;replace hneR:=hi_ hneR;clear h s1 lo hf;go_enter Tryz.func150,Tryz.ntmps150;go_upto_region 1 with fail
 rw[←hW1];replace hW1:=hi_ hW1;go_wp2_with (go_at_call 152;rw[←hW2.out];(with_reducible refine cf.out.mono ?_);rintro e w2 hX;obtain⟨n,b,u,rfl,hO,hR⟩:=LexL.lo hX;clear hX;obtain⟨⟨v,hL3,hW3⟩,hF3,_,_,_⟩:=hO;obtain⟨a2,m2,c2,rfl⟩:=hW3.sl;have hT3:=hF3.blk hneL.out hneR.out hT2.out;have q0:=hL3.rdr.cell 0;have q2:=hL3.rdr.cell 2;obtain⟨p0,p1,p2,p3,v0,v1,v2,v3⟩:=hT3.b4;replace hT3:=hi_ hT3;replace hL3:=hi_ hL3;replace hW3:=hi_ hW3;replace hF3:=hi_ (f2.out.trans hF3);replace hR:=hi_ hR)
 generalize hWf:World.setCell _ _ _=Wf;replace hWf:=hWf.symm;obtain⟨hb,hLf,hFf,hg⟩:=ek rfl hLT hRT hAT.out hT3.out hL3.out hF3.out hWf;obtain⟨u0,u1,u2,u3,-⟩:=hb.b4;have hOf:Own W.heap.size Wf (.slice a2 m2 c2) b:=by
  have h1:=hW3.out.notL hT3.out (by decide);exact bj (hW3.out.base (by have:=z2.out;omega)) hg (fun g hg e=>h1 (by rw[hg];exact e))
 refine h4_ hLf hFf hOf hWf ?_;clear hLf hFf hOf hWf;intro hLf hFf hOf hWf;clear hb hg p0 p1 p2 p3 v0 v1 v2 v3 q0 q2;refine bodyPost_ret (by simp[results,Tryz.results150,go_sem,u0,u1,u2,u3];try rfl) rfl ?_;rw[hK.out];have hR:=hR.out;cases S with
 |ok b' u'=>
  obtain⟨rfl,rfl,rfl⟩:=hR;obtain⟨A9,c9,e9,_⟩:=hOf.out.out2L hOf.out.lenL;injection e9 with i1 i2 i3;subst i1 i2 i3;exact⟨_,_,rfl,hOf.out,⟨_,_,hLf.out⟩,hFf.out⟩
 |err k u'=>
  have hR:n=k:=hR;subst hR;exact⟨hne.out _ _ rfl,⟨_,_,_,_,_,rfl⟩,⟨_,_,_,hLf.out⟩,hFf.out⟩
theorem kX (kd:Int) (S:Res Bs) (at':Bs) (hne:∀k u,S=.err k u→k≠0)
 (hf:∀w0 w,LO w0 L R A c bs 32767 [] w r→Calls Tryz.prog 153 #[.pointer (some ⟨R,0,none⟩)] w (LexL w0 L R A c bs 32767 S)) (W:World) (h:LS L R A c bs M V W r) :
 Calls Tryz.prog 150 #[.pointer (some ⟨R,0,none⟩),.int .i64 kd,.int .i64 32767,.func (.func 153) #[.pointer (some ⟨R,0,none⟩)] #[]] W (TokL L R A c bs W (bw kd at' S)):=by
 obtain⟨W1,hW1,b1,hT1⟩:=ak W 108 #[.int .i64 0,.int .i64 0,.int .i64 0,.slice none 0 0];have z1:W1.heap.size=W.heap.size+1:=by rw[hW1];exact World.size_alloc _ _
 have hL1:=h.belowW b1;have hLT:=h.L_lt;have hRT:=h.R_lt;have hAT:=h.a_lt;have s1:LS L R A c bs (.int .i64 (32767:Nat)) V (W1.setCell ⟨R,1,none⟩ (.int .i64 32767)) r:=hL1.set 1 _ _ _ rfl;have s2:LS L R A c bs (.int .i64 (32767:Nat)) (.slice none 0 0) ((W1.setCell ⟨R,1,none⟩ (.int .i64 32767)).setCell ⟨R,2,none⟩ (.slice none 0 0)) r:=s1.set 2 _ _ _ rfl;have hT2:=(hT1.far (p:=⟨R,1,none⟩) (show W.heap.size≠R by omega) (.int .i64 32767)).far (p:=⟨R,2,none⟩) (show W.heap.size≠R by omega) (.slice none 0 0);obtain⟨q0,q1,q2,-,v1,v2⟩:=hL1.rdr.b3;obtain⟨W2,hW2⟩:∃W2,W2=(W1.setCell ⟨R,1,none⟩ (.int .i64 32767)).setCell ⟨R,2,none⟩ (.slice none 0 0):=⟨_,rfl⟩;rw[←hW2]at s2 hT2;have f2:Fr L R W W2:=by rw[hW2];exact ((Fr.of_below b1).storeR 1 _).storeR 2 _
 have z2:W2.heap.size=W.heap.size+1:=by rw[hW2];simp[World.setCell,z1]
 have lo:LO W2 L R A c bs 32767 [] W2 r:=⟨⟨_,s2,Own.nil _ _⟩,Fr.refl _ _ _,by omega,by omega,fun h0 x hx=>by have:=hAT h0 x hx;omega⟩;have cf:=hi_ (hf W2 W2 lo);refine h9_ hW2 s2 hT2 f2 z2 z1 b1 hT1 hL1 ?_;clear hW2 s2 hT2 f2 z2 z1 b1 hT1 hL1;intro hW2 s2 hT2 f2 z2 z1 b1 hT1 hL1;replace hAT:=hi_ hAT;replace hne:=hi_ hne;obtain⟨K,hK⟩:∃K,K=bw kd at' S:=⟨_,rfl⟩;rw[←hK];replace hK:=hi_ hK;have hneL:W.heap.size≠L:=by omega
 have hneR:W.heap.size≠R:=by omega
 replace hneL:=hi_ hneL;replace hneR:=hi_ hneR;clear h s1 lo hf;go_enter Tryz.func150,Tryz.ntmps150;go_upto_region 1 with fail
 rw[←hW1];replace hW1:=hi_ hW1;go_wp2_with (go_at_call 153;rw[←hW2.out];(with_reducible refine cf.out.mono ?_);rintro e w2 hX;obtain⟨n,b,u,rfl,hO,hR⟩:=LexL.lo hX;clear hX;obtain⟨⟨v,hL3,hW3⟩,hF3,_,_,_⟩:=hO;obtain⟨a2,m2,c2,rfl⟩:=hW3.sl;have hT3:=hF3.blk hneL.out hneR.out hT2.out;have q0:=hL3.rdr.cell 0;have q2:=hL3.rdr.cell 2;obtain⟨p0,p1,p2,p3,v0,v1,v2,v3⟩:=hT3.b4;replace hT3:=hi_ hT3;replace hL3:=hi_ hL3;replace hW3:=hi_ hW3;replace hF3:=hi_ (f2.out.trans hF3);replace hR:=hi_ hR)
 generalize hWf:World.setCell _ _ _=Wf;replace hWf:=hWf.symm;obtain⟨hb,hLf,hFf,hg⟩:=ek rfl hLT hRT hAT.out hT3.out hL3.out hF3.out hWf;obtain⟨u0,u1,u2,u3,-⟩:=hb.b4;have hOf:Own W.heap.size Wf (.slice a2 m2 c2) b:=by
  have h1:=hW3.out.notL hT3.out (by decide);exact bj (hW3.out.base (by have:=z2.out;omega)) hg (fun g hg e=>h1 (by rw[hg];exact e))
 refine h4_ hLf hFf hOf hWf ?_;clear hLf hFf hOf hWf;intro hLf hFf hOf hWf;clear hb hg p0 p1 p2 p3 v0 v1 v2 v3 q0 q2;refine bodyPost_ret (by simp[results,Tryz.results150,go_sem,u0,u1,u2,u3];try rfl) rfl ?_;rw[hK.out];have hR:=hR.out;cases S with
 |ok b' u'=>
  obtain⟨rfl,rfl,rfl⟩:=hR;obtain⟨A9,c9,e9,_⟩:=hOf.out.out2L hOf.out.lenL;injection e9 with i1 i2 i3;subst i1 i2 i3;exact⟨_,_,rfl,hOf.out,⟨_,_,hLf.out⟩,hFf.out⟩
 |err k u'=>
  have hR:n=k:=hR;subst hR;exact⟨hne.out _ _ rfl,⟨_,_,_,_,_,rfl⟩,⟨_,_,_,hLf.out⟩,hFf.out⟩
end
section
variable {L R:Nat}{A:Option Addr}{c:Nat}{bs:Bs}{M V:Value}{w w' w0:World}{r r':Bs}{m:Nat}{out:Bs}
theorem TokL.shape {res:Res Tok}{e:Ending}(h:TokL L R A c bs w res e w'):∃k1 n1 a2 m2 c2 n,e=.returned (.tuple #[.agg #[.int .i64 k1,.int .i64 0,.int .i64 n1,.slice a2 m2 c2],.int .i64 n]):=by
 cases res with
 |ok k u=>obtain⟨a2,c2,rfl,_⟩:=h;exact⟨_,_,_,_,_,_,rfl⟩
 |err k u=>obtain⟨_,⟨k1,n1,a2,m2,c2,rfl⟩,_⟩:=h;exact⟨_,_,_,_,_,_,rfl⟩
theorem TokL.frm {res:Res Tok}{e:Ending}(h:TokL L R A c bs w res e w'):Fr L R w w':=by
 cases res with
 |ok k u=>obtain⟨a2,c2,_,_,_,h⟩:=h;exact h
 |err k u=>obtain⟨_,_,_,h⟩:=h;exact h
theorem fa {W wk Wf:World}{T:Nat}{res:Res Tok}{k1 n1 n:Int}{a2:Option Addr}{m2 c2:Nat}{z0 z1 z2 z3:Value}(hT:W.heap.size=T) (hL:L<T) (hR:R<T) (hA:0<bs.length→∀x,A=some x→x.block<T) (hk:Fr L R W wk) (hTk:T<wk.heap.size)
 (hB:Blk w' T 108 #[z0,z1,z2,z3]) (h:TokL L R A c bs wk res (.returned (.tuple #[.agg #[.int .i64 k1,.int .i64 0,.int .i64 n1,.slice a2 m2 c2],.int .i64 n])) w')
 (hWf:Wf=(((w'.setCell ⟨T,0,none⟩ (.int .i64 k1)).setCell ⟨T,1,none⟩ (.int .i64 0)).setCell ⟨T,2,none⟩ (.int .i64 n1)).setCell ⟨T,3,none⟩ (.slice a2 m2 c2)) :
 Blk Wf T 108 #[.int .i64 k1,.int .i64 0,.int .i64 n1,.slice a2 m2 c2]∧TokL L R A c bs W res (.returned (.tuple #[.agg #[.int .i64 k1,.int .i64 0,.int .i64 n1,.slice a2 m2 c2],.int .i64 n])) Wf:=by
 obtain⟨hb,hg⟩:=bf hB hWf;have hF:=(hk.trans h.frm).grownL hg (by omega);refine⟨hb,?_⟩;cases res with
 |ok k u=>
  obtain⟨a3,c3,e,hO,⟨M,V,hS⟩,_⟩:=h;injection e with e;injection e with e;simp at e;obtain⟨⟨e1,e2,e3,e4,e5⟩,e6⟩:=e;subst e1 e2 e3 e4 e5 e6;have h1:=hO.notL hB (by decide);exact⟨_,_,rfl,bj (hO.base hk.size) hg (fun g hg e=>h1 (by rw[hg];exact e)),⟨_,_,hS.grownL hg (by omega) (by omega) (fun h0 x hx=>by have:=hA h0 x hx;omega)⟩,hF⟩
 |err k u=>
  obtain⟨hne,⟨k2,n2,a3,m3,c3,e⟩,⟨M,V,u2,hS⟩,_⟩:=h;injection e with e;injection e with e;simp at e;obtain⟨_,e6⟩:=e;subst e6;exact⟨hne,⟨_,_,_,_,_,rfl⟩,⟨_,_,_,hS.grownL hg (by omega) (by omega) (fun h0 x hx=>by have:=hA h0 x hx;omega)⟩,hF⟩
theorem jO:∀(f:Nat) (out r:Bs) (k:Int) (u:Bs),aJ f out r=.err k u→k≠0
 |0,out,r,k,u,h=>by rw[aJ]at h;cases h;decide
 |f+1,out,[],k,u,h=>by rw[aJ]at h;cases h
 |f+1,out,x :: t,k,u,h=>by
  rw[aJ]at h
  repeat' split at h
  all_goals first
   |(cases h;done)
   |(cases h;decide)
   |exact jO f _ _ k u h
theorem kA:∀(f op:Nat) (out r:Bs) (k:Int) (u:Bs),textS f op out r=.err k u→k≠0
 |0,op,out,r,k,u,h=>by rw[textS.eq_def]at h;cases h;decide
 |f+1,op,out,[],k,u,h=>by rw[textS.eq_def]at h;cases h;decide
 |f+1,op,out,x :: t,k,u,h=>by
  rw[textS.eq_def]at h;simp only[]at h
  repeat' split at h
  all_goals first
   |(cases h;done)
   |(cases h;decide)
   |exact kA f _ _ _ k u h
theorem lX:∀(f:Nat) (g:Int) (out r:Bs) (k:Int) (u:Bs),bm f g out r=.err k u→k≠0
 |0,g,out,r,k,u,h=>by rw[bm]at h;cases h;decide
 |f+1,g,out,[],k,u,h=>by rw[bm]at h;cases h;decide
 |f+1,g,out,x :: t,k,u,h=>by
  rw[bm]at h
  repeat' split at h
  all_goals first
   |(cases h;done)
   |(cases h;decide)
   |exact lX f _ _ _ k u h
theorem gu {x:UInt8}{X:Int}(h:X=(x.toNat:Int)):dR x=((X == 43) || (X == 45) || (X == 46) || (decide (48≤X) && decide (X≤57))):=by
 subst h;unfold dR;rw[aq x 43,aq x 45,aq x 46];rw[Bool.eq_iff_iff];simp;omega
theorem sZ (W:World) (h:LS L R A c bs M V W ([])):Calls Tryz.prog 119 #[.pointer (some ⟨R,0,none⟩)] W (TokL L R A c bs W (tokA ([]))):=by
 have hres:=hi_ (show tokA []=.ok ⟨0,0,[]⟩ [] from rfl);obtain⟨K,hK⟩:∃K,K=tokA ([]):=⟨_,rfl⟩;rw[←hK];replace hK:=hi_ hK;obtain⟨W1,hW1,b1,hT⟩:=ak W 108 #[.int .i64 0,.int .i64 0,.int .i64 0,.slice none 0 0];have z1:W1.heap.size=W.heap.size+1:=by rw[hW1];exact World.size_alloc _ _
 have hL:=h.belowW b1;have hLT:=h.L_lt;have hRT:=h.R_lt;have hAT:=h.a_lt;have hneL:W.heap.size≠L:=by omega
 have hneR:W.heap.size≠R:=by omega
 have q0:=hL.q0;obtain⟨p0,p1,p2,p3,v0,v1,v2,v3⟩:=hT.b4;replace hL:=hi_ hL;replace hT:=hi_ hT;have hS:=hi_ (Save.refl L W1);refine h5_ b1 z1 hAT hneL hneR ?_;clear b1 z1 hAT hneL hneR;intro b1 z1 hAT hneL hneR;have cp:=hi_ fun W h=>fl (L:=L) (R:=R) (A:=A) (c:=c) (bs:=bs) (M:=M) (V:=V) W h
 clear h;go_enter Tryz.func119,Tryz.ntmps119;go_upto_region 1 with fail
 rw[←hW1];replace hW1:=hi_ hW1;go_wp2_with (first|(go_at_call 56;(with_reducible refine (cp.out _ hL.out).mono ?_);rintro e w1 ⟨rfl,hL2,hS2⟩;replace hT:=hi_ (hS2.blk hneL.out hT.out);obtain⟨p0,p1,p2,p3,v0,v1,v2,v3⟩:=hT.out.b4;replace hL:=hi_ hL2;replace hS:=hi_ (hS.out.trans hS2);replace q0:=hL.out.q0;clear hL2 hS2))
 generalize hWf:World.setCell _ _ _=Wf;replace hWf:=hWf.symm;obtain⟨hb,hLf,hFf,hg⟩:=ek rfl hLT hRT hAT.out hT.out hL.out ((Fr.of_below b1.out).trans (Fr.of_save (R:=R) hS.out)) hWf;obtain⟨u0,u1,u2,u3,-⟩:=hb.b4;refine h3_ hLf hFf hWf ?_;clear hLf hFf hWf;intro hLf hFf hWf;clear hb hg p0 p1 p2 p3 v0 v1 v2 v3;refine bodyPost_ret (by simp[results,Tryz.results119,go_sem,u0,u1,u2,u3];try rfl) rfl ?_;rw[hK.out,hres.out];exact⟨none,0,rfl,Own.nil _ _,⟨_,_,hLf.out⟩,hFf.out⟩
theorem rA {t:Bs}(W:World) (h:LS L R A c bs M V W (91 :: t)):Calls Tryz.prog 119 #[.pointer (some ⟨R,0,none⟩)] W (TokL L R A c bs W (tokA (91 :: t))):=by
 have hres:=hi_ (show tokA (91 :: t)=.ok ⟨5,0,[]⟩ t from rfl);obtain⟨K,hK⟩:∃K,K=tokA (91 :: t):=⟨_,rfl⟩;rw[←hK];replace hK:=hi_ hK;obtain⟨W1,hW1,b1,hT⟩:=ak W 108 #[.int .i64 0,.int .i64 0,.int .i64 0,.slice none 0 0];have z1:W1.heap.size=W.heap.size+1:=by rw[hW1];exact World.size_alloc _ _
 have hL:=h.belowW b1;have hLT:=h.L_lt;have hRT:=h.R_lt;have hAT:=h.a_lt;have hneL:W.heap.size≠L:=by omega
 have hneR:W.heap.size≠R:=by omega
 have q0:=hL.q0;obtain⟨p0,p1,p2,p3,v0,v1,v2,v3⟩:=hT.b4;replace hL:=hi_ hL;replace hT:=hi_ hT;have hS:=hi_ (Save.refl L W1);refine h5_ b1 z1 hAT hneL hneR ?_;clear b1 z1 hAT hneL hneR;intro b1 z1 hAT hneL hneR;have cp:=hi_ fun W h=>bi (L:=L) (R:=R) (A:=A) (c:=c) (bs:=bs) (M:=M) (V:=V) (t:=t) (x:=91) (X:=91) rfl W h
 have cm1:=hi_ fun W h=>ey (L:=L) (R:=R) (A:=A) (c:=c) (bs:=bs) (M:=M) (V:=V) (r:=91 :: t) ⟨#[91]⟩ (t:=t) (by decide) (by decide) rfl W h
 clear h;go_enter Tryz.func119,Tryz.ntmps119;go_upto_region 1 with fail
 rw[←hW1];replace hW1:=hi_ hW1;go_wp2_with (first|((first|(go_at_call 56;(with_reducible refine (cp.out _ hL.out).mono ?_))|(go_at_call 54;(with_reducible refine (cm1.out _ hL.out).mono ?_)));rintro e w1 ⟨rfl,hL2,hS2⟩;replace hT:=hi_ (hS2.blk hneL.out hT.out);obtain⟨p0,p1,p2,p3,v0,v1,v2,v3⟩:=hT.out.b4;replace hL:=hi_ hL2;replace hS:=hi_ (hS.out.trans hS2);replace q0:=hL.out.q0;clear hL2 hS2))
 generalize hWf:World.setCell _ _ _=Wf;replace hWf:=hWf.symm;obtain⟨hb,hLf,hFf,hg⟩:=ek rfl hLT hRT hAT.out hT.out hL.out ((Fr.of_below b1.out).trans (Fr.of_save (R:=R) hS.out)) hWf;obtain⟨u0,u1,u2,u3,-⟩:=hb.b4;refine h3_ hLf hFf hWf ?_;clear hLf hFf hWf;intro hLf hFf hWf;clear hb hg p0 p1 p2 p3 v0 v1 v2 v3;refine bodyPost_ret (by simp[results,Tryz.results119,go_sem,u0,u1,u2,u3];try rfl) rfl ?_;rw[hK.out,hres.out];exact⟨none,0,rfl,Own.nil _ _,⟨_,_,hLf.out⟩,hFf.out⟩
theorem pK {t:Bs}(W:World) (h:LS L R A c bs M V W (93 :: t)):Calls Tryz.prog 119 #[.pointer (some ⟨R,0,none⟩)] W (TokL L R A c bs W (tokA (93 :: t))):=by
 have hres:=hi_ (show tokA (93 :: t)=.ok ⟨6,0,[]⟩ t from rfl);obtain⟨K,hK⟩:∃K,K=tokA (93 :: t):=⟨_,rfl⟩;rw[←hK];replace hK:=hi_ hK;obtain⟨W1,hW1,b1,hT⟩:=ak W 108 #[.int .i64 0,.int .i64 0,.int .i64 0,.slice none 0 0];have z1:W1.heap.size=W.heap.size+1:=by rw[hW1];exact World.size_alloc _ _
 have hL:=h.belowW b1;have hLT:=h.L_lt;have hRT:=h.R_lt;have hAT:=h.a_lt;have hneL:W.heap.size≠L:=by omega
 have hneR:W.heap.size≠R:=by omega
 have q0:=hL.q0;obtain⟨p0,p1,p2,p3,v0,v1,v2,v3⟩:=hT.b4;replace hL:=hi_ hL;replace hT:=hi_ hT;have hS:=hi_ (Save.refl L W1);refine h5_ b1 z1 hAT hneL hneR ?_;clear b1 z1 hAT hneL hneR;intro b1 z1 hAT hneL hneR;have cp:=hi_ fun W h=>bi (L:=L) (R:=R) (A:=A) (c:=c) (bs:=bs) (M:=M) (V:=V) (t:=t) (x:=93) (X:=93) rfl W h
 have cm1:=hi_ fun W h=>aC (L:=L) (R:=R) (A:=A) (c:=c) (bs:=bs) (M:=M) (V:=V) (r:=93 :: t) ⟨#[91]⟩ (by decide) (by decide) (by rintro⟨q,hq⟩;simp at hq) W h
 have cm2:=hi_ fun W h=>ey (L:=L) (R:=R) (A:=A) (c:=c) (bs:=bs) (M:=M) (V:=V) (r:=93 :: t) ⟨#[93]⟩ (t:=t) (by decide) (by decide) rfl W h
 clear h;go_enter Tryz.func119,Tryz.ntmps119;go_upto_region 1 with fail
 rw[←hW1];replace hW1:=hi_ hW1;go_wp2_with (first|((first|(go_at_call 56;(with_reducible refine (cp.out _ hL.out).mono ?_))|(go_at_call 54;(with_reducible refine (cm1.out _ hL.out).mono ?_))|(go_at_call 54;(with_reducible refine (cm2.out _ hL.out).mono ?_)));rintro e w1 ⟨rfl,hL2,hS2⟩;replace hT:=hi_ (hS2.blk hneL.out hT.out);obtain⟨p0,p1,p2,p3,v0,v1,v2,v3⟩:=hT.out.b4;replace hL:=hi_ hL2;replace hS:=hi_ (hS.out.trans hS2);replace q0:=hL.out.q0;clear hL2 hS2))
 generalize hWf:World.setCell _ _ _=Wf;replace hWf:=hWf.symm;obtain⟨hb,hLf,hFf,hg⟩:=ek rfl hLT hRT hAT.out hT.out hL.out ((Fr.of_below b1.out).trans (Fr.of_save (R:=R) hS.out)) hWf;obtain⟨u0,u1,u2,u3,-⟩:=hb.b4;refine h3_ hLf hFf hWf ?_;clear hLf hFf hWf;intro hLf hFf hWf;clear hb hg p0 p1 p2 p3 v0 v1 v2 v3;refine bodyPost_ret (by simp[results,Tryz.results119,go_sem,u0,u1,u2,u3];try rfl) rfl ?_;rw[hK.out,hres.out];exact⟨none,0,rfl,Own.nil _ _,⟨_,_,hLf.out⟩,hFf.out⟩
theorem rx {t:Bs}(W:World) (h:LS L R A c bs M V W (60 :: 60 :: t)):Calls Tryz.prog 119 #[.pointer (some ⟨R,0,none⟩)] W (TokL L R A c bs W (tokA (60 :: 60 :: t))):=by
 have hres:=hi_ (show tokA (60 :: 60 :: t)=.ok ⟨7,0,[]⟩ t from rfl);obtain⟨K,hK⟩:∃K,K=tokA (60 :: 60 :: t):=⟨_,rfl⟩;rw[←hK];replace hK:=hi_ hK;obtain⟨W1,hW1,b1,hT⟩:=ak W 108 #[.int .i64 0,.int .i64 0,.int .i64 0,.slice none 0 0];have z1:W1.heap.size=W.heap.size+1:=by rw[hW1];exact World.size_alloc _ _
 have hL:=h.belowW b1;have hLT:=h.L_lt;have hRT:=h.R_lt;have hAT:=h.a_lt;have hneL:W.heap.size≠L:=by omega
 have hneR:W.heap.size≠R:=by omega
 have q0:=hL.q0;obtain⟨p0,p1,p2,p3,v0,v1,v2,v3⟩:=hT.b4;replace hL:=hi_ hL;replace hT:=hi_ hT;have hS:=hi_ (Save.refl L W1);refine h5_ b1 z1 hAT hneL hneR ?_;clear b1 z1 hAT hneL hneR;intro b1 z1 hAT hneL hneR;have cp:=hi_ fun W h=>bi (L:=L) (R:=R) (A:=A) (c:=c) (bs:=bs) (M:=M) (V:=V) (t:=60 :: t) (x:=60) (X:=60) rfl W h
 have cm1:=hi_ fun W h=>aC (L:=L) (R:=R) (A:=A) (c:=c) (bs:=bs) (M:=M) (V:=V) (r:=60 :: 60 :: t) ⟨#[91]⟩ (by decide) (by decide) (by rintro⟨q,hq⟩;simp at hq) W h
 have cm2:=hi_ fun W h=>aC (L:=L) (R:=R) (A:=A) (c:=c) (bs:=bs) (M:=M) (V:=V) (r:=60 :: 60 :: t) ⟨#[93]⟩ (by decide) (by decide) (by rintro⟨q,hq⟩;simp at hq) W h
 have cm3:=hi_ fun W h=>ey (L:=L) (R:=R) (A:=A) (c:=c) (bs:=bs) (M:=M) (V:=V) (r:=60 :: 60 :: t) ⟨#[60,60]⟩ (t:=t) (by decide) (by decide) rfl W h
 clear h;go_enter Tryz.func119,Tryz.ntmps119;go_upto_region 1 with fail
 rw[←hW1];replace hW1:=hi_ hW1;go_wp2_with (first|((first|(go_at_call 56;(with_reducible refine (cp.out _ hL.out).mono ?_))|(go_at_call 54;(with_reducible refine (cm1.out _ hL.out).mono ?_))|(go_at_call 54;(with_reducible refine (cm2.out _ hL.out).mono ?_))|(go_at_call 54;(with_reducible refine (cm3.out _ hL.out).mono ?_)));rintro e w1 ⟨rfl,hL2,hS2⟩;replace hT:=hi_ (hS2.blk hneL.out hT.out);obtain⟨p0,p1,p2,p3,v0,v1,v2,v3⟩:=hT.out.b4;replace hL:=hi_ hL2;replace hS:=hi_ (hS.out.trans hS2);replace q0:=hL.out.q0;clear hL2 hS2))
 generalize hWf:World.setCell _ _ _=Wf;replace hWf:=hWf.symm;obtain⟨hb,hLf,hFf,hg⟩:=ek rfl hLT hRT hAT.out hT.out hL.out ((Fr.of_below b1.out).trans (Fr.of_save (R:=R) hS.out)) hWf;obtain⟨u0,u1,u2,u3,-⟩:=hb.b4;refine h3_ hLf hFf hWf ?_;clear hLf hFf hWf;intro hLf hFf hWf;clear hb hg p0 p1 p2 p3 v0 v1 v2 v3;refine bodyPost_ret (by simp[results,Tryz.results119,go_sem,u0,u1,u2,u3];try rfl) rfl ?_;rw[hK.out,hres.out];exact⟨none,0,rfl,Own.nil _ _,⟨_,_,hLf.out⟩,hFf.out⟩
theorem pM {t:Bs}(W:World) (h:LS L R A c bs M V W (62 :: 62 :: t)):Calls Tryz.prog 119 #[.pointer (some ⟨R,0,none⟩)] W (TokL L R A c bs W (tokA (62 :: 62 :: t))):=by
 have hres:=hi_ (show tokA (62 :: 62 :: t)=.ok ⟨8,0,[]⟩ t from rfl);obtain⟨K,hK⟩:∃K,K=tokA (62 :: 62 :: t):=⟨_,rfl⟩;rw[←hK];replace hK:=hi_ hK;obtain⟨W1,hW1,b1,hT⟩:=ak W 108 #[.int .i64 0,.int .i64 0,.int .i64 0,.slice none 0 0];have z1:W1.heap.size=W.heap.size+1:=by rw[hW1];exact World.size_alloc _ _
 have hL:=h.belowW b1;have hLT:=h.L_lt;have hRT:=h.R_lt;have hAT:=h.a_lt;have hneL:W.heap.size≠L:=by omega
 have hneR:W.heap.size≠R:=by omega
 have q0:=hL.q0;obtain⟨p0,p1,p2,p3,v0,v1,v2,v3⟩:=hT.b4;replace hL:=hi_ hL;replace hT:=hi_ hT;have hS:=hi_ (Save.refl L W1);refine h5_ b1 z1 hAT hneL hneR ?_;clear b1 z1 hAT hneL hneR;intro b1 z1 hAT hneL hneR;have cp:=hi_ fun W h=>bi (L:=L) (R:=R) (A:=A) (c:=c) (bs:=bs) (M:=M) (V:=V) (t:=62 :: t) (x:=62) (X:=62) rfl W h
 have cm1:=hi_ fun W h=>aC (L:=L) (R:=R) (A:=A) (c:=c) (bs:=bs) (M:=M) (V:=V) (r:=62 :: 62 :: t) ⟨#[91]⟩ (by decide) (by decide) (by rintro⟨q,hq⟩;simp at hq) W h
 have cm2:=hi_ fun W h=>aC (L:=L) (R:=R) (A:=A) (c:=c) (bs:=bs) (M:=M) (V:=V) (r:=62 :: 62 :: t) ⟨#[93]⟩ (by decide) (by decide) (by rintro⟨q,hq⟩;simp at hq) W h
 have cm3:=hi_ fun W h=>aC (L:=L) (R:=R) (A:=A) (c:=c) (bs:=bs) (M:=M) (V:=V) (r:=62 :: 62 :: t) ⟨#[60,60]⟩ (by decide) (by decide) (by rintro⟨q,hq⟩;simp at hq) W h
 have cm4:=hi_ fun W h=>ey (L:=L) (R:=R) (A:=A) (c:=c) (bs:=bs) (M:=M) (V:=V) (r:=62 :: 62 :: t) ⟨#[62,62]⟩ (t:=t) (by decide) (by decide) rfl W h
 clear h;go_enter Tryz.func119,Tryz.ntmps119;go_upto_region 1 with fail
 rw[←hW1];replace hW1:=hi_ hW1;go_wp2_with (first|((first|(go_at_call 56;(with_reducible refine (cp.out _ hL.out).mono ?_))|(go_at_call 54;(with_reducible refine (cm1.out _ hL.out).mono ?_))|(go_at_call 54;(with_reducible refine (cm2.out _ hL.out).mono ?_))|(go_at_call 54;(with_reducible refine (cm3.out _ hL.out).mono ?_))|(go_at_call 54;(with_reducible refine (cm4.out _ hL.out).mono ?_)));rintro e w1 ⟨rfl,hL2,hS2⟩;replace hT:=hi_ (hS2.blk hneL.out hT.out);obtain⟨p0,p1,p2,p3,v0,v1,v2,v3⟩:=hT.out.b4;replace hL:=hi_ hL2;replace hS:=hi_ (hS.out.trans hS2);replace q0:=hL.out.q0;clear hL2 hS2))
 generalize hWf:World.setCell _ _ _=Wf;replace hWf:=hWf.symm;obtain⟨hb,hLf,hFf,hg⟩:=ek rfl hLT hRT hAT.out hT.out hL.out ((Fr.of_below b1.out).trans (Fr.of_save (R:=R) hS.out)) hWf;obtain⟨u0,u1,u2,u3,-⟩:=hb.b4;refine h3_ hLf hFf hWf ?_;clear hLf hFf hWf;intro hLf hFf hWf;clear hb hg p0 p1 p2 p3 v0 v1 v2 v3;refine bodyPost_ret (by simp[results,Tryz.results119,go_sem,u0,u1,u2,u3];try rfl) rfl ?_;rw[hK.out,hres.out];exact⟨none,0,rfl,Own.nil _ _,⟨_,_,hLf.out⟩,hFf.out⟩
theorem rz {t:Bs}(W:World) (h:LS L R A c bs M V W (47 :: t)):Calls Tryz.prog 119 #[.pointer (some ⟨R,0,none⟩)] W (TokL L R A c bs W (tokA (47 :: t))):=by
 have hres:=hi_ (show tokA (47 :: t)=bw 4 (47 :: t) (aJ (t.length+1) [] t) from rfl);obtain⟨K,hK⟩:∃K,K=tokA (47 :: t):=⟨_,rfl⟩;rw[←hK];replace hK:=hi_ hK;obtain⟨W1,hW1,b1,hT⟩:=ak W 108 #[.int .i64 0,.int .i64 0,.int .i64 0,.slice none 0 0];have z1:W1.heap.size=W.heap.size+1:=by rw[hW1];exact World.size_alloc _ _
 have hL:=h.belowW b1;have hLT:=h.L_lt;have hRT:=h.R_lt;have hAT:=h.a_lt;have hneL:W.heap.size≠L:=by omega
 have hneR:W.heap.size≠R:=by omega
 have q0:=hL.q0;obtain⟨p0,p1,p2,p3,v0,v1,v2,v3⟩:=hT.b4;replace hL:=hi_ hL;replace hT:=hi_ hT;have hS:=hi_ (Save.refl L W1);refine h5_ b1 z1 hAT hneL hneR ?_;clear b1 z1 hAT hneL hneR;intro b1 z1 hAT hneL hneR;have cp:=hi_ fun W h=>bi (L:=L) (R:=R) (A:=A) (c:=c) (bs:=bs) (M:=M) (V:=V) (t:=t) (x:=47) (X:=47) rfl W h
 have cm1:=hi_ fun W h=>aC (L:=L) (R:=R) (A:=A) (c:=c) (bs:=bs) (M:=M) (V:=V) (r:=47 :: t) ⟨#[91]⟩ (by decide) (by decide) (by rintro⟨q,hq⟩;simp at hq) W h
 have cm2:=hi_ fun W h=>aC (L:=L) (R:=R) (A:=A) (c:=c) (bs:=bs) (M:=M) (V:=V) (r:=47 :: t) ⟨#[93]⟩ (by decide) (by decide) (by rintro⟨q,hq⟩;simp at hq) W h
 have cm3:=hi_ fun W h=>aC (L:=L) (R:=R) (A:=A) (c:=c) (bs:=bs) (M:=M) (V:=V) (r:=47 :: t) ⟨#[60,60]⟩ (by decide) (by decide) (by rintro⟨q,hq⟩;simp at hq) W h
 have cm4:=hi_ fun W h=>aC (L:=L) (R:=R) (A:=A) (c:=c) (bs:=bs) (M:=M) (V:=V) (r:=47 :: t) ⟨#[62,62]⟩ (by decide) (by decide) (by rintro⟨q,hq⟩;simp at hq) W h
 have cm5:=hi_ fun W h=>ey (L:=L) (R:=R) (A:=A) (c:=c) (bs:=bs) (M:=M) (V:=V) (r:=47 :: t) ⟨#[47]⟩ (t:=t) (by decide) (by decide) rfl W h
 have ck:=hi_ fun W h=>jL (L:=L) (R:=R) (A:=A) (c:=c) (bs:=bs) (M:=M) (V:=V) 4 (aJ (t.length+1) [] t) (47 :: t) (fun k u=>jO _ _ _ k u) (fun w0 w h=>qE h) W h
 clear h;go_enter Tryz.func119,Tryz.ntmps119;go_upto_region 1 with fail
 rw[←hW1];replace hW1:=hi_ hW1;go_wp2_with (first|((first|(go_at_call 56;(with_reducible refine (cp.out _ hL.out).mono ?_))|(go_at_call 54;(with_reducible refine (cm1.out _ hL.out).mono ?_))|(go_at_call 54;(with_reducible refine (cm2.out _ hL.out).mono ?_))|(go_at_call 54;(with_reducible refine (cm3.out _ hL.out).mono ?_))|(go_at_call 54;(with_reducible refine (cm4.out _ hL.out).mono ?_))|(go_at_call 54;(with_reducible refine (cm5.out _ hL.out).mono ?_)));rintro e w1 ⟨rfl,hL2,hS2⟩;replace hT:=hi_ (hS2.blk hneL.out hT.out);obtain⟨p0,p1,p2,p3,v0,v1,v2,v3⟩:=hT.out.b4;replace hL:=hi_ hL2;replace hS:=hi_ (hS.out.trans hS2);replace q0:=hL.out.q0;clear hL2 hS2)|(go_at_call 150;(with_reducible refine (ck.out _ hL.out).mono ?_);rintro e w4 hX;obtain⟨k1,n1,a2,m2,c2,n,rfl⟩:=hX.shape;replace hT:=hi_ (hX.frm.blk hneL.out hneR.out hT.out);obtain⟨p0,p1,p2,p3,v0,v1,v2,v3⟩:=hT.out.b4;have hwk:=hi_ hS.out.size;have hF:=hi_ ((Fr.of_below b1.out).trans (Fr.of_save (R:=R) hS.out));replace hX:=hi_ hX;clear hL hS))
 generalize hWf:World.setCell _ _ _=Wf;replace hWf:=hWf.symm;obtain⟨hb,hXf⟩:=fa rfl hLT hRT hAT.out hF.out (by have:=hwk.out;have:=z1.out;omega) hT.out hX.out hWf;obtain⟨u0,u1,u2,u3,-⟩:=hb.b4;replace hXf:=hi_ hXf;replace hWf:=hi_ hWf;clear hb p0 p1 p2 p3 v0 v1 v2 v3;refine bodyPost_ret (by simp[results,Tryz.results119,go_sem,u0,u1,u2,u3];try rfl) rfl ?_;rw[hK.out,hres.out];exact hXf.out
theorem rB {t:Bs}(W:World) (h:LS L R A c bs M V W (40 :: t)):Calls Tryz.prog 119 #[.pointer (some ⟨R,0,none⟩)] W (TokL L R A c bs W (tokA (40 :: t))):=by
 have hres:=hi_ (show tokA (40 :: t)=bw 3 (40 :: t) (textS (t.length+1) 1 [] t) from rfl);obtain⟨K,hK⟩:∃K,K=tokA (40 :: t):=⟨_,rfl⟩;rw[←hK];replace hK:=hi_ hK;obtain⟨W1,hW1,b1,hT⟩:=ak W 108 #[.int .i64 0,.int .i64 0,.int .i64 0,.slice none 0 0];have z1:W1.heap.size=W.heap.size+1:=by rw[hW1];exact World.size_alloc _ _
 have hL:=h.belowW b1;have hLT:=h.L_lt;have hRT:=h.R_lt;have hAT:=h.a_lt;have hneL:W.heap.size≠L:=by omega
 have hneR:W.heap.size≠R:=by omega
 have q0:=hL.q0;obtain⟨p0,p1,p2,p3,v0,v1,v2,v3⟩:=hT.b4;replace hL:=hi_ hL;replace hT:=hi_ hT;have hS:=hi_ (Save.refl L W1);refine h5_ b1 z1 hAT hneL hneR ?_;clear b1 z1 hAT hneL hneR;intro b1 z1 hAT hneL hneR;have cp:=hi_ fun W h=>bi (L:=L) (R:=R) (A:=A) (c:=c) (bs:=bs) (M:=M) (V:=V) (t:=t) (x:=40) (X:=40) rfl W h
 have cm1:=hi_ fun W h=>aC (L:=L) (R:=R) (A:=A) (c:=c) (bs:=bs) (M:=M) (V:=V) (r:=40 :: t) ⟨#[91]⟩ (by decide) (by decide) (by rintro⟨q,hq⟩;simp at hq) W h
 have cm2:=hi_ fun W h=>aC (L:=L) (R:=R) (A:=A) (c:=c) (bs:=bs) (M:=M) (V:=V) (r:=40 :: t) ⟨#[93]⟩ (by decide) (by decide) (by rintro⟨q,hq⟩;simp at hq) W h
 have cm3:=hi_ fun W h=>aC (L:=L) (R:=R) (A:=A) (c:=c) (bs:=bs) (M:=M) (V:=V) (r:=40 :: t) ⟨#[60,60]⟩ (by decide) (by decide) (by rintro⟨q,hq⟩;simp at hq) W h
 have cm4:=hi_ fun W h=>aC (L:=L) (R:=R) (A:=A) (c:=c) (bs:=bs) (M:=M) (V:=V) (r:=40 :: t) ⟨#[62,62]⟩ (by decide) (by decide) (by rintro⟨q,hq⟩;simp at hq) W h
 have cm5:=hi_ fun W h=>aC (L:=L) (R:=R) (A:=A) (c:=c) (bs:=bs) (M:=M) (V:=V) (r:=40 :: t) ⟨#[47]⟩ (by decide) (by decide) (by rintro⟨q,hq⟩;simp at hq) W h
 have cm6:=hi_ fun W h=>ey (L:=L) (R:=R) (A:=A) (c:=c) (bs:=bs) (M:=M) (V:=V) (r:=40 :: t) ⟨#[40]⟩ (t:=t) (by decide) (by decide) rfl W h
 have ck:=hi_ fun W h=>jM (L:=L) (R:=R) (A:=A) (c:=c) (bs:=bs) (M:=M) (V:=V) 3 (textS (t.length+1) 1 [] t) (40 :: t) (fun k u=>kA _ _ _ _ k u) (fun w0 w h=>qF h) W h
 clear h;go_enter Tryz.func119,Tryz.ntmps119;go_upto_region 1 with fail
 rw[←hW1];replace hW1:=hi_ hW1;go_wp2_with (first|((first|(go_at_call 56;(with_reducible refine (cp.out _ hL.out).mono ?_))|(go_at_call 54;(with_reducible refine (cm1.out _ hL.out).mono ?_))|(go_at_call 54;(with_reducible refine (cm2.out _ hL.out).mono ?_))|(go_at_call 54;(with_reducible refine (cm3.out _ hL.out).mono ?_))|(go_at_call 54;(with_reducible refine (cm4.out _ hL.out).mono ?_))|(go_at_call 54;(with_reducible refine (cm5.out _ hL.out).mono ?_))|(go_at_call 54;(with_reducible refine (cm6.out _ hL.out).mono ?_)));rintro e w1 ⟨rfl,hL2,hS2⟩;replace hT:=hi_ (hS2.blk hneL.out hT.out);obtain⟨p0,p1,p2,p3,v0,v1,v2,v3⟩:=hT.out.b4;replace hL:=hi_ hL2;replace hS:=hi_ (hS.out.trans hS2);replace q0:=hL.out.q0;clear hL2 hS2)|(go_at_call 150;(with_reducible refine (ck.out _ hL.out).mono ?_);rintro e w4 hX;obtain⟨k1,n1,a2,m2,c2,n,rfl⟩:=hX.shape;replace hT:=hi_ (hX.frm.blk hneL.out hneR.out hT.out);obtain⟨p0,p1,p2,p3,v0,v1,v2,v3⟩:=hT.out.b4;have hwk:=hi_ hS.out.size;have hF:=hi_ ((Fr.of_below b1.out).trans (Fr.of_save (R:=R) hS.out));replace hX:=hi_ hX;clear hL hS))
 generalize hWf:World.setCell _ _ _=Wf;replace hWf:=hWf.symm;obtain⟨hb,hXf⟩:=fa rfl hLT hRT hAT.out hF.out (by have:=hwk.out;have:=z1.out;omega) hT.out hX.out hWf;obtain⟨u0,u1,u2,u3,-⟩:=hb.b4;replace hXf:=hi_ hXf;replace hWf:=hi_ hWf;clear hb p0 p1 p2 p3 v0 v1 v2 v3;refine bodyPost_ret (by simp[results,Tryz.results119,go_sem,u0,u1,u2,u3];try rfl) rfl ?_;rw[hK.out,hres.out];exact hXf.out
theorem sY {t:Bs}(h60:¬t[0]?=some 60) (W:World) (h:LS L R A c bs M V W (60 :: t)):Calls Tryz.prog 119 #[.pointer (some ⟨R,0,none⟩)] W (TokL L R A c bs W (tokA (60 :: t))):=by
 have hres:=hi_ (show tokA (60 :: t)=bw 3 (60 :: t) (bm (t.length+1) (-1) [] t) from by rw[tokA.eq_2,if_neg (by decide),if_neg (by decide),if_neg (by rintro⟨_,e⟩;exact h60 e),if_neg (by rintro⟨e,_⟩;exact absurd e (by decide)),if_neg (by decide),if_neg (by decide),if_pos rfl]);obtain⟨K,hK⟩:∃K,K=tokA (60 :: t):=⟨_,rfl⟩;rw[←hK];replace hK:=hi_ hK;obtain⟨W1,hW1,b1,hT⟩:=ak W 108 #[.int .i64 0,.int .i64 0,.int .i64 0,.slice none 0 0];have z1:W1.heap.size=W.heap.size+1:=by rw[hW1];exact World.size_alloc _ _
 have hL:=h.belowW b1;have hLT:=h.L_lt;have hRT:=h.R_lt;have hAT:=h.a_lt;have hneL:W.heap.size≠L:=by omega
 have hneR:W.heap.size≠R:=by omega
 have q0:=hL.q0;obtain⟨p0,p1,p2,p3,v0,v1,v2,v3⟩:=hT.b4;replace hL:=hi_ hL;replace hT:=hi_ hT;have hS:=hi_ (Save.refl L W1);refine h5_ b1 z1 hAT hneL hneR ?_;clear b1 z1 hAT hneL hneR;intro b1 z1 hAT hneL hneR;have cp:=hi_ fun W h=>bi (L:=L) (R:=R) (A:=A) (c:=c) (bs:=bs) (M:=M) (V:=V) (t:=t) (x:=60) (X:=60) rfl W h
 have cm1:=hi_ fun W h=>aC (L:=L) (R:=R) (A:=A) (c:=c) (bs:=bs) (M:=M) (V:=V) (r:=60 :: t) ⟨#[91]⟩ (by decide) (by decide) (by rintro⟨q,hq⟩;simp at hq) W h
 have cm2:=hi_ fun W h=>aC (L:=L) (R:=R) (A:=A) (c:=c) (bs:=bs) (M:=M) (V:=V) (r:=60 :: t) ⟨#[93]⟩ (by decide) (by decide) (by rintro⟨q,hq⟩;simp at hq) W h
 have cm3:=hi_ fun W h=>aC (L:=L) (R:=R) (A:=A) (c:=c) (bs:=bs) (M:=M) (V:=V) (r:=60 :: t) ⟨#[60,60]⟩ (by decide) (by decide) (by rintro⟨q,hq⟩;cases t with|nil=>simp at hq|cons y t=>simp at hq;apply h60;rw[←hq.1];rfl) W h
 have cm4:=hi_ fun W h=>aC (L:=L) (R:=R) (A:=A) (c:=c) (bs:=bs) (M:=M) (V:=V) (r:=60 :: t) ⟨#[62,62]⟩ (by decide) (by decide) (by rintro⟨q,hq⟩;simp at hq) W h
 have cm5:=hi_ fun W h=>aC (L:=L) (R:=R) (A:=A) (c:=c) (bs:=bs) (M:=M) (V:=V) (r:=60 :: t) ⟨#[47]⟩ (by decide) (by decide) (by rintro⟨q,hq⟩;simp at hq) W h
 have cm6:=hi_ fun W h=>aC (L:=L) (R:=R) (A:=A) (c:=c) (bs:=bs) (M:=M) (V:=V) (r:=60 :: t) ⟨#[40]⟩ (by decide) (by decide) (by rintro⟨q,hq⟩;simp at hq) W h
 have cm7:=hi_ fun W h=>ey (L:=L) (R:=R) (A:=A) (c:=c) (bs:=bs) (M:=M) (V:=V) (r:=60 :: t) ⟨#[60]⟩ (t:=t) (by decide) (by decide) rfl W h
 have ck:=hi_ fun W h=>kX (L:=L) (R:=R) (A:=A) (c:=c) (bs:=bs) (M:=M) (V:=V) 3 (bm (t.length+1) (-1) [] t) (60 :: t) (fun k u=>lX _ _ _ _ k u) (fun w0 w h=>sx h) W h
 clear h;go_enter Tryz.func119,Tryz.ntmps119;go_upto_region 1 with fail
 rw[←hW1];replace hW1:=hi_ hW1;go_wp2_with (first|((first|(go_at_call 56;(with_reducible refine (cp.out _ hL.out).mono ?_))|(go_at_call 54;(with_reducible refine (cm1.out _ hL.out).mono ?_))|(go_at_call 54;(with_reducible refine (cm2.out _ hL.out).mono ?_))|(go_at_call 54;(with_reducible refine (cm3.out _ hL.out).mono ?_))|(go_at_call 54;(with_reducible refine (cm4.out _ hL.out).mono ?_))|(go_at_call 54;(with_reducible refine (cm5.out _ hL.out).mono ?_))|(go_at_call 54;(with_reducible refine (cm6.out _ hL.out).mono ?_))|(go_at_call 54;(with_reducible refine (cm7.out _ hL.out).mono ?_)));rintro e w1 ⟨rfl,hL2,hS2⟩;replace hT:=hi_ (hS2.blk hneL.out hT.out);obtain⟨p0,p1,p2,p3,v0,v1,v2,v3⟩:=hT.out.b4;replace hL:=hi_ hL2;replace hS:=hi_ (hS.out.trans hS2);replace q0:=hL.out.q0;clear hL2 hS2)|(go_at_call 150;(with_reducible refine (ck.out _ hL.out).mono ?_);rintro e w4 hX;obtain⟨k1,n1,a2,m2,c2,n,rfl⟩:=hX.shape;replace hT:=hi_ (hX.frm.blk hneL.out hneR.out hT.out);obtain⟨p0,p1,p2,p3,v0,v1,v2,v3⟩:=hT.out.b4;have hwk:=hi_ hS.out.size;have hF:=hi_ ((Fr.of_below b1.out).trans (Fr.of_save (R:=R) hS.out));replace hX:=hi_ hX;clear hL hS))
 generalize hWf:World.setCell _ _ _=Wf;replace hWf:=hWf.symm;obtain⟨hb,hXf⟩:=fa rfl hLT hRT hAT.out hF.out (by have:=hwk.out;have:=z1.out;omega) hT.out hX.out hWf;obtain⟨u0,u1,u2,u3,-⟩:=hb.b4;replace hXf:=hi_ hXf;replace hWf:=hi_ hWf;clear hb p0 p1 p2 p3 v0 v1 v2 v3;refine bodyPost_ret (by simp[results,Tryz.results119,go_sem,u0,u1,u2,u3];try rfl) rfl ?_;rw[hK.out,hres.out];exact hXf.out
theorem ta {x:UInt8}{t:Bs}(n91:x≠91) (n93:x≠93) (n60:x≠60) (n47:x≠47) (n40:x≠40) (n62:¬(x=62∧t[0]?=some 62)) (hnum:dR x=true) (hreg:eR (x :: t)=true) (W:World) (h:LS L R A c bs M V W (x :: t)):Calls Tryz.prog 119 #[.pointer (some ⟨R,0,none⟩)] W (TokL L R A c bs W (tokA (x :: t))):=by
 have hres:=hi_ (show tokA (x :: t)=dS (x :: t) from by rw[tokA.eq_2,if_neg n91,if_neg n93,if_neg (by rintro⟨e,_⟩;exact n60 e),if_neg n62,if_neg n47,if_neg n40,if_neg n60,if_pos hnum]);obtain⟨K,hK⟩:∃K,K=tokA (x :: t):=⟨_,rfl⟩;rw[←hK];replace hK:=hi_ hK;obtain⟨W1,hW1,b1,hT⟩:=ak W 108 #[.int .i64 0,.int .i64 0,.int .i64 0,.slice none 0 0];have z1:W1.heap.size=W.heap.size+1:=by rw[hW1];exact World.size_alloc _ _
 have hL:=h.belowW b1;have hLT:=h.L_lt;have hRT:=h.R_lt;have hAT:=h.a_lt;have hneL:W.heap.size≠L:=by omega
 have hneR:W.heap.size≠R:=by omega
 have q0:=hL.q0;obtain⟨p0,p1,p2,p3,v0,v1,v2,v3⟩:=hT.b4;replace hL:=hi_ hL;replace hT:=hi_ hT;have hS:=hi_ (Save.refl L W1);refine h5_ b1 z1 hAT hneL hneR ?_;clear b1 z1 hAT hneL hneR;intro b1 z1 hAT hneL hneR;obtain⟨X,hX⟩:=aT (x.toNat:Int);have hX0:0≤X∧X≤255:=by rw[hX.out];have:=x.toNat_lt;omega
 have cp:=hi_ fun W h=>bi (L:=L) (R:=R) (A:=A) (c:=c) (bs:=bs) (M:=M) (V:=V) (t:=t) hX.out W h
 have cm1:=hi_ fun W h=>aC (L:=L) (R:=R) (A:=A) (c:=c) (bs:=bs) (M:=M) (V:=V) (r:=x :: t) ⟨#[91]⟩ (by decide) (by decide) (by rintro⟨q,hq⟩;simp at hq;exact n91 hq.1.symm) W h
 have cm2:=hi_ fun W h=>aC (L:=L) (R:=R) (A:=A) (c:=c) (bs:=bs) (M:=M) (V:=V) (r:=x :: t) ⟨#[93]⟩ (by decide) (by decide) (by rintro⟨q,hq⟩;simp at hq;exact n93 hq.1.symm) W h
 have cm3:=hi_ fun W h=>aC (L:=L) (R:=R) (A:=A) (c:=c) (bs:=bs) (M:=M) (V:=V) (r:=x :: t) ⟨#[60,60]⟩ (by decide) (by decide) (by rintro⟨q,hq⟩;simp at hq;exact n60 hq.1.symm) W h
 have cm5:=hi_ fun W h=>aC (L:=L) (R:=R) (A:=A) (c:=c) (bs:=bs) (M:=M) (V:=V) (r:=x :: t) ⟨#[47]⟩ (by decide) (by decide) (by rintro⟨q,hq⟩;simp at hq;exact n47 hq.1.symm) W h
 have cm6:=hi_ fun W h=>aC (L:=L) (R:=R) (A:=A) (c:=c) (bs:=bs) (M:=M) (V:=V) (r:=x :: t) ⟨#[40]⟩ (by decide) (by decide) (by rintro⟨q,hq⟩;simp at hq;exact n40 hq.1.symm) W h
 have cm7:=hi_ fun W h=>aC (L:=L) (R:=R) (A:=A) (c:=c) (bs:=bs) (M:=M) (V:=V) (r:=x :: t) ⟨#[60]⟩ (by decide) (by decide) (by rintro⟨q,hq⟩;simp at hq;exact n60 hq.1.symm) W h
 have cm4:=hi_ fun W h=>aC (L:=L) (R:=R) (A:=A) (c:=c) (bs:=bs) (M:=M) (V:=V) (r:=x :: t) ⟨#[62,62]⟩ (by decide) (by decide) (by rintro⟨q,hq⟩;cases t with|nil=>simp at hq|cons y t=>simp at hq;exact n62 ⟨hq.1.symm,by rw[←hq.2.1];rfl⟩) W h
 have ck:=hi_ fun W h=>mR (L:=L) (R:=R) (A:=A) (c:=c) (bs:=bs) (M:=M) (V:=V) (r:=x :: t) hreg W h
 have hn:X=43∨X=45∨X=46∨(48≤X∧X≤57):=by
  have hn:=gu hX.out;rw[hnum]at hn;simp only[Bool.or_eq_true,Bool.and_eq_true,beq_iff_eq,decide_eq_true_eq,eq_comm (a:=true)]at hn;omega
 clear h;go_enter Tryz.func119,Tryz.ntmps119;go_upto_region 1 with fail
 rw[←hW1];replace hW1:=hi_ hW1;rcases hn with hn|hn|hn|hn
 ·subst hn
  go_wp2_with (first|((first|(go_at_call 56;(with_reducible refine (cp.out _ hL.out).mono ?_))|(go_at_call 54;(with_reducible refine (cm1.out _ hL.out).mono ?_))|(go_at_call 54;(with_reducible refine (cm2.out _ hL.out).mono ?_))|(go_at_call 54;(with_reducible refine (cm3.out _ hL.out).mono ?_))|(go_at_call 54;(with_reducible refine (cm4.out _ hL.out).mono ?_))|(go_at_call 54;(with_reducible refine (cm5.out _ hL.out).mono ?_))|(go_at_call 54;(with_reducible refine (cm6.out _ hL.out).mono ?_))|(go_at_call 54;(with_reducible refine (cm7.out _ hL.out).mono ?_)));rintro e w1 ⟨rfl,hL2,hS2⟩;replace hT:=hi_ (hS2.blk hneL.out hT.out);obtain⟨p0,p1,p2,p3,v0,v1,v2,v3⟩:=hT.out.b4;replace hL:=hi_ hL2;replace hS:=hi_ (hS.out.trans hS2);replace q0:=hL.out.q0;clear hL2 hS2)|(go_at_call 154;(with_reducible refine (ck.out _ hL.out).mono ?_);rintro e w4 hX;obtain⟨k1,n1,a2,m2,c2,n,rfl⟩:=hX.shape;replace hT:=hi_ (hX.frm.blk hneL.out hneR.out hT.out);obtain⟨p0,p1,p2,p3,v0,v1,v2,v3⟩:=hT.out.b4;have hwk:=hi_ hS.out.size;have hF:=hi_ ((Fr.of_below b1.out).trans (Fr.of_save (R:=R) hS.out));replace hX:=hi_ hX;clear hL hS))
  generalize hWf:World.setCell _ _ _=Wf;replace hWf:=hWf.symm;obtain⟨hb,hXf⟩:=fa rfl hLT hRT hAT.out hF.out (by have:=hwk.out;have:=z1.out;omega) hT.out hX.out hWf;obtain⟨u0,u1,u2,u3,-⟩:=hb.b4;replace hXf:=hi_ hXf;replace hWf:=hi_ hWf;clear hb p0 p1 p2 p3 v0 v1 v2 v3;refine bodyPost_ret (by simp[results,Tryz.results119,go_sem,u0,u1,u2,u3];try rfl) rfl ?_;rw[hK.out,hres.out];exact hXf.out
 ·subst hn
  go_wp2_with (first|((first|(go_at_call 56;(with_reducible refine (cp.out _ hL.out).mono ?_))|(go_at_call 54;(with_reducible refine (cm1.out _ hL.out).mono ?_))|(go_at_call 54;(with_reducible refine (cm2.out _ hL.out).mono ?_))|(go_at_call 54;(with_reducible refine (cm3.out _ hL.out).mono ?_))|(go_at_call 54;(with_reducible refine (cm4.out _ hL.out).mono ?_))|(go_at_call 54;(with_reducible refine (cm5.out _ hL.out).mono ?_))|(go_at_call 54;(with_reducible refine (cm6.out _ hL.out).mono ?_))|(go_at_call 54;(with_reducible refine (cm7.out _ hL.out).mono ?_)));rintro e w1 ⟨rfl,hL2,hS2⟩;replace hT:=hi_ (hS2.blk hneL.out hT.out);obtain⟨p0,p1,p2,p3,v0,v1,v2,v3⟩:=hT.out.b4;replace hL:=hi_ hL2;replace hS:=hi_ (hS.out.trans hS2);replace q0:=hL.out.q0;clear hL2 hS2)|(go_at_call 154;(with_reducible refine (ck.out _ hL.out).mono ?_);rintro e w4 hX;obtain⟨k1,n1,a2,m2,c2,n,rfl⟩:=hX.shape;replace hT:=hi_ (hX.frm.blk hneL.out hneR.out hT.out);obtain⟨p0,p1,p2,p3,v0,v1,v2,v3⟩:=hT.out.b4;have hwk:=hi_ hS.out.size;have hF:=hi_ ((Fr.of_below b1.out).trans (Fr.of_save (R:=R) hS.out));replace hX:=hi_ hX;clear hL hS))
  generalize hWf:World.setCell _ _ _=Wf;replace hWf:=hWf.symm;obtain⟨hb,hXf⟩:=fa rfl hLT hRT hAT.out hF.out (by have:=hwk.out;have:=z1.out;omega) hT.out hX.out hWf;obtain⟨u0,u1,u2,u3,-⟩:=hb.b4;replace hXf:=hi_ hXf;replace hWf:=hi_ hWf;clear hb p0 p1 p2 p3 v0 v1 v2 v3;refine bodyPost_ret (by simp[results,Tryz.results119,go_sem,u0,u1,u2,u3];try rfl) rfl ?_;rw[hK.out,hres.out];exact hXf.out
 ·subst hn
  go_wp2_with (first|((first|(go_at_call 56;(with_reducible refine (cp.out _ hL.out).mono ?_))|(go_at_call 54;(with_reducible refine (cm1.out _ hL.out).mono ?_))|(go_at_call 54;(with_reducible refine (cm2.out _ hL.out).mono ?_))|(go_at_call 54;(with_reducible refine (cm3.out _ hL.out).mono ?_))|(go_at_call 54;(with_reducible refine (cm4.out _ hL.out).mono ?_))|(go_at_call 54;(with_reducible refine (cm5.out _ hL.out).mono ?_))|(go_at_call 54;(with_reducible refine (cm6.out _ hL.out).mono ?_))|(go_at_call 54;(with_reducible refine (cm7.out _ hL.out).mono ?_)));rintro e w1 ⟨rfl,hL2,hS2⟩;replace hT:=hi_ (hS2.blk hneL.out hT.out);obtain⟨p0,p1,p2,p3,v0,v1,v2,v3⟩:=hT.out.b4;replace hL:=hi_ hL2;replace hS:=hi_ (hS.out.trans hS2);replace q0:=hL.out.q0;clear hL2 hS2)|(go_at_call 154;(with_reducible refine (ck.out _ hL.out).mono ?_);rintro e w4 hX;obtain⟨k1,n1,a2,m2,c2,n,rfl⟩:=hX.shape;replace hT:=hi_ (hX.frm.blk hneL.out hneR.out hT.out);obtain⟨p0,p1,p2,p3,v0,v1,v2,v3⟩:=hT.out.b4;have hwk:=hi_ hS.out.size;have hF:=hi_ ((Fr.of_below b1.out).trans (Fr.of_save (R:=R) hS.out));replace hX:=hi_ hX;clear hL hS))
  generalize hWf:World.setCell _ _ _=Wf;replace hWf:=hWf.symm;obtain⟨hb,hXf⟩:=fa rfl hLT hRT hAT.out hF.out (by have:=hwk.out;have:=z1.out;omega) hT.out hX.out hWf;obtain⟨u0,u1,u2,u3,-⟩:=hb.b4;replace hXf:=hi_ hXf;replace hWf:=hi_ hWf;clear hb p0 p1 p2 p3 v0 v1 v2 v3;refine bodyPost_ret (by simp[results,Tryz.results119,go_sem,u0,u1,u2,u3];try rfl) rfl ?_;rw[hK.out,hres.out];exact hXf.out
 ·have nn:¬X=43∧¬X=45∧¬X=46:=by omega
  obtain⟨nn1,nn2,nn3⟩:=nn;have nb1:(X == 43)=false:=beq_eq_false_iff_ne.2 nn1;have nb2:(X == 45)=false:=beq_eq_false_iff_ne.2 nn2;have nb3:(X == 46)=false:=beq_eq_false_iff_ne.2 nn3;clear nn1 nn2 nn3;go_wp2_with (first|((first|(go_at_call 56;(with_reducible refine (cp.out _ hL.out).mono ?_))|(go_at_call 54;(with_reducible refine (cm1.out _ hL.out).mono ?_))|(go_at_call 54;(with_reducible refine (cm2.out _ hL.out).mono ?_))|(go_at_call 54;(with_reducible refine (cm3.out _ hL.out).mono ?_))|(go_at_call 54;(with_reducible refine (cm4.out _ hL.out).mono ?_))|(go_at_call 54;(with_reducible refine (cm5.out _ hL.out).mono ?_))|(go_at_call 54;(with_reducible refine (cm6.out _ hL.out).mono ?_))|(go_at_call 54;(with_reducible refine (cm7.out _ hL.out).mono ?_)));rintro e w1 ⟨rfl,hL2,hS2⟩;replace hT:=hi_ (hS2.blk hneL.out hT.out);obtain⟨p0,p1,p2,p3,v0,v1,v2,v3⟩:=hT.out.b4;replace hL:=hi_ hL2;replace hS:=hi_ (hS.out.trans hS2);replace q0:=hL.out.q0;clear hL2 hS2)|(go_at_call 154;(with_reducible refine (ck.out _ hL.out).mono ?_);rintro e w4 hX;obtain⟨k1,n1,a2,m2,c2,n,rfl⟩:=hX.shape;replace hT:=hi_ (hX.frm.blk hneL.out hneR.out hT.out);obtain⟨p0,p1,p2,p3,v0,v1,v2,v3⟩:=hT.out.b4;have hwk:=hi_ hS.out.size;have hF:=hi_ ((Fr.of_below b1.out).trans (Fr.of_save (R:=R) hS.out));replace hX:=hi_ hX;clear hL hS))
  generalize hWf:World.setCell _ _ _=Wf;replace hWf:=hWf.symm;obtain⟨hb,hXf⟩:=fa rfl hLT hRT hAT.out hF.out (by have:=hwk.out;have:=z1.out;omega) hT.out hX.out hWf;obtain⟨u0,u1,u2,u3,-⟩:=hb.b4;replace hXf:=hi_ hXf;replace hWf:=hi_ hWf;clear hb p0 p1 p2 p3 v0 v1 v2 v3;refine bodyPost_ret (by simp[results,Tryz.results119,go_sem,u0,u1,u2,u3];try rfl) rfl ?_;rw[hK.out,hres.out];exact hXf.out
theorem sX {x:UInt8}{t:Bs}(n91:x≠91) (n93:x≠93) (n60:x≠60) (n47:x≠47) (n40:x≠40) (n62:¬(x=62∧t[0]?=some 62)) (hnum:dR x=false) (hreg:bu x=false) (W:World) (h:LS L R A c bs M V W (x :: t)):Calls Tryz.prog 119 #[.pointer (some ⟨R,0,none⟩)] W (TokL L R A c bs W (tokA (x :: t))):=by
 have hres:=hi_ (show tokA (x :: t)=.err 4 (x :: t) from by rw[tokA.eq_2,if_neg n91,if_neg n93,if_neg (by rintro⟨e,_⟩;exact n60 e),if_neg n62,if_neg n47,if_neg n40,if_neg n60,if_neg (by rw[hnum];decide),if_neg (by rw[hreg];decide)]);obtain⟨K,hK⟩:∃K,K=tokA (x :: t):=⟨_,rfl⟩;rw[←hK];replace hK:=hi_ hK;obtain⟨W1,hW1,b1,hT⟩:=ak W 108 #[.int .i64 0,.int .i64 0,.int .i64 0,.slice none 0 0];have z1:W1.heap.size=W.heap.size+1:=by rw[hW1];exact World.size_alloc _ _
 have hL:=h.belowW b1;have hLT:=h.L_lt;have hRT:=h.R_lt;have hAT:=h.a_lt;have hneL:W.heap.size≠L:=by omega
 have hneR:W.heap.size≠R:=by omega
 have q0:=hL.q0;obtain⟨p0,p1,p2,p3,v0,v1,v2,v3⟩:=hT.b4;replace hL:=hi_ hL;replace hT:=hi_ hT;have hS:=hi_ (Save.refl L W1);refine h5_ b1 z1 hAT hneL hneR ?_;clear b1 z1 hAT hneL hneR;intro b1 z1 hAT hneL hneR;obtain⟨X,hX⟩:=aT (x.toNat:Int);have hX0:0≤X∧X≤255:=by rw[hX.out];have:=x.toNat_lt;omega
 have cp:=hi_ fun W h=>bi (L:=L) (R:=R) (A:=A) (c:=c) (bs:=bs) (M:=M) (V:=V) (t:=t) hX.out W h
 have cm1:=hi_ fun W h=>aC (L:=L) (R:=R) (A:=A) (c:=c) (bs:=bs) (M:=M) (V:=V) (r:=x :: t) ⟨#[91]⟩ (by decide) (by decide) (by rintro⟨q,hq⟩;simp at hq;exact n91 hq.1.symm) W h
 have cm2:=hi_ fun W h=>aC (L:=L) (R:=R) (A:=A) (c:=c) (bs:=bs) (M:=M) (V:=V) (r:=x :: t) ⟨#[93]⟩ (by decide) (by decide) (by rintro⟨q,hq⟩;simp at hq;exact n93 hq.1.symm) W h
 have cm3:=hi_ fun W h=>aC (L:=L) (R:=R) (A:=A) (c:=c) (bs:=bs) (M:=M) (V:=V) (r:=x :: t) ⟨#[60,60]⟩ (by decide) (by decide) (by rintro⟨q,hq⟩;simp at hq;exact n60 hq.1.symm) W h
 have cm5:=hi_ fun W h=>aC (L:=L) (R:=R) (A:=A) (c:=c) (bs:=bs) (M:=M) (V:=V) (r:=x :: t) ⟨#[47]⟩ (by decide) (by decide) (by rintro⟨q,hq⟩;simp at hq;exact n47 hq.1.symm) W h
 have cm6:=hi_ fun W h=>aC (L:=L) (R:=R) (A:=A) (c:=c) (bs:=bs) (M:=M) (V:=V) (r:=x :: t) ⟨#[40]⟩ (by decide) (by decide) (by rintro⟨q,hq⟩;simp at hq;exact n40 hq.1.symm) W h
 have cm7:=hi_ fun W h=>aC (L:=L) (R:=R) (A:=A) (c:=c) (bs:=bs) (M:=M) (V:=V) (r:=x :: t) ⟨#[60]⟩ (by decide) (by decide) (by rintro⟨q,hq⟩;simp at hq;exact n60 hq.1.symm) W h
 have cm4:=hi_ fun W h=>aC (L:=L) (R:=R) (A:=A) (c:=c) (bs:=bs) (M:=M) (V:=V) (r:=x :: t) ⟨#[62,62]⟩ (by decide) (by decide) (by rintro⟨q,hq⟩;cases t with|nil=>simp at hq|cons y t=>simp at hq;exact n62 ⟨hq.1.symm,by rw[←hq.2.1];rfl⟩) W h
 have hn:¬X=43∧¬X=45∧¬X=46∧¬(48≤X∧X≤57):=by
  have hn:=gu hX.out;rw[hnum]at hn;have hn:=hn.symm;simp only[Bool.or_eq_false_iff,Bool.and_eq_false_iff,beq_eq_false_iff_ne,decide_eq_false_iff_not]at hn;omega
 obtain⟨nn1,nn2,nn3,nn4⟩:=hn;have nb1:(X == 43)=false:=beq_eq_false_iff_ne.2 nn1;have nb2:(X == 45)=false:=beq_eq_false_iff_ne.2 nn2;have nb3:(X == 46)=false:=beq_eq_false_iff_ne.2 nn3;clear nn1 nn2 nn3;have cr:=hi_ fun W=>cO hX.out hreg.symm W
 clear h;go_enter Tryz.func119,Tryz.ntmps119;go_upto_region 1 with fail
 rw[←hW1];replace hW1:=hi_ hW1;by_cases h48:48≤X
 ·have h57:¬X≤57:=fun e=>nn4 ⟨h48,e⟩
  clear nn4;go_wp2_with (first|((first|(go_at_call 56;(with_reducible refine (cp.out _ hL.out).mono ?_))|(go_at_call 54;(with_reducible refine (cm1.out _ hL.out).mono ?_))|(go_at_call 54;(with_reducible refine (cm2.out _ hL.out).mono ?_))|(go_at_call 54;(with_reducible refine (cm3.out _ hL.out).mono ?_))|(go_at_call 54;(with_reducible refine (cm4.out _ hL.out).mono ?_))|(go_at_call 54;(with_reducible refine (cm5.out _ hL.out).mono ?_))|(go_at_call 54;(with_reducible refine (cm6.out _ hL.out).mono ?_))|(go_at_call 54;(with_reducible refine (cm7.out _ hL.out).mono ?_)));rintro e w1 ⟨rfl,hL2,hS2⟩;replace hT:=hi_ (hS2.blk hneL.out hT.out);obtain⟨p0,p1,p2,p3,v0,v1,v2,v3⟩:=hT.out.b4;replace hL:=hi_ hL2;replace hS:=hi_ (hS.out.trans hS2);replace q0:=hL.out.q0;clear hL2 hS2)|(go_at_call 55;(with_reducible refine (cr.out _).mono ?_);rintro e w2 ⟨rfl,rfl⟩))
  generalize hWf:World.setCell _ _ _=Wf;replace hWf:=hWf.symm;obtain⟨hb,hLf,hFf,hg⟩:=ek rfl hLT hRT hAT.out hT.out hL.out ((Fr.of_below b1.out).trans (Fr.of_save (R:=R) hS.out)) hWf;obtain⟨u0,u1,u2,u3,-⟩:=hb.b4;refine h3_ hLf hFf hWf ?_;clear hLf hFf hWf;intro hLf hFf hWf;clear hb hg p0 p1 p2 p3 v0 v1 v2 v3;refine bodyPost_ret (by simp[results,Tryz.results119,go_sem,u0,u1,u2,u3];try rfl) rfl ?_;rw[hK.out,hres.out];exact⟨by decide,⟨_,_,_,_,_,rfl⟩,⟨_,_,_,hLf.out⟩,hFf.out⟩
 ·clear nn4
  go_wp2_with (first|((first|(go_at_call 56;(with_reducible refine (cp.out _ hL.out).mono ?_))|(go_at_call 54;(with_reducible refine (cm1.out _ hL.out).mono ?_))|(go_at_call 54;(with_reducible refine (cm2.out _ hL.out).mono ?_))|(go_at_call 54;(with_reducible refine (cm3.out _ hL.out).mono ?_))|(go_at_call 54;(with_reducible refine (cm4.out _ hL.out).mono ?_))|(go_at_call 54;(with_reducible refine (cm5.out _ hL.out).mono ?_))|(go_at_call 54;(with_reducible refine (cm6.out _ hL.out).mono ?_))|(go_at_call 54;(with_reducible refine (cm7.out _ hL.out).mono ?_)));rintro e w1 ⟨rfl,hL2,hS2⟩;replace hT:=hi_ (hS2.blk hneL.out hT.out);obtain⟨p0,p1,p2,p3,v0,v1,v2,v3⟩:=hT.out.b4;replace hL:=hi_ hL2;replace hS:=hi_ (hS.out.trans hS2);replace q0:=hL.out.q0;clear hL2 hS2)|(go_at_call 55;(with_reducible refine (cr.out _).mono ?_);rintro e w2 ⟨rfl,rfl⟩))
  generalize hWf:World.setCell _ _ _=Wf;replace hWf:=hWf.symm;obtain⟨hb,hLf,hFf,hg⟩:=ek rfl hLT hRT hAT.out hT.out hL.out ((Fr.of_below b1.out).trans (Fr.of_save (R:=R) hS.out)) hWf;obtain⟨u0,u1,u2,u3,-⟩:=hb.b4;refine h3_ hLf hFf hWf ?_;clear hLf hFf hWf;intro hLf hFf hWf;clear hb hg p0 p1 p2 p3 v0 v1 v2 v3;refine bodyPost_ret (by simp[results,Tryz.results119,go_sem,u0,u1,u2,u3];try rfl) rfl ?_;rw[hK.out,hres.out];exact⟨by decide,⟨_,_,_,_,_,rfl⟩,⟨_,_,_,hLf.out⟩,hFf.out⟩
theorem ry {x:UInt8}{t:Bs}(n91:x≠91) (n93:x≠93) (n60:x≠60) (n47:x≠47) (n40:x≠40) (n62:¬(x=62∧t[0]?=some 62)) (hnum:dR x=false) (hreg:bu x=true) (hlen:127<(aN (x :: t)).length) (W:World) (h:LS L R A c bs M V W (x :: t)):Calls Tryz.prog 119 #[.pointer (some ⟨R,0,none⟩)] W (TokL L R A c bs W (tokA (x :: t))):=by
 have hres:=hi_ (show tokA (x :: t)=.err 3 (x :: t) from by rw[tokA.eq_2,if_neg n91,if_neg n93,if_neg (by rintro⟨e,_⟩;exact n60 e),if_neg n62,if_neg n47,if_neg n40,if_neg n60,if_neg (by rw[hnum];decide),if_pos hreg,if_pos hlen]);obtain⟨K,hK⟩:∃K,K=tokA (x :: t):=⟨_,rfl⟩;rw[←hK];replace hK:=hi_ hK;obtain⟨W1,hW1,b1,hT⟩:=ak W 108 #[.int .i64 0,.int .i64 0,.int .i64 0,.slice none 0 0];have z1:W1.heap.size=W.heap.size+1:=by rw[hW1];exact World.size_alloc _ _
 have hL:=h.belowW b1;have hLT:=h.L_lt;have hRT:=h.R_lt;have hAT:=h.a_lt;have hneL:W.heap.size≠L:=by omega
 have hneR:W.heap.size≠R:=by omega
 have q0:=hL.q0;obtain⟨p0,p1,p2,p3,v0,v1,v2,v3⟩:=hT.b4;replace hL:=hi_ hL;replace hT:=hi_ hT;have hS:=hi_ (Save.refl L W1);refine h5_ b1 z1 hAT hneL hneR ?_;clear b1 z1 hAT hneL hneR;intro b1 z1 hAT hneL hneR;obtain⟨X,hX⟩:=aT (x.toNat:Int);have hX0:0≤X∧X≤255:=by rw[hX.out];have:=x.toNat_lt;omega
 have cp:=hi_ fun W h=>bi (L:=L) (R:=R) (A:=A) (c:=c) (bs:=bs) (M:=M) (V:=V) (t:=t) hX.out W h
 have cm1:=hi_ fun W h=>aC (L:=L) (R:=R) (A:=A) (c:=c) (bs:=bs) (M:=M) (V:=V) (r:=x :: t) ⟨#[91]⟩ (by decide) (by decide) (by rintro⟨q,hq⟩;simp at hq;exact n91 hq.1.symm) W h
 have cm2:=hi_ fun W h=>aC (L:=L) (R:=R) (A:=A) (c:=c) (bs:=bs) (M:=M) (V:=V) (r:=x :: t) ⟨#[93]⟩ (by decide) (by decide) (by rintro⟨q,hq⟩;simp at hq;exact n93 hq.1.symm) W h
 have cm3:=hi_ fun W h=>aC (L:=L) (R:=R) (A:=A) (c:=c) (bs:=bs) (M:=M) (V:=V) (r:=x :: t) ⟨#[60,60]⟩ (by decide) (by decide) (by rintro⟨q,hq⟩;simp at hq;exact n60 hq.1.symm) W h
 have cm5:=hi_ fun W h=>aC (L:=L) (R:=R) (A:=A) (c:=c) (bs:=bs) (M:=M) (V:=V) (r:=x :: t) ⟨#[47]⟩ (by decide) (by decide) (by rintro⟨q,hq⟩;simp at hq;exact n47 hq.1.symm) W h
 have cm6:=hi_ fun W h=>aC (L:=L) (R:=R) (A:=A) (c:=c) (bs:=bs) (M:=M) (V:=V) (r:=x :: t) ⟨#[40]⟩ (by decide) (by decide) (by rintro⟨q,hq⟩;simp at hq;exact n40 hq.1.symm) W h
 have cm7:=hi_ fun W h=>aC (L:=L) (R:=R) (A:=A) (c:=c) (bs:=bs) (M:=M) (V:=V) (r:=x :: t) ⟨#[60]⟩ (by decide) (by decide) (by rintro⟨q,hq⟩;simp at hq;exact n60 hq.1.symm) W h
 have cm4:=hi_ fun W h=>aC (L:=L) (R:=R) (A:=A) (c:=c) (bs:=bs) (M:=M) (V:=V) (r:=x :: t) ⟨#[62,62]⟩ (by decide) (by decide) (by rintro⟨q,hq⟩;cases t with|nil=>simp at hq|cons y t=>simp at hq;exact n62 ⟨hq.1.symm,by rw[←hq.2.1];rfl⟩) W h
 have hn:¬X=43∧¬X=45∧¬X=46∧¬(48≤X∧X≤57):=by
  have hn:=gu hX.out;rw[hnum]at hn;have hn:=hn.symm;simp only[Bool.or_eq_false_iff,Bool.and_eq_false_iff,beq_eq_false_iff_ne,decide_eq_false_iff_not]at hn;omega
 obtain⟨nn1,nn2,nn3,nn4⟩:=hn;have nb1:(X == 43)=false:=beq_eq_false_iff_ne.2 nn1;have nb2:(X == 45)=false:=beq_eq_false_iff_ne.2 nn2;have nb3:(X == 46)=false:=beq_eq_false_iff_ne.2 nn3;clear nn1 nn2 nn3;obtain⟨q,hq⟩:∃q,q=(aN (x :: t)).length:=⟨_,rfl⟩;have crun:=hi_ (show ∀W,LS L R A c bs M V W (x :: t)→Calls Tryz.prog 155 #[.pointer (some ⟨R,0,none⟩)] W fun e w'=>∃a2 c2,e=.returned (.slice a2 q c2)∧Own W.heap.size w' (.slice a2 q c2) (aN (x :: t))∧LS L R A c bs M V w' ((x :: t).drop q)∧Save L W w' from fun W h=>(kY (show eR (x :: t)=true from hreg) W h).mono fun e w' ⟨a2,m2,c2,h1,h2,h3,h4⟩=>by
  obtain⟨A9,c9,e9,_⟩:=h2.out2L h2.lenL;injection e9 with i1 i2 i3;subst i2;rw[←hq]at h1 h2 h3;exact⟨a2,c2,h1,h2,h3,h4⟩)
 rw[←hq]at hlen;replace hq:=hi_ hq;have cr:=hi_ fun W=>cO hX.out hreg.symm W
 clear h;go_enter Tryz.func119,Tryz.ntmps119;go_upto_region 1 with fail
 rw[←hW1];replace hW1:=hi_ hW1;by_cases h48:48≤X
 ·have h57:¬X≤57:=fun e=>nn4 ⟨h48,e⟩
  clear nn4;go_wp2_with (first|((first|(go_at_call 56;(with_reducible refine (cp.out _ hL.out).mono ?_))|(go_at_call 54;(with_reducible refine (cm1.out _ hL.out).mono ?_))|(go_at_call 54;(with_reducible refine (cm2.out _ hL.out).mono ?_))|(go_at_call 54;(with_reducible refine (cm3.out _ hL.out).mono ?_))|(go_at_call 54;(with_reducible refine (cm4.out _ hL.out).mono ?_))|(go_at_call 54;(with_reducible refine (cm5.out _ hL.out).mono ?_))|(go_at_call 54;(with_reducible refine (cm6.out _ hL.out).mono ?_))|(go_at_call 54;(with_reducible refine (cm7.out _ hL.out).mono ?_)));rintro e w1 ⟨rfl,hL2,hS2⟩;replace hT:=hi_ (hS2.blk hneL.out hT.out);obtain⟨p0,p1,p2,p3,v0,v1,v2,v3⟩:=hT.out.b4;replace hL:=hi_ hL2;replace hS:=hi_ (hS.out.trans hS2);replace q0:=hL.out.q0;clear hL2 hS2)|(go_at_call 55;(with_reducible refine (cr.out _).mono ?_);rintro e w2 ⟨rfl,rfl⟩)|(go_at_call 155;(with_reducible refine (crun.out _ hL.out).mono ?_);rintro e w1 ⟨a2,c2,rfl,hO,hL2,hS2⟩;replace hT:=hi_ (hS2.blk hneL.out hT.out);obtain⟨p0,p1,p2,p3,v0,v1,v2,v3⟩:=hT.out.b4;replace hO:=hi_ (hO.base (B:=W.heap.size) (by have:=hS.out.size;have:=z1.out;omega));replace hL:=hi_ hL2;replace hS:=hi_ (hS.out.trans hS2);replace q0:=hL.out.q0;clear hL2 hS2))
  generalize hWf:World.setCell _ _ _=Wf;replace hWf:=hWf.symm;obtain⟨hb,hLf,hFf,hg⟩:=ek rfl hLT hRT hAT.out hT.out hL.out ((Fr.of_below b1.out).trans (Fr.of_save (R:=R) hS.out)) hWf;obtain⟨u0,u1,u2,u3,-⟩:=hb.b4;refine h3_ hLf hFf hWf ?_;clear hLf hFf hWf;intro hLf hFf hWf;clear hb hg p0 p1 p2 p3 v0 v1 v2 v3;refine bodyPost_ret (by simp[results,Tryz.results119,go_sem,u0,u1,u2,u3];try rfl) rfl ?_;rw[hK.out,hres.out];exact⟨by decide,⟨_,_,_,_,_,rfl⟩,⟨_,_,_,hLf.out⟩,hFf.out⟩
 ·clear nn4
  go_wp2_with (first|((first|(go_at_call 56;(with_reducible refine (cp.out _ hL.out).mono ?_))|(go_at_call 54;(with_reducible refine (cm1.out _ hL.out).mono ?_))|(go_at_call 54;(with_reducible refine (cm2.out _ hL.out).mono ?_))|(go_at_call 54;(with_reducible refine (cm3.out _ hL.out).mono ?_))|(go_at_call 54;(with_reducible refine (cm4.out _ hL.out).mono ?_))|(go_at_call 54;(with_reducible refine (cm5.out _ hL.out).mono ?_))|(go_at_call 54;(with_reducible refine (cm6.out _ hL.out).mono ?_))|(go_at_call 54;(with_reducible refine (cm7.out _ hL.out).mono ?_)));rintro e w1 ⟨rfl,hL2,hS2⟩;replace hT:=hi_ (hS2.blk hneL.out hT.out);obtain⟨p0,p1,p2,p3,v0,v1,v2,v3⟩:=hT.out.b4;replace hL:=hi_ hL2;replace hS:=hi_ (hS.out.trans hS2);replace q0:=hL.out.q0;clear hL2 hS2)|(go_at_call 55;(with_reducible refine (cr.out _).mono ?_);rintro e w2 ⟨rfl,rfl⟩)|(go_at_call 155;(with_reducible refine (crun.out _ hL.out).mono ?_);rintro e w1 ⟨a2,c2,rfl,hO,hL2,hS2⟩;replace hT:=hi_ (hS2.blk hneL.out hT.out);obtain⟨p0,p1,p2,p3,v0,v1,v2,v3⟩:=hT.out.b4;replace hO:=hi_ (hO.base (B:=W.heap.size) (by have:=hS.out.size;have:=z1.out;omega));replace hL:=hi_ hL2;replace hS:=hi_ (hS.out.trans hS2);replace q0:=hL.out.q0;clear hL2 hS2))
  generalize hWf:World.setCell _ _ _=Wf;replace hWf:=hWf.symm;obtain⟨hb,hLf,hFf,hg⟩:=ek rfl hLT hRT hAT.out hT.out hL.out ((Fr.of_below b1.out).trans (Fr.of_save (R:=R) hS.out)) hWf;obtain⟨u0,u1,u2,u3,-⟩:=hb.b4;refine h3_ hLf hFf hWf ?_;clear hLf hFf hWf;intro hLf hFf hWf;clear hb hg p0 p1 p2 p3 v0 v1 v2 v3;refine bodyPost_ret (by simp[results,Tryz.results119,go_sem,u0,u1,u2,u3];try rfl) rfl ?_;rw[hK.out,hres.out];exact⟨by decide,⟨_,_,_,_,_,rfl⟩,⟨_,_,_,hLf.out⟩,hFf.out⟩
theorem rC {x:UInt8}{t:Bs}(n91:x≠91) (n93:x≠93) (n60:x≠60) (n47:x≠47) (n40:x≠40) (n62:¬(x=62∧t[0]?=some 62)) (hnum:dR x=false) (hreg:bu x=true) (hlen:¬127<(aN (x :: t)).length) (W:World) (h:LS L R A c bs M V W (x :: t)):Calls Tryz.prog 119 #[.pointer (some ⟨R,0,none⟩)] W (TokL L R A c bs W (tokA (x :: t))):=by
 have hres:=hi_ (show tokA (x :: t)=.ok ⟨9,0,aN (x :: t)⟩ ((x :: t).drop (aN (x :: t)).length) from by rw[tokA.eq_2,if_neg n91,if_neg n93,if_neg (by rintro⟨e,_⟩;exact n60 e),if_neg n62,if_neg n47,if_neg n40,if_neg n60,if_neg (by rw[hnum];decide),if_pos hreg,if_neg hlen]);obtain⟨K,hK⟩:∃K,K=tokA (x :: t):=⟨_,rfl⟩;rw[←hK];replace hK:=hi_ hK;obtain⟨W1,hW1,b1,hT⟩:=ak W 108 #[.int .i64 0,.int .i64 0,.int .i64 0,.slice none 0 0];have z1:W1.heap.size=W.heap.size+1:=by rw[hW1];exact World.size_alloc _ _
 have hL:=h.belowW b1;have hLT:=h.L_lt;have hRT:=h.R_lt;have hAT:=h.a_lt;have hneL:W.heap.size≠L:=by omega
 have hneR:W.heap.size≠R:=by omega
 have q0:=hL.q0;obtain⟨p0,p1,p2,p3,v0,v1,v2,v3⟩:=hT.b4;replace hL:=hi_ hL;replace hT:=hi_ hT;have hS:=hi_ (Save.refl L W1);refine h5_ b1 z1 hAT hneL hneR ?_;clear b1 z1 hAT hneL hneR;intro b1 z1 hAT hneL hneR;obtain⟨X,hX⟩:=aT (x.toNat:Int);have hX0:0≤X∧X≤255:=by rw[hX.out];have:=x.toNat_lt;omega
 have cp:=hi_ fun W h=>bi (L:=L) (R:=R) (A:=A) (c:=c) (bs:=bs) (M:=M) (V:=V) (t:=t) hX.out W h
 have cm1:=hi_ fun W h=>aC (L:=L) (R:=R) (A:=A) (c:=c) (bs:=bs) (M:=M) (V:=V) (r:=x :: t) ⟨#[91]⟩ (by decide) (by decide) (by rintro⟨q,hq⟩;simp at hq;exact n91 hq.1.symm) W h
 have cm2:=hi_ fun W h=>aC (L:=L) (R:=R) (A:=A) (c:=c) (bs:=bs) (M:=M) (V:=V) (r:=x :: t) ⟨#[93]⟩ (by decide) (by decide) (by rintro⟨q,hq⟩;simp at hq;exact n93 hq.1.symm) W h
 have cm3:=hi_ fun W h=>aC (L:=L) (R:=R) (A:=A) (c:=c) (bs:=bs) (M:=M) (V:=V) (r:=x :: t) ⟨#[60,60]⟩ (by decide) (by decide) (by rintro⟨q,hq⟩;simp at hq;exact n60 hq.1.symm) W h
 have cm5:=hi_ fun W h=>aC (L:=L) (R:=R) (A:=A) (c:=c) (bs:=bs) (M:=M) (V:=V) (r:=x :: t) ⟨#[47]⟩ (by decide) (by decide) (by rintro⟨q,hq⟩;simp at hq;exact n47 hq.1.symm) W h
 have cm6:=hi_ fun W h=>aC (L:=L) (R:=R) (A:=A) (c:=c) (bs:=bs) (M:=M) (V:=V) (r:=x :: t) ⟨#[40]⟩ (by decide) (by decide) (by rintro⟨q,hq⟩;simp at hq;exact n40 hq.1.symm) W h
 have cm7:=hi_ fun W h=>aC (L:=L) (R:=R) (A:=A) (c:=c) (bs:=bs) (M:=M) (V:=V) (r:=x :: t) ⟨#[60]⟩ (by decide) (by decide) (by rintro⟨q,hq⟩;simp at hq;exact n60 hq.1.symm) W h
 have cm4:=hi_ fun W h=>aC (L:=L) (R:=R) (A:=A) (c:=c) (bs:=bs) (M:=M) (V:=V) (r:=x :: t) ⟨#[62,62]⟩ (by decide) (by decide) (by rintro⟨q,hq⟩;cases t with|nil=>simp at hq|cons y t=>simp at hq;exact n62 ⟨hq.1.symm,by rw[←hq.2.1];rfl⟩) W h
 have hn:¬X=43∧¬X=45∧¬X=46∧¬(48≤X∧X≤57):=by
  have hn:=gu hX.out;rw[hnum]at hn;have hn:=hn.symm;simp only[Bool.or_eq_false_iff,Bool.and_eq_false_iff,beq_eq_false_iff_ne,decide_eq_false_iff_not]at hn;omega
 obtain⟨nn1,nn2,nn3,nn4⟩:=hn;have nb1:(X == 43)=false:=beq_eq_false_iff_ne.2 nn1;have nb2:(X == 45)=false:=beq_eq_false_iff_ne.2 nn2;have nb3:(X == 46)=false:=beq_eq_false_iff_ne.2 nn3;clear nn1 nn2 nn3;obtain⟨q,hq⟩:∃q,q=(aN (x :: t)).length:=⟨_,rfl⟩;have crun:=hi_ (show ∀W,LS L R A c bs M V W (x :: t)→Calls Tryz.prog 155 #[.pointer (some ⟨R,0,none⟩)] W fun e w'=>∃a2 c2,e=.returned (.slice a2 q c2)∧Own W.heap.size w' (.slice a2 q c2) (aN (x :: t))∧LS L R A c bs M V w' ((x :: t).drop q)∧Save L W w' from fun W h=>(kY (show eR (x :: t)=true from hreg) W h).mono fun e w' ⟨a2,m2,c2,h1,h2,h3,h4⟩=>by
  obtain⟨A9,c9,e9,_⟩:=h2.out2L h2.lenL;injection e9 with i1 i2 i3;subst i2;rw[←hq]at h1 h2 h3;exact⟨a2,c2,h1,h2,h3,h4⟩)
 rw[←hq]at hlen hres;replace hq:=hi_ hq;have cr:=hi_ fun W=>cO hX.out hreg.symm W
 clear h;go_enter Tryz.func119,Tryz.ntmps119;go_upto_region 1 with fail
 rw[←hW1];replace hW1:=hi_ hW1;by_cases h48:48≤X
 ·have h57:¬X≤57:=fun e=>nn4 ⟨h48,e⟩
  clear nn4;go_wp2_with (first|((first|(go_at_call 56;(with_reducible refine (cp.out _ hL.out).mono ?_))|(go_at_call 54;(with_reducible refine (cm1.out _ hL.out).mono ?_))|(go_at_call 54;(with_reducible refine (cm2.out _ hL.out).mono ?_))|(go_at_call 54;(with_reducible refine (cm3.out _ hL.out).mono ?_))|(go_at_call 54;(with_reducible refine (cm4.out _ hL.out).mono ?_))|(go_at_call 54;(with_reducible refine (cm5.out _ hL.out).mono ?_))|(go_at_call 54;(with_reducible refine (cm6.out _ hL.out).mono ?_))|(go_at_call 54;(with_reducible refine (cm7.out _ hL.out).mono ?_)));rintro e w1 ⟨rfl,hL2,hS2⟩;replace hT:=hi_ (hS2.blk hneL.out hT.out);obtain⟨p0,p1,p2,p3,v0,v1,v2,v3⟩:=hT.out.b4;replace hL:=hi_ hL2;replace hS:=hi_ (hS.out.trans hS2);replace q0:=hL.out.q0;clear hL2 hS2)|(go_at_call 55;(with_reducible refine (cr.out _).mono ?_);rintro e w2 ⟨rfl,rfl⟩)|(go_at_call 155;(with_reducible refine (crun.out _ hL.out).mono ?_);rintro e w1 ⟨a2,c2,rfl,hO,hL2,hS2⟩;replace hT:=hi_ (hS2.blk hneL.out hT.out);obtain⟨p0,p1,p2,p3,v0,v1,v2,v3⟩:=hT.out.b4;replace hO:=hi_ (hO.base (B:=W.heap.size) (by have:=hS.out.size;have:=z1.out;omega));replace hL:=hi_ hL2;replace hS:=hi_ (hS.out.trans hS2);replace q0:=hL.out.q0;clear hL2 hS2))
  generalize hWf:World.setCell _ _ _=Wf;replace hWf:=hWf.symm;obtain⟨hb,hLf,hFf,hg⟩:=ek rfl hLT hRT hAT.out hT.out hL.out ((Fr.of_below b1.out).trans (Fr.of_save (R:=R) hS.out)) hWf;obtain⟨u0,u1,u2,u3,-⟩:=hb.b4;have hOf:Own W.heap.size Wf (.slice a2 q c2) (aN (x :: t)):=by
   have h1:=hO.out.notL hT.out (by decide);exact bj hO.out hg (fun g hg e=>h1 (by rw[hg];exact e))
  refine h4_ hOf hLf hFf hWf ?_;clear hOf hLf hFf hWf;intro hOf hLf hFf hWf;clear hb hg p0 p1 p2 p3 v0 v1 v2 v3;refine bodyPost_ret (by simp[results,Tryz.results119,go_sem,u0,u1,u2,u3];try rfl) rfl ?_;rw[hK.out,hres.out];have hOf:=hOf.out;have hLf:=hLf.out;rw[hq.out]at hOf hLf⊢;exact⟨a2,c2,rfl,hOf,⟨_,_,hLf⟩,hFf.out⟩
 ·clear nn4
  go_wp2_with (first|((first|(go_at_call 56;(with_reducible refine (cp.out _ hL.out).mono ?_))|(go_at_call 54;(with_reducible refine (cm1.out _ hL.out).mono ?_))|(go_at_call 54;(with_reducible refine (cm2.out _ hL.out).mono ?_))|(go_at_call 54;(with_reducible refine (cm3.out _ hL.out).mono ?_))|(go_at_call 54;(with_reducible refine (cm4.out _ hL.out).mono ?_))|(go_at_call 54;(with_reducible refine (cm5.out _ hL.out).mono ?_))|(go_at_call 54;(with_reducible refine (cm6.out _ hL.out).mono ?_))|(go_at_call 54;(with_reducible refine (cm7.out _ hL.out).mono ?_)));rintro e w1 ⟨rfl,hL2,hS2⟩;replace hT:=hi_ (hS2.blk hneL.out hT.out);obtain⟨p0,p1,p2,p3,v0,v1,v2,v3⟩:=hT.out.b4;replace hL:=hi_ hL2;replace hS:=hi_ (hS.out.trans hS2);replace q0:=hL.out.q0;clear hL2 hS2)|(go_at_call 55;(with_reducible refine (cr.out _).mono ?_);rintro e w2 ⟨rfl,rfl⟩)|(go_at_call 155;(with_reducible refine (crun.out _ hL.out).mono ?_);rintro e w1 ⟨a2,c2,rfl,hO,hL2,hS2⟩;replace hT:=hi_ (hS2.blk hneL.out hT.out);obtain⟨p0,p1,p2,p3,v0,v1,v2,v3⟩:=hT.out.b4;replace hO:=hi_ (hO.base (B:=W.heap.size) (by have:=hS.out.size;have:=z1.out;omega));replace hL:=hi_ hL2;replace hS:=hi_ (hS.out.trans hS2);replace q0:=hL.out.q0;clear hL2 hS2))
  generalize hWf:World.setCell _ _ _=Wf;replace hWf:=hWf.symm;obtain⟨hb,hLf,hFf,hg⟩:=ek rfl hLT hRT hAT.out hT.out hL.out ((Fr.of_below b1.out).trans (Fr.of_save (R:=R) hS.out)) hWf;obtain⟨u0,u1,u2,u3,-⟩:=hb.b4;have hOf:Own W.heap.size Wf (.slice a2 q c2) (aN (x :: t)):=by
   have h1:=hO.out.notL hT.out (by decide);exact bj hO.out hg (fun g hg e=>h1 (by rw[hg];exact e))
  refine h4_ hOf hLf hFf hWf ?_;clear hOf hLf hFf hWf;intro hOf hLf hFf hWf;clear hb hg p0 p1 p2 p3 v0 v1 v2 v3;refine bodyPost_ret (by simp[results,Tryz.results119,go_sem,u0,u1,u2,u3];try rfl) rfl ?_;rw[hK.out,hres.out];have hOf:=hOf.out;have hLf:=hLf.out;rw[hq.out]at hOf hLf⊢;exact⟨a2,c2,rfl,hOf,⟨_,_,hLf⟩,hFf.out⟩
theorem oR {x:UInt8}(h:dR x=true):bu x=true:=by
 revert h
 have key:∀n:Fin 256,dR (UInt8.ofNat n.val)=true→bu (UInt8.ofNat n.val)=true:=by decide +kernel
 have:=key ⟨x.toNat,x.toNat_lt⟩
 simpa using this
theorem oO (W:World) (h:LS L R A c bs M V W r):Calls Tryz.prog 119 #[.pointer (some ⟨R,0,none⟩)] W (TokL L R A c bs W (tokA r)):=by
 cases r with
 |nil=>exact sZ W h
 |cons x t=>
  by_cases n91:x=91
  ·subst n91;exact rA W h
  by_cases n93:x=93
  ·subst n93;exact pK W h
  by_cases n47:x=47
  ·subst n47;exact rz W h
  by_cases n40:x=40
  ·subst n40;exact rB W h
  by_cases n60:x=60
  ·subst n60
   by_cases h60:t[0]?=some 60
   ·cases t with
    |nil=>simp at h60
    |cons y t=>simp at h60;subst h60;exact rx W h
   ·exact sY h60 W h
  by_cases n62:x=62∧t[0]?=some 62
  ·obtain⟨rfl,h62⟩:=n62
   cases t with
   |nil=>simp at h62
   |cons y t=>simp at h62;subst h62;exact pM W h
  cases hnum:dR x with
  |true=>exact ta n91 n93 n60 n47 n40 n62 hnum (oR hnum) W h
  |false=>
   cases hreg:bu x with
   |false=>exact sX n91 n93 n60 n47 n40 n62 hnum hreg W h
   |true=>
    by_cases hlen:127<(aN (x :: t)).length
    ·exact ry n91 n93 n60 n47 n40 n62 hnum hreg hlen W h
    ·exact rC n91 n93 n60 n47 n40 n62 hnum hreg hlen W h
end
theorem av:∀(b:Bool) (r:Bs),af b r <:+r
 |true,[]=>List.suffix_refl _
 |false,[]=>List.suffix_refl _
 |true,c :: r=>by
  rw[af];split
  ·exact (av false r).trans (List.suffix_cons c r)
  ·exact (av true r).trans (List.suffix_cons c r)
 |false,c :: r=>by
  rw[af];split
  ·exact (av false r).trans (List.suffix_cons c r)
  split
  ·exact (av true r).trans (List.suffix_cons c r)
  ·exact List.suffix_refl _
section
variable {L R:Nat}{A:Option Addr}{c:Nat}{bs:Bs}{M V:Value}{w w' w0:World}{r r':Bs}{m:Nat}{out:Bs}
def lJ (L R:Nat) (A:Option Addr) (c:Nat) (bs:Bs) (w:World) (r:Bs) (e:Ending) (w':World):Prop:=match ar r with
 | .ok k u=>∃a2 c2,e=.returned (.tuple #[.agg #[.int .i64 k.k,.int .i64 (pos bs (af false r):Nat),.int .i64 k.n,.slice a2 k.b.length c2],.int .i64 0])∧Own w.heap.size w' (.slice a2 k.b.length c2) k.b∧(∃M V,LS L R A c bs M V w' u)∧Fr L R w w'
 | .err n _=>n≠0∧e=.returned (.tuple #[.agg #[.int .i64 0,.int .i64 (pos bs (af false r):Nat),.int .i64 0,.slice none 0 0],.int .i64 n])∧(∃M V,LS L R A c bs M V w' (af false r))∧Fr L R w w'
theorem jK (W:World) (h:LS L R A c bs M V W r):Calls Tryz.prog 82 #[.pointer (some ⟨R,0,none⟩)] W (lJ L R A c bs W r):=by
 obtain⟨W1,hW1,b1,hT⟩:=ak W 108 #[.int .i64 0,.int .i64 0,.int .i64 0,.slice none 0 0];have z1:W1.heap.size=W.heap.size+1:=by rw[hW1];exact World.size_alloc _ _
 have hL:=h.belowW b1;have hLT:=h.L_lt;have hRT:=h.R_lt;have hAT:=h.a_lt;have hneL:W.heap.size≠L:=by omega
 have hneR:W.heap.size≠R:=by omega
 have q0:=hL.q0;have cm:=hi_ fun W h=>jb (L:=L) (R:=R) (A:=A) (c:=c) (bs:=bs) (M:=M) (V:=V) (r:=r) W h
 have cb:=hi_ fun W h=>gH (L:=L) (R:=R) (A:=A) (c:=c) (bs:=bs) (M:=M) (V:=V) (r:=r) W h
 have hsuf:=(av false r).trans h.suf;unfold lJ ar;obtain⟨B,hB⟩:∃B,B=af false r:=⟨_,rfl⟩;rw[←hB]at cb hsuf⊢;have cps:=hi_ fun W h=>ja (L:=L) (R:=R) (A:=A) (c:=c) (bs:=bs) (M:=M) (V:=V) (r:=B) W h
 have ct:=hi_ fun W h=>oO (L:=L) (R:=R) (A:=A) (c:=c) (bs:=bs) (M:=M) (V:=V) (r:=B) W h
 have csk:=hi_ fun (M V:Value) (r2:Bs) W h=>gq (L:=L) (R:=R) (A:=A) (c:=c) (bs:=bs) (M:=M) (V:=V) (r:=r2) hsuf rfl W h
 obtain⟨p,hp⟩:∃p:Int,p=(pos bs B:Nat):=⟨_,rfl⟩;rw[←hp]at cps csk⊢;obtain⟨K,hK⟩:∃K,K=tokA B:=⟨_,rfl⟩;rw[←hK]at ct⊢;refine h6_ hB hp hK hsuf hL hT ?_;clear hB hp hK hsuf hL hT;intro hB hp hK hsuf hL hT;have hS:=hi_ (Save.refl L W1);refine h5_ b1 z1 hAT hneL hneR ?_;clear b1 z1 hAT hneL hneR;intro b1 z1 hAT hneL hneR;clear h;go_enter Tryz.func82,Tryz.ntmps82;go_upto_region 1 with fail
 rw[←hW1];replace hW1:=hi_ hW1;go_upto_region 6 with (first|((first|(go_at_call 53;(with_reducible refine (cm.out _ hL.out).mono ?_))|(go_at_call 14;(with_reducible refine (cps.out _ hL.out).mono ?_)));rintro e w2 ⟨rfl,rfl⟩)|(go_at_call 28;(with_reducible refine (cb.out _ hL.out).mono ?_);rintro e w1 ⟨rfl,hL2,hS2⟩;replace hT:=hi_ (hS2.blk hneL.out hT.out);replace hL:=hi_ hL2;replace hS:=hi_ (hS.out.trans hS2);replace q0:=hL.out.q0;clear hL2 hS2)|(go_at_call 119;(with_reducible refine (ct.out _ hL.out).mono ?_);rintro e w4 hX;obtain⟨k1,n1,a2,m2,c2,n,rfl⟩:=hX.shape;replace hT:=hi_ (hX.frm.blk hneL.out hneR.out hT.out);have hwk:=hi_ hS.out.size;have hF:=hi_ ((Fr.of_below b1.out).trans (Fr.of_save (R:=R) hS.out));replace hX:=hi_ hX;clear hL hS))
 obtain⟨W5,hW5,b5,hU⟩:=ak w4 108 #[.int .i64 k1,.int .i64 0,.int .i64 n1,.slice a2 m2 c2];rw[←hW5];have hT5:=hT.out.below b5 hT.out.lt;have hTU:W.heap.size≠w4.heap.size:=by have:=hT.out.lt;omega
 have hUT:w4.heap.size≠W.heap.size:=fun e=>hTU e.symm
 obtain⟨p0,p1,p2,p3,v0,v1,v2,v3⟩:=hT5.b4;obtain⟨t0,t1,t2,t3,-,x1,-⟩:=hU.b4;refine h3_ hW5 hT5 hU ?_;clear hW5 hT5 hU;intro hW5 hT5 hU;have hX:=hX.out;have hFr:=hi_ (hF.out.trans hX.frm);cases K with
 |ok k u=>
  obtain⟨a3,c3,e,hO,⟨M',V',hL⟩,_⟩:=hX;injection e with e;injection e with e;simp at e;obtain⟨⟨e1,e2,e3,e4,e5⟩,e6⟩:=e;subst e1 e2 e3 e4 e5 e6;have hL5:=hL.belowW b5;have hO5:=hO.below b5;have hF5:=hFr.out.trans (Fr.of_below (L:=L) (R:=R) b5);refine h4_ hL5 hO5 hF5 b5 ?_;clear hL5 hO5 hF5 b5;intro hL5 hO5 hF5 b5;clear hL hO;go_upto_region 10 with fail
  obtain⟨W6,hW6⟩:∃W6,W6=W5.setCell ⟨w4.heap.size,1,none⟩ (.int .i64 p):=⟨_,rfl⟩;rw[←hW6];have hU6:Blk W6 w4.heap.size 108 #[.int .i64 k.k,.int .i64 p,.int .i64 k.n,.slice a2 k.b.length c2]:=by rw[hW6];exact hU.out.set_ 1 _
  have hT6:Blk W6 W.heap.size 108 #[.int .i64 0,.int .i64 0,.int .i64 0,.slice none 0 0]:=by rw[hW6];exact hT5.out.far (p:=⟨w4.heap.size,1,none⟩) hTU _
  have g6:W5.grownBy W6 (some w4.heap.size):=by rw[hW6];exact aO _ _ _ _
  have hsz:W.heap.size<w4.heap.size:=by have:=hT.out.lt;omega
  have hL6:=hL5.out.grownL g6 (by omega) (by omega) (fun h0 x hx=>by have:=hAT.out h0 x hx;omega);have hF6:=hF5.out.grownL g6 (by omega);have hO6:Own W.heap.size W6 (.slice a2 k.b.length c2) k.b:=bj (hO5.out.base (by have:=hwk.out;have:=z1.out;omega)) g6 (fun g hg e=>hO5.out.notL hU.out (by decide) (by rw[hg];exact e));obtain⟨p0,p1,p2,p3,v0,v1,v2,v3⟩:=hT6.b4;obtain⟨t0,t1,t2,t3,-⟩:=hU6.b4;refine h7_ hW6 hU6 hT6 hL6 hF6 hO6 g6 ?_;clear hW6 hU6 hT6 hL6 hF6 hO6 g6;intro hW6 hU6 hT6 hL6 hF6 hO6 g6;go_wp2
  generalize hWf:World.setCell _ _ _=Wf;replace hWf:=hWf.symm;obtain⟨hb,hLf,hFf,hg⟩:=ek rfl hLT hRT hAT.out hT6.out hL6.out hF6.out hWf;obtain⟨u0,u1,u2,u3,-⟩:=hb.b4;have hOf:Own W.heap.size Wf (.slice a2 k.b.length c2) k.b:=bj hO6.out hg (fun g hg e=>hO6.out.notL hT6.out (by decide) (by rw[hg];exact e));refine h4_ hLf hFf hOf hWf ?_;clear hLf hFf hOf hWf;intro hLf hFf hOf hWf;clear hb hg p0 p1 p2 p3 v0 v1 v2 v3 t0 t1 t2 t3;refine bodyPost_ret (by simp[results,Tryz.results82,go_sem,u0,u1,u2,u3];try rfl) rfl ?_;exact⟨_,_,rfl,hOf.out,⟨_,_,hLf.out⟩,hFf.out⟩
 |err n' u=>
  obtain⟨hne,⟨k2,n2,a3,m3,c3,e⟩,⟨M',V',u2,hL⟩,_⟩:=hX;injection e with e;injection e with e;simp at e;obtain⟨_,e6⟩:=e;subst e6;have hnb:(n !=0)=true:=by simpa using hne
  have hL5:=hL.belowW b5;have hF5:=hFr.out.trans (Fr.of_below (L:=L) (R:=R) b5);have cs2:=hi_ (csk.out M' V' u2);replace q0:=hL5.q0;replace hL:=hi_ hL5;refine h3_ hF5 b5 hne ?_;clear hF5 b5 hne;intro hF5 b5 hne;have hS:=hi_ (Save.refl L W5);have hneL2:=hneL.out;clear hL5 t0 t1 t2 t3 x1;go_wp2_with (go_at_call 30;(with_reducible refine (cs2.out _ hL.out).mono ?_);rintro e w1 ⟨rfl,hL2,hS2⟩;have hT6:=hS2.blk hneL.out hT5.out;obtain⟨p0,p1,p2,p3,v0,v1,v2,v3⟩:=hT6.b4;replace hT6:=hi_ hT6;replace hL:=hi_ hL2;have hF6:=hi_ (hF5.out.trans (Fr.of_save hS2));replace q0:=hL.out.q0;clear hL2 hS2)
  generalize hWf:World.setCell _ _ _=Wf;replace hWf:=hWf.symm;obtain⟨hb,hLf,hFf,hg⟩:=ek rfl hLT hRT hAT.out hT6.out hL.out hF6.out hWf;obtain⟨u0,u1,u2,u3,-⟩:=hb.b4;refine h3_ hLf hFf hWf ?_;clear hLf hFf hWf;intro hLf hFf hWf;clear hb hg p0 p1 p2 p3 v0 v1 v2 v3;refine bodyPost_ret (by simp[results,Tryz.results82,go_sem,u0,u1,u2,u3];try rfl) rfl ?_;exact⟨hne.out,rfl,⟨_,_,hLf.out⟩,hFf.out⟩
end
end Go.Proofs.YthffpbkndnhlfaaGreatDoor
namespace Go.Rd
open Go Go.Wk Go.Fx
def kwL (s:Bs) (r:Bs):Bool:=decide (s <+:af false r) && !(match (af false r).drop s.length with|[]=>false|c :: _=>bu c)
end Go.Rd
namespace Go.Proofs.YthffpbkndnhlfaaGreatDoor
open Go Go.RowKit Go.Wk Go.Rd Go.Fx
section
variable {L R:Nat}{A:Option Addr}{c:Nat}{bs:Bs}{M V:Value}{w w' w0:World}{r r':Bs}{m:Nat}{out:Bs}
theorem oG (s r:Bs):kwL s r=(decide (s <+:af false r) && !eR ((af false r).drop s.length)):=by
 unfold kwL
 congr 2
theorem kW (S:ByteArray) (hS0:1≤S.size) (hS1:S.size≤100) (W:World) (h:LS L R A c bs M V W r):Calls Tryz.prog 26 #[.pointer (some ⟨R,0,none⟩),.string S] W fun e w'=>e=.returned (.bool (kwL S.data.toList r))∧LS L R A c bs M V w' (if kwL S.data.toList r then (af false r).drop S.size else r)∧Save L W w':=by
 have hsl:S.data.toList.length=S.size:=Array.length_toList;have cm:=hi_ fun W h=>jb (L:=L) (R:=R) (A:=A) (c:=c) (bs:=bs) (M:=M) (V:=V) (r:=r) W h
 have cb:=hi_ fun W h=>gH (L:=L) (R:=R) (A:=A) (c:=c) (bs:=bs) (M:=M) (V:=V) (r:=r) W h
 have cps:=hi_ fun W h=>ja (L:=L) (R:=R) (A:=A) (c:=c) (bs:=bs) (M:=M) (V:=V) (r:=r) W h
 have hsr:=h.suf;rw[oG,hsl];obtain⟨B,hB⟩:∃B,B=af false r:=⟨_,rfl⟩;rw[←hB]at cb⊢;have csk:=hi_ fun (r2:Bs) W h=>gq (L:=L) (R:=R) (A:=A) (c:=c) (bs:=bs) (M:=M) (V:=V) (r:=r2) hsr rfl W h
 obtain⟨p,hp⟩:∃p:Int,p=(pos bs r:Nat):=⟨_,rfl⟩;rw[←hp]at cps csk;have q0:=h.q0;have hL:=hi_ h;have hS:=hi_ (Save.refl L W);refine h3_ hp hB hsr ?_;clear hp hB hsr;intro hp hB hsr;by_cases hpre:S.data.toList <+:B
 ·obtain⟨t,ht⟩:=hpre
  have hd:B.drop S.size=t:=by rw[←ht,←hsl,List.drop_left]
  have hpt:decide (S.data.toList <+:B)=true:=decide_eq_true ⟨t,ht⟩;rw[hpt,hd,Bool.true_and];have cma:=hi_ fun W h=>ey (L:=L) (R:=R) (A:=A) (c:=c) (bs:=bs) (M:=M) (V:=V) (r:=B) (t:=t) S hS0 (by omega) ht.symm W h
  have cpk:=hi_ fun W h=>fk (L:=L) (R:=R) (A:=A) (c:=c) (bs:=bs) (M:=M) (V:=V) (r:=t) W h
  have cr:=hi_ fun W=>fj t W
  have cs2:=hi_ (csk.out t);generalize pk t 0=P at *;replace ht:=hi_ ht;replace hd:=hi_ hd;clear hpt h hS0 hS1 hsl csk;cases hrt:eR t with
  |true=>
   rw[hrt]at cr;go_enter Tryz.func26,Tryz.ntmps26;go_wp2_with (first|((first|(go_at_call 53;(with_reducible refine (cm.out _ hL.out).mono ?_))|(go_at_call 14;(with_reducible refine (cps.out _ hL.out).mono ?_))|(go_at_call 55;(with_reducible refine (cr.out _).mono ?_)));rintro e w2 ⟨rfl,rfl⟩)|((first|(go_at_call 28;(with_reducible refine (cb.out _ hL.out).mono ?_))|(go_at_call 54;(with_reducible refine (cma.out _ hL.out).mono ?_))|(go_at_call 56;(with_reducible refine (cpk.out _ hL.out).mono ?_))|(go_at_call 30;(with_reducible refine (cs2.out _ hL.out).mono ?_)));rintro e w1 ⟨rfl,hL2,hS2⟩;replace hL:=hi_ hL2;replace hS:=hi_ (hS.out.trans hS2);replace q0:=hL.out.q0;clear hL2 hS2))
   go_ret
   exact⟨rfl,hL.out,hS.out⟩
  |false=>
   rw[hrt]at cr;go_enter Tryz.func26,Tryz.ntmps26;go_wp2_with (first|((first|(go_at_call 53;(with_reducible refine (cm.out _ hL.out).mono ?_))|(go_at_call 14;(with_reducible refine (cps.out _ hL.out).mono ?_))|(go_at_call 55;(with_reducible refine (cr.out _).mono ?_)));rintro e w2 ⟨rfl,rfl⟩)|((first|(go_at_call 28;(with_reducible refine (cb.out _ hL.out).mono ?_))|(go_at_call 54;(with_reducible refine (cma.out _ hL.out).mono ?_))|(go_at_call 56;(with_reducible refine (cpk.out _ hL.out).mono ?_)));rintro e w1 ⟨rfl,hL2,hS2⟩;replace hL:=hi_ hL2;replace hS:=hi_ (hS.out.trans hS2);replace q0:=hL.out.q0;clear hL2 hS2))
   go_ret
   exact⟨rfl,hL.out,hS.out⟩
 ·have hpt:decide (S.data.toList <+:B)=false:=decide_eq_false hpre
  rw[hpt,Bool.false_and];have cma:=hi_ fun W h=>aC (L:=L) (R:=R) (A:=A) (c:=c) (bs:=bs) (M:=M) (V:=V) (r:=B) S hS0 (by omega) hpre W h
  have cs2:=hi_ (csk.out B);clear hpt hpre h hS0 hS1 hsl csk;go_enter Tryz.func26,Tryz.ntmps26;go_wp2_with (first|((first|(go_at_call 53;(with_reducible refine (cm.out _ hL.out).mono ?_))|(go_at_call 14;(with_reducible refine (cps.out _ hL.out).mono ?_)));rintro e w2 ⟨rfl,rfl⟩)|((first|(go_at_call 28;(with_reducible refine (cb.out _ hL.out).mono ?_))|(go_at_call 54;(with_reducible refine (cma.out _ hL.out).mono ?_))|(go_at_call 30;(with_reducible refine (cs2.out _ hL.out).mono ?_)));rintro e w1 ⟨rfl,hL2,hS2⟩;replace hL:=hi_ hL2;replace hS:=hi_ (hS.out.trans hS2);replace q0:=hL.out.q0;clear hL2 hS2))
  go_ret
  exact⟨rfl,hL.out,hS.out⟩
end
end Go.Proofs.YthffpbkndnhlfaaGreatDoor
namespace Go.Proofs.YthffpbkndnhlfaaGreatDoor
open Go Go.RowKit Go.Wk Go.Rd Go.Fx
structure PS (P L R:Nat) (A:Option Addr) (c:Nat) (bs:Bs) (d:Nat) (pl:Bool) (w:World) (r:Bs):Prop where
 ls:∃M V,LS L R A c bs M V w r
 par:Blk w P 48 #[.pointer (some ⟨R,0,none⟩),.int .i64 (d:Nat),.bool pl]
 pL:P≠L
 pR:P≠R
section
variable {P L R:Nat}{A:Option Addr}{c:Nat}{bs:Bs}{d:Nat}{pl:Bool}{w w':World}{r r' u:Bs}{k:Tok}
theorem PS.p0 (h:PS P L R A c bs d pl w r):w.cell? ⟨P,0,none⟩=some (.pointer (some ⟨R,0,none⟩)):=h.par.cell 0
theorem PS.q0 (h:PS P L R A c bs d pl w r):w.cell? ⟨R,0,none⟩=some (.pointer (some ⟨L,0,none⟩)):=by obtain⟨M,V,hL⟩:=h.ls;exact hL.q0
theorem PS.suf (h:PS P L R A c bs d pl w r):r <:+bs:=by obtain⟨M,V,hL⟩:=h.ls;exact hL.suf
theorem PS.small (h:PS P L R A c bs d pl w r):bs.length≤1000000000:=by obtain⟨M,V,hL⟩:=h.ls;exact hL.cur.small
theorem PS.L_lt (h:PS P L R A c bs d pl w r):L<w.heap.size:=by obtain⟨M,V,hL⟩:=h.ls;exact hL.L_lt
theorem PS.R_lt (h:PS P L R A c bs d pl w r):R<w.heap.size:=by obtain⟨M,V,hL⟩:=h.ls;exact hL.R_lt
theorem PS.P_lt (h:PS P L R A c bs d pl w r):P<w.heap.size:=h.par.lt
theorem PS.a_lt (h:PS P L R A c bs d pl w r):0<bs.length→∀x,A=some x→x.block<w.heap.size:=by obtain⟨M,V,hL⟩:=h.ls;exact hL.a_lt
theorem PS.to {M V:Value}(h:PS P L R A c bs d pl w r) (hL:LS L R A c bs M V w' r') (hF:Fr L R w w'):PS P L R A c bs d pl w' r':=⟨⟨M,V,hL⟩,hF.blk h.pL h.pR h.par,h.pL,h.pR⟩
theorem PS.below {B:Nat}(h:PS P L R A c bs d pl w r) (hb:Below B w w') (hL:L<B) (hR:R<B) (hP:P<B) (hA:0<bs.length→∀x,A=some x→x.block<B):PS P L R A c bs d pl w' r:=by
 obtain⟨M,V,hS⟩:=h.ls;exact⟨⟨M,V,hS.below hb hL hR hA⟩,h.par.below hb hP,h.pL,h.pR⟩
theorem PS.belowW (h:PS P L R A c bs d pl w r) (hb:Below w.heap.size w w'):PS P L R A c bs d pl w' r:=h.below hb h.L_lt h.R_lt h.P_lt h.a_lt
theorem PS.grownL {T:Nat}(h:PS P L R A c bs d pl w r) (hg:w.grownBy w' (some T)) (hL:L≠T) (hR:R≠T) (hP:P≠T) (hA:0<bs.length→∀x,A=some x→x.block≠T):PS P L R A c bs d pl w' r:=by
 obtain⟨M,V,hS⟩:=h.ls;exact⟨⟨M,V,hS.grownL hg hL hR hA⟩,(hg.block P h.P_lt (by intro e;injection e with e;exact hP e)).trans h.par,h.pL,h.pR⟩
theorem PS.posOf (h:PS P L R A c bs d pl w r):posOf L w=pos bs r:=by obtain⟨M,V,hL⟩:=h.ls;exact hL.posOf
theorem cQ (W:World) (h:PS P L R A c bs d pl W r):Calls Tryz.prog 14 #[.pointer (some ⟨L,0,none⟩)] W fun e w'=>e=.returned (.int .i64 (pos bs r:Nat))∧W=w':=by
 obtain⟨M,V,hL⟩:=h.ls;exact ja W hL
theorem bL (hr:r' <:+bs) {q:Int}(hq:q=(pos bs r':Nat)) (W:World) (h:PS P L R A c bs d pl W r):Calls Tryz.prog 30 #[.pointer (some ⟨L,0,none⟩),.int .i64 q] W fun e w'=>e=.returned (.bool true)∧PS P L R A c bs d pl w' r'∧Fr L R W w':=by
 obtain⟨M,V,hL⟩:=h.ls;refine (gq hr hq W hL).mono ?_;rintro e w' ⟨rfl,h1,h2⟩;exact⟨rfl,h.to h1 (Fr.of_save h2),Fr.of_save h2⟩
theorem bF {at':Int}(ht:ar r=.ok k u) (ha:at'=(pos bs (af false r):Nat)) (W:World) (h:PS P L R A c bs d pl W r):Calls Tryz.prog 82 #[.pointer (some ⟨R,0,none⟩)] W fun e w'=>∃a2 c2,e=.returned (.tuple #[.agg #[.int .i64 k.k,.int .i64 at',.int .i64 k.n,.slice a2 k.b.length c2],.int .i64 0])∧Own W.heap.size w' (.slice a2 k.b.length c2) k.b∧PS P L R A c bs d pl w' u∧Fr L R W w':=by
 obtain⟨M,V,hL⟩:=h.ls;refine (jK W hL).mono ?_;intro e w' hX;unfold lJ at hX;rw[ht,←ha]at hX;obtain⟨a2,c2,rfl,hO,⟨M',V',hL'⟩,hF⟩:=hX;exact⟨a2,c2,rfl,hO,h.to hL' hF,hF⟩
theorem nt {n:Int}(h:ar r=.err n u):u=af false r:=by
 unfold ar at h;have key:∀B:Bs,tokA B=.err n u→u=B:=fun B h=>by
  cases B with
  |nil=>cases h
  |cons x t=>
   have ht:∀k R,bw k (x :: t) R=.err n u→u=x :: t:=fun k R h=>by
    cases R with
    |ok b v=>cases h
    |err e v=>injection h with _ h;exact h.symm
   rw[tokA.eq_2]at h;unfold dS at h
   repeat' split at h
   all_goals first
    |(cases h;done)
    |exact ht _ _ h
    |(injection h with _ h;exact h.symm)
 exact key _ h
theorem eY {n at':Int}(ht:ar r=.err n u) (ha:at'=(pos bs (af false r):Nat)) (W:World) (h:PS P L R A c bs d pl W r):Calls Tryz.prog 82 #[.pointer (some ⟨R,0,none⟩)] W fun e w'=>n≠0∧e=.returned (.tuple #[.agg #[.int .i64 0,.int .i64 at',.int .i64 0,.slice none 0 0],.int .i64 n])∧PS P L R A c bs d pl w' u∧Fr L R W w':=by
 obtain⟨M,V,hL⟩:=h.ls;have hu:=nt ht;refine (jK W hL).mono ?_;intro e w' hX;unfold lJ at hX;rw[ht,←ha]at hX;obtain⟨hn,rfl,⟨M',V',hL'⟩,hF⟩:=hX;rw[←hu]at hL';exact⟨hn,rfl,h.to hL' hF,hF⟩
theorem jg (W:World) (h:PS P L R A c bs d pl W r):Calls Tryz.prog 63 #[.pointer (some ⟨P,0,none⟩)] W fun e w'=>e=.returned (.bool true)∧W=w':=by
 have p0:=h.p0;have q0:=h.q0;replace h:=hi_ h;go_enter Tryz.func63,Tryz.ntmps63;go_wp2
 all_goals go_ret
 all_goals exact⟨rfl,rfl⟩
theorem dB (hr:r' <:+bs) {at':Int}(ha:at'=(pos bs r':Nat)) (n:Int) (W:World) (h:PS P L R A c bs d pl W r):Calls Tryz.prog 83 #[.pointer (some ⟨P,0,none⟩),.int .i64 at',.int .i64 n] W fun e w'=>e=.returned (.int .i64 n)∧PS P L R A c bs d pl w' r'∧Fr L R W w':=by
 have cs:=hi_ fun W h=>bL (P:=P) (L:=L) (R:=R) (A:=A) (c:=c) (bs:=bs) (d:=d) (pl:=pl) (r:=r) hr ha W h
 have p0:=h.p0;have q0:=h.q0;refine h3_ h ha hr ?_;clear h ha hr;intro h ha hr;go_enter Tryz.func83,Tryz.ntmps83;go_wp2_with (go_at_call 30;(with_reducible refine (cs.out _ h.out).mono ?_);rintro e w1 ⟨rfl,hP2,hF2⟩;replace hP2:=hi_ hP2;replace hF2:=hi_ hF2)
 go_ret
 exact⟨rfl,hP2.out,hF2.out⟩
end
theorem aD {w:World}{R:Nat}{t:TypeId}{z0 z1 z2 z3 z4 u0 u1 u2 u3 u4:Value}(hR:Blk w R t #[z0,z1,z2,z3,z4]) {Wf:World}
 (hWf:Wf=((((w.setCell ⟨R,0,none⟩ u0).setCell ⟨R,1,none⟩ u1).setCell ⟨R,2,none⟩ u2).setCell ⟨R,3,none⟩ u3).setCell ⟨R,4,none⟩ u4) :
 Blk Wf R t #[u0,u1,u2,u3,u4]∧w.grownBy Wf (some R):=by
 have g:∀(i:Nat) (u:Value) (v:World),v.grownBy (v.setCell ⟨R,i,none⟩ u) (some R):=fun i u v=>aO v R i u
 subst hWf;exact⟨((((hR.set_ 0 u0).set_ 1 u1).set_ 2 u2).set_ 3 u3).set_ 4 u4,((((g 0 u0 w).trans (g 1 u1 _)).trans (g 2 u2 _)).trans (g 3 u3 _)).trans (g 4 u4 _)⟩
theorem aP {w a b:World}{T:Nat}(h:Below w.heap.size w a) (hg:a.grownBy b (some T)) (hT:w.heap.size≤T):Below w.heap.size w b:=
 ⟨hg.os.trans h.os,hg.tape.trans h.tape,hg.output.trans h.output,Nat.le_trans h.size hg.size,fun k hk=>(hg.block k (Nat.lt_of_lt_of_le hk h.size) (by intro e;injection e with e;omega)).trans (h.block k hk)⟩
theorem nY (n:Int) (W:World):Calls Tryz.prog 90 #[.int .i64 n] W fun e w'=>e=.returned (.agg #[.int .i64 3,.int .i64 n,.slice none 0 0,.slice none 0 0,.slice none 0 0])∧Below W.heap.size W w':=by
 obtain⟨W1,hW1,b1,hT⟩:=ak W 32 #[.int .i64 0,.int .i64 0,.slice none 0 0,.slice none 0 0,.slice none 0 0];obtain⟨p0,p1,p2,p3,p4,v0,v1,v2,v3,v4⟩:=hT.b5;replace hT:=hi_ hT;replace b1:=hi_ b1;go_enter Tryz.func90,Tryz.ntmps90;go_upto_region 1 with fail
 rw[←hW1];replace hW1:=hi_ hW1;go_wp2
 generalize hWf:World.setCell _ _ _=Wf;replace hWf:=hWf.symm;obtain⟨hb,hg⟩:=aD hT.out hWf;obtain⟨u0,u1,u2,u3,u4,-⟩:=hb.b5;replace hg:=hi_ hg;replace hWf:=hi_ hWf;clear hb p0 p1 p2 p3 p4 v0 v1 v2 v3 v4;refine bodyPost_ret (by simp[results,Tryz.results90,go_sem,u0,u1,u2,u3,u4];try rfl) rfl ?_;exact⟨rfl,aP b1.out hg.out (Nat.le_refl _)⟩
theorem dg (n:Int) (W:World):Calls Tryz.prog 122 #[.int .i64 n] W fun e w'=>e=.returned (.agg #[.int .i64 2,.int .i64 n,.slice none 0 0,.slice none 0 0,.slice none 0 0])∧Below W.heap.size W w':=by
 obtain⟨W1,hW1,b1,hT⟩:=ak W 32 #[.int .i64 0,.int .i64 0,.slice none 0 0,.slice none 0 0,.slice none 0 0];obtain⟨p0,p1,p2,p3,p4,v0,v1,v2,v3,v4⟩:=hT.b5;replace hT:=hi_ hT;replace b1:=hi_ b1;go_enter Tryz.func122,Tryz.ntmps122;go_upto_region 1 with fail
 rw[←hW1];replace hW1:=hi_ hW1;go_wp2
 generalize hWf:World.setCell _ _ _=Wf;replace hWf:=hWf.symm;obtain⟨hb,hg⟩:=aD hT.out hWf;obtain⟨u0,u1,u2,u3,u4,-⟩:=hb.b5;replace hg:=hi_ hg;replace hWf:=hi_ hWf;clear hb p0 p1 p2 p3 p4 v0 v1 v2 v3 v4;refine bodyPost_ret (by simp[results,Tryz.results122,go_sem,u0,u1,u2,u3,u4];try rfl) rfl ?_;exact⟨rfl,aP b1.out hg.out (Nat.le_refl _)⟩
theorem qn (n:Int) (W:World):Calls Tryz.prog 121 #[.int .i64 n] W fun e w'=>e=.returned (.agg #[.int .i64 9,.int .i64 n,.slice none 0 0,.slice none 0 0,.slice none 0 0])∧Below W.heap.size W w':=by
 obtain⟨W1,hW1,b1,hT⟩:=ak W 32 #[.int .i64 0,.int .i64 0,.slice none 0 0,.slice none 0 0,.slice none 0 0];obtain⟨p0,p1,p2,p3,p4,v0,v1,v2,v3,v4⟩:=hT.b5;replace hT:=hi_ hT;replace b1:=hi_ b1;go_enter Tryz.func121,Tryz.ntmps121;go_upto_region 1 with fail
 rw[←hW1];replace hW1:=hi_ hW1;go_wp2
 generalize hWf:World.setCell _ _ _=Wf;replace hWf:=hWf.symm;obtain⟨hb,hg⟩:=aD hT.out hWf;obtain⟨u0,u1,u2,u3,u4,-⟩:=hb.b5;replace hg:=hi_ hg;replace hWf:=hi_ hWf;clear hb p0 p1 p2 p3 p4 v0 v1 v2 v3 v4;refine bodyPost_ret (by simp[results,Tryz.results121,go_sem,u0,u1,u2,u3,u4];try rfl) rfl ?_;exact⟨rfl,aP b1.out hg.out (Nat.le_refl _)⟩
theorem tG {B g cap:Nat}{w:World}{k:Int}{b:Bs}(hk1: -9223372036854775808≤k) (hk2:k≤9223372036854775807) (hB:B≤g) (hg:g<w.heap.size) (hb:Byt w (some ⟨g,0,none⟩) b) (hc:b.length≤cap):ObI B w.heap.size w (.mk k 0 b [] []) [.int .i64 k,.int .i64 0,.slice (some ⟨g,0,none⟩) b.length cap,.slice none 0 0,.slice none 0 0]:=by
 refine⟨Nat.le_refl _,fun w' h hz=>?_⟩;have hb':Byt w' (some ⟨g,0,none⟩) b:=by
  refine⟨hb.1,fun h0=>?_⟩;obtain⟨g2,o2,e,hc2⟩:=hb.2 h0;injection e with e;injection e with e1 e2;subst e1 e2;exact⟨g,0,rfl,fun i hi=>(World.cell?_of_block (a:=⟨g,0+i,none⟩) (h g hB hg)).trans (hc2 i hi)⟩
 exact ObAt.mk k 0 b [] [] (some ⟨g,0,none⟩) none none cap 0 0 0 0 0 0 (fun _=>[]) (fun _=>[]) hk1 hk2 (by decide) (by decide) hb' hc (fun e=>by cases e) (Nat.le_refl _) (Nat.zero_le _) (Nat.le_refl _) (Nat.zero_le _) (fun h=>absurd h (by simp)) (fun i hi=>absurd hi (by simp)) (fun i hi=>absurd hi (by simp)) (fun h=>absurd h (by simp)) (fun i hi=>absurd hi (by simp)) (fun i hi=>absurd hi (by simp)) (fun i hi=>absurd hi (by simp))
theorem nR {B:Nat}{w:World}{k:Int}{v:Value}{b:Bs}(hk1: -9223372036854775808≤k) (hk2:k≤9223372036854775807) (h:Own B w v b):ObI B w.heap.size w (.mk k 0 b [] []) [.int .i64 k,.int .i64 0,v,.slice none 0 0,.slice none 0 0]:=
 el (tO:=32) (tE:=91) hk1 hk2 (by decide) (by decide) h.row h.lenL (RowG.nil _ _ _ _ _) (RowG.nil _ _ _ _ _)
theorem lb {B:Nat}{w:World}(k n:Int) (hk1: -9223372036854775808≤k) (hk2:k≤9223372036854775807) (hn: -9223372036854775808≤n∧n≤9223372036854775807):ObI B w.heap.size w (.mk k n [] [] []) [.int .i64 k,.int .i64 n,.slice none 0 0,.slice none 0 0,.slice none 0 0]:=
 el (tO:=32) (tE:=91) hk1 hk2 hn.1 hn.2 (Own.nil B w).row (by simp[maxLen]) (RowG.nil _ _ _ _ _) (RowG.nil _ _ _ _ _)
theorem uk (w:World) (l:List UInt8) (hl:l.length≤maxLen):∃c w',(convert 9 22 (.string ⟨l.toArray⟩)).run Tryz.prog w=.ok (.slice (some ⟨w.heap.size,0,none⟩) l.length c) w'∧l.length≤c∧Byt w' (some ⟨w.heap.size,0,none⟩) l∧Below w.heap.size w w'∧w.heap.size<w'.heap.size:=by
 have h:=run_bytes_of_string (P:=Tryz.prog) w 9 22 5 ⟨l.toArray⟩ Tryz.underlying9 Tryz.underlying22 Tryz.underlying5;refine⟨_,_,h,grownCap_ge w _ _ _,⟨hl,fun _=>⟨w.heap.size,0,rfl,fun i hi=>?_⟩⟩,((Below.refl _ _).drew).alloc (Nat.le_refl _) _,by show w.heap.size<(w.drew.alloc _).heap.size;rw[World.size_alloc];exact Nat.lt_succ_self _⟩;have:=World.cell?_alloc_mark w.drew (bytesRow ⟨l.toArray⟩ (grownCap w (ByteArray.size ⟨l.toArray⟩) 0 5)) 5 ((bytesRow ⟨l.toArray⟩ (grownCap w (ByteArray.size ⟨l.toArray⟩) 0 5)).size,(bytesRow ⟨l.toArray⟩ (grownCap w (ByteArray.size ⟨l.toArray⟩) 0 5)).size+1) (0+i);refine this.trans ?_;rw[Nat.zero_add];exact bytesRow_at _ _ _ (by simpa using hi)
theorem my {B:Nat}{w:World}{a2:Option Addr}{m2 c2:Nat}{b:Bs}(h:Own B w (.slice a2 m2 c2) b) (hbl:b.length≤1000000000):Calls Tryz.prog 87 #[.slice a2 m2 c2] w fun e w'=>∃a3 m3 c3,e=.returned (.slice a3 m3 c3)∧Own w.heap.size w' (.slice a3 m3 c3) b∧Below w.heap.size w w':=by
 obtain⟨A9,c9,e9,hby,_⟩:=h.out2L h.lenL;have hlen:=h.lenL;injection e9 with i1 i2 i3;subst i1 i2 i3;cases a2 with
 |none=>
  have hb:b=[]:=by
   cases b with
   |nil=>rfl
   |cons y l=>obtain⟨b,o,e,_⟩:=hby.2 (by simp);cases e
  subst hb;refine (Tryz.bytes_Clone_nil 0 c2 w).mono ?_;rintro e w' ⟨rfl,rfl⟩;exact⟨none,0,0,rfl,Own.nil _ _,Below.refl _ _⟩
 |some ad=>
  refine (Tryz.bytes_Clone_at ad b.length c2 (b.map fun x=>(x.toNat:Int)) w (by simp) (by omega) (fun i hi=>by
   obtain⟨g,o,e,hc⟩:=hby.2 (by omega);injection e with e;subst e;rw[Wk.add_none];rw[hc i hi];simp[List.getD,hi])).mono ?_
  rintro e w' ⟨v,rfl,hown,hne,hb⟩;rw[fU]at hown;have hO:Own w.heap.size w' v b:=⟨hown⟩;obtain⟨a3,m3,c3,rfl⟩:=hO.sl;exact⟨a3,m3,c3,rfl,hO,hb⟩
theorem mC (W:World):Calls Tryz.prog 123 #[.bool true] W fun e w'=>e=.returned (.agg #[.int .i64 1,.int .i64 1,.slice none 0 0,.slice none 0 0,.slice none 0 0])∧Below W.heap.size W w':=by
 obtain⟨W1,hW1,b1,hT⟩:=ak W 32 #[.int .i64 0,.int .i64 0,.slice none 0 0,.slice none 0 0,.slice none 0 0];obtain⟨p0,p1,p2,p3,p4,v0,v1,v2,v3,v4⟩:=hT.b5;replace hT:=hi_ hT;replace b1:=hi_ b1;go_enter Tryz.func123,Tryz.ntmps123;go_upto_region 1 with fail
 rw[←hW1];replace hW1:=hi_ hW1;go_wp2
 generalize hWf:World.setCell _ _ _=Wf;replace hWf:=hWf.symm;obtain⟨hb,hg⟩:=aD hT.out hWf;obtain⟨u0,u1,u2,u3,u4,-⟩:=hb.b5;replace hg:=hi_ hg;replace hWf:=hi_ hWf;clear hb p0 p1 p2 p3 p4 v0 v1 v2 v3 v4;refine bodyPost_ret (by simp[results,Tryz.results123,go_sem,u0,u1,u2,u3,u4];try rfl) rfl ?_;exact⟨rfl,aP b1.out hg.out (Nat.le_refl _)⟩
theorem mB (W:World):Calls Tryz.prog 123 #[.bool false] W fun e w'=>e=.returned (.agg #[.int .i64 1,.int .i64 0,.slice none 0 0,.slice none 0 0,.slice none 0 0])∧Below W.heap.size W w':=by
 obtain⟨W1,hW1,b1,hT⟩:=ak W 32 #[.int .i64 0,.int .i64 0,.slice none 0 0,.slice none 0 0,.slice none 0 0];obtain⟨p0,p1,p2,p3,p4,v0,v1,v2,v3,v4⟩:=hT.b5;replace hT:=hi_ hT;replace b1:=hi_ b1;go_enter Tryz.func123,Tryz.ntmps123;go_upto_region 1 with fail
 rw[←hW1];replace hW1:=hi_ hW1;go_wp2
 generalize hWf:World.setCell _ _ _=Wf;replace hWf:=hWf.symm;obtain⟨hb,hg⟩:=aD hT.out hWf;obtain⟨u0,u1,u2,u3,u4,-⟩:=hb.b5;replace hg:=hi_ hg;replace hWf:=hi_ hWf;clear hb p0 p1 p2 p3 p4 v0 v1 v2 v3 v4;refine bodyPost_ret (by simp[results,Tryz.results123,go_sem,u0,u1,u2,u3,u4];try rfl) rfl ?_;exact⟨rfl,aP b1.out hg.out (Nat.le_refl _)⟩
theorem nW (W:World):Calls Tryz.prog 124 #[] W fun e w'=>e=.returned (.agg #[.int .i64 0,.int .i64 0,.slice none 0 0,.slice none 0 0,.slice none 0 0])∧Below W.heap.size W w':=by
 obtain⟨W1,hW1,b1,hT⟩:=ak W 32 #[.int .i64 0,.int .i64 0,.slice none 0 0,.slice none 0 0,.slice none 0 0];obtain⟨p0,p1,p2,p3,p4,v0,v1,v2,v3,v4⟩:=hT.b5;replace hT:=hi_ hT;replace b1:=hi_ b1;go_enter Tryz.func124,Tryz.ntmps124;go_upto_region 1 with fail
 rw[←hW1];replace hW1:=hi_ hW1;go_wp2
 generalize hWf:World.setCell _ _ _=Wf;replace hWf:=hWf.symm;obtain⟨hb,hg⟩:=aD hT.out hWf;obtain⟨u0,u1,u2,u3,u4,-⟩:=hb.b5;replace hg:=hi_ hg;replace hWf:=hi_ hWf;clear hb p0 p1 p2 p3 p4 v0 v1 v2 v3 v4;refine bodyPost_ret (by simp[results,Tryz.results124,go_sem,u0,u1,u2,u3,u4];try rfl) rfl ?_;exact⟨rfl,aP b1.out hg.out (Nat.le_refl _)⟩
theorem qo {B:Nat}{b:Bs}{a2:Option Addr}{m2 c2:Nat}(W:World) (hO:Own B W (.slice a2 m2 c2) b) (hbl:b.length≤1000000000):Calls Tryz.prog 91 #[.slice a2 m2 c2] W fun e w'=>∃a3 m3 c3,e=.returned (.agg #[.int .i64 4,.int .i64 0,.slice a3 m3 c3,.slice none 0 0,.slice none 0 0])∧Own W.heap.size w' (.slice a3 m3 c3) b∧Below W.heap.size W w':=by
 obtain⟨W1,hW1,b1,hT⟩:=ak W 32 #[.int .i64 0,.int .i64 0,.slice none 0 0,.slice none 0 0,.slice none 0 0];obtain⟨p0,p1,p2,p3,p4,v0,v1,v2,v3,v4⟩:=hT.b5;have cc:=hi_ (my (hO.below b1) hbl);refine h3_ hT b1 hO ?_;clear hT b1 hO;intro hT b1 hO;go_enter Tryz.func91,Tryz.ntmps91;go_upto_region 1 with fail
 rw[←hW1];replace hW1:=hi_ hW1;go_wp2_with (go_at_call 87;(with_reducible refine (cc.out).mono ?_);rintro e w2 ⟨a3,m3,c3,rfl,hO2,hB2⟩;have hT2:=hT.out.below hB2 hT.out.lt;obtain⟨p0,p1,p2,p3,p4,v0,v1,v2,v3,v4⟩:=hT2.b5;replace hT2:=hi_ hT2;replace hO2:=hi_ hO2;replace hB2:=hi_ hB2)
 generalize hWf:World.setCell _ _ _=Wf;replace hWf:=hWf.symm;obtain⟨hb,hg⟩:=aD hT2.out hWf;obtain⟨u0,u1,u2,u3,u4,-⟩:=hb.b5;replace hg:=hi_ hg;replace hWf:=hi_ hWf;clear hb p0 p1 p2 p3 p4 v0 v1 v2 v3 v4;refine bodyPost_ret (by simp[results,Tryz.results91,go_sem,u0,u1,u2,u3,u4];try rfl) rfl ?_;have hz:W.heap.size≤W1.heap.size:=b1.out.size;exact⟨_,_,_,rfl,bj (hO2.out.base hz) hg.out (fun g hg e=>hO2.out.notL hT2.out (by decide) (by rw[hg];exact e)),aP (b1.out.trans (hB2.out.mono hz)) hg.out (Nat.le_refl _)⟩
theorem nV {b:Bs}(hbl:b.length≤maxLen) (W:World):Calls Tryz.prog 92 #[.string ⟨b.toArray⟩] W fun e w'=>∃g c3,e=.returned (.agg #[.int .i64 5,.int .i64 0,.slice (some ⟨g,0,none⟩) b.length c3,.slice none 0 0,.slice none 0 0])∧W.heap.size≤g∧g<w'.heap.size∧Byt w' (some ⟨g,0,none⟩) b∧b.length≤c3∧Below W.heap.size W w':=by
 obtain⟨W1,hW1,b1,hT⟩:=ak W 32 #[.int .i64 0,.int .i64 0,.slice none 0 0,.slice none 0 0,.slice none 0 0];have z1:W1.heap.size=W.heap.size+1:=by rw[hW1];exact World.size_alloc _ _
 obtain⟨c3,W2,hcv,hcap,hby,hB2,hlt⟩:=uk W1 b hbl;have hT2:=hT.below hB2 hT.lt;obtain⟨p0,p1,p2,p3,p4,v0,v1,v2,v3,v4⟩:=hT2.b5;refine h8_ hT hT2 hby hB2 hlt hcap hbl z1 ?_;clear hT hT2 hby hB2 hlt hcap hbl z1;intro hT hT2 hby hB2 hlt hcap hbl z1;obtain⟨n,hn⟩:∃n,n=b.length:=⟨_,rfl⟩;rw[←hn]at hcv⊢;replace hn:=hi_ hn;obtain⟨S,hSS⟩:∃S:ByteArray,S=⟨b.toArray⟩:=⟨_,rfl⟩;rw[←hSS]at hcv⊢;replace hSS:=hi_ hSS;replace b1:=hi_ b1;go_enter Tryz.func92,Tryz.ntmps92;go_upto_region 1 with fail
 rw[←hW1];replace hW1:=hi_ hW1;go_wp2
 generalize hWf:World.setCell _ _ _=Wf;replace hWf:=hWf.symm;obtain⟨hb,hg⟩:=aD hT2.out hWf;obtain⟨u0,u1,u2,u3,u4,-⟩:=hb.b5;replace hg:=hi_ hg;replace hWf:=hi_ hWf;clear hb p0 p1 p2 p3 p4 v0 v1 v2 v3 v4;refine bodyPost_ret (by simp[results,Tryz.results92,go_sem,u0,u1,u2,u3,u4];try rfl) rfl ?_;have hz:W.heap.size≤W1.heap.size:=b1.out.size;have hzn:W1.heap.size≠W.heap.size:=by have:=z1.out;omega
 rw[hn.out];refine⟨W1.heap.size,c3,rfl,hz,Nat.lt_of_lt_of_le hlt.out hg.out.size,⟨hby.out.1,fun h0=>?_⟩,by have:=hn.out;exact hcap.out,aP (b1.out.trans (hB2.out.mono hz)) hg.out (Nat.le_refl _)⟩;obtain⟨g2,o2,e,hc2⟩:=hby.out.2 h0;refine⟨g2,o2,e,fun i hi=>?_⟩;injection e with e;injection e with e1 e2;subst e1 e2;exact (World.cell?_of_block (a:=⟨W1.heap.size,0+i,none⟩) (hg.out.block _ hlt.out (by intro e;injection e with e;exact hzn e))).trans (hc2 i hi)
def bn (b:Bs):Int×Int×Bool:=if b=[116,114,117,101] then (1,1,true) else if b=[102,97,108,115,101] then (1,0,true) else (0,0,decide (b=[110,117,108,108]))
theorem qd (b:Bs):kH b=if (bn b).2.2 then some (.mk (bn b).1 (bn b).2.1 [] [] []) else none:=by
 unfold kH bn;split
 ·rfl
 split
 ·rfl
 split
 ·rename_i h;simp[h]
 ·rename_i h;simp[h]
theorem eD (b s:Bs):((⟨b.toArray⟩:ByteArray).toList == s)=decide (b=s):=by
 rw[ByteArray.toList_eq,Bool.eq_iff_iff];simp
theorem ml (b:Bs) (W:World):Calls Tryz.prog 93 #[.string ⟨b.toArray⟩] W fun e w'=>e=.returned (.tuple #[.agg #[.int .i64 (bn b).1,.int .i64 (bn b).2.1,.slice none 0 0,.slice none 0 0,.slice none 0 0],.bool (bn b).2.2])∧Below W.heap.size W w':=by
 obtain⟨W1,hW1,b1,hT⟩:=ak W 32 #[.int .i64 0,.int .i64 0,.slice none 0 0,.slice none 0 0,.slice none 0 0];replace hT:=hi_ hT;replace b1:=hi_ b1;have e1:=eD b [116,114,117,101];have e2:=eD b [102,97,108,115,101];have e3:=eD b [110,117,108,108];obtain⟨S,hSS⟩:∃S:ByteArray,S=⟨b.toArray⟩:=⟨_,rfl⟩;rw[←hSS]at e1 e2 e3⊢;replace hSS:=hi_ hSS;by_cases h1:b=[116,114,117,101]
 ·rw[show bn b=(1,1,true) from by unfold bn;rw[if_pos h1]]
  rw[decide_eq_true h1]at e1;clear e2 e3 h1;go_enter Tryz.func93,Tryz.ntmps93;go_upto_region 1 with fail
  rw[←hW1];replace hW1:=hi_ hW1;go_wp2_with (go_at_call 123;(with_reducible refine (mC _).mono ?_);rintro e w2 ⟨rfl,hB2⟩;have hT2:=hT.out.below hB2 hT.out.lt;obtain⟨p0,p1,p2,p3,p4,v0,v1,v2,v3,v4⟩:=hT2.b5;replace hT2:=hi_ hT2;replace hB2:=hi_ hB2)
  generalize hWf:World.setCell _ _ _=Wf;replace hWf:=hWf.symm;obtain⟨hb,hg⟩:=aD hT2.out hWf;obtain⟨u0,u1,u2,u3,u4,-⟩:=hb.b5;replace hg:=hi_ hg;replace hWf:=hi_ hWf;clear hb p0 p1 p2 p3 p4 v0 v1 v2 v3 v4;have hz:W.heap.size≤W1.heap.size:=b1.out.size;refine bodyPost_ret (by simp[results,Tryz.results93,go_sem,u0,u1,u2,u3,u4];try rfl) rfl ?_;exact⟨rfl,aP (b1.out.trans (hB2.out.mono hz)) hg.out (Nat.le_refl _)⟩
 by_cases h2:b=[102,97,108,115,101]
 ·rw[show bn b=(1,0,true) from by unfold bn;rw[if_neg h1,if_pos h2]]
  rw[decide_eq_false h1]at e1;rw[decide_eq_true h2]at e2;clear e3 h1 h2;go_enter Tryz.func93,Tryz.ntmps93;go_upto_region 1 with fail
  rw[←hW1];replace hW1:=hi_ hW1;go_wp2_with (go_at_call 123;(with_reducible refine (mB _).mono ?_);rintro e w2 ⟨rfl,hB2⟩;have hT2:=hT.out.below hB2 hT.out.lt;obtain⟨p0,p1,p2,p3,p4,v0,v1,v2,v3,v4⟩:=hT2.b5;replace hT2:=hi_ hT2;replace hB2:=hi_ hB2)
  generalize hWf:World.setCell _ _ _=Wf;replace hWf:=hWf.symm;obtain⟨hb,hg⟩:=aD hT2.out hWf;obtain⟨u0,u1,u2,u3,u4,-⟩:=hb.b5;replace hg:=hi_ hg;replace hWf:=hi_ hWf;clear hb p0 p1 p2 p3 p4 v0 v1 v2 v3 v4;have hz:W.heap.size≤W1.heap.size:=b1.out.size;refine bodyPost_ret (by simp[results,Tryz.results93,go_sem,u0,u1,u2,u3,u4];try rfl) rfl ?_;exact⟨rfl,aP (b1.out.trans (hB2.out.mono hz)) hg.out (Nat.le_refl _)⟩
 rw[show bn b=(0,0,decide (b=[110,117,108,108])) from by unfold bn;rw[if_neg h1,if_neg h2]];rw[decide_eq_false h1]at e1;rw[decide_eq_false h2]at e2;generalize decide (b=[110,117,108,108])=t at *;clear h1 h2;go_enter Tryz.func93,Tryz.ntmps93;go_upto_region 1 with fail
 rw[←hW1];replace hW1:=hi_ hW1;go_wp2_with (go_at_call 124;(with_reducible refine (nW _).mono ?_);rintro e w2 ⟨rfl,hB2⟩;have hT2:=hT.out.below hB2 hT.out.lt;obtain⟨p0,p1,p2,p3,p4,v0,v1,v2,v3,v4⟩:=hT2.b5;replace hT2:=hi_ hT2;replace hB2:=hi_ hB2)
 generalize hWf:World.setCell _ _ _=Wf;replace hWf:=hWf.symm;obtain⟨hb,hg⟩:=aD hT2.out hWf;obtain⟨u0,u1,u2,u3,u4,-⟩:=hb.b5;replace hg:=hi_ hg;replace hWf:=hi_ hWf;clear hb p0 p1 p2 p3 p4 v0 v1 v2 v3 v4;have hz:W.heap.size≤W1.heap.size:=b1.out.size;refine bodyPost_ret (by simp[results,Tryz.results93,go_sem,u0,u1,u2,u3,u4];try rfl) rfl ?_;exact⟨rfl,aP (b1.out.trans (hB2.out.mono hz)) hg.out (Nat.le_refl _)⟩
section
open Go Go.RowKit Go.Wk
def bytes (l:List UInt8):ByteArray:=⟨l.toArray⟩
theorem fI (w:World) (b o c:Nat) (bs:List UInt8) (h:Byt w (some ⟨b,o,none⟩) bs):(convert 22 9 (.slice (some ⟨b,o,none⟩) bs.length c)).run Tryz.prog w=.ok (.string (bytes bs)) w:=by
 refine run_convert_bytes_back (P:=Tryz.prog) w 22 9 5 ⟨b,o,none⟩ c bs Tryz.underlying22 Tryz.underlying5 Tryz.underlying9 (fun j hj=>?_);obtain⟨b',o',e,hc⟩:=h.2 (by omega);cases e;rw[Lib.add_plain];exact hc j hj
theorem qQ (g o c:Nat) (ss:List ByteArray) (w:World) (hcell:∀i (h:i<ss.length),w.cell? ⟨g,o+i,none⟩=some (.string ss[i])) (hl:(ss.flatMap fun S=>S.data.toList).length≤10000000000) (hn:ss.length≤1000) :
 Calls Tryz.prog 102 #[.slice (some ⟨g,o,none⟩) ss.length c] w (RO w (ss.flatMap fun S=>S.data.toList)):=by
 obtain⟨m,hm⟩:∃m,m=ss.length:=⟨_,rfl⟩;rw[←hm]at hn⊢;replace hm:=hi_ hm;replace hl:=hi_ hl;go_enter Tryz.func102,Tryz.ntmps102;go_wp2
 go_loopw [3,5,8] (fun s3 _ s8 wr=>∃k:Nat,k≤m∧s8=.int .i64 k∧Own w.heap.size wr s3 ((ss.take k).flatMap fun S=>S.data.toList)∧Below w.heap.size w wr) (fun _ _ s8 _=>m - (RowKit.intOf s8).toNat)
 case atStart=>exact⟨0,by omega,rfl,Own.nil _ _,Below.refl _ _⟩
 case round=>
  obtain⟨k,hk,rfl,hO,hB⟩:=hrel;by_cases hkm:k<m
  ·have hkl:k<ss.length:=by rw[←hm.out];exact hkm
   obtain⟨S,hS⟩:∃S,S=ss[k]:=⟨_,rfl⟩;have hcx:wr.cell? ⟨g,o+k,none⟩=some (.string S):=by
    rw[hS];exact (hB.cell (ac (hcell k hkl))).trans (hcell k hkl)
   have hT:(ss.take (k+1)).flatMap (fun S=>S.data.toList)=(ss.take k).flatMap (fun S=>S.data.toList)++S.data.toList:=by
    rw[List.take_succ_eq_append_getElem hkl,List.flatMap_append,List.flatMap_cons,List.flatMap_nil,List.append_nil,hS]
   have hlen:((ss.take k).flatMap (fun S=>S.data.toList)).length+S.data.toList.length≤10000000000:=by
    rw[←List.length_append,←hT];refine Nat.le_trans ?_ hl.out;have e:ss=ss.take (k+1)++ss.drop (k+1):=(List.take_append_drop _ _).symm;have:(ss.flatMap fun S=>S.data.toList).length=((ss.take (k+1)).flatMap fun S=>S.data.toList).length+((ss.drop (k+1)).flatMap fun S=>S.data.toList).length:=by
     rw[←List.length_append,←List.flatMap_append,←e]
    omega
   have lB:=hB.size;refine h5_ hT hlen hB hO hS ?_;clear hT hlen hB hO hS;intro hT hlen hB hO hS;clear hcell;go_wp2_with (at_builtin;refine rR rfl _ _ rfl w.heap.size _ _ rfl hO.out S S.data.toList rfl rfl (by have:=hlen.out;omega) (by omega) ?_;intro v' w2 hO3 hB3;replace hO3:=hi_ hO3;replace hB3:=hi_ hB3)
   go_roundw
   case rel=>exact⟨k+1,by omega,by go_num,by rw[hT.out];exact hO3.out,hB.out.trans hB3.out⟩
   case measure=>simp[RowKit.intOf];omega
  ·obtain rfl:k=m:=by omega
   have hT:ss.take k=ss:=by rw[hm.out,List.take_length]
   rw[hT]at hO;refine h3_ hB hO hT ?_;clear hB hO hT;intro hB hO hT;go_wp2
   go_ret
   exact⟨_,rfl,hO.out,hB.out⟩
theorem uh (W:World) (S1:ByteArray) (hl:S1.size≤1000000000):Calls Tryz.prog 102 #[.slice (some ⟨W.heap.size,0,none⟩) 1 1] (W.alloc (.cells #[.string S1] 9)) (RO (W.alloc (.cells #[.string S1] 9)) S1.data.toList):=by
 have h1:S1.data.toList.length=S1.size:=Array.length_toList;have h:=qQ W.heap.size 0 1 [S1] (W.alloc (.cells #[.string S1] 9)) (fun i hi=>by
  rw[bP]
  match i,hi with
  |0,_=>rfl) (by simp only[List.flatMap_cons,List.flatMap_nil,List.append_nil];omega) (by simp)
 simpa using h
end
end Go.Proofs.YthffpbkndnhlfaaGreatDoor
