/- Walks and laws, joined: part H. No condition. -/
import Derived.Test.YthffpbkndnhlfaaGreatDoorTrJG
import Derived.Test.YthffpbkndnhlfaaGreatDoorTrJA
import Derived.Test.YthffpbkndnhlfaaGreatDoorTrJE
set_option linter.unusedSimpArgs false
set_option linter.unusedVariables false
set_option maxRecDepth 100000
set_option maxHeartbeats 32000000
namespace Go.Proofs.YthffpbkndnhlfaaGreatDoor
open Go Go.RowKit Go.Wk Go.Rd Go.Fx
theorem m7 (A:Option Addr) (c:Nat) (b:Bs) (hb:b.length=20) (hc:20≤c) (W:World) (hby:Byt W A b):Calls Tryz.prog 36 #[.slice A 20 c] W fun e w'=>e=.returned (.tuple #[.agg (if okE b=true then #[.int .i64 0,.int .i64 (dZ b),.int .i64 (bN (b.take 10)).1,.int .i64 (bN ((b.drop 11).take 5)).1] else #[.int .i64 0,.int .i64 0,.int .i64 0,.int .i64 0]),.bool (okE b)])∧Below W.heap.size W w':=by
 obtain⟨g,o,hA,hcl⟩:=hby.2 (by omega);subst hA;obtain⟨W1,hW1,b1,hT⟩:=ak W 70 #[.int .i64 0,.int .i64 0,.int .i64 0,.int .i64 0];have hby1:=hby.below b1;have gl:=ac (hcl 0 (by omega));have s1:=ef hby1 0 10 (by omega);have s2:=ef hby1 11 5 (by omega);have s3:=ef hby1 18 2 (by omega);rw[List.drop_zero,Nat.add_zero]at s1;have l1:(b.take 10).length=10:=by simp;omega
 have l2:((b.drop 11).take 5).length=5:=by simp;omega
 have p1:=(jP (b:=b.take 10) (by omega)).1;have p2:=(jP (b:=(b.drop 11).take 5) (by omega)).1;have l3:((b.drop 18).take 2).length=2:=by simp;omega
 have e3:(b.drop 18).take 2=b.drop 18:=List.take_of_length_le (by simp;omega);have c1:=fun k c=>f8 _ c _ (by omega) (W1.drewN k) (s1.below (ax W1 k))
 have c2:=fun k c=>f8 _ c _ (by omega) (W1.drewN k) (s2.below (ax W1 k))
 have hcv:=fun k c=>jr (c:=c) (s3.below (ax W1 k))
 replace c1:=fun k c=>(c1 k c).mono fun _ _ h=>(⟨h.1,h.2.symm⟩:_∧_)
 replace c2:=fun k c=>(c2 k c).mono fun _ _ h=>(⟨h.1,h.2.symm⟩:_∧_)
 rw[l1]at c1;rw[l2]at c2;rw[l3,e3]at hcv;have k10:=(b1.cell (ac (hcl 10 (by omega)))).trans (hcl 10 (by omega));have k16:=(b1.cell (ac (hcl 16 (by omega)))).trans (hcl 16 (by omega));have k17:=(b1.cell (ac (hcl 17 (by omega)))).trans (hcl 17 (by omega));obtain⟨x10,h10⟩:∃x,x=b[10]:=⟨_,rfl⟩;obtain⟨x16,h16⟩:∃x,x=b[16]:=⟨_,rfl⟩;obtain⟨x17,h17⟩:∃x,x=b[17]:=⟨_,rfl⟩;rw[←h10]at k10;rw[←h16]at k16;rw[←h17]at k17;have hok:okE b=(((bN (b.take 10)).2 && (bN ((b.drop 11).take 5)).2 && mG (b.drop 18) && (x10 == 32) && (x16 == 32)) && (x17 == 110 || x17 == 102)):=by
  unfold okE;rw[List.getElem?_eq_getElem (by omega),List.getElem?_eq_getElem (by omega),List.getElem?_eq_getElem (by omega),←h10,←h16,←h17];simp
 have hkd:dZ b=if x17=110 then 1 else 0:=by
  unfold dZ;rw[List.getElem?_eq_getElem (by omega),←h17];simp
 have hen:mG (b.drop 18)=((⟨(b.drop 18).toArray⟩:ByteArray).toList == [32,13] || (⟨(b.drop 18).toArray⟩:ByteArray).toList == [32,10] || (⟨(b.drop 18).toArray⟩:ByteArray).toList == [13,10]):=by
  rw[ByteArray.toList_eq];rfl
 obtain⟨S,hS⟩:∃S:ByteArray,S=⟨(b.drop 18).toArray⟩:=⟨_,rfl⟩;rw[←hS]at hcv hen;obtain⟨OK,hOK⟩:∃x,x=okE b:=⟨_,rfl⟩;obtain⟨KD,hKD⟩:∃x,x=dZ b:=⟨_,rfl⟩;rw[←hOK,←hKD];rw[←hOK]at hok;rw[←hKD]at hkd;obtain⟨N1,hN1⟩:∃x,x=bN (b.take 10):=⟨_,rfl⟩;obtain⟨N2,hN2⟩:∃x,x=bN ((b.drop 11).take 5):=⟨_,rfl⟩;rw[←hN1,←hN2];rw[←hN1,←hN2,hen]at hok;rw[←hN1]at c1;rw[←hN2]at c2;rw[←hN1]at p1;rw[←hN2]at p2;obtain⟨n1,a1⟩:=N1;obtain⟨n2,a2⟩:=N2;obtain⟨t1,ht1⟩:∃t,t=(S.toList == [32,13]):=⟨_,rfl⟩;obtain⟨t2,ht2⟩:∃t,t=(S.toList == [32,10]):=⟨_,rfl⟩;obtain⟨t3,ht3⟩:∃t,t=(S.toList == [13,10]):=⟨_,rfl⟩;rw[←ht1,←ht2,←ht3]at hok;have y10:=dK x10;have y16:=dK x16;have y17:=dK x17;obtain⟨X10,e10⟩:∃X:Int,X=(x10.toNat:Nat):=⟨_,rfl⟩;obtain⟨X16,e16⟩:∃X:Int,X=(x16.toNat:Nat):=⟨_,rfl⟩;obtain⟨X17,e17⟩:∃X:Int,X=(x17.toNat:Nat):=⟨_,rfl⟩;rw[←e10]at k10;rw[←e16]at k16;rw[←e17]at k17;have q10:(x10 == 32)=(X10 == 32):=ge e10 32;have q16:(x16 == 32)=(X16 == 32):=ge e16 32;have q17:(x17 == 110)=(X17 == 110):=ge e17 110;have q172:(x17 == 102)=(X17 == 102):=ge e17 102;have hkd2:KD=if (X17 == 110)=true then 1 else 0:=by rw[hkd,←q17];simp
 rw[q10,q16,q17,q172]at hok;simp only[]at c1 c2 hok p1 p2⊢;obtain⟨D1,hD1⟩:∃D,D=if a1=true then n1 else -1:=⟨_,rfl⟩
 obtain⟨D2,hD2⟩:∃D,D=if a2=true then n2 else -1:=⟨_,rfl⟩
 rw[←hD1]at c1;rw[←hD2]at c2;refine h6_ hT b1 c1 c2 hok hkd2 ?_;clear hT b1 c1 c2 hok hkd2;intro hT b1 c1 c2 hok hkd2;replace ht1:=ht1.symm;replace ht2:=ht2.symm;replace ht3:=ht3.symm;clear hkd hen hS hOK hKD hN1 hN2 hby hby1 hcl s1 s2 s3 l1 l2 l3 e3 y10 y16 y17 e10 e16 e17 q10 q16 q17 q172 h10 h16 h17;obtain⟨z0,z1,z2,z3,v0,v1,v2,v3⟩:=hT.out.b4;replace hD1:=hi_ hD1;replace hD2:=hi_ hD2;have i10:(10:Int)≤(c:Int):=by omega
 have i16:(16:Int)≤(c:Int):=by omega
 have i20:(20:Int)≤(c:Int):=by omega
 go_enter Tryz.func36,Tryz.ntmps36;go_upto_region 1 with fail
 rw[←hW1];replace hW1:=hi_ hW1
 go_quiet (first
  |(go_at_call 69;with_reducible exact Calls.quiet_of_same (c1.out _ _))
  |(go_at_call 69;with_reducible exact Calls.quiet_of_same (c2.out _ _)))
 obtain⟨W2,hW2⟩:∃W2,W2=W1.drewN nq:=⟨_,rfl⟩;have b2:Below W1.heap.size W1 W2:=by rw[hW2];exact ax W1 nq
 have hcv2:=fun c=>hcv nq c
 rw[←hW2]at hcv2⊢;have hT2:=hT.out.below b2 hT.out.lt;have r10:=(b2.cell (ac k10)).trans k10;have r16:=(b2.cell (ac k16)).trans k16;have r17:=(b2.cell (ac k17)).trans k17;obtain⟨y0,y1,y2,y3,u0,u1,u2,u3⟩:=hT2.b4;clear k10 k16 k17 z0 z1 z2 z3 v0 v1 v2 v3 hcv c1 c2;have b12:Below W.heap.size W W2:=ah b1.out b2;refine h4_ hW2 b2 b12 hT2 ?_;clear hW2 b2 b12 hT2;intro hW2 b2 b12 hT2;go_upto_region 3 with fail
 cases a1 with
 |false=>
  obtain rfl:D1= -1:=by rw[hD1.out];rfl
  obtain rfl:OK=false:=by rw[hok.out];rfl
  go_wp2
  generalize hWf:World.setCell _ _ _=Wf;replace hWf:=hWf.symm;obtain⟨hb,hg⟩:=bf hT2.out hWf;obtain⟨q0,q1,q2,q3,-⟩:=hb.b4;have hBf:=hi_ (b12.out.grown hg b12.out.size (fun q hq=>by injection hq with hq;omega));clear hb hg hWf y0 y1 y2 y3 u0 u1 u2 u3;refine bodyPost_ret (v:=.tuple #[.agg #[.int .i64 0,.int .i64 0,.int .i64 0,.int .i64 0],.bool false]) (by simp only[results,Tryz.results36];simp[go_sem,q0,q1,q2,q3]) rfl ?_;exact⟨rfl,hBf.out⟩
 |true=>
 obtain rfl:D1=n1:=by rw[hD1.out];rfl
 cases a2 with
 |false=>
  obtain rfl:D2= -1:=by rw[hD2.out];rfl
  obtain rfl:OK=false:=by rw[hok.out];rfl
  go_wp2
  generalize hWf:World.setCell _ _ _=Wf;replace hWf:=hWf.symm;obtain⟨hb,hg⟩:=bf hT2.out hWf;obtain⟨q0,q1,q2,q3,-⟩:=hb.b4;have hBf:=hi_ (b12.out.grown hg b12.out.size (fun q hq=>by injection hq with hq;omega));clear hb hg hWf y0 y1 y2 y3 u0 u1 u2 u3;refine bodyPost_ret (v:=.tuple #[.agg #[.int .i64 0,.int .i64 0,.int .i64 0,.int .i64 0],.bool false]) (by simp only[results,Tryz.results36];simp[go_sem,q0,q1,q2,q3]) rfl ?_;exact⟨rfl,hBf.out⟩
 |true=>
 obtain rfl:D2=n2:=by rw[hD2.out];rfl
 by_cases h10:X10=32
 case neg=>
  have h10b:(X10 == 32)=false:=by simpa using h10
  obtain rfl:OK=false:=by rw[hok.out];rw[h10b];simp
  go_wp2
  generalize hWf:World.setCell _ _ _=Wf;replace hWf:=hWf.symm;obtain⟨hb,hg⟩:=bf hT2.out hWf;obtain⟨q0,q1,q2,q3,-⟩:=hb.b4;have hBf:=hi_ (b12.out.grown hg b12.out.size (fun q hq=>by injection hq with hq;omega));clear hb hg hWf y0 y1 y2 y3 u0 u1 u2 u3;refine bodyPost_ret (v:=.tuple #[.agg #[.int .i64 0,.int .i64 0,.int .i64 0,.int .i64 0],.bool false]) (by simp only[results,Tryz.results36];simp[go_sem,q0,q1,q2,q3]) rfl ?_;exact⟨rfl,hBf.out⟩
 subst h10;by_cases h16:X16=32
 case neg=>
  have h16b:(X16 == 32)=false:=by simpa using h16
  obtain rfl:OK=false:=by rw[hok.out];rw[h16b];simp
  go_wp2
  generalize hWf:World.setCell _ _ _=Wf;replace hWf:=hWf.symm;obtain⟨hb,hg⟩:=bf hT2.out hWf;obtain⟨q0,q1,q2,q3,-⟩:=hb.b4;have hBf:=hi_ (b12.out.grown hg b12.out.size (fun q hq=>by injection hq with hq;omega));clear hb hg hWf y0 y1 y2 y3 u0 u1 u2 u3;refine bodyPost_ret (v:=.tuple #[.agg #[.int .i64 0,.int .i64 0,.int .i64 0,.int .i64 0],.bool false]) (by simp only[results,Tryz.results36];simp[go_sem,q0,q1,q2,q3]) rfl ?_;exact⟨rfl,hBf.out⟩
 subst h16;by_cases h17:X17=110
 case pos=>
  subst h17;cases t1 with
  |true=>
   obtain rfl:OK=true:=by rw[hok.out];rfl
   obtain rfl:KD=1:=by rw[hkd2.out];rfl
   go_upto_region 6 with fail
   obtain⟨W3,hW3,b3,hU⟩:=ak W2 70 #[.int .i64 0,.int .i64 0,.int .i64 D1,.int .i64 D2];rw[←hW3];have hT3:=hT2.out.below b3 hT2.out.lt;have r17:=(b3.cell (ac r17)).trans r17;clear y0 y1 y2 y3 u0 u1 u2 u3;obtain⟨y0,y1,y2,y3,u0,u1,u2,u3⟩:=hT3.b4;have b13:=ah b12.out b3;have zne:W2.heap.size≠W.heap.size:=by have:=hT2.out.lt;omega
   have x1:=hU.frozen 1;have x0:=hU.cell 1;refine h6_ b13 b3 hW3 zne hU hT3 ?_;clear b13 b3 hW3 zne hU hT3;intro b13 b3 hW3 zne hU hT3;go_upto_region 8 with fail
   obtain⟨W4,hW4⟩:∃W4,W4=W3.setCell ⟨W2.heap.size,1,none⟩ (.int .i64 1):=⟨_,rfl⟩;rw[←hW4];have hg4:W3.grownBy W4 (some W2.heap.size):=by rw[hW4];exact aO _ _ _ _
   have hU4:Blk W4 W2.heap.size 70 #[.int .i64 0,.int .i64 1,.int .i64 D1,.int .i64 D2]:=by rw[hW4];exact hU.out.set_ 1 _
   have hT4:Blk W4 W.heap.size 70 #[.int .i64 0,.int .i64 0,.int .i64 0,.int .i64 0]:=(hg4.block _ hT3.out.lt (by intro e;injection e with e;have:=zne.out;omega)).trans hT3.out;have b14:Below W.heap.size W W4:=b13.out.grown hg4 b13.out.size (fun q hq=>by injection hq with hq;have:=b12.out.size;omega);clear y0 y1 y2 y3 u0 u1 u2 u3 r17 x0 x1;obtain⟨y0,y1,y2,y3,u0,u1,u2,u3⟩:=hT4.b4;obtain⟨j0,j1,j2,j3,-⟩:=hU4.b4;refine h4_ hW4 hT4 b14 hU4 ?_;clear hW4 hT4 b14 hU4;intro hW4 hT4 b14 hU4;go_wp2
   generalize hWf:World.setCell _ _ _=Wf;replace hWf:=hWf.symm;obtain⟨hb,hg⟩:=bf hT4.out hWf;obtain⟨q0,q1,q2,q3,-⟩:=hb.b4;have hBf:=hi_ (b14.out.grown hg b14.out.size (fun q hq=>by injection hq with hq;omega));clear hb hg hWf y0 y1 y2 y3 u0 u1 u2 u3 j0 j1 j2 j3;refine bodyPost_ret (v:=.tuple #[.agg #[.int .i64 0,.int .i64 1,.int .i64 D1,.int .i64 D2],.bool true]) (by simp only[results,Tryz.results36];simp[go_sem,q0,q1,q2,q3]) rfl ?_;exact⟨rfl,hBf.out⟩
  |false=>
  cases t2 with
  |true=>
   obtain rfl:OK=true:=by rw[hok.out];rfl
   obtain rfl:KD=1:=by rw[hkd2.out];rfl
   go_upto_region 6 with fail
   obtain⟨W3,hW3,b3,hU⟩:=ak W2 70 #[.int .i64 0,.int .i64 0,.int .i64 D1,.int .i64 D2];rw[←hW3];have hT3:=hT2.out.below b3 hT2.out.lt;have r17:=(b3.cell (ac r17)).trans r17;clear y0 y1 y2 y3 u0 u1 u2 u3;obtain⟨y0,y1,y2,y3,u0,u1,u2,u3⟩:=hT3.b4;have b13:=ah b12.out b3;have zne:W2.heap.size≠W.heap.size:=by have:=hT2.out.lt;omega
   have x1:=hU.frozen 1;have x0:=hU.cell 1;refine h6_ b13 b3 hW3 zne hU hT3 ?_;clear b13 b3 hW3 zne hU hT3;intro b13 b3 hW3 zne hU hT3;go_upto_region 8 with fail
   obtain⟨W4,hW4⟩:∃W4,W4=W3.setCell ⟨W2.heap.size,1,none⟩ (.int .i64 1):=⟨_,rfl⟩;rw[←hW4];have hg4:W3.grownBy W4 (some W2.heap.size):=by rw[hW4];exact aO _ _ _ _
   have hU4:Blk W4 W2.heap.size 70 #[.int .i64 0,.int .i64 1,.int .i64 D1,.int .i64 D2]:=by rw[hW4];exact hU.out.set_ 1 _
   have hT4:Blk W4 W.heap.size 70 #[.int .i64 0,.int .i64 0,.int .i64 0,.int .i64 0]:=(hg4.block _ hT3.out.lt (by intro e;injection e with e;have:=zne.out;omega)).trans hT3.out;have b14:Below W.heap.size W W4:=b13.out.grown hg4 b13.out.size (fun q hq=>by injection hq with hq;have:=b12.out.size;omega);clear y0 y1 y2 y3 u0 u1 u2 u3 r17 x0 x1;obtain⟨y0,y1,y2,y3,u0,u1,u2,u3⟩:=hT4.b4;obtain⟨j0,j1,j2,j3,-⟩:=hU4.b4;refine h4_ hW4 hT4 b14 hU4 ?_;clear hW4 hT4 b14 hU4;intro hW4 hT4 b14 hU4;go_wp2
   generalize hWf:World.setCell _ _ _=Wf;replace hWf:=hWf.symm;obtain⟨hb,hg⟩:=bf hT4.out hWf;obtain⟨q0,q1,q2,q3,-⟩:=hb.b4;have hBf:=hi_ (b14.out.grown hg b14.out.size (fun q hq=>by injection hq with hq;omega));clear hb hg hWf y0 y1 y2 y3 u0 u1 u2 u3 j0 j1 j2 j3;refine bodyPost_ret (v:=.tuple #[.agg #[.int .i64 0,.int .i64 1,.int .i64 D1,.int .i64 D2],.bool true]) (by simp only[results,Tryz.results36];simp[go_sem,q0,q1,q2,q3]) rfl ?_;exact⟨rfl,hBf.out⟩
  |false=>
  cases t3 with
  |true=>
   obtain rfl:OK=true:=by rw[hok.out];rfl
   obtain rfl:KD=1:=by rw[hkd2.out];rfl
   go_upto_region 6 with fail
   obtain⟨W3,hW3,b3,hU⟩:=ak W2 70 #[.int .i64 0,.int .i64 0,.int .i64 D1,.int .i64 D2];rw[←hW3];have hT3:=hT2.out.below b3 hT2.out.lt;have r17:=(b3.cell (ac r17)).trans r17;clear y0 y1 y2 y3 u0 u1 u2 u3;obtain⟨y0,y1,y2,y3,u0,u1,u2,u3⟩:=hT3.b4;have b13:=ah b12.out b3;have zne:W2.heap.size≠W.heap.size:=by have:=hT2.out.lt;omega
   have x1:=hU.frozen 1;have x0:=hU.cell 1;refine h6_ b13 b3 hW3 zne hU hT3 ?_;clear b13 b3 hW3 zne hU hT3;intro b13 b3 hW3 zne hU hT3;go_upto_region 8 with fail
   obtain⟨W4,hW4⟩:∃W4,W4=W3.setCell ⟨W2.heap.size,1,none⟩ (.int .i64 1):=⟨_,rfl⟩;rw[←hW4];have hg4:W3.grownBy W4 (some W2.heap.size):=by rw[hW4];exact aO _ _ _ _
   have hU4:Blk W4 W2.heap.size 70 #[.int .i64 0,.int .i64 1,.int .i64 D1,.int .i64 D2]:=by rw[hW4];exact hU.out.set_ 1 _
   have hT4:Blk W4 W.heap.size 70 #[.int .i64 0,.int .i64 0,.int .i64 0,.int .i64 0]:=(hg4.block _ hT3.out.lt (by intro e;injection e with e;have:=zne.out;omega)).trans hT3.out;have b14:Below W.heap.size W W4:=b13.out.grown hg4 b13.out.size (fun q hq=>by injection hq with hq;have:=b12.out.size;omega);clear y0 y1 y2 y3 u0 u1 u2 u3 r17 x0 x1;obtain⟨y0,y1,y2,y3,u0,u1,u2,u3⟩:=hT4.b4;obtain⟨j0,j1,j2,j3,-⟩:=hU4.b4;refine h4_ hW4 hT4 b14 hU4 ?_;clear hW4 hT4 b14 hU4;intro hW4 hT4 b14 hU4;go_wp2
   generalize hWf:World.setCell _ _ _=Wf;replace hWf:=hWf.symm;obtain⟨hb,hg⟩:=bf hT4.out hWf;obtain⟨q0,q1,q2,q3,-⟩:=hb.b4;have hBf:=hi_ (b14.out.grown hg b14.out.size (fun q hq=>by injection hq with hq;omega));clear hb hg hWf y0 y1 y2 y3 u0 u1 u2 u3 j0 j1 j2 j3;refine bodyPost_ret (v:=.tuple #[.agg #[.int .i64 0,.int .i64 1,.int .i64 D1,.int .i64 D2],.bool true]) (by simp only[results,Tryz.results36];simp[go_sem,q0,q1,q2,q3]) rfl ?_;exact⟨rfl,hBf.out⟩
  |false=>
   obtain rfl:OK=false:=by rw[hok.out];rfl
   go_wp2
   generalize hWf:World.setCell _ _ _=Wf;replace hWf:=hWf.symm;obtain⟨hb,hg⟩:=bf hT2.out hWf;obtain⟨q0,q1,q2,q3,-⟩:=hb.b4;have hBf:=hi_ (b12.out.grown hg b12.out.size (fun q hq=>by injection hq with hq;omega));clear hb hg hWf y0 y1 y2 y3 u0 u1 u2 u3;refine bodyPost_ret (v:=.tuple #[.agg #[.int .i64 0,.int .i64 0,.int .i64 0,.int .i64 0],.bool false]) (by simp only[results,Tryz.results36];simp[go_sem,q0,q1,q2,q3]) rfl ?_;exact⟨rfl,hBf.out⟩
 by_cases h172:X17=102
 case pos=>
  subst h172;cases t1 with
  |true=>
   obtain rfl:OK=true:=by rw[hok.out];rfl
   obtain rfl:KD=0:=by rw[hkd2.out];rfl
   go_upto_region 6 with fail
   obtain⟨W3,hW3,b3,hU⟩:=ak W2 70 #[.int .i64 0,.int .i64 0,.int .i64 D1,.int .i64 D2];rw[←hW3];have hT3:=hT2.out.below b3 hT2.out.lt;have r17:=(b3.cell (ac r17)).trans r17;clear y0 y1 y2 y3 u0 u1 u2 u3;obtain⟨y0,y1,y2,y3,u0,u1,u2,u3⟩:=hT3.b4;have b13:=ah b12.out b3;have zne:W2.heap.size≠W.heap.size:=by have:=hT2.out.lt;omega
   obtain⟨W4,hW4⟩:∃W4,W4=W3:=⟨_,rfl⟩;have hU4:=hU;have hT4:=hT3;have b14:=b13;refine h6_ b13 b3 hW3 zne hU hT3 ?_;clear b13 b3 hW3 zne hU hT3;intro b13 b3 hW3 zne hU hT3;go_upto_region 8 with fail
   rw[←hW4]at hU4 hT4 b14⊢;clear y0 y1 y2 y3 u0 u1 u2 u3 r17;obtain⟨y0,y1,y2,y3,u0,u1,u2,u3⟩:=hT4.b4;obtain⟨j0,j1,j2,j3,-⟩:=hU4.b4;refine h4_ hW4 hT4 b14 hU4 ?_;clear hW4 hT4 b14 hU4;intro hW4 hT4 b14 hU4;go_wp2
   generalize hWf:World.setCell _ _ _=Wf;replace hWf:=hWf.symm;obtain⟨hb,hg⟩:=bf hT4.out hWf;obtain⟨q0,q1,q2,q3,-⟩:=hb.b4;have hBf:=hi_ (b14.out.grown hg b14.out.size (fun q hq=>by injection hq with hq;omega));clear hb hg hWf y0 y1 y2 y3 u0 u1 u2 u3 j0 j1 j2 j3;refine bodyPost_ret (v:=.tuple #[.agg #[.int .i64 0,.int .i64 0,.int .i64 D1,.int .i64 D2],.bool true]) (by simp only[results,Tryz.results36];simp[go_sem,q0,q1,q2,q3]) rfl ?_;exact⟨rfl,hBf.out⟩
  |false=>
  cases t2 with
  |true=>
   obtain rfl:OK=true:=by rw[hok.out];rfl
   obtain rfl:KD=0:=by rw[hkd2.out];rfl
   go_upto_region 6 with fail
   obtain⟨W3,hW3,b3,hU⟩:=ak W2 70 #[.int .i64 0,.int .i64 0,.int .i64 D1,.int .i64 D2];rw[←hW3];have hT3:=hT2.out.below b3 hT2.out.lt;have r17:=(b3.cell (ac r17)).trans r17;clear y0 y1 y2 y3 u0 u1 u2 u3;obtain⟨y0,y1,y2,y3,u0,u1,u2,u3⟩:=hT3.b4;have b13:=ah b12.out b3;have zne:W2.heap.size≠W.heap.size:=by have:=hT2.out.lt;omega
   obtain⟨W4,hW4⟩:∃W4,W4=W3:=⟨_,rfl⟩;have hU4:=hU;have hT4:=hT3;have b14:=b13;refine h6_ b13 b3 hW3 zne hU hT3 ?_;clear b13 b3 hW3 zne hU hT3;intro b13 b3 hW3 zne hU hT3;go_upto_region 8 with fail
   rw[←hW4]at hU4 hT4 b14⊢;clear y0 y1 y2 y3 u0 u1 u2 u3 r17;obtain⟨y0,y1,y2,y3,u0,u1,u2,u3⟩:=hT4.b4;obtain⟨j0,j1,j2,j3,-⟩:=hU4.b4;refine h4_ hW4 hT4 b14 hU4 ?_;clear hW4 hT4 b14 hU4;intro hW4 hT4 b14 hU4;go_wp2
   generalize hWf:World.setCell _ _ _=Wf;replace hWf:=hWf.symm;obtain⟨hb,hg⟩:=bf hT4.out hWf;obtain⟨q0,q1,q2,q3,-⟩:=hb.b4;have hBf:=hi_ (b14.out.grown hg b14.out.size (fun q hq=>by injection hq with hq;omega));clear hb hg hWf y0 y1 y2 y3 u0 u1 u2 u3 j0 j1 j2 j3;refine bodyPost_ret (v:=.tuple #[.agg #[.int .i64 0,.int .i64 0,.int .i64 D1,.int .i64 D2],.bool true]) (by simp only[results,Tryz.results36];simp[go_sem,q0,q1,q2,q3]) rfl ?_;exact⟨rfl,hBf.out⟩
  |false=>
  cases t3 with
  |true=>
   obtain rfl:OK=true:=by rw[hok.out];rfl
   obtain rfl:KD=0:=by rw[hkd2.out];rfl
   go_upto_region 6 with fail
   obtain⟨W3,hW3,b3,hU⟩:=ak W2 70 #[.int .i64 0,.int .i64 0,.int .i64 D1,.int .i64 D2];rw[←hW3];have hT3:=hT2.out.below b3 hT2.out.lt;have r17:=(b3.cell (ac r17)).trans r17;clear y0 y1 y2 y3 u0 u1 u2 u3;obtain⟨y0,y1,y2,y3,u0,u1,u2,u3⟩:=hT3.b4;have b13:=ah b12.out b3;have zne:W2.heap.size≠W.heap.size:=by have:=hT2.out.lt;omega
   obtain⟨W4,hW4⟩:∃W4,W4=W3:=⟨_,rfl⟩;have hU4:=hU;have hT4:=hT3;have b14:=b13;refine h6_ b13 b3 hW3 zne hU hT3 ?_;clear b13 b3 hW3 zne hU hT3;intro b13 b3 hW3 zne hU hT3;go_upto_region 8 with fail
   rw[←hW4]at hU4 hT4 b14⊢;clear y0 y1 y2 y3 u0 u1 u2 u3 r17;obtain⟨y0,y1,y2,y3,u0,u1,u2,u3⟩:=hT4.b4;obtain⟨j0,j1,j2,j3,-⟩:=hU4.b4;refine h4_ hW4 hT4 b14 hU4 ?_;clear hW4 hT4 b14 hU4;intro hW4 hT4 b14 hU4;go_wp2
   generalize hWf:World.setCell _ _ _=Wf;replace hWf:=hWf.symm;obtain⟨hb,hg⟩:=bf hT4.out hWf;obtain⟨q0,q1,q2,q3,-⟩:=hb.b4;have hBf:=hi_ (b14.out.grown hg b14.out.size (fun q hq=>by injection hq with hq;omega));clear hb hg hWf y0 y1 y2 y3 u0 u1 u2 u3 j0 j1 j2 j3;refine bodyPost_ret (v:=.tuple #[.agg #[.int .i64 0,.int .i64 0,.int .i64 D1,.int .i64 D2],.bool true]) (by simp only[results,Tryz.results36];simp[go_sem,q0,q1,q2,q3]) rfl ?_;exact⟨rfl,hBf.out⟩
  |false=>
   obtain rfl:OK=false:=by rw[hok.out];rfl
   go_wp2
   generalize hWf:World.setCell _ _ _=Wf;replace hWf:=hWf.symm;obtain⟨hb,hg⟩:=bf hT2.out hWf;obtain⟨q0,q1,q2,q3,-⟩:=hb.b4;have hBf:=hi_ (b12.out.grown hg b12.out.size (fun q hq=>by injection hq with hq;omega));clear hb hg hWf y0 y1 y2 y3 u0 u1 u2 u3;refine bodyPost_ret (v:=.tuple #[.agg #[.int .i64 0,.int .i64 0,.int .i64 0,.int .i64 0],.bool false]) (by simp only[results,Tryz.results36];simp[go_sem,q0,q1,q2,q3]) rfl ?_;exact⟨rfl,hBf.out⟩
 have h17b:(X17 == 110)=false:=by simpa using h17
 have h172b:(X17 == 102)=false:=by simpa using h172
 obtain rfl:OK=false:=by rw[hok.out];rw[h17b,h172b];simp
 go_wp2
 generalize hWf:World.setCell _ _ _=Wf;replace hWf:=hWf.symm;obtain⟨hb,hg⟩:=bf hT2.out hWf;obtain⟨q0,q1,q2,q3,-⟩:=hb.b4;have hBf:=hi_ (b12.out.grown hg b12.out.size (fun q hq=>by injection hq with hq;omega));clear hb hg hWf y0 y1 y2 y3 u0 u1 u2 u3;refine bodyPost_ret (v:=.tuple #[.agg #[.int .i64 0,.int .i64 0,.int .i64 0,.int .i64 0],.bool false]) (by simp only[results,Tryz.results36];simp[go_sem,q0,q1,q2,q3]) rfl ?_;exact⟨rfl,hBf.out⟩
section
variable {L:Nat}{A:Option Addr}{c:Nat}{bs:Bs}{D P:Value}{w w':World}{r r':Bs}
theorem aH {x:UInt8}{t:Bs}(X:Int) (hX:X=(x.toNat:Int)) (W:World) (h:LX L A c bs D P W (x :: t)):Calls Tryz.prog 68 #[.pointer (some ⟨L,0,none⟩),.int .i64 0] W fun e w'=>e=.returned (.int .i64 X)∧Below W.heap.size W w':=by
 have:=fw h 0 (by omega);rw[hX];exact this
theorem dr (W:World) (h:LX L A c bs D P W []):Calls Tryz.prog 68 #[.pointer (some ⟨L,0,none⟩),.int .i64 0] W fun e w'=>e=.returned (.int .i64 (-1))∧Below W.heap.size W w':=fw h 0 (by omega)
theorem LX.next {x:UInt8}{t:Bs}(h:LX L A c bs D P w (x :: t)) {q:Int}(hq:q=(pos bs (x :: t):Int)):LX L A c bs D P (w.setCell ⟨L,1,none⟩ (.int .i64 (q+1))) t:=by
 have h1:=h.go (gW h.suf);have e:=(bU h.suf).1;rw[hq];rw[e]at h1;exact h1
theorem LX.pos_i {r:Bs}(h:LX L A c bs D P w r):∃q:Int,q=(pos bs r:Int)∧0≤q∧q≤1000000000:=⟨_,rfl,by omega,by have:=aE bs r;have:=h.small;omega⟩
theorem gT (h:LX L A c bs D P w r):Calls Tryz.prog 37 #[.pointer (some ⟨L,0,none⟩)] w fun e w'=>e=.returned (.tuple #[])∧LX L A c bs D P w' (af false r)∧Save L w w':=by
 obtain⟨R,hR⟩:∃R,R=af false r:=⟨_,rfl⟩;rw[←hR];replace hR:=hi_ hR;replace h:=hi_ h;go_enter Tryz.func37,Tryz.ntmps37;go_wp2
 go_loopw [2] (fun _ wr=>∃r1,LX L A c bs D P wr r1∧af false r1=R∧Save L w wr) (fun _ wr=>bs.length+1 - posOf L wr)
 case atStart=>exact⟨r,h.out,hR.out.symm,Save.refl _ _⟩
 case round=>
  obtain⟨r1,hL,hE,hS⟩:=hrel;have hms:=hL.posOf;clear h hR;cases r1 with
  |nil=>
   obtain rfl:R=[]:=hE.symm;have cp:=fun W h=>dr (L:=L) (A:=A) (c:=c) (bs:=bs) (D:=D) (P:=P) W h
   replace cp:=hi_ cp;have q1:=hL.blk.cell 1;have v1:=hL.blk.frozen 1;replace hL:=hi_ hL;replace hS:=hi_ hS;clear hms hE;go_wp2_with (go_at_call 68;(with_reducible refine (cp.out _ hL.out).mono ?_);rintro e w1 ⟨rfl,hB⟩;replace hL:=hi_ (hL.out.below hB);replace hS:=hi_ (hS.out.then_ hB);replace q1:=hL.out.blk.cell 1;replace v1:=hL.out.blk.frozen 1;clear hB)
   exact bodyPost_ret (by simp[results,Tryz.results37,go_sem];try rfl) rfl ⟨rfl,hL.out,hS.out⟩
  |cons x t=>
   obtain⟨X,hX⟩:=aT (x.toNat:Int);have hX0:0≤X∧X≤255:=by rw[hX.out];have:=x.toNat_lt;omega
   have cp:=fun W h=>aH (L:=L) (A:=A) (c:=c) (bs:=bs) (D:=D) (P:=P) (x:=x) (t:=t) X hX.out W h
   have hpc:=bU hL.suf;obtain⟨q,hq,hq0,hq1⟩:=hL.pos_i;have q1:=hL.blk.cell 1;have v1:=hL.blk.frozen 1;rw[←hq]at q1;have cw:=fun W=>ft (w:=W) X
   have hw:gh X=aY x:=by rw[hX.out];exact eC x
   rw[hw]at cw;refine h9_ hw hq cp cw hpc hL hS hE hms ?_;clear hw hq cp cw hpc hL hS hE hms;intro hw hq cp cw hpc hL hS hE hms;cases hwx:aY x with
   |true=>
    rw[hwx]at cw;go_wp2_with (first
     |(go_at_call 68;(with_reducible refine (cp.out _ hL.out).mono ?_);rintro e w1 ⟨rfl,hB⟩;replace hL:=hi_ (hL.out.below hB);replace hS:=hi_ (hS.out.then_ hB);replace q1:=hL.out.blk.cell 1;rw[←hq.out]at q1;replace v1:=hL.out.blk.frozen 1;clear hB)
     |(go_at_call 34;(with_reducible refine (cw.out _).mono ?_);rintro e w2 ⟨rfl,rfl⟩))
    have hL2:=hL.out.next hq.out;have e1:=hL2.posOf;have e2:=hms.out;have e3:=hpc.out;have e4:=hE.out;rw[af,hwx,if_pos rfl]at e4;exact⟨⟨t,hL2,e4,hS.out.store 1 _⟩,by rw[e1,e2];omega⟩
   |false=>
    rw[hwx]at cw;have h37:(X == 37)=(x == 37):=by rw[hX.out,aq x 37];rfl
    cases hx37:(x == 37) with
    |false=>
     rw[hx37]at h37;have e4:=hE.out;rw[af,hwx,if_neg (by decide),hx37,if_neg (by decide)]at e4;subst e4;clear hE;go_wp2_with (first
      |(go_at_call 68;(with_reducible refine (cp.out _ hL.out).mono ?_);rintro e w1 ⟨rfl,hB⟩;replace hL:=hi_ (hL.out.below hB);replace hS:=hi_ (hS.out.then_ hB);replace q1:=hL.out.blk.cell 1;rw[←hq.out]at q1;replace v1:=hL.out.blk.frozen 1;clear hB)
      |(go_at_call 34;(with_reducible refine (cw.out _).mono ?_);rintro e w2 ⟨rfl,rfl⟩))
     exact bodyPost_ret (by simp[results,Tryz.results37,go_sem];try rfl) rfl ⟨rfl,hL.out,hS.out⟩
    |true=>
     rw[hx37]at h37;have e4:=hE.out;rw[af,hwx,if_neg (by decide),hx37,if_pos rfl]at e4;have e5:af true (x :: t)=R:=by
      have hx:x=37:=by simpa using hx37
      rw[hx,af,if_neg (by decide)];exact e4
     replace e5:=hi_ e5;clear hE e4;obtain rfl:X=37:=by simpa using h37
     clear h37;go_wp2_with (first
      |(go_at_call 68;(with_reducible refine (cp.out _ hL.out).mono ?_);rintro e w1 ⟨rfl,hB⟩;replace hL:=hi_ (hL.out.below hB);replace hS:=hi_ (hS.out.then_ hB);replace q1:=hL.out.blk.cell 1;rw[←hq.out]at q1;replace v1:=hL.out.blk.frozen 1;clear hB)
      |(go_at_call 34;(with_reducible refine (cw.out _).mono ?_);rintro e w2 ⟨rfl,rfl⟩))
     obtain⟨wj,rfl⟩:∃wo:World,wo=wr:=⟨_,rfl⟩;go_loopw [34] (fun _ wr=>∃r2,LX L A c bs D P wr r2∧af true r2=R∧Save L w wr∧(r2=x :: t∨r2.length≤t.length)) (fun _ wr=>bs.length+1 - posOf L wr)
     case atStart=>exact⟨x :: t,hL.out,e5.out,hS.out,.inl rfl⟩
     case round=>
      obtain⟨r2,hL2,hE2,hS2,hor⟩:=hrel;have hlast:r2.length≤t.length→posOf L wj<posOf L wr:=fun h=>by
       have e1:=hL2.posOf;have e2:=hms.out;have e3:=aB hL.out.suf;have e4:=aB hL2.suf;rw[e1,e2];unfold pos;simp only[List.length_cons]at e3⊢;omega
      have hmx:posOf L wr≤bs.length:=by rw[hL2.posOf];exact aE _ _
      have hm2:=hL2.posOf;replace hlast:=hi_ hlast;replace hmx:=hi_ hmx;clear e5 q1 v1 hL hS;cases r2 with
      |nil=>
       have hlast:=hlast.out (Nat.zero_le _);obtain rfl:R=[]:=hE2.symm;have cp2:=fun W h=>dr (L:=L) (A:=A) (c:=c) (bs:=bs) (D:=D) (P:=P) W h
       replace cp2:=hi_ cp2;have q1:=hL2.blk.cell 1;have v1:=hL2.blk.frozen 1;obtain⟨hL,hS⟩:Hid (LX L A c bs D P wr [])∧Hid (Save L w wr):=⟨Lib.hid hL2,Lib.hid hS2⟩;replace hm2:=hi_ hm2;replace hlast:=hi_ hlast;clear hL2 hS2 hE2 hor;go_wp2_with (go_at_call 68;(with_reducible refine (cp2.out _ hL.out).mono ?_);rintro e w1 ⟨rfl,hB⟩;replace hL:=hi_ (hL.out.below hB);replace hS:=hi_ (hS.out.then_ hB);replace q1:=hL.out.blk.cell 1;replace v1:=hL.out.blk.frozen 1;clear hB)
       have e1:=hL.out.posOf;have e2:=hm2.out;have e3:=hlast.out;have e4:=hmx.out;exact⟨⟨[],hL.out,rfl,hS.out⟩,by omega⟩
      |cons y t2=>
       obtain⟨Y,hY⟩:=aT (y.toNat:Int);have hY0:0≤Y∧Y≤255:=by rw[hY.out];have:=y.toNat_lt;omega
       have cp2:=fun W h=>aH (L:=L) (A:=A) (c:=c) (bs:=bs) (D:=D) (P:=P) (x:=y) (t:=t2) Y hY.out W h
       have hpc2:=bU hL2.suf;obtain⟨p,hp,hp0,hp1⟩:=hL2.pos_i;have q1:=hL2.blk.cell 1;have v1:=hL2.blk.frozen 1;rw[←hp]at q1;have h10:(Y !=10)=!(y == 10):=by rw[hY.out,aq y 10];rfl
       have h13:(Y !=13)=!(y == 13):=by rw[hY.out,aq y 13];rfl
       obtain⟨hL,hS⟩:Hid (LX L A c bs D P wr (y :: t2))∧Hid (Save L w wr):=⟨Lib.hid hL2,Lib.hid hS2⟩;have hne:(y == 10 || y == 13)=true→(y :: t2).length≤t.length:=fun h=>by
        rcases hor with e|e
        ·injection e with e _
         rw[e]at h;have:x=37:=by simpa using hx37
         rw[this]at h;exact absurd h (by decide)
        ·exact e
       have hle2:t2.length≤t.length:=by
        rcases hor with e|e
        ·injection e with _ e;rw[e];exact Nat.le_refl _
        ·simp only[List.length_cons]at e;omega
       refine h7_ hle2 hm2 cp2 hpc2 hp hne hE2 ?_;clear hle2 hm2 cp2 hpc2 hp hne hE2;intro hle2 hm2 cp2 hpc2 hp hne hE2;clear hL2 hS2 hor;cases hy10:(y == 10) with
       |true=>
        simp only[hy10,Bool.not_true,Bool.not_false]at h10;go_wp2_with (go_at_call 68;(with_reducible refine (cp2.out _ hL.out).mono ?_);rintro e w1 ⟨rfl,hB⟩;replace hL:=hi_ (hL.out.below hB);replace hS:=hi_ (hS.out.then_ hB);replace q1:=hL.out.blk.cell 1;rw[←hp.out]at q1;replace v1:=hL.out.blk.frozen 1;clear hB)
        have e1:=hL.out.posOf;have e2:=hm2.out;have e3:=hlast.out (hne.out (by rw[hy10];rfl));have e4:=hmx.out;have e5:=hE2.out;have hwy:aY y=true:=by
         have:y=10:=by simpa using hy10
         rw[this];decide
        rw[af,hy10,Bool.true_or,if_pos rfl]at e5;exact⟨⟨y :: t2,hL.out,by rw[af,hwy,if_pos rfl];exact e5,hS.out⟩,by omega⟩
       |false=>
        simp only[hy10,Bool.not_true,Bool.not_false]at h10;cases hy13:(y == 13) with
        |true=>
         simp only[hy13,Bool.not_true,Bool.not_false]at h13;go_wp2_with (go_at_call 68;(with_reducible refine (cp2.out _ hL.out).mono ?_);rintro e w1 ⟨rfl,hB⟩;replace hL:=hi_ (hL.out.below hB);replace hS:=hi_ (hS.out.then_ hB);replace q1:=hL.out.blk.cell 1;rw[←hp.out]at q1;replace v1:=hL.out.blk.frozen 1;clear hB)
         have e1:=hL.out.posOf;have e2:=hm2.out;have e3:=hlast.out (hne.out (by rw[hy13];simp));have e4:=hmx.out;have e5:=hE2.out;have hwy:aY y=true:=by
          have:y=13:=by simpa using hy13
          rw[this];decide
         rw[af,hy13,Bool.or_true,if_pos rfl]at e5;exact⟨⟨y :: t2,hL.out,by rw[af,hwy,if_pos rfl];exact e5,hS.out⟩,by omega⟩
        |false=>
         simp only[hy13,Bool.not_true,Bool.not_false]at h13;go_wp2_with (go_at_call 68;(with_reducible refine (cp2.out _ hL.out).mono ?_);rintro e w1 ⟨rfl,hB⟩;replace hL:=hi_ (hL.out.below hB);replace hS:=hi_ (hS.out.then_ hB);replace q1:=hL.out.blk.cell 1;rw[←hp.out]at q1;replace v1:=hL.out.blk.frozen 1;clear hB)
         have hL3:=hL.out.next hp.out;have e1:=hL3.posOf;have e2:=hm2.out;have e3:=hpc2.out;have e5:=hE2.out;have e6:=hle2.out;rw[af,hy10,hy13,Bool.or_false,if_neg (by decide)]at e5;exact⟨⟨t2,hL3,e5,hS.out.store 1 _,.inr e6⟩,by rw[e1,e2];omega⟩
end
section
variable {L:Nat}{A:Option Addr}{c:Nat}{bs:Bs}{D P:Value}{w w':World}{r r':Bs}
def sa (L:Nat) (A:Option Addr) (c:Nat) (bs:Bs) (D P:Value) (w:World) (res:Res Bs) (e:Ending) (w':World):Prop:=match res with
 | .ok b u=>∃v,e=.returned (.tuple #[v,.int .i64 0])∧Own w.heap.size w' v b∧LX L A c bs D P w' u∧Save L w w'
 | .err k _=>e=.returned (.tuple #[.slice none 0 0,.int .i64 k])∧(∃q:Int,Blk w' L 55 #[.slice A bs.length c,.int .i64 q,D,P])∧Save L w w'
theorem LX.at_ {r:Bs}(h:LX L A c bs D P w r):∃q:Int,Blk w L 55 #[.slice A bs.length c,.int .i64 q,D,P]:=⟨_,h.blk⟩
theorem _root_.Go.Proofs.YthffpbkndnhlfaaGreatDoor.Own.save_ {B:Nat}{a b:World}{v:Value}{out:List UInt8}(ho:Own B a v out) (h:Save L a b) (hB:L<B):Own B b v out:=h.own hB ho
theorem lm (W:World) (h:LX L A c bs D P W r):Calls Tryz.prog 68 #[.pointer (some ⟨L,0,none⟩),.int .i64 0] W fun e w'=>e=.returned (.int .i64 (pk r 0))∧Below W.heap.size W w':=fw h 0 (by omega)
theorem fO (W:World) (h:LX L A c bs D P W r):Calls Tryz.prog 68 #[.pointer (some ⟨L,0,none⟩),.int .i64 1] W fun e w'=>e=.returned (.int .i64 (pk r 1))∧Below W.heap.size W w':=fw h 1 (by omega)
theorem LX.next2 {t:Bs}(h:LX L A c bs D P w t) (h2:2≤t.length) {q:Int}(hq:q=(pos bs t:Int)):LX L A c bs D P (w.setCell ⟨L,1,none⟩ (.int .i64 (q+2))) (t.drop 2):=by
 have h1:=h.go (dc h.suf 2);have e:=dq h.suf 2 h2;rw[hq];rw[e]at h1;exact h1
theorem sC {t:Bs}(h:0≤bM (pk t 1)):2≤t.length:=by
 rcases Nat.lt_or_ge t.length 2 with h1|h1
 ·exfalso
  have e:pk t 1= -1:=by unfold pk;rw[List.getElem?_eq_none (by omega)]
  rw[e]at h;exact absurd h (by decide)
 ·exact h1
theorem fJ (x:Int): -1≤bM x∧bM x≤15:=by unfold bM;split;omega;split;omega;split <;> omega
theorem rh (h:LX L A c bs D P w r):Calls Tryz.prog 158 #[.pointer (some ⟨L,0,none⟩)] w (sa L A c bs D P w (aJ (r.length+1) [] r)):=by
 obtain⟨R,hR⟩:∃R,R=aJ (r.length+1) [] r:=⟨_,rfl⟩;rw[←hR];have hLw:=h.lt;have hAw:=h.a_lt;refine h3_ hAw hR h ?_;clear hAw hR h;intro hAw hR h;go_enter Tryz.func158,Tryz.ntmps158;go_wp2
 go_loopw [4] (fun s4 wr=>∃f out r1,Own w.heap.size wr s4 out∧LX L A c bs D P wr r1∧aJ f out r1=R∧r1.length<f∧out.length≤127∧Save L w wr) (fun _ wr=>bs.length+1 - posOf L wr)
 case atStart=>exact⟨_,_,r,Own.nil _ _,h.out,hR.out.symm,Nat.lt_succ_self _,by simp,Save.refl _ _⟩
 case round=>
  obtain⟨f,out,r1,hO,hL,hE,hf,h127,hS⟩:=hrel;have hms:=hL.posOf;obtain⟨f,rfl⟩:∃g,f=g+1:=⟨f - 1,by omega⟩;clear h hR;cases r1 with
  |nil=>
   have e4:R=.ok out []:=by rw[←hE,aJ]
   subst e4;have cp:=fun W h=>dr (L:=L) (A:=A) (c:=c) (bs:=bs) (D:=D) (P:=P) W h
   have cr:=fun W=>bV (w:=W) (-1) (by omega)
   rw[show rgI (-1)=false from rfl]at cr;replace cr:=hi_ cr;replace cp:=hi_ cp;have q1:=hL.blk.cell 1;have v1:=hL.blk.frozen 1;refine h3_ hL hS hO ?_;clear hL hS hO;intro hL hS hO;clear hms hE;go_wp2_with (first
    |(go_at_call 68;(with_reducible refine (cp.out _ hL.out).mono ?_);rintro e w1 ⟨rfl,hB⟩;replace hL:=hi_ (hL.out.below hB);replace hS:=hi_ (hS.out.then_ hB);replace q1:=hL.out.blk.cell 1;replace v1:=hL.out.blk.frozen 1;replace hO:=hi_ (hO.out.below hB);clear hB)
    |(go_at_call 67;(with_reducible refine (cr.out _).mono ?_);rintro e w2 ⟨rfl,rfl⟩))
   go_ret2
   exact⟨_,rfl,hO.out,hL.out,hS.out⟩
  |cons x t=>
   obtain⟨Ao,co,rfl,hby,hA⟩:=hO.out (by unfold maxLen;omega);obtain⟨m,hm⟩:∃m,m=out.length:=⟨_,rfl⟩;rw[←hm]at h127 hO⊢;clear hby hA;replace hm:=hi_ hm;replace h127:=hi_ h127;obtain⟨X,hX⟩:=aT (x.toNat:Int);have hX0:0≤X∧X≤255:=by rw[hX.out];have:=x.toNat_lt;omega
   have cp:=fun W h=>aH (L:=L) (A:=A) (c:=c) (bs:=bs) (D:=D) (P:=P) (x:=x) (t:=t) X hX.out W h
   have hpc:=bU hL.suf;obtain⟨q,hq,hq0,hq1⟩:=hL.pos_i;have q1:=hL.blk.cell 1;have v1:=hL.blk.frozen 1;rw[←hq]at q1;have cr:=fun W=>bV (w:=W) X (by omega)
   have hw:rgI X=bu x:=by rw[hX.out];exact jh x
   rw[hw]at cr;have h35:(X == 35)=(x == 35):=by rw[hX.out,aq x 35];rfl
   have hts:=gW hL.suf;simp only[List.length_cons]at hf;refine h9_ hw hq cp cr hpc hL hS hE hms ?_;clear hw hq cp cr hpc hL hS hE hms;intro hw hq cp cr hpc hL hS hE hms;refine h3_ hO hts hf ?_;clear hO hts hf;intro hO hts hf;cases hrx:bu x with
   |false=>
    rw[hrx]at cr;have e4:R=.ok out (x :: t):=by rw[←hE.out,aJ,if_pos hrx]
    subst e4;clear hE;go_wp2_with (first
     |(go_at_call 68;(with_reducible refine (cp.out _ hL.out).mono ?_);rintro e w1 ⟨rfl,hB⟩;replace hL:=hi_ (hL.out.below hB);replace hS:=hi_ (hS.out.then_ hB);replace q1:=hL.out.blk.cell 1;rw[←hq.out]at q1;replace v1:=hL.out.blk.frozen 1;replace hO:=hi_ (hO.out.below hB);clear hB)
     |(go_at_call 67;(with_reducible refine (cr.out _).mono ?_);rintro e w2 ⟨rfl,rfl⟩))
    go_ret2
    exact⟨_,rfl,hO.out,hL.out,hS.out⟩
   |true=>
    rw[hrx]at cr;cases hx35:(x == 35) with
    |false=>
     rw[hx35]at h35;have hn35:¬x=35:=by simpa using hx35
     by_cases h7:127≤m
     ·have e7:decide ((127:Int)≤(m:Int))=true:=by simp;omega
      have e4:R=.err 3 t:=by rw[←hE.out,aJ,if_neg (by rw[hrx];decide),if_neg hn35,if_pos (by have:=hm.out;omega)]
      subst e4;clear hE;replace h7:=hi_ h7;go_wp2_with (first
       |(go_at_call 68;(with_reducible refine (cp.out _ hL.out).mono ?_);rintro e w1 ⟨rfl,hB⟩;replace hL:=hi_ (hL.out.below hB);replace hS:=hi_ (hS.out.then_ hB);replace q1:=hL.out.blk.cell 1;rw[←hq.out]at q1;replace v1:=hL.out.blk.frozen 1;replace hO:=hi_ (hO.out.below hB);clear hB)
       |(go_at_call 67;(with_reducible refine (cr.out _).mono ?_);rintro e w2 ⟨rfl,rfl⟩))
      go_ret2
      exact⟨rfl,(hL.out.next hq.out).at_,hS.out.store 1 _⟩
     ·have e7:decide ((127:Int)≤(m:Int))=false:=by simp;omega
      have e4:aJ f (out++[x]) t=R:=by rw[←hE.out,aJ,if_neg (by rw[hrx];decide),if_neg hn35,if_neg (by have:=hm.out;omega)]
      replace h7:=hi_ h7;replace e4:=hi_ e4;go_upto_region 13 with (first
       |(go_at_call 68;(with_reducible refine (cp.out _ hL.out).mono ?_);rintro e w1 ⟨rfl,hB⟩;replace hL:=hi_ (hL.out.below hB);replace hS:=hi_ (hS.out.then_ hB);replace q1:=hL.out.blk.cell 1;rw[←hq.out]at q1;replace v1:=hL.out.blk.frozen 1;replace hO:=hi_ (hO.out.below hB);clear hB)
       |(go_at_call 67;(with_reducible refine (cr.out _).mono ?_);rintro e w2 ⟨rfl,rfl⟩))
      obtain⟨W2,hW2⟩:∃W,W=w1.setCell ⟨L,1,none⟩ (.int .i64 (q+1)):=⟨_,rfl⟩;rw[←hW2];have hL2:LX L A c bs D P W2 t:=by rw[hW2];exact hL.out.next hq.out
      have hS2:Save L w W2:=by rw[hW2];exact hS.out.store 1 _
      have hO2:Own w.heap.size W2 (.slice Ao m co) out:=by rw[hW2];exact hO.out.save_ ((Save.refl L w1).store 1 _) hLw
      obtain⟨Wa,hWa,hba⟩:=bH W2 5 #[.int .u8 X];have hb1:Byt Wa (some ⟨W2.heap.size,0,none⟩) [x]:=by rw[hWa,hX.out];exact bI W2 x 5
      have hO3:=hO2.below hba;have hL3:=hL2.below hba;have hS3:=hS2.then_ hba;have zs:=hS2.size;have za:=hba.size;refine h9_ hWa hW2 hba hb1 hL2 hS2 hO2 hL3 hS3 ?_;clear hWa hW2 hba hb1 hL2 hS2 hO2 hL3 hS3;intro hWa hW2 hba hb1 hL2 hS2 hO2 hL3 hS3;replace hO3:=hi_ hO3;have hw8:IntKind.u8.wrap X=X:=by unfold IntKind.wrap;simp[IntKind.signed,IntKind.bits];omega
      go_wp2_with (at_builtin;rw[←hWa.out];refine dU rfl _ _ rfl w.heap.size _ _ rfl hO3.out (some ⟨W2.heap.size,0,none⟩) 1 1 [x] rfl rfl hb1.out (fun e=>(by cases e)) (by have:=hm.out;have:=h127.out;simp only[List.length_cons,List.length_nil];omega) (by omega) ?_;intro v' w2 hO4 hB4;replace hO4:=hi_ hO4;replace hB4:=hi_ hB4)
      have hL4:=hL3.out.belowB hB4.out hLw hAw.out;have hS4:=hS3.out.thenB hB4.out;have e1:=hL4.posOf;have e2:=hms.out;have e3:=hf.out;have e5:=hm.out;have e6:=h7.out;refine⟨⟨f,_,_,hO4.out,hL4,e4.out,by omega,by simp only[List.length_append,List.length_cons,List.length_nil];omega,hS4⟩,?_⟩;rw[e1,e2];have e8:=hpc.out;omega
    |true=>
     rw[hx35]at h35;have hx:x=35:=by simpa using hx35
     subst hx;obtain rfl:X=35:=by simpa using h35
     clear h35;obtain⟨da,hda⟩:∃d,d=bM (pk t 0):=⟨_,rfl⟩;obtain⟨db,hdb⟩:∃d,d=bM (pk t 1):=⟨_,rfl⟩;obtain⟨pa,hpa⟩:∃d,d=pk t 0:=⟨_,rfl⟩;obtain⟨pb,hpb⟩:∃d,d=pk t 1:=⟨_,rfl⟩;have ra:=fJ (pk t 0);have rb:=fJ (pk t 1);have cpa:=fun W (h:LX L A c bs D P W t)=>lm W h
     have cpb:=fun W (h:LX L A c bs D P W t)=>fO W h
     have cda:=fun W=>fs (w:=W) (pk t 0) (dn t 0)
     have cdb:=fun W=>fs (w:=W) (pk t 1) (dn t 1)
     rw[←hda]at ra;rw[←hdb]at rb;rw[←hda,←hpa]at cda;rw[←hdb,←hpb]at cdb;rw[←hpa]at cpa;rw[←hpb]at cpb;refine h8_ cpa cpb cda cdb hda hdb hpa hpb ?_;clear cpa cpb cda cdb hda hdb hpa hpb;intro cpa cpb cda cdb hda hdb hpa hpb;go_upto_region 6 with (first
      |(go_at_call 68;(with_reducible refine (cp.out _ hL.out).mono ?_);rintro e w1 ⟨rfl,hB⟩;replace hL:=hi_ (hL.out.below hB);replace hS:=hi_ (hS.out.then_ hB);replace q1:=hL.out.blk.cell 1;rw[←hq.out]at q1;replace v1:=hL.out.blk.frozen 1;replace hO:=hi_ (hO.out.below hB);clear hB)
      |(go_at_call 67;(with_reducible refine (cr.out _).mono ?_);rintro e w2 ⟨rfl,rfl⟩))
     obtain⟨W2,hW2⟩:∃W,W=w1.setCell ⟨L,1,none⟩ (.int .i64 (q+1)):=⟨_,rfl⟩;rw[←hW2];have hL2:LX L A c bs D P W2 t:=by rw[hW2];exact hL.out.next hq.out
     have hS2:Save L w W2:=by rw[hW2];exact hS.out.store 1 _
     have hO2:Own w.heap.size W2 (.slice Ao m co) out:=by rw[hW2];exact hO.out.save_ ((Save.refl L w1).store 1 _) hLw
     clear hL hS hO q1 v1;obtain⟨hL,hS,hO⟩:Hid (LX L A c bs D P W2 t)∧Hid (Save L w W2)∧Hid (Own w.heap.size W2 (.slice Ao m co) out):=⟨Lib.hid hL2,Lib.hid hS2,Lib.hid hO2⟩;have hpt:=aE bs t;obtain⟨q2,hq2,hq20,hq21⟩:=hL2.pos_i;replace hq2:=hi_ hq2;replace hW2:=hi_ hW2;clear hL2 hS2 hO2;go_upto_region 7 with (first|((first|(go_at_call 68;(with_reducible refine (cpa.out _ hL.out).mono ?_))|(go_at_call 68;(with_reducible refine (cpb.out _ hL.out).mono ?_)));rintro e w1 ⟨rfl,hB⟩;replace hL:=hi_ (hL.out.below hB);replace hS:=hi_ (hS.out.then_ hB);replace q1:=hL.out.blk.cell 1;rw[←hq2.out]at q1;replace v1:=hL.out.blk.frozen 1;replace hO:=hi_ (hO.out.below hB);clear hB)|((first|(go_at_call 192;(with_reducible refine (cda.out _).mono ?_))|(go_at_call 192;(with_reducible refine (cdb.out _).mono ?_)));rintro e w2 ⟨rfl,rfl⟩))
     by_cases hbad:da<0∨db<0∨da+db=0
     ·have e4:R=.err 4 t:=by rw[←hE.out,aJ,if_neg (by rw[hrx];decide),if_pos rfl,←hda.out,←hdb.out,if_pos hbad]
      subst e4;clear hE;rcases Int.lt_or_le da 0 with h1|h1
      ·clear hbad
       go_wp2
       go_ret2
       exact⟨rfl,hL.out.at_,hS.out⟩
      ·rcases Int.lt_or_le db 0 with h2|h2
       ·clear hbad
        go_wp2
        go_ret2
        exact⟨rfl,hL.out.at_,hS.out⟩
       ·obtain rfl:da=0:=by omega
        obtain rfl:db=0:=by omega
        clear hbad;go_wp2
        go_ret2
        exact⟨rfl,hL.out.at_,hS.out⟩
     ·have h1:0≤da:=by omega
      have h2:0≤db:=by omega
      have h3:((da+db) == 0)=false:=by rw[beq_eq_false_iff_ne];omega
      have ht2:2≤t.length:=sC (by rw[←hdb.out];exact h2);obtain⟨z,hz⟩:∃z:UInt8,z=UInt8.ofNat (da*16+db).toNat:=⟨_,rfl⟩;have hX2:da*16+db=(z.toNat:Int):=by
       rw[hz,UInt8.toNat_ofNat_of_lt' (show (da*16+db).toNat<256 by omega)];omega
      have eE:=hE.out;rw[aJ,if_neg (by rw[hrx];decide),if_pos rfl,←hda.out,←hdb.out,if_neg hbad,←hz]at eE;have hps:=dq hL.out.suf 2 ht2;have hdl:(t.drop 2).length+2=t.length:=by rw[List.length_drop];omega
      refine h4_ hdl ht2 hz hps ?_;clear hdl ht2 hz hps;intro hdl ht2 hz hps;clear hbad hE;by_cases h7:127≤m
      ·have e7:decide ((127:Int)≤(m:Int))=true:=by simp;omega
       have e4:R=.err 3 (t.drop 2):=by rw[←eE,if_pos (by have:=hm.out;omega)]
       subst e4;clear eE;replace h7:=hi_ h7;replace hX2:=hi_ hX2;go_wp2
       go_ret2
       exact⟨rfl,(hL.out.next2 ht2.out hq2.out).at_,hS.out.store 1 _⟩
      ·have e7:decide ((127:Int)≤(m:Int))=false:=by simp;omega
       have e4:aJ f (out++[z]) (t.drop 2)=R:=by rw[←eE,if_neg (by have:=hm.out;omega)]
       refine h3_ h7 e4 hX2 ?_;clear h7 e4 hX2;intro h7 e4 hX2;clear eE;go_upto_region 13 with (fail)
       obtain⟨X2,hX3⟩:∃X:Int,X=da*16+db:=⟨_,rfl⟩;have hX4:X2=(z.toNat:Int):=by rw[hX3,hX2.out]
       have hX5:0≤X2∧X2≤255:=by have:=z.toNat_lt;omega
       rw[←hX3];replace hX3:=hi_ hX3;replace hX4:=hi_ hX4;obtain⟨W3,hW3⟩:∃W,W=w1.setCell ⟨L,1,none⟩ (.int .i64 (q2+2)):=⟨_,rfl⟩;rw[←hW3];have hL2:LX L A c bs D P W3 (t.drop 2):=by rw[hW3];exact hL.out.next2 ht2.out hq2.out
       have hS2:Save L w W3:=by rw[hW3];exact hS.out.store 1 _
       have hO2:Own w.heap.size W3 (.slice Ao m co) out:=by rw[hW3];exact hO.out.save_ ((Save.refl L w1).store 1 _) hLw
       obtain⟨Wa,hWa,hba⟩:=bH W3 5 #[.int .u8 X2];have hb1:Byt Wa (some ⟨W3.heap.size,0,none⟩) [z]:=by rw[hWa,hX4.out];exact bI W3 z 5
       have hO3:=hO2.below hba;have hL3:=hL2.below hba;have hS3:=hS2.then_ hba;have zs:=hS2.size;have za:=hba.size;refine h9_ hWa hW3 hba hb1 hL2 hS2 hO2 hL3 hS3 ?_;clear hWa hW3 hba hb1 hL2 hS2 hO2 hL3 hS3;intro hWa hW3 hba hb1 hL2 hS2 hO2 hL3 hS3;replace hO3:=hi_ hO3;have hw8:IntKind.u8.wrap X2=X2:=by unfold IntKind.wrap;simp[IntKind.signed,IntKind.bits];omega
       go_wp2_with (at_builtin;rw[←hWa.out];refine dU rfl _ _ rfl w.heap.size _ _ rfl hO3.out (some ⟨W3.heap.size,0,none⟩) 1 1 [z] rfl rfl hb1.out (fun e=>(by cases e)) (by have:=hm.out;have:=h127.out;simp only[List.length_cons,List.length_nil];omega) (by omega) ?_;intro v' w2 hO4 hB4;replace hO4:=hi_ hO4;replace hB4:=hi_ hB4)
       have hL4:=hL3.out.belowB hB4.out hLw hAw.out;have hS4:=hS3.out.thenB hB4.out;have e1:=hL4.posOf;have e2:=hms.out;have e3:=hf.out;have e5:=hm.out;have e6:=h7.out;refine⟨⟨f,_,_,hO4.out,hL4,e4.out,by (have:=hdl.out;omega),by simp only[List.length_append,List.length_cons,List.length_nil];omega,hS4⟩,?_⟩;rw[e1,e2];have e8:=hpc.out;have e9:=hps.out;omega
end
section
open Go Go.RowKit Go.Wk
theorem mn (A:Option Addr) (c:Nat) (bs:List UInt8) (w:World) (hb:Byt w A bs) (hl:bs.length≤1000000000):Calls Tryz.prog 115 #[.slice A bs.length c] w (RO w bs):=by
 obtain⟨m,hm⟩:∃m,m=bs.length:=⟨_,rfl⟩;rw[←hm]at hl⊢;replace hm:=hi_ hm;replace hb:=hi_ hb;go_enter Tryz.func115,Tryz.ntmps115;go_wp2
 go_loopw [3,4] (fun s3 s4 wr=>∃k:Nat,k≤m∧s4=.int .i64 k∧Own w.heap.size wr s3 (bs.take k)∧Below w.heap.size w wr) (fun _ s4 _=>m - (RowKit.intOf s4).toNat)
 case atStart=>exact⟨0,by omega,rfl,Own.nil _ _,Below.refl _ _⟩
 case round=>
  obtain⟨k,hk,rfl,hO,hB⟩:=hrel;have lB:=hB.size;by_cases hkm:k<m
  ·have hkl:k<bs.length:=by rw[←hm.out];exact hkm
   obtain⟨b,o,rfl,hcell⟩:=hb.out.2 (by omega);obtain⟨x,hx⟩:∃x,x=bs[k]:=⟨_,rfl⟩;have hcx:wr.cell? ⟨b,o+k,none⟩=some (.int .u8 (x.toNat:Int)):=by
    rw[hx];exact (hB.cell (ac (hcell k hkl))).trans (hcell k hkl)
   have hT:bs.take (k+1)=bs.take k++[x]:=by rw[List.take_succ_eq_append_getElem hkl,hx]
   have hlen:(bs.take k).length≤1000000000:=by rw[List.length_take];omega
   have hO2:=hO.below ((Below.refl _ _).alloc (Nat.le_refl _) (.cells #[.int .u8 (x.toNat:Int)] 5));have hb1:=bI wr x 5;have hB2:Below w.heap.size w (wr.alloc (.cells #[.int .u8 (x.toNat:Int)] 5)):=hB.alloc lB _;obtain⟨xi,hxi⟩:∃n:Int,n=(x.toNat:Int):=⟨_,rfl⟩;rw[←hxi]at hcx hO2 hb1 hB2;refine h6_ hT hlen hO2 hb1 hB2 hxi ?_;clear hT hlen hO2 hb1 hB2 hxi;intro hT hlen hO2 hb1 hB2 hxi;clear hcell hx hO hB;go_wp2_with (at_builtin;refine dU rfl _ _ rfl w.heap.size _ _ rfl hO2.out (some ⟨wr.heap.size,0,none⟩) 1 1 [x] rfl rfl hb1.out (fun e=>(by cases e)) (by have:=hlen.out;simp only[List.length_cons,List.length_nil];omega) (by rw[World.size_alloc];omega) ?_;intro v' w2 hO3 hB3;replace hO3:=hi_ hO3;replace hB3:=hi_ hB3)
   go_roundw
   case rel=>exact⟨k+1,by omega,by go_num,by rw[hT.out];exact hO3.out,hB2.out.trans hB3.out⟩
   case measure=>simp[RowKit.intOf];omega
  ·obtain rfl:k=m:=by omega
   have hT:bs.take k=bs:=by rw[hm.out,List.take_length]
   rw[hT]at hO;refine h3_ hO hB hT ?_;clear hO hB hT;intro hO hB hT;go_wp2
   go_ret
   exact⟨_,rfl,hO.out,hB.out⟩
end
section
variable {L:Nat}{A:Option Addr}{c:Nat}{bs:Bs}{D P:Value}{w w':World}{r r':Bs}
def em:Bs→Bool×Bs
 |[]=>(false,[])
 |x :: t=>if x=13∨x=10 then (true,dm x t) else (false,x :: t)
theorem qu {r:Bs}(h1:pk r 0=13) (h2:pk r 1=10):em r=(true,r.drop 2)∧2≤r.length:=by
 match r,h1,h2 with
 |[],h1,_=>simp[pk]at h1
 |[x],_,h2=>simp[pk]at h2
 |x :: y :: t,h1,h2=>
  simp only[pk,List.getElem?_cons_zero,List.getElem?_cons_succ]at h1 h2;have e1:x=13:=UInt8.toNat_inj.1 (by show x.toNat=13;omega);have e2:y=10:=UInt8.toNat_inj.1 (by show y.toNat=10;omega);subst e1 e2;exact⟨rfl,by simp⟩
theorem qs {r:Bs}(h1:pk r 0=13) (h2:¬pk r 1=10):em r=(true,r.drop 1)∧1≤r.length:=by
 match r,h1 with
 |[],h1=>simp[pk]at h1
 |x :: t,h1=>
  simp only[pk,List.getElem?_cons_zero]at h1;have e1:x=13:=UInt8.toNat_inj.1 (by show x.toNat=13;omega);subst e1;have:¬(13=(13:UInt8)∧t[0]?=some 10):=fun h=>h2 (by simp[pk,h.2])
  refine⟨?_,by simp⟩;rw[em,if_pos (.inl rfl),dm,if_neg this]
  rfl
theorem qt {r:Bs}(h1:pk r 0=10):em r=(true,r.drop 1)∧1≤r.length:=by
 match r,h1 with
 |[],h1=>simp[pk]at h1
 |x :: t,h1=>
  simp only[pk,List.getElem?_cons_zero]at h1;have e1:x=10:=UInt8.toNat_inj.1 (by show x.toNat=10;omega);subst e1;exact⟨rfl,by simp⟩
theorem sm {r:Bs}(h1:¬pk r 0=13) (h2:¬pk r 0=10):em r=(false,r):=by
 match r,h1,h2 with
 |[],_,_=>rfl
 |x :: t,h1,h2=>
  simp only[pk,List.getElem?_cons_zero]at h1 h2;rw[em,if_neg];rintro (e|e)
  ·exact h1 (by rw[e];rfl)
  ·exact h2 (by rw[e];rfl)
theorem LX.next1 {t:Bs}(h:LX L A c bs D P w t) (h2:1≤t.length) {q:Int}(hq:q=(pos bs t:Int)):LX L A c bs D P (w.setCell ⟨L,1,none⟩ (.int .i64 (q+1))) (t.drop 1):=by
 have h1:=h.go (dc h.suf 1);have e:=dq h.suf 1 h2;rw[hq];rw[e]at h1;exact h1
theorem pw (h:LX L A c bs D P w r):Calls Tryz.prog 194 #[.pointer (some ⟨L,0,none⟩)] w fun e w'=>e=.returned (.bool (em r).1)∧LX L A c bs D P w' (em r).2∧Save L w w':=by
 have cpa:=fun W (h:LX L A c bs D P W r)=>lm W h
 have cpb:=fun W (h:LX L A c bs D P W r)=>fO W h
 obtain⟨pa,hpa⟩:∃d,d=pk r 0:=⟨_,rfl⟩;obtain⟨pb,hpb⟩:∃d,d=pk r 1:=⟨_,rfl⟩;have ra:=dn r 0;have rb:=dn r 1;have t1:=qu (r:=r);have t2:=qs (r:=r);have t3:=qt (r:=r);have t4:=sm (r:=r);rw[←hpa]at cpa ra t1 t2 t3 t4;rw[←hpb]at cpb rb t1 t2;obtain⟨E,hE⟩:∃E,E=em r:=⟨_,rfl⟩;rw[←hE]at t1 t2 t3 t4⊢;obtain⟨q,hq,hq0,hq1⟩:=h.pos_i;have q1:=h.blk.cell 1;have v1:=h.blk.frozen 1;rw[←hq]at q1;have hS:=Save.refl L w;obtain⟨hL,hS⟩:Hid (LX L A c bs D P w r)∧Hid (Save L w w):=⟨Lib.hid h,Lib.hid hS⟩;refine h6_ cpa cpb hpa hpb hE hq ?_;clear cpa cpb hpa hpb hE hq;intro cpa cpb hpa hpb hE hq;clear h;by_cases h13:pa=13
 ·have e13:(pa == 13)=true:=by simpa using h13
  by_cases h10:pb=10
  ·have e10:(pb == 10)=true:=by simpa using h10
   obtain⟨rfl,hlen⟩:=t1 h13 h10;replace hlen:=hi_ hlen;clear t1 t2 t3 t4 h13 h10;go_enter Tryz.func194,Tryz.ntmps194;go_wp2_with (first|((first|(go_at_call 68;(with_reducible refine (cpa.out _ hL.out).mono ?_))|(go_at_call 68;(with_reducible refine (cpb.out _ hL.out).mono ?_)));rintro e w1 ⟨rfl,hB⟩;replace hL:=hi_ (hL.out.below hB);replace hS:=hi_ (hS.out.then_ hB);replace q1:=hL.out.blk.cell 1;rw[←hq.out]at q1;replace v1:=hL.out.blk.frozen 1;skip;clear hB))
   go_ret
   exact⟨rfl,hL.out.next2 hlen.out hq.out,hS.out.store 1 _⟩
  ·have e10:(pb == 10)=false:=by simpa using h10
   obtain⟨rfl,hlen⟩:=t2 h13 h10;replace hlen:=hi_ hlen;clear t1 t2 t3 t4 h13 h10;go_enter Tryz.func194,Tryz.ntmps194;go_wp2_with (first|((first|(go_at_call 68;(with_reducible refine (cpa.out _ hL.out).mono ?_))|(go_at_call 68;(with_reducible refine (cpb.out _ hL.out).mono ?_)));rintro e w1 ⟨rfl,hB⟩;replace hL:=hi_ (hL.out.below hB);replace hS:=hi_ (hS.out.then_ hB);replace q1:=hL.out.blk.cell 1;rw[←hq.out]at q1;replace v1:=hL.out.blk.frozen 1;skip;clear hB))
   go_ret
   exact⟨rfl,hL.out.next1 hlen.out hq.out,hS.out.store 1 _⟩
 ·have e13:(pa == 13)=false:=by simpa using h13
  by_cases h10:pa=10
  ·have e10:(pa == 10)=true:=by simpa using h10
   obtain⟨rfl,hlen⟩:=t3 h10;replace hlen:=hi_ hlen;clear t1 t2 t3 t4 h13 h10;go_enter Tryz.func194,Tryz.ntmps194;go_wp2_with (first|((first|(go_at_call 68;(with_reducible refine (cpa.out _ hL.out).mono ?_))|(go_at_call 68;(with_reducible refine (cpb.out _ hL.out).mono ?_)));rintro e w1 ⟨rfl,hB⟩;replace hL:=hi_ (hL.out.below hB);replace hS:=hi_ (hS.out.then_ hB);replace q1:=hL.out.blk.cell 1;rw[←hq.out]at q1;replace v1:=hL.out.blk.frozen 1;skip;clear hB))
   go_ret
   exact⟨rfl,hL.out.next1 hlen.out hq.out,hS.out.store 1 _⟩
  ·have e10:(pa == 10)=false:=by simpa using h10
   obtain rfl:=t4 h13 h10;clear t1 t2 t3 t4 h13 h10;go_enter Tryz.func194,Tryz.ntmps194;go_wp2_with (first|((first|(go_at_call 68;(with_reducible refine (cpa.out _ hL.out).mono ?_))|(go_at_call 68;(with_reducible refine (cpb.out _ hL.out).mono ?_)));rintro e w1 ⟨rfl,hB⟩;replace hL:=hi_ (hL.out.below hB);replace hS:=hi_ (hS.out.then_ hB);replace q1:=hL.out.blk.cell 1;rw[←hq.out]at q1;replace v1:=hL.out.blk.frozen 1;skip;clear hB))
   go_ret
   exact⟨rfl,hL.out,hS.out⟩
theorem sG (r:Bs) (k:Nat) (h:k≤(aN r).length):eR (r.drop k)=decide (k<(aN r).length):=by
 unfold aN at h⊢
 induction r generalizing k with
 |nil=>simp at h;subst h;rfl
 |cons x r ih=>
  rw[List.takeWhile_cons]at h⊢;cases hx:bu x with
  |false=>
   rw[hx]at h;simp at h;subst h;simp[eR,hx]
  |true=>
   rw[hx]at h;simp only[if_true,List.length_cons]at h⊢;cases k with
   |zero=>simp[eR,hx]
   |succ k=>
    rw[List.drop_succ_cons,ih k (by omega)];simp
theorem pu (r:Bs):r.take (aN r).length=aN r:=by unfold aN;exact List.prefix_iff_eq_take.1 (List.takeWhile_prefix bu) |>.symm
theorem px (h:LX L A c bs D P w r) (h0:0<r.length):Calls Tryz.prog 162 #[.pointer (some ⟨L,0,none⟩)] w fun e w'=>∃v,e=.returned v∧Own w.heap.size w' v (aN r)∧LX L A c bs D P w' (r.drop (aN r).length)∧Save L w w':=by
 obtain⟨n,hn⟩:∃n,n=(aN r).length:=⟨_,rfl⟩;have hat:=sG r;have hnl:n≤r.length:=by rw[hn];exact (List.takeWhile_prefix (p:=bu) (l:=r)).length_le
 rw[←hn]at hat⊢;have hLw:=h.lt;have hbl:=aB h.suf;obtain⟨b,o,hAe,hcell⟩:=h.byt.2 (by omega);subst hAe;have hpd:∀k,k≤n→pos bs (r.drop k)=pos bs r+k:=fun k hk=>dq h.suf k (by omega)
 obtain⟨p,hp⟩:∃p,p=pos bs r:=⟨_,rfl⟩;have hpl:p+r.length=bs.length:=by rw[hp];unfold pos;omega
 rw[←hp]at hpd;have q1:=h.blk.cell 1;rw[←hp]at q1;have hsuf:=h.suf;have hcap:=h.cap;have hsm:=h.small;refine h7_ hat hn hpd hp h hcell hsuf ?_;clear hat hn hpd hp h hcell hsuf;intro hat hn hpd hp h hcell hsuf;go_enter Tryz.func162,Tryz.ntmps162;go_wp2
 go_loopw [10] (fun _ wr=>∃k,k≤n∧LX L (some ⟨b,o,none⟩) c bs D P wr (r.drop k)∧Save L w wr) (fun _ wr=>bs.length+1 - posOf L wr)
 case atStart=>exact⟨0,Nat.zero_le _,h.out,Save.refl _ _⟩
 case round=>
  obtain⟨k,hk,hL,hS⟩:=hrel;have hms:=hL.posOf;have hreg:=hat.out k hk;have hpk:=hpd.out k hk;clear q1;have cp:=fun W (h:LX L (some ⟨b,o,none⟩) c bs D P W (r.drop k))=>lm W h
  have cr:=fun W=>bV (w:=W) (pk (r.drop k) 0) (dn _ 0)
  rw[pg,hreg]at cr;obtain⟨X,hX⟩:∃X,X=pk (r.drop k) 0:=⟨_,rfl⟩;rw[←hX]at cp cr;have q1:=hL.blk.cell 1;have v1:=hL.blk.frozen 1;have q0:=hL.blk.cell 0;obtain⟨q,hq,hq0,hq1⟩:=hL.pos_i;rw[←hq]at q1;refine h8_ cp cr hX hq hL hS hms hpk ?_;clear cp cr hX hq hL hS hms hpk;intro cp cr hX hq hL hS hms hpk;clear hreg;by_cases hkn:k<n
  ·rw[decide_eq_true hkn]at cr
   go_wp2_with (first
    |(go_at_call 68;(with_reducible refine (cp.out _ hL.out).mono ?_);rintro e w1 ⟨rfl,hB⟩;replace hL:=hi_ (hL.out.below hB);replace hS:=hi_ (hS.out.then_ hB);replace q1:=hL.out.blk.cell 1;rw[←hq.out]at q1;replace v1:=hL.out.blk.frozen 1;replace q0:=hL.out.blk.cell 0;clear hB)
    |(go_at_call 67;(with_reducible refine (cr.out _).mono ?_);rintro e w2 ⟨rfl,rfl⟩))
   have hL2:=hL.out.next1 (by rw[List.length_drop];omega) hq.out;rw[List.drop_drop]at hL2;have e1:=hL2.posOf;have e2:=hms.out;have e3:=hpk.out;have e4:=hpd.out (k+1) (by omega);exact⟨⟨k+1,by omega,hL2,hS.out.store 1 _⟩,by rw[e1,e2];omega⟩
  ·obtain rfl:k=n:=by omega
   rw[decide_eq_false hkn]at cr;obtain⟨hqn,hqe⟩:q=(p+k:Nat)∧True:=⟨by rw[hq.out,hpk.out],trivial⟩;subst hqn;go_upto_region 4 with (first
    |(go_at_call 68;(with_reducible refine (cp.out _ hL.out).mono ?_);rintro e w1 ⟨rfl,hB⟩;replace hL:=hi_ (hL.out.below hB);replace hS:=hi_ (hS.out.then_ hB);replace q1:=hL.out.blk.cell 1;rw[←hq.out]at q1;replace v1:=hL.out.blk.frozen 1;replace q0:=hL.out.blk.cell 0;clear hB)
    |(go_at_call 67;(with_reducible refine (cr.out _).mono ?_);rintro e w2 ⟨rfl,rfl⟩))
   have hby:∀W,Below w1.heap.size w1 W→Byt W (some ⟨b,o+p,none⟩) (aN r):=fun W hW=>by
    have hby1:=(hL.out.below hW).byt;have hrt:=pu r;rw[←hn.out]at hrt;refine⟨by rw[←hn.out];unfold maxLen;omega,fun h1=>⟨b,o+p,rfl,fun i hi=>?_⟩⟩;obtain⟨b',o',e,hc⟩:=hby1.2 (by omega);cases e;have hi2:i<k:=by rw[hn.out];exact hi
    have h9:=hc (p+i) (by omega);rw[Nat.add_assoc,h9];have e3:(aN r)[i]?=bs[p+i]?:=by
     rw[←hrt,List.getElem?_take_of_lt hi2,hp.out,ly hsuf.out]
    rw[List.getElem?_eq_getElem hi,List.getElem?_eq_getElem (by omega)]at e3;injection e3 with e3;rw[e3]
   have cc:=fun W (hW:Below w1.heap.size w1 W)=>mn (some ⟨b,o+p,none⟩) (c - p) (aN r) W (hby W hW) (by rw[←hn.out];omega)
   rw[←hn.out]at cc;obtain⟨N,hN⟩:∃N,N=bs.length:=⟨_,rfl⟩;rw[←hN]at q0 q1 hpl hcap hsm;replace hN:=hi_ hN;clear hby
   go_region_with (go_at_call 115;(with_reducible refine (cc _ (by first|exact (Below.refl _ _).drew|exact Below.refl _ _)).mono ?_);rintro e w3 ⟨v3,rfl,hO3,hB3⟩;replace hO3:=hi_ hO3;replace hB3:=hi_ hB3)
   all_goals go_wp2
   all_goals go_ret
   all_goals (
    have hBd:Below w1.heap.size w1 w3:=by first|exact hB3.out|exact (Below.refl _ _).drew.trans hB3.out
    have hz:=hS.out.size;have hO4:=hO3.out;exact⟨v3,rfl,hO4.base hz,hL.out.below hBd,hS.out.then_ hBd⟩)
end
section
variable {L:Nat}{A:Option Addr}{c:Nat}{bs:Bs}{D P:Value}{w w':World}{r r':Bs}
theorem kI:∀n:Fin 512,bits BinOp.and IntKind.i64 ((n.val:Nat):Int) 255=((n.val % 256:Nat):Int):=by decide +kernel
theorem qi (n:Nat) (h:n<512):bits BinOp.and IntKind.i64 (n:Int) 255=((n % 256:Nat):Int):=kI ⟨n,h⟩
def mH:Option UInt8→Int
 |none=> -1
 |some x=>(x.toNat:Int)
def qv (D:Int):Int:=if D=110 then 10 else if D=114 then 13 else if D=116 then 9 else if D=98 then 8 else if D=102 then 12 else D
theorem qy (d:UInt8):((if d=110 then 10 else if d=114 then 13 else if d=116 then 9 else if d=98 then 8 else if d=102 then 12 else d:UInt8).toNat:Int)=qv (d.toNat:Int):=by
 unfold qv;by_cases h110:d=110
 ·subst h110;rfl
 have n110:¬(d.toNat:Int)=110:=fun e=>h110 (UInt8.toNat_inj.1 (by show d.toNat=110;omega))
 rw[if_neg h110,if_neg n110];by_cases h114:d=114
 ·subst h114;rfl
 have n114:¬(d.toNat:Int)=114:=fun e=>h114 (UInt8.toNat_inj.1 (by show d.toNat=114;omega))
 rw[if_neg h114,if_neg n114];by_cases h116:d=116
 ·subst h116;rfl
 have n116:¬(d.toNat:Int)=116:=fun e=>h116 (UInt8.toNat_inj.1 (by show d.toNat=116;omega))
 rw[if_neg h116,if_neg n116];by_cases h98:d=98
 ·subst h98;rfl
 have n98:¬(d.toNat:Int)=98:=fun e=>h98 (UInt8.toNat_inj.1 (by show d.toNat=98;omega))
 rw[if_neg h98,if_neg n98];by_cases h102:d=102
 ·subst h102;rfl
 have n102:¬(d.toNat:Int)=102:=fun e=>h102 (UInt8.toNat_inj.1 (by show d.toNat=102;omega))
 rw[if_neg h102,if_neg n102]
theorem oT:∀(k n:Nat) (r:Bs),(cu k n r).2.length≤r.length
 |0,n,r=>Nat.le_refl _
 |k+1,n,[]=>Nat.le_refl _
 |k+1,n,c :: r=>by
  rw[cu];split
  ·have:=oT k (8*n+(c.toNat - 48)) r
   simp only[List.length_cons];omega
  ·exact Nat.le_refl _
theorem ng {x:UInt8}{t:Bs}(h:LX L A c bs D P w (x :: t)):Calls Tryz.prog 193 #[.pointer (some ⟨L,0,none⟩)] w fun e w'=>e=.returned (.int .i64 (mH (bD x t).1))∧LX L A c bs D P w' (bD x t).2∧Save L w w':=by
 have ce:=pw h;by_cases hnl:x=13∨x=10
 ·have e1:em (x :: t)=(true,dm x t):=by rw[em,if_pos hnl]
  have e2:bD x t=(none,dm x t):=by rw[bD,if_pos hnl]
  rw[e1]at ce;rw[e2];clear e1 e2 hnl h;replace ce:=hi_ ce;go_enter Tryz.func193,Tryz.ntmps193;go_wp2_with (go_at_call 194;(with_reducible refine (ce.out).mono ?_);rintro e w2 ⟨rfl,hL,hS⟩;replace hL:=hi_ hL;replace hS:=hi_ hS)
  go_ret
  exact⟨rfl,hL.out,hS.out⟩
 ·have e1:em (x :: t)=(false,x :: t):=by rw[em,if_neg hnl]
  rw[e1]at ce;obtain⟨X,hX⟩:=aT (x.toNat:Int);have hX0:0≤X∧X≤255:=by rw[hX.out];have:=x.toNat_lt;omega
  have cp:=fun W h=>aH (L:=L) (A:=A) (c:=c) (bs:=bs) (D:=D) (P:=P) (x:=x) (t:=t) X hX.out W h
  have hoc:eX x=(decide (48≤X) && decide (X≤55)):=by
   rw[hX.out];unfold eX;rw[Bool.eq_iff_iff];simp;omega
  replace cp:=hi_ cp;replace ce:=hi_ ce;cases hox:eX x with
  |true=>
   rw[hox]at hoc;have e2:bD x t=(some (UInt8.ofNat ((cu 2 (x.toNat - 48) t).1 % 256)),(cu 2 (x.toNat - 48) t).2):=by rw[bD,if_neg hnl,if_pos hox]
   have e3:cu 3 0 (x :: t)=cu 2 (x.toNat - 48) t:=by rw[cu,if_pos hox];simp
   rw[e2,←e3];obtain⟨N,hN⟩:∃N,N=(cu 3 0 (x :: t)).1:=⟨_,rfl⟩;obtain⟨U,hU⟩:∃U,U=(cu 3 0 (x :: t)).2:=⟨_,rfl⟩;have hNU:cu 3 0 (x :: t)=(N,U):=by rw[hN,hU]
   rw[←hN,←hU];obtain⟨ho1,ho2⟩:48≤X∧X≤55:=by simpa using hoc.symm
   have hfv:∀n:Nat,(n:Int) % 256=mH (some (UInt8.ofNat (n % 256))):=fun n=>by
    simp only[mH];rw[UInt8.toNat_ofNat_of_lt' (show n % 256<256 by omega)];omega
   replace hfv:=hi_ hfv;replace hNU:=hi_ hNU;clear hoc e1 e2 e3 hN hU hnl h;go_enter Tryz.func193,Tryz.ntmps193;go_wp2_with (first
    |(go_at_call 194;(with_reducible refine (ce.out).mono ?_);rintro e w2 ⟨rfl,hL,hS⟩;have q1:=hL.blk.cell 1;have v1:=hL.blk.frozen 1;replace hL:=hi_ hL;replace hS:=hi_ hS)
    |(go_at_call 68;(with_reducible refine (cp.out _ hL.out).mono ?_);rintro e w1 ⟨rfl,hB⟩;replace hL:=hi_ (hL.out.below hB);replace hS:=hi_ (hS.out.then_ hB);replace q1:=hL.out.blk.cell 1;replace v1:=hL.out.blk.frozen 1;skip;clear hB))
   go_loopw [4,5] (fun s4 s5 wr=>∃k n r1,k≤3∧s5=.int .i64 (k:Nat)∧s4=.int .i64 (n:Nat)∧n<8 ^ k∧cu (3 - k) n r1=(N,U)∧LX L A c bs D P wr r1∧Save L w wr) (fun _ s5 _=>3 - (RowKit.intOf s5).toNat)
   case atStart=>exact⟨0,0,x :: t,by omega,rfl,rfl,by omega,hNU.out,hL.out,hS.out⟩
   case round=>
    clear hL hS cp q1 v1;obtain⟨k,n,r1,hk,rfl,rfl,hn8,hO,hL,hS⟩:=hrel;have hn5:n<512:=Nat.lt_of_lt_of_le hn8 (Nat.le_trans (Nat.pow_le_pow_right (by omega) hk) (by decide));have hfin:(n,r1)=(N,U)→bits BinOp.and IntKind.i64 (n:Int) 255=(((UInt8.ofNat (N % 256)).toNat:Nat):Int)∧r1=U:=fun h=>by
     injection h with h1 h2;subst h1 h2;refine⟨?_,rfl⟩;rw[qi n hn5,UInt8.toNat_ofNat_of_lt' (show n % 256<256 by omega)]
    rcases Nat.lt_or_ge k 3 with hk3|hk3
    ·obtain⟨j,hj⟩:∃j,3 - k=j+1:=⟨3 - k - 1,by omega⟩
     rw[hj]at hO;obtain⟨q,hq,hq0,hq1⟩:=hL.pos_i;have q1:=hL.blk.cell 1;have v1:=hL.blk.frozen 1;rw[←hq]at q1;replace hq:=hi_ hq;have hk3':decide ((k:Int)<3)=true:=by simp;omega
     obtain⟨nn,hnn⟩:=aT (n:Int);have hn0:0≤nn∧nn<512:=by rw[hnn.out];omega
     cases r1 with
     |nil=>
      have hf2:=hfin (by rw[←hO,cu]);obtain⟨hf1,rfl⟩:=hf2;have cp:=fun W h=>dr (L:=L) (A:=A) (c:=c) (bs:=bs) (D:=D) (P:=P) W h
      refine h3_ cp hL hS ?_;clear cp hL hS;intro cp hL hS;clear hO hfin hn8 hn5;rw[←hnn.out]at hf1⊢;go_wp2_with (go_at_call 68;(with_reducible refine (cp.out _ hL.out).mono ?_);rintro e w1 ⟨rfl,hB⟩;replace hL:=hi_ (hL.out.below hB);replace hS:=hi_ (hS.out.then_ hB);replace q1:=hL.out.blk.cell 1;replace v1:=hL.out.blk.frozen 1;skip;clear hB)
      go_ret
      exact⟨congrArg (fun z=>Ending.returned (Value.int .i64 z)) (hfv.out _),hL.out,hS.out⟩
     |cons y u=>
      obtain⟨Y,hY⟩:=aT (y.toNat:Int);have hY0:0≤Y∧Y≤255:=by rw[hY.out];have:=y.toNat_lt;omega
      have cp:=fun W h=>aH (L:=L) (A:=A) (c:=c) (bs:=bs) (D:=D) (P:=P) (x:=y) (t:=u) Y hY.out W h
      have hoc:eX y=(decide (48≤Y) && decide (Y≤55)):=by
       rw[hY.out];unfold eX;rw[Bool.eq_iff_iff];simp;omega
      refine h3_ cp hL hS ?_;clear cp hL hS;intro cp hL hS;cases hoy:eX y with
      |true=>
       rw[hoy]at hoc;obtain⟨hp1,hp2⟩:48≤Y∧Y≤55:=by simpa using hoc.symm
       have hO2:cu (3 - (k+1)) (8*n+(y.toNat - 48)) u=(N,U):=by
        rw[show 3 - (k+1)=j by omega,←hO,cu,if_pos hoy]
       have hn9:8*n+(y.toNat - 48)<8 ^ (k+1):=by
        have:=hY.out;rw[Nat.pow_succ];omega
       have hnv:((8*n+(y.toNat - 48):Nat):Int)=8*nn+Y - 48:=by
        rw[hnn.out,hY.out]at *;omega
       refine h3_ hO2 hn9 hnv ?_;clear hO2 hn9 hnv;intro hO2 hn9 hnv;clear hO hfin hn8 hn5 hoc hk3 hj;rw[←hnn.out];go_wp2_with (go_at_call 68;(with_reducible refine (cp.out _ hL.out).mono ?_);rintro e w1 ⟨rfl,hB⟩;replace hL:=hi_ (hL.out.below hB);replace hS:=hi_ (hS.out.then_ hB);replace q1:=hL.out.blk.cell 1;rw[←hq.out]at q1;replace v1:=hL.out.blk.frozen 1;skip;clear hB)
       exact⟨⟨k+1,_,u,by (have:(k:Int)<3:=of_decide_eq_true hk3');omega,by go_num,by rw[hnv.out],hn9.out,hO2.out,hL.out.next hq.out,hS.out.store 1 _⟩,by (have:(k:Int)<3:=of_decide_eq_true hk3');simp[RowKit.intOf];omega⟩
      |false=>
       rw[hoy]at hoc;have hf2:=hfin (by rw[←hO,cu,hoy];rfl);obtain⟨hf1,rfl⟩:=hf2;clear hO hfin hn8 hn5;rw[←hnn.out]at hf1⊢;rcases Int.lt_or_le Y 48 with hp1|hp1
       ·clear hoc
        go_wp2_with (go_at_call 68;(with_reducible refine (cp.out _ hL.out).mono ?_);rintro e w1 ⟨rfl,hB⟩;replace hL:=hi_ (hL.out.below hB);replace hS:=hi_ (hS.out.then_ hB);replace q1:=hL.out.blk.cell 1;rw[←hq.out]at q1;replace v1:=hL.out.blk.frozen 1;skip;clear hB)
        go_ret
        exact⟨congrArg (fun z=>Ending.returned (Value.int .i64 z)) (hfv.out _),hL.out,hS.out⟩
       ·have hp2:55<Y:=by
         rcases Int.lt_or_le 55 Y with h|h
         ·exact h
         ·rw[decide_eq_true hp1,decide_eq_true h]at hoc;cases hoc
        clear hoc;go_wp2_with (go_at_call 68;(with_reducible refine (cp.out _ hL.out).mono ?_);rintro e w1 ⟨rfl,hB⟩;replace hL:=hi_ (hL.out.below hB);replace hS:=hi_ (hS.out.then_ hB);replace q1:=hL.out.blk.cell 1;rw[←hq.out]at q1;replace v1:=hL.out.blk.frozen 1;skip;clear hB)
        go_ret
        exact⟨congrArg (fun z=>Ending.returned (Value.int .i64 z)) (hfv.out _),hL.out,hS.out⟩
    ·obtain rfl:k=3:=by omega
     obtain⟨hf1,rfl⟩:=hfin (by rw[←hO];rfl);replace hL:=hi_ hL;replace hS:=hi_ hS;clear hO hfin hn8;obtain⟨nn,hnn⟩:=aT (n:Int);have hn0:0≤nn∧nn<512:=by rw[hnn.out];omega
     clear hn5;rw[←hnn.out]at hf1⊢;go_wp2
     go_ret
     exact⟨congrArg (fun z=>Ending.returned (Value.int .i64 z)) (hfv.out _),hL.out,hS.out⟩
  |false=>
   rw[hox]at hoc;have e2:bD x t=(some (if x=110 then 10 else if x=114 then 13 else if x=116 then 9 else if x=98 then 8 else if x=102 then 12 else x),t):=by rw[bD,if_neg hnl,hox];rfl
   rw[e2];simp only[mH];rw[qy,←hX.out];obtain⟨V,hV⟩:∃V,V=qv X:=⟨_,rfl⟩;rw[←hV];unfold qv at hV;replace hV:=hi_ hV;have hno:X<48∨55<X:=by
    rcases Int.lt_or_le X 48 with h|h
    ·exact .inl h
    ·rcases Int.lt_or_le 55 X with h'|h'
     ·exact .inr h'
     ·rw[decide_eq_true h,decide_eq_true h']at hoc;cases hoc
   obtain⟨q,hq,hq0,hq1⟩:=h.pos_i;replace hq:=hi_ hq;clear hoc e1 e2 hnl h;rcases hno with hno|hno
   ·go_enter Tryz.func193,Tryz.ntmps193
    go_wp2_with (first
     |(go_at_call 194;(with_reducible refine (ce.out).mono ?_);rintro e w2 ⟨rfl,hL,hS⟩;have q1:=hL.blk.cell 1;rw[←hq.out]at q1;have v1:=hL.blk.frozen 1;replace hL:=hi_ hL;replace hS:=hi_ hS)
     |(go_at_call 68;(with_reducible refine (cp.out _ hL.out).mono ?_);rintro e w1 ⟨rfl,hB⟩;replace hL:=hi_ (hL.out.below hB);replace hS:=hi_ (hS.out.then_ hB);replace q1:=hL.out.blk.cell 1;rw[←hq.out]at q1;replace v1:=hL.out.blk.frozen 1;skip;clear hB))
    all_goals go_ret
    all_goals (
     refine⟨?_,hL.out.next hq.out,hS.out.store 1 _⟩;have:=hV.out;rw[this]
     simp_all)
   ·go_enter Tryz.func193,Tryz.ntmps193
    go_wp2_with (first
     |(go_at_call 194;(with_reducible refine (ce.out).mono ?_);rintro e w2 ⟨rfl,hL,hS⟩;have q1:=hL.blk.cell 1;rw[←hq.out]at q1;have v1:=hL.blk.frozen 1;replace hL:=hi_ hL;replace hS:=hi_ hS)
     |(go_at_call 68;(with_reducible refine (cp.out _ hL.out).mono ?_);rintro e w1 ⟨rfl,hB⟩;replace hL:=hi_ (hL.out.below hB);replace hS:=hi_ (hS.out.then_ hB);replace q1:=hL.out.blk.cell 1;rw[←hq.out]at q1;replace v1:=hL.out.blk.frozen 1;skip;clear hB))
    all_goals go_ret
    all_goals (
     refine⟨?_,hL.out.next hq.out,hS.out.store 1 _⟩;have:=hV.out;rw[this]
     simp_all)
end
section
variable {L:Nat}{A:Option Addr}{c:Nat}{bs:Bs}{D P:Value}{w w':World}{r r':Bs}
theorem pG {f op:Nat}{out u:Bs}{d:UInt8}:textS (f+1) op out (92 :: d :: u)=match bD d u with|(none,v)=>textS f op out v|(some x,v)=>if 32767≤out.length then .err 3 v else textS f op (out++[x]) v:=by
 rw[textS.eq_def];rfl
theorem pF {f op:Nat}{out t:Bs}{x:UInt8}(hx:x=13∨x=10):textS (f+1) op out (x :: t)=if 32767≤out.length then .err 3 t else textS f op (out++[10]) (dm x t):=by
 rcases hx with rfl|rfl <;> (rw[textS.eq_def];rfl)
theorem pH {f op:Nat}{out t:Bs}{x:UInt8}(h1:x≠92) (h2:¬(x=13∨x=10)):textS (f+1) op out (x :: t)=if x=41∧op=1 then .ok out t else if 32767≤out.length then .err 3 t else textS f (if x=40 then op+1 else if x=41 then op - 1 else op) (out++[x]) t:=by
 rw[textS.eq_def];simp only[];rw[if_neg h1,if_neg h2]
theorem jA (x:UInt8) (t:Bs):(dm x t).length≤t.length:=by unfold dm;split <;> simp
theorem qx (d:UInt8) (t:Bs):(bD d t).2.length≤t.length:=by
 unfold bD;split
 ·exact jA d t
 split
 ·exact oT _ _ _
 ·exact Nat.le_refl _
theorem ri (h:LX L A c bs D P w r):Calls Tryz.prog 159 #[.pointer (some ⟨L,0,none⟩)] w (sa L A c bs D P w (textS (r.length+1) 1 [] r)):=by
 obtain⟨R,hR⟩:∃R,R=textS (r.length+1) 1 [] r:=⟨_,rfl⟩;rw[←hR];have hLw:=h.lt;have hAw:=h.a_lt;have hrl:=aB h.suf;have hsm0:=h.small;refine h3_ hAw hR h ?_;clear hAw hR h;intro hAw hR h;go_enter Tryz.func159,Tryz.ntmps159;go_wp2
 go_loopw [4,5] (fun s4 s5 wr=>∃f op out r1,s5=.int .i64 (op:Nat)∧1≤op∧op+r1.length≤r.length+1∧Own w.heap.size wr s4 out∧LX L A c bs D P wr r1∧textS f op out r1=R∧r1.length<f∧out.length≤32767∧Save L w wr) (fun _ _ wr=>bs.length+1 - posOf L wr)
 case atStart=>exact⟨_,1,_,r,rfl,by omega,by omega,Own.nil _ _,h.out,hR.out.symm,Nat.lt_succ_self _,by simp,Save.refl _ _⟩
 case round=>
  obtain⟨f,op,out,r1,rfl,hop1,hop2,hO,hL,hE,hf,hmx,hS⟩:=hrel;have hms:=hL.posOf;obtain⟨f,rfl⟩:∃g,f=g+1:=⟨f - 1,by omega⟩;clear h hR;obtain⟨Ao,co,rfl,hby,hA⟩:=hO.out (by unfold maxLen;omega);obtain⟨m,hm⟩:∃m,m=out.length:=⟨_,rfl⟩;rw[←hm]at hmx hO⊢;clear hby hA;replace hm:=hi_ hm;replace hmx:=hi_ hmx;obtain⟨q,hq,hq0,hq1⟩:=hL.pos_i;have q1:=hL.blk.cell 1;have v1:=hL.blk.frozen 1;rw[←hq]at q1;replace hq:=hi_ hq;replace hms:=hi_ hms;have hop3:(op:Int)≤1000000001:=by omega
  obtain⟨oi,hoi⟩:=aT (op:Int);have hoi0:1≤oi∧oi≤1000000001:=by rw[hoi.out];omega
  rw[←hoi.out];clear hop3;replace hop1:=hi_ hop1;replace hop2:=hi_ hop2;cases r1 with
  |nil=>
   have e4:R=.err 2 []:=by rw[←hE,textS]
   subst e4;have cp:=fun W h=>dr (L:=L) (A:=A) (c:=c) (bs:=bs) (D:=D) (P:=P) W h
   refine h4_ cp hL hS hO ?_;clear cp hL hS hO;intro cp hL hS hO;clear hE;go_wp2_with (go_at_call 68;(with_reducible refine (cp.out _ hL.out).mono ?_);rintro e w1 ⟨rfl,hB⟩;replace hL:=hi_ (hL.out.below hB);replace hS:=hi_ (hS.out.then_ hB);replace q1:=hL.out.blk.cell 1;rw[←hq.out]at q1;replace v1:=hL.out.blk.frozen 1;replace hO:=hi_ (hO.out.below hB);clear hB)
   go_ret2
   exact⟨rfl,hL.out.at_,hS.out⟩
  |cons x t=>
   obtain⟨X,hX⟩:=aT (x.toNat:Int);have hX0:0≤X∧X≤255:=by rw[hX.out];have:=x.toNat_lt;omega
   have cp:=fun W h=>aH (L:=L) (A:=A) (c:=c) (bs:=bs) (D:=D) (P:=P) (x:=x) (t:=t) X hX.out W h
   have hpc:=bU hL.suf;have h92:(X == 92)=(x == 92):=by rw[hX.out,aq x 92];rfl
   simp only[List.length_cons]at hf hop2;refine h7_ cp hpc hL hS hE hO hf ?_;clear cp hpc hL hS hE hO hf;intro cp hpc hL hS hE hO hf;have hbw:bs.length+1 - posOf L wr=(x :: t).length+1:=by
    rw[hms.out];have:=aK hL.out.suf;have:=aE bs (x :: t);omega
   replace hbw:=hi_ hbw;cases hx92:(x == 92) with
   |true=>
    rw[hx92]at h92;obtain rfl:x=92:=by simpa using hx92
    obtain rfl:X=92:=by simpa using h92
    clear h92;go_upto_region 13 with (go_at_call 68;(with_reducible refine (cp.out _ hL.out).mono ?_);rintro e w1 ⟨rfl,hB⟩;replace hL:=hi_ (hL.out.below hB);replace hS:=hi_ (hS.out.then_ hB);replace q1:=hL.out.blk.cell 1;rw[←hq.out]at q1;replace v1:=hL.out.blk.frozen 1;replace hO:=hi_ (hO.out.below hB);clear hB)
    obtain⟨W2,hW2⟩:∃W,W=w1.setCell ⟨L,1,none⟩ (.int .i64 (q+1)):=⟨_,rfl⟩;rw[←hW2];have hL2:LX L A c bs D P W2 t:=by rw[hW2];exact hL.out.next hq.out
    have hS2:Save L w W2:=by rw[hW2];exact hS.out.store 1 _
    have hO2:Own w.heap.size W2 (.slice Ao m co) out:=by rw[hW2];exact hO.out.save_ ((Save.refl L w1).store 1 _) hLw
    replace hW2:=hi_ hW2;clear hL hS hO q1 v1 hms hpc;obtain⟨hL,hS,hO⟩:Hid (LX L A c bs D P W2 t)∧Hid (Save L w W2)∧Hid (Own w.heap.size W2 (.slice Ao m co) out):=⟨Lib.hid hL2,Lib.hid hS2,Lib.hid hO2⟩;clear hL2 hS2 hO2;cases t with
    |nil=>
     have e4:R=.err 2 []:=by rw[←hE.out,textS.eq_def];rfl
     subst e4;have cp:=fun W h=>dr (L:=L) (A:=A) (c:=c) (bs:=bs) (D:=D) (P:=P) W h
     replace cp:=hi_ cp;clear hE;go_wp2_with (go_at_call 68;(with_reducible refine (cp.out _ hL.out).mono ?_);rintro e w1 ⟨rfl,hB⟩;replace hL:=hi_ (hL.out.below hB);replace hS:=hi_ (hS.out.then_ hB);replace q1:=hL.out.blk.cell 1;replace v1:=hL.out.blk.frozen 1;replace hO:=hi_ (hO.out.below hB);clear hB)
     go_ret2
     exact⟨rfl,hL.out.at_,hS.out⟩
    |cons d u=>
     obtain⟨Y,hY⟩:=aT (d.toNat:Int);have hY0:0≤Y∧Y≤255:=by rw[hY.out];have:=d.toNat_lt;omega
     have cp2:=fun W h=>aH (L:=L) (A:=A) (c:=c) (bs:=bs) (D:=D) (P:=P) (x:=d) (t:=u) Y hY.out W h
     have ces:=fun W (h:LX L A c bs D P W (d :: u))=>ng h
     have hE2:=hE.out;rw[pG]at hE2;have hul:=qx d u;simp only[List.length_cons]at hf hop2 hbw;obtain⟨E,hEe⟩:∃E,E=bD d u:=⟨_,rfl⟩;rw[←hEe]at ces hE2 hul;refine h3_ cp2 ces hEe ?_;clear cp2 ces hEe;intro cp2 ces hEe;obtain⟨ev,u2⟩:=E;clear hE cp;cases ev with
     |none=>
      simp only[]at hE2 hul;simp only[mH]at ces;replace hE2:=hi_ hE2;replace hul:=hi_ hul;go_upto_region 18 with (first
       |(go_at_call 68;(with_reducible refine (cp2.out _ hL.out).mono ?_);rintro e w1 ⟨rfl,hB⟩;replace hL:=hi_ (hL.out.below hB);replace hS:=hi_ (hS.out.then_ hB);replace q1:=hL.out.blk.cell 1;replace v1:=hL.out.blk.frozen 1;replace hO:=hi_ (hO.out.below hB);clear hB)
       |(go_at_call 193;(with_reducible refine (ces.out _ hL.out).mono ?_);rintro e w3 ⟨rfl,hL3,hS3⟩;replace hO:=hi_ (hO.out.save_ hS3 hLw);replace hS:=hi_ (hS.out.trans hS3);replace hL:=hi_ hL3;clear hL3 hS3))
      go_wp2
      have e1:=hL.out.posOf;have e3:=hf.out;have e5:=hm.out;have e6:=hmx.out;have e7:=hop1.out;have e8:=hop2.out;have e9:=hul.out;have e10:=hbw.out;have e11:=aB hL.out.suf;exact⟨⟨f,op,out,u2,by rw[hoi.out],by omega,by omega,hO.out,hL.out,hE2.out,by omega,by omega,hS.out⟩,by rw[e1,e10];unfold pos;omega⟩
     |some z=>
      simp only[]at hE2 hul;simp only[mH]at ces;obtain⟨Z,hZ⟩:=aT (z.toNat:Int);have hZ0:0≤Z∧Z≤255:=by rw[hZ.out];have:=z.toNat_lt;omega
      rw[←hZ.out]at ces;replace hE2:=hi_ hE2;replace hul:=hi_ hul;go_upto_region 18 with (first
       |(go_at_call 68;(with_reducible refine (cp2.out _ hL.out).mono ?_);rintro e w1 ⟨rfl,hB⟩;replace hL:=hi_ (hL.out.below hB);replace hS:=hi_ (hS.out.then_ hB);replace q1:=hL.out.blk.cell 1;replace v1:=hL.out.blk.frozen 1;replace hO:=hi_ (hO.out.below hB);clear hB)
       |(go_at_call 193;(with_reducible refine (ces.out _ hL.out).mono ?_);rintro e w3 ⟨rfl,hL3,hS3⟩;replace hO:=hi_ (hO.out.save_ hS3 hLw);replace hS:=hi_ (hS.out.trans hS3);replace hL:=hi_ hL3;clear hL3 hS3))
      replace hE2:=hE2.out;obtain⟨W5,hW5⟩:∃W,W=w3:=⟨_,rfl⟩;rw[←hW5]at hL hS hO⊢;have hmz:bs.length+1 - pos bs u2<bs.length+1 - posOf L wr:=by
       have e9:=hul.out;have e10:=hbw.out;have e11:=aB hL.out.suf;rw[e10];unfold pos;omega
      have hop9:1≤op∧op+u2.length≤r.length+1:=by
       have e7:=hop1.out;have e8:=hop2.out;have e9:=hul.out;omega
      have hf9:u2.length<f:=by
       have e3:=hf.out;have e9:=hul.out;omega
      refine h4_ hmz hop9 hf9 hW5 ?_;clear hmz hop9 hf9 hW5;intro hmz hop9 hf9 hW5;by_cases h7:32767≤m
      ·have e7:decide ((32767:Int)≤(m:Int))=true:=by simp;omega
       rw[if_pos (by have:=hm.out;omega)]at hE2;subst hE2;replace h7:=hi_ h7;go_wp2
       go_ret2
       exact⟨rfl,hL.out.at_,hS.out⟩
      ·have e7:decide ((32767:Int)≤(m:Int))=false:=by simp;omega
       rw[if_neg (by have:=hm.out;omega)]at hE2;replace hE2:=hi_ hE2;replace h7:=hi_ h7;go_upto_region 23 with (fail)
       have hL2:=hL.out;have hS2:=hS.out;have hO2:=hO.out;obtain⟨Wa,hWa,hba⟩:=bH W5 5 #[.int .u8 Z];have hb1:Byt Wa (some ⟨W5.heap.size,0,none⟩) [z]:=by rw[hWa,hZ.out];exact bI W5 z 5
       have hO3:=hO2.below hba;have hL3:=hL2.below hba;have hS3:=hS2.then_ hba;have zs:=hS2.size;have za:=hba.size;refine h9_ hWa hba hb1 hL2 hS2 hO2 hL3 hS3 hO3 ?_;clear hWa hba hb1 hL2 hS2 hO2 hL3 hS3 hO3;intro hWa hba hb1 hL2 hS2 hO2 hL3 hS3 hO3;have hw8:IntKind.u8.wrap Z=Z:=by unfold IntKind.wrap;simp[IntKind.signed,IntKind.bits] <;> omega
       go_wp2_with (at_builtin;rw[←hWa.out];refine dU rfl _ _ rfl w.heap.size _ _ rfl hO3.out (some ⟨W5.heap.size,0,none⟩) 1 1 [z] rfl rfl hb1.out (fun e=>(by cases e)) (by have:=hm.out;have:=hmx.out;simp only[List.length_cons,List.length_nil];omega) (by omega) ?_;intro v' w2 hO4 hB4;replace hO4:=hi_ hO4;replace hB4:=hi_ hB4)
       have hL4:=hL3.out.belowB hB4.out hLw hAw.out;have hS4:=hS3.out.thenB hB4.out;have e1:=hL4.posOf;have e5:=hm.out;have e6:=h7.out;have e8:=hmz.out;exact⟨⟨f,op,_,_,by rw[hoi.out],hop9.out.1,hop9.out.2,hO4.out,hL4,hE2.out,hf9.out,by simp only[List.length_append,List.length_cons,List.length_nil];omega,hS4⟩,by rw[e1];exact e8⟩
   |false=>
    have hn92:x≠92:=by simpa using hx92
    rw[hx92]at h92;have ce:=fun W (h:LX L A c bs D P W (x :: t))=>pw h
    by_cases hnl:x=13∨x=10
    ·have e1:em (x :: t)=(true,dm x t):=by rw[em,if_pos hnl]
     rw[e1]at ce;have hE2:=hE.out;rw[pF hnl]at hE2;obtain⟨u2,hu2⟩:∃u,u=dm x t:=⟨_,rfl⟩;have hul:=jA x t;rw[←hu2]at ce hE2 hul;simp only[]at ce;replace ce:=hi_ ce;replace hE2:=hi_ hE2;clear e1 hnl hE;go_upto_region 18 with (first
      |(go_at_call 68;(with_reducible refine (cp.out _ hL.out).mono ?_);rintro e w1 ⟨rfl,hB⟩;replace hL:=hi_ (hL.out.below hB);replace hS:=hi_ (hS.out.then_ hB);replace q1:=hL.out.blk.cell 1;rw[←hq.out]at q1;replace v1:=hL.out.blk.frozen 1;replace hO:=hi_ (hO.out.below hB);clear hB)
      |(go_at_call 194;(with_reducible refine (ce.out _ hL.out).mono ?_);rintro e w3 ⟨rfl,hL3,hS3⟩;replace hO:=hi_ (hO.out.save_ hS3 hLw);replace hS:=hi_ (hS.out.trans hS3);replace hL:=hi_ hL3;clear hL3 hS3))
     replace hE2:=hE2.out;obtain⟨W5,hW5⟩:∃W,W=w3:=⟨_,rfl⟩;rw[←hW5]at hL hS hO⊢;have hmz:bs.length+1 - pos bs u2<bs.length+1 - posOf L wr:=by
      have e10:=hbw.out;have e11:=aB hL.out.suf;simp only[List.length_cons]at e10;rw[e10];unfold pos;omega
     have hop9:1≤op∧op+u2.length≤r.length+1:=by
      have e7:=hop1.out;have e8:=hop2.out;omega
     have hf9:u2.length<f:=by
      have e3:=hf.out;omega
     obtain⟨Z,hZ⟩:∃Z:Int,Z=((10:UInt8).toNat:Int):=⟨_,rfl⟩;have hZ10:Z=10:=hZ;refine h6_ hmz hop9 hf9 hW5 hul hu2 ?_;clear hmz hop9 hf9 hW5 hul hu2;intro hmz hop9 hf9 hW5 hul hu2;have hZ0:0≤(10:Int)∧(10:Int)≤255:=by omega
     have hZe:(10:Int)=((10:UInt8).toNat:Int):=rfl;replace hZe:=hi_ hZe;clear hZ hZ10;by_cases h7:32767≤m
     ·have e7:decide ((32767:Int)≤(m:Int))=true:=by simp;omega
      rw[if_pos (by have:=hm.out;omega)]at hE2;subst hE2;replace h7:=hi_ h7;go_wp2
      go_ret2
      exact⟨rfl,hL.out.at_,hS.out⟩
     ·have e7:decide ((32767:Int)≤(m:Int))=false:=by simp;omega
      rw[if_neg (by have:=hm.out;omega)]at hE2;replace hE2:=hi_ hE2;replace h7:=hi_ h7;go_upto_region 23 with (fail)
      have hL2:=hL.out;have hS2:=hS.out;have hO2:=hO.out;obtain⟨Wa,hWa,hba⟩:=bH W5 5 #[.int .u8 10];have hb1:Byt Wa (some ⟨W5.heap.size,0,none⟩) [10]:=by rw[hWa,hZe.out];exact bI W5 10 5
      have hO3:=hO2.below hba;have hL3:=hL2.below hba;have hS3:=hS2.then_ hba;have zs:=hS2.size;have za:=hba.size;refine h9_ hWa hba hb1 hL2 hS2 hO2 hL3 hS3 hO3 ?_;clear hWa hba hb1 hL2 hS2 hO2 hL3 hS3 hO3;intro hWa hba hb1 hL2 hS2 hO2 hL3 hS3 hO3;have hw8:IntKind.u8.wrap 10=10:=by unfold IntKind.wrap;simp[IntKind.signed,IntKind.bits] <;> omega
      go_wp2_with (at_builtin;rw[←hWa.out];refine dU rfl _ _ rfl w.heap.size _ _ rfl hO3.out (some ⟨W5.heap.size,0,none⟩) 1 1 [10] rfl rfl hb1.out (fun e=>(by cases e)) (by have:=hm.out;have:=hmx.out;simp only[List.length_cons,List.length_nil];omega) (by omega) ?_;intro v' w2 hO4 hB4;replace hO4:=hi_ hO4;replace hB4:=hi_ hB4)
      have hL4:=hL3.out.belowB hB4.out hLw hAw.out;have hS4:=hS3.out.thenB hB4.out;have e1:=hL4.posOf;have e5:=hm.out;have e6:=h7.out;have e8:=hmz.out;exact⟨⟨f,op,_,_,by rw[hoi.out],hop9.out.1,hop9.out.2,hO4.out,hL4,hE2.out,hf9.out,by simp only[List.length_append,List.length_cons,List.length_nil];omega,hS4⟩,by rw[e1];exact e8⟩
    ·have e1:em (x :: t)=(false,x :: t):=by rw[em,if_neg hnl]
     rw[e1]at ce;simp only[]at ce;have hE2:=hE.out;rw[pH hn92 hnl]at hE2;have h40:(X == 40)=(x == 40):=by rw[hX.out,aq x 40];rfl
     have h41:(X == 41)=(x == 41):=by rw[hX.out,aq x 41];rfl
     replace ce:=hi_ ce;replace hE2:=hi_ hE2;clear e1 hnl hE;cases hx41:(x == 41) with
     |true=>
      rw[hx41]at h41;obtain rfl:x=41:=by simpa using hx41
      obtain rfl:X=41:=by simpa using h41
      clear h41 h40;by_cases ho:op=1
      ·have e4:=hE2.out
       rw[if_pos ⟨rfl,ho⟩]at e4;subst e4;obtain rfl:oi=1:=by rw[hoi.out,ho];rfl
       clear hE2;go_wp2_with (first
        |(go_at_call 68;(with_reducible refine (cp.out _ hL.out).mono ?_);rintro e w1 ⟨rfl,hB⟩;replace hL:=hi_ (hL.out.below hB);replace hS:=hi_ (hS.out.then_ hB);replace q1:=hL.out.blk.cell 1;rw[←hq.out]at q1;replace v1:=hL.out.blk.frozen 1;replace hO:=hi_ (hO.out.below hB);clear hB)
        |(go_at_call 194;(with_reducible refine (ce.out _ hL.out).mono ?_);rintro e w3 ⟨rfl,hL3,hS3⟩;replace hO:=hi_ (hO.out.save_ hS3 hLw);replace hS:=hi_ (hS.out.trans hS3);replace hL:=hi_ hL3;replace q1:=hL.out.blk.cell 1;rw[←hq.out]at q1;replace v1:=hL.out.blk.frozen 1;clear hL3 hS3))
       go_ret2
       exact⟨_,rfl,hO.out.save_ ((Save.refl L w3).store 1 _) hLw,hL.out.next hq.out,hS.out.store 1 _⟩
      ·have hE3:=hE2.out
       rw[if_neg (fun h=>ho h.2),show (if (41:UInt8)=40 then op+1 else if (41:UInt8)=41 then op - 1 else op)=op - 1 from by rw[if_neg (by decide),if_pos rfl]]at hE3;clear hE2;have hoi2:2≤oi:=by have:=hop1.out;rw[hoi.out];omega
       obtain⟨o2,ho2⟩:∃o,o=op - 1:=⟨_,rfl⟩;rw[←ho2]at hE3;have ho3:oi - 1=(o2:Int):=by rw[hoi.out,ho2];have:=hop1.out;omega
       replace hE3:=hi_ hE3;replace ho3:=hi_ ho3;have ho4:1≤o2∧o2≤op:=by have:=hop1.out;omega
       replace ho4:=hi_ ho4;clear ho ho2;go_upto_region 18 with (first
        |(go_at_call 68;(with_reducible refine (cp.out _ hL.out).mono ?_);rintro e w1 ⟨rfl,hB⟩;replace hL:=hi_ (hL.out.below hB);replace hS:=hi_ (hS.out.then_ hB);replace q1:=hL.out.blk.cell 1;rw[←hq.out]at q1;replace v1:=hL.out.blk.frozen 1;replace hO:=hi_ (hO.out.below hB);clear hB)
        |(go_at_call 194;(with_reducible refine (ce.out _ hL.out).mono ?_);rintro e w3 ⟨rfl,hL3,hS3⟩;replace hO:=hi_ (hO.out.save_ hS3 hLw);replace hS:=hi_ (hS.out.trans hS3);replace hL:=hi_ hL3;replace q1:=hL.out.blk.cell 1;rw[←hq.out]at q1;replace v1:=hL.out.blk.frozen 1;clear hL3 hS3))
       obtain⟨W5,hW5⟩:∃W,W=w3.setCell ⟨L,1,none⟩ (.int .i64 (q+1)):=⟨_,rfl⟩;rw[←hW5];have hL2:LX L A c bs D P W5 t:=by rw[hW5];exact hL.out.next hq.out
       have hS2:Save L w W5:=by rw[hW5];exact hS.out.store 1 _
       have hO2:Own w.heap.size W5 (.slice Ao m co) out:=by rw[hW5];exact hO.out.save_ ((Save.refl L w3).store 1 _) hLw
       clear hL hS hO q1 v1 hms;obtain⟨hL,hS,hO⟩:Hid (LX L A c bs D P W5 t)∧Hid (Save L w W5)∧Hid (Own w.heap.size W5 (.slice Ao m co) out):=⟨Lib.hid hL2,Lib.hid hS2,Lib.hid hO2⟩;clear hL2 hS2 hO2;have hE2:=hE3.out;have hmz:bs.length+1 - pos bs t<bs.length+1 - posOf L wr:=by
        have e10:=hbw.out;have e11:=aB hL.out.suf;simp only[List.length_cons]at e10;rw[e10];unfold pos;omega
       have hop9:1≤o2∧o2+t.length≤r.length+1:=by
        have e7:=ho4.out;have e8:=hop2.out;omega
       have hf9:t.length<f:=by have e3:=hf.out;omega
       refine h4_ hmz hop9 hf9 hW5 ?_;clear hmz hop9 hf9 hW5;intro hmz hop9 hf9 hW5;clear hE3;by_cases h7:32767≤m
       ·have e7:decide ((32767:Int)≤(m:Int))=true:=by simp;omega
        rw[if_pos (by have:=hm.out;omega)]at hE2;subst hE2;replace h7:=hi_ h7;go_wp2
        go_ret2
        exact⟨rfl,hL.out.at_,hS.out⟩
       ·have e7:decide ((32767:Int)≤(m:Int))=false:=by simp;omega
        rw[if_neg (by have:=hm.out;omega)]at hE2;replace hE2:=hi_ hE2;replace h7:=hi_ h7;go_upto_region 23 with (fail)
        have hL2:=hL.out;have hS2:=hS.out;have hO2:=hO.out;obtain⟨Wa,hWa,hba⟩:=bH W5 5 #[.int .u8 41];have hb1:Byt Wa (some ⟨W5.heap.size,0,none⟩) [41]:=by rw[hWa,hX.out];exact bI W5 41 5
        have hO3:=hO2.below hba;have hL3:=hL2.below hba;have hS3:=hS2.then_ hba;have zs:=hS2.size;have za:=hba.size;refine h9_ hWa hba hb1 hL2 hS2 hO2 hL3 hS3 hO3 ?_;clear hWa hba hb1 hL2 hS2 hO2 hL3 hS3 hO3;intro hWa hba hb1 hL2 hS2 hO2 hL3 hS3 hO3;have hw8:IntKind.u8.wrap 41=41:=by unfold IntKind.wrap;simp[IntKind.signed,IntKind.bits] <;> omega
        go_wp2_with (at_builtin;rw[←hWa.out];refine dU rfl _ _ rfl w.heap.size _ _ rfl hO3.out (some ⟨W5.heap.size,0,none⟩) 1 1 [41] rfl rfl hb1.out (fun e=>(by cases e)) (by have:=hm.out;have:=hmx.out;simp only[List.length_cons,List.length_nil];omega) (by omega) ?_;intro v' w2 hO4 hB4;replace hO4:=hi_ hO4;replace hB4:=hi_ hB4)
        have hL4:=hL3.out.belowB hB4.out hLw hAw.out;have hS4:=hS3.out.thenB hB4.out;have e1:=hL4.posOf;have e5:=hm.out;have e6:=h7.out;have e8:=hmz.out;exact⟨⟨f,o2,_,_,by rw[←ho3.out],hop9.out.1,hop9.out.2,hO4.out,hL4,hE2.out,hf9.out,by simp only[List.length_append,List.length_cons,List.length_nil];omega,hS4⟩,by rw[e1];exact e8⟩
     |false=>
      rw[hx41]at h41;have hn41:¬x=41:=by simpa using hx41
      have hE4:=hE2.out;rw[if_neg (fun h=>hn41 h.1)]at hE4;clear hE2;cases hx40:(x == 40) with
      |true=>
       rw[hx40]at h40;obtain rfl:x=40:=by simpa using hx40
       obtain rfl:X=40:=by simpa using h40
       clear h40 h41;rw[if_pos rfl]at hE4;obtain⟨o2,ho2⟩:∃o,o=op+1:=⟨_,rfl⟩;rw[←ho2]at hE4;have ho3:oi+1=(o2:Int):=by rw[hoi.out,ho2];omega
       have ho4:1≤o2∧o2≤op+1:=by have:=hop1.out;omega
       have hE3:=hi_ hE4;replace ho3:=hi_ ho3;replace ho4:=hi_ ho4;clear ho2 hE4;go_upto_region 18 with (first
        |(go_at_call 68;(with_reducible refine (cp.out _ hL.out).mono ?_);rintro e w1 ⟨rfl,hB⟩;replace hL:=hi_ (hL.out.below hB);replace hS:=hi_ (hS.out.then_ hB);replace q1:=hL.out.blk.cell 1;rw[←hq.out]at q1;replace v1:=hL.out.blk.frozen 1;replace hO:=hi_ (hO.out.below hB);clear hB)
        |(go_at_call 194;(with_reducible refine (ce.out _ hL.out).mono ?_);rintro e w3 ⟨rfl,hL3,hS3⟩;replace hO:=hi_ (hO.out.save_ hS3 hLw);replace hS:=hi_ (hS.out.trans hS3);replace hL:=hi_ hL3;replace q1:=hL.out.blk.cell 1;rw[←hq.out]at q1;replace v1:=hL.out.blk.frozen 1;clear hL3 hS3))
       obtain⟨W5,hW5⟩:∃W,W=w3.setCell ⟨L,1,none⟩ (.int .i64 (q+1)):=⟨_,rfl⟩;rw[←hW5];have hL2:LX L A c bs D P W5 t:=by rw[hW5];exact hL.out.next hq.out
       have hS2:Save L w W5:=by rw[hW5];exact hS.out.store 1 _
       have hO2:Own w.heap.size W5 (.slice Ao m co) out:=by rw[hW5];exact hO.out.save_ ((Save.refl L w3).store 1 _) hLw
       clear hL hS hO q1 v1 hms;obtain⟨hL,hS,hO⟩:Hid (LX L A c bs D P W5 t)∧Hid (Save L w W5)∧Hid (Own w.heap.size W5 (.slice Ao m co) out):=⟨Lib.hid hL2,Lib.hid hS2,Lib.hid hO2⟩;clear hL2 hS2 hO2;have hE2:=hE3.out;have hmz:bs.length+1 - pos bs t<bs.length+1 - posOf L wr:=by
        have e10:=hbw.out;have e11:=aB hL.out.suf;simp only[List.length_cons]at e10;rw[e10];unfold pos;omega
       have hop9:1≤o2∧o2+t.length≤r.length+1:=by
        have e7:=ho4.out;have e8:=hop2.out;omega
       have hf9:t.length<f:=by have e3:=hf.out;omega
       refine h4_ hmz hop9 hf9 hW5 ?_;clear hmz hop9 hf9 hW5;intro hmz hop9 hf9 hW5;clear hE3;by_cases h7:32767≤m
       ·have e7:decide ((32767:Int)≤(m:Int))=true:=by simp;omega
        rw[if_pos (by have:=hm.out;omega)]at hE2;subst hE2;replace h7:=hi_ h7;go_wp2
        go_ret2
        exact⟨rfl,hL.out.at_,hS.out⟩
       ·have e7:decide ((32767:Int)≤(m:Int))=false:=by simp;omega
        rw[if_neg (by have:=hm.out;omega)]at hE2;replace hE2:=hi_ hE2;replace h7:=hi_ h7;go_upto_region 23 with (fail)
        have hL2:=hL.out;have hS2:=hS.out;have hO2:=hO.out;obtain⟨Wa,hWa,hba⟩:=bH W5 5 #[.int .u8 40];have hb1:Byt Wa (some ⟨W5.heap.size,0,none⟩) [40]:=by rw[hWa,hX.out];exact bI W5 40 5
        have hO3:=hO2.below hba;have hL3:=hL2.below hba;have hS3:=hS2.then_ hba;have zs:=hS2.size;have za:=hba.size;refine h9_ hWa hba hb1 hL2 hS2 hO2 hL3 hS3 hO3 ?_;clear hWa hba hb1 hL2 hS2 hO2 hL3 hS3 hO3;intro hWa hba hb1 hL2 hS2 hO2 hL3 hS3 hO3;have hw8:IntKind.u8.wrap 40=40:=by unfold IntKind.wrap;simp[IntKind.signed,IntKind.bits] <;> omega
        go_wp2_with (at_builtin;rw[←hWa.out];refine dU rfl _ _ rfl w.heap.size _ _ rfl hO3.out (some ⟨W5.heap.size,0,none⟩) 1 1 [40] rfl rfl hb1.out (fun e=>(by cases e)) (by have:=hm.out;have:=hmx.out;simp only[List.length_cons,List.length_nil];omega) (by omega) ?_;intro v' w2 hO4 hB4;replace hO4:=hi_ hO4;replace hB4:=hi_ hB4)
        have hL4:=hL3.out.belowB hB4.out hLw hAw.out;have hS4:=hS3.out.thenB hB4.out;have e1:=hL4.posOf;have e5:=hm.out;have e6:=h7.out;have e8:=hmz.out;exact⟨⟨f,o2,_,_,by rw[←ho3.out],hop9.out.1,hop9.out.2,hO4.out,hL4,hE2.out,hf9.out,by simp only[List.length_append,List.length_cons,List.length_nil];omega,hS4⟩,by rw[e1];exact e8⟩
      |false=>
       rw[hx40]at h40;have hn40:¬x=40:=by simpa using hx40
       rw[if_neg hn40,if_neg hn41]at hE4;have hE3:=hi_ hE4;have ho4:1≤op∧op≤op+1:=by have:=hop1.out;omega
       replace ho4:=hi_ ho4;clear hE4;go_upto_region 18 with (first
        |(go_at_call 68;(with_reducible refine (cp.out _ hL.out).mono ?_);rintro e w1 ⟨rfl,hB⟩;replace hL:=hi_ (hL.out.below hB);replace hS:=hi_ (hS.out.then_ hB);replace q1:=hL.out.blk.cell 1;rw[←hq.out]at q1;replace v1:=hL.out.blk.frozen 1;replace hO:=hi_ (hO.out.below hB);clear hB)
        |(go_at_call 194;(with_reducible refine (ce.out _ hL.out).mono ?_);rintro e w3 ⟨rfl,hL3,hS3⟩;replace hO:=hi_ (hO.out.save_ hS3 hLw);replace hS:=hi_ (hS.out.trans hS3);replace hL:=hi_ hL3;replace q1:=hL.out.blk.cell 1;rw[←hq.out]at q1;replace v1:=hL.out.blk.frozen 1;clear hL3 hS3))
       obtain⟨W5,hW5⟩:∃W,W=w3.setCell ⟨L,1,none⟩ (.int .i64 (q+1)):=⟨_,rfl⟩;rw[←hW5];have hL2:LX L A c bs D P W5 t:=by rw[hW5];exact hL.out.next hq.out
       have hS2:Save L w W5:=by rw[hW5];exact hS.out.store 1 _
       have hO2:Own w.heap.size W5 (.slice Ao m co) out:=by rw[hW5];exact hO.out.save_ ((Save.refl L w3).store 1 _) hLw
       clear hL hS hO q1 v1 hms;obtain⟨hL,hS,hO⟩:Hid (LX L A c bs D P W5 t)∧Hid (Save L w W5)∧Hid (Own w.heap.size W5 (.slice Ao m co) out):=⟨Lib.hid hL2,Lib.hid hS2,Lib.hid hO2⟩;clear hL2 hS2 hO2;have hE2:=hE3.out;have hmz:bs.length+1 - pos bs t<bs.length+1 - posOf L wr:=by
        have e10:=hbw.out;have e11:=aB hL.out.suf;simp only[List.length_cons]at e10;rw[e10];unfold pos;omega
       have hop9:1≤op∧op+t.length≤r.length+1:=by
        have e7:=ho4.out;have e8:=hop2.out;omega
       have hf9:t.length<f:=by have e3:=hf.out;omega
       refine h4_ hmz hop9 hf9 hW5 ?_;clear hmz hop9 hf9 hW5;intro hmz hop9 hf9 hW5;clear hE3;by_cases h7:32767≤m
       ·have e7:decide ((32767:Int)≤(m:Int))=true:=by simp;omega
        rw[if_pos (by have:=hm.out;omega)]at hE2;subst hE2;replace h7:=hi_ h7;go_wp2
        go_ret2
        exact⟨rfl,hL.out.at_,hS.out⟩
       ·have e7:decide ((32767:Int)≤(m:Int))=false:=by simp;omega
        rw[if_neg (by have:=hm.out;omega)]at hE2;replace hE2:=hi_ hE2;replace h7:=hi_ h7;go_upto_region 23 with (fail)
        have hL2:=hL.out;have hS2:=hS.out;have hO2:=hO.out;obtain⟨Wa,hWa,hba⟩:=bH W5 5 #[.int .u8 X];have hb1:Byt Wa (some ⟨W5.heap.size,0,none⟩) [x]:=by rw[hWa,hX.out];exact bI W5 x 5
        have hO3:=hO2.below hba;have hL3:=hL2.below hba;have hS3:=hS2.then_ hba;have zs:=hS2.size;have za:=hba.size;refine h9_ hWa hba hb1 hL2 hS2 hO2 hL3 hS3 hO3 ?_;clear hWa hba hb1 hL2 hS2 hO2 hL3 hS3 hO3;intro hWa hba hb1 hL2 hS2 hO2 hL3 hS3 hO3;have hw8:IntKind.u8.wrap X=X:=by unfold IntKind.wrap;simp[IntKind.signed,IntKind.bits] <;> omega
        go_wp2_with (at_builtin;rw[←hWa.out];refine dU rfl _ _ rfl w.heap.size _ _ rfl hO3.out (some ⟨W5.heap.size,0,none⟩) 1 1 [x] rfl rfl hb1.out (fun e=>(by cases e)) (by have:=hm.out;have:=hmx.out;simp only[List.length_cons,List.length_nil];omega) (by omega) ?_;intro v' w2 hO4 hB4;replace hO4:=hi_ hO4;replace hB4:=hi_ hB4)
        have hL4:=hL3.out.belowB hB4.out hLw hAw.out;have hS4:=hS3.out.thenB hB4.out;have e1:=hL4.posOf;have e5:=hm.out;have e6:=h7.out;have e8:=hmz.out;exact⟨⟨f,op,_,_,by rw[hoi.out],hop9.out.1,hop9.out.2,hO4.out,hL4,hE2.out,hf9.out,by simp only[List.length_append,List.length_cons,List.length_nil];omega,hS4⟩,by rw[e1];exact e8⟩
end
section
variable {L:Nat}{A:Option Addr}{c:Nat}{bs:Bs}{D P:Value}{w w':World}{r r':Bs}
theorem oB {f:Nat}{h:Int}{out t:Bs}{x:UInt8}(hw:aY x=false):bm (f+1) h out (x :: t) =
 if x=62 then (if h<0 then .ok out t else if 32767≤out.length then .err 3 t else .ok (out++[UInt8.ofNat (16*h).toNat]) t)
 else if bM x.toNat<0 then .err 4 t else if h<0 then bm f (bM x.toNat) out t else if 32767≤out.length then .err 3 t else bm f (-1) (out++[UInt8.ofNat (16*h+bM x.toNat).toNat]) t:=by
 rw[bm,hw,if_neg (by decide)]
theorem sH (h:LX L A c bs D P w r):Calls Tryz.prog 160 #[.pointer (some ⟨L,0,none⟩)] w (sa L A c bs D P w (bm (r.length+1) (-1) [] r)):=by
 obtain⟨R,hR⟩:∃R,R=bm (r.length+1) (-1) [] r:=⟨_,rfl⟩;rw[←hR];have hLw:=h.lt;have hAw:=h.a_lt;refine h3_ hAw hR h ?_;clear hAw hR h;intro hAw hR h;go_enter Tryz.func160,Tryz.ntmps160;go_wp2
 go_loopw [4,5] (fun s4 s5 wr=>∃f half out r1,s5=.int .i64 half∧-1≤half∧half≤15∧Own w.heap.size wr s4 out∧LX L A c bs D P wr r1∧bm f half out r1=R∧r1.length<f∧out.length≤32767∧Save L w wr) (fun _ _ wr=>bs.length+1 - posOf L wr)
 case atStart=>exact⟨_,-1,_,r,rfl,by omega,by omega,Own.nil _ _,h.out,hR.out.symm,Nat.lt_succ_self _,by simp,Save.refl _ _⟩
 case round=>
  obtain⟨f,half,out,r1,rfl,hh1,hh2,hO,hL,hE,hf,hmx,hS⟩:=hrel;have hms:=hL.posOf;obtain⟨f,rfl⟩:∃g,f=g+1:=⟨f - 1,by omega⟩;clear h hR;obtain⟨Ao,co,rfl,hby,hA⟩:=hO.out (by unfold maxLen;omega);obtain⟨m,hm⟩:∃m,m=out.length:=⟨_,rfl⟩;rw[←hm]at hmx hO⊢;clear hby hA;replace hm:=hi_ hm;replace hmx:=hi_ hmx;obtain⟨q,hq,hq0,hq1⟩:=hL.pos_i;have q1:=hL.blk.cell 1;have v1:=hL.blk.frozen 1;rw[←hq]at q1;replace hq:=hi_ hq;replace hms:=hi_ hms;cases r1 with
  |nil=>
   have e4:R=.err 2 []:=by rw[←hE,bm]
   subst e4;have cp:=fun W h=>dr (L:=L) (A:=A) (c:=c) (bs:=bs) (D:=D) (P:=P) W h
   have cd:=fun W=>fs (w:=W) (-1) (by omega)
   rw[show bM (-1)= -1 from rfl]at cd;refine h5_ cd cp hL hS hO ?_;clear cd cp hL hS hO;intro cd cp hL hS hO;clear hE;go_wp2_with (first
    |(go_at_call 68;(with_reducible refine (cp.out _ hL.out).mono ?_);rintro e w1 ⟨rfl,hB⟩;replace hL:=hi_ (hL.out.below hB);replace hS:=hi_ (hS.out.then_ hB);replace q1:=hL.out.blk.cell 1;rw[←hq.out]at q1;replace v1:=hL.out.blk.frozen 1;replace hO:=hi_ (hO.out.below hB);clear hB)
    |(go_at_call 192;(with_reducible refine (cd.out _).mono ?_);rintro e w2 ⟨rfl,rfl⟩))
   go_ret2
   exact⟨rfl,⟨_,hL.out.blk.set_ 1 _⟩,hS.out.store 1 _⟩
  |cons x t=>
   obtain⟨X,hX⟩:=aT (x.toNat:Int);have hX0:0≤X∧X≤255:=by rw[hX.out];have:=x.toNat_lt;omega
   have cp:=fun W h=>aH (L:=L) (A:=A) (c:=c) (bs:=bs) (D:=D) (P:=P) (x:=x) (t:=t) X hX.out W h
   have hpc:=bU hL.suf;have cw:=fun W=>ft (w:=W) X
   have hw:gh X=aY x:=by rw[hX.out];exact eC x
   rw[hw]at cw;have cd:=fun W=>fs (w:=W) X (by omega)
   obtain⟨d,hd⟩:∃d,d=bM X:=⟨_,rfl⟩;have rd:=fJ X;rw[←hd]at cd rd;have h62:(X == 62)=(x == 62):=by rw[hX.out,aq x 62];rfl
   simp only[List.length_cons]at hf;refine h9_ hw hd cp cw cd hpc hL hS hE ?_;clear hw hd cp cw cd hpc hL hS hE;intro hw hd cp cw cd hpc hL hS hE;replace hO:=hi_ hO;replace hf:=hi_ hf;go_upto_region 5 with (go_at_call 68;(with_reducible refine (cp.out _ hL.out).mono ?_);rintro e w1 ⟨rfl,hB⟩;replace hL:=hi_ (hL.out.below hB);replace hS:=hi_ (hS.out.then_ hB);replace q1:=hL.out.blk.cell 1;rw[←hq.out]at q1;replace v1:=hL.out.blk.frozen 1;replace hO:=hi_ (hO.out.below hB);clear hB)
   obtain⟨W2,hW2⟩:∃W,W=w1.setCell ⟨L,1,none⟩ (.int .i64 (q+1)):=⟨_,rfl⟩;rw[←hW2];have hL2:LX L A c bs D P W2 t:=by rw[hW2];exact hL.out.next hq.out
   have hS2:Save L w W2:=by rw[hW2];exact hS.out.store 1 _
   have hO2:Own w.heap.size W2 (.slice Ao m co) out:=by rw[hW2];exact hO.out.save_ ((Save.refl L w1).store 1 _) hLw
   have hmz:bs.length+1 - posOf L W2<bs.length+1 - posOf L wr:=by
    have e1:=hL2.posOf;have e2:=hms.out;have e3:=hpc.out;rw[e1,e2];omega
   replace hmz:=hi_ hmz;have hpz:posOf L W2=pos bs t:=hL2.posOf;replace hpz:=hi_ hpz;replace hW2:=hi_ hW2;clear hL hS hO q1 v1 hms hpc;obtain⟨hL,hS,hO⟩:Hid (LX L A c bs D P W2 t)∧Hid (Save L w W2)∧Hid (Own w.heap.size W2 (.slice Ao m co) out):=⟨Lib.hid hL2,Lib.hid hS2,Lib.hid hO2⟩;clear hL2 hS2 hO2;cases hwx:aY x with
   |true=>
    rw[hwx]at cw;have e4:bm f half out t=R:=by rw[←hE.out,bm,hwx,if_pos rfl]
    replace e4:=hi_ e4;clear hE;go_wp2_with (first|((first|(go_at_call 192;(with_reducible refine (cd.out _).mono ?_))|(go_at_call 34;(with_reducible refine (cw.out _).mono ?_)));rintro e w2 ⟨rfl,rfl⟩))
    have e3:=hf.out;have e6:=hm.out;have e7:=hmx.out;exact⟨⟨f,half,out,t,rfl,hh1,hh2,hO.out,hL.out,e4.out,by omega,by omega,hS.out⟩,hmz.out⟩
   |false=>
    rw[hwx]at cw;have hE2:=hE.out;rw[oB hwx,←hX.out,←hd.out]at hE2;clear hE;cases hx62:(x == 62) with
    |true=>
     rw[hx62]at h62;rw[if_pos (by simpa using hx62)]at hE2;obtain rfl:X=62:=by simpa using h62
     clear h62;by_cases hh:half<0
     ·rw[if_pos hh]at hE2
      subst hE2;go_wp2_with (first|((first|(go_at_call 192;(with_reducible refine (cd.out _).mono ?_))|(go_at_call 34;(with_reducible refine (cw.out _).mono ?_)));rintro e w2 ⟨rfl,rfl⟩))
      go_ret2
      exact⟨_,rfl,hO.out,hL.out,hS.out⟩
     ·rw[if_neg hh]at hE2
      have hh3:0≤half:=by omega
      have hh4:decide (half<0)=false:=by simp;omega
      clear hh;by_cases h7:32767≤m
      ·have e7:decide ((32767:Int)≤(m:Int))=true:=by simp;omega
       rw[if_pos (by have:=hm.out;omega)]at hE2;subst hE2;replace h7:=hi_ h7;go_wp2_with (first|((first|(go_at_call 192;(with_reducible refine (cd.out _).mono ?_))|(go_at_call 34;(with_reducible refine (cw.out _).mono ?_)));rintro e w2 ⟨rfl,rfl⟩))
       go_ret2
       exact⟨rfl,hL.out.at_,hS.out⟩
      ·have e7:decide ((32767:Int)≤(m:Int))=false:=by simp;omega
       rw[if_neg (by have:=hm.out;omega)]at hE2;obtain⟨z,hz⟩:∃z:UInt8,z=UInt8.ofNat (16*half).toNat:=⟨_,rfl⟩;have hX2:16*half=(z.toNat:Int):=by
        rw[hz,UInt8.toNat_ofNat_of_lt' (show (16*half).toNat<256 by omega)];omega
       rw[←hz]at hE2;subst hE2;refine h3_ h7 hX2 hz ?_;clear h7 hX2 hz;intro h7 hX2 hz;go_upto_region 19 with (first|((first|(go_at_call 192;(with_reducible refine (cd.out _).mono ?_))|(go_at_call 34;(with_reducible refine (cw.out _).mono ?_)));rintro e w2 ⟨rfl,rfl⟩))
       have hL2:=hL.out;have hS2:=hS.out;have hO2:=hO.out;clear hh4;obtain⟨Wa,hWa,hba⟩:=bH W2 5 #[.int .u8 (16*half)];have hb1:Byt Wa (some ⟨W2.heap.size,0,none⟩) [z]:=by rw[hWa,hX2.out];exact bI W2 z 5
       have hO3:=hO2.below hba;have hL3:=hL2.below hba;have hS3:=hS2.then_ hba;have zs:=hS2.size;have za:=hba.size;refine h9_ hWa hba hb1 hL2 hS2 hO2 hL3 hS3 hO3 ?_;clear hWa hba hb1 hL2 hS2 hO2 hL3 hS3 hO3;intro hWa hba hb1 hL2 hS2 hO2 hL3 hS3 hO3;have hw8:IntKind.u8.wrap (16*half)=(16*half):=by unfold IntKind.wrap;simp[IntKind.signed,IntKind.bits] <;> omega
       go_wp2_with (at_builtin;rw[←hWa.out];refine dU rfl _ _ rfl w.heap.size _ _ rfl hO3.out (some ⟨W2.heap.size,0,none⟩) 1 1 [z] rfl rfl hb1.out (fun e=>(by cases e)) (by have:=hm.out;have:=hmx.out;simp only[List.length_cons,List.length_nil];omega) (by omega) ?_;intro v' w2 hO4 hB4;replace hO4:=hi_ hO4;replace hB4:=hi_ hB4)
       have hL4:=hL3.out.belowB hB4.out hLw hAw.out;have hS4:=hS3.out.thenB hB4.out;replace hL4:=hi_ hL4;replace hS4:=hi_ hS4
       go_ret2
       exact⟨_,rfl,hO4.out,hL4.out,hS4.out⟩
    |false=>
     rw[hx62]at h62;rw[if_neg (by simpa using hx62)]at hE2;by_cases hdn:d<0
     ·rw[if_pos hdn]at hE2
      subst hE2;go_wp2_with (first|((first|(go_at_call 192;(with_reducible refine (cd.out _).mono ?_))|(go_at_call 34;(with_reducible refine (cw.out _).mono ?_)));rintro e w2 ⟨rfl,rfl⟩))
      go_ret2
      exact⟨rfl,hL.out.at_,hS.out⟩
     ·rw[if_neg hdn]at hE2
      have hd0:0≤d:=by omega
      clear hdn;by_cases hh:half<0
      ·rw[if_pos hh]at hE2
       replace hE2:=hi_ hE2;go_wp2_with (first|((first|(go_at_call 192;(with_reducible refine (cd.out _).mono ?_))|(go_at_call 34;(with_reducible refine (cw.out _).mono ?_)));rintro e w2 ⟨rfl,rfl⟩))
       have e3:=hf.out;have e6:=hm.out;have e7:=hmx.out;exact⟨⟨f,d,out,t,rfl,by omega,rd.2,hO.out,hL.out,hE2.out,by omega,by omega,hS.out⟩,hmz.out⟩
      ·rw[if_neg hh]at hE2
       have hh3:0≤half:=by omega
       clear hh;by_cases h7:32767≤m
       ·have e7:decide ((32767:Int)≤(m:Int))=true:=by simp;omega
        rw[if_pos (by have:=hm.out;omega)]at hE2;subst hE2;replace h7:=hi_ h7;go_wp2_with (first|((first|(go_at_call 192;(with_reducible refine (cd.out _).mono ?_))|(go_at_call 34;(with_reducible refine (cw.out _).mono ?_)));rintro e w2 ⟨rfl,rfl⟩))
        go_ret2
        exact⟨rfl,hL.out.at_,hS.out⟩
       ·have e7:decide ((32767:Int)≤(m:Int))=false:=by simp;omega
        rw[if_neg (by have:=hm.out;omega)]at hE2;obtain⟨z,hz⟩:∃z:UInt8,z=UInt8.ofNat (16*half+d).toNat:=⟨_,rfl⟩;have hX2:16*half+d=(z.toNat:Int):=by
         rw[hz,UInt8.toNat_ofNat_of_lt' (show (16*half+d).toNat<256 by omega)];omega
        rw[←hz]at hE2;refine h4_ hE2 h7 hX2 hz ?_;clear hE2 h7 hX2 hz;intro hE2 h7 hX2 hz;go_upto_region 19 with (first|((first|(go_at_call 192;(with_reducible refine (cd.out _).mono ?_))|(go_at_call 34;(with_reducible refine (cw.out _).mono ?_)));rintro e w2 ⟨rfl,rfl⟩))
        have hL2:=hL.out;have hS2:=hS.out;have hO2:=hO.out;obtain⟨Wa,hWa,hba⟩:=bH W2 5 #[.int .u8 (16*half+d)];have hb1:Byt Wa (some ⟨W2.heap.size,0,none⟩) [z]:=by rw[hWa,hX2.out];exact bI W2 z 5
        have hO3:=hO2.below hba;have hL3:=hL2.below hba;have hS3:=hS2.then_ hba;have zs:=hS2.size;have za:=hba.size;refine h9_ hWa hba hb1 hL2 hS2 hO2 hL3 hS3 hO3 ?_;clear hWa hba hb1 hL2 hS2 hO2 hL3 hS3 hO3;intro hWa hba hb1 hL2 hS2 hO2 hL3 hS3 hO3;have hw8:IntKind.u8.wrap (16*half+d)=(16*half+d):=by unfold IntKind.wrap;simp[IntKind.signed,IntKind.bits] <;> omega
        go_wp2_with (at_builtin;rw[←hWa.out];refine dU rfl _ _ rfl w.heap.size _ _ rfl hO3.out (some ⟨W2.heap.size,0,none⟩) 1 1 [z] rfl rfl hb1.out (fun e=>(by cases e)) (by have:=hm.out;have:=hmx.out;simp only[List.length_cons,List.length_nil];omega) (by omega) ?_;intro v' w2 hO4 hB4;replace hO4:=hi_ hO4;replace hB4:=hi_ hB4)
        have hL4:=hL3.out.belowB hB4.out hLw hAw.out;have hS4:=hS3.out.thenB hB4.out;have e1:=hL4.posOf;have e2:=hpz.out;have e3:=hf.out;have e5:=hm.out;have e6:=h7.out;have e8:=hmz.out;exact⟨⟨f,-1,_,t,rfl,by omega,by omega,hO4.out,hL4,hE2.out,by omega,by simp only[List.length_append,List.length_cons,List.length_nil];omega,hS4⟩,by rw[e1,←e2];exact e8⟩
end
end Go.Proofs.YthffpbkndnhlfaaGreatDoor
