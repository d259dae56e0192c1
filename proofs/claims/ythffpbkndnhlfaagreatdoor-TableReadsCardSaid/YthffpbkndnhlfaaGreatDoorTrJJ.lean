/- Walks and laws, joined: part J. No condition. -/
import Derived.Test.YthffpbkndnhlfaaGreatDoorTrJI
import Derived.Test.YthffpbkndnhlfaaGreatDoorTrJF
import Derived.Test.YthffpbkndnhlfaaGreatDoorTrJA
import Derived.Deep.QuietTactic
import Derived.BigQuiet
import Derived.Test.YthffpbkndnhlfaaGreatDoorTrJD
set_option linter.unusedSimpArgs false
set_option linter.unusedVariables false
set_option maxRecDepth 100000
set_option maxHeartbeats 32000000
namespace Go.Proofs.YthffpbkndnhlfaaGreatDoor
open Go Go.RowKit Go.Wk
theorem bo (w:World) (n:Nat):Below w.heap.size w (w.drewN n):=⟨rfl,rfl,rfl,Nat.le_refl _,fun _ _=>rfl⟩
def GW (Q:Nat) (v0:Value) (KB:ByteArray) (ag:Array Value) (B:Nat) (X:Ob):Nat→Value→World→Prop:=fun j v w=>match j with
 |0=>v=v0
 |1=>v=.pointer (some ⟨Q,0,none⟩)
 |2=>v=.string KB
 |3=>v=.pointer (some ⟨Q,1,none⟩)
 |4=>v=.agg ag
 |5=>∃a b c e f lo hi,v=.agg #[a,b,c,e,f]∧B≤lo∧ObI lo hi w X [a,b,c,e,f]
 |6=>∃a b c e f lo hi,v=.agg #[.string KB,a,b,c,e,f]∧B≤lo∧ObI lo hi w X [a,b,c,e,f]
 |_=>∃a b c e f lo hi g,v=.slice (some ⟨g,0,none⟩) 1 1∧B≤lo∧ObI lo hi w X [a,b,c,e,f]∧w.ownsRow g 91 6 v 1 [.string KB,a,b,c,e,f]
theorem lI {Q:Nat}{v0:Value}{KB:ByteArray}{ag:Array Value}{B:Nat}{X:Ob}(j:Nat) (v:Value) (w w':World) (hG:GW Q v0 KB ag B X j v w) (hk:Below w.heap.size w w'):GW Q v0 KB ag B X j v w':=by
 unfold GW at hG⊢;split at hG <;> first
  |exact hG
  |(obtain⟨a,b,c,e,f,lo,hi,h0,h1,h2⟩:=hG;exact⟨a,b,c,e,f,lo,hi,h0,h1,aF h2 hk⟩)
  |(obtain⟨a,b,c,e,f,lo,hi,g,h0,h1,h2,h3⟩:=hG;exact⟨a,b,c,e,f,lo,hi,g,h0,h1,aF h2 hk,am h3 (fun q _ hq=>hk.block q hq)⟩)
section
open Go Go.RowKit Go.Wk Go.Rd Go.Fx
section
variable {L:Nat}{A:Option Addr}{c:Nat}{bs:Bs}{D P:Value}{w w':World}{r r' u:Bs}{k:Tok}
theorem pP {n:Int}(h:ar r=.err n u):u=af false r:=by
 unfold ar at h;have key:∀B:Bs,tokA B=.err n u→u=B:=fun B h=>by
  cases B with
  |nil=>rw[tokA]at h;cases h
  |cons x t=>
   rw[tokA]at h;have ht:∀k R,bw k (x :: t) R=.err n u→u=x :: t:=fun k R h=>by
    cases R with
    |ok b v=>cases h
    |err e v=>cases h;rfl
   unfold dS at h
   repeat' split at h
   all_goals first
    |(cases h;done)
    |(cases h;rfl)
    |exact ht _ _ h
 exact key _ h
theorem dO (h:LX L A c bs D P w r) (ht:ar r=.ok k u) {at':Int}(ha:at'=(pos bs (af false r):Nat)):Calls Tryz.prog 96 #[.pointer (some ⟨L,0,none⟩)] w fun e w'=>∃Av cv,e=.returned (.tuple #[.agg #[.int .i64 k.k,.int .i64 at',.int .i64 k.n,.slice Av k.b.length cv],.int .i64 0])∧Own w.heap.size w' (.slice Av k.b.length cv) k.b∧LX L A c bs D P w' u∧Save L w w':=by
 refine (km h).mono fun e w' hq=>?_
 unfold qh at hq;rw[ht]at hq;obtain⟨v,rfl,h1,h2,h3⟩:=hq;obtain⟨Av,cv,rfl,_⟩:=h1.out2 h1.len;exact⟨Av,cv,by rw[ha],h1,h2,h3⟩
theorem eZ {n:Int}(h:LX L A c bs D P w r) (ht:ar r=.err n u) {at':Int}(ha:at'=(pos bs (af false r):Nat)):Calls Tryz.prog 96 #[.pointer (some ⟨L,0,none⟩)] w fun e w'=>n≠0∧e=.returned (.tuple #[.agg #[.int .i64 0,.int .i64 at',.int .i64 0,.slice none 0 0],.int .i64 n])∧LX L A c bs D P w' u∧Save L w w':=by
 have hu:=pP ht;refine (km h).mono fun e w' hq=>?_
 unfold qh at hq;rw[ht]at hq;obtain⟨h0,rfl,h2,h3⟩:=hq;exact⟨h0,by rw[ha],by rw[hu];exact h2,h3⟩
theorem mq (h:LX L A c bs D P w r) (hr:r' <:+bs) {at':Int}(ha:at'=(pos bs r':Nat)) (n:Int):Calls Tryz.prog 97 #[.pointer (some ⟨L,0,none⟩),.int .i64 at',.int .i64 n] w fun e w'=>e=.returned (.tuple #[.agg #[.int .i64 0,.int .i64 0,.slice none 0 0,.slice none 0 0,.slice none 0 0],.int .i64 n])∧LX L A c bs D P w' r'∧Save L w w':=by
 have hLw:=h.lt;have hAw:=h.a_lt;obtain⟨W1,hW1,b1,hR1⟩:=ak w 32 #[.int .i64 0,.int .i64 0,.slice none 0 0,.slice none 0 0,.slice none 0 0];have hL1:=h.below b1;have l1:=hL1.blk.cell 1;have v1:=hL1.blk.frozen 1;have hne:w.heap.size≠L:=by omega
 obtain⟨p0,p1,p2,p3,p4,f0,f1,f2,f3,f4⟩:=hR1.b5;refine h6_ h hL1 b1 hR1 ha hAw ?_;clear h hL1 b1 hR1 ha hAw;intro h hL1 b1 hR1 ha hAw;go_enter Tryz.func97,Tryz.ntmps97;go_upto_region 1 with (fail)
 rw[←hW1];replace hW1:=hi_ hW1;go_wp2
 obtain⟨W2,hW2⟩:∃W,W=W1.setCell ⟨L,1,none⟩ (.int .i64 at'):=⟨_,rfl⟩;rw[←hW2];have hL2:LX L A c bs D P W2 r':=by rw[hW2,ha.out];exact hL1.out.go hr
 have hS2:Save L w W2:=by rw[hW2];exact (Save.of_below b1.out).store 1 _
 have hR2:Blk W2 w.heap.size 32 #[.int .i64 0,.int .i64 0,.slice none 0 0,.slice none 0 0,.slice none 0 0]:=by rw[hW2];exact hR1.out.far (p:=⟨L,1,none⟩) hne _
 generalize hWf:World.setCell _ _ _=Wf;replace hWf:=hWf.symm;obtain⟨hbf,hgf,hzf⟩:=dt hR2 hWf;obtain⟨u0,u1,u2,u3,u4,-⟩:=hbf.b5;have hLf:=hL2.grown_ hgf hne.symm (fun h0 x hx=>by have:=hAw.out h0 x hx;omega);have hSf:=hS2.grown_ hgf (Nat.le_refl _);refine h3_ hLf hSf hWf ?_;clear hLf hSf hWf;intro hLf hSf hWf;clear hbf hgf;exact bodyPost_ret (by simp[results,Tryz.results97,go_sem,u0,u1,u2,u3,u4];try rfl) rfl ⟨rfl,hLf.out,hSf.out⟩
theorem kE {n:Int}(h:¬(1≤n∧n≤8388607)) (pl:Bool):aZ pl n r=(.mk 2 n [] [] [],r):=by unfold aZ;rw[if_neg (fun h'=>h ⟨h'.1,h'.2.1⟩)]
theorem qc {n:Int}:aZ true n r=(.mk 2 n [] [] [],r):=by unfold aZ;rw[if_neg (fun h'=>by cases h'.2.2)]
theorem qa {n e:Int}(h:ar r=.err e u):aZ false n r=(.mk 2 n [] [] [],r):=by unfold aZ;rw[h];split <;> rfl
theorem kC {n:Int}(h:ar r=.ok k u) (hk:¬(k.k=1∧k.n=0)):aZ false n r=(.mk 2 n [] [] [],r):=by unfold aZ;rw[h];simp only[if_neg hk];split <;> rfl
theorem qb {n e:Int}{v:Bs}(h:ar r=.ok k u) (h2:ar u=.err e v):aZ false n r=(.mk 2 n [] [] [],r):=by unfold aZ;rw[h];simp only[h2];split <;> (try split) <;> rfl
theorem kD {n:Int}{v:Bs}{s:Tok}(h:ar r=.ok k u) (h2:ar u=.ok s v) (hs:¬(s.k=9∧s.b=[82])):aZ false n r=(.mk 2 n [] [] [],r):=by unfold aZ;rw[h];simp only[h2,if_neg hs];split <;> (try split) <;> rfl
theorem ny {n:Int}{v:Bs}{s:Tok}(hn:1≤n∧n≤8388607) (h:ar r=.ok k u) (hk:k.k=1∧k.n=0) (h2:ar u=.ok s v) (hs:s.k=9∧s.b=[82]):aZ false n r=(.mk 9 n [] [] [],v):=by unfold aZ;rw[if_pos ⟨hn.1,hn.2,rfl⟩,h];simp only[if_pos hk,h2,if_pos hs]
theorem aw {rb:Nat}{W Wf:World}{kk n:Int}(hS:Save L w W) (hL:LX L A c bs D P W r) (hR:Blk W rb 32 #[.int .i64 0,.int .i64 0,.slice none 0 0,.slice none 0 0,.slice none 0 0]) (hrb:w.heap.size≤rb) (hne:L≠rb) (hAw:0<bs.length→∀x,A=some x→x.block<w.heap.size)
 (hWf:Wf=((((W.setCell ⟨rb,0,none⟩ (.int .i64 kk)).setCell ⟨rb,1,none⟩ (.int .i64 n)).setCell ⟨rb,2,none⟩ (.slice none 0 0)).setCell ⟨rb,3,none⟩ (.slice none 0 0)).setCell ⟨rb,4,none⟩ (.slice none 0 0)) :
 Blk Wf rb 32 #[.int .i64 kk,.int .i64 n,.slice none 0 0,.slice none 0 0,.slice none 0 0]∧LX L A c bs D P Wf r∧Save L w Wf:=by
 obtain⟨hbf,hgf,hzf⟩:=dt hR hWf;exact⟨hbf,hL.grown_ hgf hne (fun h0 x hx=>by have:=hAw h0 x hx;omega),hS.grown_ hgf hrb⟩
theorem tT {pl:Bool}{kk n:Int}{at1 v1:Value}(hn:n<1) (h:LX L A c bs D (.bool pl) w r):Calls Tryz.prog 98 #[.pointer (some ⟨L,0,none⟩),.agg #[.int .i64 kk,at1,.int .i64 n,v1]] w fun e w'=>∃k',e=.returned (.agg #[.int .i64 k',.int .i64 n,.slice none 0 0,.slice none 0 0,.slice none 0 0])∧k'=2∧LX L A c bs D (.bool pl) w' r∧Save L w w':=by
 have hLw:=h.lt;have hAw:=h.a_lt;obtain⟨W1,hW1⟩:∃W,W=(w.alloc (.cells #[.int .i64 kk,at1,.int .i64 n,v1] 119)).alloc (.cells #[.int .i64 0,.int .i64 0,.slice none 0 0,.slice none 0 0,.slice none 0 0] 32):=⟨_,rfl⟩;have b1:Below w.heap.size w W1:=by rw[hW1];exact ((Below.refl _ _).alloc (Nat.le_refl _) _).alloc (by rw[World.size_alloc];omega) _
 have hT1:Blk W1 w.heap.size 119 #[.int .i64 kk,at1,.int .i64 n,v1]:=by rw[hW1];exact (Blk.new w _ _).alloc _
 have hR1:Blk W1 (w.heap.size+1) 32 #[.int .i64 0,.int .i64 0,.slice none 0 0,.slice none 0 0,.slice none 0 0]:=by
  rw[hW1,show w.heap.size+1=(w.alloc (.cells #[.int .i64 kk,at1,.int .i64 n,v1] 119)).heap.size from (World.size_alloc _ _).symm];exact Blk.new _ _ _
 have hL1:=h.below b1;have hS1:Save L w W1:=Save.of_below b1;obtain⟨q,hq⟩:∃q:Int,q=(pos bs r:Nat):=⟨_,rfl⟩;have hneT:w.heap.size≠L:=by omega
 have hneR:w.heap.size+1≠L:=by omega
 have hsuf:=h.suf;obtain⟨hL,hS,hT,hR⟩:Hid (LX L A c bs D (.bool pl) W1 r)∧Hid (Save L w W1)∧Hid (Blk W1 w.heap.size 119 #[.int .i64 kk,at1,.int .i64 n,v1])∧Hid (Blk W1 (w.heap.size+1) 32 #[.int .i64 0,.int .i64 0,.slice none 0 0,.slice none 0 0,.slice none 0 0]):=⟨Lib.hid hL1,Lib.hid hS1,Lib.hid hT1,Lib.hid hR1⟩;have l1:=hL1.blk.cell 1;rw[←hq]at l1;have l3:=hL1.blk.cell 3;have lv:=hL1.blk.frozen 1;have t2:=hT1.cell 2;obtain⟨p0,p1,p2,p3,p4,f0,f1,f2,f3,f4⟩:=hR1.b5;refine h3_ h hq hsuf ?_;clear h hq hsuf;intro h hq hsuf;clear hL1 hS1 hT1 hR1 b1;go_enter Tryz.func98,Tryz.ntmps98;go_upto_region 1 with (fail)
 rw[←hW1];replace hW1:=hi_ hW1;go_wp2
 obtain⟨W8,hW8⟩:∃W,W=W1.setCell ⟨L,1,none⟩ (.int .i64 q):=⟨_,rfl⟩;rw[←hW8];have hL8:LX L A c bs D (.bool pl) W8 r:=by rw[hW8,hq.out];exact hL.out.go hsuf.out
 have hS8:Save L w W8:=by rw[hW8];exact hS.out.store 1 _
 have hR8:Blk W8 (w.heap.size+1) 32 #[.int .i64 0,.int .i64 0,.slice none 0 0,.slice none 0 0,.slice none 0 0]:=by rw[hW8];exact hR.out.far (p:=⟨L,1,none⟩) hneR _
 generalize hWf:World.setCell _ _ _=Wf;replace hWf:=hWf.symm;obtain⟨hbf,hLf,hSf⟩:=aw hS8 hL8 hR8 (by omega) hneR.symm hAw hWf;obtain⟨u0,u1,u2,u3,u4,-⟩:=hbf.b5;refine h3_ hLf hSf hWf ?_;clear hLf hSf hWf;intro hLf hSf hWf;clear hbf;exact bodyPost_ret (by simp[results,Tryz.results98,go_sem,u0,u1,u2,u3,u4];try rfl) rfl ⟨_,rfl,rfl,hLf.out,hSf.out⟩
theorem tS {pl:Bool}{kk n:Int}{at1 v1:Value}(hn:8388607<n) (h:LX L A c bs D (.bool pl) w r):Calls Tryz.prog 98 #[.pointer (some ⟨L,0,none⟩),.agg #[.int .i64 kk,at1,.int .i64 n,v1]] w fun e w'=>∃k',e=.returned (.agg #[.int .i64 k',.int .i64 n,.slice none 0 0,.slice none 0 0,.slice none 0 0])∧k'=2∧LX L A c bs D (.bool pl) w' r∧Save L w w':=by
 have hLw:=h.lt;have hAw:=h.a_lt;obtain⟨W1,hW1⟩:∃W,W=(w.alloc (.cells #[.int .i64 kk,at1,.int .i64 n,v1] 119)).alloc (.cells #[.int .i64 0,.int .i64 0,.slice none 0 0,.slice none 0 0,.slice none 0 0] 32):=⟨_,rfl⟩;have b1:Below w.heap.size w W1:=by rw[hW1];exact ((Below.refl _ _).alloc (Nat.le_refl _) _).alloc (by rw[World.size_alloc];omega) _
 have hT1:Blk W1 w.heap.size 119 #[.int .i64 kk,at1,.int .i64 n,v1]:=by rw[hW1];exact (Blk.new w _ _).alloc _
 have hR1:Blk W1 (w.heap.size+1) 32 #[.int .i64 0,.int .i64 0,.slice none 0 0,.slice none 0 0,.slice none 0 0]:=by
  rw[hW1,show w.heap.size+1=(w.alloc (.cells #[.int .i64 kk,at1,.int .i64 n,v1] 119)).heap.size from (World.size_alloc _ _).symm];exact Blk.new _ _ _
 have hL1:=h.below b1;have hS1:Save L w W1:=Save.of_below b1;obtain⟨q,hq⟩:∃q:Int,q=(pos bs r:Nat):=⟨_,rfl⟩;have hneT:w.heap.size≠L:=by omega
 have hneR:w.heap.size+1≠L:=by omega
 have hsuf:=h.suf;obtain⟨hL,hS,hT,hR⟩:Hid (LX L A c bs D (.bool pl) W1 r)∧Hid (Save L w W1)∧Hid (Blk W1 w.heap.size 119 #[.int .i64 kk,at1,.int .i64 n,v1])∧Hid (Blk W1 (w.heap.size+1) 32 #[.int .i64 0,.int .i64 0,.slice none 0 0,.slice none 0 0,.slice none 0 0]):=⟨Lib.hid hL1,Lib.hid hS1,Lib.hid hT1,Lib.hid hR1⟩;have l1:=hL1.blk.cell 1;rw[←hq]at l1;have l3:=hL1.blk.cell 3;have lv:=hL1.blk.frozen 1;have t2:=hT1.cell 2;obtain⟨p0,p1,p2,p3,p4,f0,f1,f2,f3,f4⟩:=hR1.b5;refine h3_ h hq hsuf ?_;clear h hq hsuf;intro h hq hsuf;clear hL1 hS1 hT1 hR1 b1;go_enter Tryz.func98,Tryz.ntmps98;go_upto_region 1 with (fail)
 rw[←hW1];replace hW1:=hi_ hW1;go_wp2
 obtain⟨W8,hW8⟩:∃W,W=W1.setCell ⟨L,1,none⟩ (.int .i64 q):=⟨_,rfl⟩;rw[←hW8];have hL8:LX L A c bs D (.bool pl) W8 r:=by rw[hW8,hq.out];exact hL.out.go hsuf.out
 have hS8:Save L w W8:=by rw[hW8];exact hS.out.store 1 _
 have hR8:Blk W8 (w.heap.size+1) 32 #[.int .i64 0,.int .i64 0,.slice none 0 0,.slice none 0 0,.slice none 0 0]:=by rw[hW8];exact hR.out.far (p:=⟨L,1,none⟩) hneR _
 generalize hWf:World.setCell _ _ _=Wf;replace hWf:=hWf.symm;obtain⟨hbf,hLf,hSf⟩:=aw hS8 hL8 hR8 (by omega) hneR.symm hAw hWf;obtain⟨u0,u1,u2,u3,u4,-⟩:=hbf.b5;refine h3_ hLf hSf hWf ?_;clear hLf hSf hWf;intro hLf hSf hWf;clear hbf;exact bodyPost_ret (by simp[results,Tryz.results98,go_sem,u0,u1,u2,u3,u4];try rfl) rfl ⟨_,rfl,rfl,hLf.out,hSf.out⟩
theorem tU {kk n:Int}{at1 v1:Value}(hn:1≤n) (hn2:n≤8388607) (h:LX L A c bs D (.bool true) w r):Calls Tryz.prog 98 #[.pointer (some ⟨L,0,none⟩),.agg #[.int .i64 kk,at1,.int .i64 n,v1]] w fun e w'=>∃k',e=.returned (.agg #[.int .i64 k',.int .i64 n,.slice none 0 0,.slice none 0 0,.slice none 0 0])∧k'=2∧LX L A c bs D (.bool true) w' r∧Save L w w':=by
 have hLw:=h.lt;have hAw:=h.a_lt;obtain⟨W1,hW1⟩:∃W,W=(w.alloc (.cells #[.int .i64 kk,at1,.int .i64 n,v1] 119)).alloc (.cells #[.int .i64 0,.int .i64 0,.slice none 0 0,.slice none 0 0,.slice none 0 0] 32):=⟨_,rfl⟩;have b1:Below w.heap.size w W1:=by rw[hW1];exact ((Below.refl _ _).alloc (Nat.le_refl _) _).alloc (by rw[World.size_alloc];omega) _
 have hT1:Blk W1 w.heap.size 119 #[.int .i64 kk,at1,.int .i64 n,v1]:=by rw[hW1];exact (Blk.new w _ _).alloc _
 have hR1:Blk W1 (w.heap.size+1) 32 #[.int .i64 0,.int .i64 0,.slice none 0 0,.slice none 0 0,.slice none 0 0]:=by
  rw[hW1,show w.heap.size+1=(w.alloc (.cells #[.int .i64 kk,at1,.int .i64 n,v1] 119)).heap.size from (World.size_alloc _ _).symm];exact Blk.new _ _ _
 have hL1:=h.below b1;have hS1:Save L w W1:=Save.of_below b1;obtain⟨q,hq⟩:∃q:Int,q=(pos bs r:Nat):=⟨_,rfl⟩;have hneT:w.heap.size≠L:=by omega
 have hneR:w.heap.size+1≠L:=by omega
 have hsuf:=h.suf;obtain⟨hL,hS,hT,hR⟩:Hid (LX L A c bs D (.bool true) W1 r)∧Hid (Save L w W1)∧Hid (Blk W1 w.heap.size 119 #[.int .i64 kk,at1,.int .i64 n,v1])∧Hid (Blk W1 (w.heap.size+1) 32 #[.int .i64 0,.int .i64 0,.slice none 0 0,.slice none 0 0,.slice none 0 0]):=⟨Lib.hid hL1,Lib.hid hS1,Lib.hid hT1,Lib.hid hR1⟩;have l1:=hL1.blk.cell 1;rw[←hq]at l1;have l3:=hL1.blk.cell 3;have lv:=hL1.blk.frozen 1;have t2:=hT1.cell 2;obtain⟨p0,p1,p2,p3,p4,f0,f1,f2,f3,f4⟩:=hR1.b5;refine h3_ h hq hsuf ?_;clear h hq hsuf;intro h hq hsuf;clear hL1 hS1 hT1 hR1 b1;go_enter Tryz.func98,Tryz.ntmps98;go_upto_region 1 with (fail)
 rw[←hW1];replace hW1:=hi_ hW1;go_wp2
 obtain⟨W8,hW8⟩:∃W,W=W1.setCell ⟨L,1,none⟩ (.int .i64 q):=⟨_,rfl⟩;rw[←hW8];have hL8:LX L A c bs D (.bool true) W8 r:=by rw[hW8,hq.out];exact hL.out.go hsuf.out
 have hS8:Save L w W8:=by rw[hW8];exact hS.out.store 1 _
 have hR8:Blk W8 (w.heap.size+1) 32 #[.int .i64 0,.int .i64 0,.slice none 0 0,.slice none 0 0,.slice none 0 0]:=by rw[hW8];exact hR.out.far (p:=⟨L,1,none⟩) hneR _
 generalize hWf:World.setCell _ _ _=Wf;replace hWf:=hWf.symm;obtain⟨hbf,hLf,hSf⟩:=aw hS8 hL8 hR8 (by omega) hneR.symm hAw hWf;obtain⟨u0,u1,u2,u3,u4,-⟩:=hbf.b5;refine h3_ hLf hSf hWf ?_;clear hLf hSf hWf;intro hLf hSf hWf;clear hbf;exact bodyPost_ret (by simp[results,Tryz.results98,go_sem,u0,u1,u2,u3,u4];try rfl) rfl ⟨_,rfl,rfl,hLf.out,hSf.out⟩
theorem tQ {kk n:Int}{at1 v1:Value}{er:Int}(hn:1≤n) (hn2:n≤8388607) (ht:ar r=.err er u) (h:LX L A c bs D (.bool false) w r):Calls Tryz.prog 98 #[.pointer (some ⟨L,0,none⟩),.agg #[.int .i64 kk,at1,.int .i64 n,v1]] w fun e w'=>∃k',e=.returned (.agg #[.int .i64 k',.int .i64 n,.slice none 0 0,.slice none 0 0,.slice none 0 0])∧k'=2∧LX L A c bs D (.bool false) w' r∧Save L w w':=by
 have hLw:=h.lt;have hAw:=h.a_lt;obtain⟨W1,hW1⟩:∃W,W=(w.alloc (.cells #[.int .i64 kk,at1,.int .i64 n,v1] 119)).alloc (.cells #[.int .i64 0,.int .i64 0,.slice none 0 0,.slice none 0 0,.slice none 0 0] 32):=⟨_,rfl⟩;have b1:Below w.heap.size w W1:=by rw[hW1];exact ((Below.refl _ _).alloc (Nat.le_refl _) _).alloc (by rw[World.size_alloc];omega) _
 have hT1:Blk W1 w.heap.size 119 #[.int .i64 kk,at1,.int .i64 n,v1]:=by rw[hW1];exact (Blk.new w _ _).alloc _
 have hR1:Blk W1 (w.heap.size+1) 32 #[.int .i64 0,.int .i64 0,.slice none 0 0,.slice none 0 0,.slice none 0 0]:=by
  rw[hW1,show w.heap.size+1=(w.alloc (.cells #[.int .i64 kk,at1,.int .i64 n,v1] 119)).heap.size from (World.size_alloc _ _).symm];exact Blk.new _ _ _
 have hL1:=h.below b1;have hS1:Save L w W1:=Save.of_below b1;obtain⟨q,hq⟩:∃q:Int,q=(pos bs r:Nat):=⟨_,rfl⟩;have hneT:w.heap.size≠L:=by omega
 have hneR:w.heap.size+1≠L:=by omega
 have hsuf:=h.suf;obtain⟨hL,hS,hT,hR⟩:Hid (LX L A c bs D (.bool false) W1 r)∧Hid (Save L w W1)∧Hid (Blk W1 w.heap.size 119 #[.int .i64 kk,at1,.int .i64 n,v1])∧Hid (Blk W1 (w.heap.size+1) 32 #[.int .i64 0,.int .i64 0,.slice none 0 0,.slice none 0 0,.slice none 0 0]):=⟨Lib.hid hL1,Lib.hid hS1,Lib.hid hT1,Lib.hid hR1⟩;have l1:=hL1.blk.cell 1;rw[←hq]at l1;have l3:=hL1.blk.cell 3;have lv:=hL1.blk.frozen 1;have t2:=hT1.cell 2;obtain⟨p0,p1,p2,p3,p4,f0,f1,f2,f3,f4⟩:=hR1.b5;refine h3_ h hq hsuf ?_;clear h hq hsuf;intro h hq hsuf;clear hL1 hS1 hT1 hR1 b1;obtain⟨a1,ha1⟩:∃a:Int,a=(pos bs (af false r):Nat):=⟨_,rfl⟩;have ctok:=fun W (h:LX L A c bs D (.bool false) W r)=>eZ h ht ha1
 replace ctok:=hi_ ctok;clear ha1 ht;go_enter Tryz.func98,Tryz.ntmps98;go_upto_region 1 with (fail)
 rw[←hW1];replace hW1:=hi_ hW1;go_upto_region 4 with (fail)
 go_at_call 96
 (with_reducible refine (ctok.out _ hL.out).mono ?_)
 rintro e w3 ⟨hn0,rfl,hL3,hS3⟩;have hS9:=hS3;replace hT:=hi_ (hS9.blk hneT hT.out);replace hR:=hi_ (hS9.blk hneR hR.out);replace hS:=hi_ (hS.out.trans hS9);replace hL:=hi_ hL3;replace l1:=hL.out.blk.cell 1;replace l3:=hL.out.blk.cell 3;replace lv:=hL.out.blk.frozen 1;replace t2:=hT.out.cell 2;obtain⟨p0,p1,p2,p3,p4,f0,f1,f2,f3,f4⟩:=hR.out.b5;have he0:(er == 0)=false:=by simpa using hn0
 replace hn0:=hi_ hn0;clear hS9 hS3 hL3;go_upto_region 4 with (fail)
 obtain⟨W4,hW4,b4,hK4⟩:=ak w3 119 #[.int .i64 0,.int .i64 a1,.int .i64 0,.slice none 0 0];rw[←hW4];have k40:=hK4.cell 0;have k42:=hK4.cell 2;have k43:=hK4.cell 3;replace hT:=hi_ (hT.out.below b4 hT.out.lt);replace hR:=hi_ (hR.out.below b4 hR.out.lt);replace hS:=hi_ (hS.out.then_ b4);replace hL:=hi_ (hL.out.below b4);replace l1:=hL.out.blk.cell 1;replace l3:=hL.out.blk.cell 3;replace lv:=hL.out.blk.frozen 1;replace t2:=hT.out.cell 2;obtain⟨p0,p1,p2,p3,p4,f0,f1,f2,f3,f4⟩:=hR.out.b5;replace hW4:=hi_ hW4;go_wp2
 obtain⟨W8,hW8⟩:∃W,W=W4.setCell ⟨L,1,none⟩ (.int .i64 q):=⟨_,rfl⟩;rw[←hW8];have hL8:LX L A c bs D (.bool false) W8 r:=by rw[hW8,hq.out];exact hL.out.go hsuf.out
 have hS8:Save L w W8:=by rw[hW8];exact hS.out.store 1 _
 have hR8:Blk W8 (w.heap.size+1) 32 #[.int .i64 0,.int .i64 0,.slice none 0 0,.slice none 0 0,.slice none 0 0]:=by rw[hW8];exact hR.out.far (p:=⟨L,1,none⟩) hneR _
 generalize hWf:World.setCell _ _ _=Wf;replace hWf:=hWf.symm;obtain⟨hbf,hLf,hSf⟩:=aw hS8 hL8 hR8 (by omega) hneR.symm hAw hWf;obtain⟨u0,u1,u2,u3,u4,-⟩:=hbf.b5;refine h3_ hLf hSf hWf ?_;clear hLf hSf hWf;intro hLf hSf hWf;clear hbf;exact bodyPost_ret (by simp[results,Tryz.results98,go_sem,u0,u1,u2,u3,u4];try rfl) rfl ⟨_,rfl,rfl,hLf.out,hSf.out⟩
theorem tl {kk n:Int}{at1 v1:Value}(hn:1≤n) (hn2:n≤8388607) (ht:ar r=.ok k u) (hk:k.k≠1) (h:LX L A c bs D (.bool false) w r):Calls Tryz.prog 98 #[.pointer (some ⟨L,0,none⟩),.agg #[.int .i64 kk,at1,.int .i64 n,v1]] w fun e w'=>∃k',e=.returned (.agg #[.int .i64 k',.int .i64 n,.slice none 0 0,.slice none 0 0,.slice none 0 0])∧k'=2∧LX L A c bs D (.bool false) w' r∧Save L w w':=by
 have hLw:=h.lt;have hAw:=h.a_lt;obtain⟨W1,hW1⟩:∃W,W=(w.alloc (.cells #[.int .i64 kk,at1,.int .i64 n,v1] 119)).alloc (.cells #[.int .i64 0,.int .i64 0,.slice none 0 0,.slice none 0 0,.slice none 0 0] 32):=⟨_,rfl⟩;have b1:Below w.heap.size w W1:=by rw[hW1];exact ((Below.refl _ _).alloc (Nat.le_refl _) _).alloc (by rw[World.size_alloc];omega) _
 have hT1:Blk W1 w.heap.size 119 #[.int .i64 kk,at1,.int .i64 n,v1]:=by rw[hW1];exact (Blk.new w _ _).alloc _
 have hR1:Blk W1 (w.heap.size+1) 32 #[.int .i64 0,.int .i64 0,.slice none 0 0,.slice none 0 0,.slice none 0 0]:=by
  rw[hW1,show w.heap.size+1=(w.alloc (.cells #[.int .i64 kk,at1,.int .i64 n,v1] 119)).heap.size from (World.size_alloc _ _).symm];exact Blk.new _ _ _
 have hL1:=h.below b1;have hS1:Save L w W1:=Save.of_below b1;obtain⟨q,hq⟩:∃q:Int,q=(pos bs r:Nat):=⟨_,rfl⟩;have hneT:w.heap.size≠L:=by omega
 have hneR:w.heap.size+1≠L:=by omega
 have hsuf:=h.suf;obtain⟨hL,hS,hT,hR⟩:Hid (LX L A c bs D (.bool false) W1 r)∧Hid (Save L w W1)∧Hid (Blk W1 w.heap.size 119 #[.int .i64 kk,at1,.int .i64 n,v1])∧Hid (Blk W1 (w.heap.size+1) 32 #[.int .i64 0,.int .i64 0,.slice none 0 0,.slice none 0 0,.slice none 0 0]):=⟨Lib.hid hL1,Lib.hid hS1,Lib.hid hT1,Lib.hid hR1⟩;have l1:=hL1.blk.cell 1;rw[←hq]at l1;have l3:=hL1.blk.cell 3;have lv:=hL1.blk.frozen 1;have t2:=hT1.cell 2;obtain⟨p0,p1,p2,p3,p4,f0,f1,f2,f3,f4⟩:=hR1.b5;refine h3_ h hq hsuf ?_;clear h hq hsuf;intro h hq hsuf;clear hL1 hS1 hT1 hR1 b1;obtain⟨a1,ha1⟩:∃a:Int,a=(pos bs (af false r):Nat):=⟨_,rfl⟩;have ctok:=fun W (h:LX L A c bs D (.bool false) W r)=>dO h ht ha1
 replace ctok:=hi_ ctok;clear ha1 ht;have hk1:(k.k == 1)=false:=by simpa using hk
 clear hk;go_enter Tryz.func98,Tryz.ntmps98;go_upto_region 1 with (fail)
 rw[←hW1];replace hW1:=hi_ hW1;go_upto_region 4 with (go_at_call 96;(with_reducible refine (ctok.out _ hL.out).mono ?_);rintro e w3 ⟨A3,c3,rfl,hO3,hL3,hS3⟩;have hS9:=hS3;replace hT:=hi_ (hS9.blk hneT hT.out);replace hR:=hi_ (hS9.blk hneR hR.out);replace hS:=hi_ (hS.out.trans hS9);replace hL:=hi_ hL3;replace l1:=hL.out.blk.cell 1;replace l3:=hL.out.blk.cell 3;replace lv:=hL.out.blk.frozen 1;replace t2:=hT.out.cell 2;obtain⟨p0,p1,p2,p3,p4,f0,f1,f2,f3,f4⟩:=hR.out.b5;clear hO3;clear hS9 hS3 hL3)
 obtain⟨W4,hW4,b4,hK4⟩:=ak w3 119 #[.int .i64 k.k,.int .i64 a1,.int .i64 k.n,.slice A3 k.b.length c3];rw[←hW4];have k40:=hK4.cell 0;have k42:=hK4.cell 2;have k43:=hK4.cell 3;replace hT:=hi_ (hT.out.below b4 hT.out.lt);replace hR:=hi_ (hR.out.below b4 hR.out.lt);replace hS:=hi_ (hS.out.then_ b4);replace hL:=hi_ (hL.out.below b4);replace l1:=hL.out.blk.cell 1;replace l3:=hL.out.blk.cell 3;replace lv:=hL.out.blk.frozen 1;replace t2:=hT.out.cell 2;obtain⟨p0,p1,p2,p3,p4,f0,f1,f2,f3,f4⟩:=hR.out.b5;replace hW4:=hi_ hW4;go_wp2
 obtain⟨W8,hW8⟩:∃W,W=W4.setCell ⟨L,1,none⟩ (.int .i64 q):=⟨_,rfl⟩;rw[←hW8];have hL8:LX L A c bs D (.bool false) W8 r:=by rw[hW8,hq.out];exact hL.out.go hsuf.out
 have hS8:Save L w W8:=by rw[hW8];exact hS.out.store 1 _
 have hR8:Blk W8 (w.heap.size+1) 32 #[.int .i64 0,.int .i64 0,.slice none 0 0,.slice none 0 0,.slice none 0 0]:=by rw[hW8];exact hR.out.far (p:=⟨L,1,none⟩) hneR _
 generalize hWf:World.setCell _ _ _=Wf;replace hWf:=hWf.symm;obtain⟨hbf,hLf,hSf⟩:=aw hS8 hL8 hR8 (by omega) hneR.symm hAw hWf;obtain⟨u0,u1,u2,u3,u4,-⟩:=hbf.b5;refine h3_ hLf hSf hWf ?_;clear hLf hSf hWf;intro hLf hSf hWf;clear hbf;exact bodyPost_ret (by simp[results,Tryz.results98,go_sem,u0,u1,u2,u3,u4];try rfl) rfl ⟨_,rfl,rfl,hLf.out,hSf.out⟩
theorem tn {kk n:Int}{at1 v1:Value}(hn:1≤n) (hn2:n≤8388607) (ht:ar r=.ok k u) (hk:k.k=1) (hk0:k.n≠0) (h:LX L A c bs D (.bool false) w r):Calls Tryz.prog 98 #[.pointer (some ⟨L,0,none⟩),.agg #[.int .i64 kk,at1,.int .i64 n,v1]] w fun e w'=>∃k',e=.returned (.agg #[.int .i64 k',.int .i64 n,.slice none 0 0,.slice none 0 0,.slice none 0 0])∧k'=2∧LX L A c bs D (.bool false) w' r∧Save L w w':=by
 have hLw:=h.lt;have hAw:=h.a_lt;obtain⟨W1,hW1⟩:∃W,W=(w.alloc (.cells #[.int .i64 kk,at1,.int .i64 n,v1] 119)).alloc (.cells #[.int .i64 0,.int .i64 0,.slice none 0 0,.slice none 0 0,.slice none 0 0] 32):=⟨_,rfl⟩;have b1:Below w.heap.size w W1:=by rw[hW1];exact ((Below.refl _ _).alloc (Nat.le_refl _) _).alloc (by rw[World.size_alloc];omega) _
 have hT1:Blk W1 w.heap.size 119 #[.int .i64 kk,at1,.int .i64 n,v1]:=by rw[hW1];exact (Blk.new w _ _).alloc _
 have hR1:Blk W1 (w.heap.size+1) 32 #[.int .i64 0,.int .i64 0,.slice none 0 0,.slice none 0 0,.slice none 0 0]:=by
  rw[hW1,show w.heap.size+1=(w.alloc (.cells #[.int .i64 kk,at1,.int .i64 n,v1] 119)).heap.size from (World.size_alloc _ _).symm];exact Blk.new _ _ _
 have hL1:=h.below b1;have hS1:Save L w W1:=Save.of_below b1;obtain⟨q,hq⟩:∃q:Int,q=(pos bs r:Nat):=⟨_,rfl⟩;have hneT:w.heap.size≠L:=by omega
 have hneR:w.heap.size+1≠L:=by omega
 have hsuf:=h.suf;obtain⟨hL,hS,hT,hR⟩:Hid (LX L A c bs D (.bool false) W1 r)∧Hid (Save L w W1)∧Hid (Blk W1 w.heap.size 119 #[.int .i64 kk,at1,.int .i64 n,v1])∧Hid (Blk W1 (w.heap.size+1) 32 #[.int .i64 0,.int .i64 0,.slice none 0 0,.slice none 0 0,.slice none 0 0]):=⟨Lib.hid hL1,Lib.hid hS1,Lib.hid hT1,Lib.hid hR1⟩;have l1:=hL1.blk.cell 1;rw[←hq]at l1;have l3:=hL1.blk.cell 3;have lv:=hL1.blk.frozen 1;have t2:=hT1.cell 2;obtain⟨p0,p1,p2,p3,p4,f0,f1,f2,f3,f4⟩:=hR1.b5;refine h3_ h hq hsuf ?_;clear h hq hsuf;intro h hq hsuf;clear hL1 hS1 hT1 hR1 b1;obtain⟨a1,ha1⟩:∃a:Int,a=(pos bs (af false r):Nat):=⟨_,rfl⟩;have ctok:=fun W (h:LX L A c bs D (.bool false) W r)=>dO h ht ha1
 replace ctok:=hi_ ctok;clear ha1 ht;have hk1:(k.k == 1)=true:=by simpa using hk
 have hk2:(k.n == 0)=false:=by simpa using hk0
 clear hk hk0;go_enter Tryz.func98,Tryz.ntmps98;go_upto_region 1 with (fail)
 rw[←hW1];replace hW1:=hi_ hW1;go_upto_region 4 with (go_at_call 96;(with_reducible refine (ctok.out _ hL.out).mono ?_);rintro e w3 ⟨A3,c3,rfl,hO3,hL3,hS3⟩;have hS9:=hS3;replace hT:=hi_ (hS9.blk hneT hT.out);replace hR:=hi_ (hS9.blk hneR hR.out);replace hS:=hi_ (hS.out.trans hS9);replace hL:=hi_ hL3;replace l1:=hL.out.blk.cell 1;replace l3:=hL.out.blk.cell 3;replace lv:=hL.out.blk.frozen 1;replace t2:=hT.out.cell 2;obtain⟨p0,p1,p2,p3,p4,f0,f1,f2,f3,f4⟩:=hR.out.b5;clear hO3;clear hS9 hS3 hL3)
 obtain⟨W4,hW4,b4,hK4⟩:=ak w3 119 #[.int .i64 k.k,.int .i64 a1,.int .i64 k.n,.slice A3 k.b.length c3];rw[←hW4];have k40:=hK4.cell 0;have k42:=hK4.cell 2;have k43:=hK4.cell 3;replace hT:=hi_ (hT.out.below b4 hT.out.lt);replace hR:=hi_ (hR.out.below b4 hR.out.lt);replace hS:=hi_ (hS.out.then_ b4);replace hL:=hi_ (hL.out.below b4);replace l1:=hL.out.blk.cell 1;replace l3:=hL.out.blk.cell 3;replace lv:=hL.out.blk.frozen 1;replace t2:=hT.out.cell 2;obtain⟨p0,p1,p2,p3,p4,f0,f1,f2,f3,f4⟩:=hR.out.b5;replace hW4:=hi_ hW4;go_wp2
 obtain⟨W8,hW8⟩:∃W,W=W4.setCell ⟨L,1,none⟩ (.int .i64 q):=⟨_,rfl⟩;rw[←hW8];have hL8:LX L A c bs D (.bool false) W8 r:=by rw[hW8,hq.out];exact hL.out.go hsuf.out
 have hS8:Save L w W8:=by rw[hW8];exact hS.out.store 1 _
 have hR8:Blk W8 (w.heap.size+1) 32 #[.int .i64 0,.int .i64 0,.slice none 0 0,.slice none 0 0,.slice none 0 0]:=by rw[hW8];exact hR.out.far (p:=⟨L,1,none⟩) hneR _
 generalize hWf:World.setCell _ _ _=Wf;replace hWf:=hWf.symm;obtain⟨hbf,hLf,hSf⟩:=aw hS8 hL8 hR8 (by omega) hneR.symm hAw hWf;obtain⟨u0,u1,u2,u3,u4,-⟩:=hbf.b5;refine h3_ hLf hSf hWf ?_;clear hLf hSf hWf;intro hLf hSf hWf;clear hbf;exact bodyPost_ret (by simp[results,Tryz.results98,go_sem,u0,u1,u2,u3,u4];try rfl) rfl ⟨_,rfl,rfl,hLf.out,hSf.out⟩
theorem tR {kk n:Int}{at1 v1:Value}(hn:1≤n) (hn2:n≤8388607) (ht:ar r=.ok k u) {er:Int}{v:Bs}(hk:k.k=1) (hk0:k.n=0) (ht2:ar u=.err er v) (h:LX L A c bs D (.bool false) w r):Calls Tryz.prog 98 #[.pointer (some ⟨L,0,none⟩),.agg #[.int .i64 kk,at1,.int .i64 n,v1]] w fun e w'=>∃k',e=.returned (.agg #[.int .i64 k',.int .i64 n,.slice none 0 0,.slice none 0 0,.slice none 0 0])∧k'=2∧LX L A c bs D (.bool false) w' r∧Save L w w':=by
 have hLw:=h.lt;have hAw:=h.a_lt;obtain⟨W1,hW1⟩:∃W,W=(w.alloc (.cells #[.int .i64 kk,at1,.int .i64 n,v1] 119)).alloc (.cells #[.int .i64 0,.int .i64 0,.slice none 0 0,.slice none 0 0,.slice none 0 0] 32):=⟨_,rfl⟩;have b1:Below w.heap.size w W1:=by rw[hW1];exact ((Below.refl _ _).alloc (Nat.le_refl _) _).alloc (by rw[World.size_alloc];omega) _
 have hT1:Blk W1 w.heap.size 119 #[.int .i64 kk,at1,.int .i64 n,v1]:=by rw[hW1];exact (Blk.new w _ _).alloc _
 have hR1:Blk W1 (w.heap.size+1) 32 #[.int .i64 0,.int .i64 0,.slice none 0 0,.slice none 0 0,.slice none 0 0]:=by
  rw[hW1,show w.heap.size+1=(w.alloc (.cells #[.int .i64 kk,at1,.int .i64 n,v1] 119)).heap.size from (World.size_alloc _ _).symm];exact Blk.new _ _ _
 have hL1:=h.below b1;have hS1:Save L w W1:=Save.of_below b1;obtain⟨q,hq⟩:∃q:Int,q=(pos bs r:Nat):=⟨_,rfl⟩;have hneT:w.heap.size≠L:=by omega
 have hneR:w.heap.size+1≠L:=by omega
 have hsuf:=h.suf;obtain⟨hL,hS,hT,hR⟩:Hid (LX L A c bs D (.bool false) W1 r)∧Hid (Save L w W1)∧Hid (Blk W1 w.heap.size 119 #[.int .i64 kk,at1,.int .i64 n,v1])∧Hid (Blk W1 (w.heap.size+1) 32 #[.int .i64 0,.int .i64 0,.slice none 0 0,.slice none 0 0,.slice none 0 0]):=⟨Lib.hid hL1,Lib.hid hS1,Lib.hid hT1,Lib.hid hR1⟩;have l1:=hL1.blk.cell 1;rw[←hq]at l1;have l3:=hL1.blk.cell 3;have lv:=hL1.blk.frozen 1;have t2:=hT1.cell 2;obtain⟨p0,p1,p2,p3,p4,f0,f1,f2,f3,f4⟩:=hR1.b5;refine h3_ h hq hsuf ?_;clear h hq hsuf;intro h hq hsuf;clear hL1 hS1 hT1 hR1 b1;obtain⟨a1,ha1⟩:∃a:Int,a=(pos bs (af false r):Nat):=⟨_,rfl⟩;have ctok:=fun W (h:LX L A c bs D (.bool false) W r)=>dO h ht ha1
 replace ctok:=hi_ ctok;clear ha1 ht;obtain⟨a2,ha2⟩:∃a:Int,a=(pos bs (af false u):Nat):=⟨_,rfl⟩;have ctok2:=fun W (h:LX L A c bs D (.bool false) W u)=>eZ h ht2 ha2
 replace ctok2:=hi_ ctok2;clear ha2 ht2;have hk1:(k.k == 1)=true:=by simpa using hk
 have hk2:(k.n == 0)=true:=by simpa using hk0
 clear hk hk0;go_enter Tryz.func98,Tryz.ntmps98;go_upto_region 1 with (fail)
 rw[←hW1];replace hW1:=hi_ hW1;go_upto_region 4 with (go_at_call 96;(with_reducible refine (ctok.out _ hL.out).mono ?_);rintro e w3 ⟨A3,c3,rfl,hO3,hL3,hS3⟩;have hS9:=hS3;replace hT:=hi_ (hS9.blk hneT hT.out);replace hR:=hi_ (hS9.blk hneR hR.out);replace hS:=hi_ (hS.out.trans hS9);replace hL:=hi_ hL3;replace l1:=hL.out.blk.cell 1;replace l3:=hL.out.blk.cell 3;replace lv:=hL.out.blk.frozen 1;replace t2:=hT.out.cell 2;obtain⟨p0,p1,p2,p3,p4,f0,f1,f2,f3,f4⟩:=hR.out.b5;clear hO3;clear hS9 hS3 hL3)
 obtain⟨W4,hW4,b4,hK4⟩:=ak w3 119 #[.int .i64 k.k,.int .i64 a1,.int .i64 k.n,.slice A3 k.b.length c3];rw[←hW4];have k40:=hK4.cell 0;have k42:=hK4.cell 2;have k43:=hK4.cell 3;replace hT:=hi_ (hT.out.below b4 hT.out.lt);replace hR:=hi_ (hR.out.below b4 hR.out.lt);replace hS:=hi_ (hS.out.then_ b4);replace hL:=hi_ (hL.out.below b4);replace l1:=hL.out.blk.cell 1;replace l3:=hL.out.blk.cell 3;replace lv:=hL.out.blk.frozen 1;replace t2:=hT.out.cell 2;obtain⟨p0,p1,p2,p3,p4,f0,f1,f2,f3,f4⟩:=hR.out.b5;replace hW4:=hi_ hW4;go_upto_region 6 with (fail)
 go_at_call 96
 (with_reducible refine (ctok2.out _ hL.out).mono ?_)
 rintro e w3 ⟨hn0,rfl,hL3,hS3⟩;have hS9:=hS3;replace hT:=hi_ (hS9.blk hneT hT.out);replace hR:=hi_ (hS9.blk hneR hR.out);replace hS:=hi_ (hS.out.trans hS9);replace hL:=hi_ hL3;replace l1:=hL.out.blk.cell 1;replace l3:=hL.out.blk.cell 3;replace lv:=hL.out.blk.frozen 1;replace t2:=hT.out.cell 2;obtain⟨p0,p1,p2,p3,p4,f0,f1,f2,f3,f4⟩:=hR.out.b5;have he0:(er == 0)=false:=by simpa using hn0
 replace hn0:=hi_ hn0;clear hS9 hS3 hL3;go_upto_region 6 with (fail)
 obtain⟨W6,hW6,b6,hK6⟩:=ak w3 119 #[.int .i64 0,.int .i64 a2,.int .i64 0,.slice none 0 0];rw[←hW6];have k60:=hK6.cell 0;have k62:=hK6.cell 2;have k63:=hK6.cell 3;replace hT:=hi_ (hT.out.below b6 hT.out.lt);replace hR:=hi_ (hR.out.below b6 hR.out.lt);replace hS:=hi_ (hS.out.then_ b6);replace hL:=hi_ (hL.out.below b6);replace l1:=hL.out.blk.cell 1;replace l3:=hL.out.blk.cell 3;replace lv:=hL.out.blk.frozen 1;replace t2:=hT.out.cell 2;obtain⟨p0,p1,p2,p3,p4,f0,f1,f2,f3,f4⟩:=hR.out.b5;replace hW6:=hi_ hW6;go_wp2
 obtain⟨W8,hW8⟩:∃W,W=W6.setCell ⟨L,1,none⟩ (.int .i64 q):=⟨_,rfl⟩;rw[←hW8];have hL8:LX L A c bs D (.bool false) W8 r:=by rw[hW8,hq.out];exact hL.out.go hsuf.out
 have hS8:Save L w W8:=by rw[hW8];exact hS.out.store 1 _
 have hR8:Blk W8 (w.heap.size+1) 32 #[.int .i64 0,.int .i64 0,.slice none 0 0,.slice none 0 0,.slice none 0 0]:=by rw[hW8];exact hR.out.far (p:=⟨L,1,none⟩) hneR _
 generalize hWf:World.setCell _ _ _=Wf;replace hWf:=hWf.symm;obtain⟨hbf,hLf,hSf⟩:=aw hS8 hL8 hR8 (by omega) hneR.symm hAw hWf;obtain⟨u0,u1,u2,u3,u4,-⟩:=hbf.b5;refine h3_ hLf hSf hWf ?_;clear hLf hSf hWf;intro hLf hSf hWf;clear hbf;exact bodyPost_ret (by simp[results,Tryz.results98,go_sem,u0,u1,u2,u3,u4];try rfl) rfl ⟨_,rfl,rfl,hLf.out,hSf.out⟩
theorem tp {kk n:Int}{at1 v1:Value}(hn:1≤n) (hn2:n≤8388607) (ht:ar r=.ok k u) {s:Tok}{v:Bs}(hk:k.k=1) (hk0:k.n=0) (ht2:ar u=.ok s v) (hs:s.k≠9) (h:LX L A c bs D (.bool false) w r):Calls Tryz.prog 98 #[.pointer (some ⟨L,0,none⟩),.agg #[.int .i64 kk,at1,.int .i64 n,v1]] w fun e w'=>∃k',e=.returned (.agg #[.int .i64 k',.int .i64 n,.slice none 0 0,.slice none 0 0,.slice none 0 0])∧k'=2∧LX L A c bs D (.bool false) w' r∧Save L w w':=by
 have hLw:=h.lt;have hAw:=h.a_lt;obtain⟨W1,hW1⟩:∃W,W=(w.alloc (.cells #[.int .i64 kk,at1,.int .i64 n,v1] 119)).alloc (.cells #[.int .i64 0,.int .i64 0,.slice none 0 0,.slice none 0 0,.slice none 0 0] 32):=⟨_,rfl⟩;have b1:Below w.heap.size w W1:=by rw[hW1];exact ((Below.refl _ _).alloc (Nat.le_refl _) _).alloc (by rw[World.size_alloc];omega) _
 have hT1:Blk W1 w.heap.size 119 #[.int .i64 kk,at1,.int .i64 n,v1]:=by rw[hW1];exact (Blk.new w _ _).alloc _
 have hR1:Blk W1 (w.heap.size+1) 32 #[.int .i64 0,.int .i64 0,.slice none 0 0,.slice none 0 0,.slice none 0 0]:=by
  rw[hW1,show w.heap.size+1=(w.alloc (.cells #[.int .i64 kk,at1,.int .i64 n,v1] 119)).heap.size from (World.size_alloc _ _).symm];exact Blk.new _ _ _
 have hL1:=h.below b1;have hS1:Save L w W1:=Save.of_below b1;obtain⟨q,hq⟩:∃q:Int,q=(pos bs r:Nat):=⟨_,rfl⟩;have hneT:w.heap.size≠L:=by omega
 have hneR:w.heap.size+1≠L:=by omega
 have hsuf:=h.suf;obtain⟨hL,hS,hT,hR⟩:Hid (LX L A c bs D (.bool false) W1 r)∧Hid (Save L w W1)∧Hid (Blk W1 w.heap.size 119 #[.int .i64 kk,at1,.int .i64 n,v1])∧Hid (Blk W1 (w.heap.size+1) 32 #[.int .i64 0,.int .i64 0,.slice none 0 0,.slice none 0 0,.slice none 0 0]):=⟨Lib.hid hL1,Lib.hid hS1,Lib.hid hT1,Lib.hid hR1⟩;have l1:=hL1.blk.cell 1;rw[←hq]at l1;have l3:=hL1.blk.cell 3;have lv:=hL1.blk.frozen 1;have t2:=hT1.cell 2;obtain⟨p0,p1,p2,p3,p4,f0,f1,f2,f3,f4⟩:=hR1.b5;refine h3_ h hq hsuf ?_;clear h hq hsuf;intro h hq hsuf;clear hL1 hS1 hT1 hR1 b1;obtain⟨a1,ha1⟩:∃a:Int,a=(pos bs (af false r):Nat):=⟨_,rfl⟩;have ctok:=fun W (h:LX L A c bs D (.bool false) W r)=>dO h ht ha1
 replace ctok:=hi_ ctok;clear ha1 ht;obtain⟨a2,ha2⟩:∃a:Int,a=(pos bs (af false u):Nat):=⟨_,rfl⟩;have ctok2:=fun W (h:LX L A c bs D (.bool false) W u)=>dO h ht2 ha2
 replace ctok2:=hi_ ctok2;clear ha2 ht2;have hk1:(k.k == 1)=true:=by simpa using hk
 have hk2:(k.n == 0)=true:=by simpa using hk0
 clear hk hk0;have hs1:(s.k == 9)=false:=by simpa using hs
 clear hs;go_enter Tryz.func98,Tryz.ntmps98;go_upto_region 1 with (fail)
 rw[←hW1];replace hW1:=hi_ hW1;go_upto_region 4 with (go_at_call 96;(with_reducible refine (ctok.out _ hL.out).mono ?_);rintro e w3 ⟨A3,c3,rfl,hO3,hL3,hS3⟩;have hS9:=hS3;replace hT:=hi_ (hS9.blk hneT hT.out);replace hR:=hi_ (hS9.blk hneR hR.out);replace hS:=hi_ (hS.out.trans hS9);replace hL:=hi_ hL3;replace l1:=hL.out.blk.cell 1;replace l3:=hL.out.blk.cell 3;replace lv:=hL.out.blk.frozen 1;replace t2:=hT.out.cell 2;obtain⟨p0,p1,p2,p3,p4,f0,f1,f2,f3,f4⟩:=hR.out.b5;clear hO3;clear hS9 hS3 hL3)
 obtain⟨W4,hW4,b4,hK4⟩:=ak w3 119 #[.int .i64 k.k,.int .i64 a1,.int .i64 k.n,.slice A3 k.b.length c3];rw[←hW4];have k40:=hK4.cell 0;have k42:=hK4.cell 2;have k43:=hK4.cell 3;replace hT:=hi_ (hT.out.below b4 hT.out.lt);replace hR:=hi_ (hR.out.below b4 hR.out.lt);replace hS:=hi_ (hS.out.then_ b4);replace hL:=hi_ (hL.out.below b4);replace l1:=hL.out.blk.cell 1;replace l3:=hL.out.blk.cell 3;replace lv:=hL.out.blk.frozen 1;replace t2:=hT.out.cell 2;obtain⟨p0,p1,p2,p3,p4,f0,f1,f2,f3,f4⟩:=hR.out.b5;replace hW4:=hi_ hW4;go_upto_region 6 with (go_at_call 96;(with_reducible refine (ctok2.out _ hL.out).mono ?_);rintro e w3 ⟨A6,c6,rfl,hO6,hL3,hS3⟩;have hS9:=hS3;replace hT:=hi_ (hS9.blk hneT hT.out);replace hR:=hi_ (hS9.blk hneR hR.out);replace hS:=hi_ (hS.out.trans hS9);replace hL:=hi_ hL3;replace l1:=hL.out.blk.cell 1;replace l3:=hL.out.blk.cell 3;replace lv:=hL.out.blk.frozen 1;replace t2:=hT.out.cell 2;obtain⟨p0,p1,p2,p3,p4,f0,f1,f2,f3,f4⟩:=hR.out.b5;have hSo:=hS3;replace hO6:=hi_ hO6;clear hSo;clear hS9 hS3 hL3)
 obtain⟨W6,hW6,b6,hK6⟩:=ak w3 119 #[.int .i64 s.k,.int .i64 a2,.int .i64 s.n,.slice A6 s.b.length c6];rw[←hW6];have k60:=hK6.cell 0;have k62:=hK6.cell 2;have k63:=hK6.cell 3;replace hT:=hi_ (hT.out.below b6 hT.out.lt);replace hR:=hi_ (hR.out.below b6 hR.out.lt);replace hS:=hi_ (hS.out.then_ b6);replace hL:=hi_ (hL.out.below b6);replace l1:=hL.out.blk.cell 1;replace l3:=hL.out.blk.cell 3;replace lv:=hL.out.blk.frozen 1;replace t2:=hT.out.cell 2;obtain⟨p0,p1,p2,p3,p4,f0,f1,f2,f3,f4⟩:=hR.out.b5;replace hW6:=hi_ hW6;go_wp2
 obtain⟨W8,hW8⟩:∃W,W=W6.setCell ⟨L,1,none⟩ (.int .i64 q):=⟨_,rfl⟩;rw[←hW8];have hL8:LX L A c bs D (.bool false) W8 r:=by rw[hW8,hq.out];exact hL.out.go hsuf.out
 have hS8:Save L w W8:=by rw[hW8];exact hS.out.store 1 _
 have hR8:Blk W8 (w.heap.size+1) 32 #[.int .i64 0,.int .i64 0,.slice none 0 0,.slice none 0 0,.slice none 0 0]:=by rw[hW8];exact hR.out.far (p:=⟨L,1,none⟩) hneR _
 generalize hWf:World.setCell _ _ _=Wf;replace hWf:=hWf.symm;obtain⟨hbf,hLf,hSf⟩:=aw hS8 hL8 hR8 (by omega) hneR.symm hAw hWf;obtain⟨u0,u1,u2,u3,u4,-⟩:=hbf.b5;refine h3_ hLf hSf hWf ?_;clear hLf hSf hWf;intro hLf hSf hWf;clear hbf;exact bodyPost_ret (by simp[results,Tryz.results98,go_sem,u0,u1,u2,u3,u4];try rfl) rfl ⟨_,rfl,rfl,hLf.out,hSf.out⟩
theorem tq {kk n:Int}{at1 v1:Value}(hn:1≤n) (hn2:n≤8388607) (ht:ar r=.ok k u) {s:Tok}{v:Bs}(hk:k.k=1) (hk0:k.n=0) (ht2:ar u=.ok s v) (hs:s.k=9) (hs2:s.b≠[82]) (h:LX L A c bs D (.bool false) w r):Calls Tryz.prog 98 #[.pointer (some ⟨L,0,none⟩),.agg #[.int .i64 kk,at1,.int .i64 n,v1]] w fun e w'=>∃k',e=.returned (.agg #[.int .i64 k',.int .i64 n,.slice none 0 0,.slice none 0 0,.slice none 0 0])∧k'=2∧LX L A c bs D (.bool false) w' r∧Save L w w':=by
 have hLw:=h.lt;have hAw:=h.a_lt;obtain⟨W1,hW1⟩:∃W,W=(w.alloc (.cells #[.int .i64 kk,at1,.int .i64 n,v1] 119)).alloc (.cells #[.int .i64 0,.int .i64 0,.slice none 0 0,.slice none 0 0,.slice none 0 0] 32):=⟨_,rfl⟩;have b1:Below w.heap.size w W1:=by rw[hW1];exact ((Below.refl _ _).alloc (Nat.le_refl _) _).alloc (by rw[World.size_alloc];omega) _
 have hT1:Blk W1 w.heap.size 119 #[.int .i64 kk,at1,.int .i64 n,v1]:=by rw[hW1];exact (Blk.new w _ _).alloc _
 have hR1:Blk W1 (w.heap.size+1) 32 #[.int .i64 0,.int .i64 0,.slice none 0 0,.slice none 0 0,.slice none 0 0]:=by
  rw[hW1,show w.heap.size+1=(w.alloc (.cells #[.int .i64 kk,at1,.int .i64 n,v1] 119)).heap.size from (World.size_alloc _ _).symm];exact Blk.new _ _ _
 have hL1:=h.below b1;have hS1:Save L w W1:=Save.of_below b1;obtain⟨q,hq⟩:∃q:Int,q=(pos bs r:Nat):=⟨_,rfl⟩;have hneT:w.heap.size≠L:=by omega
 have hneR:w.heap.size+1≠L:=by omega
 have hsuf:=h.suf;obtain⟨hL,hS,hT,hR⟩:Hid (LX L A c bs D (.bool false) W1 r)∧Hid (Save L w W1)∧Hid (Blk W1 w.heap.size 119 #[.int .i64 kk,at1,.int .i64 n,v1])∧Hid (Blk W1 (w.heap.size+1) 32 #[.int .i64 0,.int .i64 0,.slice none 0 0,.slice none 0 0,.slice none 0 0]):=⟨Lib.hid hL1,Lib.hid hS1,Lib.hid hT1,Lib.hid hR1⟩;have l1:=hL1.blk.cell 1;rw[←hq]at l1;have l3:=hL1.blk.cell 3;have lv:=hL1.blk.frozen 1;have t2:=hT1.cell 2;obtain⟨p0,p1,p2,p3,p4,f0,f1,f2,f3,f4⟩:=hR1.b5;refine h3_ h hq hsuf ?_;clear h hq hsuf;intro h hq hsuf;clear hL1 hS1 hT1 hR1 b1;obtain⟨a1,ha1⟩:∃a:Int,a=(pos bs (af false r):Nat):=⟨_,rfl⟩;have ctok:=fun W (h:LX L A c bs D (.bool false) W r)=>dO h ht ha1
 replace ctok:=hi_ ctok;clear ha1 ht;obtain⟨a2,ha2⟩:∃a:Int,a=(pos bs (af false u):Nat):=⟨_,rfl⟩;have ctok2:=fun W (h:LX L A c bs D (.bool false) W u)=>dO h ht2 ha2
 replace ctok2:=hi_ ctok2;clear ha2 ht2;have hk1:(k.k == 1)=true:=by simpa using hk
 have hk2:(k.n == 0)=true:=by simpa using hk0
 clear hk hk0;have hs1:(s.k == 9)=true:=by simpa using hs
 clear hs;replace hs2:=hi_ hs2;go_enter Tryz.func98,Tryz.ntmps98;go_upto_region 1 with (fail)
 rw[←hW1];replace hW1:=hi_ hW1;go_upto_region 4 with (go_at_call 96;(with_reducible refine (ctok.out _ hL.out).mono ?_);rintro e w3 ⟨A3,c3,rfl,hO3,hL3,hS3⟩;have hS9:=hS3;replace hT:=hi_ (hS9.blk hneT hT.out);replace hR:=hi_ (hS9.blk hneR hR.out);replace hS:=hi_ (hS.out.trans hS9);replace hL:=hi_ hL3;replace l1:=hL.out.blk.cell 1;replace l3:=hL.out.blk.cell 3;replace lv:=hL.out.blk.frozen 1;replace t2:=hT.out.cell 2;obtain⟨p0,p1,p2,p3,p4,f0,f1,f2,f3,f4⟩:=hR.out.b5;clear hO3;clear hS9 hS3 hL3)
 obtain⟨W4,hW4,b4,hK4⟩:=ak w3 119 #[.int .i64 k.k,.int .i64 a1,.int .i64 k.n,.slice A3 k.b.length c3];rw[←hW4];have k40:=hK4.cell 0;have k42:=hK4.cell 2;have k43:=hK4.cell 3;replace hT:=hi_ (hT.out.below b4 hT.out.lt);replace hR:=hi_ (hR.out.below b4 hR.out.lt);replace hS:=hi_ (hS.out.then_ b4);replace hL:=hi_ (hL.out.below b4);replace l1:=hL.out.blk.cell 1;replace l3:=hL.out.blk.cell 3;replace lv:=hL.out.blk.frozen 1;replace t2:=hT.out.cell 2;obtain⟨p0,p1,p2,p3,p4,f0,f1,f2,f3,f4⟩:=hR.out.b5;replace hW4:=hi_ hW4;go_upto_region 6 with (go_at_call 96;(with_reducible refine (ctok2.out _ hL.out).mono ?_);rintro e w3 ⟨A6,c6,rfl,hO6,hL3,hS3⟩;have hS9:=hS3;replace hT:=hi_ (hS9.blk hneT hT.out);replace hR:=hi_ (hS9.blk hneR hR.out);replace hS:=hi_ (hS.out.trans hS9);replace hL:=hi_ hL3;replace l1:=hL.out.blk.cell 1;replace l3:=hL.out.blk.cell 3;replace lv:=hL.out.blk.frozen 1;replace t2:=hT.out.cell 2;obtain⟨p0,p1,p2,p3,p4,f0,f1,f2,f3,f4⟩:=hR.out.b5;have hSo:=hS3;replace hO6:=hi_ hO6;clear hSo;clear hS9 hS3 hL3)
 obtain⟨W6,hW6,b6,hK6⟩:=ak w3 119 #[.int .i64 s.k,.int .i64 a2,.int .i64 s.n,.slice A6 s.b.length c6];rw[←hW6];have k60:=hK6.cell 0;have k62:=hK6.cell 2;have k63:=hK6.cell 3;replace hT:=hi_ (hT.out.below b6 hT.out.lt);replace hR:=hi_ (hR.out.below b6 hR.out.lt);replace hS:=hi_ (hS.out.then_ b6);replace hL:=hi_ (hL.out.below b6);replace l1:=hL.out.blk.cell 1;replace l3:=hL.out.blk.cell 3;replace lv:=hL.out.blk.frozen 1;replace t2:=hT.out.cell 2;obtain⟨p0,p1,p2,p3,p4,f0,f1,f2,f3,f4⟩:=hR.out.b5;replace hW6:=hi_ hW6;obtain⟨_,_,e7,hby,_,_⟩:=(hO6.out.below b6).out2 (hO6.out.below b6).len;cases e7;have hcv:=cN W6 A6 c6 s.b hby
 clear hby
 have hke:((bytes s.b).toList == [82])=false:=by rw[ByteArray.toList_eq];show (s.b == [82])=_;exact beq_eq_false_iff_ne.2 hs2.out
 go_wp2
 obtain⟨W8,hW8⟩:∃W,W=W6.setCell ⟨L,1,none⟩ (.int .i64 q):=⟨_,rfl⟩;rw[←hW8];have hL8:LX L A c bs D (.bool false) W8 r:=by rw[hW8,hq.out];exact hL.out.go hsuf.out
 have hS8:Save L w W8:=by rw[hW8];exact hS.out.store 1 _
 have hR8:Blk W8 (w.heap.size+1) 32 #[.int .i64 0,.int .i64 0,.slice none 0 0,.slice none 0 0,.slice none 0 0]:=by rw[hW8];exact hR.out.far (p:=⟨L,1,none⟩) hneR _
 generalize hWf:World.setCell _ _ _=Wf;replace hWf:=hWf.symm;obtain⟨hbf,hLf,hSf⟩:=aw hS8 hL8 hR8 (by omega) hneR.symm hAw hWf;obtain⟨u0,u1,u2,u3,u4,-⟩:=hbf.b5;refine h3_ hLf hSf hWf ?_;clear hLf hSf hWf;intro hLf hSf hWf;clear hbf;exact bodyPost_ret (by simp[results,Tryz.results98,go_sem,u0,u1,u2,u3,u4];try rfl) rfl ⟨_,rfl,rfl,hLf.out,hSf.out⟩
theorem tr {kk n:Int}{at1 v1:Value}(hn:1≤n) (hn2:n≤8388607) (ht:ar r=.ok k u) {s:Tok}{v:Bs}(hk:k.k=1) (hk0:k.n=0) (ht2:ar u=.ok s v) (hs:s.k=9) (hs2:s.b=[82]) (h:LX L A c bs D (.bool false) w r):Calls Tryz.prog 98 #[.pointer (some ⟨L,0,none⟩),.agg #[.int .i64 kk,at1,.int .i64 n,v1]] w fun e w'=>∃k',e=.returned (.agg #[.int .i64 k',.int .i64 n,.slice none 0 0,.slice none 0 0,.slice none 0 0])∧k'=9∧LX L A c bs D (.bool false) w' v∧Save L w w':=by
 have hLw:=h.lt;have hAw:=h.a_lt;obtain⟨W1,hW1⟩:∃W,W=(w.alloc (.cells #[.int .i64 kk,at1,.int .i64 n,v1] 119)).alloc (.cells #[.int .i64 0,.int .i64 0,.slice none 0 0,.slice none 0 0,.slice none 0 0] 32):=⟨_,rfl⟩;have b1:Below w.heap.size w W1:=by rw[hW1];exact ((Below.refl _ _).alloc (Nat.le_refl _) _).alloc (by rw[World.size_alloc];omega) _
 have hT1:Blk W1 w.heap.size 119 #[.int .i64 kk,at1,.int .i64 n,v1]:=by rw[hW1];exact (Blk.new w _ _).alloc _
 have hR1:Blk W1 (w.heap.size+1) 32 #[.int .i64 0,.int .i64 0,.slice none 0 0,.slice none 0 0,.slice none 0 0]:=by
  rw[hW1,show w.heap.size+1=(w.alloc (.cells #[.int .i64 kk,at1,.int .i64 n,v1] 119)).heap.size from (World.size_alloc _ _).symm];exact Blk.new _ _ _
 have hL1:=h.below b1;have hS1:Save L w W1:=Save.of_below b1;obtain⟨q,hq⟩:∃q:Int,q=(pos bs r:Nat):=⟨_,rfl⟩;have hneT:w.heap.size≠L:=by omega
 have hneR:w.heap.size+1≠L:=by omega
 have hsuf:=h.suf;obtain⟨hL,hS,hT,hR⟩:Hid (LX L A c bs D (.bool false) W1 r)∧Hid (Save L w W1)∧Hid (Blk W1 w.heap.size 119 #[.int .i64 kk,at1,.int .i64 n,v1])∧Hid (Blk W1 (w.heap.size+1) 32 #[.int .i64 0,.int .i64 0,.slice none 0 0,.slice none 0 0,.slice none 0 0]):=⟨Lib.hid hL1,Lib.hid hS1,Lib.hid hT1,Lib.hid hR1⟩;have l1:=hL1.blk.cell 1;rw[←hq]at l1;have l3:=hL1.blk.cell 3;have lv:=hL1.blk.frozen 1;have t2:=hT1.cell 2;obtain⟨p0,p1,p2,p3,p4,f0,f1,f2,f3,f4⟩:=hR1.b5;refine h3_ h hq hsuf ?_;clear h hq hsuf;intro h hq hsuf;clear hL1 hS1 hT1 hR1 b1;obtain⟨a1,ha1⟩:∃a:Int,a=(pos bs (af false r):Nat):=⟨_,rfl⟩;have ctok:=fun W (h:LX L A c bs D (.bool false) W r)=>dO h ht ha1
 replace ctok:=hi_ ctok;clear ha1 ht;obtain⟨a2,ha2⟩:∃a:Int,a=(pos bs (af false u):Nat):=⟨_,rfl⟩;have ctok2:=fun W (h:LX L A c bs D (.bool false) W u)=>dO h ht2 ha2
 replace ctok2:=hi_ ctok2;clear ha2 ht2;have hk1:(k.k == 1)=true:=by simpa using hk
 have hk2:(k.n == 0)=true:=by simpa using hk0
 clear hk hk0;have hs1:(s.k == 9)=true:=by simpa using hs
 clear hs;replace hs2:=hi_ hs2;go_enter Tryz.func98,Tryz.ntmps98;go_upto_region 1 with (fail)
 rw[←hW1];replace hW1:=hi_ hW1;go_upto_region 4 with (go_at_call 96;(with_reducible refine (ctok.out _ hL.out).mono ?_);rintro e w3 ⟨A3,c3,rfl,hO3,hL3,hS3⟩;have hS9:=hS3;replace hT:=hi_ (hS9.blk hneT hT.out);replace hR:=hi_ (hS9.blk hneR hR.out);replace hS:=hi_ (hS.out.trans hS9);replace hL:=hi_ hL3;replace l1:=hL.out.blk.cell 1;replace l3:=hL.out.blk.cell 3;replace lv:=hL.out.blk.frozen 1;replace t2:=hT.out.cell 2;obtain⟨p0,p1,p2,p3,p4,f0,f1,f2,f3,f4⟩:=hR.out.b5;clear hO3;clear hS9 hS3 hL3)
 obtain⟨W4,hW4,b4,hK4⟩:=ak w3 119 #[.int .i64 k.k,.int .i64 a1,.int .i64 k.n,.slice A3 k.b.length c3];rw[←hW4];have k40:=hK4.cell 0;have k42:=hK4.cell 2;have k43:=hK4.cell 3;replace hT:=hi_ (hT.out.below b4 hT.out.lt);replace hR:=hi_ (hR.out.below b4 hR.out.lt);replace hS:=hi_ (hS.out.then_ b4);replace hL:=hi_ (hL.out.below b4);replace l1:=hL.out.blk.cell 1;replace l3:=hL.out.blk.cell 3;replace lv:=hL.out.blk.frozen 1;replace t2:=hT.out.cell 2;obtain⟨p0,p1,p2,p3,p4,f0,f1,f2,f3,f4⟩:=hR.out.b5;replace hW4:=hi_ hW4;go_upto_region 6 with (go_at_call 96;(with_reducible refine (ctok2.out _ hL.out).mono ?_);rintro e w3 ⟨A6,c6,rfl,hO6,hL3,hS3⟩;have hS9:=hS3;replace hT:=hi_ (hS9.blk hneT hT.out);replace hR:=hi_ (hS9.blk hneR hR.out);replace hS:=hi_ (hS.out.trans hS9);replace hL:=hi_ hL3;replace l1:=hL.out.blk.cell 1;replace l3:=hL.out.blk.cell 3;replace lv:=hL.out.blk.frozen 1;replace t2:=hT.out.cell 2;obtain⟨p0,p1,p2,p3,p4,f0,f1,f2,f3,f4⟩:=hR.out.b5;have hSo:=hS3;replace hO6:=hi_ hO6;clear hSo;clear hS9 hS3 hL3)
 obtain⟨W6,hW6,b6,hK6⟩:=ak w3 119 #[.int .i64 s.k,.int .i64 a2,.int .i64 s.n,.slice A6 s.b.length c6];rw[←hW6];have k60:=hK6.cell 0;have k62:=hK6.cell 2;have k63:=hK6.cell 3;replace hT:=hi_ (hT.out.below b6 hT.out.lt);replace hR:=hi_ (hR.out.below b6 hR.out.lt);replace hS:=hi_ (hS.out.then_ b6);replace hL:=hi_ (hL.out.below b6);replace l1:=hL.out.blk.cell 1;replace l3:=hL.out.blk.cell 3;replace lv:=hL.out.blk.frozen 1;replace t2:=hT.out.cell 2;obtain⟨p0,p1,p2,p3,p4,f0,f1,f2,f3,f4⟩:=hR.out.b5;replace hW6:=hi_ hW6;obtain⟨_,_,e7,hby,_,_⟩:=(hO6.out.below b6).out2 (hO6.out.below b6).len;cases e7;have hcv:=cN W6 A6 c6 s.b hby
 clear hby
 have hke:((bytes s.b).toList == [82])=true:=by rw[ByteArray.toList_eq];show (s.b == [82])=_;rw[hs2.out];rfl
 go_wp2
 generalize hWf:World.setCell _ _ _=Wf;replace hWf:=hWf.symm;obtain⟨hbf,hLf,hSf⟩:=aw hS.out hL.out hR.out (by omega) hneR.symm hAw hWf;obtain⟨u0,u1,u2,u3,u4,-⟩:=hbf.b5;refine h3_ hLf hSf hWf ?_;clear hLf hSf hWf;intro hLf hSf hWf;clear hbf;exact bodyPost_ret (by simp[results,Tryz.results98,go_sem,u0,u1,u2,u3,u4];try rfl) rfl ⟨_,rfl,rfl,hLf.out,hSf.out⟩
theorem jS {B:Nat}{w:World}(k n:Int) (hk1: -9223372036854775808≤k) (hk2:k≤9223372036854775807) (hn: -9223372036854775808≤n∧n≤9223372036854775807):ObI B w.heap.size w (.mk k n [] [] []) [.int .i64 k,.int .i64 n,.slice none 0 0,.slice none 0 0,.slice none 0 0]:=
 el (tO:=32) (tE:=91) hk1 hk2 hn.1 hn.2 (Own.nil B w).row (by simp[maxLen]) (RowG.nil _ _ _ _ _) (RowG.nil _ _ _ _ _)
theorem pt {pl:Bool}{kk n:Int}{at1 v1:Value}(h:LX L A c bs D (.bool pl) w r) (hn9: -9223372036854775808≤n∧n≤9223372036854775807):Calls Tryz.prog 98 #[.pointer (some ⟨L,0,none⟩),.agg #[.int .i64 kk,at1,.int .i64 n,v1]] w fun e w'=>∃us,e=.returned (.agg (List.toArray us))∧ObI w.heap.size w'.heap.size w' (aZ pl n r).1 us∧LX L A c bs D (.bool pl) w' (aZ pl n r).2∧Save L w w':=by
 have fin:∀{m:Int}{u:Bs},aZ pl n r=(.mk m n [] [] [],u)→(m=2∨m=9)→(Calls Tryz.prog 98 #[.pointer (some ⟨L,0,none⟩),.agg #[.int .i64 kk,at1,.int .i64 n,v1]] w fun e w'=>∃k',e=.returned (.agg #[.int .i64 k',.int .i64 n,.slice none 0 0,.slice none 0 0,.slice none 0 0])∧k'=m∧LX L A c bs D (.bool pl) w' u∧Save L w w')→Calls Tryz.prog 98 #[.pointer (some ⟨L,0,none⟩),.agg #[.int .i64 kk,at1,.int .i64 n,v1]] w fun e w'=>∃us,e=.returned (.agg (List.toArray us))∧ObI w.heap.size w'.heap.size w' (aZ pl n r).1 us∧LX L A c bs D (.bool pl) w' (aZ pl n r).2∧Save L w w':=fun {m u} e hm hc=>by
  rw[e];refine hc.mono fun e w' hq=>?_
  obtain⟨k',rfl,rfl,h1,h2⟩:=hq;exact⟨_,rfl,jS _ n (by rcases hm with h|h <;> omega) (by rcases hm with h|h <;> omega) hn9,h1,h2⟩
 rcases Int.lt_or_le n 1 with h1|h1
 ·exact fin (kE (by omega) pl) (.inl rfl) (tT h1 h)
 rcases Int.lt_or_le 8388607 n with h2|h2
 ·exact fin (kE (by omega) pl) (.inl rfl) (tS h2 h)
 cases pl with
 |true=>exact fin qc (.inl rfl) (tU h1 h2 h)
 |false=>
  cases ht:ar r with
  |err e u=>exact fin (qa ht) (.inl rfl) (tQ h1 h2 ht h)
  |ok k u=>
   by_cases hk:k.k=1
   ·by_cases hk0:k.n=0
    ·cases ht2:ar u with
     |err e v=>exact fin (qb ht ht2) (.inl rfl) (tR h1 h2 ht hk hk0 ht2 h)
     |ok s v=>
      by_cases hs:s.k=9
      ·by_cases hs2:s.b=[82]
       ·exact fin (ny ⟨h1,h2⟩ ht ⟨hk,hk0⟩ ht2 ⟨hs,hs2⟩) (.inr rfl) (tr h1 h2 ht hk hk0 ht2 hs hs2 h)
       ·exact fin (kD ht ht2 (fun h=>hs2 h.2)) (.inl rfl) (tq h1 h2 ht hk hk0 ht2 hs hs2 h)
      ·exact fin (kD ht ht2 (fun h=>hs h.1)) (.inl rfl) (tp h1 h2 ht hk hk0 ht2 hs h)
    ·exact fin (kC ht (fun h=>hk0 h.2)) (.inl rfl) (tn h1 h2 ht hk hk0 h)
   ·exact fin (kC ht (fun h=>hk h.1)) (.inl rfl) (tl h1 h2 ht hk h)
end
end
section
open Go Go.RowKit Go.Wk Go.Rd
theorem iP (K:Bs) (X:Ob) (pb:Bool) (e:Bs×Ob) (r:List (Bs×Ob)):br K X pb (e :: r)=(if !pb && !ltB e.1 K then [(K,X)] else [])++((if e.1=K then [] else [e])++br K X (pb || !ltB e.1 K) r):=rfl
theorem iO (K:Bs) (X:Ob):∀(d:List (Bs×Ob)) (pb:Bool),(br K X pb d).length≤d.length+(if pb then 0 else 1)
 |[],pb=>by cases pb <;> simp[br]
 |e :: r,pb=>by
  rw[iP,List.length_append,List.length_append,List.length_cons];have h0:=iO K X r (pb || !ltB e.1 K);have h1:(if e.1=K then ([]:List (Bs×Ob)) else [e]).length≤1:=by split <;> simp
  generalize (if e.1=K then ([]:List (Bs×Ob)) else [e]).length=E at h1⊢;obtain⟨lt,hlt⟩:∃b,b=ltB e.1 K:=⟨_,rfl⟩;rw[←hlt]at h0⊢;generalize (br K X (pb || !lt) r).length=G at h0⊢;clear hlt;cases pb <;> cases lt <;> simp only[Bool.not_true,Bool.not_false,Bool.and_true,Bool.and_false,Bool.or_true,Bool.or_false,Bool.false_eq_true,if_true,if_false,List.length_cons,List.length_nil]at h0⊢<;> omega
theorem kF (K:Bs) (X:Ob) (d:List (Bs×Ob)) (pb:Bool):(br K X pb d).length≤d.length+1:=by
 have:=iO K X d pb;split at this <;> omega
def EnA (kb lo hi:Nat) (w:World) (e:Bs×Ob) (rs:List Value):Prop:=EnI lo hi w e rs∧(kb<lo∨hi≤kb)
theorem az (kb:Nat):ItLaw (EnA kb) 6:=⟨fun h hk hs=>⟨en_law.keep h.1 hk hs,h.2⟩,fun h=>en_law.top h.1,fun h=>en_law.len h.1⟩
theorem RowG.en {kb:Nat}{e:TypeId}{sz B:Nat}{w:World}{v:Value}{l:List (Bs×Ob)}{rss:List (List Value)}(h:RowG (EnA kb) e sz B w v l rss):RowG EnI e sz B w v l rss:=
 ⟨h.len,h.row,fun i hi=>by obtain⟨lo,hi',h1,h2,h3⟩:=h.it i hi;exact⟨lo,hi',h1,h2,h3.1⟩⟩
theorem RowG.other {kb kb':Nat}{e:TypeId}{sz B:Nat}{w:World}{v:Value}{l:List (Bs×Ob)}{rss:List (List Value)}(h:RowG (EnA kb) e sz B w v l rss) (hk:w.heap.size≤kb'):RowG (EnA kb') e sz B w v l rss:=
 ⟨h.len,h.row,fun i hi=>by obtain⟨lo,hi',h1,h2,h3⟩:=h.it i hi;exact⟨lo,hi',h1,h2,h3.1,.inr (Nat.le_trans (en_law.top h3.1) hk)⟩⟩
theorem fb {kb:Nat}{w:World}{ops:Array Oper}{rest:List Oper}{o:Oper}{a:Act}{Q:Exit→Act→World→Prop}(hgd:o.guard=none) (s x:Operand)
 (ho:o.op=.call {callee:=.builtin .append,args:=#[s,x],argTypes:=#[30,30]}) (B:Nat) (v:Value) (l:List (List UInt8×Ob)) (rss:List (List Value)) (hs:a.eval s=v) (hR:RowG (EnA kb) 91 6 B w v l rss)
 (g lo hi:Nat) (e:List UInt8×Ob) (us:List Value) (hx:a.eval x=.slice (some ⟨g,0,none⟩) 1 1) (hob:EnA kb lo hi w e us) (hlo:B≤lo) (hne:∀g,v.ownBlock=some g→g<lo∨hi≤g)
 (hc:∀j u,us[j]?=some u→w.cell? ⟨g,j,none⟩=some u) (hl:l.length≤1000000000) (hB:B≤w.heap.size)
 (h:∀v' w',RowG (EnA kb) 91 6 B w' v' (l++[e]) (rss++[us])→w.grownBy w' v.ownBlock→(v'.ownBlock=v.ownBlock∨v'.ownBlock=some w.heap.size)→wpList Tryz.prog ops Q rest (a.put o.dst v') w'):wpList Tryz.prog ops Q (o :: rest) a w:=by
 obtain⟨i0,hi0,hz0,hz1,hz2⟩:=eI;refine wpList_append_own_at w hgd s x 30 ho B 91 i0 _ 6 104 Tryz.underlying30 hi0 hz0 hz1 hz2 rfl (by decide) v l.length rss.flatten hs hR.row ⟨g,0,none⟩ 1 1 us hx (by rw[en_law.len hob.1]) ?_ (mc hob.1) (by unfold maxLen;omega) (by omega) hB ?_
 ·intro j u hu;rw[bz,Nat.zero_add];exact hc j u hu
 ·intro v' w' h1 h2 _ h3
  exact h v' w' (hR.more (az kb) hob hlo hne h1 h2 h3) h2 h3
theorem m9 (kb:Nat) (w:World) (hkb:kb<w.heap.size) (B:Nat) (v:Value) (d:List (Bs×Ob)) (rd:List (List Value)) (hd:RowG (EnA kb) 91 6 B w v d rd) (hB:B≤w.heap.size) (KB:ByteArray) (X:Ob) (xs:List Value) (hn:d.length≤100000000) (hX:ObAt w X xs) (hXb:X.bulk≤100000000) (hKl:KB.data.toList.length≤maxLen) :
 Calls Tryz.prog 45 #[v,.agg (List.toArray (.string KB :: xs))] w fun e w'=>∃v' rd',e=.returned v'∧RowG (EnA kb) 91 6 B w' v' (dA KB.data.toList X d) rd'∧(∀g,v'.ownBlock=some g→w.heap.size≤g)∧Below w.heap.size w w':=by
 obtain⟨xn,F1,F2,F3,fn1,fc1,fn2,fc2,fn3,fc3,hxs⟩:=ay hX;obtain⟨xk,hxk⟩:∃k,k=X.kind:=⟨_,rfl⟩;rw[←hxk]at hxs;subst hxs;obtain⟨R,hRe⟩:∃R,R=dA KB.data.toList X d:=⟨_,rfl⟩;rw[←hRe];unfold dA at hRe;rw[←hxk]at hRe;obtain⟨W1,hW1,hb1⟩:=bH w 91 #[.string KB,.int .i64 xk,.int .i64 xn,.slice F1 fn1 fc1,.slice F2 fn2 fc2,.slice F3 fn3 fc3];have z1:W1.heap.size=w.heap.size+1:=by rw[hW1,World.size_alloc]
 have hx6:=ec hW1;have ck:=fun W (hW:Below W1.heap.size W1 W)=>iC 100000000 (Nat.le_refl _) X _ W (hX.kept (ah hb1 hW)) hXb
 obtain⟨AD,cD,gD,rfl,hlc,hAn,hAD,hcm,hit⟩:=hd.out (az kb) (by omega);obtain⟨oD,hoD⟩:∃o:Nat,o=0:=⟨_,rfl⟩;replace hAD:0<d.length→AD=some ⟨gD,oD,none⟩:=by rw[hoD];exact hAD
 obtain⟨m,hm⟩:∃m,m=d.length:=⟨_,rfl⟩;have hat:∀i,(hi:i<d.length)→∃(S:ByteArray) (c0 c1 c2 c3 c4:Value) (lo hi':Nat),S.data.toList=d[i].1∧B≤lo∧hi'≤w.heap.size∧EnA kb lo hi' w d[i] [.string S,c0,c1,c2,c3,c4]∧
  (∀W,Below w.heap.size w W→W.cell? ⟨gD,oD+i*6,none⟩=some (.string S)∧W.cell? ⟨gD,oD+i*6+1,none⟩=some c0∧W.cell? ⟨gD,oD+i*6+2,none⟩=some c1∧W.cell? ⟨gD,oD+i*6+3,none⟩=some c2∧W.cell? ⟨gD,oD+i*6+4,none⟩=some c3∧W.cell? ⟨gD,oD+i*6+5,none⟩=some c4):=fun i hi=>by
  obtain⟨lo,hi',hlo,hap,hI⟩:=hd.it i hi;have hcs:=(hit i hi).2;obtain⟨us,e1,e2,e3⟩:=hI.1;have h5:=e3.ob.five
  match us,h5 with
  |[c0,c1,c2,c3,c4],_=>
   refine⟨⟨d[i].1.toArray⟩,c0,c1,c2,c3,c4,lo,hi',by simp,hlo,e3.1,by rw[e1]at hI;exact hI,fun W hW=>?_⟩;have cel:∀j u,(rd.getD i [])[j]?=some u→W.cell? ⟨gD,oD+i*6+j,none⟩=some u:=fun j u hu=>by
    have hj:j<6:=by have:=(List.getElem?_eq_some_iff.1 hu).1;rw[e1]at this;simpa using this
    have h9:=hcs j hj;rw[hu]at h9;rw[←(hW.cell (ac h9)).trans h9,hoD]
    congr 2
    omega
   rw[e1]at cel;exact⟨cel 0 _ rfl,cel 1 _ rfl,cel 2 _ rfl,cel 3 _ rfl,cel 4 _ rfl,cel 5 _ rfl⟩
 have hRl:R.length≤m+1:=by rw[hRe,hm];exact kF _ _ _ _
 have hmd:m=d.length:=hm;rw[←hm]at hn hlc hAD⊢;refine h9_ hRl hRe hat ck hx6 hb1 hAD hKl hmd ?_;clear hRl hRe hat ck hx6 hb1 hAD hKl hmd;intro hRl hRe hat ck hx6 hb1 hAD hKl hmd;replace hxk:=hi_ hxk;clear hd hX hXb hit hAn hcm hm hoD;go_enter Tryz.func45,Tryz.ntmps45;go_upto_region 1 with (fail)
 rw[←hW1];replace hW1:=hi_ hW1;obtain⟨f0,f1,f2,f3,f4,f5⟩:=hx6.out;go_wp2
 go_loopw [5,6,7] (fun s5 s6 s7 wr=>∃(i:Nat) (O:List (Bs×Ob)) (rss:List (List Value)) (pb:Bool),i≤m∧s7=.int .i64 i∧s6=.bool pb∧RowG (EnA kb) 91 6 B wr s5 O rss∧(∀g,s5.ownBlock=some g→W1.heap.size≤g)∧O++br KB.data.toList X pb (d.drop i)=R∧Below W1.heap.size W1 wr) (fun _ _ s7 _=>m - (RowKit.intOf s7).toNat)
 case atStart=>exact⟨0,[],[],xk == 0,by omega,rfl,rfl,RowG.nil _ _ _ _ _,fun g h=>by simp[Value.ownBlock]at h,by rw[hRe.out];rfl,Below.refl _ _⟩
 case round=>
  obtain⟨i,O,rss,pb,hi,rfl,rfl,hG,hge,hRO,hB1⟩:=hrel;have lB:=hB1.size;obtain⟨y0,y1,y2,y3,y4,y5⟩:=bq hx6.out hB1;have hOl:O.length≤100000001:=by
   have h1:=congrArg List.length hRO;have h2:=hRl.out;rw[List.length_append]at h1;omega
  replace hOl:=hi_ hOl;by_cases him:i<m
  ·have hAe:=hAD.out (by omega)
   subst hAe;obtain⟨S,c0,c1,c2,c3,c4,lo,hi',hSk,hlo,hhi,hEn,hcell⟩:=hat.out i (by have:=hmd.out;omega);obtain⟨E,hE⟩:∃E,E=d[i]'(by have:=hmd.out;omega):=⟨_,rfl⟩;rw[←hE]at hSk hEn;have hdr:d.drop i=E :: d.drop (i+1):=by rw[hE];exact List.drop_eq_getElem_cons _
   rw[hdr,iP]at hRO;have e1:(Op.bytesLess KB.toList S.toList || KB.toList == S.toList)=!ltB E.1 KB.data.toList:=by rw[qD,hSk]
   have e3:(S.toList == KB.toList)=decide (E.1=KB.data.toList):=by
    rw[ByteArray.toList_eq,ByteArray.toList_eq,hSk,Bool.eq_iff_iff];simp
   have e2:(S.toList !=KB.toList)=!(decide (E.1=KB.data.toList)):=by rw[bne,e3]
   obtain⟨k0,k1,k2,k3,k4,k5⟩:=hcell wr (ah hb1.out hB1);obtain⟨lt,hlt⟩:∃b,b=ltB E.1 KB.data.toList:=⟨_,rfl⟩;obtain⟨eq,heq⟩:∃b,b=decide (E.1=KB.data.toList):=⟨_,rfl⟩;have hif:(if E.1=KB.data.toList then ([]:List (Bs×Ob)) else [E])=if eq then [] else [E]:=by rw[heq];by_cases h:E.1=KB.data.toList <;> simp[h]
   rw[hif]at hRO;rw[←hlt]at hRO e1;rw[←heq]at e2 e3;refine h9_ hif hlt heq hE hdr hSk hEn hlo hhi ?_;clear hif hlt heq hE hdr hSk hEn hlo hhi;intro hif hlt heq hE hdr hSk hEn hlo hhi;refine h5_ hcell hRO hG hge hB1 ?_;clear hcell hRO hG hge hB1;intro hcell hRO hG hge hB1;have ways:(pb=true∧(!pb && !lt)=false∧(pb || !lt)=true)∨(pb=false∧lt=true)∨(pb=false∧lt=false):=by cases pb <;> cases lt <;> simp
   rcases ways with ⟨rfl,hw1,hw2⟩|⟨rfl,rfl⟩|⟨rfl,rfl⟩
   ·have hRO2:=hRO.out
    rw[hw1,hw2]at hRO2;simp only[Bool.false_eq_true,if_false,List.nil_append]at hRO2;clear hw1 hw2 e1 hRO;go_upto_region 6 with (fail)
    go_quiet (fail)
    obtain⟨wq,hwq⟩:∃W,W=wr.drewN nq:=⟨_,rfl⟩;rw[←hwq];have hBq:Below wr.heap.size wr wq:=by rw[hwq];exact bo _ _
    obtain⟨t0,t1,t2,t3,t4,t5⟩:=hcell.out wq (ah (ah hb1.out hB1.out) hBq);have s0:=(hBq.cell (ac y0)).trans y0;replace hwq:=hi_ hwq;clear k0 k1 k2 k3 k4 k5 y0 y1 y2 y3 y4 y5;obtain⟨hO3,hG3,hge3,hRO3,hB3,zz⟩:Hid (O.length≤100000001)∧Hid (RowG (EnA kb) 91 6 B wq u5 O rss)∧Hid (∀g,u5.ownBlock=some g→W1.heap.size≤g)∧Hid (O++((if eq then [] else [E])++br KB.data.toList X true (d.drop (i+1)))=R)∧Hid (Below W1.heap.size W1 wq)∧W1.heap.size≤wq.heap.size:=⟨hOl,Lib.hid (hG.out.below (az kb) hBq),hge,Lib.hid hRO2,Lib.hid (ah hB1.out hBq),by have:=hBq.size;omega⟩;clear hRO2 hBq;cases eq with
    |true=>
     simp only[Bool.not_true]at e2;have hRO5:=hRO3.out;simp only[if_true,List.nil_append]at hRO5;replace hRO5:=hi_ hRO5;go_upto_region 9 with (fail)
     go_quiet (fail)
     obtain⟨wz,hwz⟩:∃W,W=wq.drewN nq:=⟨_,rfl⟩;rw[←hwz];have hBz:Below wq.heap.size wq wz:=by rw[hwz];exact bo _ _
     replace hwz:=hi_ hwz;replace hBz:=hi_ hBz;go_wp2
     go_roundw
     case measure=>simp[RowKit.intOf];omega
     case rel=>exact⟨i+1,O,rss,true,by omega,by go_num,rfl,hG3.out.below (az kb) hBz.out,hge3.out,hRO5.out,ah hB3.out hBz.out⟩
    |false=>
     simp only[Bool.not_false]at e2;have hRO5:=hRO3.out;simp only[Bool.false_eq_true,if_false]at hRO5;replace hRO5:=hi_ hRO5;go_upto_region 9 with (fail)
     go_quiet (fail)
     obtain⟨wz,hwz⟩:∃W,W=wq.drewN nq:=⟨_,rfl⟩;rw[←hwz];have hBz:Below wq.heap.size wq wz:=by rw[hwz];exact bo _ _
     clear t0 t1 t2 t3 t4 t5;obtain⟨t0,t1,t2,t3,t4,t5⟩:=hcell.out wz (ah (ah hb1.out hB3.out) hBz);obtain⟨wA,hwA,hbA⟩:=bH wz 91 #[.string S,c0,c1,c2,c3,c4];have hDA:=ah hBz hbA;have hDw:Below w.heap.size w wA:=ah (ah hb1.out hB3.out) hDA;have hGA:=hG3.out.below (az kb) hDA;have hEA:=(az kb).keep hEn.out (fun q _ hq=>hDw.block q (by have:=hhi.out;omega)) (Nat.le_trans hhi.out hDw.size);have hcA:∀j u,[Value.string S,c0,c1,c2,c3,c4][j]?=some u→wA.cell? ⟨wz.heap.size,j,none⟩=some u:=fun j u hu=>by rw[hwA];exact cI wz _ 91 j u hu
     have hapA:∀g,u5.ownBlock=some g→g<lo∨hi'≤g:=fun g hg=>by have:=hge3.out g hg;have:=hhi.out;right;omega
     have hzA:wA.heap.size=wz.heap.size+1:=by rw[hwA];exact World.size_alloc _ _
     have zq:=hBz.size;have hltA:=World.ownsRow.lt hGA.row;refine h9_ hwz hBz hbA hDA hDw hGA hEA hcA hapA ?_;clear hwz hBz hbA hDA hDw hGA hEA hcA hapA;intro hwz hBz hbA hDA hDw hGA hEA hcA hapA;refine h3_ hzA hwA hltA ?_;clear hzA hwA hltA;intro hzA hwA hltA;go_wp2_with (at_builtin;rw[←hwA.out];refine fb rfl _ _ rfl B u5 O rss rfl hGA.out wz.heap.size lo hi' E _ rfl hEA.out hlo.out hapA.out hcA.out (by have:=hO3.out;omega) (by rw[hzA.out];omega) ?_;intro v6 w6 hG6 hg6 hat6;replace hG6:=hi_ hG6;replace hg6:=hi_ hg6;replace hat6:=hi_ hat6)
     go_roundw
     case measure=>simp[RowKit.intOf];omega
     case rel=>
      refine⟨i+1,_,_,true,by omega,by go_num,rfl,hG6.out,fun g hg=>?_,by rw[List.append_assoc];exact hRO5.out,?_⟩
      ·rcases hat6.out with e|e
       ·exact hge3.out g (e.symm.trans hg)
       ·rw[e]at hg;injection hg with hg;rw[←hg,hzA.out];omega
      ·exact (ah hB3.out hDA.out).grown hg6.out (by rw[hzA.out];omega) (fun q hq=>hge3.out q hq)
   ·have hRO2:=hRO.out
    simp only[Bool.not_true,Bool.and_false,Bool.false_eq_true,if_false,List.nil_append,Bool.or_false]at hRO2;simp only[Bool.not_true]at e1;clear hRO;go_upto_region 6 with (fail)
    go_quiet (fail)
    obtain⟨wq,hwq⟩:∃W,W=wr.drewN nq:=⟨_,rfl⟩;rw[←hwq];have hBq:Below wr.heap.size wr wq:=by rw[hwq];exact bo _ _
    obtain⟨t0,t1,t2,t3,t4,t5⟩:=hcell.out wq (ah (ah hb1.out hB1.out) hBq);have s0:=(hBq.cell (ac y0)).trans y0;replace hwq:=hi_ hwq;clear k0 k1 k2 k3 k4 k5 y0 y1 y2 y3 y4 y5;obtain⟨hO3,hG3,hge3,hRO3,hB3,zz⟩:Hid (O.length≤100000001)∧Hid (RowG (EnA kb) 91 6 B wq u5 O rss)∧Hid (∀g,u5.ownBlock=some g→W1.heap.size≤g)∧Hid (O++((if eq then [] else [E])++br KB.data.toList X false (d.drop (i+1)))=R)∧Hid (Below W1.heap.size W1 wq)∧W1.heap.size≤wq.heap.size:=⟨hOl,Lib.hid (hG.out.below (az kb) hBq),hge,Lib.hid hRO2,Lib.hid (ah hB1.out hBq),by have:=hBq.size;omega⟩;clear hRO2 hBq;cases eq with
    |true=>
     simp only[Bool.not_true]at e2;have hRO5:=hRO3.out;simp only[if_true,List.nil_append]at hRO5;replace hRO5:=hi_ hRO5;go_upto_region 9 with (fail)
     go_quiet (fail)
     obtain⟨wz,hwz⟩:∃W,W=wq.drewN nq:=⟨_,rfl⟩;rw[←hwz];have hBz:Below wq.heap.size wq wz:=by rw[hwz];exact bo _ _
     replace hwz:=hi_ hwz;replace hBz:=hi_ hBz;go_wp2
     go_roundw
     case measure=>simp[RowKit.intOf];omega
     case rel=>exact⟨i+1,O,rss,false,by omega,by go_num,rfl,hG3.out.below (az kb) hBz.out,hge3.out,hRO5.out,ah hB3.out hBz.out⟩
    |false=>
     simp only[Bool.not_false]at e2;have hRO5:=hRO3.out;simp only[Bool.false_eq_true,if_false]at hRO5;replace hRO5:=hi_ hRO5;go_upto_region 9 with (fail)
     go_quiet (fail)
     obtain⟨wz,hwz⟩:∃W,W=wq.drewN nq:=⟨_,rfl⟩;rw[←hwz];have hBz:Below wq.heap.size wq wz:=by rw[hwz];exact bo _ _
     clear t0 t1 t2 t3 t4 t5;obtain⟨t0,t1,t2,t3,t4,t5⟩:=hcell.out wz (ah (ah hb1.out hB3.out) hBz);obtain⟨wA,hwA,hbA⟩:=bH wz 91 #[.string S,c0,c1,c2,c3,c4];have hDA:=ah hBz hbA;have hDw:Below w.heap.size w wA:=ah (ah hb1.out hB3.out) hDA;have hGA:=hG3.out.below (az kb) hDA;have hEA:=(az kb).keep hEn.out (fun q _ hq=>hDw.block q (by have:=hhi.out;omega)) (Nat.le_trans hhi.out hDw.size);have hcA:∀j u,[Value.string S,c0,c1,c2,c3,c4][j]?=some u→wA.cell? ⟨wz.heap.size,j,none⟩=some u:=fun j u hu=>by rw[hwA];exact cI wz _ 91 j u hu
     have hapA:∀g,u5.ownBlock=some g→g<lo∨hi'≤g:=fun g hg=>by have:=hge3.out g hg;have:=hhi.out;right;omega
     have hzA:wA.heap.size=wz.heap.size+1:=by rw[hwA];exact World.size_alloc _ _
     have zq:=hBz.size;have hltA:=World.ownsRow.lt hGA.row;refine h9_ hwz hBz hbA hDA hDw hGA hEA hcA hapA ?_;clear hwz hBz hbA hDA hDw hGA hEA hcA hapA;intro hwz hBz hbA hDA hDw hGA hEA hcA hapA;refine h3_ hzA hwA hltA ?_;clear hzA hwA hltA;intro hzA hwA hltA;go_wp2_with (at_builtin;rw[←hwA.out];refine fb rfl _ _ rfl B u5 O rss rfl hGA.out wz.heap.size lo hi' E _ rfl hEA.out hlo.out hapA.out hcA.out (by have:=hO3.out;omega) (by rw[hzA.out];omega) ?_;intro v6 w6 hG6 hg6 hat6;replace hG6:=hi_ hG6;replace hg6:=hi_ hg6;replace hat6:=hi_ hat6)
     go_roundw
     case measure=>simp[RowKit.intOf];omega
     case rel=>
      refine⟨i+1,_,_,false,by omega,by go_num,rfl,hG6.out,fun g hg=>?_,by rw[List.append_assoc];exact hRO5.out,?_⟩
      ·rcases hat6.out with e|e
       ·exact hge3.out g (e.symm.trans hg)
       ·rw[e]at hg;injection hg with hg;rw[←hg,hzA.out];omega
      ·exact (ah hB3.out hDA.out).grown hg6.out (by rw[hzA.out];omega) (fun q hq=>hge3.out q hq)
   ·have hRO2:=hRO.out
    simp only[Bool.not_false,Bool.and_true,if_true,Bool.or_true]at hRO2;simp only[Bool.not_false]at e1;clear hRO;go_upto_region 6 with (fail)
    go_quiet (fail)
    obtain⟨wq,hwq⟩:∃W,W=wr.drewN nq:=⟨_,rfl⟩;rw[←hwq];have hBq:Below wr.heap.size wr wq:=by rw[hwq];exact bo _ _
    obtain⟨t0,t1,t2,t3,t4,t5⟩:=hcell.out wq (ah (ah hb1.out hB1.out) hBq);have s0:=(hBq.cell (ac y0)).trans y0;replace hwq:=hi_ hwq;clear k0 k1 k2 k3 k4 k5 y0 y1 y2 y3 y4 y5;replace hG:=hi_ (hG.out.below (az kb) hBq);replace hB1:=hi_ (ah hB1.out hBq);obtain⟨x0,x1,x2,x3,x4,x5⟩:=bq hx6.out hB1.out;have lBq:W1.heap.size≤wq.heap.size:=hB1.out.size;clear hBq t0 t1 t2 t3 t4 t5 s0;go_upto_region 7 with (fail)
    refine aL (by kernel_rfl) [none,none,none,none,none,none,none,none,none,none,none,none,none,none,none,none,none,none,none,none,none,none,none,none,none,none,none,none,none,none,some 0,some 1,some 2,some 3,some 4,some 5,some 6,some 7,none,none,none,none,none,none,none,none,none,none,none,none,none,none,none,none,none,none,none,none,none,none,none,none,none,none,none,none] (fun w'=>Below wq.heap.size wq w') (fun w' w''=>Below w'.heap.size w' w'') (GW w.heap.size u5 KB #[.int .i64 xk,.int .i64 xn,.slice F1 fn1 fc1,.slice F2 fn2 fc2,.slice F3 fn3 fc3] wq.heap.size X) (by rfl) (by kernel_rfl) 8 _ rfl (by decide) (by kernel_rfl) [8,2,6,4,5,8,7,8,0] (by kernel_rfl) ?hR ?mono (.cons 7 (ab [6] rfl (by kernel_rfl) ?s7) (.cons 6 (ab [2,5] rfl (by kernel_rfl) ?s6) (.cons 5 (ab [4] rfl (by kernel_rfl) ?s5) (.cons 4 (ab [3] rfl (by kernel_rfl) ?s4) (.cons 3 (ab [] rfl (by kernel_rfl) ?s3) (.cons 2 (ab [1] rfl (by kernel_rfl) ?s2) (.cons 1 (ab [] rfl (by kernel_rfl) ?s1) (.cons 0 (ab [] rfl (by kernel_rfl) ?s0) (.nil))))))))) ?done
    case hR=>exact (Below.refl _ _).drew
    case mono=>exact lI
    case s0=>
     intro x w' hRw hd K' hK;simp only[All,GW]at hd;simp +decide only[upd,GW,ai,if_true,if_false]at hK⊢;go_simp;have hK2:=hK _ _ ⟨hRw,Below.refl _ _,rfl⟩;exact hK2
    case s1=>
     intro x w' hRw hd K' hK;simp only[All,GW]at hd;simp +decide only[upd,GW,ai,if_true,if_false]at hK⊢;go_simp;have hK2:=hK _ _ ⟨hRw,Below.refl _ _,rfl⟩;exact hK2
    case s2=>
     intro x w' hRw hd K' hK;simp only[All,GW]at hd;have tx0:=(hRw.cell (ac x0)).trans x0;simp +decide only[upd,GW,ai,if_true,if_false]at hK⊢
     try simp only[hd.1]at hK⊢
     go_simp;have hK2:=hK _ _ ⟨hRw,Below.refl _ _,rfl⟩;exact hK2
    case s3=>
     intro x w' hRw hd K' hK;simp only[All,GW]at hd;simp +decide only[upd,GW,ai,if_true,if_false]at hK⊢;go_simp;have hK2:=hK _ _ ⟨hRw,Below.refl _ _,rfl⟩;exact hK2
    case s4=>
     intro x w' hRw hd K' hK;simp only[All,GW]at hd;have tx1:=(hRw.cell (ac x1)).trans x1;have tx2:=(hRw.cell (ac x2)).trans x2;have tx3:=(hRw.cell (ac x3)).trans x3;have tx4:=(hRw.cell (ac x4)).trans x4;have tx5:=(hRw.cell (ac x5)).trans x5;simp +decide only[upd,GW,ai,if_true,if_false]at hK⊢
     try simp only[hd.1]at hK⊢
     go_simp;have hK2:=hK _ _ ⟨hRw,Below.refl _ _,rfl⟩;exact hK2
    case s5=>
     intro x w' hRw hd K' hK;simp only[All,GW]at hd;simp +decide only[upd,GW,ai,if_true,if_false]at hK⊢
     try simp only[hd.1]at hK⊢
     go_simp;refine (ck.out w' (ah hB1.out hRw)).mono ?_;rintro e' w2 ⟨us,rfl,hI6,hB6⟩;obtain⟨xn',G1,G2,G3,gn1,gc1,gn2,gc2,gn3,gc3,hx6'⟩:=ay hI6.ob;subst hx6';have hK2:=hK _ _ ⟨ah hRw hB6,hB6,_,_,_,_,_,w'.heap.size,w2.heap.size,rfl,hRw.size,hI6⟩;exact hK2
    case s6=>
     intro x w' hRw hd K' hK;simp only[All,GW]at hd;simp +decide only[upd,GW,ai,if_true,if_false]at hK⊢;obtain⟨h2,⟨a,b,c,e,f,lo,hi',h5,hlo,hI⟩,_⟩:=hd;simp only[h2,h5]at hK⊢;go_simp;have hK2:=hK _ _ ⟨hRw,Below.refl _ _,a,b,c,e,f,lo,hi',rfl,hlo,hI⟩;exact hK2
    case s7=>
     intro x w' hRw hd K' hK;simp only[All,GW]at hd;simp +decide only[upd,GW,ai,if_true,if_false]at hK⊢;obtain⟨⟨a,b,c,e,f,lo,hi',h6,hlo,hI⟩,_⟩:=hd;simp only[h6]at hK⊢;go_simp;have hbn:=(Below.refl w'.heap.size w').alloc (Nat.le_refl _) (.cells #[.string KB,a,b,c,e,f] 91);have hK2:=hK _ _ ⟨ah hRw hbn,hbn,a,b,c,e,f,lo,hi',w'.heap.size,rfl,hlo,aF hI hbn,fo w' [.string KB,a,b,c,e,f] rfl⟩;exact hK2
    case done=>
     intro x w4 hR2' hG' fr hfr;have a0:=hG' 0 (by omega);have a7:=hG' 7 (by omega);simp only[GW]at a0 a7;clear hG';obtain⟨xa,xb,xc,xd,xe,lo4,hi4,g7,a7,hlo4,hI4,hOX4⟩:=a7;simp only[ai]at hfr;rw[a7]at hOX4;rw[a0,a7]at hfr;subst hfr;clear a0 a7 x0 x1 x2 x3 x4 x5;have hD4:Below W1.heap.size W1 w4:=ah hB1.out hR2';have hG4:=hG.out.below (az kb) hR2';have hE4:EnA kb lo4 hi4 w4 (KB.data.toList,X) [.string KB,xa,xb,xc,xd,xe]:=⟨⟨[xa,xb,xc,xd,xe],rfl,hKl.out,hI4⟩,.inl (by have:=hB1.out.size;omega)⟩;have hltw:=World.ownsRow.lt hG.out.row;have hap4:∀g,u5.ownBlock=some g→g<lo4∨hi4≤g:=fun g hg=>by have:=(hltw g hg).2;left;omega
     have hc4:∀j u,[Value.string KB,xa,xb,xc,xd,xe][j]?=some u→w4.cell? ⟨g7,j,none⟩=some u:=fun j u hu=>by
      have:=World.ownsRow.cells (w:=w4) (base:=g7) (e:=91) (size:=6) (v:=.slice (some ⟨g7,0,none⟩) 1 1) (n:=1) (xs:=[.string KB,xa,xb,xc,xd,xe]) hOX4 (g:=g7) rfl j u hu;rw[bz,Nat.zero_add]at this;exact this
     have zR:=hR2'.size;have hlo9:B≤lo4:=by omega
     refine h8_ hG4 hE4 hap4 hc4 hD4 hltw hI4 hOX4 ?_;clear hG4 hE4 hap4 hc4 hD4 hltw hI4 hOX4;intro hG4 hE4 hap4 hc4 hD4 hltw hI4 hOX4;replace hR2':=hi_ hR2';refine fb rfl _ _ rfl B u5 O rss rfl hG4.out g7 lo4 hi4 _ _ rfl hE4.out hlo9 hap4.out hc4.out (by have:=hOl.out;omega) (by omega) ?_;intro v5 w5 hR5 hg5 hat5;have hge5:∀g,v5.ownBlock=some g→W1.heap.size≤g:=fun g hg=>by
      rcases hat5 with e|e
      ·exact hge.out g (e.symm.trans hg)
      ·rw[e]at hg;injection hg with hg;have:=hD4.out.size;omega
     have hB5:Below W1.heap.size W1 w5:=hD4.out.grown hg5 (hD4.out.size) (fun q hq=>hge.out q hq);clear hg5 hat5;go_wp2
     obtain⟨t0,t1,t2,t3,t4,t5⟩:=hcell.out w5 (ah hb1.out hB5);have s0:=(hB5.cell (ac f0)).trans f0;obtain⟨O2,hO2⟩:∃O2,O2=O++[(KB.data.toList,X)]:=⟨_,rfl⟩;have hRO4:O2++((if eq then [] else [E])++br KB.data.toList X true (d.drop (i+1)))=R:=by rw[hO2,List.append_assoc];exact hRO2
     rw[←hO2]at hR5;have hOl2:O2.length≤100000001:=by
      have h1:=congrArg List.length hRO4;have h2:=hRl.out;rw[List.length_append]at h1;omega
     obtain⟨hO3,hG3,hge3,hRO3,hB3,zz⟩:Hid (O2.length≤100000001)∧Hid (RowG (EnA kb) 91 6 B w5 v5 O2 (rss++[[.string KB,xa,xb,xc,xd,xe]]))∧Hid (∀g,v5.ownBlock=some g→W1.heap.size≤g)∧Hid (O2++((if eq then [] else [E])++br KB.data.toList X true (d.drop (i+1)))=R)∧Hid (Below W1.heap.size W1 w5)∧W1.heap.size≤w5.heap.size:=⟨Lib.hid hOl2,Lib.hid hR5,Lib.hid hge5,Lib.hid hRO4,Lib.hid hB5,hB5.size⟩;clear hRO4 hRO2 hR5 hge5 hB5 hOl2;replace hO2:=hi_ hO2;cases eq with
     |true=>
      simp only[Bool.not_true]at e2;have hRO5:=hRO3.out;simp only[if_true,List.nil_append]at hRO5;replace hRO5:=hi_ hRO5;go_upto_region 9 with (fail)
      go_quiet (fail)
      obtain⟨wz,hwz⟩:∃W,W=w5.drewN nq:=⟨_,rfl⟩;rw[←hwz];have hBz:Below w5.heap.size w5 wz:=by rw[hwz];exact bo _ _
      replace hwz:=hi_ hwz;replace hBz:=hi_ hBz;go_wp2
      go_roundw
      case measure=>simp[RowKit.intOf];omega
      case rel=>exact⟨i+1,O2,(rss++[[.string KB,xa,xb,xc,xd,xe]]),true,by omega,by go_num,rfl,hG3.out.below (az kb) hBz.out,hge3.out,hRO5.out,ah hB3.out hBz.out⟩
     |false=>
      simp only[Bool.not_false]at e2;have hRO5:=hRO3.out;simp only[Bool.false_eq_true,if_false]at hRO5;replace hRO5:=hi_ hRO5;go_upto_region 9 with (fail)
      go_quiet (fail)
      obtain⟨wz,hwz⟩:∃W,W=w5.drewN nq:=⟨_,rfl⟩;rw[←hwz];have hBz:Below w5.heap.size w5 wz:=by rw[hwz];exact bo _ _
      clear t0 t1 t2 t3 t4 t5;obtain⟨t0,t1,t2,t3,t4,t5⟩:=hcell.out wz (ah (ah hb1.out hB3.out) hBz);obtain⟨wA,hwA,hbA⟩:=bH wz 91 #[.string S,c0,c1,c2,c3,c4];have hDA:=ah hBz hbA;have hDw:Below w.heap.size w wA:=ah (ah hb1.out hB3.out) hDA;have hGA:=hG3.out.below (az kb) hDA;have hEA:=(az kb).keep hEn.out (fun q _ hq=>hDw.block q (by have:=hhi.out;omega)) (Nat.le_trans hhi.out hDw.size);have hcA:∀j u,[Value.string S,c0,c1,c2,c3,c4][j]?=some u→wA.cell? ⟨wz.heap.size,j,none⟩=some u:=fun j u hu=>by rw[hwA];exact cI wz _ 91 j u hu
      have hapA:∀g,v5.ownBlock=some g→g<lo∨hi'≤g:=fun g hg=>by have:=hge3.out g hg;have:=hhi.out;right;omega
      have hzA:wA.heap.size=wz.heap.size+1:=by rw[hwA];exact World.size_alloc _ _
      have zq:=hBz.size;have hltA:=World.ownsRow.lt hGA.row;refine h9_ hwz hBz hbA hDA hDw hGA hEA hcA hapA ?_;clear hwz hBz hbA hDA hDw hGA hEA hcA hapA;intro hwz hBz hbA hDA hDw hGA hEA hcA hapA;refine h3_ hzA hwA hltA ?_;clear hzA hwA hltA;intro hzA hwA hltA;go_wp2_with (at_builtin;rw[←hwA.out];refine fb rfl _ _ rfl B v5 O2 (rss++[[.string KB,xa,xb,xc,xd,xe]]) rfl hGA.out wz.heap.size lo hi' E _ rfl hEA.out hlo.out hapA.out hcA.out (by have:=hO3.out;omega) (by rw[hzA.out];omega) ?_;intro v6 w6 hG6 hg6 hat6;replace hG6:=hi_ hG6;replace hg6:=hi_ hg6;replace hat6:=hi_ hat6)
      go_roundw
      case measure=>simp[RowKit.intOf];omega
      case rel=>
       refine⟨i+1,_,_,true,by omega,by go_num,rfl,hG6.out,fun g hg=>?_,by rw[List.append_assoc];exact hRO5.out,?_⟩
       ·rcases hat6.out with e|e
        ·exact hge3.out g (e.symm.trans hg)
        ·rw[e]at hg;injection hg with hg;rw[←hg,hzA.out];omega
       ·exact (ah hB3.out hDA.out).grown hg6.out (by rw[hzA.out];omega) (fun q hq=>hge3.out q hq)
  ·obtain rfl:i=m:=by omega
   have hdn:d.drop i=[]:=List.drop_eq_nil_of_le (by have:=hmd.out;omega);rw[hdn]at hRO;cases pb with
   |true=>
    have hR9:O=R:=by simpa [br] using hRO
    subst hR9;refine h4_ hG hge hB1 hRO ?_;clear hG hge hB1 hRO;intro hG hge hB1 hRO;go_wp2
    go_ret
    exact⟨_,_,rfl,hG.out,fun g hg=>by have:=hge.out g hg;omega,ah hb1.out hB1.out⟩
   |false=>
    have hR9:R=O++[(KB.data.toList,X)]:=by simpa [br] using hRO.symm
    subst hR9;refine h3_ hG hge hRO ?_;clear hG hge hRO;intro hG hge hRO;obtain⟨x0,x1,x2,x3,x4,x5⟩:=bq hx6.out hB1;replace hB1:=hi_ hB1;clear y0 y1 y2 y3 y4 y5;go_upto_region 12 with (fail)
    refine aL (by kernel_rfl) [none,none,none,none,none,none,none,none,none,none,none,none,none,none,none,none,none,none,none,none,none,none,none,none,none,none,none,none,none,none,none,none,none,none,none,none,none,none,none,none,none,none,none,none,none,none,none,none,none,none,none,none,none,none,none,none,some 0,some 1,some 2,some 3,some 4,some 5,some 6,some 7,none,none] (fun w'=>Below wr.heap.size wr w') (fun w' w''=>Below w'.heap.size w' w'') (GW w.heap.size u5 KB #[.int .i64 xk,.int .i64 xn,.slice F1 fn1 fc1,.slice F2 fn2 fc2,.slice F3 fn3 fc3] wr.heap.size X) (by rfl) (by kernel_rfl) 8 _ rfl (by decide) (by kernel_rfl) [8,2,6,4,5,8,7,8,0] (by kernel_rfl) ?hR ?mono (.cons 7 (ab [6] rfl (by kernel_rfl) ?s7) (.cons 6 (ab [2,5] rfl (by kernel_rfl) ?s6) (.cons 5 (ab [4] rfl (by kernel_rfl) ?s5) (.cons 4 (ab [3] rfl (by kernel_rfl) ?s4) (.cons 3 (ab [] rfl (by kernel_rfl) ?s3) (.cons 2 (ab [1] rfl (by kernel_rfl) ?s2) (.cons 1 (ab [] rfl (by kernel_rfl) ?s1) (.cons 0 (ab [] rfl (by kernel_rfl) ?s0) (.nil))))))))) ?done
    case hR=>exact (Below.refl _ _).drew
    case mono=>exact lI
    case s0=>
     intro x w' hRw hd K' hK;simp only[All,GW]at hd;simp +decide only[upd,GW,ai,if_true,if_false]at hK⊢;go_simp;have hK2:=hK _ _ ⟨hRw,Below.refl _ _,rfl⟩;exact hK2
    case s1=>
     intro x w' hRw hd K' hK;simp only[All,GW]at hd;simp +decide only[upd,GW,ai,if_true,if_false]at hK⊢;go_simp;have hK2:=hK _ _ ⟨hRw,Below.refl _ _,rfl⟩;exact hK2
    case s2=>
     intro x w' hRw hd K' hK;simp only[All,GW]at hd;have tx0:=(hRw.cell (ac x0)).trans x0;simp +decide only[upd,GW,ai,if_true,if_false]at hK⊢
     try simp only[hd.1]at hK⊢
     go_simp;have hK2:=hK _ _ ⟨hRw,Below.refl _ _,rfl⟩;exact hK2
    case s3=>
     intro x w' hRw hd K' hK;simp only[All,GW]at hd;simp +decide only[upd,GW,ai,if_true,if_false]at hK⊢;go_simp;have hK2:=hK _ _ ⟨hRw,Below.refl _ _,rfl⟩;exact hK2
    case s4=>
     intro x w' hRw hd K' hK;simp only[All,GW]at hd;have tx1:=(hRw.cell (ac x1)).trans x1;have tx2:=(hRw.cell (ac x2)).trans x2;have tx3:=(hRw.cell (ac x3)).trans x3;have tx4:=(hRw.cell (ac x4)).trans x4;have tx5:=(hRw.cell (ac x5)).trans x5;simp +decide only[upd,GW,ai,if_true,if_false]at hK⊢
     try simp only[hd.1]at hK⊢
     go_simp;have hK2:=hK _ _ ⟨hRw,Below.refl _ _,rfl⟩;exact hK2
    case s5=>
     intro x w' hRw hd K' hK;simp only[All,GW]at hd;simp +decide only[upd,GW,ai,if_true,if_false]at hK⊢
     try simp only[hd.1]at hK⊢
     go_simp;refine (ck.out w' (ah hB1.out hRw)).mono ?_;rintro e' w2 ⟨us,rfl,hI6,hB6⟩;obtain⟨xn',G1,G2,G3,gn1,gc1,gn2,gc2,gn3,gc3,hx6'⟩:=ay hI6.ob;subst hx6';have hK2:=hK _ _ ⟨ah hRw hB6,hB6,_,_,_,_,_,w'.heap.size,w2.heap.size,rfl,hRw.size,hI6⟩;exact hK2
    case s6=>
     intro x w' hRw hd K' hK;simp only[All,GW]at hd;simp +decide only[upd,GW,ai,if_true,if_false]at hK⊢;obtain⟨h2,⟨a,b,c,e,f,lo,hi',h5,hlo,hI⟩,_⟩:=hd;simp only[h2,h5]at hK⊢;go_simp;have hK2:=hK _ _ ⟨hRw,Below.refl _ _,a,b,c,e,f,lo,hi',rfl,hlo,hI⟩;exact hK2
    case s7=>
     intro x w' hRw hd K' hK;simp only[All,GW]at hd;simp +decide only[upd,GW,ai,if_true,if_false]at hK⊢;obtain⟨⟨a,b,c,e,f,lo,hi',h6,hlo,hI⟩,_⟩:=hd;simp only[h6]at hK⊢;go_simp;have hbn:=(Below.refl w'.heap.size w').alloc (Nat.le_refl _) (.cells #[.string KB,a,b,c,e,f] 91);have hK2:=hK _ _ ⟨ah hRw hbn,hbn,a,b,c,e,f,lo,hi',w'.heap.size,rfl,hlo,aF hI hbn,fo w' [.string KB,a,b,c,e,f] rfl⟩;exact hK2
    case done=>
     intro x w4 hR2' hG' fr hfr;have a0:=hG' 0 (by omega);have a7:=hG' 7 (by omega);simp only[GW]at a0 a7;clear hG';obtain⟨xa,xb,xc,xd,xe,lo4,hi4,g7,a7,hlo4,hI4,hOX4⟩:=a7;simp only[ai]at hfr;rw[a7]at hOX4;rw[a0,a7]at hfr;subst hfr;clear a0 a7 x0 x1 x2 x3 x4 x5;have hD4:Below W1.heap.size W1 w4:=ah hB1.out hR2';have hG4:=hG.out.below (az kb) hR2';have hE4:EnA kb lo4 hi4 w4 (KB.data.toList,X) [.string KB,xa,xb,xc,xd,xe]:=⟨⟨[xa,xb,xc,xd,xe],rfl,hKl.out,hI4⟩,.inl (by have:=hB1.out.size;omega)⟩;have hltw:=World.ownsRow.lt hG.out.row;have hap4:∀g,u5.ownBlock=some g→g<lo4∨hi4≤g:=fun g hg=>by have:=(hltw g hg).2;left;omega
     have hc4:∀j u,[Value.string KB,xa,xb,xc,xd,xe][j]?=some u→w4.cell? ⟨g7,j,none⟩=some u:=fun j u hu=>by
      have:=World.ownsRow.cells (w:=w4) (base:=g7) (e:=91) (size:=6) (v:=.slice (some ⟨g7,0,none⟩) 1 1) (n:=1) (xs:=[.string KB,xa,xb,xc,xd,xe]) hOX4 (g:=g7) rfl j u hu;rw[bz,Nat.zero_add]at this;exact this
     have zR:=hR2'.size;have hlo9:B≤lo4:=by omega
     refine h8_ hG4 hE4 hap4 hc4 hD4 hltw hI4 hOX4 ?_;clear hG4 hE4 hap4 hc4 hD4 hltw hI4 hOX4;intro hG4 hE4 hap4 hc4 hD4 hltw hI4 hOX4;replace hR2':=hi_ hR2';refine fb rfl _ _ rfl B u5 O rss rfl hG4.out g7 lo4 hi4 _ _ rfl hE4.out hlo9 hap4.out hc4.out (by have:=hOl.out;omega) (by omega) ?_;intro v5 w5 hR5 hg5 hat5;have hge5:∀g,v5.ownBlock=some g→W1.heap.size≤g:=fun g hg=>by
      rcases hat5 with e|e
      ·exact hge.out g (e.symm.trans hg)
      ·rw[e]at hg;injection hg with hg;have:=hD4.out.size;omega
     have hB5:Below W1.heap.size W1 w5:=hD4.out.grown hg5 (hD4.out.size) (fun q hq=>hge.out q hq);clear hg5 hat5;go_wp2
     refine h3_ hR5 hge5 hB5 ?_;clear hR5 hge5 hB5;intro hR5 hge5 hB5;go_ret
     exact⟨_,_,rfl,hR5.out,fun g hg=>by have:=hge5.out g hg;omega,ah hb1.out hB5.out⟩
end
section
open Go Go.RowKit Go.Wk Go.Rd Go.Fx
section
variable {L:Nat}{A:Option Addr}{c:Nat}{bs:Bs}{D P:Value}{w w':World}{r r' u:Bs}{k:Tok}
def mu (L:Nat) (A:Option Addr) (c:Nat) (bs:Bs) (D P:Value) (w:World) (res:Res Ob) (e:Ending) (w':World):Prop:=match res with
 | .ok o u=>∃us,e=.returned (.tuple #[.agg (List.toArray us),.int .i64 0])∧ObI w.heap.size w'.heap.size w' o us∧LX L A c bs D P w' u∧Save L w w'
 | .err n u=>n≠0∧e=.returned (.tuple #[.agg #[.int .i64 0,.int .i64 0,.slice none 0 0,.slice none 0 0,.slice none 0 0],.int .i64 n])∧LX L A c bs D P w' u∧Save L w w'
def nL (pl:Bool) (d:Nat):Prop:=∀(L:Nat) (A:Option Addr) (c:Nat) (bs:Bs) (D:Value) (w:World) (r:Bs),LX L A c bs D (.bool pl) w r→bs.length≤60000000→Calls Tryz.prog 70 #[.pointer (some ⟨L,0,none⟩),.int .i64 (d:Nat)] w (mu L A c bs D (.bool pl) w (valS pl d r))
theorem Save.rowG {α:Type}{I:Nat→Nat→World→α→List Value→Prop}{sz:Nat}(LW:ItLaw I sz) {e:TypeId}{B:Nat}{a b:World}{v:Value}{l:List α}{rss:List (List Value)}(h:Save L a b) (hB:L<B) (hR:RowG I e sz B a v l rss):RowG I e sz B b v l rss:=
 hR.far LW (fun k h1 h2=>h.block k h2 (by omega)) h.size
theorem RowG.far_ {α:Type}{I:Nat→Nat→World→α→List Value→Prop}{sz:Nat}(LW:ItLaw I sz) {e:TypeId}{B R:Nat}{a b:World}{v:Value}{l:List α}{rss:List (List Value)}(hg:a.grownBy b (some R)) (hB:R<B) (hR:RowG I e sz B a v l rss):RowG I e sz B b v l rss:=
 hR.far LW (fun k h1 h2=>hg.block k h2 (by intro e;injection e with e;omega)) hg.size
theorem pm {pl:Bool}{d:Nat}(hv:nL pl d) (hd:d≤1000) (h:LX L A c bs D (.bool pl) w r) (hsm:bs.length≤60000000):Calls Tryz.prog 99 #[.pointer (some ⟨L,0,none⟩),.int .i64 (d:Nat)] w (mu L A c bs D (.bool pl) w (match dj (valS pl d) (r.length+1) [] r with| .ok l v=>.ok (.mk 6 0 [] l []) v| .err e v=>.err e v)):=by
 have hLw:=h.lt;have hAw:=h.a_lt;have hbl:=h.suf.length_le;obtain⟨W1,hW1⟩:∃W,W=(w.alloc (.cells #[.int .i64 0,.int .i64 0,.slice none 0 0,.slice none 0 0,.slice none 0 0] 32)).alloc (.cells #[.int .i64 6,.int .i64 0,.slice none 0 0,.slice none 0 0,.slice none 0 0] 32):=⟨_,rfl⟩;have b1:Below w.heap.size w W1:=by rw[hW1];exact ((Below.refl _ _).alloc (Nat.le_refl _) _).alloc (by rw[World.size_alloc];omega) _
 have z1:W1.heap.size=w.heap.size+2:=by rw[hW1,World.size_alloc,World.size_alloc]
 have hR1:Blk W1 w.heap.size 32 #[.int .i64 0,.int .i64 0,.slice none 0 0,.slice none 0 0,.slice none 0 0]:=by rw[hW1];exact (Blk.new w _ _).alloc _
 have hO1:Blk W1 (w.heap.size+1) 32 #[.int .i64 6,.int .i64 0,.slice none 0 0,.slice none 0 0,.slice none 0 0]:=by
  rw[hW1,show w.heap.size+1=(w.alloc (.cells #[.int .i64 0,.int .i64 0,.slice none 0 0,.slice none 0 0,.slice none 0 0] 32)).heap.size from (World.size_alloc _ _).symm];exact Blk.new _ _ _
 have hL1:=h.below b1;have hneR:w.heap.size≠L:=by omega
 have hneO:w.heap.size+1≠L:=by omega
 obtain⟨R,hRe⟩:∃R,R=dj (valS pl d) (r.length+1) [] r:=⟨_,rfl⟩;rw[←hRe];refine h8_ hRe hAw hL1 hR1 hO1 b1 hbl hv ?_;clear hRe hAw hL1 hR1 hO1 b1 hbl hv;intro hRe hAw hL1 hR1 hO1 b1 hbl hv;clear h;go_enter Tryz.func99,Tryz.ntmps99;go_upto_region 2 with (fail)
 rw[←hW1];replace hW1:=hi_ hW1;go_loopw [7] (fun _ wr=>∃(f:Nat) (acc:List Ob) (vL:Value) (rl:List (List Value)) (r1:Bs),LX L A c bs D (.bool pl) wr r1∧Save L w wr∧Blk wr w.heap.size 32 #[.int .i64 0,.int .i64 0,.slice none 0 0,.slice none 0 0,.slice none 0 0]∧Blk wr (w.heap.size+1) 32 #[.int .i64 6,.int .i64 0,.slice none 0 0,vL,.slice none 0 0]∧RowG ObI 32 5 (w.heap.size+2) wr vL acc rl∧dj (valS pl d) f acc r1=R∧r1.length<f∧acc.length+r1.length≤r.length∧w.heap.size+2≤wr.heap.size) (fun _ wr=>bs.length+1 - posOf L wr)
 case atStart=>exact⟨_,[],_,[],r,hL1.out,Save.of_below b1.out,hR1.out,hO1.out,RowG.nil _ _ _ _ _,hRe.out.symm,Nat.lt_succ_self _,by simp,by omega⟩
 case round=>
  obtain⟨f,acc,vL,rl,r1,hL,hS,hR,hO,hG,hE,hf,hacc,hws⟩:=hrel;obtain⟨f,rfl⟩:∃g,f=g+1:=⟨f - 1,by omega⟩;have hms:=hL.posOf;have hpl:=aK hL.suf;have hpe:=aE bs r1;obtain⟨q,hq⟩:∃q:Int,q=(pos bs r1:Nat):=⟨_,rfl⟩;have l1:=hL.blk.cell 1;rw[←hq]at l1;have lv:=hL.blk.frozen 1;have hsuf:=hL.suf;obtain⟨AL,cL,gL,rfl,hgc,hgn,hga,hgm,_⟩:=hG.out aQ (by omega);clear hgc hgn hga hgm hRe hL1 hR1 hO1;obtain⟨p0,p1,p2,p3,p4,f0,f1,f2,f3,f4⟩:=hR.b5;obtain⟨o0,o1,o2,o3,o4,g0,g1,g2,g3,g4⟩:=hO.b5;refine h9_ hL hS hR hO hG hE hf hms hpl ?_;clear hL hS hR hO hG hE hf hms hpl;intro hL hS hR hO hG hE hf hms hpl;refine h3_ hq hsuf hacc ?_;clear hq hsuf hacc;intro hq hsuf hacc;obtain⟨a1,ha1⟩:∃a:Int,a=(pos bs (af false r1):Nat):=⟨_,rfl⟩;cases ht:ar r1 with
  |err n u=>
   have hE2:R=.err n u:=by rw[←hE.out,dj,ht]
   subst hE2;have ctok:=fun W (h:LX L A c bs D (.bool pl) W r1)=>eZ h ht ha1
   replace ctok:=hi_ ctok;clear ha1 ht;go_upto_region 4 with (fail)
   go_at_call 96
   (with_reducible refine (ctok.out _ hL.out).mono ?_)
   rintro e w3 ⟨hn0,rfl,hL3,hS3⟩;obtain⟨w4,hw4,b4,hK4⟩:=ak w3 119 #[.int .i64 0,.int .i64 a1,.int .i64 0,.slice none 0 0];have k40:=hK4.cell 0;have zz4:w.heap.size+2≤w4.heap.size:=by have:=hS3.size;have:=b4.size;omega
   replace hL:=hi_ hL3;replace hR:=hi_ (hS3.blk hneR hR.out);replace hO:=hi_ (hS3.blk hneO hO.out);replace hG:=hi_ (hS3.rowG aQ (by omega) hG.out);replace hS:=hi_ (hS.out.trans hS3);replace hL:=hi_ (hL.out.below b4);replace hR:=hi_ (hR.out.below b4 hR.out.lt);replace hO:=hi_ (hO.out.below b4 hO.out.lt);replace hG:=hi_ (hG.out.below aQ b4);replace hS:=hi_ (hS.out.then_ b4);replace l1:=hL.out.blk.cell 1;replace lv:=hL.out.blk.frozen 1;obtain⟨p0,p1,p2,p3,p4,f0,f1,f2,f3,f4⟩:=hR.out.b5;obtain⟨o0,o1,o2,o3,o4,g0,g1,g2,g3,g4⟩:=hO.out.b5;go_upto_region 4 with (fail)
   rw[←hw4];replace hw4:=hi_ hw4;clear b4 hS3 hL3;have hnb:(n !=0)=true:=by simpa using hn0
   go_wp2
   generalize hWf:World.setCell _ _ _=Wf;replace hWf:=hWf.symm;obtain⟨hbf,hLf,hSf⟩:=aw hS.out hL.out hR.out (Nat.le_refl _) hneR.symm hAw.out hWf;obtain⟨u0,u1,u2,u3,u4,-⟩:=hbf.b5;refine h4_ hLf hSf hWf hn0 ?_;clear hLf hSf hWf hn0;intro hLf hSf hWf hn0;clear hbf;exact bodyPost_ret (by simp[results,Tryz.results99,go_sem,u0,u1,u2,u3,u4];try rfl) rfl ⟨hn0.out,rfl,hLf.out,hSf.out⟩
  |ok k u=>
   have htl:=bY ht;have ctok:=fun W (h:LX L A c bs D (.bool pl) W r1)=>dO h ht ha1
   replace ctok:=hi_ ctok;clear ha1;go_upto_region 4 with (fail)
   go_at_call 96
   (with_reducible refine (ctok.out _ hL.out).mono ?_)
   rintro e w3 ⟨A3,c3,rfl,hO3,hL3,hS3⟩;obtain⟨w4,hw4,b4,hK4⟩:=ak w3 119 #[.int .i64 k.k,.int .i64 a1,.int .i64 k.n,.slice A3 k.b.length c3];have k40:=hK4.cell 0;have zz4:w.heap.size+2≤w4.heap.size:=by have:=hS3.size;have:=b4.size;omega
   replace hL:=hi_ hL3;replace hR:=hi_ (hS3.blk hneR hR.out);replace hO:=hi_ (hS3.blk hneO hO.out);replace hG:=hi_ (hS3.rowG aQ (by omega) hG.out);replace hS:=hi_ (hS.out.trans hS3);replace hL:=hi_ (hL.out.below b4);replace hR:=hi_ (hR.out.below b4 hR.out.lt);replace hO:=hi_ (hO.out.below b4 hO.out.lt);replace hG:=hi_ (hG.out.below aQ b4);replace hS:=hi_ (hS.out.then_ b4);replace l1:=hL.out.blk.cell 1;replace lv:=hL.out.blk.frozen 1;obtain⟨p0,p1,p2,p3,p4,f0,f1,f2,f3,f4⟩:=hR.out.b5;obtain⟨o0,o1,o2,o3,o4,g0,g1,g2,g3,g4⟩:=hO.out.b5;go_upto_region 4 with (fail)
   rw[←hw4];replace hw4:=hi_ hw4;clear hO3 b4 hS3 hL3;by_cases hk6:k.k=6
   ·have hk1:(k.k == 6)=true:=by simpa using hk6
    have hE2:R=.ok acc u:=by rw[←hE.out,dj,ht];simp only[if_pos hk6]
    subst hE2;clear ht hk6 htl;go_wp2
    generalize hWf:World.setCell _ _ _=Wf;replace hWf:=hWf.symm;obtain⟨hbf,hgf,hzf⟩:=dt hR.out hWf;obtain⟨u0,u1,u2,u3,u4,-⟩:=hbf.b5;have hLf:=hL.out.grown_ hgf hneR.symm (fun h0 x hx=>by have:=hAw.out h0 x hx;omega);have hSf:=hS.out.grown_ hgf (Nat.le_refl _);have hGf:=RowG.base (B':=w.heap.size) (RowG.far_ aQ hgf (by omega) hG.out) (by omega);have hIf:ObI w.heap.size Wf.heap.size Wf (.mk 6 0 [] acc []) [.int .i64 6,.int .i64 0,.slice none 0 0,.slice AL acc.length cL,.slice none 0 0]:=
     el (tO:=32) (tE:=91) (tb:=5) (by omega) (by omega) (by omega) (by omega) (Own.nil _ _).row (by simp[maxLen]) hGf (RowG.nil _ _ _ _ _)
    refine h5_ hLf hSf hGf hIf hWf ?_;clear hLf hSf hGf hIf hWf;intro hLf hSf hGf hIf hWf;clear hbf hgf;exact bodyPost_ret (by simp[results,Tryz.results99,go_sem,u0,u1,u2,u3,u4];try rfl) rfl ⟨_,rfl,hIf.out,hLf.out,hSf.out⟩
   ·have hk1:(k.k == 6)=false:=by simpa using hk6
    have hE2:=hE.out;rw[dj,ht]at hE2;simp only[if_neg hk6]at hE2;replace hE2:=hi_ hE2;clear ht hk6 htl hE;go_upto_region 9 with (fail)
    obtain⟨w5,hw5⟩:∃W,W=w4.setCell ⟨L,1,none⟩ (.int .i64 q):=⟨_,rfl⟩;rw[←hw5];have hL5:LX L A c bs D (.bool pl) w5 r1:=by rw[hw5,hq.out];exact hL.out.go hsuf.out
    have hS5:Save L w4 w5:=by rw[hw5];exact (Save.refl L w4).store 1 _
    replace hw5:=hi_ hw5;have cv:=hv.out L A c bs D w5 r1 hL5 hsm;have z5:=hS5.size;have zz5:w.heap.size+2≤w5.heap.size:=by omega
    clear z5;replace hL:=hi_ hL5;replace hR:=hi_ (hS5.blk hneR hR.out);replace hO:=hi_ (hS5.blk hneO hO.out);replace hG:=hi_ (hS5.rowG aQ (by omega) hG.out);replace hS:=hi_ (hS.out.trans hS5);replace l1:=hL.out.blk.cell 1;replace lv:=hL.out.blk.frozen 1;obtain⟨p0,p1,p2,p3,p4,f0,f1,f2,f3,f4⟩:=hR.out.b5;obtain⟨o0,o1,o2,o3,o4,g0,g1,g2,g3,g4⟩:=hO.out.b5;have hcut:=fB pl d r1;obtain⟨V,hV⟩:∃V,V=valS pl d r1:=⟨_,rfl⟩;rw[←hV]at cv hE2 hcut;replace cv:=hi_ cv;replace hV:=hi_ hV;clear hL5 ctok hS5;cases V with
    |err n v=>
     have hE3:R=.err n v:=by rw[←hE2.out]
     subst hE3;clear hcut;go_upto_region 10 with (fail)
     go_at_call 70
     (with_reducible refine (cv.out).mono ?_)
     rintro e w6 ⟨hn0,rfl,hL6,hS6⟩;obtain⟨w7,hw7,b7⟩:=bH w6 32 #[.int .i64 0,.int .i64 0,.slice none 0 0,.slice none 0 0,.slice none 0 0];replace hL:=hi_ hL6;replace hR:=hi_ (hS6.blk hneR hR.out);replace hO:=hi_ (hS6.blk hneO hO.out);replace hG:=hi_ (hS6.rowG aQ (by omega) hG.out);replace hS:=hi_ (hS.out.trans hS6);replace hL:=hi_ (hL.out.below b7);replace hR:=hi_ (hR.out.below b7 hR.out.lt);replace hO:=hi_ (hO.out.below b7 hO.out.lt);replace hG:=hi_ (hG.out.below aQ b7);replace hS:=hi_ (hS.out.then_ b7);replace l1:=hL.out.blk.cell 1;replace lv:=hL.out.blk.frozen 1;obtain⟨p0,p1,p2,p3,p4,f0,f1,f2,f3,f4⟩:=hR.out.b5;obtain⟨o0,o1,o2,o3,o4,g0,g1,g2,g3,g4⟩:=hO.out.b5;go_upto_region 10 with (fail)
     rw[←hw7];replace hw7:=hi_ hw7;have hnb:(n !=0)=true:=by simpa using hn0
     clear b7 hL6 hS6;go_wp2
     generalize hWf:World.setCell _ _ _=Wf;replace hWf:=hWf.symm;obtain⟨hbf,hLf,hSf⟩:=aw hS.out hL.out hR.out (Nat.le_refl _) hneR.symm hAw.out hWf;obtain⟨u0,u1,u2,u3,u4,-⟩:=hbf.b5;refine h4_ hLf hSf hWf hn0 ?_;clear hLf hSf hWf hn0;intro hLf hSf hWf hn0;clear hbf;exact bodyPost_ret (by simp[results,Tryz.results99,go_sem,u0,u1,u2,u3,u4];try rfl) rfl ⟨hn0.out,rfl,hLf.out,hSf.out⟩
    |ok o v=>
     have hcut2:=hcut o v rfl;have hE3:dj (valS pl d) f (acc++[o]) v=R:=by rw[←hE2.out]
     replace hE3:=hi_ hE3;clear hcut;go_upto_region 10 with (fail)
     go_at_call 70
     (with_reducible refine (cv.out).mono ?_)
     rintro e w6 ⟨us,rfl,hI6,hL6,hS6⟩;obtain⟨xn,F1,F2,F3,fn1,fc1,fn2,fc2,fn3,fc3,hxs⟩:=ay hI6.ob;obtain⟨xk,hxk⟩:∃k,k=o.kind:=⟨_,rfl⟩;rw[←hxk]at hxs;subst hxs;replace hxk:=hi_ hxk;obtain⟨w7,hw7,b7,hX7⟩:=ak w6 32 #[.int .i64 xk,.int .i64 xn,.slice F1 fn1 fc1,.slice F2 fn2 fc2,.slice F3 fn3 fc3];have hI7:=aF hI6 b7;have hltG:=World.ownsRow.lt hG.out.row;replace hL:=hi_ hL6;replace hR:=hi_ (hS6.blk hneR hR.out);replace hO:=hi_ (hS6.blk hneO hO.out);replace hG:=hi_ (hS6.rowG aQ (by omega) hG.out);replace hS:=hi_ (hS.out.trans hS6);replace hL:=hi_ (hL.out.below b7);replace hR:=hi_ (hR.out.below b7 hR.out.lt);replace hO:=hi_ (hO.out.below b7 hO.out.lt);replace hG:=hi_ (hG.out.below aQ b7);replace hS:=hi_ (hS.out.then_ b7);replace l1:=hL.out.blk.cell 1;replace lv:=hL.out.blk.frozen 1;obtain⟨p0,p1,p2,p3,p4,f0,f1,f2,f3,f4⟩:=hR.out.b5;obtain⟨o0,o1,o2,o3,o4,g0,g1,g2,g3,g4⟩:=hO.out.b5;obtain⟨x0,x1,x2,x3,x4,-⟩:=hX7.b5;have hbo:=dk o;have z7:w7.heap.size=w6.heap.size+1:=by rw[hw7];exact World.size_alloc _ _
     have z6:=hS6.size;have zz7:w.heap.size+2≤w7.heap.size:=by omega
     replace z7:=hi_ z7;go_upto_region 10 with (fail)
     rw[←hw7];replace hw7:=hi_ hw7;obtain⟨wA,hwA,bA⟩:=bH w7 32 #[.int .i64 xk,.int .i64 xn,.slice F1 fn1 fc1,.slice F2 fn2 fc2,.slice F3 fn3 fc3];have hIA:=aF hI7 bA;have hGA:=hG.out.below aQ bA;have hcA:∀j u,[Value.int .i64 xk,.int .i64 xn,.slice F1 fn1 fc1,.slice F2 fn2 fc2,.slice F3 fn3 fc3][j]?=some u→wA.cell? ⟨w7.heap.size,j,none⟩=some u:=fun j u hu=>by rw[hwA];exact cI w7 _ 32 j u hu
     have hapA:∀g,(Value.slice AL acc.length cL).ownBlock=some g→g<w5.heap.size∨w6.heap.size≤g:=fun g hg=>by have:=(hltG g hg).2;left;omega
     have zA:wA.heap.size=w7.heap.size+1:=by rw[hwA];exact World.size_alloc _ _
     have hSA:=hS.out.then_ bA;have hRA:=hR.out.below bA hR.out.lt;have hOA:=hO.out.below bA hO.out.lt;have hLA:=hL.out.below bA;have hAL:acc.length≤100000000:=by have:=hacc.out;have:=hbl.out;omega
     have oA0:=hOA.cell 3;have gA0:=hOA.frozen 3;refine h9_ hAL bA hIA hGA hcA hapA zA hSA hRA ?_;clear hAL bA hIA hGA hcA hapA zA hSA hRA;intro hAL bA hIA hGA hcA hapA zA hSA hRA;refine h7_ hOA hLA hwA hltG hI7 hX7 hcut2 ?_;clear hOA hLA hwA hltG hI7 hX7 hcut2;intro hOA hLA hwA hltG hI7 hX7 hcut2;clear b7 hL6 hS6 hI6;go_wp2_with (at_builtin;rw[←hwA.out];refine iS rfl _ _ rfl (w.heap.size+2) _ acc rl rfl hGA.out w7.heap.size w5.heap.size w6.heap.size o _ rfl hIA.out (by omega) hapA.out hcA.out (by have:=hAL.out;omega) (by have:=zA.out;omega) ?_;intro v8 w8 hG8 hg8 hat8;obtain⟨A8,c8,rfl⟩:∃A c,v8=.slice A (acc++[o]).length c:=(by obtain⟨A,c,g,e,_⟩:=hG8.out aQ (by omega);exact⟨A,c,e⟩);obtain⟨n8,hn8⟩:∃n,n=(acc++[o]).length:=⟨_,rfl⟩;rw[←hn8]at hG8 hat8⊢;have hO8:=hOA.out.grown hg8 (fun e=>by have:=(hltG.out _ e.symm).1;omega);have o83:=hO8.cell 3;have g83:=hO8.frozen 3;replace hO8:=hi_ hO8;replace hn8:=hi_ hn8;replace hG8:=hi_ hG8;replace hg8:=hi_ hg8;replace hat8:=hi_ hat8)
     obtain⟨w9,hw9⟩:∃W,W=w8.setCell ⟨w.heap.size+1,3,none⟩ (.slice A8 n8 c8):=⟨_,rfl⟩;rw[←hw9];have hBx:w.heap.size+2≤wA.heap.size:=by have:=zA.out;omega
     have hB8:Below (w.heap.size+2) wA w8:=(Below.refl _ _ |>.mono hBx).grown hg8.out hBx (fun k hk=>(hltG.out k hk).1);have hL9:LX L A c bs D (.bool pl) w9 v:=by
      rw[hw9];exact (hLA.out.belowB hB8 (by omega) (fun h0 x hx=>by have:=hAw.out h0 x hx;omega)).far_ hneO.symm (fun h0 x hx=>by have:=hAw.out h0 x hx;omega)
     have hS9:Save L w w9:=by rw[hw9];exact (hSA.out.thenB (hB8.mono (by omega))).far_ (by omega)
     have hR9:Blk w9 w.heap.size 32 #[.int .i64 0,.int .i64 0,.slice none 0 0,.slice none 0 0,.slice none 0 0]:=by rw[hw9];exact (hRA.out.below hB8 (by omega)).far (p:=⟨w.heap.size+1,3,none⟩) (by simp) _
     have hO9:Blk w9 (w.heap.size+1) 32 #[.int .i64 6,.int .i64 0,.slice none 0 0,.slice A8 n8 c8,.slice none 0 0]:=by rw[hw9];exact hO8.out.set_ 3 _
     have hG9:RowG ObI 32 5 (w.heap.size+2) w9 (.slice A8 n8 c8) (acc++[o]) (rl++[[.int .i64 xk,.int .i64 xn,.slice F1 fn1 fc1,.slice F2 fn2 fc2,.slice F3 fn3 fc3]]):=by rw[hw9];exact RowG.far_ aQ (aj w8 (w.heap.size+1) 3 _) (by omega) hG8.out
     have e1:=hL9.posOf;have e2:=hms.out;have e3:=aK hL9.suf;have e4:=hpl.out;have e5:=hcut2.out;have e6:=hf.out;have e7:=hacc.out;have e8:=aE bs v;refine⟨⟨f,_,_,_,v,hL9,hS9,hR9,hO9,hG9,hE3.out,by omega,by simp only[List.length_append,List.length_cons,List.length_nil];omega,?_⟩,by rw[e1,e2];omega⟩;have s1:=hB8.size;have s2:w9.heap.size=w8.heap.size:=by rw[hw9];simp[World.setCell]
     omega
end
end
section
open Go Go.RowKit Go.Wk Go.Rd Go.Fx
section
variable {L:Nat}{A:Option Addr}{c:Nat}{bs:Bs}{D P:Value}{w w':World}{r r' u:Bs}{k:Tok}
theorem pD:∃i,Tryz.prog.info? 9=some i∧i.zero=some (.string ⟨#[]⟩)∧i.size=1∧i.bytes=16:=⟨Tryz.t9,by kernel_rfl,by kernel_rfl,by kernel_rfl,by kernel_rfl⟩
theorem qj {w:World}{ops:Array Oper}{rest:List Oper}{o:Oper}{a:Act}{Q:Exit→Act→World→Prop}(hgd:o.guard=none) (s x:Operand)
 (ho:o.op=.call {callee:=.builtin .append,args:=#[s,x],argTypes:=#[172,172]}) (B:Nat) (v:Value) (n:Nat) (xs:List Value) (hs:a.eval s=v) (hR:w.ownsRow B 9 1 v n xs)
 (g:Nat) (K:ByteArray) (hx:a.eval x=.slice (some ⟨g,0,none⟩) 1 1) (hc:w.cell? ⟨g,0,none⟩=some (.string K)) (hl:n≤1000000000) (hB:B≤w.heap.size)
 (h:∀v' w',w'.ownsRow B 9 1 v' (n+1) (xs++[.string K])→w.grownBy w' v.ownBlock→(v'.ownBlock=v.ownBlock∨v'.ownBlock=some w.heap.size)→wpList Tryz.prog ops Q rest (a.put o.dst v') w'):wpList Tryz.prog ops Q (o :: rest) a w:=by
 obtain⟨i0,hi0,hz0,hz1,hz2⟩:=pD;refine wpList_append_own_at w hgd s x 172 ho B 9 i0 _ 1 16 Tryz.underlying172 hi0 hz0 hz1 hz2 rfl (by decide) v n xs hs hR ⟨g,0,none⟩ 1 1 [.string K] hx (by simp) ?_ (fun u hu=>by rw[List.mem_singleton.1 hu];rfl) (by unfold maxLen;omega) (by omega) hB ?_
 ·intro j u hu
  have hj:j=0:=by have:=(List.getElem?_eq_some_iff.1 hu).1;simpa using this
  subst hj;rw[bz,Nat.zero_add,hc];simpa using hu
 ·intro v' w' h1 h2 _ h3
  exact h v' w' h1 h2 h3
theorem mo {w:World}{B n:Nat}{v:Value}{keys:List Bs}(h:w.ownsRow B 9 1 v keys.length (keys.map bE)):∃A cK,v=.slice A keys.length cK∧∀(hn:0<keys.length),∃g,A=some ⟨g,0,none⟩∧∀i (hi:i<keys.length),w.cell? ⟨g,0+i,none⟩=some (bE keys[i]):=by
 rcases h.2 with ⟨rfl,h0⟩|⟨g,cap,cur,rfl,hB,hh,hnc,hcm,hcs,htk⟩
 ·exact⟨none,0,by rw[h0],fun hn=>by omega⟩
 ·refine⟨_,cap,rfl,fun hn=>⟨g,rfl,fun i hi=>?_⟩⟩
  have h1:(keys.map bE)[i]?=some (bE keys[i]):=by rw[List.getElem?_map,List.getElem?_eq_getElem hi];rfl
  have:=World.ownsRow.cells (w:=w) (base:=B) (e:=9) (size:=1) (v:=.slice (some ⟨g,0,none⟩) keys.length cap) (n:=keys.length) (xs:=keys.map bE) h (g:=g) rfl i _ h1;rw[bz]at this;exact this
theorem nc {w:World}{B B' n m:Nat}{v v':Value}{xs ys:List Value}(h:w.ownsRow B 9 1 v n xs) (h':w.ownsRow B' 91 6 v' m ys) {g:Nat}(hg:v.ownBlock=some g):v'.ownBlock≠some g:=by
 intro e;rcases h.2 with ⟨rfl,_⟩|⟨g1,c1,cur1,rfl,_,hh1,_⟩
 ·simp[Value.ownBlock]at hg
 rcases h'.2 with ⟨rfl,_⟩|⟨g2,c2,cur2,rfl,_,hh2,_⟩
 ·simp[Value.ownBlock]at e
 have e1:g1=g:=by simpa [Value.ownBlock] using hg
 have e2:g2=g:=by simpa [Value.ownBlock] using e
 subst e1;subst e2;rw[hh1]at hh2;injection hh2 with hh2;injection hh2 with _ ht;exact absurd ht (by decide)
theorem li {w:World}{B B' n:Nat}{v v':Value}{xs:List Value}{b:Bs}(h:w.ownsRow B 9 1 v n xs) (h':Own B' w v' b) {g:Nat}(hg:v'.ownBlock=some g):some g≠v.ownBlock:=by
 intro e;rcases h.2 with ⟨rfl,_⟩|⟨g1,c1,cur1,rfl,_,hh1,_⟩
 ·simp[Value.ownBlock]at e
 rcases h'.row.2 with ⟨rfl,_⟩|⟨g2,c2,cur2,rfl,_,hh2,_⟩
 ·simp[Value.ownBlock]at hg
 have e1:g2=g:=by simpa [Value.ownBlock] using hg
 have e2:g=g1:=by simpa [Value.ownBlock] using e
 subst e1;subst e2;rw[hh1]at hh2;injection hh2 with hh2;injection hh2 with _ ht;exact absurd ht (by decide)
theorem oY (K:Bs) (X:Ob) (d:List (Bs×Ob)):(dA K X d).length≤d.length+1:=kF K X d _
theorem RowG.moved {kb kb':Nat}{e:TypeId}{sz B:Nat}{w w':World}{v:Value}{l:List (Bs×Ob)}{rss:List (List Value)}{row:Option Nat}(h:RowG (EnA kb) e sz B w v l rss) (hg:w.grownBy w' row) (hrow:∀g,row=some g→g=kb∧v.ownBlock≠some kb) (hk:kb'=kb∨w.heap.size≤kb'):RowG (EnA kb') e sz B w' v l rss:=by
 have hb:∀b,b<w.heap.size→(row=some b→False)→w'.heap[b]?=w.heap[b]?:=fun b h1 h2=>hg.block b h1 (fun e=>h2 e.symm)
 refine⟨h.len,?_,fun i hi=>?_⟩
 ·refine⟨h.row.1,?_⟩
  rcases h.row.2 with h2|⟨g,cap,cur,e',hB,hh,rest⟩
  ·exact .inl h2
  ·refine .inr ⟨g,cap,cur,e',hB,(hb g (Array.getElem?_eq_some_iff.1 hh).1 (fun e2=>?_)).trans hh,rest⟩
   obtain⟨e3,e4⟩:=hrow g e2;exact e4 (by rw[e',←e3];simp[Value.ownBlock])
 ·obtain⟨lo,hi',h1,h2,h3⟩:=h.it i hi
  have ht:=en_law.top h3.1;refine⟨lo,hi',h1,h2,en_law.keep h3.1 (fun b hb1 hb2=>hb b (by omega) (fun e2=>?_)) (Nat.le_trans ht hg.size),?_⟩
  ·obtain⟨e3,_⟩:=hrow b e2
   have:=h3.2;omega
  ·rcases hk with e|e
   ·rw[e];exact h3.2
   ·exact .inr (Nat.le_trans ht e)
theorem q8 {pl:Bool}{d:Nat}(hv:nL pl d) (hd:d≤1000) (h:LX L A c bs D (.bool pl) w r) (hsm:bs.length≤60000000):Calls Tryz.prog 100 #[.pointer (some ⟨L,0,none⟩),.int .i64 (d:Nat)] w (mu L A c bs D (.bool pl) w (match bQ (valS pl d) (r.length+1) [] [] r with| .ok l v=>.ok (.mk 7 0 [] [] l) v| .err e v=>.err e v)):=by
 have hLw:=h.lt;have hAw:=h.a_lt;have hbl:=h.suf.length_le;obtain⟨W1,hW1⟩:∃W,W=(w.alloc (.cells #[.int .i64 0,.int .i64 0,.slice none 0 0,.slice none 0 0,.slice none 0 0] 32)).alloc (.cells #[.int .i64 7,.int .i64 0,.slice none 0 0,.slice none 0 0,.slice none 0 0] 32):=⟨_,rfl⟩;have b1:Below w.heap.size w W1:=by rw[hW1];exact ((Below.refl _ _).alloc (Nat.le_refl _) _).alloc (by rw[World.size_alloc];omega) _
 have z1:W1.heap.size=w.heap.size+2:=by rw[hW1,World.size_alloc,World.size_alloc]
 have hR1:Blk W1 w.heap.size 32 #[.int .i64 0,.int .i64 0,.slice none 0 0,.slice none 0 0,.slice none 0 0]:=by rw[hW1];exact (Blk.new w _ _).alloc _
 have hO1:Blk W1 (w.heap.size+1) 32 #[.int .i64 7,.int .i64 0,.slice none 0 0,.slice none 0 0,.slice none 0 0]:=by
  rw[hW1,show w.heap.size+1=(w.alloc (.cells #[.int .i64 0,.int .i64 0,.slice none 0 0,.slice none 0 0,.slice none 0 0] 32)).heap.size from (World.size_alloc _ _).symm];exact Blk.new _ _ _
 have hL1:=h.below b1;have hneR:w.heap.size≠L:=by omega
 have hneO:w.heap.size+1≠L:=by omega
 obtain⟨R,hRe⟩:∃R,R=bQ (valS pl d) (r.length+1) [] [] r:=⟨_,rfl⟩;rw[←hRe];refine h8_ hRe hAw hL1 hR1 hO1 b1 hbl hv ?_;clear hRe hAw hL1 hR1 hO1 b1 hbl hv;intro hRe hAw hL1 hR1 hO1 b1 hbl hv;clear h;go_enter Tryz.func100,Tryz.ntmps100;go_upto_region 3 with (fail)
 rw[←hW1];replace hW1:=hi_ hW1;go_loopw [6] (fun s6 wr=>∃(f:Nat) (keys:List Bs) (acc:List (Bs×Ob)) (vD:Value) (rd:List (List Value)) (kb:Nat) (r1:Bs),LX L A c bs D (.bool pl) wr r1∧Save L w wr∧Blk wr w.heap.size 32 #[.int .i64 0,.int .i64 0,.slice none 0 0,.slice none 0 0,.slice none 0 0]∧Blk wr (w.heap.size+1) 32 #[.int .i64 7,.int .i64 0,.slice none 0 0,.slice none 0 0,vD]∧RowG (EnA kb) 91 6 (w.heap.size+2) wr vD acc rd∧wr.ownsRow (w.heap.size+2) 9 1 s6 keys.length (keys.map bE)∧(∀g,s6.ownBlock=some g→g=kb)∧kb<wr.heap.size∧bQ (valS pl d) f keys acc r1=R∧r1.length<f∧keys.length+r1.length≤r.length∧acc.length≤keys.length∧w.heap.size+2≤wr.heap.size) (fun _ wr=>bs.length+1 - posOf L wr)
 case atStart=>exact⟨_,[],[],_,[],w.heap.size,r,hL1.out,Save.of_below b1.out,hR1.out,hO1.out,RowG.nil _ _ _ _ _,World.ownsRow_nil _ _ _ _,fun g h=>by simp[Value.ownBlock]at h,by omega,hRe.out.symm,Nat.lt_succ_self _,by simp,by simp,by omega⟩
 case round=>
  obtain⟨f,keys,acc,vD,rd,kb,r1,hL,hS,hR,hO,hG,hY,hkk,hkl,hE,hf,hacc,hak,hws⟩:=hrel;obtain⟨f,rfl⟩:∃g,f=g+1:=⟨f - 1,by omega⟩;have hms:=hL.posOf;have hpl:=aK hL.suf;have hpe:=aE bs r1;obtain⟨q,hq⟩:∃q:Int,q=(pos bs r1:Nat):=⟨_,rfl⟩;have l1:=hL.blk.cell 1;rw[←hq]at l1;have lv:=hL.blk.frozen 1;have hsuf:=hL.suf;obtain⟨AL,cL,gL,rfl,hgc,hgn,hga,hgm,_⟩:=hG.out (az kb) (by omega);obtain⟨AK,cK,rfl,hkey⟩:=mo (n:=keys.length) hY;obtain⟨nk,hnk⟩:∃n,n=keys.length:=⟨_,rfl⟩;rw[←hnk]at hY hkk;have hnks:nk≤60000000:=by have:=hbl.out;omega
  clear hgc hgn hga hgm hRe hL1 hR1 hO1;obtain⟨p0,p1,p2,p3,p4,f0,f1,f2,f3,f4⟩:=hR.b5;obtain⟨o0,o1,o2,o3,o4,g0,g1,g2,g3,g4⟩:=hO.b5;rw[←hnk];refine h9_ hnk hkey hL hS hR hO hG hY hkk ?_;clear hnk hkey hL hS hR hO hG hY hkk;intro hnk hkey hL hS hR hO hG hY hkk;refine h8_ hE hf hms hpl hq hsuf hacc hak ?_;clear hE hf hms hpl hq hsuf hacc hak;intro hE hf hms hpl hq hsuf hacc hak;obtain⟨wj,rfl⟩:∃wo:World,wo=wr:=⟨_,rfl⟩;obtain⟨a1,ha1⟩:∃a:Int,a=(pos bs (af false r1):Nat):=⟨_,rfl⟩;have hbsuf:af false r1 <:+bs:=(cC false r1).trans hsuf.out;replace hbsuf:=hi_ hbsuf;cases ht:ar r1 with
  |err n u=>
   have hE2:R=.err n u:=by rw[←hE.out,bQ,ht]
   subst hE2;have ctok:=fun W (h:LX L A c bs D (.bool pl) W r1)=>eZ h ht ha1
   replace ctok:=hi_ ctok;clear ha1 ht;go_upto_region 4 with (fail)
   go_at_call 96
   (with_reducible refine (ctok.out _ hL.out).mono ?_)
   rintro e w3 ⟨hn0,rfl,hL3,hS3⟩;obtain⟨w4,hw4,b4,hK4⟩:=ak w3 119 #[.int .i64 0,.int .i64 a1,.int .i64 0,.slice none 0 0];have hneT:w3.heap.size≠L:=by have:=hS3.size;have:=hL3.lt;omega
   have k40:=hK4.cell 0;have k41c:=hK4.cell 1;have k43:=hK4.cell 3;have zz4:w.heap.size+2≤w4.heap.size:=by have:=hS3.size;have:=b4.size;omega
   have hkl4:kb<w4.heap.size:=by have:=hS3.size;have:=b4.size;omega
   replace hL:=hi_ hL3;replace hR:=hi_ (hS3.blk hneR hR.out);replace hO:=hi_ (hS3.blk hneO hO.out);replace hG:=hi_ (hS3.rowG (az kb) (by omega) hG.out);replace hY:=hi_ (am hY.out fun b h1 h2=>hS3.block b h2 (by omega));replace hS:=hi_ (hS.out.trans hS3);replace hL:=hi_ (hL.out.below b4);replace hR:=hi_ (hR.out.below b4 hR.out.lt);replace hO:=hi_ (hO.out.below b4 hO.out.lt);replace hG:=hi_ (hG.out.below (az kb) b4);replace hY:=hi_ (am hY.out fun b _ h2=>b4.block b h2);replace hS:=hi_ (hS.out.then_ b4);replace l1:=hL.out.blk.cell 1;replace lv:=hL.out.blk.frozen 1;obtain⟨p0,p1,p2,p3,p4,f0,f1,f2,f3,f4⟩:=hR.out.b5;obtain⟨o0,o1,o2,o3,o4,g0,g1,g2,g3,g4⟩:=hO.out.b5;go_upto_region 4 with (fail)
   rw[←hw4];replace hw4:=hi_ hw4;clear b4 hS3 hL3;have hnb:(n !=0)=true:=by simpa using hn0
   go_wp2
   generalize hWf:World.setCell _ _ _=Wf;replace hWf:=hWf.symm;obtain⟨hbf,hLf,hSf⟩:=aw hS.out hL.out hR.out (Nat.le_refl _) hneR.symm hAw.out hWf;obtain⟨u0,u1,u2,u3,u4,-⟩:=hbf.b5;refine h4_ hLf hSf hWf hn0 ?_;clear hLf hSf hWf hn0;intro hLf hSf hWf hn0;clear hbf;exact bodyPost_ret (by simp[results,Tryz.results100,go_sem,u0,u1,u2,u3,u4];try rfl) rfl ⟨hn0.out,rfl,hLf.out,hSf.out⟩
  |ok k u=>
   have htl:=bY ht;have ctok:=fun W (h:LX L A c bs D (.bool pl) W r1)=>dO h ht ha1
   replace ctok:=hi_ ctok;replace ha1:=hi_ ha1;go_upto_region 4 with (fail)
   go_at_call 96
   (with_reducible refine (ctok.out _ hL.out).mono ?_)
   rintro e w3 ⟨A3,c3,rfl,hO3,hL3,hS3⟩;obtain⟨w4,hw4,b4,hK4⟩:=ak w3 119 #[.int .i64 k.k,.int .i64 a1,.int .i64 k.n,.slice A3 k.b.length c3];have hneT:w3.heap.size≠L:=by have:=hS3.size;have:=hL3.lt;omega
   have k40:=hK4.cell 0;have k41c:=hK4.cell 1;have k43:=hK4.cell 3;have zz4:w.heap.size+2≤w4.heap.size:=by have:=hS3.size;have:=b4.size;omega
   have hkl4:kb<w4.heap.size:=by have:=hS3.size;have:=b4.size;omega
   replace hL:=hi_ hL3;replace hR:=hi_ (hS3.blk hneR hR.out);replace hO:=hi_ (hS3.blk hneO hO.out);replace hG:=hi_ (hS3.rowG (az kb) (by omega) hG.out);replace hY:=hi_ (am hY.out fun b h1 h2=>hS3.block b h2 (by omega));replace hS:=hi_ (hS.out.trans hS3);replace hL:=hi_ (hL.out.below b4);replace hR:=hi_ (hR.out.below b4 hR.out.lt);replace hO:=hi_ (hO.out.below b4 hO.out.lt);replace hG:=hi_ (hG.out.below (az kb) b4);replace hY:=hi_ (am hY.out fun b _ h2=>b4.block b h2);replace hS:=hi_ (hS.out.then_ b4);replace l1:=hL.out.blk.cell 1;replace lv:=hL.out.blk.frozen 1;obtain⟨p0,p1,p2,p3,p4,f0,f1,f2,f3,f4⟩:=hR.out.b5;obtain⟨o0,o1,o2,o3,o4,g0,g1,g2,g3,g4⟩:=hO.out.b5;obtain⟨_,_,e3,hby4,hA3,_⟩:=(hO3.below b4).out2 (hO3.below b4).len;cases e3;have hOb4:=hO3.below b4;replace hOb4:=hi_ hOb4;replace hby4:=hi_ hby4;clear hA3;go_upto_region 4 with (fail)
   rw[←hw4];replace hw4:=hi_ hw4;replace hK4:=hi_ hK4;clear hO3 b4 hS3 hL3;have hE2:=hE.out;rw[bQ,ht]at hE2;simp only[]at hE2;clear ht hE;by_cases hk8:k.k=8
   ·have hk1:(k.k == 8)=true:=by simpa using hk8
    rw[if_pos hk8]at hE2;subst hE2;clear hk8 htl;go_wp2
    generalize hWf:World.setCell _ _ _=Wf;replace hWf:=hWf.symm;obtain⟨hbf,hgf,hzf⟩:=dt hR.out hWf;obtain⟨u0,u1,u2,u3,u4,-⟩:=hbf.b5;have hLf:=hL.out.grown_ hgf hneR.symm (fun h0 x hx=>by have:=hAw.out h0 x hx;omega);have hSf:=hS.out.grown_ hgf (Nat.le_refl _);have hGf:=RowG.base (B':=w.heap.size) (RowG.far_ en_law hgf (by omega) (RowG.en hG.out)) (by omega);have hIf:ObI w.heap.size Wf.heap.size Wf (.mk 7 0 [] [] acc) [.int .i64 7,.int .i64 0,.slice none 0 0,.slice none 0 0,.slice AL acc.length cL]:=
     el (tO:=32) (tE:=91) (tb:=5) (by omega) (by omega) (by omega) (by omega) (Own.nil _ _).row (by simp[maxLen]) (RowG.nil _ _ _ _ _) hGf
    refine h5_ hLf hSf hGf hIf hWf ?_;clear hLf hSf hGf hIf hWf;intro hLf hSf hGf hIf hWf;clear hbf hgf;exact bodyPost_ret (by simp[results,Tryz.results100,go_sem,u0,u1,u2,u3,u4];try rfl) rfl ⟨_,rfl,hIf.out,hLf.out,hSf.out⟩
   rw[if_neg hk8]at hE2;have hk81:(k.k == 8)=false:=by simpa using hk8
   have cst:=fun W n (h:LX L A c bs D (.bool pl) W u)=>mq h hbsuf.out ha1.out n
   replace cst:=hi_ cst;clear hk8 ha1;by_cases hk0:k.k=0
   ·have hk1:(k.k == 0)=true:=by simpa using hk0
    rw[if_pos hk0]at hE2;subst hE2;clear hk0 htl;go_wp2_with (go_at_call 97;(with_reducible refine (cst.out _ _ hL.out).mono ?_);rintro e w5 ⟨rfl,hL5,hS5⟩;replace hL:=hi_ hL5;replace hR:=hi_ (hS5.blk hneR hR.out);replace hO:=hi_ (hS5.blk hneO hO.out);replace hG:=hi_ (hS5.rowG (az kb) (by omega) hG.out);replace hY:=hi_ (am hY.out fun b h1 h2=>hS5.block b h2 (by omega));replace hS:=hi_ (hS.out.trans hS5);replace l1:=hL.out.blk.cell 1;replace lv:=hL.out.blk.frozen 1;obtain⟨p0,p1,p2,p3,p4,f0,f1,f2,f3,f4⟩:=hR.out.b5;obtain⟨o0,o1,o2,o3,o4,g0,g1,g2,g3,g4⟩:=hO.out.b5;clear hL5 hS5)
    generalize hWf:World.setCell _ _ _=Wf;replace hWf:=hWf.symm;obtain⟨hbf,hLf,hSf⟩:=aw hS.out hL.out hR.out (Nat.le_refl _) hneR.symm hAw.out hWf;obtain⟨u0,u1,u2,u3,u4,-⟩:=hbf.b5;refine h3_ hLf hSf hWf ?_;clear hLf hSf hWf;intro hLf hSf hWf;clear hbf;exact bodyPost_ret (by simp[results,Tryz.results100,go_sem,u0,u1,u2,u3,u4];try rfl) rfl ⟨by decide,rfl,hLf.out,hSf.out⟩
   rw[if_neg hk0]at hE2;have hk01:(k.k == 0)=false:=by simpa using hk0
   clear hk0;by_cases hk4:k.k=4
   ·have hk41:(k.k !=4)=false:=by simpa using hk4
    have htw:cM k=k.b.length+1:=by unfold cM;rw[hk4];simp
    rw[if_neg (by simpa using hk4)]at hE2;clear hk4;have hcon:(∀j (hj:j<keys.length),keys[j]≠k.b)→keys.contains k.b=false:=fun h9=>by
     rw[List.contains_eq_mem,decide_eq_false_iff_not];intro hm;obtain⟨j,hj,e⟩:=List.getElem_of_mem hm;exact h9 j hj e
    refine h4_ hE2 hcon htw htl ?_;clear hE2 hcon htw htl;intro hE2 hcon htw htl;obtain⟨oK,hoK⟩:∃o:Nat,o=0:=⟨_,rfl⟩;have hkey4:0<keys.length→∃g,AK=some ⟨g,oK,none⟩∧∀W,Below w4.heap.size w4 W→∀i (hi:i<keys.length),W.cell? ⟨g,oK+i,none⟩=some (bE keys[i]):=fun hn=>by
     obtain⟨_,_,e,h9⟩:=mo (n:=keys.length) (show w4.ownsRow (w.heap.size+2) 9 1 (.slice AK nk cK) keys.length (keys.map bE) by have:=hY.out;rw[hnk.out]at this⊢;exact this);cases e;obtain⟨g,e2,h10⟩:=h9 hn;rw[hoK];exact⟨g,e2,fun W hW i hi=>(hW.cell (ac (h10 i hi))).trans (h10 i hi)⟩
    replace hkey4:=hi_ hkey4;replace hoK:=hi_ hoK;clear hkey;go_upto_region 13 with (fail)
    go_loopw [10] (fun s10 wr=>∃i:Nat,i≤nk∧s10=.int .i64 i∧(∀j (hj:j<keys.length),j<i→keys[j]≠k.b)∧Below w4.heap.size w4 wr) (fun s10 _=>nk - (RowKit.intOf s10).toNat)
    case atStart=>exact⟨0,by omega,rfl,fun j hj h=>by omega,Below.refl _ _⟩
    case round=>
     obtain⟨i,hi,rfl,hne,hBi⟩:=hrel;have k43i:=(hBi.cell (ac k43)).trans k43;by_cases hin:i<nk
     ·have hik:i<keys.length:=by rw[←hnk.out];exact hin
      obtain⟨gK,rfl,hkc⟩:=hkey4.out (by omega);have hki:=hkc wr hBi i hik;obtain⟨S,hS9⟩:∃S:ByteArray,S=⟨keys[i].toArray⟩:=⟨_,rfl⟩;have hki2:wr.cell? ⟨gK,oK+i,none⟩=some (.string S):=by rw[hki,hS9];rfl
      have hcv:=cN wr.drew A3 c3 k.b (hby4.out.below hBi.drew);have k41i:=(hBi.cell (ac k41c)).trans k41c;have hSe:(S.toList == (bytes k.b).toList)=decide (keys[i]=k.b):=by
       rw[ByteArray.toList_eq,ByteArray.toList_eq,hS9,Bool.eq_iff_iff];show (keys[i].toArray.toList == k.b)=true↔_
       simp
      obtain⟨eq,heq⟩:∃b,b=decide (keys[i]=k.b):=⟨_,rfl⟩;rw[←heq]at hSe;refine h4_ heq hS9 hne hBi ?_;clear heq hS9 hne hBi;intro heq hS9 hne hBi;clear hki hkc;cases eq with
      |true=>
       have hcb:keys.contains k.b=true:=by
        have e9:keys[i]=k.b:=by have:=heq.out;simpa using this.symm
        rw[List.contains_eq_mem,decide_eq_true_eq,←e9];exact List.getElem_mem hik
       have hE3:=hE2.out;rw[if_pos hcb]at hE3;subst hE3;clear hcb hE2;go_upto_region 15 with (fail)
       go_region_with (fail)
       all_goals (
        have hBd:Below w4.heap.size w4 wr.drew:=hBi.out.drew;replace hL:=hi_ (hL.out.below hBd);replace hR:=hi_ (hR.out.below hBd hR.out.lt);replace hO:=hi_ (hO.out.below hBd hO.out.lt);replace hG:=hi_ (hG.out.below (az kb) hBd);replace hY:=hi_ (am hY.out fun b _ h2=>hBd.block b h2);replace hS:=hi_ (hS.out.then_ hBd);replace l1:=hL.out.blk.cell 1;replace lv:=hL.out.blk.frozen 1;obtain⟨p0,p1,p2,p3,p4,f0,f1,f2,f3,f4⟩:=hR.out.b5;obtain⟨o0,o1,o2,o3,o4,g0,g1,g2,g3,g4⟩:=hO.out.b5;clear hBd;go_wp2_with (go_at_call 97;(with_reducible refine (cst.out _ _ hL.out).mono ?_);rintro e w5 ⟨rfl,hL5,hS5⟩;replace hL:=hi_ hL5;replace hR:=hi_ (hS5.blk hneR hR.out);replace hO:=hi_ (hS5.blk hneO hO.out);replace hG:=hi_ (hS5.rowG (az kb) (by omega) hG.out);replace hY:=hi_ (am hY.out fun b h1 h2=>hS5.block b h2 (by omega));replace hS:=hi_ (hS.out.trans hS5);replace l1:=hL.out.blk.cell 1;replace lv:=hL.out.blk.frozen 1;obtain⟨p0,p1,p2,p3,p4,f0,f1,f2,f3,f4⟩:=hR.out.b5;obtain⟨o0,o1,o2,o3,o4,g0,g1,g2,g3,g4⟩:=hO.out.b5;clear hL5 hS5)
        generalize hWf:World.setCell _ _ _=Wf;replace hWf:=hWf.symm;obtain⟨hbf,hLf,hSf⟩:=aw hS.out hL.out hR.out (Nat.le_refl _) hneR.symm hAw.out hWf;obtain⟨u0,u1,u2,u3,u4,-⟩:=hbf.b5;refine h3_ hLf hSf hWf ?_;clear hLf hSf hWf;intro hLf hSf hWf;clear hbf;exact bodyPost_ret (by simp[results,Tryz.results100,go_sem,u0,u1,u2,u3,u4];try rfl) rfl ⟨by decide,rfl,hLf.out,hSf.out⟩)
      |false=>
       have hne9:keys[i]≠k.b:=by have:=heq.out;simpa using this.symm
       replace hne9:=hi_ hne9;go_upto_region 15 with (fail)
       go_region_with (fail)
       all_goals go_wp2
       all_goals go_roundw
       all_goals first
        |(case measure=>simp[RowKit.intOf];omega)
        |skip
       all_goals exact⟨i+1,by omega,by go_num,fun j hj hji=>by
        by_cases hj2:j=i
        ·subst hj2;exact hne9.out
        ·exact hne.out j hj (by omega),hBi.out.drew⟩
     ·obtain rfl:i=nk:=by omega
      have hE3:=hE2.out;rw[hcon.out (fun j hj=>hne j hj (by have:=hnk.out;omega)),if_neg (by decide)]at hE3;replace hE3:=hi_ hE3;have hcv:=cN wr A3 c3 k.b (hby4.out.below hBi);have hOb5:=hOb4.out.below hBi;have hkb5:kb<wr.heap.size:=by have:=hBi.size;omega
      have zz5:w.heap.size+2≤wr.heap.size:=by have:=hBi.size;omega
      replace hL:=hi_ (hL.out.below hBi);replace hR:=hi_ (hR.out.below hBi hR.out.lt);replace hO:=hi_ (hO.out.below hBi hO.out.lt);replace hG:=hi_ (hG.out.below (az kb) hBi);replace hY:=hi_ (am hY.out fun b _ h2=>hBi.block b h2);replace hS:=hi_ (hS.out.then_ hBi);replace l1:=hL.out.blk.cell 1;replace lv:=hL.out.blk.frozen 1;obtain⟨p0,p1,p2,p3,p4,f0,f1,f2,f3,f4⟩:=hR.out.b5;obtain⟨o0,o1,o2,o3,o4,g0,g1,g2,g3,g4⟩:=hO.out.b5;obtain⟨wB,hwB,bB⟩:=bH wr 9 #[.string (bytes k.b)];have hcB:wB.cell? ⟨wr.heap.size,0,none⟩=some (.string (bytes k.b)):=by rw[hwB];exact (Blk.new wr 9 #[.string (bytes k.b)]).cell 0
      have zB:wB.heap.size=wr.heap.size+1:=by rw[hwB];exact World.size_alloc _ _
      have hK4B:=hK4.out.below hBi hK4.out.lt;replace hL:=hi_ (hL.out.below bB);replace hR:=hi_ (hR.out.below bB hR.out.lt);replace hO:=hi_ (hO.out.below bB hO.out.lt);replace hG:=hi_ (hG.out.below (az kb) bB);replace hY:=hi_ (am hY.out fun b _ h2=>bB.block b h2);replace hS:=hi_ (hS.out.then_ bB);replace l1:=hL.out.blk.cell 1;replace lv:=hL.out.blk.frozen 1;obtain⟨p0,p1,p2,p3,p4,f0,f1,f2,f3,f4⟩:=hR.out.b5;obtain⟨o0,o1,o2,o3,o4,g0,g1,g2,g3,g4⟩:=hO.out.b5;have hltY:=World.ownsRow.lt hY.out;have hrowD:∀g,(Value.slice AK i cK).ownBlock=some g→g=kb∧(Value.slice AL acc.length cL).ownBlock≠some kb:=fun g hg=>by
       have e:=hkk.out g hg;refine⟨e,?_⟩;rw[←e];exact nc hY.out hG.out.row hg
      have hK4C:=hK4B.below bB hK4B.lt;have hneK:∀g,(Value.slice AK i cK).ownBlock=some g→w3.heap.size≠g:=fun g hg e=>by
       rcases hY.out.2 with ⟨e1,_⟩|⟨g1,c1,cur1,e1,_,hh1,_⟩
       ·rw[e1]at hg;simp[Value.ownBlock]at hg
       ·rw[e1]at hg
        have e2:g1=g:=by simpa [Value.ownBlock] using hg
        have h9:=hK4C;unfold Blk at h9;rw[e,←e2,hh1]at h9;injection h9 with h9;injection h9 with _ h9;exact absurd h9 (by decide)
      refine h6_ hltY hrowD hneK hK4B hK4C zB ?_;clear hltY hrowD hneK hK4B hK4C zB;intro hltY hrowD hneK hK4B hK4C zB;have hObB:=hOb5.below bB;replace hObB:=hi_ hObB;clear hOb5;refine h3_ hwB hne hBi ?_;clear hwB hne hBi;intro hwB hne hBi;clear hE2 hcon;have bB9:=hi_ bB;clear bB;go_wp2_with (at_builtin;rw[←hwB.out];refine qj rfl _ _ rfl (w.heap.size+2) _ i _ rfl hY.out wr.heap.size _ rfl hcB (by omega) (by have:=zB.out;omega) ?_;intro vK wK hY9 hg9 hat9;replace hY9:=hi_ hY9;replace hg9:=hi_ hg9;replace hat9:=hi_ hat9)
      have hBx:w.heap.size+2≤wB.heap.size:=by have:=zB.out;omega
      have hB8:Below (w.heap.size+2) wB wK:=(Below.refl _ _ |>.mono hBx).grown hg9.out hBx (fun g hg=>(hltY.out g hg).1);have hLK:LX L A c bs D (.bool pl) wK u:=hL.out.belowB hB8 (by omega) (fun h0 x hx=>by have:=hAw.out h0 x hx;omega);have hSK:Save L w wK:=hS.out.thenB (hB8.mono (by omega));have hRK:=hR.out.below hB8 (by omega);have hOK:=hO.out.below hB8 (by omega);have hTK:Blk wK w3.heap.size 119 #[.int .i64 k.k,.int .i64 a1,.int .i64 k.n,.slice A3 k.b.length c3]:=hK4C.out.grown hg9.out (fun e=>hneK.out _ e.symm rfl);have hltK:=World.ownsRow.lt hY9.out;obtain⟨kb',hk1,hk2,hk3⟩:∃kb',(∀g,vK.ownBlock=some g→g=kb')∧(kb'=kb∨wB.heap.size≤kb')∧kb'<wK.heap.size:=by
       have z9:=hB8.size;have z8:=zB.out;cases hv:vK.ownBlock with
       |none=>exact⟨kb,fun g hg=>(by cases hg),.inl rfl,by omega⟩
       |some g=>
        refine⟨g,fun g' hg=>by injection hg with hg;exact hg.symm,?_,(hltK g hv).2⟩;have hat9':vK.ownBlock=(Value.slice AK i cK).ownBlock∨vK.ownBlock=some wB.heap.size:=hat9.out;rcases hat9' with e|e
        ·exact .inl (hkk.out g (by rw[←e];exact hv))
        ·rw[hv]at e;injection e with e;right;omega
      have hGK:RowG (EnA kb') 91 6 (w.heap.size+2) wK (.slice AL acc.length cL) acc rd:=RowG.moved hG.out hg9.out (fun g hg=>hrowD.out g hg) hk2;have hObK:=bJ hObB.out hg9.out (fun g hg=>li hY.out hObB.out hg);obtain⟨_,_,eK,hbyK,_,_⟩:=hObK.out2 hObK.len;cases eK;clear hL hS hR hO hG l1 lv p0 p1 p2 p3 p4 f0 f1 f2 f3 f4 o0 o1 o2 o3 o4 g0 g1 g2 g3 g4 k40 k41c k43 k43i hcv;have hL:=hi_ hLK;have hS:=hi_ hSK;have hR:=hi_ hRK;have hO:=hi_ hOK;have hG:=hi_ hGK;have hY:=hi_ hY9.out;have hT:=hi_ hTK;have hB9:=hi_ hObK;replace l1:=hL.out.blk.cell 1;replace lv:=hL.out.blk.frozen 1;obtain⟨p0,p1,p2,p3,p4,f0,f1,f2,f3,f4⟩:=hR.out.b5;obtain⟨o0,o1,o2,o3,o4,g0,g1,g2,g3,g4⟩:=hO.out.b5;have k43:=hTK.cell 3;have cv:=hv.out L A c bs D wK u hLK hsm;have hcut:=fB pl d u;have zzK:w.heap.size+2≤wK.heap.size:=by have:=hB8.size;omega
      obtain⟨V,hV⟩:∃V,V=valS pl d u:=⟨_,rfl⟩;rw[←hV]at cv hE3 hcut;replace cv:=hi_ cv;replace hV:=hi_ hV;obtain⟨kbo,hkbo⟩:∃b,b=kb:=⟨_,rfl⟩;refine h4_ hk1 hk2 hltK hbyK ?_;clear hk1 hk2 hltK hbyK;intro hk1 hk2 hltK hbyK;clear hLK hSK hRK hOK hGK hTK hObK hbyK hY9;clear hkk hkl hkl4 hkb5 hkbo;obtain⟨kb,rfl⟩:∃b,b=kb':=⟨_,rfl⟩;cases V with
      |err n v=>
       have hE4:R=.err n v:=by rw[←hE3.out]
       subst hE4;clear hcut
       (with_reducible refine (cv.out).mono ?_)
       rintro e w6 ⟨hn0,rfl,hL6,hS6⟩;obtain⟨w7,hw7,b7⟩:=bH w6 32 #[.int .i64 0,.int .i64 0,.slice none 0 0,.slice none 0 0,.slice none 0 0];replace hL:=hi_ hL6;replace hR:=hi_ (hS6.blk hneR hR.out);replace hO:=hi_ (hS6.blk hneO hO.out);replace hG:=hi_ (hS6.rowG (az kb) (by omega) hG.out);replace hY:=hi_ (am hY.out fun b h1 h2=>hS6.block b h2 (by omega));replace hS:=hi_ (hS.out.trans hS6);replace hL:=hi_ (hL.out.below b7);replace hR:=hi_ (hR.out.below b7 hR.out.lt);replace hO:=hi_ (hO.out.below b7 hO.out.lt);replace hG:=hi_ (hG.out.below (az kb) b7);replace hY:=hi_ (am hY.out fun b _ h2=>b7.block b h2);replace hS:=hi_ (hS.out.then_ b7);replace l1:=hL.out.blk.cell 1;replace lv:=hL.out.blk.frozen 1;obtain⟨p0,p1,p2,p3,p4,f0,f1,f2,f3,f4⟩:=hR.out.b5;obtain⟨o0,o1,o2,o3,o4,g0,g1,g2,g3,g4⟩:=hO.out.b5;go_upto_region 19 with (fail)
       rw[←hw7];replace hw7:=hi_ hw7;have hnb:(n !=0)=true:=by simpa using hn0
       clear b7 hL6 hS6;go_wp2
       generalize hWf:World.setCell _ _ _=Wf;replace hWf:=hWf.symm;obtain⟨hbf,hLf,hSf⟩:=aw hS.out hL.out hR.out (Nat.le_refl _) hneR.symm hAw.out hWf;obtain⟨u0,u1,u2,u3,u4,-⟩:=hbf.b5;refine h4_ hLf hSf hWf hn0 ?_;clear hLf hSf hWf hn0;intro hLf hSf hWf hn0;clear hbf;exact bodyPost_ret (by simp[results,Tryz.results100,go_sem,u0,u1,u2,u3,u4];try rfl) rfl ⟨hn0.out,rfl,hLf.out,hSf.out⟩
      |ok o v=>
       have hcut2:=hcut o v rfl;replace hcut2:=hi_ hcut2;clear hcut
       (with_reducible refine (cv.out).mono ?_)
       rintro e w6 ⟨us,rfl,hI6,hL6,hS6⟩;obtain⟨xn,F1,F2,F3,fn1,fc1,fn2,fc2,fn3,fc3,hxs⟩:=ay hI6.ob;obtain⟨xk,hxk⟩:∃k,k=o.kind:=⟨_,rfl⟩;rw[←hxk]at hxs;subst hxs;replace hxk:=hi_ hxk;obtain⟨w7,hw7,b7,hX7⟩:=ak w6 32 #[.int .i64 xk,.int .i64 xn,.slice F1 fn1 fc1,.slice F2 fn2 fc2,.slice F3 fn3 fc3];have hI7:=aF hI6 b7;replace hL:=hi_ hL6;replace hT:=hi_ ((hS6.blk hneT hT.out).below b7 (hS6.blk hneT hT.out).lt);replace hB9:=hi_ ((hS6.own (by omega) hB9.out).below b7);replace hR:=hi_ (hS6.blk hneR hR.out);replace hO:=hi_ (hS6.blk hneO hO.out);replace hG:=hi_ (hS6.rowG (az kb) (by omega) hG.out);replace hY:=hi_ (am hY.out fun b h1 h2=>hS6.block b h2 (by omega));replace hS:=hi_ (hS.out.trans hS6);replace hL:=hi_ (hL.out.below b7);replace hR:=hi_ (hR.out.below b7 hR.out.lt);replace hO:=hi_ (hO.out.below b7 hO.out.lt);replace hG:=hi_ (hG.out.below (az kb) b7);replace hY:=hi_ (am hY.out fun b _ h2=>b7.block b h2);replace hS:=hi_ (hS.out.then_ b7);replace l1:=hL.out.blk.cell 1;replace lv:=hL.out.blk.frozen 1;obtain⟨p0,p1,p2,p3,p4,f0,f1,f2,f3,f4⟩:=hR.out.b5;obtain⟨o0,o1,o2,o3,o4,g0,g1,g2,g3,g4⟩:=hO.out.b5;have k43:=hT.out.cell 3;obtain⟨x0,x1,x2,x3,x4,-⟩:=hX7.b5;obtain⟨_,_,eK,hby7,_,_⟩:=hB9.out.out2 hB9.out.len;cases eK;have hcv:=cN w7 A3 c3 k.b hby7;have hbo:=dk o;have z7:w7.heap.size=w6.heap.size+1:=by rw[hw7];exact World.size_alloc _ _
       have z6:=hS6.size;have zz7:w.heap.size+2≤w7.heap.size:=by omega
       have hkb7:kb<w7.heap.size:=by omega
       have cw:=m9 kb w7 hkb7 (w.heap.size+2) _ acc rd hG.out zz7 (bytes k.b) o _ (by have:=hak.out;have:=hnk.out;omega) hI7.ob (by have h1:=hcut2.out;have h2:=htl.out;have h3:=hacc.out;have h4:=hbl.out;omega) hB9.out.len;refine h4_ cw z7 hI7 hX7 ?_;clear cw z7 hI7 hX7;intro cw z7 hI7 hX7;clear b7 hL6 hS6 hI6 hby7;go_upto_region 19 with (fail)
       rw[←hw7];replace hw7:=hi_ hw7;go_wp2_with (go_at_call 45;(with_reducible refine (cw.out).mono ?_);rintro e w8 ⟨v8,rd8,rfl,hG8,hge8,hB8w⟩;obtain⟨A8,c8,rfl⟩:∃A c,v8=.slice A (dA (bytes k.b).data.toList o acc).length c:=(by obtain⟨A,c,g,e,_⟩:=hG8.out (az kb) (by omega);exact⟨A,c,e⟩);obtain⟨n8,hn8⟩:∃n,n=(dA (bytes k.b).data.toList o acc).length:=⟨_,rfl⟩;rw[←hn8]at hG8⊢;have hO8:=hO.out.below hB8w hO.out.lt;have o84:=hO8.cell 4;have g84:=hO8.frozen 4;replace hO8:=hi_ hO8;replace hn8:=hi_ hn8;replace hG8:=hi_ hG8;replace hge8:=hi_ hge8;replace hB8w:=hi_ hB8w)
       obtain⟨w9,hw9⟩:∃W,W=w8.setCell ⟨w.heap.size+1,4,none⟩ (.slice A8 n8 c8):=⟨_,rfl⟩;rw[←hw9];have hgw9:w8.grownBy w9 (some (w.heap.size+1)):=by rw[hw9];exact aj w8 (w.heap.size+1) 4 _
       have hL9:LX L A c bs D (.bool pl) w9 v:=by
        rw[hw9];exact (hL.out.below hB8w.out).far_ hneO.symm (fun h0 x hx=>by have:=hAw.out h0 x hx;omega)
       have hS9:Save L w w9:=by rw[hw9];exact (hS.out.then_ hB8w.out).far_ (by omega)
       have hR9:Blk w9 w.heap.size 32 #[.int .i64 0,.int .i64 0,.slice none 0 0,.slice none 0 0,.slice none 0 0]:=by rw[hw9];exact (hR.out.below hB8w.out hR.out.lt).far (p:=⟨w.heap.size+1,4,none⟩) (by simp) _
       have hO9:Blk w9 (w.heap.size+1) 32 #[.int .i64 7,.int .i64 0,.slice none 0 0,.slice none 0 0,.slice A8 n8 c8]:=by rw[hw9];exact hO8.out.set_ 4 _
       have hG9:RowG (EnA kb) 91 6 (w.heap.size+2) w9 (.slice A8 n8 c8) (dA k.b o acc) rd8:=by have:=hG8.out;exact RowG.far_ (az kb) hgw9 (by omega) this
       have hYb:=am hY.out fun b _ h2=>hB8w.out.block b h2
       have hY9:w9.ownsRow (w.heap.size+2) 9 1 vK (keys++[k.b]).length ((keys++[k.b]).map bE):=by
        have hy:=am hYb fun b h1 h2=>hgw9.block b h2 (by intro e;injection e with e;omega)
        have e1:(keys++[k.b]).length=i+1:=by have:=hnk.out;simp only[List.length_append,List.length_cons,List.length_nil];omega
        rw[e1,List.map_append];exact hy
       have s1:=hB8w.out.size;have s2:w9.heap.size=w8.heap.size:=by rw[hw9];simp[World.setCell]
       have e1:=hL9.posOf;have e2:=hms.out;have e3:=aK hL9.suf;have e4:=hpl.out;have e5:=hcut2.out;have e6:=hf.out;have e7:=hacc.out;have e8:=aE bs v;have e9:=htl.out;have e10:=htw.out;have e11:=oY k.b o acc;have e12:=hak.out;refine⟨⟨f,keys++[k.b],dA k.b o acc,_,_,kb,v,hL9,hS9,hR9,hO9,hG9,hY9,hk1.out,by omega,hE3.out,by omega,by simp only[List.length_append,List.length_cons,List.length_nil];omega,by simp only[List.length_append,List.length_cons,List.length_nil];omega,by omega⟩,by rw[e1,e2];omega⟩
   ·have hk41:(k.k !=4)=true:=by simpa using hk4
    rw[if_pos hk4]at hE2;subst hE2;clear hk4 htl;go_wp2_with (go_at_call 97;(with_reducible refine (cst.out _ _ hL.out).mono ?_);rintro e w5 ⟨rfl,hL5,hS5⟩;replace hL:=hi_ hL5;replace hR:=hi_ (hS5.blk hneR hR.out);replace hO:=hi_ (hS5.blk hneO hO.out);replace hG:=hi_ (hS5.rowG (az kb) (by omega) hG.out);replace hY:=hi_ (am hY.out fun b h1 h2=>hS5.block b h2 (by omega));replace hS:=hi_ (hS.out.trans hS5);replace l1:=hL.out.blk.cell 1;replace lv:=hL.out.blk.frozen 1;obtain⟨p0,p1,p2,p3,p4,f0,f1,f2,f3,f4⟩:=hR.out.b5;obtain⟨o0,o1,o2,o3,o4,g0,g1,g2,g3,g4⟩:=hO.out.b5;clear hL5 hS5)
    generalize hWf:World.setCell _ _ _=Wf;replace hWf:=hWf.symm;obtain⟨hbf,hLf,hSf⟩:=aw hS.out hL.out hR.out (Nat.le_refl _) hneR.symm hAw.out hWf;obtain⟨u0,u1,u2,u3,u4,-⟩:=hbf.b5;refine h3_ hLf hSf hWf ?_;clear hLf hSf hWf;intro hLf hSf hWf;clear hbf;exact bodyPost_ret (by simp[results,Tryz.results100,go_sem,u0,u1,u2,u3,u4];try rfl) rfl ⟨by decide,rfl,hLf.out,hSf.out⟩
end
end
end Go.Proofs.YthffpbkndnhlfaaGreatDoor
