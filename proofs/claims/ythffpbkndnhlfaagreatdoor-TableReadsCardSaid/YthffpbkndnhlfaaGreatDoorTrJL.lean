/- Walks and laws, joined: part L. No condition. -/
import Derived.Test.YthffpbkndnhlfaaGreatDoorTrJK
import Derived.Test.YthffpbkndnhlfaaGreatDoorTrJF
import Derived.Test.YthffpbkndnhlfaaGreatDoorTrJA
import Derived.Test.YthffpbkndnhlfaaGreatDoorTrJD
import Derived.Test.YthffpbkndnhlfaaGreatDoorTrJG
import Derived.Deep.QuietTactic
import Derived.BigQuiet
import Derived.Test.YthffpbkndnhlfaaGreatDoorRows
import Derived.Lib.LaidTab
import Derived.WideShapes
set_option linter.unusedSimpArgs false
set_option linter.unusedVariables false
set_option maxRecDepth 100000
set_option maxHeartbeats 32000000
namespace Go.Proofs.YthffpbkndnhlfaaGreatDoor
open Go Go.RowKit Go.Wk
theorem jm {P:Program}(g o:Nat) (t:TypeId) (lo hi:Nat):∀(vs:List Value) (i:Nat) (cur:Array Value) (w:World),w.heap[g]?=some (.cells cur t (lo,hi))→cur.size≤lo→o+i+vs.length≤cur.size→(∀v∈vs,v.oneCell'=true)→
 (storeCells ⟨g,o,none⟩ vs i).run P w=.ok () (w.setRow g (cur.toList.take (o+i)++vs++cur.toList.drop (o+i+vs.length)).toArray)
 |[],i,cur,w,hg,_,_,_=>by
  simp only[storeCells,List.append_nil,List.length_nil,Nat.add_zero,List.take_append_drop,Array.toArray_toList];rw[setRow_self w g cur t (lo,hi) hg]
  rfl
 |v :: rest,i,cur,w,hg,hlo,hl,h1=>by
  have hi':o+i<cur.size:=by simp at hl;omega
  have hadd:(⟨g,o,none⟩:Addr).add i=⟨g,o+i,none⟩:=by unfold Addr.add;split <;> simp_all
  have hcell:w.cell? ⟨g,o+i,none⟩=some cur[o+i]:=by simp[World.cell?,hg,hi']
  have hfro:w.frozen? ⟨g,o+i,none⟩=false:=by simp[World.frozen?,hg];omega
  have hst:(store ((⟨g,o,none⟩:Addr).add i) v).run P w=.ok () (w.setRow g (cur.setIfInBounds (o+i) v)):=by
   rw[hadd,run_store P w _ v _ (h1 v (by simp)),hcell];simp[hfro,setCell_eq_setRow w g (o+i) cur t (lo,hi) v hg]
  have ih:=jm (P:=P) g o t lo hi rest (i+1) (cur.setIfInBounds (o+i) v) (w.setRow g (cur.setIfInBounds (o+i) v)) (setRow_heap w g cur _ t _ hg) (by simpa using hlo) (by simp at hl⊢;omega) (fun x hx=>h1 x (by simp[hx]));simp only[storeCells,Sem.run_bind,hst,Result.andThen_ok,ih,setRow_setRow]
  congr 3
  have e:=list_seg_step cur.toList (o+i) v rest (by simp at hl⊢;omega)
  simpa [Array.toList_setIfInBounds,Nat.add_assoc] using e
def OwnM (B:Nat) (w:World) (v:Value) (bs:List UInt8):Prop:=Own B w v bs∨∃g cap cur lo hi,v=.slice (some ⟨g,0,none⟩) bs.length cap∧B≤g∧w.heap[g]?=some (.cells cur 5 (lo,hi))∧cap≤lo∧bs.length≤cap∧cap≤maxLen∧cur.size=cap∧cur.toList.take bs.length=aM bs
theorem OwnM.below {B:Nat}{w w':World}{v:Value}{bs:List UInt8}(h:OwnM B w v bs) (hb:Below w.heap.size w w'):OwnM B w' v bs:=by
 rcases h with h|⟨g,cap,cur,lo,hi,h1,h2,h3,rest⟩
 ·exact .inl (h.below hb)
 ·exact .inr ⟨g,cap,cur,lo,hi,h1,h2,(hb.block g (Array.getElem?_eq_some_iff.1 h3).1).trans h3,rest⟩
theorem ji {w:World}{g:Nat}{cur:Array Value}{m:Nat×Nat}{bs:List UInt8}(h:w.heap[g]?=some (.cells cur 5 m)) (ht:cur.toList.take bs.length=aM bs) (hm:bs.length≤maxLen):Byt w (some ⟨g,0,none⟩) bs:=by
 refine⟨hm,fun _=>⟨g,0,rfl,fun i hi=>?_⟩⟩;have h1:w.cell? ⟨g,0+i,none⟩=cur[i]?:=by rw[Nat.zero_add,cell_of_row w g i cur 5 m h]
 have h2:(aM bs)[i]?=some (.int .u8 (bs[i].toNat:Int)):=by simp[aM,hi]
 rw[←ht,List.getElem?_take,if_pos hi]at h2;rw[h1];simpa using h2
theorem OwnM.out {B:Nat}{w:World}{v:Value}{bs:List UInt8}(h:OwnM B w v bs) (hm:bs.length≤maxLen):∃A c,v=.slice A bs.length c∧Byt w A bs∧(A=none→c=0):=by
 rcases h with h|⟨g,cap,cur,lo,hi,rfl,h2,h3,h4,h5,h6,h7,h8⟩
 ·exact h.out hm
 ·exact⟨_,_,rfl,ji h3 h8 hm,fun e=>by cases e⟩
theorem sD (w:World) (t ty:TypeId) (i:TypeInfo) (e:TypeId) (ht:Tryz.prog.underlying t=some (.slice e)) (hi:Tryz.prog.info? e=some i) (h1s:i.size=1)
 (g sLen sCap lo hh:Nat) (cur:Array Value) (hg:w.heap[g]?=some (.cells cur e (lo,hh))) (hlo:cur.size≤lo)
 (a:Addr) (m c:Nat) (news:List Value) (hl:news.length=m) (hnews:∀j u,news[j]?=some u→w.cell? (a.add j)=some u) (h1:∀u∈news,u.oneCell'=true)
 (hroom:sLen+m≤sCap) (hfit:sLen+news.length≤cur.size) :
 (
  Builtin.append_ #[t,t] ty #[.slice (some ⟨g,0,none⟩) sLen sCap,.slice (some a) m c]).run Tryz.prog w =
  .ok (.slice (some ⟨g,0,none⟩) (sLen+m) sCap) (w.setRow g (cur.toList.take sLen++news++cur.toList.drop (sLen+news.length)).toArray):=by
 have hf:=run_firstCells_some (P:=Tryz.prog) w i.size m a m c news (by rw[h1s];omega) hnews;have hst:=jm (P:=Tryz.prog) g sLen e lo hh news 0 cur w hg hlo (by simpa using hfit) h1;simp only[Nat.add_zero]at hst;rw[h1s]at hf;simp[Builtin.append_,run_underlying ht,sizeOf,typeInfo,hi,h1s,Builtin.lenOf,hroom,hf,Addr.add_lit,hst]
theorem sE (w:World) (t u ty:TypeId) (i:TypeInfo) (e:TypeId) (ht:Tryz.prog.underlying t=some (.slice e)) (hu:Tryz.prog.underlying u=some .string) (hi:Tryz.prog.info? e=some i) (h1s:i.size=1)
 (g sLen sCap lo hh:Nat) (cur:Array Value) (hg:w.heap[g]?=some (.cells cur e (lo,hh))) (hlo:cur.size≤lo) (S:ByteArray)
 (hroom:sLen+S.size≤sCap) (hfit:sLen+S.size≤cur.size) :
 (
  Builtin.append_ #[t,u] ty #[.slice (some ⟨g,0,none⟩) sLen sCap,.string S]).run Tryz.prog w =
  .ok (.slice (some ⟨g,0,none⟩) (sLen+S.size) sCap) (w.setRow g (cur.toList.take sLen++Lib.strCells S++cur.toList.drop (sLen+S.size)).toArray):=by
 have hf:=Lib.run_firstCells_string (P:=Tryz.prog) w 1 S;have hst:=jm (P:=Tryz.prog) g sLen e lo hh (Lib.strCells S) 0 cur w hg hlo (by simpa [Lib.strCells_length] using hfit) (Lib.strCells_oneCell S);simp only[Nat.add_zero,Lib.strCells_length]at hst;simp[Builtin.append_,run_underlying ht,run_underlying hu,sizeOf,typeInfo,hi,h1s,Builtin.lenOf,hroom,hf,Addr.add_lit,hst]
theorem oP {w w':World}{B g cap lo hh:Nat}{cur:Array Value}{out bs:List UInt8}(hB:B≤g) (hh3:w.heap[g]?=some (.cells cur 5 (lo,hh))) (h4:cap≤lo) (h6:cap≤maxLen) (h7:cur.size=cap) (h8:cur.toList.take out.length=aM out) (hroom:out.length+bs.length≤cap)
 (hw:w'=w.setRow g (cur.toList.take out.length++aM bs++cur.toList.drop (out.length+bs.length)).toArray) :
 OwnM B w' (.slice (some ⟨g,0,none⟩) (out.length+bs.length) cap) (out++bs)∧w.grownBy w' (some g):=by
 subst hw;refine⟨.inr ⟨g,cap,_,lo,hh,by rw[List.length_append],hB,setRow_heap w g cur _ 5 _ hh3,h4,by rw[List.length_append];exact hroom,h6,?_,?_⟩,⟨rfl,rfl,rfl,by simp,fun k hk hne=>setRow_other w g k _ (fun e=>hne (by rw[e]))⟩⟩
 ·have hl:cur.toList.length=cap:=by simpa using h7
  simp only[List.size_toArray,List.length_append,List.length_take,List.length_drop,aS,hl];omega
 ·rw[h8,ed,List.length_append]
  have hv:(aM out++aM bs).length=out.length+bs.length:=by simp[aS]
  show List.take _ (aM out++aM bs++_)=_
  rw[←hv,List.take_left]
theorem rP {w:World}{ops:Array Oper}{rest:List Oper}{o:Oper}{a:Act}{Q:Exit→Act→World→Prop}(hgd:o.guard=none) (s x:Operand)
 (ho:o.op=.call {callee:=.builtin .append,args:=#[s,x],argTypes:=#[22,22]}) (B:Nat) (v:Value) (out:List UInt8) (hs:a.eval s=v) (hown:OwnM B w v out)
 (A:Option Addr) (n c:Nat) (bs:List UInt8) (hx:a.eval x=.slice A n c) (hn:n=bs.length) (hb:Byt w A bs) (hA:A=none→c=0) (hl:out.length+bs.length≤70368744177664) (hB:B≤w.heap.size)
 (h:∀v' w',OwnM B w' v' (out++bs)→Below B w w'→wpList Tryz.prog ops Q rest (a.put o.dst v') w'):wpList Tryz.prog ops Q (o :: rest) a w:=by
 rcases hown with hown|⟨g,cap,cur,lo,hh,rfl,hBg,h3,h4,h5,h6,h7,h8⟩
 ·exact dU hgd s x ho B v out hs hown A n c bs hx hn hb hA hl hB fun v' w' h1 h2=>h v' w' (.inl h1) h2
 obtain⟨i0,hi,hz0,hz1,hz2⟩:=eG;have hself:(cur.toList.take out.length++aM []++cur.toList.drop (out.length+([]:List UInt8).length)).toArray=cur:=by simp[aM]
 cases A with
 |none=>
  have hbs:bs=[]:=by
   cases bs with
   |nil=>rfl
   |cons y l=>obtain⟨b,o,e,_⟩:=hb.2 (by simp);cases e
  subst hbs;have hc:=hA rfl;subst hc;obtain rfl:n=0:=hn;refine wpList_plain hgd fun K hK=>?_
  have hr:(Builtin.append_ #[22,22] o.type #[.slice (some ⟨g,0,none⟩) out.length cap,.slice none 0 0]).run Tryz.prog w=.ok (.slice (some ⟨g,0,none⟩) out.length cap) w:=by
   simp[Builtin.append_,run_underlying Tryz.underlying22,sizeOf,typeInfo,hi,hz1,Builtin.lenOf,h5,Builtin.firstCells,storeCells]
  unfold Oper.wp execOp;simp only[ho,resolve,invoke,builtin,Sem.run_bind,Sem.run_pure,Result.andThen_ok,List.map_toArray,List.map_cons,List.map_nil,hs,hx,hr];exact hK _ _ (h _ _ (by rw[List.append_nil];exact .inr ⟨g,cap,cur,lo,hh,rfl,hBg,h3,h4,h5,h6,h7,h8⟩) (Below.refl _ _ |>.mono hB))
 |some ad=>
  subst hn;by_cases hroom:out.length+bs.length≤cap
  ·refine wpList_plain hgd fun K hK=>?_
   have hr:=sD w 22 o.type i0 5 Tryz.underlying22 hi hz1 g out.length cap lo hh cur h3 (by omega) ad bs.length c (aM bs) (aS bs) hb.news (iM bs) hroom (by rw[aS];omega);rw[aS]at hr;unfold Oper.wp execOp;simp only[ho,resolve,invoke,builtin,Sem.run_bind,Sem.run_pure,Result.andThen_ok,List.map_toArray,List.map_cons,List.map_nil,hs,hx,hr];obtain⟨h9,h10⟩:=oP (bs:=bs) hBg h3 h4 h6 h7 h8 hroom rfl;exact hK _ _ (h _ _ h9 ((Below.refl _ _ |>.mono hB).grown h10 hB fun k hk=>by injection hk with hk;omega))
  ·refine wpList_plain hgd fun K hK=>?_
   have hr:=run_append_grow (P:=Tryz.prog) w 22 o.type 5 i0 (.int .u8 0) Tryz.underlying22 hi hz0 ⟨g,0,none⟩ out.length cap (aM out) (by rw[hz1,aS,Nat.mul_one]) (ji h3 h8 (by omega)).news ad bs.length c (aM bs) (by rw[aS,hz1,Nat.mul_one]) hb.news (by omega) (by omega) (growslice_fits (by omega) (by rw[hz2];omega));unfold Oper.wp execOp;simp only[ho,resolve,invoke,builtin,Sem.run_bind,Sem.run_pure,Result.andThen_ok,List.map_toArray,List.map_cons,List.map_nil,hs,hx,hr];have hge:=grownCap_ge w (out.length+bs.length) cap 5;refine hK _ _ (h _ _ (.inl ⟨?_,.inr ⟨w.heap.size,grownCap w (out.length+bs.length) cap 5,((aM out).toArray++(aM bs).toArray++Builtin.zeroCells (Value.int IntKind.u8 0).cells (grownCap w (out.length+bs.length) cap 5 - (out.length+bs.length))),?_,hB,heap_alloc_new w.drew _,?_,grownCap_le_maxLen w _ _ _ (by unfold maxLen;omega),?_,?_⟩⟩) ((Below.refl _ _ |>.mono hB).drew.alloc hB _))
   ·rw[aS,Nat.mul_one]
   ·rw[List.length_append]
   ·rw[List.length_append];exact hge
   ·have hz:(Value.int IntKind.u8 0).cells.size=1:=rfl
    simp only[Array.size_append,List.size_toArray,size_zeroCells,hz,aS];omega
   ·simp only[Array.toList_append,List.append_assoc]
    rw[←List.append_assoc,ed,List.take_left' (by simp[aS])]
theorem kK {w:World}{ops:Array Oper}{rest:List Oper}{o:Oper}{a:Act}{Q:Exit→Act→World→Prop}(hgd:o.guard=none) (s x:Operand)
 (ho:o.op=.call {callee:=.builtin .append,args:=#[s,x],argTypes:=#[22,9]}) (B:Nat) (v:Value) (out:List UInt8) (hs:a.eval s=v) (hown:OwnM B w v out)
 (S:ByteArray) (bs:List UInt8) (hx:a.eval x=.string S) (hS:S.data.toList=bs) (hl:out.length+bs.length≤70368744177664) (hB:B≤w.heap.size)
 (h:∀v' w',OwnM B w' v' (out++bs)→Below B w w'→wpList Tryz.prog ops Q rest (a.put o.dst v') w'):wpList Tryz.prog ops Q (o :: rest) a w:=by
 rcases hown with hown|⟨g,cap,cur,lo,hh,rfl,hBg,h3,h4,h5,h6,h7,h8⟩
 ·exact rR hgd s x ho B v out hs hown S bs hx hS hl hB fun v' w' h1 h2=>h v' w' (.inl h1) h2
 obtain⟨i0,hi,hz0,hz1,hz2⟩:=eG;subst hS;have hlen:S.data.toList.length=S.size:=Array.length_toList;have e:Lib.strCells S=aM S.data.toList:=rfl;by_cases hroom:out.length+S.size≤cap
 ·refine wpList_plain hgd fun K hK=>?_
  have hr:=sE w 22 9 o.type i0 5 Tryz.underlying22 Tryz.underlying9 hi hz1 g out.length cap lo hh cur h3 (by omega) S hroom (by omega);unfold Oper.wp execOp;simp only[ho,resolve,invoke,builtin,Sem.run_bind,Sem.run_pure,Result.andThen_ok,List.map_toArray,List.map_cons,List.map_nil,hs,hx,hr];obtain⟨h9,h10⟩:=oP (bs:=S.data.toList) hBg h3 h4 h6 h7 h8 (by rw[hlen];exact hroom) rfl;rw[hlen,←e]at h9 h10;exact hK _ _ (h _ _ h9 ((Below.refl _ _ |>.mono hB).grown h10 hB fun k hk=>by injection hk with hk;omega))
 ·refine wpList_plain hgd fun K hK=>?_
  have hr:=Lib.run_append_grow_string (P:=Tryz.prog) w 22 9 o.type 5 i0 (.int .u8 0) Tryz.underlying22 Tryz.underlying9 hi hz0 ⟨g,0,none⟩ out.length cap (aM out) (by rw[hz1,aS,Nat.mul_one]) (ji h3 h8 (by omega)).news S (by omega) (by omega) (growslice_fits (by omega) (by rw[hz2];omega));unfold Oper.wp execOp;simp only[ho,resolve,invoke,builtin,Sem.run_bind,Sem.run_pure,Result.andThen_ok,List.map_toArray,List.map_cons,List.map_nil,hs,hx,hr];have hge:=grownCap_ge w (out.length+S.size) cap 5;rw[e];refine hK _ _ (h _ _ (.inl ⟨?_,.inr ⟨w.heap.size,grownCap w (out.length+S.size) cap 5,((aM out).toArray++(aM S.data.toList).toArray++Builtin.zeroCells (Value.int IntKind.u8 0).cells (grownCap w (out.length+S.size) cap 5 - (out.length+S.size))),?_,hB,heap_alloc_new w.drew _,?_,grownCap_le_maxLen w _ _ _ (by unfold maxLen;omega),?_,?_⟩⟩) ((Below.refl _ _ |>.mono hB).drew.alloc hB _))
  ·rw[aS,Nat.mul_one]
  ·rw[List.length_append,hlen]
  ·rw[List.length_append,hlen];exact hge
  ·have hz:(Value.int IntKind.u8 0).cells.size=1:=rfl
   simp only[Array.size_append,List.size_toArray,size_zeroCells,hz,aS];omega
  ·simp only[Array.toList_append,List.append_assoc]
   rw[←List.append_assoc,ed,List.take_left' (by simp[aS])]
theorem OwnM.out3 {B:Nat}{w:World}{v:Value}{bs:List UInt8}(h:OwnM B w v bs) (hm:bs.length≤maxLen):∃A c,v=.slice A bs.length c∧Byt w A bs∧(A=none→c=0)∧bs.length≤c:=by
 obtain⟨A,c,e,h1,h2⟩:=h.out hm;refine⟨A,c,e,h1,h2,?_⟩;rcases h with h|⟨g,cap,cur,lo,hi,e1,_,_,_,hl,_⟩
 ·rcases h.row.2 with ⟨e1,hn⟩|⟨g,cap,cur,e1,_,_,hnc,_⟩
  ·rw[e]at e1;injection e1 with e1 e2 e3;omega
  ·rw[e]at e1;injection e1 with e1 e2 e3;omega
 ·rw[e]at e1;injection e1 with e1 e2 e3;omega
def xrL:List UInt8:=[120,114,101,102,10]
def hdL:List UInt8:=[48,32,49,10]
def rwL:List UInt8:=[48,48,48,48,48,48,48,48,48,48,32,54,53,53,51,53,32,102,32,10]
def trL:List UInt8:=[116,114,97,105,108,101,114,10]
def awT:List UInt8:=((((xrL++hdL)++rwL)++trL)++kN)++[10]
theorem rL (g:Nat) (w:World) (hT:Tab w) (hg:∀j u,(rv ez)[j]?=some u→w.cell? ⟨g,j,none⟩=some u):Calls Tryz.prog 16 #[.agg #[.int .i64 7,.int .i64 0,.slice none 0 0,.slice none 0 0,.slice none 0 0],.slice (some ⟨g,0,none⟩) 1 1] w fun e w'=>∃A c,e=.returned (.tuple #[.slice A 42 c,.int .i64 0])∧Byt w' A awT∧42≤c∧Below w.heap.size w w':=by
 obtain⟨W1,hW1⟩:∃W,W=w.alloc (.cells #[.int .i64 7,.int .i64 0,.slice none 0 0,.slice none 0 0,.slice none 0 0] 32):=⟨_,rfl⟩;obtain⟨W2,hW2⟩:∃W,W=W1.alloc (.cells #[.int .i64 0,.int .i64 0,.int .i64 0,.int .i64 65535] 64):=⟨_,rfl⟩;have b1:Below w.heap.size w W1:=by rw[hW1];exact (Below.refl _ _).alloc (Nat.le_refl _) _
 have b2:Below W1.heap.size W1 W2:=by rw[hW2];exact (Below.refl _ _).alloc (Nat.le_refl _) _
 have hg1:∀j u,(rv ez)[j]?=some u→W1.cell? ⟨g,j,none⟩=some u:=fun j u h=>(b1.cell (ac (hg j u h))).trans (hg j u h)
 have y0:=hg1 0 _ rfl;have y1:=hg1 1 _ rfl;have y2:=hg1 2 _ rfl;have y3:=hg1 3 _ rfl;simp only[ez]at y0 y1 y2 y3;have hB1:Blk W1 w.heap.size 32 #[.int .i64 7,.int .i64 0,.slice none 0 0,.slice none 0 0,.slice none 0 0]:=by rw[hW1];exact Blk.new w _ _
 obtain⟨c0,c1,c2,c3⟩:=cY hW2;have cm:Calls Tryz.prog 40 #[.agg #[.int .i64 0,.int .i64 0,.int .i64 0,.int .i64 65535]] W2 fun e w'=>e=.returned (.bool true)∧Below W2.heap.size W2 w':=rn ⟨0,0,0,65535⟩ W2
 have cp:=fun W (hW:Below W1.heap.size W1 W)=>qN g 1 W (fun j u h=>(hW.cell (ac (hg1 j u h))).trans (hg1 j u h))
 have cv:=fun W=>tN W
 have hTw:=fun W (hW:Below w.heap.size w W)=>hT.below hW
 refine h8_ hg hg1 hT hTw b1 b2 hB1 cp ?_;clear hg hg1 hT hTw b1 b2 hB1 cp;intro hg hg1 hT hTw b1 b2 hB1 cp;go_enter Tryz.func16,Tryz.ntmps16;go_upto_region 1 with fail
 rw[←hW1];replace hW1:=hi_ hW1;go_wp2
 refine wp_loop_rounds 2 ?_;rw[rounds_succ];go_upto_region 4 with fail
 rw[←hW2];replace hW2:=hi_ hW2;clear y0 y1 y2 y3;go_wp2_with (go_at_call 40;(with_reducible refine cm.mono ?_);rintro e w3 ⟨rfl,hB3⟩;have hD3:=ah b2.out hB3;have cp3:=cp.out w3 hD3;replace hB3:=hi_ hB3;replace hD3:=hi_ hD3;clear cm)
 rw[rounds_succ];go_upto_region 9 with (go_at_call 41;(with_reducible refine cp3.mono ?_);rintro e w4 ⟨gp,gr,cp1,cp2,rfl,hx,hr,hB4⟩;have hD4:=ah hD3.out hB4;have hB14:=hB1.out.below hD4 hB1.out.lt;replace hB4:=hi_ hB4;replace hD4:=hi_ hD4;replace hx:=hi_ hx;replace hr:=hi_ hr;clear cp3)
 obtain⟨f0,f1,f2,f3,f4⟩:w4.cell? ⟨w.heap.size,0,none⟩=some (.int .i64 7)∧w4.cell? ⟨w.heap.size,1,none⟩=some (.int .i64 0)∧w4.cell? ⟨w.heap.size,2,none⟩=some (.slice none 0 0)∧w4.cell? ⟨w.heap.size,3,none⟩=some (.slice none 0 0)∧w4.cell? ⟨w.heap.size,4,none⟩=some (.slice none 0 0):=⟨hB14.cell 0,hB14.cell 1,hB14.cell 2,hB14.cell 3,hB14.cell 4⟩;go_upto_region 12 with (go_at_call 42;(with_reducible refine (cv _).mono ?_);rintro e w5 ⟨A5,c5,rfl,hb5,hA5,hB5⟩;have g0:=(hB5.cell (ac f0)).trans f0;have hD5:=ah hD4.out hB5;replace hB5:=hi_ hB5;replace hD5:=hi_ hD5;replace hb5:=hi_ hb5;replace hA5:=hi_ hA5;clear f0 f1 f2 f3 f4 cv)
 have hx5:=(hB5.out.cell (ac hx.out)).trans hx.out;have hr5:=fun j u h=>(hB5.out.cell (ac (hr.out j u h))).trans (hr.out j u h)
 obtain⟨W6,hW6⟩:∃W,W=w5.alloc (.cells #[.int .u8 120,.int .u8 114,.int .u8 101,.int .u8 102,.int .u8 10] 5 (5,6)):=⟨_,rfl⟩;have cc2:(convert 22 22 (.slice (some ⟨w5.heap.size,0,none⟩) 5 5)).run Tryz.prog (w5.alloc (.cells #[.int .u8 120,.int .u8 114,.int .u8 101,.int .u8 102,.int .u8 10] 5))=.ok (.slice (some ⟨w5.heap.size,0,none⟩) 5 5) W6:=by rw[hW6];exact Lib.run_convert_bytes_const w5 22 5 _ 5 5 Tryz.underlying22 Tryz.underlying5
 have hO6:OwnM w5.heap.size W6 (.slice (some ⟨w5.heap.size,0,none⟩) 5 5) xrL:=.inr ⟨w5.heap.size,5,_,5,6,rfl,Nat.le_refl _,by rw[hW6];exact heap_alloc_new w5 _,Nat.le_refl _,by decide,by decide,rfl,rfl⟩;have hb6:Below w5.heap.size w5 W6:=by rw[hW6];exact (Below.refl _ _).alloc (Nat.le_refl _) _
 have hx6:=(hb6.cell (ac hx5)).trans hx5;have hr6:=fun j u h=>(hb6.cell (ac (hr5 j u h))).trans (hr5 j u h)
 have z0:=hr6 0 _ rfl;have z1:=hr6 1 _ rfl;have z2:=hr6 2 _ rfl;have z3:=hr6 3 _ rfl;simp only[ez]at z0 z1 z2 z3;obtain⟨D1,hD1⟩:∃D:ByteArray,D=⟨#[48]⟩:=⟨_,rfl⟩;obtain⟨D2,hD2⟩:∃D:ByteArray,D=⟨#[49]⟩:=⟨_,rfl⟩;obtain⟨T,hTe⟩:∃D:ByteArray,D=⟨#[48,48,48,48,48,48,48,48,48,48,32,54,53,53,51,53,32,102,32,10]⟩:=⟨_,rfl⟩;obtain⟨S1,q1⟩:∃S,D1++⟨#[32]⟩=S:=⟨_,rfl⟩;obtain⟨S2,q2⟩:∃S,S1++D2=S:=⟨_,rfl⟩;obtain⟨S3,q3⟩:∃S,S2++⟨#[10]⟩=S:=⟨_,rfl⟩;have hS3:S3.data.toList=hdL:=by rw[←q3,←q2,←q1,hD1,hD2];rfl
 have hTl:T.data.toList=rwL:=by rw[hTe];rfl
 have y1:D1.size≤9:=by rw[hD1];decide
 have y2:S1.size≤9:=by rw[←q1,hD1];decide
 have y3:S2.size≤9:=by rw[←q2,←q1,hD1,hD2];decide
 have y4:D2.size≤9:=by rw[hD2];decide
 have k1:∀W,Below w5.heap.size w5 W→Calls Tryz.prog 43 #[.int .i64 0,.int .i64 1] W fun e w'=>e=.returned (.string D1)∧Below W.heap.size W w':=fun W (hW:Below w5.heap.size w5 W)=>ej 0 ⟨by omega,by omega⟩ 1 (by omega) W (hTw.out W (ah (ah b1.out hD5.out) hW)) D1 (hD1.trans (by kernel_rfl))
 have k2:∀W,Below w5.heap.size w5 W→Calls Tryz.prog 43 #[.int .i64 1,.int .i64 1] W fun e w'=>e=.returned (.string D2)∧Below W.heap.size W w':=fun W (hW:Below w5.heap.size w5 W)=>ej 1 ⟨by omega,by omega⟩ 1 (by omega) W (hTw.out W (ah (ah b1.out hD5.out) hW)) D2 (hD2.trans (by kernel_rfl))
 have k3:=fun W (hW:Below w5.heap.size w5 W)=>pE ⟨0,0,0,65535⟩ ⟨⟨by decide,by decide⟩,⟨by decide,by decide⟩,⟨by decide,by decide⟩,⟨by decide,by decide⟩⟩ W (hTw.out W (ah (ah b1.out hD5.out) hW)) T (hTe.trans (by kernel_rfl))
 have hxW:=fun W (hW:Below w5.heap.size w5 W)=>(hW.cell (ac hx5)).trans hx5
 have hrW:=fun W (hW:Below w5.heap.size w5 W) j u h=>(hW.cell (ac (hr5 j u h))).trans (hr5 j u h)
 have k10:=k1 W6 hb6;have hb5W:=fun W (hW:Below w5.heap.size w5 W)=>hb5.out.below hW
 have hn10:=fun W=>bI W (10:UInt8) 5
 refine h9_ hxW hD1 hD2 hTe hS3 hTl hrW hb5W hn10 ?_;clear hxW hD1 hD2 hTe hS3 hTl hrW hb5W hn10;intro hxW hD1 hD2 hTe hS3 hTl hrW hb5W hn10;refine h6_ k1 k2 k3 hW6 hb6 hO6 ?_;clear k1 k2 k3 hW6 hb6 hO6;intro k1 k2 k3 hW6 hb6 hO6;clear hx5 hr5 hr6 c0 c1 c2 c3 g0;go_wp2
 refine wp_loop_rounds 2 ?_;rw[rounds_succ];go_wp2_with (first
  |(go_at_call 43;(with_reducible refine k10.mono ?_);rintro e w7 ⟨rfl,hB7⟩;have hD7:=ah hb6.out hB7;have hx7:=hxW.out w7 hD7;have k20:=k2.out w7 hD7;replace hD7:=hi_ hD7;replace hB7:=hi_ hB7;clear k10)
  |(go_at_call 43;(with_reducible refine k20.mono ?_);rintro e w8 ⟨rfl,hB8⟩;have hB68:=ah hB7.out hB8;have hD8:=ah hD7.out hB8;have hx8:=hxW.out w8 hD8;have hO8:=hO6.out.below hB68;have tok:=hD8.size;replace hD8:=hi_ hD8;replace hB8:=hi_ hB8;replace hB68:=hi_ hB68;replace hO8:=hi_ hO8;clear k20)
  |(at_builtin;refine kK rfl _ _ rfl w5.heap.size _ xrL rfl hO8.out S3 hdL rfl hS3.out (by decide) tok ?_;intro v9 w9 hO9 hB9;have hD9:Below w5.heap.size w5 w9:=hD8.out.trans hB9;replace hO9:=hi_ hO9;replace hB9:=hi_ hB9;replace hD9:=hi_ hD9;clear tok))
 refine wp_loop_rounds 2 ?_;rw[rounds_succ];have hx9:=hxW.out w9 hD9.out;obtain⟨z0,z1,z2,z3⟩:w9.cell? ⟨gr,0,none⟩=some (.int .i64 0)∧w9.cell? ⟨gr,1,none⟩=some (.int .i64 0)∧w9.cell? ⟨gr,2,none⟩=some (.int .i64 0)∧w9.cell? ⟨gr,3,none⟩=some (.int .i64 65535):=⟨hrW.out w9 hD9.out 0 _ rfl,hrW.out w9 hD9.out 1 _ rfl,hrW.out w9 hD9.out 2 _ rfl,hrW.out w9 hD9.out 3 _ rfl⟩;obtain⟨Wa,hWa,ba⟩:=bH w9 64 #[.int .i64 0,.int .i64 0,.int .i64 0,.int .i64 65535];obtain⟨c0,c1,c2,c3⟩:=cY hWa;have hDa:=ah hD9.out ba;have kt:Calls Tryz.prog 44 #[.agg #[.int .i64 0,.int .i64 0,.int .i64 0,.int .i64 65535]] Wa fun e w'=>e=.returned (.string T)∧Below Wa.heap.size Wa w':=k3.out Wa hDa
 have hOa:=hO9.out.below ba;refine h3_ ba hDa hOa ?_;clear ba hDa hOa;intro ba hDa hOa;go_upto_region 20 with fail
 rw[←hWa];replace hWa:=hi_ hWa;clear z0 z1 z2 z3;go_wp2_with (first
  |(go_at_call 44;(with_reducible refine kt.mono ?_);rintro e wb ⟨rfl,hBb⟩;have hDb:=ah hDa.out hBb;have hOb:=hOa.out.below hBb;have tok:=hDb.size;replace hDb:=hi_ hDb;replace hBb:=hi_ hBb;replace hOb:=hi_ hOb;clear kt)
  |(at_builtin;refine kK rfl _ _ rfl w5.heap.size _ (xrL++hdL) rfl hOb.out T rwL rfl hTl.out (by decide) tok ?_;intro vc wc hOc hBc;have hDc:Below w5.heap.size w5 wc:=hDb.out.trans hBc;replace hOc:=hi_ hOc;replace hBc:=hi_ hBc;replace hDc:=hi_ hDc;clear tok))
 rw[rounds_succ];go_wp2
 rw[rounds_succ];have hbc:=hb5W.out wc hDc.out;have zB:=hDc.out.size;replace hbc:=hi_ hbc;go_wp2_with (first
  |(at_builtin;refine kK rfl _ _ rfl w5.heap.size _ ((xrL++hdL)++rwL) rfl hOc.out ⟨#[116,114,97,105,108,101,114,10]⟩ trL rfl rfl (by decide) zB ?_;intro v8 wd hOd hBd;have hDd:Below w5.heap.size w5 wd:=hDc.out.trans hBd;have hbd:=hb5W.out wd hDd;have tok:=hDd.size;replace hBd:=hi_ hBd;replace hDd:=hi_ hDd;replace hOd:=hi_ hOd;replace hbd:=hi_ hbd;clear zB)
  |(at_builtin;refine rP rfl _ _ rfl w5.heap.size _ (((xrL++hdL)++rwL)++trL) rfl hOd.out A5 4 c5 kN rfl rfl hbd.out hA5.out (by decide) tok ?_;intro v9 wf hOf hBf;have hDf:Below w5.heap.size w5 wf:=hDd.out.trans hBf;have hal:Below wf.heap.size wf (wf.alloc (.cells #[.int .u8 10] 5)):=(Below.refl _ _).alloc (Nat.le_refl _) _;have hOf2:=hOf.below hal;have hDf2:=ah hDf hal;have tok2:=hDf2.size;have hbf:Byt (wf.alloc (.cells #[.int .u8 10] 5)) (some ⟨wf.heap.size,0,none⟩) [10]:=hn10.out wf;replace hBf:=hi_ hBf;replace hDf:=hi_ hDf;replace hOf:=hi_ hOf;replace hal:=hi_ hal;replace hOf2:=hi_ hOf2;replace hDf2:=hi_ hDf2;replace hbf:=hi_ hbf;clear tok)
  |(at_builtin;refine rP rfl _ _ rfl w5.heap.size _ ((((xrL++hdL)++rwL)++trL)++kN) rfl hOf2.out (some ⟨wf.heap.size,0,none⟩) 1 1 [10] rfl rfl hbf.out (fun e=>(by cases e)) (by decide) tok2 ?_;intro v10 wg hOg hBg;have hDg:Below w5.heap.size w5 wg:=hDf2.out.trans hBg;replace hBg:=hi_ hBg;replace hDg:=hi_ hDg;replace hOg:=hi_ hOg;clear tok2))
 go_ret2
 obtain⟨A9,c9,rfl,h10,_,h11⟩:=hOg.out.out3 (by decide);exact⟨A9,c9,rfl,h10,h11,ah b1.out (ah hD5.out hDg.out)⟩
end Go.Proofs.YthffpbkndnhlfaaGreatDoor
namespace Go.Wk
open Go
mutual
def bG:Ob→Ob→Bool
 | .mk k n b l d,.mk k' n' b' l' d'=>k == k' && (
  if k=1∨k=2∨k=3∨k=9 then n == n'
  else if k=4∨k=5 then b == b'
  else if k=6 then cV l l'
  else if k=7∨k=8 then (k == 7 || b == b') && cJ d d'
  else true)
def cV:List Ob→List Ob→Bool
 |[],[]=>true
 |o :: r,o' :: r'=>bG o o' && cV r r'
 |[],_ :: _=>false
 |_ :: _,[]=>false
def cJ:List (List UInt8×Ob)→List (List UInt8×Ob)→Bool
 |[],[]=>true
 |e :: r,e' :: r'=>(e.1 == e'.1 && bG e.2 e'.2) && cJ r r'
 |[],_ :: _=>false
 |_ :: _,[]=>false
end
mutual
theorem iI:∀(a b:Ob),bG a b=true→a.show=b.show
 | .mk k n b l d,.mk k' n' b' l' d',h=>by
  simp only[bG,Bool.and_eq_true,beq_iff_eq]at h;obtain⟨rfl,h⟩:=h;have h6:=gV l l';have h7:=gU d d';simp only[Ob.show];by_cases k1:k=1
  ·subst k1;simp at h;simp[h]
  by_cases k2:k=2
  ·subst k2;simp at h;simp[h]
  by_cases k3:k=3
  ·subst k3;simp at h;simp[h]
  by_cases k4:k=4
  ·subst k4;simp at h;simp[h]
  by_cases k5:k=5
  ·subst k5;simp at h;simp[h]
  by_cases k9:k=9
  ·subst k9;simp at h;simp[h]
  by_cases k6:k=6
  ·subst k6;simp at h;simp[h6 h]
  by_cases k78:k=7∨k=8
  ·simp only[k1,k2,k3,k4,k5,k9,k6,k78,or_self,if_false,if_true]at h⊢
   simp at h;rw[h7 h.2]
  ·simp only[k1,k2,k3,k4,k5,k9,k6,k78,if_false]
theorem gV:∀(l l':List Ob),cV l l'=true→∀f,bc f l=bc f l'
 |[],[],_,_=>rfl
 |[],_ :: _,h,_=>by simp[cV]at h
 |_ :: _,[],h,_=>by simp[cV]at h
 |o :: r,o' :: r',h,f=>by
  simp only[cV,Bool.and_eq_true]at h;simp only[bc,iI o o' h.1,gV r r' h.2 false]
theorem gU:∀(l l':List (List UInt8×Ob)),cJ l l'=true→bW l=bW l'
 |[],[],_=>rfl
 |[],_ :: _,h=>by simp[cJ]at h
 |_ :: _,[],h=>by simp[cJ]at h
 |e :: r,e' :: r',h=>by
  simp only[cJ,Bool.and_eq_true,beq_iff_eq]at h;simp only[bW,h.1.1,iI e.2 e'.2 h.1.2,gU r r' h.2]
end
theorem dC {p:UInt8→Bool}:∀{a b s t:List UInt8},a.all p=true→b.all p=true→(∀c r,s=c :: r→p c=false)→(∀c r,t=c :: r→p c=false)→a++s=b++t→a=b∧s=t:=by
 intro a
 induction a with
 |nil=>
  intro b s t _ hb hs _ e;cases b with
  |nil=>exact⟨rfl,e⟩
  |cons y b=>
   have:=hs y (b++t) (by simpa using e);simp at hb;rw[hb.1]at this;cases this
 |cons x a ih=>
  intro b s t ha hb hs ht e;cases b with
  |nil=>
   have:=ht x (a++s) (by simpa using e.symm);simp at ha;rw[ha.1]at this;cases this
  |cons y b=>
   simp only[List.all_cons,Bool.and_eq_true]at ha hb;simp only[List.cons_append]at e;injection e with e1 e2;obtain⟨h1,h2⟩:=ih ha.2 hb.2 hs ht e2;exact⟨by rw[e1,h1],h2⟩
def iU (c:UInt8):Bool:=decide (48≤c.toNat∧c.toNat≤57)
def sj (l:List UInt8):Nat:=l.foldl (fun n c=>10*n+(c.toNat - 48)) 0
theorem gk (u:Nat) (h:u<10):(UInt8.ofNat (48+u)).toNat=48+u:=UInt8.toNat_ofNat_of_lt' (by show _<256;omega)
theorem dl:∀u,(Lib.decDigits u).all iU=true:=by
 intro u
 induction u using Nat.strongRecOn with
 |_ u ih=>
  rw[Lib.decDigits];split
  ·rename_i h
   simp only[List.all_cons,List.all_nil,Bool.and_true,iU,gk u h,decide_eq_true_eq];omega
  ·rename_i h
   simp only[List.all_append,ih (u / 10) (by omega),List.all_cons,List.all_nil,Bool.and_true,Bool.true_and,iU,gk (u % 10) (by omega),decide_eq_true_eq];omega
theorem jy:∀u,sj (Lib.decDigits u)=u:=by
 intro u
 induction u using Nat.strongRecOn with
 |_ u ih=>
  rw[Lib.decDigits];split
  ·rename_i h;unfold sj;simp only[List.foldl_cons,List.foldl_nil,gk u h];omega
  ·rename_i h
   have:=ih (u / 10) (by omega);unfold sj at this⊢;rw[List.foldl_append,this];simp only[List.foldl_cons,List.foldl_nil,gk (u % 10) (by omega)];omega
theorem gj {u v:Nat}(h:Lib.decDigits u=Lib.decDigits v):u=v:=by rw[←jy u,←jy v,h]
theorem jv (u:Nat):∃c r,Lib.decDigits u=c :: r∧iU c=true:=by
 have h:=dl u;cases e:Lib.decDigits u with
 |nil=>
  exfalso
  rw[Lib.decDigits]at e;split at e
  ·cases e
  ·simp at e
 |cons c r=>rw[e]at h;simp at h;exact⟨c,r,rfl,h.1⟩
theorem fS (l:List UInt8) (c:UInt8):∃k,l=Lib.trimRightB l c++List.replicate k c:=by
 unfold Lib.trimRightB;have key:∀m:List UInt8,∃k,m=List.replicate k c++m.dropWhile (·== c):=by
  intro m
  induction m with
  |nil=>exact⟨0,rfl⟩
  |cons x m ih=>
   by_cases hx:x=c
   ·subst hx
    obtain⟨k,hk⟩:=ih;refine⟨k+1,?_⟩;simp only[List.dropWhile_cons,beq_self_eq_true,if_true,List.replicate_succ,List.cons_append];rw[←hk]
   ·refine⟨0,?_⟩
    simp[List.dropWhile_cons,hx]
 obtain⟨k,hk⟩:=key l.reverse;refine⟨k,?_⟩;have:=congrArg List.reverse hk
 simpa using this
theorem pQ {l m:List UInt8}{c:UInt8}(hl:l.length=m.length) (h:Lib.trimRightB l c=Lib.trimRightB m c):l=m:=by
 obtain⟨k,hk⟩:=fS l c;obtain⟨j,hj⟩:=fS m c;rw[h]at hk;have:k=j:=by
  have h1:=congrArg List.length hk;have h2:=congrArg List.length hj;simp at h1 h2;omega
 subst this;exact hk.trans hj.symm
theorem rj (r:Nat) (h:r<100000):(Lib.decDigits (100000+r)).length=6:=by
 have ten:∀u,10≤u→(Lib.decDigits u).length=(Lib.decDigits (u / 10)).length+1:=fun u hu=>by
  rw[Lib.decDigits,dif_neg (by omega)];simp
 rw[ten _ (by omega),ten _ (by omega),ten _ (by omega),ten _ (by omega),ten _ (by omega),Lib.decDigits,dif_pos (by omega)]
 rfl
theorem ma (r:Nat) (h:r<100000):∃p,Lib.decDigits (100000+r)=49 :: p∧p.length=5:=by
 have ten:∀u,10≤u→Lib.decDigits u=Lib.decDigits (u / 10)++[UInt8.ofNat (48+u % 10)]:=fun u hu=>by
  rw[Lib.decDigits,dif_neg (by omega)]
 have h6:=rj r h;rw[ten _ (by omega),ten _ (by omega),ten _ (by omega),ten _ (by omega),ten _ (by omega),Lib.decDigits,dif_pos (by omega)]at h6⊢;have e:(100000+r) / 10 / 10 / 10 / 10 / 10=1:=by omega
 rw[e];refine⟨_,rfl,?_⟩
 rfl
theorem oq {r s:Nat}(hr:r<100000) (hs:s<100000) (h:cU r=cU s):r=s:=by
 obtain⟨p,hp,lp⟩:=ma r hr;obtain⟨q,hq,lq⟩:=ma s hs;unfold cU at h;simp only[hp,hq,List.drop_succ_cons,List.drop_zero]at h;cases p with
 |nil=>simp at lp
 |cons x p=>
  cases q with
  |nil=>simp at lq
  |cons y q=>
   simp only[List.take_succ_cons,List.take_zero,List.drop_succ_cons,List.drop_zero,List.cons_append,List.nil_append]at h;injection h with h1 h2;have:=pQ (by simp at lp lq;omega) h2;have e:Lib.decDigits (100000+r)=Lib.decDigits (100000+s):=by rw[hp,hq,h1,this]
   have:=gj e;omega
def jQ (c:UInt8):Bool:=iU c || c == 45 || c == 46
theorem gm {l:List UInt8}(h:l.all iU=true):l.all jQ=true:=by
 rw[List.all_eq_true]at h⊢;intro x hx;simp[jQ,h x hx]
theorem mK (r:Nat):(cU r).all iU=true:=by
 have h:=dl (100000+r);rw[List.all_eq_true]at h⊢;intro x hx;unfold cU at hx;refine h x ?_;rcases List.mem_append.1 hx with h1|h1
 ·exact List.mem_of_mem_drop (List.mem_of_mem_take h1)
 ·obtain⟨k,hk⟩:=fS (((Lib.decDigits (100000+r)).drop 1).drop 1) 48
  have:x∈((Lib.decDigits (100000+r)).drop 1).drop 1:=by rw[hk];exact List.mem_append_left _ h1
  exact List.mem_of_mem_drop (List.mem_of_mem_drop this)
theorem gt (n:Int) (w:Bool):(cZ n w).all jQ=true:=by
 unfold cZ;split
 ·unfold Lib.itoa
  split
  ·rw[List.all_cons,gm (dl _)];rfl
  ·exact gm (dl _)
 ·rw[List.all_append,List.all_append,List.all_cons,gm (dl _),gm (mK _)]
  split <;> rfl
theorem og {c:UInt8}(h:iU c=true):c≠45∧c≠46:=by
 constructor <;> (rintro rfl;revert h;decide)
theorem qI {n m:Int}{w v:Bool}(h:cZ n w=cZ m v):n=m∧w=v:=by
 have nodot:∀k,(46:UInt8) ∉ cZ k true:=by
  intro k hk;unfold cZ Lib.itoa at hk;simp only[if_true]at hk;have d:=fun u=>List.all_eq_true.1 (dl u) 46
  split at hk
  ·rcases List.mem_cons.1 hk with e|e
   ·cases e
   ·exact absurd (d _ e) (by decide)
  ·exact absurd (d _ hk) (by decide)
 have dot:∀k,(46:UInt8)∈cZ k false:=by intro k;unfold cZ;simp
 have wv:w=v:=by
  cases w <;> cases v
  ·rfl
  ·exact absurd (h▸dot n) (nodot m)
  ·exact absurd (h▸dot m) (nodot n)
  ·rfl
 subst wv;refine⟨?_,rfl⟩
 -- signs
 have first:∀k w,∃c r,cZ k w=c :: r∧(c=45↔k<0):=by
  intro k w;unfold cZ Lib.itoa;have hd:=fun u=>jv u
  cases w with
  |true=>
   simp only[if_true];split
   ·rename_i hk;exact⟨45,_,rfl,by simp[hk]⟩
   ·rename_i hk
    obtain⟨c,r,e,hc⟩:=hd k.toNat;exact⟨c,r,e,⟨fun e2=>absurd e2 (og hc).1,fun h2=>absurd h2 hk⟩⟩
  |false=>
   simp only[Bool.false_eq_true,if_false];split
   ·rename_i hk;exact⟨45,_,rfl,by simp[hk]⟩
   ·rename_i hk
    obtain⟨c,r,e,hc⟩:=hd (k.natAbs / 100000);rw[e];exact⟨c,_,rfl,⟨fun e2=>absurd e2 (og hc).1,fun h2=>absurd h2 hk⟩⟩
 have sg:n<0↔m<0:=by
  obtain⟨c,r,e,hc⟩:=first n w
  obtain⟨c',r',e',hc'⟩:=first m w
  rw[e,e']at h;injection h with h1 _;rw[←hc,←hc',h1]
 cases w with
 |true=>
  unfold cZ Lib.itoa at h;simp only[if_true]at h;by_cases hn:n<0
  ·rw[if_pos hn,if_pos (sg.1 hn)]at h
   injection h with _ h;have:=gj h;have:=sg.1 hn;omega
  ·have hm:¬m<0:=fun h=>hn (sg.2 h)
   rw[if_neg hn,if_neg hm]at h;have:=gj h;omega
 |false=>
  unfold cZ at h;simp only[Bool.false_eq_true,if_false]at h;have h2:Lib.decDigits (n.natAbs / 100000)++(46 :: cU (n.natAbs % 100000))=Lib.decDigits (m.natAbs / 100000)++(46 :: cU (m.natAbs % 100000)):=by
   by_cases hn:n<0
   ·rw[if_pos hn,if_pos (sg.1 hn)]at h
    simpa using h
   ·have hm:¬m<0:=fun h=>hn (sg.2 h)
    rw[if_neg hn,if_neg hm]at h
    simpa using h
  obtain⟨h3,h4⟩:=dC (p:=iU) (dl _) (dl _) (fun c r e=>by injection e with e _;subst e;rfl) (fun c r e=>by injection e with e _;subst e;rfl) h2;injection h4 with _ h4;have e1:=gj h3;have e2:=oq (Nat.mod_lt _ (by omega)) (Nat.mod_lt _ (by omega)) h4;have e3:n.natAbs=m.natAbs:=by omega
  omega
theorem jF {a b:Nat}(ha:a<16) (hb:b<16) (h:eh a=eh b):a=b:=by
 have key:∀a:Fin 16,∀b:Fin 16,eh a.val=eh b.val→a=b:=by decide +kernel
 have:=key ⟨a,ha⟩ ⟨b,hb⟩ h;exact congrArg Fin.val this
theorem et (a:Nat) (h:a<16):bu (eh a)=true∧eh a≠62∧eh a≠60:=by
 have key:∀a:Fin 16,bu (eh a.val)=true∧eh a.val≠62∧eh a.val≠60:=by decide +kernel
 exact key ⟨a,h⟩
theorem iZ (c:UInt8):eQ [c]=[eh (c.toNat / 16),eh (c.toNat % 16)]:=by simp[eQ]
theorem jH {a b:UInt8}(h1:eh (a.toNat / 16)=eh (b.toNat / 16)) (h2:eh (a.toNat % 16)=eh (b.toNat % 16)):a=b:=by
 have ha:=a.toNat_lt;have hb:=b.toNat_lt;have e1:=jF (by omega) (by omega) h1;have e2:=jF (by omega) (by omega) h2;exact UInt8.toNat_inj.1 (by omega)
theorem ox:∀{a b:List UInt8},eQ a=eQ b→a=b:=by
 intro a
 induction a with
 |nil=>
  intro b h;cases b with
  |nil=>rfl
  |cons y b=>simp[eQ]at h
 |cons x a ih=>
  intro b h;cases b with
  |nil=>simp[eQ]at h
  |cons y b=>
   simp only[eQ,List.flatMap_cons,List.cons_append,List.nil_append]at h;injection h with h1 h;injection h with h2 h;rw[jH h1 h2,ih h]
theorem mS (c:UInt8):(dN c).all bu=true:=by
 unfold dN;split
 ·rename_i h;simp[h.2.2.2]
 ·have:=c.toNat_lt
  rw[iZ];simp[(et (c.toNat / 16) (by omega)).1,(et (c.toNat % 16) (by omega)).1]
  decide
theorem ix:∀s:List UInt8,(s.flatMap dN).all bu=true:=by
 intro s
 induction s with
 |nil=>rfl
 |cons x s ih=>rw[List.flatMap_cons,List.all_append,mS,ih];rfl
theorem mU:∀{a b:List UInt8},a.flatMap dN=b.flatMap dN→a=b:=by
 have pos:∀c,∃x r,dN c=x :: r:=fun c=>by unfold dN;split <;> exact⟨_,_,rfl⟩
 intro a
 induction a with
 |nil=>
  intro b h;cases b with
  |nil=>rfl
  |cons y b=>obtain⟨x,r,e⟩:=pos y;simp[e]at h
 |cons x a ih=>
  intro b h;cases b with
  |nil=>obtain⟨y,r,e⟩:=pos x;simp[e]at h
  |cons y b=>
   simp only[List.flatMap_cons]at h;have key:x=y∧a.flatMap dN=b.flatMap dN:=by
    unfold dN at h;rw[iZ,iZ]at h;split at h <;> split at h
    ·simp only[List.cons_append,List.nil_append]at h
     injection h with h1 h2;exact⟨h1,h2⟩
    ·rename_i hx hy
     simp only[List.cons_append,List.nil_append]at h;injection h with h1 _;exact absurd h1 hx.2.2.1
    ·rename_i hx hy
     simp only[List.cons_append,List.nil_append]at h;injection h with h1 _;exact absurd h1.symm hy.2.2.1
    ·simp only[List.cons_append,List.nil_append]at h
     injection h with _ h;injection h with h1 h;injection h with h2 h;exact⟨jH h1 h2,h⟩
   rw[key.1,ih key.2]
def Stop (s:List UInt8):Prop:=∀c r,s=c :: r→c=32∨c=93∨c=47∨c=62
theorem Stop.reg {s:List UInt8}(h:Stop s):∀c r,s=c :: r→bu c=false:=by
 intro c r e;rcases h c r e with rfl|rfl|rfl|rfl <;> decide
theorem Stop.num {s:List UInt8}(h:Stop s):∀c r,s=c :: r→jQ c=false:=by
 intro c r e;rcases h c r e with rfl|rfl|rfl|rfl <;> decide
theorem iu {a b s t:List UInt8}(hs:Stop s) (ht:Stop t) (h:dw a++s=dw b++t):a=b∧s=t:=by
 unfold dw at h;simp only[List.cons_append]at h;injection h with _ h;obtain⟨h1,h2⟩:=dC (ix a) (ix b) hs.reg ht.reg h;exact⟨mU h1,h2⟩
theorem nl {a b s t:List UInt8}(h:eT a++s=eT b++t):a=b∧s=t:=by
 have hexa:∀b:List UInt8,(eQ b).all (fun c=>c !=62)=true:=by
  intro b;unfold eQ
  induction b with
  |nil=>rfl
  |cons x b ih=>
   have:=x.toNat_lt;rw[List.flatMap_cons,List.all_append,ih];simp[(et (x.toNat / 16) (by omega)).2.1,(et (x.toNat % 16) (by omega)).2.1]
 have pl:∀b:List UInt8,b.all jf=true→b.all (fun c=>c !=41)=true:=by
  intro b hb;rw[List.all_eq_true]at hb⊢;intro x hx;have:=hb x hx;unfold jf at this;simp at this;simp[this]
 unfold eT at h;split at h <;> split at h
 ·rename_i ha hb
  simp only[List.cons_append,List.append_assoc,List.nil_append]at h;injection h with _ h;obtain⟨h1,h2⟩:=dC (pl a ha) (pl b hb) (fun c r e=>by injection e with e _;subst e;rfl) (fun c r e=>by injection e with e _;subst e;rfl) h;injection h2 with _ h2;exact⟨h1,h2⟩
 ·simp only[List.cons_append]at h
  injection h with h _;cases h
 ·simp only[List.cons_append]at h
  injection h with h _;cases h
 ·simp only[List.cons_append,List.append_assoc,List.nil_append]at h
  injection h with _ h;obtain⟨h1,h2⟩:=dC (hexa a) (hexa b) (fun c r e=>by injection e with e _;subst e;rfl) (fun c r e=>by injection e with e _;subst e;rfl) h;injection h2 with _ h2;exact⟨ox h1,h2⟩
theorem fm {dep:Nat}{k n:Int}{b:List UInt8}{l:List Ob}{d:List (List UInt8×Ob)}(h:(Ob.mk k n b l d).may dep=true):k=0∨k=1∨k=2∨k=3∨k=4∨k=5∨k=6∨k=7∨k=8∨k=9:=by
 simp only[Ob.may,Bool.and_eq_true]at h;have h:=h.2;by_cases k0:k=0
 ·simp[k0]
 by_cases k1:k=1
 ·simp[k1]
 by_cases k2:k=2
 ·simp[k2]
 by_cases k3:k=3
 ·simp[k3]
 by_cases k4:k=4
 ·simp[k4]
 by_cases k5:k=5
 ·simp[k5]
 by_cases k6:k=6
 ·simp[k6]
 by_cases k7:k=7
 ·simp[k7]
 by_cases k8:k=8
 ·simp[k8]
 by_cases k9:k=9
 ·simp[k9]
 simp[k0,k1,k2,k3,k4,k5,k6,k7,k8,k9]at h
def cls:List UInt8→Nat
 |[]=>20
 |c :: r=>if c=110 then 0 else if c=116∨c=102 then 1 else if c=40 then 4 else if c=47 then 5 else if c=91 then 6 else if c=60 then (if r.head?=some 60 then 7 else 4) else if jQ c=true then 2 else 20
def kc (k:Int):Nat:=if k=0 then 0 else if k=1 then 1 else if k=4 then 4 else if k=5 then 5 else if k=6 then 6 else if k=7 then 7 else 2
theorem jT (n:Int) (w:Bool):∃c r,cZ n w=c :: r∧jQ c=true:=by
 have h:=gt n w;cases e:cZ n w with
 |nil=>
  exfalso
  obtain⟨c,r,e1,_⟩:=jv n.toNat;unfold cZ Lib.itoa at e;cases w with
  |true=>
   simp only[if_true]at e;split at e
   ·cases e
   ·rw[e1]at e;cases e
  |false=>simp at e
 |cons c r=>rw[e]at h;simp only[List.all_cons,Bool.and_eq_true]at h;exact⟨c,r,rfl,h.1⟩
theorem gi {c:UInt8}(r:List UInt8) (h:jQ c=true):cls (c :: r)=2:=by
 have key:∀c:UInt8,jQ c=true→c≠110∧c≠116∧c≠102∧c≠40∧c≠47∧c≠91∧c≠60:=by
  intro c hc;refine⟨?_,?_,?_,?_,?_,?_,?_⟩ <;> (rintro rfl;revert hc;decide)
 have:=key c h;unfold cls;simp[this,h]
theorem dW {dep:Nat}{k n:Int}{b:List UInt8}{l:List Ob}{d:List (List UInt8×Ob)}(h:(Ob.mk k n b l d).may dep=true) (h8:k≠8) (s:List UInt8):cls ((Ob.mk k n b l d).show++s)=kc k:=by
 obtain⟨c1,r1,e1,n1⟩:=jT n true;obtain⟨c2,r2,e2,n2⟩:=jT n false;rcases fm h with rfl|rfl|rfl|rfl|rfl|rfl|rfl|rfl|rfl|rfl
 ·simp[Ob.show,cls,kc]
 ·by_cases hn:n=1 <;> simp[Ob.show,cls,kc,hn]
 ·simp only[Ob.show];simp[e1,gi _ n1,kc]
 ·simp only[Ob.show];simp[e2,gi _ n2,kc]
 ·simp only[Ob.show]
  unfold eT;by_cases hb:b.all jf=true
  ·simp[hb,cls,kc]
  ·simp only[hb]
   have:((eQ b++[62])++s).head?≠some 60:=by
    cases b with
    |nil=>simp[eQ]
    |cons x b=>
     have:=x.toNat_lt;simp[eQ,(et (x.toNat / 16) (by omega)).2.2]
   simp at this;simp[cls,kc,this]
 ·simp[Ob.show,dw,cls,kc]
 ·simp[Ob.show,cls,kc]
 ·simp[Ob.show,cls,kc]
 ·exact absurd rfl h8
 ·simp only[Ob.show];simp[e1,gi _ n1,kc]
def Fol (s:List UInt8):Prop:=Stop s∧∀r,s≠32 :: 48 :: 32 :: 82 :: r
theorem kV {k:Int}(h:kc k=2) (hk:k=0∨k=1∨k=2∨k=3∨k=4∨k=5∨k=6∨k=7∨k=8∨k=9) (h8:k≠8):k=2∨k=3∨k=9:=by
 rcases hk with rfl|rfl|rfl|rfl|rfl|rfl|rfl|rfl|rfl|rfl <;> simp[kc]at h h8⊢
theorem tI {k k':Int}(h:kc k=kc k') (hk:k=0∨k=1∨k=2∨k=3∨k=4∨k=5∨k=6∨k=7∨k=8∨k=9) (hk':k'=0∨k'=1∨k'=2∨k'=3∨k'=4∨k'=5∨k'=6∨k'=7∨k'=8∨k'=9) (h8:k≠8) (h8':k'≠8):k=k'∨kc k=2:=by
 rcases hk with rfl|rfl|rfl|rfl|rfl|rfl|rfl|rfl|rfl|rfl <;> rcases hk' with rfl|rfl|rfl|rfl|rfl|rfl|rfl|rfl|rfl|rfl <;> simp[kc]at h h8 h8'⊢
theorem gM {dep:Nat}{k n:Int}{b:List UInt8}{l:List Ob}{d:List (List UInt8×Ob)}(hk:k=2∨k=3∨k=9) (s:List UInt8) :
 (Ob.mk k n b l d).show++s=cZ n (k !=3)++(if k=9 then 32 :: 48 :: 32 :: 82 :: s else s):=by
 rcases hk with rfl|rfl|rfl <;> simp[Ob.show]
theorem jk {k:Int}{s:List UInt8}(h:Stop s):Stop (if k=9 then 32 :: 48 :: 32 :: 82 :: s else s):=by
 split
 ·intro c r e;injection e with e _;exact .inl e.symm
 ·exact h
theorem la {dep:Nat}{o:Ob}(h:o.may dep=true) (h8:o.kind≠8) {Y:List UInt8}(hY:Stop Y) (hR:∀r,Y≠32 :: 82 :: r) (r:List UInt8):o.show++Y≠48 :: 32 :: 82 :: r:=by
 intro e;obtain⟨k,n,b,l,d⟩:=o;have h8:k≠8:=h8;have hc:=dW h h8 Y;rw[e,gi _ (by decide)]at hc;have hk:=kV hc.symm (fm h) h8;rw[gM (dep:=dep) hk]at e;have e':cZ n (k !=3)++(if k=9 then 32 :: 48 :: 32 :: 82 :: Y else Y)=[48]++(32 :: 82 :: r):=e;obtain⟨_,e2⟩:=dC (gt n _) (by decide) (jk hY).num (fun c r e=>by injection e with e _;subst e;decide) e';split at e2
 ·injection e2 with _ e2
  injection e2 with e2 _;cases e2
 ·exact hR r e2
theorem sq {dep:Nat}{o:Ob}(h:o.may dep=true) (h8:o.kind≠8) (Y r:List UInt8):o.show++Y≠82 :: r:=by
 intro e;obtain⟨k,n,b,l,d⟩:=o;have h8:k≠8:=h8;have hc:=dW h h8 Y;rw[e]at hc;have:cls (82 :: r)=20:=by unfold cls;simp;decide
 rw[this]at hc;unfold kc at hc;split at hc
 ·cases hc
 repeat (first|cases hc|split at hc)
theorem rV {dep:Nat}:∀(l:List Ob),gI dep l=true→∀s,Fol (bc false l++93 :: s)∧∀r,bc false l++93 :: s≠32 :: 82 :: r:=by
 intro l
 induction l with
 |nil=>
  intro _ s;refine⟨⟨fun c r e=>?_,fun r e=>?_⟩,fun r e=>?_⟩
  ·simp[bc]at e;exact .inr (.inl e.1.symm)
  ·simp[bc]at e
  ·simp[bc]at e
 |cons o l ih=>
  intro h s;simp only[gI,Bool.and_eq_true,bne_iff_ne,ne_eq]at h;obtain⟨⟨h8,ho⟩,hl⟩:=h;obtain⟨f1,f2⟩:=ih hl s;have e0:bc false (o :: l)++93 :: s=32 :: (o.show++(bc false l++93 :: s)):=by simp[bc]
  rw[e0];refine⟨⟨fun c r e=>?_,fun r e=>?_⟩,fun r e=>?_⟩
  ·injection e with e _;exact .inl e.symm
  ·injection e with _ e;exact la ho h8 f1.1 f2 r e
  ·injection e with _ e;exact sq ho h8 _ r e
theorem rU:∀(d:List (List UInt8×Ob)) (s:List UInt8),Fol (bW d++62 :: 62 :: s):=by
 intro d s;cases d with
 |nil=>refine⟨fun c r e=>?_,fun r e=>?_⟩ <;> simp[bW]at e;exact .inr (.inr (.inr e.1.symm))
 |cons e d=>refine⟨fun c r e=>?_,fun r e=>?_⟩ <;> simp[bW,dw]at e;exact .inr (.inr (.inl e.1.symm))
mutual
theorem kq:∀(a b:Ob) (dep dep':Nat),a.may dep=true→b.may dep'=true→a.kind≠8→b.kind≠8→∀s t,Fol s→Fol t→a.show++s=b.show++t→bG a b=true∧s=t
 | .mk k n b l d,.mk k' n' b' l' d',dep,dep',ha,hb,h8,h8',s,t,hs,ht,e=>by
  have h8:k≠8:=h8;have h8':k'≠8:=h8';have hka:=fm ha;have hkb:=fm hb;have hc:kc k=kc k':=by rw[←dW ha h8 s,←dW hb h8' t,e]
  by_cases h2:kc k=2
  ·have q1:=kV h2 hka h8
   have q2:=kV (hc▸h2) hkb h8';rw[gM (dep:=dep) q1,gM (dep:=dep') q2]at e;obtain⟨e1,e2⟩:=dC (gt _ _) (gt _ _) (jk hs.1).num (jk ht.1).num e;obtain⟨rfl,ew⟩:=qI e1;have key:k=k'∧s=t:=by
    rcases q1 with rfl|rfl|rfl <;> rcases q2 with rfl|rfl|rfl <;> simp at ew e2
    ·exact⟨rfl,e2⟩
    ·exact absurd e2 (hs.2 t)
    ·exact⟨rfl,e2⟩
    ·exact absurd e2.symm (ht.2 s)
    ·exact⟨rfl,e2⟩
   obtain⟨rfl,rfl⟩:=key;refine⟨?_,rfl⟩;rcases q1 with rfl|rfl|rfl <;> simp[bG]
  ·obtain rfl:k=k':=(tI hc hka hkb h8 h8').resolve_right h2
   rcases hka with rfl|rfl|rfl|rfl|rfl|rfl|rfl|rfl|rfl|rfl
   ·simp[Ob.show]at e;exact⟨by simp[bG],e⟩
   ·have hn:=ha
    have hm:=hb;simp[Ob.may]at hn hm;have hn:n=0∨n=1:=by omega
    have hm:n'=0∨n'=1:=by omega
    rcases hn with rfl|rfl <;> rcases hm with rfl|rfl <;> simp[Ob.show]at e
    ·exact⟨by simp[bG],e⟩
    ·exact⟨by simp[bG],e⟩
   ·exact absurd rfl h2
   ·exact absurd rfl h2
   ·have e:eT b++s=eT b'++t:=by simpa [Ob.show] using e
    obtain⟨rfl,rfl⟩:=nl e;exact⟨by simp[bG],rfl⟩
   ·have e:dw b++s=dw b'++t:=by simpa [Ob.show] using e
    obtain⟨rfl,rfl⟩:=iu hs.1 ht.1 e;exact⟨by simp[bG],rfl⟩
   ·have e:bc true l++93 :: s=bc true l'++93 :: t:=by simpa [Ob.show] using e
    have m1:gI (dep - 1) l=true:=by simp[Ob.may]at ha;exact ha.2.2
    have m2:gI (dep' - 1) l'=true:=by simp[Ob.may]at hb;exact hb.2.2
    obtain⟨h1,h3⟩:=iH l l' _ _ m1 m2 true s t e;exact⟨by simp[bG,h1],h3⟩
   ·have e:bW d++62 :: 62 :: s=bW d'++62 :: 62 :: t:=by simpa [Ob.show] using e
    have m1:kZ (dep - 1) d=true:=by simp[Ob.may]at ha;exact ha.2.2
    have m2:kZ (dep' - 1) d'=true:=by simp[Ob.may]at hb;exact hb.2.2
    obtain⟨h1,h3⟩:=iG d d' _ _ m1 m2 s t e;exact⟨by simp[bG,h1],h3⟩
   ·exact absurd rfl h8
   ·exact absurd rfl h2
theorem iH:∀(l l':List Ob) (dep dep':Nat),gI dep l=true→gI dep' l'=true→∀f s t,bc f l++93 :: s=bc f l'++93 :: t→cV l l'=true∧s=t
 |[],[],_,_,_,_,f,s,t,e=>by simp[bc]at e;exact⟨rfl,e⟩
 |[],o :: r,dep,dep',_,h,f,s,t,e=>by
  exfalso
  simp only[gI,Bool.and_eq_true,bne_iff_ne,ne_eq]at h;cases f with
  |false=>simp[bc]at e
  |true=>
   obtain⟨k,n,b,l,d⟩:=o;have h8:k≠8:=h.1.1;have e:(93:UInt8) :: s=(Ob.mk k n b l d).show++(bc false r++93 :: t):=by simpa [bc] using e
   have hc:=dW h.1.2 h8 (bc false r++93 :: t);rw[←e]at hc;have:cls (93 :: s)=20:=by unfold cls;simp;decide
   rw[this]at hc;unfold kc at hc
   repeat (first|cases hc|split at hc)
 |o :: r,[],dep,dep',h,_,f,s,t,e=>by
  exfalso
  simp only[gI,Bool.and_eq_true,bne_iff_ne,ne_eq]at h;cases f with
  |false=>simp[bc]at e
  |true=>
   obtain⟨k,n,b,l,d⟩:=o;have h8:k≠8:=h.1.1;have e:(Ob.mk k n b l d).show++(bc false r++93 :: s)=(93:UInt8) :: t:=by simpa [bc] using e
   have hc:=dW h.1.2 h8 (bc false r++93 :: s);rw[e]at hc;have:cls (93 :: t)=20:=by unfold cls;simp;decide
   rw[this]at hc;unfold kc at hc
   repeat (first|cases hc|split at hc)
 |o :: r,o' :: r',dep,dep',h,h',f,s,t,e=>by
  simp only[gI,Bool.and_eq_true,bne_iff_ne,ne_eq]at h h';have e:o.show++(bc false r++93 :: s)=o'.show++(bc false r'++93 :: t):=by simpa [bc] using e
  obtain⟨h1,h2⟩:=kq o o' dep dep' h.1.2 h'.1.2 h.1.1 h'.1.1 _ _ (rV r h.2 s).1 (rV r' h'.2 t).1 e;obtain⟨h3,h4⟩:=iH r r' dep dep' h.2 h'.2 false s t h2;exact⟨by simp[cV,h1,h3],h4⟩
theorem iG:∀(l l':List (List UInt8×Ob)) (dep dep':Nat),kZ dep l=true→kZ dep' l'=true→∀s t,bW l++62 :: 62 :: s=bW l'++62 :: 62 :: t→cJ l l'=true∧s=t
 |[],[],_,_,_,_,s,t,e=>by simp[bW]at e;exact⟨rfl,e⟩
 |[],o :: r,_,_,_,h,s,t,e=>by simp[bW,dw]at e
 |o :: r,[],_,_,h,_,s,t,e=>by simp[bW,dw]at e
 |e1 :: r,e2 :: r',dep,dep',h,h',s,t,e=>by
  simp only[kZ,Bool.and_eq_true,bne_iff_ne,ne_eq]at h h';have e:dw e1.1++(32 :: (e1.2.show++(bW r++62 :: 62 :: s)))=dw e2.1++(32 :: (e2.2.show++(bW r'++62 :: 62 :: t))):=by simpa [bW] using e
  have st:∀X:List UInt8,Stop (32 :: X):=fun X c r e=>by injection e with e _;exact .inl e.symm
  obtain⟨k1,k2⟩:=iu (st _) (st _) e;injection k2 with _ k2;obtain⟨h1,h2⟩:=kq e1.2 e2.2 dep dep' h.1.2 h'.1.2 h.1.1.2 h'.1.1.2 _ _ (rU r s) (rU r' t) k2;obtain⟨h3,h4⟩:=iG r r' dep dep' h.2 h'.2 s t h2;exact⟨by simp[cJ,h1,h3,k1],h4⟩
end
end Go.Wk
namespace Go.Wk
open Go
def atS (l l':List Ob) (i:Nat):Bool:=match l[i]?,l'[i]? with
 |some a,some b=>bG a b
 |_,_=>true
def atT (l l':List (List UInt8×Ob)) (i:Nat):Bool:=match l[i]?,l'[i]? with
 |some a,some b=>a.1 == b.1 && bG a.2 b.2
 |_,_=>true
theorem iF:∀(l l':List Ob),l.length≠l'.length→cV l l'=false
 |[],[],h=>absurd rfl h
 |[],_ :: _,_=>rfl
 |_ :: _,[],_=>rfl
 |o :: r,o' :: r',h=>by simp only[cV,iF r r' (fun e=>h (by simp[e])),Bool.and_false]
theorem fQ:∀(l l':List (List UInt8×Ob)),l.length≠l'.length→cJ l l'=false
 |[],[],h=>absurd rfl h
 |[],_ :: _,_=>rfl
 |_ :: _,[],_=>rfl
 |o :: r,o' :: r',h=>by simp only[cJ,fQ r r' (fun e=>h (by simp[e])),Bool.and_false]
theorem jp (n:Nat) (f:Nat→Bool):(List.range (n+1)).all f=(f 0 && (List.range n).all fun i=>f (i+1)):=by
 rw[List.range_succ_eq_map,List.all_cons,List.all_map];rfl
theorem iE:∀(l l':List Ob),l.length=l'.length→cV l l'=(List.range l.length).all (atS l l')
 |[],[],_=>rfl
 |[],_ :: _,h=>by simp at h
 |_ :: _,[],h=>by simp at h
 |o :: r,o' :: r',h=>by
  rw[List.length_cons,jp];simp only[cV];rw[iE r r' (by simpa using h)]
  rfl
theorem fP:∀(l l':List (List UInt8×Ob)),l.length=l'.length→cJ l l'=(List.range l.length).all (atT l l')
 |[],[],_=>rfl
 |[],_ :: _,h=>by simp at h
 |_ :: _,[],h=>by simp at h
 |o :: r,o' :: r',h=>by
  rw[List.length_cons,jp];simp only[cJ];rw[fP r r' (by simpa using h)]
  rfl
end Go.Wk
namespace Go.Proofs.YthffpbkndnhlfaaGreatDoor
open Go Go.RowKit Go.Wk
theorem eP {w W1 W2:World}{v0 v1 v2 v3 v4 u0 u1 u2 u3 u4:Value}(h1:W1=w.alloc (.cells #[v0,v1,v2,v3,v4] 32)) (h2:W2=W1.alloc (.cells #[u0,u1,u2,u3,u4] 32)) :
 (W2.cell? ⟨w.heap.size,0,none⟩=some v0∧W2.cell? ⟨w.heap.size,1,none⟩=some v1∧W2.cell? ⟨w.heap.size,2,none⟩=some v2∧W2.cell? ⟨w.heap.size,3,none⟩=some v3∧W2.cell? ⟨w.heap.size,4,none⟩=some v4)∧
 (W2.cell? ⟨w.heap.size+1,0,none⟩=some u0∧W2.cell? ⟨w.heap.size+1,1,none⟩=some u1∧W2.cell? ⟨w.heap.size+1,2,none⟩=some u2∧W2.cell? ⟨w.heap.size+1,3,none⟩=some u3∧W2.cell? ⟨w.heap.size+1,4,none⟩=some u4):=by
 have f:=ap (cz h1) (W':=W2) (by rw[h2];exact (Below.refl _ _).alloc (Nat.le_refl _) _);have g:=cz h2;rw[show W1.heap.size=w.heap.size+1 by rw[h1,World.size_alloc]]at g;exact⟨f,g⟩
def ii (N:Nat):Prop:=∀(a b:Ob) (vs us:List Value) (w:World),ObAt w a vs→ObAt w b us→a.bulk≤N→b.bulk≤1048576→Calls Tryz.prog 13 #[.agg vs.toArray,.agg us.toArray] w fun e w'=>e=.returned (.bool (bG a b))∧Below w.heap.size w w'
theorem pz (N:Nat) (hN:N≤1048576) (hs:ii N) (n n':Int) (b b':List UInt8) (l l':List Ob) (d d':List (List UInt8×Ob)) (vs us:List Value) (w:World) (h:ObAt w (.mk 6 n b l d) vs) (h':ObAt w (.mk 6 n' b' l' d') us) (hbk:bv l≤N) (hbk':bv l'≤1048576) :
 Calls Tryz.prog 13 #[.agg vs.toArray,.agg us.toArray] w fun e w'=>e=.returned (.bool (cV l l'))∧Below w.heap.size w w':=by
 have zl:=dV l;have zl':=dV l';cases h with
 |mk k n b l d A AL AD c cL cD gL oL gD oD vl vd h1 h2 h3 h4 h5 h6 h7 h8 h9 h10 h11 hA hl hlv h15 h16 h17 h18=>
 cases h' with
 |mk k' n' b' l' d' A' AL' AD' c' cL' cD' gL' oL' gD' oD' vl' vd' i1 i2 i3 i4 i5 i6 i7 i8 i9 i10 i11 hA' hl' hlv' i15 i16 i17 i18=>
 obtain⟨m,hm⟩:∃m,m=l.length:=⟨_,rfl⟩;obtain⟨m',hm'⟩:∃m,m=l'.length:=⟨_,rfl⟩;rw[←hm]at zl⊢;rw[←hm']at zl'⊢;have zm:m≤1048576:=by omega
 have zm':m'≤1048576:=by omega
 obtain⟨W1,hW1⟩:∃W,W=w.alloc (.cells #[.int .i64 6,.int .i64 n,.slice A b.length c,.slice AL m cL,.slice AD d.length cD] 32):=⟨_,rfl⟩;obtain⟨W2,hW2⟩:∃W,W=W1.alloc (.cells #[.int .i64 6,.int .i64 n',.slice A' b'.length c',.slice AL' m' cL',.slice AD' d'.length cD'] 32):=⟨_,rfl⟩;have hb2:Below w.heap.size w W2:=by rw[hW2,hW1];exact ((Below.refl _ _).alloc (Nat.le_refl _) _).alloc (by rw[World.size_alloc];omega) _
 have ff:=eP hW1 hW2;obtain⟨⟨f0,f1,f2,f3,f4⟩,g0,g1,g2,g3,g4⟩:=id ff;obtain⟨E,hE⟩:∃E,E=cV l l':=⟨_,rfl⟩;rw[←hE];have hne:m≠m'→E=false:=fun h=>by rw[hE];exact iF l l' (by omega)
 have hall:m=m'→E=(List.range m).all (atS l l'):=fun h=>by rw[hE,hm];exact iE l l' (by omega)
 clear h1 h2 h3 h4 h5 h6 h7 h8 h9 h10 h11 h15 h16 h17 h18 i1 i2 i3 i4 i5 i6 i7 i8 i9 i10 i11 i15 i16 i17 i18;replace hE:=hi_ hE;replace hm:=hi_ hm;replace hm':=hi_ hm';refine h3_ hA hl hlv ?_;clear hA hl hlv;intro hA hl hlv;replace hA':=hi_ hA';replace hl':=hi_ hl';replace hlv':=hi_ hlv';refine h5_ hs hb2 ff hne hall ?_;clear hs hb2 ff hne hall;intro hs hb2 ff hne hall;go_enter Tryz.func13,Tryz.ntmps13;go_upto_region 1 with (fail)
 rw[←hW1,←hW2];replace hW1:=hi_ hW1;replace hW2:=hi_ hW2;by_cases hmm:m=m'
 ·subst hmm
  have hal2:=hall.out rfl;replace hal2:=hi_ hal2;clear hne hall;go_wp2
  go_loopw [5] (fun s5 wr=>∃k:Nat,k≤m∧s5=.int .i64 k∧(∀j,j<k→atS l l' j=true)∧Below W2.heap.size W2 wr) (fun s5 _=>m - (RowKit.intOf s5).toNat)
  case atStart=>exact⟨0,by omega,rfl,fun j hj=>by omega,Below.refl _ _⟩
  case round=>
   obtain⟨k,hk,rfl,hP,hB⟩:=hrel;have lB:=hB.size;obtain⟨p0,p1,p2,p3,p4⟩:=ap ff.out.1 hB;obtain⟨q0,q1,q2,q3,q4⟩:=ap ff.out.2 hB;by_cases hkm:k<m
   ·have hkl:k<l.length:=by rw[←hm.out];exact hkm
    have hkl':k<l'.length:=by rw[←hm'.out];exact hkm
    have hAe:=hA.out (by omega);have hAe':=hA'.out (by omega);subst hAe hAe';have hbw:Below w.heap.size w wr:=ah hb2.out hB;obtain⟨o,ho⟩:∃o,o=l[k]:=⟨_,rfl⟩;obtain⟨o',ho'⟩:∃o,o=l'[k]:=⟨_,rfl⟩;have hob:=(hl.out k hkl).kept hbw;have hob':=(hl'.out k hkl').kept hbw;have hcv:=hlv.out k hkl;have hcv':=hlv'.out k hkl';rw[←ho]at hob;rw[←ho']at hob';have hzo:o.bulk≤N:=by have:=dG l k hkl;rw[←ho]at this;omega
    have hzo':o'.bulk≤1048576:=by have:=dG l' k hkl';rw[←ho']at this;omega
    obtain⟨us,hus⟩:∃us,us=vl k:=⟨_,rfl⟩;obtain⟨us',hus'⟩:∃us,us=vl' k:=⟨_,rfl⟩;rw[←hus]at hob hcv;rw[←hus']at hob' hcv';obtain⟨en,E1,E2,E3,en1,ec1,en2,ec2,en3,ec3,hys⟩:=ay hob;obtain⟨en',E1',E2',E3',en1',ec1',en2',ec2',en3',ec3',hys'⟩:=ay hob';obtain⟨kk,hkk⟩:∃k,k=o.kind:=⟨_,rfl⟩;obtain⟨kk',hkk'⟩:∃k,k=o'.kind:=⟨_,rfl⟩;rw[←hkk]at hys;rw[←hkk']at hys';subst hys hys';have five:∀j u,[Value.int .i64 kk,.int .i64 en,.slice E1 en1 ec1,.slice E2 en2 ec2,.slice E3 en3 ec3][j]?=some u→wr.cell? ⟨gL,oL+k*5+j,none⟩=some u:=fun j u hj=>by
     have h0:=hcv j (by have:=(List.getElem?_eq_some_iff.1 hj).1;simpa using this);rw[hj]at h0;have h1:=(hbw.cell (ac h0)).trans h0;rw[show oL+(5*k+j)=oL+k*5+j by omega]at h1;exact h1
    have five':∀j u,[Value.int .i64 kk',.int .i64 en',.slice E1' en1' ec1',.slice E2' en2' ec2',.slice E3' en3' ec3'][j]?=some u→wr.cell? ⟨gL',oL'+k*5+j,none⟩=some u:=fun j u hj=>by
     have h0:=hcv' j (by have:=(List.getElem?_eq_some_iff.1 hj).1;simpa using this);rw[hj]at h0;have h1:=(hbw.cell (ac h0)).trans h0;rw[show oL'+(5*k+j)=oL'+k*5+j by omega]at h1;exact h1
    have x0:wr.cell? ⟨gL,oL+k*5,none⟩=some (.int .i64 kk):=five 0 _ rfl;have x1:wr.cell? ⟨gL,oL+k*5+1,none⟩=some (.int .i64 en):=five 1 _ rfl;have x2:wr.cell? ⟨gL,oL+k*5+2,none⟩=some (.slice E1 en1 ec1):=five 2 _ rfl;have x3:wr.cell? ⟨gL,oL+k*5+3,none⟩=some (.slice E2 en2 ec2):=five 3 _ rfl;have x4:wr.cell? ⟨gL,oL+k*5+4,none⟩=some (.slice E3 en3 ec3):=five 4 _ rfl;have y0:wr.cell? ⟨gL',oL'+k*5,none⟩=some (.int .i64 kk'):=five' 0 _ rfl;have y1:wr.cell? ⟨gL',oL'+k*5+1,none⟩=some (.int .i64 en'):=five' 1 _ rfl;have y2:wr.cell? ⟨gL',oL'+k*5+2,none⟩=some (.slice E1' en1' ec1'):=five' 2 _ rfl;have y3:wr.cell? ⟨gL',oL'+k*5+3,none⟩=some (.slice E2' en2' ec2'):=five' 3 _ rfl;have y4:wr.cell? ⟨gL',oL'+k*5+4,none⟩=some (.slice E3' en3' ec3'):=five' 4 _ rfl;have hat:atS l l' k=bG o o':=by unfold atS;rw[List.getElem?_eq_getElem hkl,List.getElem?_eq_getElem hkl',ho,ho']
    have c8:=hs.out o o' _ _ wr.drew (hob.kept ((Below.refl _ _).drew)) (hob'.kept ((Below.refl _ _).drew)) hzo hzo';clear five five' hcv hcv' hob hob' hus hus' hkk hkk';obtain⟨sb,hsb⟩:∃sb,sb=bG o o':=⟨_,rfl⟩;rw[←hsb]at hat c8;replace ho:=hi_ ho;replace ho':=hi_ ho';refine h5_ hsb hB hbw hP hat ?_;clear hsb hB hbw hP hat;intro hsb hB hbw hP hat;cases sb with
    |true=>
     have hP2:∀j,j<k+1→atS l l' j=true:=fun j hj=>by
      by_cases h:j=k
      ·rw[h];exact hat.out
      ·exact hP.out j (by omega)
     replace hP2:=hi_ hP2;go_upto_region 18 with (fail)
     go_region_with (go_at_call 13;(with_reducible refine c8.mono ?_);rintro e w2 ⟨rfl,hB2⟩;have hB2:Below wr.heap.size wr w2:=((Below.refl _ _).drew:Below wr.heap.size wr wr.drew).trans hB2;replace hB2:=hi_ hB2)
     all_goals
      go_wp2
      go_roundw
      case rel=>exact⟨k+1,by omega,by go_num,hP2.out,hB.out.trans (hB2.out.mono lB)⟩
      case measure=>simp[RowKit.intOf];omega
    |false=>
     have hF:E=false:=by
      rw[hal2.out,List.all_eq_false];refine⟨k,List.mem_range.2 hkm,?_⟩;rw[hat.out];decide
     subst hF;go_upto_region 18 with (fail)
     go_region_with (go_at_call 13;(with_reducible refine c8.mono ?_);rintro e w2 ⟨rfl,hB2⟩;have hB2:Below wr.heap.size wr w2:=((Below.refl _ _).drew:Below wr.heap.size wr wr.drew).trans hB2;replace hB2:=hi_ hB2)
     all_goals
      go_wp2
      go_ret
      exact⟨rfl,ah hbw.out hB2.out⟩
   ·obtain rfl:k=m:=by omega
    have hT:E=true:=by
     rw[hal2.out,List.all_eq_true];intro j hj;exact hP j (List.mem_range.1 hj)
    subst hT;have hbw:Below w.heap.size w wr:=ah hb2.out hB;refine h3_ hbw hB hP ?_;clear hbw hB hP;intro hbw hB hP;go_wp2
    go_ret
    exact⟨rfl,hbw.out⟩
 ·have hF:=hne.out hmm
  subst hF;have qm:((m:Int) == (m':Int))=false:=by rw[beq_eq_false_iff_ne];omega
  clear hall;replace hmm:=hi_ hmm;go_wp2
  go_ret
  exact⟨rfl,hb2.out⟩
end Go.Proofs.YthffpbkndnhlfaaGreatDoor
namespace Go.Proofs.YthffpbkndnhlfaaGreatDoor
open Go Go.RowKit Go.Wk
def GU (p q gD oD gD' oD' m cD cD' k:Nat) (K K':ByteArray) (ag ag':Array Value) (kn sb:Bool):Nat→Value→World→Prop:=fun j v w=>match j with
 |0=>v=.pointer (some ⟨p,4,none⟩)
 |1=>v=.slice (some ⟨gD,oD,none⟩) m cD
 |2|8=>v=.int .i64 (k:Int)
 |3|4=>v=.pointer (some ⟨gD,oD+k*6,none⟩)
 |5=>v=.string K
 |6=>v=.pointer (some ⟨q,4,none⟩)
 |7=>v=.slice (some ⟨gD',oD',none⟩) m cD'
 |9|10=>v=.pointer (some ⟨gD',oD'+k*6,none⟩)
 |11=>v=.string K'
 |12|13=>v=.bool kn
 |14=>kn=false→v=.pointer (some ⟨p,4,none⟩)
 |15=>kn=false→v=.slice (some ⟨gD,oD,none⟩) m cD
 |16|22=>kn=false→v=.int .i64 (k:Int)
 |17=>kn=false→v=.pointer (some ⟨gD,oD+k*6,none⟩)
 |18=>kn=false→v=.pointer (some ⟨gD,oD+k*6+1,none⟩)
 |19=>kn=false→v=.agg ag
 |20=>kn=false→v=.pointer (some ⟨q,4,none⟩)
 |21=>kn=false→v=.slice (some ⟨gD',oD',none⟩) m cD'
 |23=>kn=false→v=.pointer (some ⟨gD',oD'+k*6,none⟩)
 |24=>kn=false→v=.pointer (some ⟨gD',oD'+k*6+1,none⟩)
 |25=>kn=false→v=.agg ag'
 |26=>kn=false→v=.bool sb
 |_=>kn=false→v=.bool (!sb)
theorem lH {p q gD oD gD' oD' m cD cD' k:Nat}{K K':ByteArray}{ag ag':Array Value}{kn sb:Bool}(j:Nat) (v:Value) (w w':World) (hG:GU p q gD oD gD' oD' m cD cD' k K K' ag ag' kn sb j v w) (hk:Below w.heap.size w w'):GU p q gD oD gD' oD' m cD cD' k K K' ag ag' kn sb j v w':=by
 unfold GU at hG⊢;split at hG <;> exact hG
theorem fc (a:List UInt8):(bytes a).toList=a:=by
 rw[ByteArray.toList_eq];rfl
theorem im (a b:List UInt8):(a == b)=!(!((bytes a).toList == (bytes b).toList)):=by
 rw[Bool.not_not,fc,fc]
theorem lr (N:Nat) (hN:N≤1048576) (hs:ii N) (n n':Int) (b b':List UInt8) (l l':List Ob) (d d':List (List UInt8×Ob)) (vs us:List Value) (w:World) (h:ObAt w (.mk 7 n b l d) vs) (h':ObAt w (.mk 7 n' b' l' d') us) (hbk:b.length+aI d≤N) (hbk':b'.length+aI d'≤1048576) :
 Calls Tryz.prog 13 #[.agg vs.toArray,.agg us.toArray] w fun e w'=>e=.returned (.bool (cJ d d'))∧Below w.heap.size w w':=by
 have zl:=cH d;have zl':=cH d';have zb1:b.length≤1048576:=by omega
 have zb1':b'.length≤1048576:=by omega
 cases h with
 |mk k n b l d A AL AD c cL cD gL oL gD oD vl vd h1 h2 h3 h4 hB5 h6 h7 h8 h9 h10 h11 h12 h13 h14 hA hl hkey hlv=>
 cases h' with
 |mk k' n' b' l' d' A' AL' AD' c' cL' cD' gL' oL' gD' oD' vl' vd' i1 i2 i3 i4 iB5 i6 i7 i8 i9 i10 i11 i12 i13 i14 hA' hl' hkey' hlv'=>
 obtain⟨m,hm⟩:∃m,m=d.length:=⟨_,rfl⟩;obtain⟨m',hm'⟩:∃m,m=d'.length:=⟨_,rfl⟩;rw[←hm]at zl⊢;rw[←hm']at zl'⊢;have zm:m≤1048576:=by omega
 have zm':m'≤1048576:=by omega
 obtain⟨W1,hW1⟩:∃W,W=w.alloc (.cells #[.int .i64 7,.int .i64 n,.slice A b.length c,.slice AL l.length cL,.slice AD m cD] 32):=⟨_,rfl⟩;obtain⟨W2,hW2⟩:∃W,W=W1.alloc (.cells #[.int .i64 7,.int .i64 n',.slice A' b'.length c',.slice AL' l'.length cL',.slice AD' m' cD'] 32):=⟨_,rfl⟩;have hb2:Below w.heap.size w W2:=by rw[hW2,hW1];exact ((Below.refl _ _).alloc (Nat.le_refl _) _).alloc (by rw[World.size_alloc];omega) _
 have ff:=eP hW1 hW2;obtain⟨⟨f0,f1,f2,f3,f4⟩,g0,g1,g2,g3,g4⟩:=id ff;obtain⟨E,hE⟩:∃E,E=cJ d d':=⟨_,rfl⟩;rw[←hE];have hne:m≠m'→E=false:=fun h=>by rw[hE];exact fQ d d' (by omega)
 have hall:m=m'→E=(List.range m).all (atT d d'):=fun h=>by rw[hE,hm];exact fP d d' (by omega)
 have c7:=gR A A' c c' b b' W2 (hB5.below hb2) (iB5.below hb2) (by omega) (by omega);have hbe:(b == b')=decide (b=b'):=by by_cases h:b=b' <;> simp[h]
 clear hbe c7;clear h1 h2 h3 h4 hB5 h6 h7 h8 h9 h10 h11 h12 h13 h14 i1 i2 i3 i4 iB5 i6 i7 i8 i9 i10 i11 i12 i13 i14;replace hE:=hi_ hE;replace hm:=hi_ hm;replace hm':=hi_ hm';refine h4_ hA hl hlv hkey ?_;clear hA hl hlv hkey;intro hA hl hlv hkey;replace hA':=hi_ hA';replace hl':=hi_ hl';replace hlv':=hi_ hlv';replace hkey':=hi_ hkey';refine h5_ hs hb2 ff hne hall ?_;clear hs hb2 ff hne hall;intro hs hb2 ff hne hall;go_enter Tryz.func13,Tryz.ntmps13;go_upto_region 1 with (fail)
 rw[←hW1,←hW2];replace hW1:=hi_ hW1;replace hW2:=hi_ hW2;by_cases hmm:m=m'
 ·subst hmm
  have hal2:=hall.out rfl;replace hal2:=hi_ hal2;clear hne hall;go_wp2
  go_loopw [6] (fun s6 wr=>∃k:Nat,k≤m∧s6=.int .i64 k∧(∀j,j<k→atT d d' j=true)∧Below W2.heap.size W2 wr) (fun s6 _=>m - (RowKit.intOf s6).toNat)
  case atStart=>exact⟨0,by omega,rfl,fun j hj=>by omega,Below.refl _ _⟩
  case round=>
   obtain⟨k,hk,rfl,hP,hB⟩:=hrel;have lB:=hB.size;obtain⟨p0,p1,p2,p3,p4⟩:=ap ff.out.1 hB;obtain⟨q0,q1,q2,q3,q4⟩:=ap ff.out.2 hB;by_cases hkm:k<m
   ·have hkl:k<d.length:=by rw[←hm.out];exact hkm
    have hkl':k<d'.length:=by rw[←hm'.out];exact hkm
    have hAe:=hA.out (by omega);have hAe':=hA'.out (by omega);subst hAe hAe';have hbw:Below w.heap.size w wr:=ah hb2.out hB;obtain⟨o,ho⟩:∃o,o=d[k]:=⟨_,rfl⟩;obtain⟨o',ho'⟩:∃o,o=d'[k]:=⟨_,rfl⟩;have hob:=(hl.out k hkl).kept hbw;have hob':=(hl'.out k hkl').kept hbw;have hcv:=hlv.out k hkl;have hcv':=hlv'.out k hkl';have hky:=(hkey.out k hkl).2;have hky':=(hkey'.out k hkl').2;rw[←ho]at hob hky;rw[←ho']at hob' hky';have hzo:o.2.bulk≤N:=by have:=bZ d k hkl;rw[←ho]at this;omega
    have hzo':o'.2.bulk≤1048576:=by have:=bZ d' k hkl';rw[←ho']at this;omega
    obtain⟨us,hus⟩:∃us,us=vd k:=⟨_,rfl⟩;obtain⟨us',hus'⟩:∃us,us=vd' k:=⟨_,rfl⟩;rw[←hus]at hob hcv;rw[←hus']at hob' hcv';obtain⟨en,E1,E2,E3,en1,ec1,en2,ec2,en3,ec3,hys⟩:=ay hob;obtain⟨en',E1',E2',E3',en1',ec1',en2',ec2',en3',ec3',hys'⟩:=ay hob';obtain⟨kk,hkk⟩:∃k,k=o.2.kind:=⟨_,rfl⟩;obtain⟨kk',hkk'⟩:∃k,k=o'.2.kind:=⟨_,rfl⟩;rw[←hkk]at hys;rw[←hkk']at hys';subst hys hys';obtain⟨K,hK⟩:∃K,K=bytes o.1:=⟨_,rfl⟩;obtain⟨K',hK'⟩:∃K,K=bytes o'.1:=⟨_,rfl⟩;have kp:∀W,Below wr.heap.size wr W→W.cell? ⟨gD,oD+k*6,none⟩=some (.string K)∧W.cell? ⟨gD',oD'+k*6,none⟩=some (.string K'):=fun W hW=>by
     have h1:=(ah hbw hW).cell (ac hky) |>.trans hky
     have h2:=(ah hbw hW).cell (ac hky') |>.trans hky'
     rw[Nat.mul_comm]at h1 h2;rw[h1,h2,hK,hK'];exact⟨rfl,rfl⟩
    have five:∀W,Below wr.heap.size wr W→∀j u,[Value.int .i64 kk,.int .i64 en,.slice E1 en1 ec1,.slice E2 en2 ec2,.slice E3 en3 ec3][j]?=some u→W.cell? ⟨gD,oD+k*6+1+j,none⟩=some u:=fun W hW j u hj=>by
     have h0:=hcv j (by have:=(List.getElem?_eq_some_iff.1 hj).1;simpa using this);rw[hj]at h0;have h1:=((ah hbw hW).cell (ac h0)).trans h0;rw[show oD+(6*k+1+j)=oD+k*6+1+j by omega]at h1;exact h1
    have five':∀W,Below wr.heap.size wr W→∀j u,[Value.int .i64 kk',.int .i64 en',.slice E1' en1' ec1',.slice E2' en2' ec2',.slice E3' en3' ec3'][j]?=some u→W.cell? ⟨gD',oD'+k*6+1+j,none⟩=some u:=fun W hW j u hj=>by
     have h0:=hcv' j (by have:=(List.getElem?_eq_some_iff.1 hj).1;simpa using this);rw[hj]at h0;have h1:=((ah hbw hW).cell (ac h0)).trans h0;rw[show oD'+(6*k+1+j)=oD'+k*6+1+j by omega]at h1;exact h1
    have zz:∀W,Below wr.heap.size wr W→(W.cell? ⟨w.heap.size,0,none⟩=some (.int .i64 7)∧W.cell? ⟨w.heap.size,1,none⟩=some (.int .i64 n)∧W.cell? ⟨w.heap.size,2,none⟩=some (.slice A b.length c)∧W.cell? ⟨w.heap.size,3,none⟩=some (.slice AL l.length cL)∧W.cell? ⟨w.heap.size,4,none⟩=some (.slice (some ⟨gD,oD,none⟩) m cD))∧
     (W.cell? ⟨w.heap.size+1,0,none⟩=some (.int .i64 7)∧W.cell? ⟨w.heap.size+1,1,none⟩=some (.int .i64 n')∧W.cell? ⟨w.heap.size+1,2,none⟩=some (.slice A' b'.length c')∧W.cell? ⟨w.heap.size+1,3,none⟩=some (.slice AL' l'.length cL')∧W.cell? ⟨w.heap.size+1,4,none⟩=some (.slice (some ⟨gD',oD',none⟩) m cD'))∧
     (W.cell? ⟨gD,oD+k*6,none⟩=some (.string K)∧W.cell? ⟨gD,oD+k*6+1,none⟩=some (.int .i64 kk)∧W.cell? ⟨gD,oD+k*6+2,none⟩=some (.int .i64 en)∧W.cell? ⟨gD,oD+k*6+3,none⟩=some (.slice E1 en1 ec1)∧W.cell? ⟨gD,oD+k*6+4,none⟩=some (.slice E2 en2 ec2)∧W.cell? ⟨gD,oD+k*6+5,none⟩=some (.slice E3 en3 ec3))∧
     (W.cell? ⟨gD',oD'+k*6,none⟩=some (.string K')∧W.cell? ⟨gD',oD'+k*6+1,none⟩=some (.int .i64 kk')∧W.cell? ⟨gD',oD'+k*6+2,none⟩=some (.int .i64 en')∧W.cell? ⟨gD',oD'+k*6+3,none⟩=some (.slice E1' en1' ec1')∧W.cell? ⟨gD',oD'+k*6+4,none⟩=some (.slice E2' en2' ec2')∧W.cell? ⟨gD',oD'+k*6+5,none⟩=some (.slice E3' en3' ec3')):=fun W hW=>
     ⟨ap ff.out.1 (ah hB hW),ap ff.out.2 (ah hB hW),⟨(kp W hW).1,five W hW 0 _ rfl,five W hW 1 _ rfl,five W hW 2 _ rfl,five W hW 3 _ rfl,five W hW 4 _ rfl⟩,(kp W hW).2,five' W hW 0 _ rfl,five' W hW 1 _ rfl,five' W hW 2 _ rfl,five' W hW 3 _ rfl,five' W hW 4 _ rfl⟩
    have hat:atT d d' k=(o.1 == o'.1 && bG o.2 o'.2):=by unfold atT;rw[List.getElem?_eq_getElem hkl,List.getElem?_eq_getElem hkl',ho,ho']
    have c8:=fun W (hW:Below wr.heap.size wr W)=>hs.out o.2 o'.2 _ _ W (hob.kept hW) (hob'.kept hW) hzo hzo'
    obtain⟨kn,hkn⟩:∃kn,(!(K.toList == K'.toList))=kn:=⟨_,rfl⟩;have hkn3:(o.1 == o'.1)=!kn:=by rw[←hkn,hK,hK'];exact im _ _
    obtain⟨sb,hsb⟩:∃sb,sb=bG o.2 o'.2:=⟨_,rfl⟩;rw[←hsb,hkn3]at hat;rw[←hsb]at c8;clear five five' hcv hcv' hob hob' hus hus' hkk hkk' kp hky hky' hkn3 hzo hzo';replace ho:=hi_ ho;replace ho':=hi_ ho';replace hK:=hi_ hK;replace hK':=hi_ hK';refine h7_ hsb hB hbw hP hat zz c8 ?_;clear hsb hB hbw hP hat zz c8;intro hsb hB hbw hP hat zz c8;go_upto_region 27 with (fail)
    refine aL (by kernel_rfl) [none,none,none,none,none,none,none,none,none,none,none,none,none,none,none,none,none,none,none,none,none,none,none,none,none,none,none,none,none,none,none,none,none,none,none,none,none,none,none,none,none,none,none,none,none,none,none,none,none,none,none,none,none,none,none,none,none,none,none,none,none,none,none,none,none,none,none,none,none,none,none,none,none,none,none,none,none,none,none,none,none,none,none,none,none,none,none,none,none,none,some 0,some 1,some 2,some 3,some 4,some 5,some 6,some 7,some 8,some 9,some 10,some 11,some 12,some 13,some 14,some 15,some 16,some 17,some 18,some 19,some 20,some 21,some 22,some 23,some 24,some 25,some 26,some 27,none] (fun w'=>Below wr.heap.size wr w') (fun w' w''=>Below w'.heap.size w' w'') (GU w.heap.size (w.heap.size+1) gD oD gD' oD' m cD cD' k K K' #[.int .i64 kk,.int .i64 en,.slice E1 en1 ec1,.slice E2 en2 ec2,.slice E3 en3 ec3] #[.int .i64 kk',.int .i64 en',.slice E1' en1' ec1',.slice E2' en2' ec2',.slice E3' en3' ec3'] kn sb) (by rfl) (by kernel_rfl) 28 _ rfl (by decide) (by kernel_rfl) [1,3,3,4,5,12,7,9,9,10,11,12,13,28,15,17,17,18,19,26,21,23,23,24,25,26,27,28,0] (by kernel_rfl) ?hR ?mono (.cons 27 (ab [26,13] rfl (by kernel_rfl) ?s27) (.cons 26 (ab [19,25,13] rfl (by kernel_rfl) ?s26) (.cons 25 (ab [24,13] rfl (by kernel_rfl) ?s25) (.cons 24 (ab [23,13] rfl (by kernel_rfl) ?s24) (.cons 23 (ab [21,22,13] rfl (by kernel_rfl) ?s23) (.cons 22 (ab [13] rfl (by kernel_rfl) ?s22) (.cons 21 (ab [20,13] rfl (by kernel_rfl) ?s21) (.cons 20 (ab [13] rfl (by kernel_rfl) ?s20) (.cons 19 (ab [18,13] rfl (by kernel_rfl) ?s19) (.cons 18 (ab [17,13] rfl (by kernel_rfl) ?s18) (.cons 17 (ab [15,16,13] rfl (by kernel_rfl) ?s17) (.cons 16 (ab [13] rfl (by kernel_rfl) ?s16) (.cons 15 (ab [14,13] rfl (by kernel_rfl) ?s15) (.cons 14 (ab [13] rfl (by kernel_rfl) ?s14) (.cons 13 (ab [12] rfl (by kernel_rfl) ?s13) (.cons 12 (ab [5,11] rfl (by kernel_rfl) ?s12) (.cons 11 (ab [10] rfl (by kernel_rfl) ?s11) (.cons 10 (ab [9] rfl (by kernel_rfl) ?s10) (.cons 9 (ab [7,8] rfl (by kernel_rfl) ?s9) (.cons 8 (ab [] rfl (by kernel_rfl) ?s8) (.cons 7 (ab [6] rfl (by kernel_rfl) ?s7) (.cons 6 (ab [] rfl (by kernel_rfl) ?s6) (.cons 5 (ab [4] rfl (by kernel_rfl) ?s5) (.cons 4 (ab [3] rfl (by kernel_rfl) ?s4) (.cons 3 (ab [1,2] rfl (by kernel_rfl) ?s3) (.cons 2 (ab [] rfl (by kernel_rfl) ?s2) (.cons 1 (ab [0] rfl (by kernel_rfl) ?s1) (.cons 0 (ab [] rfl (by kernel_rfl) ?s0) (.nil))))))))))))))))))))))))))))) ?done
    case hR=>exact (Below.refl _ _).drew
    case mono=>exact lH
    case done=>
     intro x w4 hR2 hG fr hfr;have e13:=hG 13 (by omega);have e27:=hG 27 (by omega);simp only[GU]at e13 e27;clear hG;simp only[ai]at hfr;rw[e13]at hfr;replace hR2:=hi_ hR2;cases kn with
     |true=>
      have hF:E=false:=by
       rw[hal2.out,List.all_eq_false];refine⟨k,List.mem_range.2 hkm,?_⟩;rw[hat.out];simp
      subst hfr;clear e27;go_wp2
      go_ret
      exact⟨by first|rfl|(rw[hF];rfl),ah hbw.out hR2.out⟩
     |false=>
      rw[e27 rfl]at hfr;subst hfr;clear e27;cases sb with
      |true=>
       have hP2:∀j,j<k+1→atT d d' j=true:=fun j hj=>by
        by_cases h:j=k
        ·rw[h];exact hat.out
        ·exact hP.out j (by omega)
       replace hP2:=hi_ hP2;go_wp2
       go_roundw
       case rel=>exact⟨k+1,by omega,by go_num,hP2.out,hB.out.trans (hR2.out.mono lB)⟩
       case measure=>simp[RowKit.intOf];omega
      |false=>
       have hF:E=false:=by
        rw[hal2.out,List.all_eq_false];refine⟨k,List.mem_range.2 hkm,?_⟩;rw[hat.out];simp
       go_wp2
       go_ret
       exact⟨by first|rfl|(rw[hF];rfl),ah hbw.out hR2.out⟩
    case' s0|s1|s2|s3|s4|s5|s6|s7|s8|s9|s10|s11|s12|s13|s14|s15|s16|s17|s18|s19|s20|s21|s22|s23|s24|s25|s26|s27=>
     intro x w' hRw hd K9 hK;simp only[All,GU]at hd;simp +decide only[upd,GU,ai,if_true,if_false]at hK⊢
    case s0=>
     obtain⟨_⟩:=hd;go_simp;have hK2:=hK _ _ ⟨hRw,Below.refl _ _,rfl⟩;exact hK2
    case s1=>
     obtain⟨e0,_⟩:=hd;obtain⟨⟨z0,z1,z2,z3,z4⟩,⟨t0,t1,t2,t3,t4⟩,⟨x0,x1,x2,x3,x4,x5⟩,y0,y1,y2,y3,y4,y5⟩:=zz.out w' hRw;simp only[e0]at hK⊢;go_simp;have hK2:=hK _ _ ⟨hRw,Below.refl _ _,rfl⟩;exact hK2
    case s2=>
     obtain⟨_⟩:=hd;go_simp;have hK2:=hK _ _ ⟨hRw,Below.refl _ _,rfl⟩;exact hK2
    case s3=>
     obtain⟨e1,e2,_⟩:=hd;simp only[e1,e2]at hK⊢;go_simp;have hK2:=hK _ _ ⟨hRw,Below.refl _ _,rfl⟩;exact hK2
    case s4=>
     obtain⟨e3,_⟩:=hd;simp only[e3]at hK⊢;go_simp;have hK2:=hK _ _ ⟨hRw,Below.refl _ _,rfl⟩;exact hK2
    case s5=>
     obtain⟨e4,_⟩:=hd;obtain⟨⟨z0,z1,z2,z3,z4⟩,⟨t0,t1,t2,t3,t4⟩,⟨x0,x1,x2,x3,x4,x5⟩,y0,y1,y2,y3,y4,y5⟩:=zz.out w' hRw;simp only[e4]at hK⊢;go_simp;have hK2:=hK _ _ ⟨hRw,Below.refl _ _,rfl⟩;exact hK2
    case s6=>
     obtain⟨_⟩:=hd;go_simp;have hK2:=hK _ _ ⟨hRw,Below.refl _ _,rfl⟩;exact hK2
    case s7=>
     obtain⟨e6,_⟩:=hd;obtain⟨⟨z0,z1,z2,z3,z4⟩,⟨t0,t1,t2,t3,t4⟩,⟨x0,x1,x2,x3,x4,x5⟩,y0,y1,y2,y3,y4,y5⟩:=zz.out w' hRw;simp only[e6]at hK⊢;go_simp;have hK2:=hK _ _ ⟨hRw,Below.refl _ _,rfl⟩;exact hK2
    case s8=>
     obtain⟨_⟩:=hd;go_simp;have hK2:=hK _ _ ⟨hRw,Below.refl _ _,rfl⟩;exact hK2
    case s9=>
     obtain⟨e7,e8,_⟩:=hd;simp only[e7,e8]at hK⊢;go_simp;have hK2:=hK _ _ ⟨hRw,Below.refl _ _,rfl⟩;exact hK2
    case s10=>
     obtain⟨e9,_⟩:=hd;simp only[e9]at hK⊢;go_simp;have hK2:=hK _ _ ⟨hRw,Below.refl _ _,rfl⟩;exact hK2
    case s11=>
     obtain⟨e10,_⟩:=hd;obtain⟨⟨z0,z1,z2,z3,z4⟩,⟨t0,t1,t2,t3,t4⟩,⟨x0,x1,x2,x3,x4,x5⟩,y0,y1,y2,y3,y4,y5⟩:=zz.out w' hRw;simp only[e10]at hK⊢;go_simp;have hK2:=hK _ _ ⟨hRw,Below.refl _ _,rfl⟩;exact hK2
    case s12=>
     obtain⟨e5,e11,_⟩:=hd;simp only[e5,e11]at hK⊢;go_simp
     try simp only[hkn]
     have hK2:=hK _ _ ⟨hRw,Below.refl _ _,rfl⟩;exact hK2
    case s13=>
     obtain⟨e12,_⟩:=hd;simp only[e12]at hK⊢;go_simp;have hK2:=hK _ _ ⟨hRw,Below.refl _ _,rfl⟩;exact hK2
    case s14=>
     obtain⟨e13,_⟩:=hd;simp only[e13]at hK⊢;cases kn with
     |true=>
      go_simp;have hK2:=hK undef _ ⟨hRw,Below.refl _ _,fun h=>by cases h⟩;exact hK2
     |false=>
      go_simp;have hK2:=hK _ _ ⟨hRw,Below.refl _ _,fun _=>rfl⟩;exact hK2
    case s15=>
     obtain⟨e14,e13,_⟩:=hd;obtain⟨⟨z0,z1,z2,z3,z4⟩,⟨t0,t1,t2,t3,t4⟩,⟨x0,x1,x2,x3,x4,x5⟩,y0,y1,y2,y3,y4,y5⟩:=zz.out w' hRw;simp only[e13]at hK⊢;cases kn with
     |true=>
      go_simp;have hK2:=hK undef _ ⟨hRw,Below.refl _ _,fun h=>by cases h⟩;exact hK2
     |false=>
      simp only[e14 rfl]at hK⊢;go_simp;have hK2:=hK _ _ ⟨hRw,Below.refl _ _,fun _=>rfl⟩;exact hK2
    case s16=>
     obtain⟨e13,_⟩:=hd;simp only[e13]at hK⊢;cases kn with
     |true=>
      go_simp;have hK2:=hK undef _ ⟨hRw,Below.refl _ _,fun h=>by cases h⟩;exact hK2
     |false=>
      go_simp;have hK2:=hK _ _ ⟨hRw,Below.refl _ _,fun _=>rfl⟩;exact hK2
    case s17=>
     obtain⟨e15,e16,e13,_⟩:=hd;simp only[e13]at hK⊢;cases kn with
     |true=>
      go_simp;have hK2:=hK undef _ ⟨hRw,Below.refl _ _,fun h=>by cases h⟩;exact hK2
     |false=>
      simp only[e15 rfl,e16 rfl]at hK⊢;go_simp;have hK2:=hK _ _ ⟨hRw,Below.refl _ _,fun _=>rfl⟩;exact hK2
    case s18=>
     obtain⟨e17,e13,_⟩:=hd;simp only[e13]at hK⊢;cases kn with
     |true=>
      go_simp;have hK2:=hK undef _ ⟨hRw,Below.refl _ _,fun h=>by cases h⟩;exact hK2
     |false=>
      simp only[e17 rfl]at hK⊢;go_simp;have hK2:=hK _ _ ⟨hRw,Below.refl _ _,fun _=>rfl⟩;exact hK2
    case s19=>
     obtain⟨e18,e13,_⟩:=hd;obtain⟨⟨z0,z1,z2,z3,z4⟩,⟨t0,t1,t2,t3,t4⟩,⟨x0,x1,x2,x3,x4,x5⟩,y0,y1,y2,y3,y4,y5⟩:=zz.out w' hRw;simp only[e13]at hK⊢;cases kn with
     |true=>
      go_simp;have hK2:=hK undef _ ⟨hRw,Below.refl _ _,fun h=>by cases h⟩;exact hK2
     |false=>
      simp only[e18 rfl]at hK⊢;go_simp;have hK2:=hK _ _ ⟨hRw,Below.refl _ _,fun _=>rfl⟩;exact hK2
    case s20=>
     obtain⟨e13,_⟩:=hd;simp only[e13]at hK⊢;cases kn with
     |true=>
      go_simp;have hK2:=hK undef _ ⟨hRw,Below.refl _ _,fun h=>by cases h⟩;exact hK2
     |false=>
      go_simp;have hK2:=hK _ _ ⟨hRw,Below.refl _ _,fun _=>rfl⟩;exact hK2
    case s21=>
     obtain⟨e20,e13,_⟩:=hd;obtain⟨⟨z0,z1,z2,z3,z4⟩,⟨t0,t1,t2,t3,t4⟩,⟨x0,x1,x2,x3,x4,x5⟩,y0,y1,y2,y3,y4,y5⟩:=zz.out w' hRw;simp only[e13]at hK⊢;cases kn with
     |true=>
      go_simp;have hK2:=hK undef _ ⟨hRw,Below.refl _ _,fun h=>by cases h⟩;exact hK2
     |false=>
      simp only[e20 rfl]at hK⊢;go_simp;have hK2:=hK _ _ ⟨hRw,Below.refl _ _,fun _=>rfl⟩;exact hK2
    case s22=>
     obtain⟨e13,_⟩:=hd;simp only[e13]at hK⊢;cases kn with
     |true=>
      go_simp;have hK2:=hK undef _ ⟨hRw,Below.refl _ _,fun h=>by cases h⟩;exact hK2
     |false=>
      go_simp;have hK2:=hK _ _ ⟨hRw,Below.refl _ _,fun _=>rfl⟩;exact hK2
    case s23=>
     obtain⟨e21,e22,e13,_⟩:=hd;simp only[e13]at hK⊢;cases kn with
     |true=>
      go_simp;have hK2:=hK undef _ ⟨hRw,Below.refl _ _,fun h=>by cases h⟩;exact hK2
     |false=>
      simp only[e21 rfl,e22 rfl]at hK⊢;go_simp;have hK2:=hK _ _ ⟨hRw,Below.refl _ _,fun _=>rfl⟩;exact hK2
    case s24=>
     obtain⟨e23,e13,_⟩:=hd;simp only[e13]at hK⊢;cases kn with
     |true=>
      go_simp;have hK2:=hK undef _ ⟨hRw,Below.refl _ _,fun h=>by cases h⟩;exact hK2
     |false=>
      simp only[e23 rfl]at hK⊢;go_simp;have hK2:=hK _ _ ⟨hRw,Below.refl _ _,fun _=>rfl⟩;exact hK2
    case s25=>
     obtain⟨e24,e13,_⟩:=hd;obtain⟨⟨z0,z1,z2,z3,z4⟩,⟨t0,t1,t2,t3,t4⟩,⟨x0,x1,x2,x3,x4,x5⟩,y0,y1,y2,y3,y4,y5⟩:=zz.out w' hRw;simp only[e13]at hK⊢;cases kn with
     |true=>
      go_simp;have hK2:=hK undef _ ⟨hRw,Below.refl _ _,fun h=>by cases h⟩;exact hK2
     |false=>
      simp only[e24 rfl]at hK⊢;go_simp;have hK2:=hK _ _ ⟨hRw,Below.refl _ _,fun _=>rfl⟩;exact hK2
    case s26=>
     obtain⟨e19,e25,e13,_⟩:=hd;simp only[e13]at hK⊢;cases kn with
     |true=>
      go_simp;have hK2:=hK undef _ ⟨hRw,Below.refl _ _,fun h=>by cases h⟩;exact hK2
     |false=>
      simp only[e19 rfl,e25 rfl]at hK⊢;go_simp;refine (c8.out w' hRw).mono ?_;rintro e' w9 ⟨rfl,hB9⟩;have hK2:=hK _ _ ⟨ah hRw hB9,hB9,fun _=>rfl⟩;exact hK2
    case s27=>
     obtain⟨e26,e13,_⟩:=hd;simp only[e13]at hK⊢;cases kn with
     |true=>
      go_simp;have hK2:=hK undef _ ⟨hRw,Below.refl _ _,fun h=>by cases h⟩;exact hK2
     |false=>
      simp only[e26 rfl]at hK⊢;go_simp;have hK2:=hK _ _ ⟨hRw,Below.refl _ _,fun _=>rfl⟩;exact hK2
   ·obtain rfl:k=m:=by omega
    have hT:E=true:=by
     rw[hal2.out,List.all_eq_true];intro j hj;exact hP j (List.mem_range.1 hj)
    subst hT;have hbw:Below w.heap.size w wr:=ah hb2.out hB;refine h3_ hbw hB hP ?_;clear hbw hB hP;intro hbw hB hP;go_wp2
    go_ret
    exact⟨rfl,hbw.out⟩
 ·have hF:=hne.out hmm
  subst hF;have qm:((m:Int) == (m':Int))=false:=by rw[beq_eq_false_iff_ne];omega
  have qm2:((m:Int) !=(m':Int))=true:=by rw[bne,qm];rfl
  clear hall;replace hmm:=hi_ hmm;go_wp2
  go_ret
  exact⟨rfl,hb2.out⟩
theorem lu (N:Nat) (hN:N≤1048576) (hs:ii N) (n n':Int) (b b':List UInt8) (l l':List Ob) (d d':List (List UInt8×Ob)) (vs us:List Value) (w:World) (h:ObAt w (.mk 8 n b l d) vs) (h':ObAt w (.mk 8 n' b' l' d') us) (hbk:b.length+aI d≤N) (hbk':b'.length+aI d'≤1048576) :
 Calls Tryz.prog 13 #[.agg vs.toArray,.agg us.toArray] w fun e w'=>e=.returned (.bool ((b == b') && cJ d d'))∧Below w.heap.size w w':=by
 have zl:=cH d;have zl':=cH d';have zb1:b.length≤1048576:=by omega
 have zb1':b'.length≤1048576:=by omega
 cases h with
 |mk k n b l d A AL AD c cL cD gL oL gD oD vl vd h1 h2 h3 h4 hB5 h6 h7 h8 h9 h10 h11 h12 h13 h14 hA hl hkey hlv=>
 cases h' with
 |mk k' n' b' l' d' A' AL' AD' c' cL' cD' gL' oL' gD' oD' vl' vd' i1 i2 i3 i4 iB5 i6 i7 i8 i9 i10 i11 i12 i13 i14 hA' hl' hkey' hlv'=>
 obtain⟨m,hm⟩:∃m,m=d.length:=⟨_,rfl⟩;obtain⟨m',hm'⟩:∃m,m=d'.length:=⟨_,rfl⟩;rw[←hm]at zl⊢;rw[←hm']at zl'⊢;have zm:m≤1048576:=by omega
 have zm':m'≤1048576:=by omega
 obtain⟨W1,hW1⟩:∃W,W=w.alloc (.cells #[.int .i64 8,.int .i64 n,.slice A b.length c,.slice AL l.length cL,.slice AD m cD] 32):=⟨_,rfl⟩;obtain⟨W2,hW2⟩:∃W,W=W1.alloc (.cells #[.int .i64 8,.int .i64 n',.slice A' b'.length c',.slice AL' l'.length cL',.slice AD' m' cD'] 32):=⟨_,rfl⟩;have hb2:Below w.heap.size w W2:=by rw[hW2,hW1];exact ((Below.refl _ _).alloc (Nat.le_refl _) _).alloc (by rw[World.size_alloc];omega) _
 have ff:=eP hW1 hW2;obtain⟨⟨f0,f1,f2,f3,f4⟩,g0,g1,g2,g3,g4⟩:=id ff;obtain⟨E,hE⟩:∃E,E=cJ d d':=⟨_,rfl⟩;rw[←hE];have hne:m≠m'→E=false:=fun h=>by rw[hE];exact fQ d d' (by omega)
 have hall:m=m'→E=(List.range m).all (atT d d'):=fun h=>by rw[hE,hm];exact fP d d' (by omega)
 have c7:=gR A A' c c' b b' W2 (hB5.below hb2) (iB5.below hb2) (by omega) (by omega);have hbe:(b == b')=decide (b=b'):=by by_cases h:b=b' <;> simp[h]
 rw[hbe];clear hbe;obtain⟨bb,hbb⟩:∃z,z=decide (b=b'):=⟨_,rfl⟩;rw[←hbb]at c7⊢;replace hbb:=hi_ hbb;clear h1 h2 h3 h4 hB5 h6 h7 h8 h9 h10 h11 h12 h13 h14 i1 i2 i3 i4 iB5 i6 i7 i8 i9 i10 i11 i12 i13 i14;replace hE:=hi_ hE;replace hm:=hi_ hm;replace hm':=hi_ hm';refine h4_ hA hl hlv hkey ?_;clear hA hl hlv hkey;intro hA hl hlv hkey;replace hA':=hi_ hA';replace hl':=hi_ hl';replace hlv':=hi_ hlv';replace hkey':=hi_ hkey';refine h5_ hs hb2 ff hne hall ?_;clear hs hb2 ff hne hall;intro hs hb2 ff hne hall;cases bb with
 |false=>
  rw[Bool.false_and];go_enter Tryz.func13,Tryz.ntmps13;go_upto_region 1 with (fail)
  rw[←hW1,←hW2];replace hW1:=hi_ hW1;replace hW2:=hi_ hW2;by_cases hmm:m=m'
  ·subst hmm
   clear hne hall;go_wp2_with (go_at_call 23;(with_reducible refine c7.mono ?_);rintro e w3 ⟨rfl,hB3⟩;replace hB3:=hi_ hB3)
   go_ret
   exact⟨rfl,ah hb2.out hB3.out⟩
  ·have qm:((m:Int) == (m':Int))=false:=by rw[beq_eq_false_iff_ne];omega
   have qm2:((m:Int) !=(m':Int))=true:=by rw[bne,qm];rfl
   replace hmm:=hi_ hmm;go_wp2
   go_ret
   exact⟨rfl,hb2.out⟩
 |true=>
 rw[Bool.true_and];go_enter Tryz.func13,Tryz.ntmps13;go_upto_region 1 with (fail)
 rw[←hW1,←hW2];replace hW1:=hi_ hW1;replace hW2:=hi_ hW2;by_cases hmm:m=m'
 ·subst hmm
  have hal2:=hall.out rfl;replace hal2:=hi_ hal2;clear hne hall;go_wp2_with (go_at_call 23;(with_reducible refine c7.mono ?_);rintro e w3 ⟨rfl,hB3⟩;replace hB3:=hi_ hB3)
  go_loopw [6] (fun s6 wr=>∃k:Nat,k≤m∧s6=.int .i64 k∧(∀j,j<k→atT d d' j=true)∧Below W2.heap.size W2 wr) (fun s6 _=>m - (RowKit.intOf s6).toNat)
  case atStart=>exact⟨0,by omega,rfl,fun j hj=>by omega,hB3.out⟩
  case round=>
   obtain⟨k,hk,rfl,hP,hB⟩:=hrel;have lB:=hB.size;obtain⟨p0,p1,p2,p3,p4⟩:=ap ff.out.1 hB;obtain⟨q0,q1,q2,q3,q4⟩:=ap ff.out.2 hB;by_cases hkm:k<m
   ·have hkl:k<d.length:=by rw[←hm.out];exact hkm
    have hkl':k<d'.length:=by rw[←hm'.out];exact hkm
    have hAe:=hA.out (by omega);have hAe':=hA'.out (by omega);subst hAe hAe';have hbw:Below w.heap.size w wr:=ah hb2.out hB;obtain⟨o,ho⟩:∃o,o=d[k]:=⟨_,rfl⟩;obtain⟨o',ho'⟩:∃o,o=d'[k]:=⟨_,rfl⟩;have hob:=(hl.out k hkl).kept hbw;have hob':=(hl'.out k hkl').kept hbw;have hcv:=hlv.out k hkl;have hcv':=hlv'.out k hkl';have hky:=(hkey.out k hkl).2;have hky':=(hkey'.out k hkl').2;rw[←ho]at hob hky;rw[←ho']at hob' hky';have hzo:o.2.bulk≤N:=by have:=bZ d k hkl;rw[←ho]at this;omega
    have hzo':o'.2.bulk≤1048576:=by have:=bZ d' k hkl';rw[←ho']at this;omega
    obtain⟨us,hus⟩:∃us,us=vd k:=⟨_,rfl⟩;obtain⟨us',hus'⟩:∃us,us=vd' k:=⟨_,rfl⟩;rw[←hus]at hob hcv;rw[←hus']at hob' hcv';obtain⟨en,E1,E2,E3,en1,ec1,en2,ec2,en3,ec3,hys⟩:=ay hob;obtain⟨en',E1',E2',E3',en1',ec1',en2',ec2',en3',ec3',hys'⟩:=ay hob';obtain⟨kk,hkk⟩:∃k,k=o.2.kind:=⟨_,rfl⟩;obtain⟨kk',hkk'⟩:∃k,k=o'.2.kind:=⟨_,rfl⟩;rw[←hkk]at hys;rw[←hkk']at hys';subst hys hys';obtain⟨K,hK⟩:∃K,K=bytes o.1:=⟨_,rfl⟩;obtain⟨K',hK'⟩:∃K,K=bytes o'.1:=⟨_,rfl⟩;have kp:∀W,Below wr.heap.size wr W→W.cell? ⟨gD,oD+k*6,none⟩=some (.string K)∧W.cell? ⟨gD',oD'+k*6,none⟩=some (.string K'):=fun W hW=>by
     have h1:=(ah hbw hW).cell (ac hky) |>.trans hky
     have h2:=(ah hbw hW).cell (ac hky') |>.trans hky'
     rw[Nat.mul_comm]at h1 h2;rw[h1,h2,hK,hK'];exact⟨rfl,rfl⟩
    have five:∀W,Below wr.heap.size wr W→∀j u,[Value.int .i64 kk,.int .i64 en,.slice E1 en1 ec1,.slice E2 en2 ec2,.slice E3 en3 ec3][j]?=some u→W.cell? ⟨gD,oD+k*6+1+j,none⟩=some u:=fun W hW j u hj=>by
     have h0:=hcv j (by have:=(List.getElem?_eq_some_iff.1 hj).1;simpa using this);rw[hj]at h0;have h1:=((ah hbw hW).cell (ac h0)).trans h0;rw[show oD+(6*k+1+j)=oD+k*6+1+j by omega]at h1;exact h1
    have five':∀W,Below wr.heap.size wr W→∀j u,[Value.int .i64 kk',.int .i64 en',.slice E1' en1' ec1',.slice E2' en2' ec2',.slice E3' en3' ec3'][j]?=some u→W.cell? ⟨gD',oD'+k*6+1+j,none⟩=some u:=fun W hW j u hj=>by
     have h0:=hcv' j (by have:=(List.getElem?_eq_some_iff.1 hj).1;simpa using this);rw[hj]at h0;have h1:=((ah hbw hW).cell (ac h0)).trans h0;rw[show oD'+(6*k+1+j)=oD'+k*6+1+j by omega]at h1;exact h1
    have zz:∀W,Below wr.heap.size wr W→(W.cell? ⟨w.heap.size,0,none⟩=some (.int .i64 8)∧W.cell? ⟨w.heap.size,1,none⟩=some (.int .i64 n)∧W.cell? ⟨w.heap.size,2,none⟩=some (.slice A b.length c)∧W.cell? ⟨w.heap.size,3,none⟩=some (.slice AL l.length cL)∧W.cell? ⟨w.heap.size,4,none⟩=some (.slice (some ⟨gD,oD,none⟩) m cD))∧
     (W.cell? ⟨w.heap.size+1,0,none⟩=some (.int .i64 8)∧W.cell? ⟨w.heap.size+1,1,none⟩=some (.int .i64 n')∧W.cell? ⟨w.heap.size+1,2,none⟩=some (.slice A' b'.length c')∧W.cell? ⟨w.heap.size+1,3,none⟩=some (.slice AL' l'.length cL')∧W.cell? ⟨w.heap.size+1,4,none⟩=some (.slice (some ⟨gD',oD',none⟩) m cD'))∧
     (W.cell? ⟨gD,oD+k*6,none⟩=some (.string K)∧W.cell? ⟨gD,oD+k*6+1,none⟩=some (.int .i64 kk)∧W.cell? ⟨gD,oD+k*6+2,none⟩=some (.int .i64 en)∧W.cell? ⟨gD,oD+k*6+3,none⟩=some (.slice E1 en1 ec1)∧W.cell? ⟨gD,oD+k*6+4,none⟩=some (.slice E2 en2 ec2)∧W.cell? ⟨gD,oD+k*6+5,none⟩=some (.slice E3 en3 ec3))∧
     (W.cell? ⟨gD',oD'+k*6,none⟩=some (.string K')∧W.cell? ⟨gD',oD'+k*6+1,none⟩=some (.int .i64 kk')∧W.cell? ⟨gD',oD'+k*6+2,none⟩=some (.int .i64 en')∧W.cell? ⟨gD',oD'+k*6+3,none⟩=some (.slice E1' en1' ec1')∧W.cell? ⟨gD',oD'+k*6+4,none⟩=some (.slice E2' en2' ec2')∧W.cell? ⟨gD',oD'+k*6+5,none⟩=some (.slice E3' en3' ec3')):=fun W hW=>
     ⟨ap ff.out.1 (ah hB hW),ap ff.out.2 (ah hB hW),⟨(kp W hW).1,five W hW 0 _ rfl,five W hW 1 _ rfl,five W hW 2 _ rfl,five W hW 3 _ rfl,five W hW 4 _ rfl⟩,(kp W hW).2,five' W hW 0 _ rfl,five' W hW 1 _ rfl,five' W hW 2 _ rfl,five' W hW 3 _ rfl,five' W hW 4 _ rfl⟩
    have hat:atT d d' k=(o.1 == o'.1 && bG o.2 o'.2):=by unfold atT;rw[List.getElem?_eq_getElem hkl,List.getElem?_eq_getElem hkl',ho,ho']
    have c8:=fun W (hW:Below wr.heap.size wr W)=>hs.out o.2 o'.2 _ _ W (hob.kept hW) (hob'.kept hW) hzo hzo'
    obtain⟨kn,hkn⟩:∃kn,(!(K.toList == K'.toList))=kn:=⟨_,rfl⟩;have hkn3:(o.1 == o'.1)=!kn:=by rw[←hkn,hK,hK'];exact im _ _
    obtain⟨sb,hsb⟩:∃sb,sb=bG o.2 o'.2:=⟨_,rfl⟩;rw[←hsb,hkn3]at hat;rw[←hsb]at c8;clear five five' hcv hcv' hob hob' hus hus' hkk hkk' kp hky hky' hkn3 hzo hzo';replace ho:=hi_ ho;replace ho':=hi_ ho';replace hK:=hi_ hK;replace hK':=hi_ hK';refine h7_ hsb hB hbw hP hat zz c8 ?_;clear hsb hB hbw hP hat zz c8;intro hsb hB hbw hP hat zz c8;go_upto_region 27 with (fail)
    refine aL (by kernel_rfl) [none,none,none,none,none,none,none,none,none,none,none,none,none,none,none,none,none,none,none,none,none,none,none,none,none,none,none,none,none,none,none,none,none,none,none,none,none,none,none,none,none,none,none,none,none,none,none,none,none,none,none,none,none,none,none,none,none,none,none,none,none,none,none,none,none,none,none,none,none,none,none,none,none,none,none,none,none,none,none,none,none,none,none,none,none,none,none,none,none,none,some 0,some 1,some 2,some 3,some 4,some 5,some 6,some 7,some 8,some 9,some 10,some 11,some 12,some 13,some 14,some 15,some 16,some 17,some 18,some 19,some 20,some 21,some 22,some 23,some 24,some 25,some 26,some 27,none] (fun w'=>Below wr.heap.size wr w') (fun w' w''=>Below w'.heap.size w' w'') (GU w.heap.size (w.heap.size+1) gD oD gD' oD' m cD cD' k K K' #[.int .i64 kk,.int .i64 en,.slice E1 en1 ec1,.slice E2 en2 ec2,.slice E3 en3 ec3] #[.int .i64 kk',.int .i64 en',.slice E1' en1' ec1',.slice E2' en2' ec2',.slice E3' en3' ec3'] kn sb) (by rfl) (by kernel_rfl) 28 _ rfl (by decide) (by kernel_rfl) [1,3,3,4,5,12,7,9,9,10,11,12,13,28,15,17,17,18,19,26,21,23,23,24,25,26,27,28,0] (by kernel_rfl) ?hR ?mono (.cons 27 (ab [26,13] rfl (by kernel_rfl) ?s27) (.cons 26 (ab [19,25,13] rfl (by kernel_rfl) ?s26) (.cons 25 (ab [24,13] rfl (by kernel_rfl) ?s25) (.cons 24 (ab [23,13] rfl (by kernel_rfl) ?s24) (.cons 23 (ab [21,22,13] rfl (by kernel_rfl) ?s23) (.cons 22 (ab [13] rfl (by kernel_rfl) ?s22) (.cons 21 (ab [20,13] rfl (by kernel_rfl) ?s21) (.cons 20 (ab [13] rfl (by kernel_rfl) ?s20) (.cons 19 (ab [18,13] rfl (by kernel_rfl) ?s19) (.cons 18 (ab [17,13] rfl (by kernel_rfl) ?s18) (.cons 17 (ab [15,16,13] rfl (by kernel_rfl) ?s17) (.cons 16 (ab [13] rfl (by kernel_rfl) ?s16) (.cons 15 (ab [14,13] rfl (by kernel_rfl) ?s15) (.cons 14 (ab [13] rfl (by kernel_rfl) ?s14) (.cons 13 (ab [12] rfl (by kernel_rfl) ?s13) (.cons 12 (ab [5,11] rfl (by kernel_rfl) ?s12) (.cons 11 (ab [10] rfl (by kernel_rfl) ?s11) (.cons 10 (ab [9] rfl (by kernel_rfl) ?s10) (.cons 9 (ab [7,8] rfl (by kernel_rfl) ?s9) (.cons 8 (ab [] rfl (by kernel_rfl) ?s8) (.cons 7 (ab [6] rfl (by kernel_rfl) ?s7) (.cons 6 (ab [] rfl (by kernel_rfl) ?s6) (.cons 5 (ab [4] rfl (by kernel_rfl) ?s5) (.cons 4 (ab [3] rfl (by kernel_rfl) ?s4) (.cons 3 (ab [1,2] rfl (by kernel_rfl) ?s3) (.cons 2 (ab [] rfl (by kernel_rfl) ?s2) (.cons 1 (ab [0] rfl (by kernel_rfl) ?s1) (.cons 0 (ab [] rfl (by kernel_rfl) ?s0) (.nil))))))))))))))))))))))))))))) ?done
    case hR=>exact (Below.refl _ _).drew
    case mono=>exact lH
    case done=>
     intro x w4 hR2 hG fr hfr;have e13:=hG 13 (by omega);have e27:=hG 27 (by omega);simp only[GU]at e13 e27;clear hG;simp only[ai]at hfr;rw[e13]at hfr;replace hR2:=hi_ hR2;cases kn with
     |true=>
      have hF:E=false:=by
       rw[hal2.out,List.all_eq_false];refine⟨k,List.mem_range.2 hkm,?_⟩;rw[hat.out];simp
      subst hfr;clear e27;go_wp2
      go_ret
      exact⟨by first|rfl|(rw[hF];rfl),ah hbw.out hR2.out⟩
     |false=>
      rw[e27 rfl]at hfr;subst hfr;clear e27;cases sb with
      |true=>
       have hP2:∀j,j<k+1→atT d d' j=true:=fun j hj=>by
        by_cases h:j=k
        ·rw[h];exact hat.out
        ·exact hP.out j (by omega)
       replace hP2:=hi_ hP2;go_wp2
       go_roundw
       case rel=>exact⟨k+1,by omega,by go_num,hP2.out,hB.out.trans (hR2.out.mono lB)⟩
       case measure=>simp[RowKit.intOf];omega
      |false=>
       have hF:E=false:=by
        rw[hal2.out,List.all_eq_false];refine⟨k,List.mem_range.2 hkm,?_⟩;rw[hat.out];simp
       go_wp2
       go_ret
       exact⟨by first|rfl|(rw[hF];rfl),ah hbw.out hR2.out⟩
    case' s0|s1|s2|s3|s4|s5|s6|s7|s8|s9|s10|s11|s12|s13|s14|s15|s16|s17|s18|s19|s20|s21|s22|s23|s24|s25|s26|s27=>
     intro x w' hRw hd K9 hK;simp only[All,GU]at hd;simp +decide only[upd,GU,ai,if_true,if_false]at hK⊢
    case s0=>
     obtain⟨_⟩:=hd;go_simp;have hK2:=hK _ _ ⟨hRw,Below.refl _ _,rfl⟩;exact hK2
    case s1=>
     obtain⟨e0,_⟩:=hd;obtain⟨⟨z0,z1,z2,z3,z4⟩,⟨t0,t1,t2,t3,t4⟩,⟨x0,x1,x2,x3,x4,x5⟩,y0,y1,y2,y3,y4,y5⟩:=zz.out w' hRw;simp only[e0]at hK⊢;go_simp;have hK2:=hK _ _ ⟨hRw,Below.refl _ _,rfl⟩;exact hK2
    case s2=>
     obtain⟨_⟩:=hd;go_simp;have hK2:=hK _ _ ⟨hRw,Below.refl _ _,rfl⟩;exact hK2
    case s3=>
     obtain⟨e1,e2,_⟩:=hd;simp only[e1,e2]at hK⊢;go_simp;have hK2:=hK _ _ ⟨hRw,Below.refl _ _,rfl⟩;exact hK2
    case s4=>
     obtain⟨e3,_⟩:=hd;simp only[e3]at hK⊢;go_simp;have hK2:=hK _ _ ⟨hRw,Below.refl _ _,rfl⟩;exact hK2
    case s5=>
     obtain⟨e4,_⟩:=hd;obtain⟨⟨z0,z1,z2,z3,z4⟩,⟨t0,t1,t2,t3,t4⟩,⟨x0,x1,x2,x3,x4,x5⟩,y0,y1,y2,y3,y4,y5⟩:=zz.out w' hRw;simp only[e4]at hK⊢;go_simp;have hK2:=hK _ _ ⟨hRw,Below.refl _ _,rfl⟩;exact hK2
    case s6=>
     obtain⟨_⟩:=hd;go_simp;have hK2:=hK _ _ ⟨hRw,Below.refl _ _,rfl⟩;exact hK2
    case s7=>
     obtain⟨e6,_⟩:=hd;obtain⟨⟨z0,z1,z2,z3,z4⟩,⟨t0,t1,t2,t3,t4⟩,⟨x0,x1,x2,x3,x4,x5⟩,y0,y1,y2,y3,y4,y5⟩:=zz.out w' hRw;simp only[e6]at hK⊢;go_simp;have hK2:=hK _ _ ⟨hRw,Below.refl _ _,rfl⟩;exact hK2
    case s8=>
     obtain⟨_⟩:=hd;go_simp;have hK2:=hK _ _ ⟨hRw,Below.refl _ _,rfl⟩;exact hK2
    case s9=>
     obtain⟨e7,e8,_⟩:=hd;simp only[e7,e8]at hK⊢;go_simp;have hK2:=hK _ _ ⟨hRw,Below.refl _ _,rfl⟩;exact hK2
    case s10=>
     obtain⟨e9,_⟩:=hd;simp only[e9]at hK⊢;go_simp;have hK2:=hK _ _ ⟨hRw,Below.refl _ _,rfl⟩;exact hK2
    case s11=>
     obtain⟨e10,_⟩:=hd;obtain⟨⟨z0,z1,z2,z3,z4⟩,⟨t0,t1,t2,t3,t4⟩,⟨x0,x1,x2,x3,x4,x5⟩,y0,y1,y2,y3,y4,y5⟩:=zz.out w' hRw;simp only[e10]at hK⊢;go_simp;have hK2:=hK _ _ ⟨hRw,Below.refl _ _,rfl⟩;exact hK2
    case s12=>
     obtain⟨e5,e11,_⟩:=hd;simp only[e5,e11]at hK⊢;go_simp
     try simp only[hkn]
     have hK2:=hK _ _ ⟨hRw,Below.refl _ _,rfl⟩;exact hK2
    case s13=>
     obtain⟨e12,_⟩:=hd;simp only[e12]at hK⊢;go_simp;have hK2:=hK _ _ ⟨hRw,Below.refl _ _,rfl⟩;exact hK2
    case s14=>
     obtain⟨e13,_⟩:=hd;simp only[e13]at hK⊢;cases kn with
     |true=>
      go_simp;have hK2:=hK undef _ ⟨hRw,Below.refl _ _,fun h=>by cases h⟩;exact hK2
     |false=>
      go_simp;have hK2:=hK _ _ ⟨hRw,Below.refl _ _,fun _=>rfl⟩;exact hK2
    case s15=>
     obtain⟨e14,e13,_⟩:=hd;obtain⟨⟨z0,z1,z2,z3,z4⟩,⟨t0,t1,t2,t3,t4⟩,⟨x0,x1,x2,x3,x4,x5⟩,y0,y1,y2,y3,y4,y5⟩:=zz.out w' hRw;simp only[e13]at hK⊢;cases kn with
     |true=>
      go_simp;have hK2:=hK undef _ ⟨hRw,Below.refl _ _,fun h=>by cases h⟩;exact hK2
     |false=>
      simp only[e14 rfl]at hK⊢;go_simp;have hK2:=hK _ _ ⟨hRw,Below.refl _ _,fun _=>rfl⟩;exact hK2
    case s16=>
     obtain⟨e13,_⟩:=hd;simp only[e13]at hK⊢;cases kn with
     |true=>
      go_simp;have hK2:=hK undef _ ⟨hRw,Below.refl _ _,fun h=>by cases h⟩;exact hK2
     |false=>
      go_simp;have hK2:=hK _ _ ⟨hRw,Below.refl _ _,fun _=>rfl⟩;exact hK2
    case s17=>
     obtain⟨e15,e16,e13,_⟩:=hd;simp only[e13]at hK⊢;cases kn with
     |true=>
      go_simp;have hK2:=hK undef _ ⟨hRw,Below.refl _ _,fun h=>by cases h⟩;exact hK2
     |false=>
      simp only[e15 rfl,e16 rfl]at hK⊢;go_simp;have hK2:=hK _ _ ⟨hRw,Below.refl _ _,fun _=>rfl⟩;exact hK2
    case s18=>
     obtain⟨e17,e13,_⟩:=hd;simp only[e13]at hK⊢;cases kn with
     |true=>
      go_simp;have hK2:=hK undef _ ⟨hRw,Below.refl _ _,fun h=>by cases h⟩;exact hK2
     |false=>
      simp only[e17 rfl]at hK⊢;go_simp;have hK2:=hK _ _ ⟨hRw,Below.refl _ _,fun _=>rfl⟩;exact hK2
    case s19=>
     obtain⟨e18,e13,_⟩:=hd;obtain⟨⟨z0,z1,z2,z3,z4⟩,⟨t0,t1,t2,t3,t4⟩,⟨x0,x1,x2,x3,x4,x5⟩,y0,y1,y2,y3,y4,y5⟩:=zz.out w' hRw;simp only[e13]at hK⊢;cases kn with
     |true=>
      go_simp;have hK2:=hK undef _ ⟨hRw,Below.refl _ _,fun h=>by cases h⟩;exact hK2
     |false=>
      simp only[e18 rfl]at hK⊢;go_simp;have hK2:=hK _ _ ⟨hRw,Below.refl _ _,fun _=>rfl⟩;exact hK2
    case s20=>
     obtain⟨e13,_⟩:=hd;simp only[e13]at hK⊢;cases kn with
     |true=>
      go_simp;have hK2:=hK undef _ ⟨hRw,Below.refl _ _,fun h=>by cases h⟩;exact hK2
     |false=>
      go_simp;have hK2:=hK _ _ ⟨hRw,Below.refl _ _,fun _=>rfl⟩;exact hK2
    case s21=>
     obtain⟨e20,e13,_⟩:=hd;obtain⟨⟨z0,z1,z2,z3,z4⟩,⟨t0,t1,t2,t3,t4⟩,⟨x0,x1,x2,x3,x4,x5⟩,y0,y1,y2,y3,y4,y5⟩:=zz.out w' hRw;simp only[e13]at hK⊢;cases kn with
     |true=>
      go_simp;have hK2:=hK undef _ ⟨hRw,Below.refl _ _,fun h=>by cases h⟩;exact hK2
     |false=>
      simp only[e20 rfl]at hK⊢;go_simp;have hK2:=hK _ _ ⟨hRw,Below.refl _ _,fun _=>rfl⟩;exact hK2
    case s22=>
     obtain⟨e13,_⟩:=hd;simp only[e13]at hK⊢;cases kn with
     |true=>
      go_simp;have hK2:=hK undef _ ⟨hRw,Below.refl _ _,fun h=>by cases h⟩;exact hK2
     |false=>
      go_simp;have hK2:=hK _ _ ⟨hRw,Below.refl _ _,fun _=>rfl⟩;exact hK2
    case s23=>
     obtain⟨e21,e22,e13,_⟩:=hd;simp only[e13]at hK⊢;cases kn with
     |true=>
      go_simp;have hK2:=hK undef _ ⟨hRw,Below.refl _ _,fun h=>by cases h⟩;exact hK2
     |false=>
      simp only[e21 rfl,e22 rfl]at hK⊢;go_simp;have hK2:=hK _ _ ⟨hRw,Below.refl _ _,fun _=>rfl⟩;exact hK2
    case s24=>
     obtain⟨e23,e13,_⟩:=hd;simp only[e13]at hK⊢;cases kn with
     |true=>
      go_simp;have hK2:=hK undef _ ⟨hRw,Below.refl _ _,fun h=>by cases h⟩;exact hK2
     |false=>
      simp only[e23 rfl]at hK⊢;go_simp;have hK2:=hK _ _ ⟨hRw,Below.refl _ _,fun _=>rfl⟩;exact hK2
    case s25=>
     obtain⟨e24,e13,_⟩:=hd;obtain⟨⟨z0,z1,z2,z3,z4⟩,⟨t0,t1,t2,t3,t4⟩,⟨x0,x1,x2,x3,x4,x5⟩,y0,y1,y2,y3,y4,y5⟩:=zz.out w' hRw;simp only[e13]at hK⊢;cases kn with
     |true=>
      go_simp;have hK2:=hK undef _ ⟨hRw,Below.refl _ _,fun h=>by cases h⟩;exact hK2
     |false=>
      simp only[e24 rfl]at hK⊢;go_simp;have hK2:=hK _ _ ⟨hRw,Below.refl _ _,fun _=>rfl⟩;exact hK2
    case s26=>
     obtain⟨e19,e25,e13,_⟩:=hd;simp only[e13]at hK⊢;cases kn with
     |true=>
      go_simp;have hK2:=hK undef _ ⟨hRw,Below.refl _ _,fun h=>by cases h⟩;exact hK2
     |false=>
      simp only[e19 rfl,e25 rfl]at hK⊢;go_simp;refine (c8.out w' hRw).mono ?_;rintro e' w9 ⟨rfl,hB9⟩;have hK2:=hK _ _ ⟨ah hRw hB9,hB9,fun _=>rfl⟩;exact hK2
    case s27=>
     obtain⟨e26,e13,_⟩:=hd;simp only[e13]at hK⊢;cases kn with
     |true=>
      go_simp;have hK2:=hK undef _ ⟨hRw,Below.refl _ _,fun h=>by cases h⟩;exact hK2
     |false=>
      simp only[e26 rfl]at hK⊢;go_simp;have hK2:=hK _ _ ⟨hRw,Below.refl _ _,fun _=>rfl⟩;exact hK2
   ·obtain rfl:k=m:=by omega
    have hT:E=true:=by
     rw[hal2.out,List.all_eq_true];intro j hj;exact hP j (List.mem_range.1 hj)
    subst hT;have hbw:Below w.heap.size w wr:=ah hb2.out hB;refine h3_ hbw hB hP ?_;clear hbw hB hP;intro hbw hB hP;go_wp2
    go_ret
    exact⟨rfl,hbw.out⟩
 ·have hF:=hne.out hmm
  subst hF;have qm:((m:Int) == (m':Int))=false:=by rw[beq_eq_false_iff_ne];omega
  have qm2:((m:Int) !=(m':Int))=true:=by rw[bne,qm];rfl
  clear hall;replace hmm:=hi_ hmm;clear c7;go_wp2
  go_ret
  exact⟨rfl,hb2.out⟩
theorem nh (N:Nat) (hN:N+1≤1048576) (hs:ii N):ii (N+1):=by
 intro a b vs us w ha hb hbk hbk';obtain⟨k,n,bb,l,d⟩:=a;obtain⟨k',n',bb',l',d'⟩:=b;have zk:bb.length+bv l+aI d+1≤N+1:=hbk;have zk':bb'.length+bv l'+aI d'+1≤1048576:=hbk';have hsm:bG (.mk k n bb l d) (.mk k' n' bb' l' d')=(k == k' && (
  if k=1∨k=2∨k=3∨k=9 then n == n'
  else if k=4∨k=5 then bb == bb'
  else if k=6 then cV l l'
  else if k=7∨k=8 then (k == 7 || bb == bb') && cJ d d'
  else true)):=by simp only[bG]
 rw[hsm];clear hsm;by_cases h6:k=6∧k'=6
 ·obtain⟨rfl,rfl⟩:=h6
  have h:=pz N (by omega) hs n n' bb bb' l l' d d' vs us w ha hb (by omega) (by omega)
  simpa using h
 by_cases h7:k=7∧k'=7
 ·obtain⟨rfl,rfl⟩:=h7
  have h:=lr N (by omega) hs n n' bb bb' l l' d d' vs us w ha hb (by omega) (by omega)
  simpa using h
 by_cases h8:k=8∧k'=8
 ·obtain⟨rfl,rfl⟩:=h8
  have h:=lu N (by omega) hs n n' bb bb' l l' d d' vs us w ha hb (by omega) (by omega)
  simpa using h
 cases ha with
 |mk _ _ _ _ _ A AL AD c cL cD gL oL gD oD vl vd h1 h2 h3 h4 hB5 h6_ h7_ h8_ h9 h10 h11 h12 h13 h14 h15 h16 h17 h18=>
 cases hb with
 |mk _ _ _ _ _ A' AL' AD' c' cL' cD' gL' oL' gD' oD' vl' vd' i1 i2 i3 i4 iB5 i6 i7 i8 i9 i10 i11 i12 i13 i14 i15 i16 i17 i18=>
 obtain⟨W1,hW1⟩:∃W,W=w.alloc (.cells #[.int .i64 k,.int .i64 n,.slice A bb.length c,.slice AL l.length cL,.slice AD d.length cD] 32):=⟨_,rfl⟩;obtain⟨W2,hW2⟩:∃W,W=W1.alloc (.cells #[.int .i64 k',.int .i64 n',.slice A' bb'.length c',.slice AL' l'.length cL',.slice AD' d'.length cD'] 32):=⟨_,rfl⟩;have hb2:Below w.heap.size w W2:=by rw[hW2,hW1];exact ((Below.refl _ _).alloc (Nat.le_refl _) _).alloc (by rw[World.size_alloc];omega) _
 have ff:=eP hW1 hW2;obtain⟨⟨f0,f1,f2,f3,f4⟩,g0,g1,g2,g3,g4⟩:=ff;have c7:=gR A A' c c' bb bb' W2 (hB5.below hb2) (iB5.below hb2) (by omega) (by omega);have hbe:(bb == bb')=decide (bb=bb'):=by by_cases h:bb=bb' <;> simp[h]
 rw[hbe];obtain⟨sb,hsb⟩:∃z,z=decide (bb=bb'):=⟨_,rfl⟩;rw[←hsb]at c7⊢;clear h1 h2 h3 h4 hB5 h6_ h7_ h8_ h9 h10 h11 h12 h13 h14 h15 h16 h17 h18 i1 i2 i3 i4 iB5 i6 i7 i8 i9 i10 i11 i12 i13 i14 i15 i16 i17 i18 hbk hbk' zk zk' hbe hs;replace hsb:=hi_ hsb;replace hb2:=hi_ hb2;by_cases hkk:k=k'
 ·subst hkk
  have k6:k≠6:=fun e=>h6 ⟨e,e⟩
  have k7:k≠7:=fun e=>h7 ⟨e,e⟩
  have k8:k≠8:=fun e=>h8 ⟨e,e⟩
  clear h6 h7 h8;obtain⟨R,hR⟩:∃R,R=(k == k && (if k=1∨k=2∨k=3∨k=9 then n == n' else if k=4∨k=5 then sb else if k=6 then cV l l' else if k=7∨k=8 then (k == 7 || sb) && cJ d d' else true)):=⟨_,rfl⟩;rw[←hR];rw[beq_self_eq_true,Bool.true_and]at hR;by_cases k1:k=1
  ·subst k1
   have hR1:R=(n == n'):=by rw[hR];simp
   subst hR1;clear hR;go_enter Tryz.func13,Tryz.ntmps13;go_upto_region 1 with (fail)
   rw[←hW1,←hW2];clear hW1 hW2;go_wp2
   go_ret
   exact⟨rfl,hb2.out⟩
  by_cases k2:k=2
  ·subst k2
   have hR1:R=(n == n'):=by rw[hR];simp
   subst hR1;clear hR;go_enter Tryz.func13,Tryz.ntmps13;go_upto_region 1 with (fail)
   rw[←hW1,←hW2];clear hW1 hW2;go_wp2
   go_ret
   exact⟨rfl,hb2.out⟩
  by_cases k3:k=3
  ·subst k3
   have hR1:R=(n == n'):=by rw[hR];simp
   subst hR1;clear hR;go_enter Tryz.func13,Tryz.ntmps13;go_upto_region 1 with (fail)
   rw[←hW1,←hW2];clear hW1 hW2;go_wp2
   go_ret
   exact⟨rfl,hb2.out⟩
  by_cases k9:k=9
  ·subst k9
   have hR1:R=(n == n'):=by rw[hR];simp
   subst hR1;clear hR;go_enter Tryz.func13,Tryz.ntmps13;go_upto_region 1 with (fail)
   rw[←hW1,←hW2];clear hW1 hW2;go_wp2
   go_ret
   exact⟨rfl,hb2.out⟩
  by_cases k4:k=4
  ·subst k4
   have hR1:R=sb:=by rw[hR];simp
   subst hR1;clear hR;go_enter Tryz.func13,Tryz.ntmps13;go_upto_region 1 with (fail)
   rw[←hW1,←hW2];clear hW1 hW2;go_wp2_with (go_at_call 23;(with_reducible refine c7.mono ?_);rintro e w3 ⟨rfl,hB3⟩;replace hB3:=hi_ hB3)
   go_ret
   exact⟨rfl,ah hb2.out hB3.out⟩
  by_cases k5:k=5
  ·subst k5
   have hR1:R=sb:=by rw[hR];simp
   subst hR1;clear hR;go_enter Tryz.func13,Tryz.ntmps13;go_upto_region 1 with (fail)
   rw[←hW1,←hW2];clear hW1 hW2;go_wp2_with (go_at_call 23;(with_reducible refine c7.mono ?_);rintro e w3 ⟨rfl,hB3⟩;replace hB3:=hi_ hB3)
   go_ret
   exact⟨rfl,ah hb2.out hB3.out⟩
  have hR1:R=true:=by rw[hR];simp[k1,k2,k3,k4,k5,k6,k7,k8,k9]
  subst hR1;clear hR;have t1:(k == 1)=false:=by simpa using k1
  have t2:(k == 2)=false:=by simpa using k2
  have t3:(k == 3)=false:=by simpa using k3
  have t4:(k == 4)=false:=by simpa using k4
  have t5:(k == 5)=false:=by simpa using k5
  have t6:(k == 6)=false:=by simpa using k6
  have t7:(k == 7)=false:=by simpa using k7
  have t8:(k == 8)=false:=by simpa using k8
  have t9:(k == 9)=false:=by simpa using k9
  clear k1 k2 k3 k4 k5 k6 k7 k8 k9 c7;go_enter Tryz.func13,Tryz.ntmps13;go_upto_region 1 with (fail)
  rw[←hW1,←hW2];clear hW1 hW2;go_wp2
  go_ret
  exact⟨rfl,hb2.out⟩
 ·have e1:(k == k')=false:=by simpa using hkk
  have e2:(k !=k')=true:=by rw[bne,e1];rfl
  rw[e1,Bool.false_and];clear h6 h7 h8 hkk c7;go_enter Tryz.func13,Tryz.ntmps13;go_upto_region 1 with (fail)
  rw[←hW1,←hW2];clear hW1 hW2;go_wp2
  go_ret
  exact⟨rfl,hb2.out⟩
theorem ko:∀N,N≤1048576→ii N
 |0,_=>fun a b vs us w _ _ h _=>by have:=dk a;omega
 |N+1,h=>nh N h (ko N (by omega))


theorem oj (w:World) (n:Nat):Below w.heap.size w (w.drewN n):=⟨rfl,rfl,rfl,Nat.le_refl _,fun _ _=>rfl⟩
theorem oH (A A':Option Addr) (c c':Nat) (l:List R4) (w:World) (h:RowsAt w A l) (h':RowsAt w A' l) (hl:l.length≤1000000):Calls Tryz.prog 12 #[.slice A l.length c,.slice A' l.length c'] w fun e w'=>e=.returned (.bool true)∧Below w.heap.size w w':=by
 obtain⟨m,hm⟩:∃m,m=l.length:=⟨_,rfl⟩;rw[←hm]at hl⊢;replace hm:=hi_ hm;replace h:=hi_ h;replace h':=hi_ h';go_enter Tryz.func12,Tryz.ntmps12;go_wp2
 go_loopw [5] (fun s5 wr=>∃k:Nat,k≤m∧s5=.int .i64 k∧Below w.heap.size w wr) (fun s5 _=>m - (RowKit.intOf s5).toNat)
 case atStart=>exact⟨0,by omega,rfl,Below.refl _ _⟩
 case round=>
  rename_i wr
  obtain⟨k,hk,rfl,hB⟩:=hrel;by_cases hkm:k<m
  ·have hkl:k<l.length:=by rw[←hm.out];exact hkm
   obtain⟨b,o,rfl,hc⟩:=h.out.2 (by omega);obtain⟨b',o',rfl,hc'⟩:=h'.out.2 (by omega);have hc4:=hc k hkl;have hc4':=hc' k hkl;obtain⟨r,hr⟩:∃r,r=l[k]:=⟨_,rfl⟩;rw[←hr]at hc4 hc4';obtain⟨P,hP0⟩:∃P,P=o+k*4:=⟨_,rfl⟩;have hP2:o+k*4=P:=hP0.symm;obtain⟨P',hP0'⟩:∃P,P=o'+k*4:=⟨_,rfl⟩;have hP2':o'+k*4=P':=hP0'.symm;rw[hP2]at hc4;rw[hP2']at hc4';have y0:=(hB.cell (ac (hc4 0 _ rfl))).trans (hc4 0 _ rfl);have y1:=(hB.cell (ac (hc4 1 _ rfl))).trans (hc4 1 _ rfl);have y2:=(hB.cell (ac (hc4 2 _ rfl))).trans (hc4 2 _ rfl);have y3:=(hB.cell (ac (hc4 3 _ rfl))).trans (hc4 3 _ rfl);have x0:=(hB.cell (ac (hc4' 0 _ rfl))).trans (hc4' 0 _ rfl);have x1:=(hB.cell (ac (hc4' 1 _ rfl))).trans (hc4' 1 _ rfl);have x2:=(hB.cell (ac (hc4' 2 _ rfl))).trans (hc4' 2 _ rfl);have x3:=(hB.cell (ac (hc4' 3 _ rfl))).trans (hc4' 3 _ rfl);simp only[Nat.add_zero]at y0 x0;have e0:(r.n !=r.n)=false:=by simp
   have e1:(r.k !=r.k)=false:=by simp
   have e2:(r.a !=r.a)=false:=by simp
   have e3:(r.g !=r.g)=false:=by simp
   clear hc hc4 hc' hc4';replace hP0:=hi_ hP0;replace hP0':=hi_ hP0';replace hr:=hi_ hr;replace hB:=hi_ hB;go_upto_region 6 with (fail)
   go_quiet (fail)
   obtain⟨W2,hW2⟩:∃W,W=wr.drewN nq:=⟨_,rfl⟩;rw[←hW2];have hB2:Below w.heap.size w W2:=by rw[hW2];exact ah hB.out (oj _ _)
   replace hW2:=hi_ hW2;replace hB2:=hi_ hB2;clear y0 y1 y2 y3 x0 x1 x2 x3;go_wp2
   go_roundw
   case rel=>exact⟨k+1,by omega,by go_num,hB2.out⟩
   case measure=>simp[RowKit.intOf];omega
  ·obtain rfl:k=m:=by omega
   replace hB:=hi_ hB;go_wp2
   go_ret
   exact⟨rfl,hB.out⟩
section
open Go Go.RowKit Go.Wk Go.Rd Go.Fx
theorem m6 (W:World):Calls Tryz.prog 18 #[.slice none 0 0] W fun e w'=>e=.returned (.agg #[.int .i64 7,.int .i64 0,.slice none 0 0,.slice none 0 0,.slice none 0 0])∧Below W.heap.size W w':=by
 obtain⟨W1,hW1⟩:∃W1,W1=W.alloc (.cells #[.int .i64 0,.int .i64 0,.slice none 0 0,.slice none 0 0,.slice none 0 0] 32):=⟨_,rfl⟩;obtain⟨W2,hW2⟩:∃W2,W2=W1.alloc (.cells #[.int .i64 7,.int .i64 0,.slice none 0 0,.slice none 0 0,.slice none 0 0] 32):=⟨_,rfl⟩;have b1:Below W.heap.size W W1:=by rw[hW1];exact (Below.refl _ _).alloc (Nat.le_refl _) _
 have z1:W1.heap.size=W.heap.size+1:=by rw[hW1,World.size_alloc]
 have b2:Below W1.heap.size W1 W2:=by rw[hW2];exact (Below.refl _ _).alloc (Nat.le_refl _) _
 have hT1:Blk W1 W.heap.size 32 #[.int .i64 0,.int .i64 0,.slice none 0 0,.slice none 0 0,.slice none 0 0]:=by rw[hW1];exact Blk.new W _ _
 have hT:=hT1.below b2 (by omega);have hU:Blk W2 (W.heap.size+1) 32 #[.int .i64 7,.int .i64 0,.slice none 0 0,.slice none 0 0,.slice none 0 0]:=by rw[hW2,←z1];exact Blk.new W1 _ _
 have hb:=ah b1 b2;obtain⟨x0,x1,x2,x3,x4,-⟩:=hU.b5;obtain⟨z0,z11,z2,z3,z4,v0,v1,v2,v3,v4⟩:=hT.b5;refine h7_ hT hU hb hT1 b1 b2 z1 ?_;clear hT hU hb hT1 b1 b2 z1;intro hT hU hb hT1 b1 b2 z1;go_enter Tryz.func18,Tryz.ntmps18
 go_upto_block 0 with fail
 rw[←hW1,←hW2];replace hW1:=hi_ hW1;replace hW2:=hi_ hW2;go_wp2
 refine wp_loop_rounds 1 ?_;rw[rounds_succ];go_wp2
 generalize hWf:World.setCell _ _ _=Wf;replace hWf:=hWf.symm;obtain⟨hbf,hg,hz⟩:=dt hT.out hWf;obtain⟨u0,u1,u2,u3,u4,-⟩:=hbf.b5;have hBf:=hi_ (hb.out.grown hg hb.out.size (fun q hq=>by injection hq with hq;omega));replace hg:=hi_ hg;replace hWf:=hi_ hWf;clear hbf x0 x1 x2 x3 x4 z0 z11 z2 z3 z4 v0 v1 v2 v3 v4;exact bodyPost_ret (by simp[results,Tryz.results18,go_sem,u0,u1,u2,u3,u4];try rfl) rfl ⟨rfl,hBf.out⟩
mutual
theorem eA:∀(o:Ob),bG o o=true
 | .mk k n b l d=>by
  have h1:=gc l;have h2:=ga d;simp only[bG,h1,h2,beq_self_eq_true,Bool.true_and,Bool.or_true]
  repeat' split
  all_goals rfl
theorem gc:∀(l:List Ob),cV l l=true
 |[]=>rfl
 |o :: r=>by simp only[cV,eA o,gc r,Bool.true_and]
theorem ga:∀(d:List (List UInt8×Ob)),cJ d d=true
 |[]=>rfl
 |e :: r=>by simp only[cJ,eA e.2,ga r,beq_self_eq_true,Bool.true_and]
end
theorem mP (W:World) (hT:Tab W):Calls Tryz.prog 7 #[] W fun e w'=>e=.returned (.bool true)∧Below W.heap.size W w':=by
 have cd:=m6 W;obtain⟨o,ho⟩:∃o,o=Ob.mk 7 0 [] [] []:=⟨_,rfl⟩;obtain⟨S,hSe⟩:∃S,S=awT:=⟨_,rfl⟩;have c16':=fun w2 (hB:Below W.heap.size W w2) (W3:World) (h3:W3=w2.alloc (.cells #[.int .i64 0,.int .i64 0,.int .i64 0,.int .i64 65535] 64))=>
  (
   show Calls Tryz.prog 16 #[.agg #[.int .i64 7,.int .i64 0,.slice none 0 0,.slice none 0 0,.slice none 0 0],.slice (some ⟨w2.heap.size,0,none⟩) 1 1] W3 (fun e w'=>∃A c,e=.returned (.tuple #[.slice A S.length c,.int .i64 0])∧Byt w' A S∧S.length≤c∧Below W3.heap.size W3 w') from by
   have b3:Below w2.heap.size w2 W3:=by rw[h3];exact (Below.refl _ _).alloc (Nat.le_refl _) _
   rw[hSe,h3];exact rL w2.heap.size _ (hT.below (ah hB (h3▸b3))) (gS w2))
 have hback:gg false 9 S=.ok ([ez],o) [10]:=by rw[hSe,ho];kernel_rfl
 have hSl:S.length≤100000000:=by rw[hSe];decide
 have c8:=fun A c W (hby:Byt W A S) (hcap:S.length≤c)=>o6 A c S W hby hcap (by omega) 9 9 (by decide)
 have c10:=fun P L R A c W (h:PS P L R A c S 9 false W S)=>mj (by omega) hSl W h
 rw[hback]at c10;replace c16':=hi_ c16';replace c8:=hi_ c8;replace c10:=hi_ c10;clear hback hSe hSl ho;replace hT:=hi_ hT;go_enter Tryz.func7,Tryz.ntmps7;go_upto_region 2 with (first|(go_at_call 18;(with_reducible refine cd.mono ?_);rintro e w2 ⟨rfl,hB2⟩;have c16b:=c16'.out w2 hB2 _ rfl;replace hB2:=hi_ hB2;clear cd)|(go_at_call 16;(with_reducible refine c16b.mono ?_);rintro e w4 ⟨A4,c4,rfl,hby4,hcap4,hB4⟩;have hD4:Below W.heap.size W w4:=ah (ah hB2.out ((Below.refl _ _).alloc (Nat.le_refl _) _)) hB4;replace hB4:=hi_ hB4;replace hby4:=hi_ hby4;replace hcap4:=hi_ hcap4;replace hD4:=hi_ hD4;clear c16b))
 have c8b:=c8.out A4 c4 w4 hby4.out hcap4.out;obtain⟨n,hn⟩:∃n,n=S.length:=⟨_,rfl⟩;rw[←hn]at c8b⊢;replace hn:=hi_ hn;go_upto_region 3 with (first|(go_at_call 8;(with_reducible refine c8b.mono ?_);rintro e w5 ⟨rfl,hP5,hB5⟩;have c10b:=c10.out _ _ _ _ _ w5 hP5;replace hP5:=hi_ hP5;replace hB5:=hi_ hB5;clear c8b)|(go_at_call 10;(with_reducible refine c10b.mono ?_);rintro e w6 ⟨v,us,rfl,hO,hI,hP6,hF6⟩;obtain⟨xk,xn,F1,F2,F3,fn1,fc1,fn2,fc2,fn3,fc3,rfl⟩:=cg hI.ob;obtain⟨A7,c7,hv,hR⟩:=hO.out (by simp[maxLen]);subst hv;replace hO:=hi_ hO;replace hI:=hi_ hI;replace hP6:=hi_ hP6;replace hF6:=hi_ hF6;replace hR:=hi_ hR;clear c10b))
 obtain⟨b7,o7,hA7,hc7⟩:=hR.out.2 (by simp);subst hA7;obtain⟨W7,hW7⟩:∃Wx,Wx=w6.alloc (.cells #[.slice (some ⟨b7,o7,none⟩) 1 c7,.int .i64 xk,.int .i64 xn,.slice F1 fn1 fc1,.slice F2 fn2 fc2,.slice F3 fn3 fc3] 34):=⟨_,rfl⟩;have hg:=hc7 0 (by simp) 3 (.int .i64 65535) rfl;rw[show o7+0*4+3=o7+3 by omega]at hg;have bb7:Below w6.heap.size w6 W7:=by rw[hW7];exact (Below.refl _ _).alloc (Nat.le_refl _) _
 have hU7:Blk W7 w6.heap.size 34 #[.slice (some ⟨b7,o7,none⟩) 1 c7,.int .i64 xk,.int .i64 xn,.slice F1 fn1 fc1,.slice F2 fn2 fc2,.slice F3 fn3 fc3]:=by rw[hW7];exact Blk.new w6 _ _
 have x0:=hU7.cell 0;have hg7:=(bb7.cell (ac hg)).trans hg;have hfin:=hi_ (show Below W.heap.size W W7 from by
  have h1:Below w4.heap.size w4 w6:=hB5.out.trans (hF6.out.below (Nat.le_refl _) (by omega) hB5.out.size);exact ah (ah hD4.out h1) bb7)
 rw[←hW7];clear hg hc7;refine h3_ hU7 hW7 bb7 ?_;clear hU7 hW7 bb7;intro hU7 hW7 bb7;go_wp2
 go_ret
 exact⟨rfl,hfin.out⟩
end
section
open Go Go.RowKit Go.Wk Go.Rd Go.Fx
def zeroOb:Ob:=.mk 0 0 [] [] []
theorem nC:zeroOb.bulk=1:=by decide
theorem tv {B:Nat}{w:World}:ObI B w.heap.size w zeroOb [.int .i64 0,.int .i64 0,.slice none 0 0,.slice none 0 0,.slice none 0 0]:=
 el (tb:=5) (tO:=32) (tE:=91) (by omega) (by omega) (by omega) (by omega) (World.ownsRow_nil _ _ _ _) (by decide) (RowG.nil _ _ _ _ _) (RowG.nil _ _ _ _ _)
theorem LX.moved {L:Nat}{A:Option Addr}{c:Nat}{bs r:Bs}{D P:Value}{w w':World}(h:LX L A c bs D P w r) (hb:Blk w' L 55 #[.slice A bs.length c,.int .i64 (pos bs r:Nat),D,P]) (hby:Byt w' A bs):LX L A c bs D P w' r:=⟨hb,hby,h.ne,h.suf,h.cap,h.small⟩
theorem rM (w:World):ObAt w zeroOb [.int .i64 0,.int .i64 0,.slice none 0 0,.slice none 0 0,.slice none 0 0]:=
 (show ObI 0 w.heap.size w zeroOb _ from el (tb:=5) (tO:=32) (tE:=91) (by omega) (by omega) (by omega) (by omega) (World.ownsRow_nil _ _ _ _) (by decide) (RowG.nil _ _ _ _ _) (RowG.nil _ _ _ _ _)).ob
theorem nd (w:World):RowsAt w none []:=⟨Nat.zero_le _,fun h=>by simp at h⟩
def je:Res (List R4×Ob)→List R4×Ob×Int×Bs
 | .ok lo u=>(lo.1,lo.2,0,u)
 | .err n u=>([],zeroOb,n,u)
theorem iD:∀(f:Nat) (acc:List R4) (r:Bs) (l:List R4) (u:Bs),gf f acc r=.ok l u→20*l.length+u.length≤20*acc.length+r.length
 |0,acc,r,l,u,h=>by rw[gf]at h;cases h
 |f+1,acc,r,l,u,h=>by
  rw[gf]at h;split at h
  ·cases h
   have h1:=cW false r;rw[List.length_drop];omega
  ·cases hp:fq r with
   |err e v=>rw[hp]at h;cases h
   |ok l2 v=>
    rw[hp]at h;simp only[]at h;have h1:=jW hp;have h2:=iD f (acc++l2) v l u h;rw[List.length_append]at h2;omega
theorem rm {pl:Bool}{d:Nat}{r:Bs}:20*(je (gg pl d r)).1.length≤r.length∧(je (gg pl d r)).2.1.bulk≤r.length+1:=by
 have zb:=nC;have ze:∀n u,20*(je (.err n u)).1.length≤r.length∧(je (.err n u)).2.1.bulk≤r.length+1:=fun n u=>⟨by simp[je],by show zeroOb.bulk≤_;omega⟩
 obtain⟨K,hK⟩:∃K,K=gg pl d r:=⟨_,rfl⟩;rw[←hK];unfold gg at hK;cases h1:cx iQ r with
 |err e u=>rw[h1]at hK;simp only[]at hK;subst hK;exact ze _ _
 |ok t u=>
  rw[h1]at hK;simp only[]at hK;have hu:u.length≤r.length:=by
   unfold cx at h1;cases ht:ar r with
   |err e v=>rw[ht]at h1;cases h1
   |ok k v=>
    rw[ht]at h1;simp only[]at h1;have h2:=bY ht;split at h1
    ·cases h1
    ·split at h1
     ·cases h1;omega
     ·cases h1
  cases h2:gf (u.length+1) [] u with
  |err e v=>rw[h2]at hK;simp only[kR]at hK;subst hK;exact ze _ _
  |ok l v=>
   rw[h2]at hK;simp only[kR]at hK;have h3:=iD _ _ _ _ _ h2;simp only[List.length_nil]at h3;cases h4:valS pl d (af false v) with
   |err e z=>rw[h4,kP]at hK;subst hK;exact ze _ _
   |ok o z=>
    rw[h4,kP]at hK;split at hK
    ·subst hK
     have h5:=fB pl d _ _ _ h4;have h6:=cW false v;exact⟨by show 20*l.length≤_;omega,by show o.bulk≤_;omega⟩
    ·subst hK;exact ze _ _
theorem lz (w:World) (hT:Tab w) (A:Option Addr) (c:Nat) (bs:Bs) (hby:Byt w A bs) (hcap:bs.length≤c) (dep:Int) :
 Calls Tryz.prog 3 #[.slice A bs.length c,.int .i64 dep] w fun e w'=>e=.returned (.bool true)∧Below w.heap.size w w':=by
 obtain⟨d,hd⟩:∃d:Nat,min (max dep 0) 28=(d:Int):=⟨(min (max dep 0) 28).toNat,by omega⟩;have hd28:d≤28:=by omega
 have hlm:=hby.1;have c7:=mP w hT;obtain⟨m,hm⟩:∃m,m=bs.length:=⟨_,rfl⟩;by_cases h1000:1000<m
 ·have e1:decide (1000<m)=true:=by simpa using h1000
  have e2:decide ((1000:Int)<(m:Int))=true:=by simp;omega
  rw[←hm];refine h3_ hm h1000 hby ?_;clear hm h1000 hby;intro hm h1000 hby
  clear hcap hd hd28 hlm;go_enter Tryz.func3,Tryz.ntmps3;go_wp2_with (go_at_call 7;(with_reducible refine c7.mono ?_);rintro e w2 ⟨rfl,hB2⟩;replace hB2:=hi_ hB2)
  go_ret
  exact⟨rfl,hB2.out⟩
 have e1:decide (1000<m)=false:=by simpa using h1000
 have e2:decide ((1000:Int)<(m:Int))=false:=by simp;omega
 obtain⟨RES,hRES⟩:∃x,x=gg false d bs:=⟨_,rfl⟩;have hcut:=rm (pl:=false) (d:=d) (r:=bs);rw[←hRES]at hcut;obtain⟨l,hl⟩:∃x,x=(je RES).1:=⟨_,rfl⟩;obtain⟨o,ho⟩:∃x,x=(je RES).2.1:=⟨_,rfl⟩;obtain⟨n,hn⟩:∃x,x=(je RES).2.2.1:=⟨_,rfl⟩;obtain⟨u,hu⟩:∃x,x=(je RES).2.2.2:=⟨_,rfl⟩;rw[←hl,←ho]at hcut;have c10:∀P L R A' c' W,PS P L R A' c' bs d false W bs→Calls Tryz.prog 10 #[.pointer (some ⟨P,0,none⟩)] W fun e w'=>∃A9 c9 us,e=.returned (.tuple #[.agg (List.toArray (.slice A9 l.length c9 :: us)),.int .i64 n])∧OwnR 64 W.heap.size w' (.slice A9 l.length c9) l∧ObI W.heap.size w'.heap.size w' o us∧PS P L R A' c' bs d false w' u∧Fr L R W w':=fun P L R A' c' W h=>by
  refine (mj (by omega) (by omega) W h).mono ?_;rw[←hRES];intro e w' hR;cases RES with
  |err n2 u2=>
   obtain⟨_,rfl,hP,hF⟩:=hR;subst hl ho hn hu;exact⟨none,0,_,rfl,OwnR.nil _ _ _,tv,hP,hF⟩
  |ok lo u2=>
   obtain⟨v,us,rfl,hO,hI,hP,hF⟩:=hR;subst hl ho hn hu;change 20*lo.1.length≤_∧_ at hcut;obtain⟨A9,c9,rfl,hRw⟩:=OwnR.out hO (by unfold maxLen;omega);exact⟨A9,c9,us,rfl,hO,hI,hP,hF⟩
 have c11:∀L A' c' W,LX L A' c' bs (.int .i64 (d:Nat)) (.bool false) W bs→Calls Tryz.prog 11 #[.pointer (some ⟨L,0,none⟩)] W fun e w'=>∃A9 c9 us,e=.returned (.tuple #[.agg (List.toArray (.slice A9 l.length c9 :: us)),.int .i64 n])∧RowsAt w' A9 l∧ObAt w' o us∧LX L A' c' bs (.int .i64 (d:Nat)) (.bool false) w' u∧Save L W w':=fun L A' c' W h=>by
  refine (pf (by omega) (by omega) W h).mono ?_;rw[←hRES];intro e w' hR;cases RES with
  |err n2 u2=>
   obtain⟨_,rfl,hP,hF⟩:=hR;subst hl ho hn hu;exact⟨none,0,_,rfl,nd w',rM w',hP,hF⟩
  |ok lo u2=>
   obtain⟨v,us,rfl,hO,hI,hP,hF⟩:=hR;subst hl ho hn hu;change 20*lo.1.length≤_∧_ at hcut;obtain⟨A9,c9,rfl,hRw⟩:=OwnR.out hO (by unfold maxLen;omega);exact⟨A9,c9,us,rfl,hRw,hI.ob,hP,hF⟩
 have hll:l.length≤1000000:=by omega
 have hob9:o.bulk≤1048576:=by omega
 have c8:=fun W (h:Byt W A bs)=>o6 A c bs W h hcap (by omega) dep d hd
 have c9:=fun W (h:Byt W A bs)=>q6 A c bs W h hcap (by omega) dep d hd
 have cS:=fun A1 A2 c1 c2 W (h1:RowsAt W A1 l) (h2:RowsAt W A2 l)=>oH A1 A2 c1 c2 l W h1 h2 hll
 have c13:=fun us us2 W (h1:ObAt W o us) (h2:ObAt W o us2)=>ko 1048576 (Nat.le_refl _) o o us us2 W h1 h2 hob9 hob9
 rw[eA]at c13;have cP:=fun P L R A' c' W (h:PS P L R A' c' bs d false W u)=>cQ W h
 obtain⟨q,hq⟩:∃q:Int,q=(pos bs u:Nat):=⟨_,rfl⟩;rw[←hq]at cP;obtain⟨k,hk⟩:∃x,x=l.length:=⟨_,rfl⟩;rw[←hk]at cS c10 c11;rw[←hm]at c8 c9⊢;refine h9_ hk hm hq c8 c9 c10 c11 cS c13 ?_;clear hk hm hq c8 c9 c10 c11 cS c13;intro hk hm hq c8 c9 c10 c11 cS c13;refine h9_ cP hby hcut hob9 hll h1000 hl ho hn ?_;clear cP hby hcut hob9 hll h1000 hl ho hn;intro cP hby hcut hob9 hll h1000 hl ho hn;replace hu:=hi_ hu;clear hd hd28 hlm hcap;go_enter Tryz.func3,Tryz.ntmps3;go_upto_region 8 with (first
  |(go_at_call 7;(with_reducible refine c7.mono ?_);rintro e w2 ⟨rfl,hB2⟩;have c8b:=c8.out w2 (hby.out.below hB2);replace hB2:=hi_ hB2;clear c7)
  |(go_at_call 8;(with_reducible refine c8b.mono ?_);rintro e w3 ⟨rfl,hP3,hB3⟩;have c9b:=c9.out w3 (hby.out.below (ah hB2.out hB3));replace hP3:=hi_ hP3;replace hB3:=hi_ hB3;clear c8b)
  |(go_at_call 9;(with_reducible refine c9b.mono ?_);rintro e w4 ⟨rfl,hX4,hB4⟩;have hP4:=hP3.out.belowW hB4;have c10b:=c10.out _ _ _ _ _ w4 hP4;replace hX4:=hi_ hX4;replace hP4:=hi_ hP4;replace hB4:=hi_ hB4;clear c9b)
  |(go_at_call 10;(with_reducible refine c10b.mono ?_);rintro e w5 ⟨A9,c9x,us,rfl,hO5,hI5,hP5,hF5⟩;obtain⟨xk,xn,F1,F2,F3,fn1,fc1,fn2,fc2,fn3,fc3,rfl⟩:=cg hI5.ob;replace hO5:=hi_ hO5;replace hI5:=hi_ hI5;replace hP5:=hi_ hP5;replace hF5:=hi_ hF5;clear c10b))
 obtain⟨W6,hW6,b6,hU6⟩:=ak w5 34 #[.slice A9 k c9x,.int .i64 xk,.int .i64 xn,.slice F1 fn1 fc1,.slice F2 fn2 fc2,.slice F3 fn3 fc3];rw[←hW6];have s3:=hB3.out.size;have sP:=hP3.out.P_lt;have s4:w3.heap.size<w4.heap.size:=hX4.out.lt;have s5:=hF5.out.size;have s6:=b6.size;have d4:=ah (ah hB2.out hB3.out) hB4.out;have d5:Below w.heap.size w w5:=d4.trans (hF5.out.below (by have:=hB2.out.size;omega) (by have:=hB2.out.size;omega) (by have:=d4.size;omega));have d6:=ah d5 b6;have hX5:=hX4.out.moved (w':=w5) (hF5.out.blk (by omega) (by omega) hX4.out.blk) (by rw[hm.out]at *;exact hby.out.below d5);have hX6:=hX5.below b6;have c11b:=c11.out _ _ _ W6 hX6;refine h6_ hW6 hU6 b6 d6 d4 d5 ?_;clear hW6 hU6 b6 d6 d4 d5;intro hW6 hU6 b6 d6 d4 d5;clear hX5 hX6;go_upto_region 9 with (go_at_call 11;(with_reducible refine c11b.mono ?_);rintro e w7 ⟨B9,d9x,us,rfl,hR7,hI7,hX7,hS7⟩;obtain⟨yk,yn,G1,G2,G3,gn1,gc1,gn2,gc2,gn3,gc3,rfl⟩:=cg hI7;replace hR7:=hi_ hR7;replace hI7:=hi_ hI7;replace hX7:=hi_ hX7;replace hS7:=hi_ hS7;clear c11b)
 obtain⟨W8,hW8,b8,hV8⟩:=ak w7 40 #[.slice B9 k d9x,.int .i64 yk,.int .i64 yn,.slice G1 gn1 gc1,.slice G2 gn2 gc2,.slice G3 gn3 gc3];rw[←hW8];have s7:=hS7.out.size;have hS8:Save w3.heap.size W6 W8:=hS7.out.then_ b8;have hU8:=hS8.blk (by omega) hU6.out;have hP8:PS (w2.heap.size+2) w2.heap.size (w2.heap.size+1) A m bs d false W8 u:=(hP5.out.belowW b6.out).below (hS8.below (Nat.le_refl _) (by omega)) (by omega) (by omega) (by omega) (fun h0 x hx=>by have:=hP3.out.a_lt h0 x hx;omega);have hX8:=hX7.out.below b8;have d8:Below w.heap.size w W8:=d6.out.trans (hS8.below (by have:=hB2.out.size;omega) (by have:=d6.out.size;omega));have hRA:RowsAt W8 A9 l:=by
  have h0:=am (hO5.out.below b6.out) (fun b h1 h2=>hS8.block b h2 (by omega));obtain⟨A',c',e,h1⟩:=OwnR.out h0 (by have:=hll.out;unfold maxLen;omega);injection e with e _ _;rw[e];exact h1
 have hOA:ObAt W8 o [.int .i64 xk,.int .i64 xn,.slice F1 fn1 fc1,.slice F2 fn2 fc2,.slice F3 fn3 fc3]:=((hI5.out.keep (fun b _ hb=>b6.out.block b hb) s6).keep (fun b h1 h2=>hS8.block b (by omega) (by omega)) (by have:=hS8.size;omega)).ob;have hRB:RowsAt W8 B9 l:=hR7.out.below b8;have hOB:=hI7.out.kept b8;have cSb:=fun W (hW:Below W8.heap.size W8 W)=>cS.out A9 B9 c9x d9x W (hRA.below hW) (hRB.below hW)
 have c13b:=fun W (hW:Below W8.heap.size W8 W)=>c13.out _ _ W (hOA.kept hW) (hOB.kept hW)
 have cPb:=fun W (hW:Below W8.heap.size W8 W)=>cP.out _ _ _ _ _ W (hP8.belowW hW)
 have x9:=hX8.blk.cell 1;rw[←hq.out]at x9;have kp:∀w',Below W8.heap.size W8 w'→w'.cell? ⟨w5.heap.size,0,none⟩=some (.slice A9 k c9x)∧w'.cell? ⟨w5.heap.size,1,none⟩=some (.int .i64 xk)∧w'.cell? ⟨w5.heap.size,2,none⟩=some (.int .i64 xn)∧w'.cell? ⟨w5.heap.size,3,none⟩=some (.slice F1 fn1 fc1)∧w'.cell? ⟨w5.heap.size,4,none⟩=some (.slice F2 fn2 fc2)∧w'.cell? ⟨w5.heap.size,5,none⟩=some (.slice F3 fn3 fc3)∧w'.cell? ⟨w7.heap.size,0,none⟩=some (.slice B9 k d9x)∧w'.cell? ⟨w7.heap.size,1,none⟩=some (.int .i64 yk)∧w'.cell? ⟨w7.heap.size,2,none⟩=some (.int .i64 yn)∧w'.cell? ⟨w7.heap.size,3,none⟩=some (.slice G1 gn1 gc1)∧w'.cell? ⟨w7.heap.size,4,none⟩=some (.slice G2 gn2 gc2)∧w'.cell? ⟨w7.heap.size,5,none⟩=some (.slice G3 gn3 gc3)∧w'.cell? ⟨w2.heap.size+2,0,none⟩=some (.pointer (some ⟨w2.heap.size+1,0,none⟩))∧w'.cell? ⟨w2.heap.size+1,0,none⟩=some (.pointer (some ⟨w2.heap.size,0,none⟩))∧w'.cell? ⟨w3.heap.size,1,none⟩=some (.int .i64 q):=fun w' hb=>by
  have a:=fun i=>(hb.cell (p:=⟨w5.heap.size,i,none⟩) hU8.lt).trans (hU8.cell i)
  have b:=fun i=>(hb.cell (p:=⟨w7.heap.size,i,none⟩) hV8.lt).trans (hV8.cell i)
  exact⟨a 0,a 1,a 2,a 3,a 4,a 5,b 0,b 1,b 2,b 3,b 4,b 5,(hP8.belowW hb).p0,(hP8.belowW hb).q0,(hb.cell (ac x9)).trans x9⟩
 obtain⟨x0,x1,x2,x3,x4,x5,y0,y1,y2,y3,y4,y5,p0,q0,_⟩:=kp W8 (Below.refl _ _);refine h9_ hU8 hV8 hP8 hX8 kp cSb c13b cPb d8 ?_;clear hU8 hV8 hP8 hX8 kp cSb c13b cPb d8;intro hU8 hV8 hP8 hX8 kp cSb c13b cPb d8;refine h3_ hW8 b8 hS8 ?_;clear hW8 b8 hS8;intro hW8 b8 hS8;clear hRA hRB hOA hOB s3 sP s4 s5 s6 s7
 go_region_held3 (fun w'=>w'.cell? ⟨w5.heap.size,0,none⟩=some (.slice A9 k c9x)∧w'.cell? ⟨w5.heap.size,1,none⟩=some (.int .i64 xk)∧w'.cell? ⟨w5.heap.size,2,none⟩=some (.int .i64 xn)∧w'.cell? ⟨w5.heap.size,3,none⟩=some (.slice F1 fn1 fc1)∧w'.cell? ⟨w5.heap.size,4,none⟩=some (.slice F2 fn2 fc2)∧w'.cell? ⟨w5.heap.size,5,none⟩=some (.slice F3 fn3 fc3)∧w'.cell? ⟨w7.heap.size,0,none⟩=some (.slice B9 k d9x)∧w'.cell? ⟨w7.heap.size,1,none⟩=some (.int .i64 yk)∧w'.cell? ⟨w7.heap.size,2,none⟩=some (.int .i64 yn)∧w'.cell? ⟨w7.heap.size,3,none⟩=some (.slice G1 gn1 gc1)∧w'.cell? ⟨w7.heap.size,4,none⟩=some (.slice G2 gn2 gc2)∧w'.cell? ⟨w7.heap.size,5,none⟩=some (.slice G3 gn3 gc3)∧w'.cell? ⟨w2.heap.size+2,0,none⟩=some (.pointer (some ⟨w2.heap.size+1,0,none⟩))∧w'.cell? ⟨w2.heap.size+1,0,none⟩=some (.pointer (some ⟨w2.heap.size,0,none⟩))∧w'.cell? ⟨w3.heap.size,1,none⟩=some (.int .i64 q))
  (first|go_keep|exact kp.out _ hB9|exact kp.out _ hB10)
  (
   first
   |(go_at_call 12;(with_reducible refine (cSb.out _ (by first|exact Below.refl _ _|exact (Below.refl _ _).drew)).mono ?_);rintro e w9 ⟨rfl,hB9⟩;replace hB9:Below W8.heap.size W8 w9:=(by first|exact (Below.refl _ _).drew.trans hB9|exact hB9))
   |(go_at_call 13;(with_reducible refine (c13b.out _ (by first|exact hB9|exact hB9.drew)).mono ?_);rintro e w10 ⟨rfl,hB10⟩;replace hB10:Below W8.heap.size W8 w10:=(by first|exact ah hB9 hB10|exact ah hB9.drew hB10))
   |(go_at_call 14;(with_reducible refine (cPb.out _ (by first|exact hB10|exact hB10.drew)).mono ?_);rintro e w11 ⟨rfl,rfl⟩))
 all_goals
  go_wp2
  go_ret
  exact⟨rfl,ah d8.out hB10⟩
end
section
open Go Go.RowKit Go.Wk Go.WideShapes
theorem ir {P:Program}{w:World}{x:String×DataW Unit}{l:List (String×DataW Unit)}(h:laidMet P (x :: l) w):laidMet P l w:=by
 obtain⟨ps,⟨g,t,cs,fuel,p,q,_,_,_,_,hq,hp⟩,hnd,hc⟩:=h;subst hp;exact⟨q,hq,(List.nodup_append.1 hnd).2.1,fun b off h=>hc b off (List.mem_append_right _ h)⟩
theorem sQ {W:World}{a b:String×DataW Unit}{rest:List (String×DataW Unit)}(h:laidMet Tryz.prog (a :: b :: ("internal/strconv.uint64pow10",Rows.laid_internal_strconv_uint64pow10) :: rest) W):Tab W:=by
 have h3:=ir (ir h);have e:(Rows.laid_internal_strconv_uint64pow10:DataW Unit)=Lib.tabData .u64 Lib.pow10Tab:=by kernel_rfl
 rw[e]at h3;exact Lib.tabIs_of_head (g:=1) (t:=236) (e:=163) (n:=20) (by kernel_rfl) (by kernel_rfl) Tryz.underlying236 Tryz.underlying163 (by kernel_rfl) (by kernel_rfl) h3
end
section
open Go Go.RowKit Go.Wk Go.WideShapes
theorem oU {W:World}{base:Nat}{v:Value}(hv:Value.okWide Tryz.prog W .any base 3 v):∃n,v=.int .i64 n:=by
 exact okWide_int Tryz.underlying3 hv
end
end Go.Proofs.YthffpbkndnhlfaaGreatDoor
