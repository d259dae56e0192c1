/- Walks and laws, joined: part F. No condition. -/
import Derived.Test.YthffpbkndnhlfaaGreatDoorTrJE
import Derived.Test.YthffpbkndnhlfaaGreatDoorTrJA
import Derived.Test.YthffpbkndnhlfaaGreatDoorTrJD
import Derived.Maps.OwnSet
import Derived.Lib.SlBytesConst
import Derived.BigRegion
set_option linter.unusedSimpArgs false
set_option linter.unusedVariables false
set_option maxRecDepth 100000
set_option maxHeartbeats 32000000
namespace Go.Proofs.YthffpbkndnhlfaaGreatDoor
open Go Go.RowKit Go.Wk
def aG (K:List UInt8) (d:List (List UInt8×Ob)):Nat:=(d.takeWhile fun e=>ltB e.1 K).length
def dJ (K:List UInt8) (X:Ob) (d:List (List UInt8×Ob)):List (List UInt8×Ob):=d.take (aG K d)++[(K,X)]++d.drop (aG K d)
theorem dp (K:List UInt8) (d:List (List UInt8×Ob)):aG K d≤d.length:=by
 unfold aG
 induction d with
 |nil=>simp
 |cons e r ih=>simp only[List.takeWhile_cons];split <;> simp <;> omega
theorem gP (K:List UInt8):∀(d:List (List UInt8×Ob)) (i:Nat) (h:i<d.length),i<aG K d→ltB d[i].1 K=true
 |[],i,h,_=>by simp at h
 |e :: r,i,h,hi=>by
  unfold aG at hi;simp only[List.takeWhile_cons]at hi;split at hi
  ·rename_i hb
   cases i with
   |zero=>exact hb
   |succ i=>exact gP K r i (by simpa using h) (by unfold aG;simpa using hi)
  ·simp at hi
theorem gO (K:List UInt8):∀(d:List (List UInt8×Ob)) (h:aG K d<d.length),ltB d[aG K d].1 K=false
 |[],h=>by simp at h
 |e :: r,h=>by
  by_cases hb:ltB e.1 K=true
  ·have hp:aG K (e :: r)=aG K r+1:=by unfold aG;simp[List.takeWhile_cons,hb]
   have h2:aG K r<r.length:=by rw[hp]at h;simpa using h
   have:=gO K r h2;simp only[hp,List.getElem_cons_succ];exact this
  ·have hp:aG K (e :: r)=0:=by unfold aG;simp[List.takeWhile_cons,hb]
   simp only[hp,List.getElem_cons_zero]
   simpa using hb
theorem gC (K:List UInt8) (X:Ob) (d:List (List UInt8×Ob)):(dJ K X d).length=d.length+1:=by
 have:=dp K d;unfold dJ;simp;omega
theorem qB (K:List UInt8) (X:Ob) (d:List (List UInt8×Ob)) (i:Nat) (hi:i<(dJ K X d).length) :
 (∃h:i<d.length,i<aG K d∧(dJ K X d)[i]=d[i])∨(i=aG K d∧(dJ K X d)[i]=(K,X))∨(∃h:i - 1<d.length,aG K d<i∧(dJ K X d)[i]=d[i - 1]):=by
 have hp:=dp K d;have hl:=gC K X d;rcases Nat.lt_trichotomy i (aG K d) with h|h|h
 ·refine .inl ⟨by omega,h,?_⟩
  have:(dJ K X d)[i]?=d[i]?:=by
   unfold dJ;rw[List.append_assoc,List.getElem?_append_left (by simp;omega),List.getElem?_take,if_pos h]
  rw[List.getElem?_eq_getElem hi,List.getElem?_eq_getElem (by omega)]at this;injection this
 ·refine .inr (.inl ⟨h,?_⟩)
  have:(dJ K X d)[i]?=some (K,X):=by
   unfold dJ;rw[List.append_assoc,List.getElem?_append_right (by simp;omega)];simp[h,Nat.min_eq_left hp]
  rw[List.getElem?_eq_getElem hi]at this;injection this
 ·refine .inr (.inr ⟨by omega,h,?_⟩)
  have:(dJ K X d)[i]?=d[i - 1]?:=by
   unfold dJ;rw[List.append_assoc,List.getElem?_append_right (by simp;omega)];simp only[List.length_take,Nat.min_eq_left hp];rw[List.getElem?_append_right (by simp;omega)];simp only[List.length_cons,List.length_nil,List.getElem?_drop]
   congr 1
   omega
  rw[List.getElem?_eq_getElem hi,List.getElem?_eq_getElem (by omega)]at this;injection this
def vlE (p:Nat) (vl:Nat→List Value) (x:List Value) (i:Nat):List Value:=if i<p then vl i else if i=p then x else vl (i - 1)
theorem pY (p n:Nat) (hp:p≤n) (vl:Nat→List Value) (x:List Value):((List.range p).map vl).flatten++x++((List.range (n - p)).map fun i=>vl (p+i)).flatten=((List.range (n+1)).map (vlE p vl x)).flatten:=by
 have e:n+1=p+(1+(n - p)):=by omega
 rw[e,List.range_add,List.range_add,List.map_append,List.flatten_append,List.map_map,List.map_append,List.flatten_append,List.append_assoc]
 congr 1
 ·congr 1
  refine List.map_congr_left fun i hi=>?_
  unfold vlE;rw[if_pos (List.mem_range.1 hi)]
 ·congr 1
  ·simp[vlE]
  ·rw[List.map_map]
   congr 1
   refine List.map_congr_left fun i hi=>?_
   simp only[Function.comp,vlE];rw[if_neg (by omega),if_neg (by omega)]
   congr 1
   omega
def bC (d:List (List UInt8×Ob)) (i:Nat):List UInt8:=match d[i]? with
 |some e=>e.1
 |none=>[]
theorem bR {d:List (List UInt8×Ob)}{i:Nat}(h:i<d.length):bC d i=d[i].1:=by unfold bC;rw[List.getElem?_eq_getElem h]
theorem sA {w:World}{k n:Int}{b:List UInt8}{l:List Ob}{d:List (List UInt8×Ob)}{vB vL vD v:Value}{B:Nat}{K:List UInt8}{X:Ob}{xs:List Value}{vd:Nat→List Value}(h:ObAt w (.mk k n b l d) [.int .i64 k,.int .i64 n,vB,vL,vD])
 (hvd:∀i (hi:i<d.length),ObAt w d[i].2 (vd i)) (hkl:∀i (hi:i<d.length),d[i].1.length≤maxLen) (hKl:K.length≤maxLen) (hX:ObAt w X xs)
 (hv:w.ownsRow B 91 6 v (d.length+1) (((List.range (aG K d)).map fun i=>bE (bC d i) :: vd i).flatten++(bE K :: xs)++((List.range (d.length - aG K d)).map fun i=>bE (bC d (aG K d+i)) :: vd (aG K d+i)).flatten)) :
 ObAt w (.mk k n b l (dJ K X d)) [.int .i64 k,.int .i64 n,vB,vL,v]:=by
 have hp:=dp K d;rw[pY _ _ hp (fun i=>bE (bC d i) :: vd i)]at hv;have h6:∀i,i<d.length+1→(vlE (aG K d) (fun i=>bE (bC d i) :: vd i) (bE K :: xs) i).length=6:=fun i hi=>by
  unfold vlE;split
  ·simp[(hvd i (by omega)).five]
  ·split
   ·simp[hX.five]
   ·simp[(hvd (i - 1) (by omega)).five]
 have hcap:∀A c,v=.slice A (d.length+1) c→d.length+1≤c∧d.length+1≤maxLen:=fun A c e=>by
  rcases hv.2 with ⟨e2,hn⟩|⟨g,cap,cur,e2,hB,hh,hnc,hcm,_⟩
  ·omega
  ·rw[e]at e2;injection e2 with _ _ e3;subst e3;omega
 obtain⟨A,g,c,rfl,q1,q2⟩:=eL hv h6;obtain⟨hc1,hc2⟩:=hcap A c rfl;have hen:∀i (hi:i<(dJ K X d).length),∃us,vlE (aG K d) (fun i=>bE (bC d i) :: vd i) (bE K :: xs) i=bE (dJ K X d)[i].1 :: us∧(dJ K X d)[i].1.length≤maxLen∧ObAt w (dJ K X d)[i].2 us:=fun i hi=>by
  rcases qB K X d i hi with ⟨h1,h2,h3⟩|⟨h1,h2⟩|⟨h1,h2,h3⟩
  ·rw[h3]
   refine⟨vd i,?_,hkl i h1,hvd i h1⟩;unfold vlE;rw[if_pos h2];show bE (bC d i) :: vd i=_
   rw[bR h1]
  ·rw[h2]
   refine⟨xs,?_,hKl,hX⟩;unfold vlE;rw[if_neg (by omega),if_pos h1]
  ·rw[h3]
   refine⟨vd (i - 1),?_,hkl _ h1,hvd _ h1⟩;unfold vlE;rw[if_neg (by omega),if_neg (by omega)];show bE (bC d (i - 1)) :: vd (i - 1)=_
   rw[bR h1]
 cases h with
 |mk _ _ _ _ _ A0 AL AD c0 cL cD gL oL gD oD vl vd0 h1 h2 h3 h4 h5 h6 h7 h8 h9 h10 h11 hAL hl hlv hAD hdo hdk hdv=>
 have hlen:=gC K X d;rw[←hlen]at q1 q2 hc1 hc2⊢;refine ObAt.mk k n b l (dJ K X d) A0 AL A c0 cL c gL oL g 0 vl (fun i=>(vlE (aG K d) (fun i=>bE (bC d i) :: vd i) (bE K :: xs) i).drop 1) h1 h2 h3 h4 h5 h6 h7 h8 h9 hc1 hc2 hAL hl hlv q1 (fun i hi=>?_) (fun i hi=>?_) (fun i hi j hj=>?_)
 ·obtain⟨us,e1,e2,e3⟩:=hen i hi
  show ObAt w _ ((vlE _ _ _ i).drop 1)
  rw[e1];exact e3
 ·obtain⟨us,e1,e2,e3⟩:=hen i hi
  have:=q2 i hi 0 (by omega);rw[e1]at this;exact⟨e2,by simpa using this⟩
 ·have:=q2 i hi (1+j) (by omega)
  show _=((vlE _ _ _ i).drop 1)[j]?
  rw[List.getElem?_drop,←this]
  congr 2
  omega
theorem ObI.ents {lo hi:Nat}{w:World}{k n:Int}{b:List UInt8}{l:List Ob}{d:List (List UInt8×Ob)}{vs:List Value}(h:ObI lo hi w (.mk k n b l d) vs):∃(A AL AD:Option Addr) (c cL cD gD oD:Nat) (vd:Nat→List Value),
 vs=[.int .i64 k,.int .i64 n,.slice A b.length c,.slice AL l.length cL,.slice AD d.length cD]∧d.length≤cD∧(0<d.length→AD=some ⟨gD,oD,none⟩)∧(∀i (h:i<d.length),ObI lo hi w d[i].2 (vd i))∧
 (∀i,(h:i<d.length)→d[i].1.length≤maxLen∧w.cell? ⟨gD,oD+6*i,none⟩=some (bE d[i].1))∧(∀i,i<d.length→∀j,j<5→w.cell? ⟨gD,oD+(6*i+1+j),none⟩=(vd i)[j]?):=by
 have h0:=h.ob;have hs:=h.1;obtain⟨vs',hvs⟩:∃x,x=vs:=⟨_,rfl⟩;rw[←hvs]at h0⊢;cases h0 with
 |mk _ _ _ _ _ A AL AD c cL cD gL oL gD oD vl vd h1 h2 h3 h4 h5 h6 h7 h8 h9 h10 h11 hAL hl hlv hAD hdo hdk hdv=>
 refine⟨A,AL,AD,c,cL,cD,gD,oD,vd,rfl,h10,hAD,fun i hi'=>⟨hs,fun w' hb hz=>?_⟩,hdk,hdv⟩;have hA:=hAD (by omega)
 -- the row lies in between
 have hin:lo≤gD∧gD<hi:=by
  by_cases hq:lo≤gD∧gD<hi
  ·exact hq
  ·exfalso
   obtain⟨w2,hw2⟩:∃w2:World,w2={w with heap:=w.heap.setIfInBounds gD (.cells #[] 0)}:=⟨_,rfl⟩;have hz2:w2.heap.size=w.heap.size:=by rw[hw2];simp
   have h9:=h.2 w2 (fun b hb1 hb2=>by
    rw[hw2];show (w.heap.setIfInBounds gD _)[b]?=_
    rw[Array.getElem?_setIfInBounds_ne (by omega)]) (by omega)
   obtain⟨vs2,hvs2⟩:∃x,x=vs:=⟨_,rfl⟩;rw[←hvs2]at h9;rw[←hvs2]at hvs;cases h9 with
   |mk _ _ _ _ _ A' AL' AD' c' cL' cD' gL' oL' gD' oD' vl' vd' j1 j2 j3 j4 j5 j6 j7 j8 j9 j10 j11 jAL jl jlv jAD jdo jdk jdv=>
   simp only[List.cons.injEq,Value.slice.injEq,and_true,true_and]at hvs;have e:=hvs.2.2.1;rw[jAD (by omega),hA]at e;injection e with e;injection e with e1 e2;have hk:=(jdk 0 (by omega)).2;have hlt:gD<w.heap.size:=ac (hdk 0 (by omega)).2;have:w2.cell? ⟨gD',oD'+6*0,none⟩=none:=by
    rw[←e1,hw2];simp[World.cell?,hlt]
   rw[this]at hk;cases hk
 have h9:=h.2 w' hb hz;obtain⟨vs2,hvs2⟩:∃x,x=vs:=⟨_,rfl⟩;rw[←hvs2]at h9;rw[←hvs2]at hvs;cases h9 with
 |mk _ _ _ _ _ A' AL' AD' c' cL' cD' gL' oL' gD' oD' vl' vd' j1 j2 j3 j4 j5 j6 j7 j8 j9 j10 j11 jAL jl jlv jAD jdo jdk jdv=>
 simp only[List.cons.injEq,Value.slice.injEq,and_true,true_and]at hvs;have e:=hvs.2.2.1;rw[jAD (by omega),hA]at e;injection e with e;injection e with e1 e2;subst e1;subst e2;have hv:vd' i=vd i:=by
  refine List.ext_getElem? fun j=>?_
  rcases Nat.lt_or_ge j 5 with hj|hj
  ·have a1:=jdv i hi' j hj
   have a2:=hdv i hi' j hj;rw[←a1,←a2];exact World.cell?_of_block (hb gD hin.1 hin.2)
  ·rw[List.getElem?_eq_none (by rw[(jdo i hi').five];exact hj),List.getElem?_eq_none (by rw[(hdo i hi').five];exact hj)]
 rw[←hv];exact jdo i hi'
theorem sL (w:World) (AD:Option Addr) (gD oD cD:Nat) (d:List (List UInt8×Ob)) (vd:Nat→List Value) (KB:ByteArray) (X:Ob) (x0 x1 x2 x3 x4:Value) (hn:d.length≤100000000) (hc:d.length≤cD) (hAD:0<d.length→AD=some ⟨gD,oD,none⟩)
 (hdo:∀i (h:i<d.length),ObAt w d[i].2 (vd i)) (hdk:∀i,(h:i<d.length)→d[i].1.length≤maxLen∧w.cell? ⟨gD,oD+6*i,none⟩=some (bE d[i].1)) (hdv:∀i,i<d.length→∀j,j<5→w.cell? ⟨gD,oD+(6*i+1+j),none⟩=(vd i)[j]?)
 (hX:ObAt w X [x0,x1,x2,x3,x4]) (hno:∀e∈d,(e.1 == KB.data.toList)=false) :
 Calls Tryz.prog 189 #[.slice AD d.length cD,.agg #[.string KB,x0,x1,x2,x3,x4],.func (.func 191) #[] #[],.bool true] w fun e w'=>∃v,e=.returned v∧
  w'.ownsRow w.heap.size 91 6 v (d.length+1) (((List.range (aG KB.data.toList d)).map fun i=>bE (bC d i) :: vd i).flatten++[.string KB,x0,x1,x2,x3,x4]++((List.range (d.length - aG KB.data.toList d)).map fun i=>bE (bC d (aG KB.data.toList d+i)) :: vd (aG KB.data.toList d+i)).flatten)∧Below w.heap.size w w':=by
 refine rk w AD gD oD d.length cD (fun i=>bE (bC d i) :: vd i) (fun i=>bytes (bC d i)) KB x0 x1 x2 x3 x4 (aG KB.data.toList d) (dp _ _) hn hc hAD (fun i hi=>?_) (fun i hi j hj=>?_) (fun i hi u hu=>?_) (fun u hu=>?_) (fun i hi=>?_) (fun hi=>?_) (fun i hi=>?_)
 ·have h5:=(hdo i hi).five
  match h:vd i,h5 with
  |[c1,c2,c3,c4,c5],_=>exact⟨c1,c2,c3,c4,c5,rfl⟩
 ·show _=(bE (bC d i) :: vd i)[j]?
  cases j with
  |zero=>rw[bR hi];exact (hdk i hi).2
  |succ j=>
   rw[List.getElem?_cons_succ,←hdv i hi j (by omega)]
   congr 2
   omega
 ·simp only[List.mem_cons]at hu
  rcases hu with rfl|hu
  ·rfl
  ·exact ea (hdo i hi) u hu
 ·simp only[List.mem_cons]at hu
  rcases hu with rfl|hu
  ·rfl
  ·exact ea hX u (by simpa using hu)
 ·have hp:=dp KB.data.toList d
  show ltB (bC d i) _=true
  rw[bR (by omega)];exact gP _ d i (by omega) hi
 ·show ltB (bC d _) _=false
  rw[bR hi];exact gO _ d hi
 ·show (bC d i == _)=false
  rw[bR hi];exact hno _ (List.getElem_mem hi)
theorem pB (w:World) (AL:Option Addr) (g oL n cL:Nat) (vl:Nat→List Value) (key:Nat→ByteArray) (K:ByteArray) (X0 X1 X2 X3 X4:Value) (k:Nat) (hk:k≤n) (hn:n≤100000000) (hnc:n≤cL) (hA:0<n→AL=some ⟨g,oL,none⟩)
 (h5:∀i,i<n→∃c1 c2 c3 c4 c5,vl i=[.string (key i),c1,c2,c3,c4,c5]) (hc:∀i,i<n→∀j,j<6→w.cell? ⟨g,oL+(6*i+j),none⟩=(vl i)[j]?) (h1:∀i,i<n→∀u∈vl i,u.oneCell'=true)
 (hX:∀u∈[Value.string K,X0,X1,X2,X3,X4],u.oneCell'=true)
 (hlt:∀i,i<k→ltB (key i).data.toList K.data.toList=true) (hge:k<n→ltB (key k).data.toList K.data.toList=false) (hne:∀i,i<n→((key i).data.toList == K.data.toList)=false) :
 Calls Tryz.prog 189 #[.slice AL n cL,.agg #[.string K,X0,X1,X2,X3,X4],.func (.func 191) #[] #[],.bool false] w fun e w'=>∃v,e=.returned v∧
  w'.ownsRow w.heap.size 91 6 v n (((List.range k).map vl).flatten++((List.range (n - k)).map fun i=>vl (k+i)).flatten)∧Below w.heap.size w w':=by
 obtain⟨W1,hW1⟩:∃W,W=w.alloc (.cells #[.string K,X0,X1,X2,X3,X4] 91):=⟨_,rfl⟩;obtain⟨W2,hW2⟩:∃W,W=W1.alloc (.cells #[.func (.func 191) #[] #[]] 225):=⟨_,rfl⟩;have z1:W1.heap.size=w.heap.size+1:=by rw[hW1,World.size_alloc]
 have z2:W2.heap.size=w.heap.size+2:=by rw[hW2,World.size_alloc,z1]
 have hb1:Below w.heap.size w W1:=by rw[hW1];exact (Below.refl _ _).alloc (Nat.le_refl _) _
 have hb12:Below W1.heap.size W1 W2:=by rw[hW2];exact (Below.refl _ _).alloc (Nat.le_refl _) _
 have hb2:Below w.heap.size w W2:=ah hb1 hb12;have fX:=bq (ec hW1) hb12;have fC:W2.cell? ⟨w.heap.size+1,0,none⟩=some (.func (.func 191) #[] #[]):=by rw[hW2,←z1];simp
 -- the closures
 have h6:∀i,i<n→(vl i).length=6:=fun i hi=>by obtain⟨c1,c2,c3,c4,c5,e⟩:=h5 i hi;rw[e];rfl
 have cge:∀W,Below W2.heap.size W2 W→∀i W',i<n→Below W.heap.size W W'→Calls Tryz.prog 208 #[.agg (vl i).toArray,.pointer (some ⟨w.heap.size+1,0,none⟩),.pointer (some ⟨w.heap.size,0,none⟩)] W' fun e w'=>e=.returned (.bool (!ltB (key i).data.toList K.data.toList))∧Below W'.heap.size W' w':=fun W hW i W' hi hB=>by
  obtain⟨c1,c2,c3,c4,c5,e⟩:=h5 i hi;have hD:=ah hW hB;rw[e,←kM];exact nT (key i) K c1 c2 c3 c4 c5 X0 X1 X2 X3 X4 W' _ _ ((hD.cell (ac fC)).trans fC) (bq fX hD)
 have ceq:∀W,Below W2.heap.size W2 W→∀i W',i<n→Below W.heap.size W W'→Calls Tryz.prog 209 #[.agg (vl i).toArray,.pointer (some ⟨w.heap.size+1,0,none⟩),.pointer (some ⟨w.heap.size,0,none⟩)] W' fun e w'=>e=.returned (.bool ((key i).data.toList == K.data.toList))∧Below W'.heap.size W' w':=fun W hW i W' hi hB=>by
  obtain⟨c1,c2,c3,c4,c5,e⟩:=h5 i hi;have hD:=ah hW hB;rw[e,←iT];exact nS (key i) K c1 c2 c3 c4 c5 X0 X1 X2 X3 X4 W' _ _ ((hD.cell (ac fC)).trans fC) (bq fX hD)
 have hcW:∀W,Below w.heap.size w W→∀i,i<n→∀j,j<6→W.cell? ⟨g,oL+(6*i+j),none⟩=(vl i)[j]?:=fun W hW i hi j hj=>by
  have h9:=hc i hi j hj;obtain⟨u,hu⟩:∃u,(vl i)[j]?=some u:=⟨_,List.getElem?_eq_getElem (by rw[h6 i hi];exact hj)⟩;rw[hu]at h9⊢;exact (hW.cell (ac h9)).trans h9
 -- the calls
 have c104:=lY W2 AL g oL n cL (w.heap.size+1) w.heap.size (fun i=>!ltB (key i).data.toList K.data.toList) vl (by omega) hA h6 (hcW W2 hb2) (fun i W hi hB=>cge W2 (Below.refl _ _) i W hi hB);have cl1:∀W,Below W2.heap.size W2 W→Calls Tryz.prog 211 #[.slice AL k cL] W fun e w'=>∃v,e=.returned v∧w'.ownsRow W.heap.size 91 6 v k ((List.range k).map vl).flatten∧Below W.heap.size W w':=fun W hW=>
  fx W AL g oL k cL vl (by omega) (fun h=>hA (by omega)) (fun i hi=>h6 i (by omega)) (fun i hi=>hcW W (ah hb2 hW) i (by omega)) (fun i hi=>h1 i (by omega))
 have cl2:∀W AL2 c2,Below W2.heap.size W2 W→(0<n - k→AL2=some ⟨g,oL+6*k,none⟩)→Calls Tryz.prog 211 #[.slice AL2 (n - k) c2] W fun e w'=>∃v,e=.returned v∧w'.ownsRow W.heap.size 91 6 v (n - k) ((List.range (n - k)).map fun i=>vl (k+i)).flatten∧Below W.heap.size W w':=fun W AL2 c2 hW a1=>by
  refine fx W AL2 g (oL+6*k) (n - k) c2 (fun i=>vl (k+i)) (by omega) a1 (fun i hi=>h6 (k+i) (by omega)) (fun i hi j hj=>?_) (fun i hi=>h1 (k+i) (by omega));rw[←hcW W (ah hb2 hW) (k+i) (by omega) j hj]
  congr 2
  omega
 have cd1:∀W v,Below W2.heap.size W2 W→W.ownsRow W2.heap.size 91 6 v k ((List.range k).map vl).flatten→Calls Tryz.prog 210 #[v,.func (.func 209) #[] #[.pointer (some ⟨w.heap.size+1,0,none⟩),.pointer (some ⟨w.heap.size,0,none⟩)]] W fun e w'=>e=.returned v∧Below W.heap.size W w':=fun W v hW hO=>by
  obtain⟨A,g',c,rfl,q1,q2⟩:=eL hO (fun i hi=>h6 i (by omega));exact fg W A g' 0 k c _ _ (fun i=>(key i).data.toList == K.data.toList) vl (by omega) q1 (fun i hi=>h6 i (by omega)) q2 (fun i W' hi hB=>ceq W hW i W' (by omega) hB) (fun i hi=>hne i (by omega))
 have cd2:∀W v,Below W2.heap.size W2 W→W.ownsRow W2.heap.size 91 6 v (n - k) ((List.range (n - k)).map fun i=>vl (k+i)).flatten→Calls Tryz.prog 210 #[v,.func (.func 209) #[] #[.pointer (some ⟨w.heap.size+1,0,none⟩),.pointer (some ⟨w.heap.size,0,none⟩)]] W fun e w'=>e=.returned v∧Below W.heap.size W w':=fun W v hW hO=>by
  obtain⟨A,g',c,rfl,q1,q2⟩:=eL hO (fun i hi=>h6 (k+i) (by omega));exact fg W A g' 0 (n - k) c _ _ (fun i=>(key (k+i)).data.toList == K.data.toList) (fun i=>vl (k+i)) (by omega) q1 (fun i hi=>h6 (k+i) (by omega)) q2 (fun i W' hi hB=>ceq W hW (k+i) W' (by omega) hB) (fun i hi=>hne (k+i) (by omega))
 obtain⟨m,hm⟩:∃m,m=n - k:=⟨_,rfl⟩;rw[←hm]at cl2 cd2⊢;obtain⟨F1,hF1⟩:∃F,F=((List.range k).map vl).flatten:=⟨_,rfl⟩;obtain⟨F2,hF2⟩:∃F,F=((List.range m).map fun i=>vl (k+i)).flatten:=⟨_,rfl⟩;have o2:∀u∈F2,u.oneCell'=true:=fun u hu=>by
  rw[hF2]at hu;obtain⟨l,hl,hul⟩:=List.mem_flatten.1 hu;obtain⟨i,hi,rfl⟩:=List.mem_map.1 hl;exact h1 (k+i) (by have:=List.mem_range.1 hi;omega) u hul
 rw[←hF1]at cl1 cd1⊢;rw[←hF2]at cl2 cd2⊢;have hfi:du (fun i=>!ltB (key i).data.toList K.data.toList) n=if k<n then (k:Int) else -1:=by
  by_cases h:k<n
  ·rw[if_pos h];exact eJ h (fun i hi=>by simp[hlt i hi]) (by simp[hge h])
  ·rw[if_neg h];exact dX fun i hi=>by simp[hlt i (by omega)]
 rw[hfi]at c104;clear cge ceq hcW hc h5 h1 hlt hge hne hfi h6;obtain⟨f0,f1,f2,f3,f4,f5⟩:=id fX;refine h9_ hA fX fC hb2 hb1 hb12 cl1 cl2 cd1 ?_;clear hA fX fC hb2 hb1 hb12 cl1 cl2 cd1;intro hA fX fC hb2 hb1 hb12 cl1 cl2 cd1;refine h5_ cd2 hF1 hF2 o2 hX ?_;clear cd2 hF1 hF2 o2 hX;intro cd2 hF1 hF2 o2 hX;obtain⟨i0,hi0,hz0,hz1,hz2⟩:=eI;refine h4_ hi0 hz0 hz1 hz2 ?_;clear hi0 hz0 hz1 hz2;intro hi0 hz0 hz1 hz2;go_enter Tryz.func189,Tryz.ntmps189;go_upto_region 1 with (fail)
 rw[←hW1,←hW2];replace hW1:=hi_ hW1;replace hW2:=hi_ hW2;by_cases hkn:k<n
 ·rw[if_pos hkn]at c104
  subst hm;go_wp2_with (first
   |(go_at_call 168;(with_reducible refine c104.mono ?_);rintro e w3 ⟨rfl,hB3⟩;have c108:=cl1.out w3 hB3;replace hB3:=hi_ hB3)
   |(go_at_call 211;(with_reducible refine c108.mono ?_);rintro e w4 ⟨v4,rfl,hO4,hB4⟩;replace hO4:=aR hO4 hB3.out.size;have hD4:=ah hB3.out hB4;have c107:=cd1.out w4 v4 hD4 hO4;replace hO4:=hi_ hO4;replace hD4:=hi_ hD4;clear hB4 c108)
   |(go_at_call 210;(with_reducible refine c107.mono ?_);rintro e w5 ⟨rfl,hB5⟩;have hD5:=ah hD4.out hB5;have hO5:=am hO4.out (fun b _ hb=>hB5.block b hb);have c108b:=cl2.out w5 (Option.map (fun x=>x.add (k*6)) AL) (cL - k) hD5 (fun h=>by rw[hA.out (by omega)];simp[Addr.add,Nat.mul_comm]);replace hD5:=hi_ hD5;replace hO5:=hi_ hO5;clear hB5 c107)
   |(go_at_call 211;(with_reducible refine c108b.mono ?_);rintro e w7 ⟨v7,rfl,hO7,hB7⟩;replace hO7:=aR hO7 hD5.out.size;have hD7:=ah hD5.out hB7;have c107b:=cd2.out w7 v7 hD7 hO7;have hP7:=am hO5.out (fun b _ hb=>hB7.block b hb);replace hO7:=hi_ hO7;replace hD7:=hi_ hD7;replace hP7:=hi_ hP7;clear hB7 c108b)
   |(go_at_call 210;(with_reducible refine c107b.mono ?_);rintro e w8 ⟨rfl,hB8⟩;have hD8:=ah hD7.out hB8;have hO8:=am hO7.out (fun b _ hb=>hB8.block b hb);have hP8:=am hP7.out (fun b _ hb=>hB8.block b hb);replace hO8:=hi_ hO8;replace hP8:=hi_ hP8;replace hD8:=hi_ hD8;clear hB8 c107b)
   |(at_builtin;refine dy rfl _ _ rfl W2.heap.size v4 k F1 rfl hP8.out W2.heap.size _ (n - k) F2 rfl hO8.out o2.out (by omega) hD8.out.size ?_;intro v9 w9 hO9 hg9;have hD9:Below W2.heap.size W2 w9:=hD8.out.grown hg9 hD8.out.size (fun q hq=>(World.ownsRow.lt hP8.out _ hq).1);replace hO9:=hi_ hO9;replace hD9:=hi_ hD9;clear hg9))
  go_ret
  exact⟨v9,rfl,by have h9:=aR hO9.out (B':=w.heap.size) (by omega);rw[show k+(n - k)=n by omega]at h9;exact h9,hb2.out.trans (hD9.out.mono (by omega))⟩
 ·obtain rfl:k=n:=by omega
  rw[if_neg (by omega)]at c104;obtain rfl:m=0:=by omega
  clear hm;by_cases hck:cL=k
  ·replace hck:=hck.symm
   subst hck;go_wp2_with (first
    |(go_at_call 168;(with_reducible refine c104.mono ?_);rintro e w3 ⟨rfl,hB3⟩;have c108:=cl1.out w3 hB3;replace hB3:=hi_ hB3)
    |(go_at_call 211;(with_reducible refine c108.mono ?_);rintro e w4 ⟨v4,rfl,hO4,hB4⟩;replace hO4:=aR hO4 hB3.out.size;have hD4:=ah hB3.out hB4;have c107:=cd1.out w4 v4 hD4 hO4;replace hO4:=hi_ hO4;replace hD4:=hi_ hD4;clear hB4 c108)
    |(go_at_call 210;(with_reducible refine c107.mono ?_);rintro e w5 ⟨rfl,hB5⟩;have hD5:=ah hD4.out hB5;have hO5:=am hO4.out (fun b _ hb=>hB5.block b hb);have c108b:=cl2.out w5 AL 0 hD5 (fun h=>by omega);replace hD5:=hi_ hD5;replace hO5:=hi_ hO5;clear hB5 c107)
    |(go_at_call 211;(with_reducible refine c108b.mono ?_);rintro e w7 ⟨v7,rfl,hO7,hB7⟩;replace hO7:=aR hO7 hD5.out.size;have hD7:=ah hD5.out hB7;have c107b:=cd2.out w7 v7 hD7 hO7;have hP7:=am hO5.out (fun b _ hb=>hB7.block b hb);replace hO7:=hi_ hO7;replace hD7:=hi_ hD7;replace hP7:=hi_ hP7;clear hB7 c108b)
    |(go_at_call 210;(with_reducible refine c107b.mono ?_);rintro e w8 ⟨rfl,hB8⟩;have hD8:=ah hD7.out hB8;have hO8:=am hO7.out (fun b _ hb=>hB8.block b hb);have hP8:=am hP7.out (fun b _ hb=>hB8.block b hb);replace hO8:=hi_ hO8;replace hP8:=hi_ hP8;replace hD8:=hi_ hD8;clear hB8 c107b)
    |(at_builtin;refine dy rfl _ _ rfl W2.heap.size v4 k F1 rfl hP8.out W2.heap.size _ 0 F2 rfl hO8.out o2.out (by omega) hD8.out.size ?_;intro v9 w9 hO9 hg9;have hD9:Below W2.heap.size W2 w9:=hD8.out.grown hg9 hD8.out.size (fun q hq=>(World.ownsRow.lt hP8.out _ hq).1);replace hO9:=hi_ hO9;replace hD9:=hi_ hD9;clear hg9))
   go_ret
   exact⟨v9,rfl,by have h9:=aR hO9.out (B':=w.heap.size) (by omega);exact h9,hb2.out.trans (hD9.out.mono (by omega))⟩
  ·have hck2:cL - k≠0:=by omega
   go_wp2_with (first
    |(go_at_call 168;(with_reducible refine c104.mono ?_);rintro e w3 ⟨rfl,hB3⟩;have c108:=cl1.out w3 hB3;replace hB3:=hi_ hB3)
    |(go_at_call 211;(with_reducible refine c108.mono ?_);rintro e w4 ⟨v4,rfl,hO4,hB4⟩;replace hO4:=aR hO4 hB3.out.size;have hD4:=ah hB3.out hB4;have c107:=cd1.out w4 v4 hD4 hO4;replace hO4:=hi_ hO4;replace hD4:=hi_ hD4;clear hB4 c108)
    |(go_at_call 210;(with_reducible refine c107.mono ?_);rintro e w5 ⟨rfl,hB5⟩;have hD5:=ah hD4.out hB5;have hO5:=am hO4.out (fun b _ hb=>hB5.block b hb);have c108b:=cl2.out w5 (Option.map (fun x=>x.add (k*6)) AL) (cL - k) hD5 (fun h=>by omega);replace hD5:=hi_ hD5;replace hO5:=hi_ hO5;clear hB5 c107)
    |(go_at_call 211;(with_reducible refine c108b.mono ?_);rintro e w7 ⟨v7,rfl,hO7,hB7⟩;replace hO7:=aR hO7 hD5.out.size;have hD7:=ah hD5.out hB7;have c107b:=cd2.out w7 v7 hD7 hO7;have hP7:=am hO5.out (fun b _ hb=>hB7.block b hb);replace hO7:=hi_ hO7;replace hD7:=hi_ hD7;replace hP7:=hi_ hP7;clear hB7 c108b)
    |(go_at_call 210;(with_reducible refine c107b.mono ?_);rintro e w8 ⟨rfl,hB8⟩;have hD8:=ah hD7.out hB8;have hO8:=am hO7.out (fun b _ hb=>hB8.block b hb);have hP8:=am hP7.out (fun b _ hb=>hB8.block b hb);replace hO8:=hi_ hO8;replace hP8:=hi_ hP8;replace hD8:=hi_ hD8;clear hB8 c107b)
    |(at_builtin;refine dy rfl _ _ rfl W2.heap.size v4 k F1 rfl hP8.out W2.heap.size _ 0 F2 rfl hO8.out o2.out (by omega) hD8.out.size ?_;intro v9 w9 hO9 hg9;have hD9:Below W2.heap.size W2 w9:=hD8.out.grown hg9 hD8.out.size (fun q hq=>(World.ownsRow.lt hP8.out _ hq).1);replace hO9:=hi_ hO9;replace hD9:=hi_ hD9;clear hg9))
   go_ret
   exact⟨v9,rfl,by have h9:=aR hO9.out (B':=w.heap.size) (by omega);exact h9,hb2.out.trans (hD9.out.mono (by omega))⟩
section
open Go Go.RowKit Go.Wk Go.Rd
theorem oC (K:Bs) (X:Ob) (e:Bs×Ob) (r:List (Bs×Ob)):dJ K X (e :: r)=if ltB e.1 K=true then e :: dJ K X r else (K,X) :: e :: r:=by
 unfold dJ aG;by_cases h:ltB e.1 K=true
 ·rw[if_pos h,List.takeWhile_cons,if_pos h];simp
 ·rw[if_neg h,List.takeWhile_cons,if_neg h];simp
theorem fW {K:Bs}{X:Ob}:∀{d:List (Bs×Ob)},(∀e∈d,(e.1 == K)=false)→br K X true d=d
 |[],_=>rfl
 |e :: r,h=>by
  have he:e.1≠K:=fun e2=>by have:=h e (by simp);rw[e2]at this;simp at this
  rw[br,if_neg he,Bool.true_or,fW fun x hx=>h x (by simp[hx])]
  rfl
theorem ic {K:Bs}{X:Ob}:∀{d:List (Bs×Ob)},(∀e∈d,(e.1 == K)=false)→br K X false d=dJ K X d
 |[],_=>rfl
 |e :: r,h=>by
  have he:e.1≠K:=fun e2=>by have:=h e (by simp);rw[e2]at this;simp at this
  have hr:∀x∈r,(x.1 == K)=false:=fun x hx=>h x (by simp[hx])
  rw[br,if_neg he,oC,Bool.false_or];cases hl:ltB e.1 K with
  |true=>rw[Bool.not_true,ic hr];rfl
  |false=>rw[Bool.not_false,fW hr];rfl
theorem oZ {K:Bs}{X:Ob}{d:List (Bs×Ob)}(h:∀e∈d,(e.1 == K)=false):dA K X d=if X.kind=0 then d else dJ K X d:=by
 unfold dA;by_cases hk:X.kind=0
 ·rw[if_pos hk,hk];exact fW h
 ·rw[if_neg hk,show (X.kind == 0)=false from by simpa using hk];exact ic h
theorem oo (p n:Nat) (hp:p≤n) (vl:Nat→List Value):((List.range p).map vl).flatten++((List.range (n - p)).map fun i=>vl (p+i)).flatten=((List.range n).map vl).flatten:=by
 have e:n=p+(n - p):=by omega
 conv=>rhs;rw[e,List.range_add,List.map_append,List.flatten_append,List.map_map]
 rfl
theorem sB {w:World}{k n:Int}{b:List UInt8}{l:List Ob}{d:List (List UInt8×Ob)}{vB vL vD v:Value}{B:Nat}{vd:Nat→List Value}(h:ObAt w (.mk k n b l d) [.int .i64 k,.int .i64 n,vB,vL,vD])
 (hvd:∀i (hi:i<d.length),ObAt w d[i].2 (vd i)) (hkl:∀i (hi:i<d.length),d[i].1.length≤maxLen)
 (hv:w.ownsRow B 91 6 v d.length ((List.range d.length).map fun i=>bE (bC d i) :: vd i).flatten) :
 ObAt w (.mk k n b l d) [.int .i64 k,.int .i64 n,vB,vL,v]:=by
 have h6:∀i,i<d.length→(bE (bC d i) :: vd i).length=6:=fun i hi=>by simp[(hvd i hi).five]
 obtain⟨A,g,c,rfl,q1,q2⟩:=eL hv h6;obtain⟨hc1,hc2⟩:d.length≤c∧c≤maxLen:=by
  rcases hv.2 with ⟨e,hn⟩|⟨g',cap,cur,e,h1,h2,h3,h4,h5⟩
  ·injection e with _ e1 e2;subst e2;exact⟨by omega,by unfold maxLen;omega⟩
  ·injection e with _ e1 e2;subst e2;exact⟨by omega,h4⟩
 cases h with
 |mk _ _ _ _ _ A0 AL AD c0 cL cD gL oL gD oD vl vd0 h1 h2 h3 h4 h5 h6 h7 h8 h9 h10 h11 hAL hl hlv hAD hdo hdk hdv=>
 refine ObAt.mk k n b l d A0 AL A c0 cL c gL oL g 0 vl vd h1 h2 h3 h4 h5 h6 h7 h8 h9 hc1 (Nat.le_trans hc1 hc2) hAL hl hlv q1 (fun i hi=>hvd i hi) (fun i hi=>⟨hkl i hi,?_⟩) (fun i hi j hj=>?_)
 ·have:=q2 i hi 0 (by omega)
  rw[bR hi]at this
  simpa using this
 ·have:=q2 i hi (1+j) (by omega)
  rw[←Nat.add_assoc]at this;rw[Nat.add_assoc]at this;rw[show 0+(6*i+(1+j))=0+(6*i+1+j) by omega]at this;rw[this,Nat.add_comm 1 j,List.getElem?_cons_succ]
theorem sM (w:World) (AD:Option Addr) (gD oD cD:Nat) (d:List (List UInt8×Ob)) (vd:Nat→List Value) (KB:ByteArray) (X:Ob) (x0 x1 x2 x3 x4:Value) (hn:d.length≤100000000) (hc:d.length≤cD) (hAD:0<d.length→AD=some ⟨gD,oD,none⟩)
 (hdo:∀i (h:i<d.length),ObAt w d[i].2 (vd i)) (hdk:∀i,(h:i<d.length)→d[i].1.length≤maxLen∧w.cell? ⟨gD,oD+6*i,none⟩=some (bE d[i].1)) (hdv:∀i,i<d.length→∀j,j<5→w.cell? ⟨gD,oD+(6*i+1+j),none⟩=(vd i)[j]?)
 (hX:ObAt w X [x0,x1,x2,x3,x4]) (hno:∀e∈d,(e.1 == KB.data.toList)=false) :
 Calls Tryz.prog 189 #[.slice AD d.length cD,.agg #[.string KB,x0,x1,x2,x3,x4],.func (.func 191) #[] #[],.bool false] w fun e w'=>∃v,e=.returned v∧
  w'.ownsRow w.heap.size 91 6 v d.length ((List.range d.length).map fun i=>bE (bC d i) :: vd i).flatten∧Below w.heap.size w w':=by
 rw[←oo (aG KB.data.toList d) d.length (dp _ _)];refine pB w AD gD oD d.length cD (fun i=>bE (bC d i) :: vd i) (fun i=>bytes (bC d i)) KB x0 x1 x2 x3 x4 (aG KB.data.toList d) (dp _ _) hn hc hAD (fun i hi=>?_) (fun i hi j hj=>?_) (fun i hi u hu=>?_) (fun u hu=>?_) (fun i hi=>?_) (fun hi=>?_) (fun i hi=>?_)
 ·have h5:=(hdo i hi).five
  match h:vd i,h5 with
  |[c1,c2,c3,c4,c5],_=>exact⟨c1,c2,c3,c4,c5,rfl⟩
 ·show _=(bE (bC d i) :: vd i)[j]?
  cases j with
  |zero=>rw[bR hi];exact (hdk i hi).2
  |succ j=>
   rw[List.getElem?_cons_succ,←hdv i hi j (by omega)]
   congr 2
   omega
 ·simp only[List.mem_cons]at hu
  rcases hu with rfl|hu
  ·rfl
  ·exact ea (hdo i hi) u hu
 ·simp only[List.mem_cons]at hu
  rcases hu with rfl|hu
  ·rfl
  ·exact ea hX u (by simpa using hu)
 ·have hp:=dp KB.data.toList d
  show ltB (bC d i) _=true
  rw[bR (by omega)];exact gP _ d i (by omega) hi
 ·show ltB (bC d _) _=false
  rw[bR hi];exact gO _ d hi
 ·show (bC d i == _)=false
  rw[bR hi];exact hno _ (List.getElem_mem hi)
theorem iA {B:Nat}{e:TypeId}{sz:Nat}{w:World}{v:Value}{n:Nat}{xs:List Value}(h:w.ownsRow B e sz v n xs):∃A c,v=.slice A n c:=by
 rcases h.2 with ⟨rfl,hn⟩|⟨g,cap,cur,rfl,_⟩
 ·exact⟨_,_,by rw[hn]⟩
 ·exact⟨_,_,rfl⟩
theorem dt {w:World}{R:Nat}{z0 z1 z2 z3 z4 u0 u1 u2 u3 u4:Value}(hR:Blk w R 32 #[z0,z1,z2,z3,z4]) {Wf:World}
 (hWf:Wf=((((w.setCell ⟨R,0,none⟩ u0).setCell ⟨R,1,none⟩ u1).setCell ⟨R,2,none⟩ u2).setCell ⟨R,3,none⟩ u3).setCell ⟨R,4,none⟩ u4) :
 Blk Wf R 32 #[u0,u1,u2,u3,u4]∧w.grownBy Wf (some R)∧Wf.heap.size=w.heap.size:=by
 have hg:w.grownBy Wf (some R):=by
  rw[hWf];exact ((((aj _ _ _ _).trans (aj _ _ _ _)).trans (aj _ _ _ _)).trans (aj _ _ _ _)).trans (aj _ _ _ _)
 refine⟨?_,hg,by rw[hWf];simp[World.setCell]⟩;rw[hWf];exact ((((hR.set_ 0 u0).set_ 1 u1).set_ 2 u2).set_ 3 u3).set_ 4 u4
theorem sN {lo hi lo2 hi2:Nat}{w:World}{k n:Int}{b:List UInt8}{l:List Ob}{d:List (List UInt8×Ob)}{vB vL vD:Value}{X:Ob}{xs:List Value}(KB:ByteArray) (h:ObI lo hi w (.mk k n b l d) [.int .i64 k,.int .i64 n,vB,vL,vD]) (hX:ObI lo2 hi2 w X xs) (hlo:lo≤lo2) (hlw:lo≤w.heap.size)
 (hno:∀e∈d,(e.1 == KB.data.toList)=false) (hKl:KB.data.toList.length≤maxLen) (hn:d.length≤100000000) (kp:Bool) (hkp:kp=(X.kind !=0)) :
 Calls Tryz.prog 189 #[vD,.agg (List.toArray (.string KB :: xs)),.func (.func 191) #[] #[],.bool kp] w fun e w'=>∃A' c',e=.returned (.slice A' (dA KB.data.toList X d).length c')∧
  ObI lo w'.heap.size w' (.mk k n b l (dA KB.data.toList X d)) [.int .i64 k,.int .i64 n,vB,vL,.slice A' (dA KB.data.toList X d).length c']∧Below w.heap.size w w':=by
 obtain⟨A,AL,AD,c,cL,cD,gD,oD,vd,hvs,q1,q2,q3,q4,q5⟩:=ObI.ents h;obtain⟨en,E1,E2,E3,en1,ec1,en2,ec2,en3,ec3,hys⟩:=ay hX.ob;simp only[List.cons.injEq,and_true,true_and]at hvs;obtain⟨rfl,rfl,rfl⟩:=hvs;subst hys;rw[oZ hno];have hh:=h.1;have hx1:=hX.1
 -- what stays as it lay
 have hk1:∀(w' Wg:World),Below w.heap.size w w'→(∀g,lo≤g→g<w'.heap.size→Wg.heap[g]?=w'.heap[g]?)→w'.heap.size≤Wg.heap.size→
  ObAt Wg (.mk k n b l d) [.int .i64 k,.int .i64 n,.slice A b.length c,.slice AL l.length cL,.slice AD d.length cD]∧(∀i (hi:i<d.length),ObAt Wg d[i].2 (vd i))∧ObAt Wg X [.int .i64 X.kind,.int .i64 en,.slice E1 en1 ec1,.slice E2 en2 ec2,.slice E3 en3 ec3]:=fun w' Wg hB hk hs=>by
  have hz:=hB.size;exact⟨(h.keep (fun q h1 h2=>(hk q h1 (by omega)).trans (hB.block q (by omega))) (by omega)).ob,fun i hi'=>((q3 i hi').keep (fun q h1 h2=>(hk q h1 (by omega)).trans (hB.block q (by omega))) (by omega)).ob,(hX.keep (fun q h1 h2=>(hk q (by omega) (by omega)).trans (hB.block q (by omega))) (by omega)).ob⟩
 by_cases hk0:X.kind=0
 ·obtain rfl:kp=false:=by rw[hkp,hk0];rfl
  rw[if_pos hk0];refine (sM w AD gD oD cD d vd KB X _ _ _ _ _ hn q1 q2 (fun i hi=>(q3 i hi).ob) q4 q5 hX.ob hno).mono ?_;rintro e w' ⟨v,rfl,hO,hB⟩;obtain⟨A',c',rfl⟩:=iA hO;refine⟨A',c',rfl,⟨Nat.le_refl _,fun Wg hk hs=>?_⟩,hB⟩;obtain⟨a1,a2,a3⟩:=hk1 w' Wg hB hk hs;exact sB a1 a2 (fun i hi=>(q4 i hi).1) (am hO (w':=Wg) fun q h1 h2=>hk q (by omega) h2)
 ·obtain rfl:kp=true:=by rw[hkp];simpa using hk0
  rw[if_neg hk0,gC];refine (sL w AD gD oD cD d vd KB X _ _ _ _ _ hn q1 q2 (fun i hi=>(q3 i hi).ob) q4 q5 hX.ob hno).mono ?_;rintro e w' ⟨v,rfl,hO,hB⟩;obtain⟨A',c',rfl⟩:=iA hO;refine⟨A',c',rfl,⟨Nat.le_refl _,fun Wg hk hs=>?_⟩,hB⟩;obtain⟨a1,a2,a3⟩:=hk1 w' Wg hB hk hs;exact sA a1 a2 (fun i hi=>(q4 i hi).1) hKl a3 (am hO (w':=Wg) fun q h1 h2=>hk q (by omega) h2)
end
section
open Go Go.RowKit Go.Wk Go.Rd
def bK (es:List (Bs×Ob)):List (Bs×Ob):=es.foldl (fun d e=>dA e.1 e.2 d) []
theorem eg (l:List (Bs×Ob)) (e:Bs×Ob):bK (l++[e])=dA e.1 e.2 (bK l):=by simp[bK]
theorem kG {K:Bs}{X:Ob}:∀{p:Bool}{d:List (Bs×Ob)}{x:Bs×Ob},x∈br K X p d→x=(K,X)∨x∈d
 |p,[],x,h=>by
  rw[br]at h;split at h
  ·simp at h
  ·simp at h;exact .inl h
 |p,e :: r,x,h=>by
  rw[br]at h;rcases List.mem_append.1 h with h|h
  ·split at h
   ·simp at h;exact .inl h
   ·simp at h
  ·rcases List.mem_append.1 h with h|h
   ·split at h
    ·simp at h
    ·simp at h;exact .inr (by simp[h])
   ·rcases kG h with h|h
    ·exact .inl h
    ·exact .inr (by simp[h])
theorem fV (K:Bs) (X:Ob):∀(d:List (Bs×Ob)) (p:Bool),(br K X p d).length≤d.length+(if p then 0 else 1)
 |[],p=>by cases p <;> simp[br]
 |e :: r,p=>by
  have h1:=fV K X r true;have h2:=fV K X r false;rw[br];cases p <;> cases ltB e.1 K <;> simp at h1 h2⊢<;> split <;> simp <;> omega
theorem m5 (K:Bs) (X:Ob) (d:List (Bs×Ob)):(dA K X d).length≤d.length+1:=by
 have:=fV K X d (X.kind == 0);unfold dA;split at this <;> omega
theorem jD:∀l:List (Bs×Ob),(bK l.reverse).length≤l.length
 |[]=>by simp[bK]
 |e :: r=>by
  have h1:=jD r;have h2:=m5 e.1 e.2 (bK r.reverse);rw[List.reverse_cons,eg];simp only[List.length_cons];omega
theorem mJ (l:List (Bs×Ob)):(bK l).length≤l.length:=by
 have:=jD l.reverse
 rwa [List.reverse_reverse,List.length_reverse]at this
theorem jC:∀(l:List (Bs×Ob)) (x:Bs×Ob),x∈bK l.reverse→x.1∈l.map (·.1)
 |[],x,h=>by simp[bK]at h
 |e :: r,x,h=>by
  rw[List.reverse_cons,eg]at h;rcases kG h with rfl|h
  ·simp
  ·have:=jC r x h
   simp only[List.map_cons,List.mem_cons];exact .inr this
theorem mI (l:List (Bs×Ob)) (x:Bs×Ob) (h:x∈bK l):x.1∈l.map (·.1):=by
 have:=jC l.reverse x (by rwa [List.reverse_reverse])
 simpa using this
theorem qz {es:List (Bs×Ob)}{j:Nat}(hj:j<es.length) (hnd:(es.map (·.1)).Nodup):∀x∈bK (es.take j),(x.1 == es[j].1)=false:=fun x hx=>by
 have h1:=mI _ _ hx;rw[List.map_take]at h1;obtain⟨i,hi,he⟩:=List.getElem_of_mem h1;rw[List.length_take,List.length_map]at hi;rw[List.getElem_take]at he;cases hc:(x.1 == es[j].1) with
 |false=>rfl
 |true=>
  exfalso
  have hc2:x.1=es[j].1:=by simpa using hc
  have h2:=(List.pairwise_iff_getElem.1 hnd) i j (by rw[List.length_map];omega) (by rw[List.length_map];omega) (by omega);exact h2 (by rw[he,hc2,List.getElem_map])
theorem sr {w:World}{k n:Int}{us:List Value}(h:ObAt w (.mk k n [] [] []) us):(∃A c AL cL AD cD,us=[.int .i64 k,.int .i64 n,.slice A 0 c,.slice AL 0 cL,.slice AD 0 cD])∧∀(w':World) lo hi,hi≤w'.heap.size→ObI lo hi w' (.mk k n [] [] []) us:=by
 cases h with
 |mk _ _ _ _ _ A AL AD c cL cD gL oL gD oD vl vd h1 h2 h3 h4 h5 h6 h7 h8 h9 h10 h11 hAL hl hlv hAD hdo hdk hdv=>
 refine⟨⟨A,c,AL,cL,AD,cD,rfl⟩,fun w' lo hi hh=>⟨hh,fun w2 _ _=>?_⟩⟩;exact .mk k n [] [] [] A AL AD c cL cD gL oL gD oD vl vd h1 h2 h3 h4 Byt.nil h6 h7 h8 h9 h10 h11 hAL (fun i hi=>by simp at hi) (fun i hi=>by simp at hi) hAD (fun i hi=>by simp at hi) (fun i hi=>by simp at hi) (fun i hi=>by simp at hi)
theorem ol (w:World):ObAt w (.mk 7 0 [] [] []) [.int .i64 7,.int .i64 0,.slice none 0 0,.slice none 0 0,.slice none 0 0]:=
 (ObAt.mk 7 0 [] [] [] none none none 0 0 0 0 0 0 0 (fun _=>[]) (fun _=>[]) (by omega) (by omega) (by omega) (by omega) Byt.nil (by simp) (fun _=>rfl) (by simp) (by simp) (by simp) (by simp) (fun h=>by simp at h) (fun i hi=>by simp at hi) (fun i hi=>by simp at hi) (fun h=>by simp at h) (fun i hi=>by simp at hi) (fun i hi=>by simp at hi) (fun i hi=>by simp at hi))
def GSn (P Q:Nat) (vD:Value) (KB:ByteArray) (kx:Int) (ag:Array Value) (B:Nat) (X:Ob):Nat→Value→World→Prop:=fun j v w=>match j with
 |0=>v=.pointer (some ⟨P,4,none⟩)
 |1=>v=vD
 |2=>v=.pointer (some ⟨Q,0,none⟩)
 |3=>v=.string KB
 |4|7|8=>v=.pointer (some ⟨Q,1,none⟩)
 |5=>v=.agg ag
 |6=>∃us lo hi,v=.agg (List.toArray (.string KB :: us))∧B≤lo∧ObI lo hi w X us
 |9=>v=.int .i64 kx
 |_=>v=.bool (kx !=0)
theorem nJ {P Q:Nat}{vD:Value}{KB:ByteArray}{kx:Int}{ag:Array Value}{B:Nat}{X:Ob}(j:Nat) (v:Value) (w w':World) (hG:GSn P Q vD KB kx ag B X j v w) (hk:Below w.heap.size w w'):GSn P Q vD KB kx ag B X j v w':=by
 unfold GSn at hG⊢;split at hG <;> first
  |exact hG
  |(obtain⟨us,lo,hi,e,h1,h2⟩:=hG;exact⟨us,lo,hi,e,h1,h2.keep (fun b _ hb=>hk.block b (by have:=h2.1;omega)) (by have:=h2.1;have:=hk.size;omega)⟩)
theorem nZ (w:World) (es:List (Bs×Ob)) (A:Option Addr) (gE oE cE:Nat) (ve:Nat→List Value) (hA:0<es.length→A=some ⟨gE,oE,none⟩)
 (hob:∀i (h:i<es.length),ObAt w es[i].2 (ve i)) (hky:∀i (h:i<es.length),es[i].1.length≤maxLen∧w.cell? ⟨gE,oE+6*i,none⟩=some (bE es[i].1))
 (hcv:∀i,i<es.length→∀j,j<5→w.cell? ⟨gE,oE+(6*i+1+j),none⟩=(ve i)[j]?) (hbk:∀e∈es,e.2.bulk≤100000000) (hn:es.length≤100000000) (hnd:(es.map (·.1)).Nodup) :
 Calls Tryz.prog 157 #[.agg #[.int .i64 7,.int .i64 0,.slice none 0 0,.slice none 0 0,.slice none 0 0],.slice A es.length cE] w fun e w'=>∃us,e=.returned (.agg (List.toArray us))∧ObI w.heap.size w'.heap.size w' (.mk 7 0 [] [] (bK es)) us∧Below w.heap.size w w':=by
 obtain⟨n,hnn⟩:∃n,n=es.length:=⟨_,rfl⟩;rw[←hnn]at hA hn⊢;obtain⟨W1,hW1⟩:∃W,W=w.alloc (.cells #[.int .i64 7,.int .i64 0,.slice none 0 0,.slice none 0 0,.slice none 0 0] 32):=⟨_,rfl⟩;obtain⟨W2,hW2⟩:∃W,W=W1.alloc (.cells #[.int .i64 0,.int .i64 0,.slice none 0 0,.slice none 0 0,.slice none 0 0] 32):=⟨_,rfl⟩;have hb1:Below w.heap.size w W1:=by rw[hW1];exact (Below.refl _ _).alloc (Nat.le_refl _) _
 have z1:W1.heap.size=w.heap.size+1:=by rw[hW1,World.size_alloc]
 have hb12:Below W1.heap.size W1 W2:=by rw[hW2];exact (Below.refl _ _).alloc (Nat.le_refl _) _
 have hb2:Below w.heap.size w W2:=ah hb1 hb12;have z2:W2.heap.size=w.heap.size+2:=by rw[hW2,World.size_alloc,z1]
 have f:=ap (cz hW1) hb12;have hR2:Blk W2 (w.heap.size+1) 32 #[.int .i64 0,.int .i64 0,.slice none 0 0,.slice none 0 0,.slice none 0 0]:=by rw[hW2,←z1];exact Blk.new W1 32 _
 have c66:=gy 100000000 (Nat.le_refl _) (Ob.mk 7 0 [] [] []) _ W2 (ol W2) (by simp[Ob.bulk,bv,aI]);have c65:=fun W=>fY 7 (.int .i64 0) (.slice none 0 0) (.slice none 0 0) (.slice none 0 0) W
 rw[show sn 7=true from rfl]at c65;obtain⟨f0,f1,f2,f3,f4⟩:=id f;refine h9_ f hb1 hb12 hb2 hR2 c65 hA hob hky ?_;clear f hb1 hb12 hb2 hR2 c65 hA hob hky;intro f hb1 hb12 hb2 hR2 c65 hA hob hky;refine h4_ hcv hbk hnd hnn ?_;clear hcv hbk hnd hnn;intro hcv hbk hnd hnn;go_enter Tryz.func157,Tryz.ntmps157;go_upto_region 1 with (fail)
 rw[←hW1,←hW2];replace hW1:=hi_ hW1;replace hW2:=hi_ hW2;go_upto_region 2 with (first
  |(go_at_call 188;(with_reducible refine c66.mono ?_);rintro e' w3 ⟨us,rfl,hI,hB3⟩;obtain⟨⟨A',c',AL',cL',AD0,cD0,hus⟩,hI3⟩:=sr hI.ob;subst hus;replace hB3:=hi_ hB3;replace hI3:=hi_ hI3;clear hI c66))
 obtain⟨W4,hW4,hb4⟩:=bH w3 32 #[.int .i64 7,.int .i64 0,.slice A' 0 c',.slice AL' 0 cL',.slice AD0 0 cD0];rw[←hW4];have hD4:Below W2.heap.size W2 W4:=ah hB3.out hb4;have hP4:Blk W4 w3.heap.size 32 #[.int .i64 7,.int .i64 0,.slice A' 0 c',.slice AL' 0 cL',.slice AD0 0 cD0]:=by rw[hW4];exact Blk.new w3 32 _
 replace hP4:=hi_ hP4;have z3:=hB3.out.size;have z4:W4.heap.size=w3.heap.size+1:=by rw[hW4,World.size_alloc]
 obtain⟨g0,g1,g2,g3,g4⟩:=ap f.out hD4;have d65:=c65.out W4;refine h3_ hb4 hD4 hW4 ?_;clear hb4 hD4 hW4;intro hb4 hD4 hW4;clear f0 f1 f2 f3 f4;obtain⟨P,hP⟩:∃p,p=w3.heap.size:=⟨_,rfl⟩;rw[←hP]at hP4 z3 z4⊢;replace hP:=hi_ hP;go_upto_region 4 with (first
  |(go_at_call 163;(with_reducible refine d65.mono ?_);rintro e' w5 ⟨rfl,hB5⟩;have hD5:=ah hD4.out hB5;have hP5:=hP4.out.below hB5 (by omega);have z5:=hB5.size;replace hB5:=hi_ hB5;replace hD5:=hi_ hD5;replace hP5:=hi_ hP5;clear d65))
 clear g0 g1 g2 g3 g4;go_wp2
 go_loopw [16] (fun s16 wr=>∃(j:Nat) (vD:Value),j≤n∧s16=.int .i64 j∧Blk wr P 32 #[.int .i64 7,.int .i64 0,.slice A' 0 c',.slice AL' 0 cL',vD]∧ObI (P+1) wr.heap.size wr (.mk 7 0 [] [] (bK (es.take j))) [.int .i64 7,.int .i64 0,.slice A' 0 c',.slice AL' 0 cL',vD]∧Below W2.heap.size W2 wr) (fun s16 _=>n - (RowKit.intOf s16).toNat)
 case atStart=>exact⟨0,_,by omega,rfl,hP5.out,hI3.out w5 _ _ (Nat.le_refl _),hD5.out⟩
 case round=>
  obtain⟨j,vD,hj,rfl,hPb,hIb,hD⟩:=hrel;clear hP5 hP4 hD5 hD4 hB5 hb4;have hPl:=hPb.lt;by_cases hjm:j<n
  ·have hjl:j<es.length:=by rw[←hnn.out];exact hjm
   have hAe:=hA.out (by omega);subst hAe;have hbw:Below w.heap.size w wr:=ah hb2.out hD;have hfn:=qz hjl hnd.out;have hfl:=mJ (es.take j);rw[List.length_take]at hfl;obtain⟨e,he⟩:∃e,e=es[j]:=⟨_,rfl⟩;have hT:bK (es.take (j+1))=dA e.1 e.2 (bK (es.take j)):=by rw[List.take_succ_eq_append_getElem hjl,←he,eg]
   have hob1:=(hob.out j hjl).kept hbw;have hky1:=hky.out j hjl;have hcv1:=hcv.out j hjl;have hzo:=hbk.out es[j] (List.getElem_mem hjl);rw[←he]at hob1 hky1 hzo hfn;obtain⟨us0,hus0⟩:∃us,us=ve j:=⟨_,rfl⟩;rw[←hus0]at hob1 hcv1;obtain⟨en,E1,E2,E3,en1,ec1,en2,ec2,en3,ec3,hys⟩:=ay hob1;obtain⟨kk,hkk⟩:∃k,k=e.2.kind:=⟨_,rfl⟩;rw[←hkk]at hys;subst hys;obtain⟨D,hDd⟩:∃D,D=bK (es.take j):=⟨_,rfl⟩;rw[←hDd]at hT hfn hfl hIb;obtain⟨K,hK⟩:∃K,K=bytes e.1:=⟨_,rfl⟩;have hKd:K.data.toList=e.1:=by rw[hK];rfl
   have x0:wr.cell? ⟨gE,oE+j*6,none⟩=some (.string K):=by
    have h1:=(hbw.cell (ac hky1.2)).trans hky1.2;rw[Nat.mul_comm]at h1;rw[h1,hK];rfl
   have five:∀q u,[Value.int .i64 kk,.int .i64 en,.slice E1 en1 ec1,.slice E2 en2 ec2,.slice E3 en3 ec3][q]?=some u→wr.cell? ⟨gE,oE+j*6+1+q,none⟩=some u:=fun q u hq=>by
    have h0:=hcv1 q (by have:=(List.getElem?_eq_some_iff.1 hq).1;simpa using this);rw[hq]at h0;have h1:=(hbw.cell (ac h0)).trans h0;rw[show oE+(6*j+1+q)=oE+j*6+1+q by omega]at h1;exact h1
   have x1:wr.cell? ⟨gE,oE+j*6+1,none⟩=some (.int .i64 kk):=five 0 _ rfl;have x2:wr.cell? ⟨gE,oE+j*6+2,none⟩=some (.int .i64 en):=five 1 _ rfl;have x3:wr.cell? ⟨gE,oE+j*6+3,none⟩=some (.slice E1 en1 ec1):=five 2 _ rfl;have x4:wr.cell? ⟨gE,oE+j*6+4,none⟩=some (.slice E2 en2 ec2):=five 3 _ rfl;have x5:wr.cell? ⟨gE,oE+j*6+5,none⟩=some (.slice E3 en3 ec3):=five 4 _ rfl;obtain⟨W6,hW6,hb6⟩:=bH wr 91 #[.string K,.int .i64 kk,.int .i64 en,.slice E1 en1 ec1,.slice E2 en2 ec2,.slice E3 en3 ec3];have z6:W6.heap.size=wr.heap.size+1:=by rw[hW6,World.size_alloc]
   have hD6:Below W2.heap.size W2 W6:=ah hD hb6;have hP6:=hPb.below hb6 hPl;have p4:=hP6.cell 4;obtain⟨y0,y1,y2,y3,y4,y5⟩:=ec hW6;have hob6:=hob1.kept hb6;have ck:=fun W (hW:Below W6.heap.size W6 W)=>nX e.2 _ W (hob6.kept hW) hzo K
   have hws:∃AD m cD,vD=.slice AD m cD:=by
    obtain⟨_,_,AD,_,_,cD,_,_,_,hv,_⟩:=ObI.ents hIb;simp only[List.cons.injEq,and_true,true_and]at hv;exact⟨AD,_,cD,hv.2.2⟩
   obtain⟨AD,m,cD,hvD⟩:=hws;subst hvD;clear five hcv1 hob1 hob6;refine h9_ hPb hIb hD he hT hfn hfl hky1 hus0 ?_;clear hPb hIb hD he hT hfn hfl hky1 hus0;intro hPb hIb hD he hT hfn hfl hky1 hus0;refine h9_ hkk hDd hK hKd hbw hb6 hD6 hP6 ck ?_;clear hkk hDd hK hKd hbw hb6 hD6 hP6 ck;intro hkk hDd hK hKd hbw hb6 hD6 hP6 ck;replace hzo:=hi_ hzo;go_upto_region 7 with (fail)
   rw[←hW6];replace hW6:=hi_ hW6;clear x0 x1 x2 x3 x4 x5;refine aL (by kernel_rfl) [none,none,none,none,none,none,none,none,none,none,none,none,none,none,none,none,none,none,none,none,some 0,some 1,some 2,some 3,some 4,some 5,some 6,some 7,some 8,some 9,some 10,none,none,none,none] (fun w'=>Below W6.heap.size W6 w') (fun w' w''=>Below w'.heap.size w' w'') (GSn P wr.heap.size (.slice AD m cD) K kk #[.int .i64 kk,.int .i64 en,.slice E1 en1 ec1,.slice E2 en2 ec2,.slice E3 en3 ec3] W6.heap.size e.2) (by rfl) (by kernel_rfl) 11 _ rfl (by decide) (by kernel_rfl) [1,11,3,6,5,6,11,8,9,10,11,0] (by kernel_rfl) ?hR ?mono (.cons 10 (ab [9] rfl (by kernel_rfl) ?s10) (.cons 9 (ab [8] rfl (by kernel_rfl) ?s9) (.cons 8 (ab [7] rfl (by kernel_rfl) ?s8) (.cons 7 (ab [] rfl (by kernel_rfl) ?s7) (.cons 6 (ab [3,5] rfl (by kernel_rfl) ?s6) (.cons 5 (ab [4] rfl (by kernel_rfl) ?s5) (.cons 4 (ab [] rfl (by kernel_rfl) ?s4) (.cons 3 (ab [2] rfl (by kernel_rfl) ?s3) (.cons 2 (ab [] rfl (by kernel_rfl) ?s2) (.cons 1 (ab [0] rfl (by kernel_rfl) ?s1) (.cons 0 (ab [] rfl (by kernel_rfl) ?s0) (.nil)))))))))))) ?done
   case hR=>exact (Below.refl _ _).drew
   case mono=>exact nJ
   case s0=>
    intro x w' hRw hd K' hK;simp only[All,GSn]at hd;simp +decide only[upd,GSn,ai,if_true,if_false]at hK⊢;go_simp;have hK2:=hK _ _ ⟨hRw,Below.refl _ _,rfl⟩;exact hK2
   case s1=>
    intro x w' hRw hd K' hK;simp only[All,GSn]at hd;have tp4:=(hRw.cell (ac p4)).trans p4;simp +decide only[upd,GSn,ai,if_true,if_false]at hK⊢
    try simp only[hd.1]at hK⊢
    go_simp;have hK2:=hK _ _ ⟨hRw,Below.refl _ _,rfl⟩;exact hK2
   case s2=>
    intro x w' hRw hd K' hK;simp only[All,GSn]at hd;simp +decide only[upd,GSn,ai,if_true,if_false]at hK⊢;go_simp;have hK2:=hK _ _ ⟨hRw,Below.refl _ _,rfl⟩;exact hK2
   case s3=>
    intro x w' hRw hd K' hK;simp only[All,GSn]at hd;have ty0:=(hRw.cell (ac y0)).trans y0;simp +decide only[upd,GSn,ai,if_true,if_false]at hK⊢
    try simp only[hd.1]at hK⊢
    go_simp;have hK2:=hK _ _ ⟨hRw,Below.refl _ _,rfl⟩;exact hK2
   case s4=>
    intro x w' hRw hd K' hK;simp only[All,GSn]at hd;simp +decide only[upd,GSn,ai,if_true,if_false]at hK⊢;go_simp;have hK2:=hK _ _ ⟨hRw,Below.refl _ _,rfl⟩;exact hK2
   case s5=>
    intro x w' hRw hd K' hK;simp only[All,GSn]at hd;have ty1:=(hRw.cell (ac y1)).trans y1;have ty2:=(hRw.cell (ac y2)).trans y2;have ty3:=(hRw.cell (ac y3)).trans y3;have ty4:=(hRw.cell (ac y4)).trans y4;have ty5:=(hRw.cell (ac y5)).trans y5;simp +decide only[upd,GSn,ai,if_true,if_false]at hK⊢
    try simp only[hd.1]at hK⊢
    go_simp;have hK2:=hK _ _ ⟨hRw,Below.refl _ _,rfl⟩;exact hK2
   case s6=>
    intro x w' hRw hd K' hK;simp only[All,GSn]at hd;simp +decide only[upd,GSn,ai,if_true,if_false]at hK⊢
    try simp only[hd.1,hd.2.1]at hK⊢
    go_simp;refine (ck.out w' hRw).mono ?_;rintro e' w2 ⟨us,rfl,hI6,hB6⟩;have hK2:=hK _ _ ⟨ah hRw hB6,hB6,us,w'.heap.size,w2.heap.size,rfl,hRw.size,hI6⟩;exact hK2
   case s7=>
    intro x w' hRw hd K' hK;simp only[All,GSn]at hd;simp +decide only[upd,GSn,ai,if_true,if_false]at hK⊢;go_simp;have hK2:=hK _ _ ⟨hRw,Below.refl _ _,rfl⟩;exact hK2
   case s8=>
    intro x w' hRw hd K' hK;simp only[All,GSn]at hd;simp +decide only[upd,GSn,ai,if_true,if_false]at hK⊢
    try simp only[hd.1]at hK⊢
    go_simp;have hK2:=hK _ _ ⟨hRw,Below.refl _ _,rfl⟩;exact hK2
   case s9=>
    intro x w' hRw hd K' hK;simp only[All,GSn]at hd;have ty1:=(hRw.cell (ac y1)).trans y1;simp +decide only[upd,GSn,ai,if_true,if_false]at hK⊢
    try simp only[hd.1]at hK⊢
    go_simp;have hK2:=hK _ _ ⟨hRw,Below.refl _ _,rfl⟩;exact hK2
   case s10=>
    intro x w' hRw hd K' hK;simp only[All,GSn]at hd;simp +decide only[upd,GSn,ai,if_true,if_false]at hK⊢
    try simp only[hd.1]at hK⊢
    go_simp;have hK2:=hK _ _ ⟨hRw,Below.refl _ _,rfl⟩;exact hK2
   case done=>
    intro x w7 hR2' hG fr hfr;have a1:=hG 1 (by omega);have a6:=hG 6 (by omega);have a10:=hG 10 (by omega);simp only[GSn]at a1 a6 a10;clear hG;obtain⟨us6,lo6,hi6,a6,hlo6,hI6⟩:=a6;simp only[ai]at hfr;rw[a1,a6,a10]at hfr;subst hfr;clear a1 a6 a10;have hD7:Below W2.heap.size W2 w7:=ah hD6.out hR2';have hr7:Below wr.heap.size wr w7:=ah hb6.out hR2';have z7:=hr7.size;have z67:=hR2'.size;have c72:=sN (w:=w7) (lo:=P+1) (hi:=wr.heap.size) K (hIb.out.keep (fun q _ hq=>hr7.block q hq) (by omega)) hI6 (by omega) (by omega) (by rw[hKd.out];exact hfn.out) (by rw[hKd.out];exact hky1.out.1) (by have:=hfl.out;omega) (kk !=0) (by rw[hkk.out]);rw[hKd.out]at c72;have hPq:Blk w7 P 32 #[.int .i64 7,.int .i64 0,.slice A' 0 c',.slice AL' 0 cL',.slice AD m cD]:=hP6.out.below hR2' (by omega);refine h3_ hPq hD7 hr7 ?_;clear hPq hD7 hr7;intro hPq hD7 hr7;replace hR2':=hi_ hR2';clear p4 y0 y1 y2 y3 y4 y5 hI6;obtain⟨bk,hbk9⟩:∃q,q=(kk !=0):=⟨_,rfl⟩;rw[←hbk9]at c72⊢;replace hbk9:=hi_ hbk9;go_wp2_with (first
     |(go_at_call 189;(with_reducible refine c72.mono ?_);rintro e' w8 ⟨A8,cc8,rfl,hI8,hB8⟩;have hPb8:=hPq.out.below hB8 (by omega);have p4:=hPb8.cell 4;have v4:=hPb8.frozen 4;have z8:=hB8.size;replace hPb8:=hi_ hPb8;replace hB8:=hi_ hB8;replace hI8:=hi_ hI8;clear c72))
    go_roundw
    case rel=>
     refine⟨j+1,_,by omega,by go_num,hPb8.out.set_ 4 _,?_,?_⟩
     ·rw[hT.out]
      have hg:=aj w8 P 4 (.slice A8 (dA e.1 e.2 D).length cc8);exact (hI8.out.keep (fun q h1 h2=>hg.block q h2 (by intro e;injection e with e;omega)) hg.size) |> fun h=>by
       have hz9:(w8.setCell ⟨P,4,none⟩ (.slice A8 (dA e.1 e.2 D).length cc8)).heap.size=w8.heap.size:=by simp[World.setCell]
       rw[hz9];exact h
     ·exact (ah hD7.out hB8.out).grown (aj _ _ _ _) (by have:=hD7.out.size;omega) (fun q hq=>by injection hq with hq;omega)
    case measure=>simp[RowKit.intOf];omega
  ·obtain rfl:j=n:=by omega
   have hT:es.take j=es:=by rw[hnn.out,List.take_length]
   rw[hT]at hIb;obtain⟨p0,p1,p2,p3,p4,-⟩:=hPb.b5;have hRb:=hR2.out.below hD (by omega);obtain⟨r0,r1,r2,r3,r4,v0,v1,v2,v3,v4⟩:=hRb.b5;have hws:∃AD m cD,vD=.slice AD m cD:=by
    obtain⟨_,_,AD,_,_,cD,_,_,_,hv,_⟩:=ObI.ents hIb;simp only[List.cons.injEq,and_true,true_and]at hv;exact⟨AD,_,cD,hv.2.2⟩
   obtain⟨AD,m,cD,hvD⟩:=hws;subst hvD;refine h5_ hRb hPb hIb hD hT ?_;clear hRb hPb hIb hD hT;intro hRb hPb hIb hD hT;go_wp2
   generalize hWf:World.setCell _ _ _=Wf;replace hWf:=hWf.symm;obtain⟨hbf,hgf,hzf⟩:=dt hRb.out hWf;obtain⟨u0,u1,u2,u3,u4,-⟩:=hbf.b5;have hobf:ObI w.heap.size Wf.heap.size Wf (.mk 7 0 [] [] (bK es)) [.int .i64 7,.int .i64 0,.slice A' 0 c',.slice AL' 0 cL',.slice AD m cD]:=by
    rw[hzf];exact (hIb.out.keep (fun q h1 h2=>hgf.block q h2 (by intro e;injection e with e;omega)) (by omega)).wide (by omega)
   have hBf:Below w.heap.size w Wf:=(ah hb2.out hD.out).grown hgf (by have:=(ah hb2.out hD.out).size;omega) (fun q hq=>by injection hq with hq;omega);replace hobf:=hi_ hobf;replace hBf:=hi_ hBf;clear hbf hgf p0 p1 p2 p3 p4 v0 v1 v2 v3 v4 r0 r1 r2 r3 r4;replace hWf:=hi_ hWf;exact bodyPost_ret (by simp[results,Tryz.results157,go_sem,u0,u1,u2,u3,u4];try rfl) rfl ⟨[.int .i64 7,.int .i64 0,.slice A' 0 c',.slice AL' 0 cL',.slice AD m cD],rfl,hobf.out,hBf.out⟩
end
section
open Go Go.RowKit Go.Wk Go.Rd Go.Fx Go.Maps
theorem nU (w:World) (es:List (Bs×Ob)) (A:Option Addr) (gE oE cE:Nat) (ve:Nat→List Value) (hA:0<es.length→A=some ⟨gE,oE,none⟩)
 (hob:∀i (h:i<es.length),ObAt w es[i].2 (ve i)) (hky:∀i (h:i<es.length),es[i].1.length≤maxLen∧w.cell? ⟨gE,oE+6*i,none⟩=some (bE es[i].1))
 (hcv:∀i,i<es.length→∀j,j<5→w.cell? ⟨gE,oE+(6*i+1+j),none⟩=(ve i)[j]?) (hbk:∀e∈es,e.2.bulk≤100000000) (hn:es.length≤100000000) (hnd:(es.map (·.1)).Nodup) :
 Calls Tryz.prog 125 #[.slice A es.length cE] w fun e w'=>∃us,e=.returned (.agg (List.toArray us))∧ObI w.heap.size w'.heap.size w' (.mk 7 0 [] [] (bK es)) us∧Below w.heap.size w w':=by
 obtain⟨W1,hW1,b1⟩:=bH w 32 #[.int .i64 0,.int .i64 0,.slice none 0 0,.slice none 0 0,.slice none 0 0];have z1:W1.heap.size=w.heap.size+1:=by rw[hW1,World.size_alloc]
 have hT:Blk W1 w.heap.size 32 #[.int .i64 0,.int .i64 0,.slice none 0 0,.slice none 0 0,.slice none 0 0]:=by rw[hW1];exact Blk.new w 32 _
 have cS:=nZ W1 es A gE oE cE ve hA (fun i h=>(hob i h).kept b1) (fun i h=>⟨(hky i h).1,(b1.cell (ac (hky i h).2)).trans (hky i h).2⟩)
  (
   fun i hi j hj=>by
   have h9:=hcv i hi j hj;obtain⟨u,hu⟩:∃u,(ve i)[j]?=some u:=⟨_,List.getElem?_eq_getElem (by rw[(hob i hi).five];exact hj)⟩;rw[hu]at h9⊢;exact (b1.cell (ac h9)).trans h9) hbk hn hnd
 obtain⟨n,hnn⟩:∃n,n=es.length:=⟨_,rfl⟩;rw[←hnn]at cS⊢;refine h3_ hnn hT b1 ?_;clear hnn hT b1;intro hnn hT b1;clear hA hob hky hcv hbk hn hnd;go_enter Tryz.func125,Tryz.ntmps125;go_upto_region 1 with (fail)
 rw[←hW1];replace hW1:=hi_ hW1;go_wp2_with (go_at_call 157;(with_reducible refine cS.mono ?_);rintro e w2 ⟨us,rfl,hI,hB⟩;obtain⟨xk,xn,F1,F2,F3,fn1,fc1,fn2,fc2,fn3,fc3,rfl⟩:=cg hI.ob;have hT2:=hT.out.below hB (by omega);obtain⟨z0,z11,z2,z3,z4,v0,v1,v2,v3,v4⟩:=hT2.b5;replace hT2:=hi_ hT2;replace hI:=hi_ hI;replace hB:=hi_ hB;clear cS)
 generalize hWf:World.setCell _ _ _=Wf;replace hWf:=hWf.symm;obtain⟨hb,hg,hz⟩:=dt hT2.out hWf;obtain⟨u0,u1,u2,u3,u4,-⟩:=hb.b5;have hIf:=hi_ (show ObI w.heap.size Wf.heap.size Wf (.mk 7 0 [] [] (bK es)) [.int .i64 xk,.int .i64 xn,.slice F1 fn1 fc1,.slice F2 fn2 fc2,.slice F3 fn3 fc3] from by
  rw[hz];exact (hI.out.keep (fun q h1 h2=>hg.block q h2 (by intro e;injection e with e;omega)) (by omega)).wide (by omega))
 have hBf:=hi_ ((ah b1.out hB.out).grown hg (by have:=hB.out.size;omega) (fun q hq=>by injection hq with hq;omega));replace hg:=hi_ hg;replace hWf:=hi_ hWf;clear hb z0 z11 z2 z3 z4 v0 v1 v2 v3 v4;exact bodyPost_ret (by simp[results,Tryz.results125,go_sem,u0,u1,u2,u3,u4];try rfl) rfl ⟨_,rfl,hIf.out,hBf.out⟩
theorem tJ:Keyed Tryz.prog 9:=string_keyed Tryz.underlying9
theorem ue (w:World):(zeroValue 168).run Tryz.prog w=.ok (.agg #[]) w:=by kernel_rfl
theorem l9 {w w':World}{P:Program}{k:TypeId}{R:Value→Option (DataW Unit×List MemPlace)}{b n:Nat}{D:DataW Unit}(h:w.ownsMap P k R b n D) (hb:w'.heap[b]?=w.heap[b]?):w'.ownsMap P k R b n D:=by
 obtain⟨es,clock,h1,h2⟩:=h;exact⟨es,clock,hb.trans h1,h2⟩
def eu (ks:List Bs):DataW Unit:=setOf (.agg []) (ks.map Lit.string)
theorem lK (x:Bs):∀l:List Bs,l.any ((fun y:Lit=>y.sameKey (.string x)) ∘ Lit.string)=l.contains x
 |[]=>rfl
 |a :: r=>by
  rw[List.any_cons,List.contains_cons,lK x r]
  congr 1
  show (a == x)=(x == a)
  exact BEq.comm
theorem ow (ks:List Bs) (x:Bs):Maps.has (eu ks) (.string x)=ks.contains x:=by
 unfold eu;rw[has_setOf _ _ _ (fun y hy=>by obtain⟨_,_,rfl⟩:=List.mem_map.1 hy;trivial),List.any_map];exact lK x _
theorem mO (ks:List Bs) (x:Bs):eu (ks++[x])=(eu ks).put (.string x) (.agg []):=by
 unfold eu;rw[List.map_append,List.map_singleton,setOf_snoc]
theorem oF:eu []=.map []:=rfl
structure DS (W:World) (P L R:Nat) (A:Option Addr) (c:Nat) (bs:Bs) (d:Nat) (pl:Bool) (ks:List Bs) (es:List (Bs×Ob)) (vL:Value) (rl:List (List Value)) (X:World) (r:Bs):Prop where
 ps:PS P L R A c bs d pl X r
 fr:Fr L R W X
 bT:Blk X W.heap.size 32 #[.int .i64 0,.int .i64 0,.slice none 0 0,.slice none 0 0,.slice none 0 0]
 mp:X.ownsMap Tryz.prog 9 unitElem (W.heap.size+1) ks.length (eu ks)
 rows:RowG EnI 91 6 (W.heap.size+2) X vL es rl
 lL:L<W.heap.size
 lR:R<W.heap.size
 lP:P<W.heap.size
 off:0<bs.length→∀x,A=some x→x.block<W.heap.size
 sz:W.heap.size+2≤X.heap.size
section
variable {P L R:Nat}{A:Option Addr}{c:Nat}{bs:Bs}{d dd:Nat}{pl:Bool}{W X X' w w':World}{r r' u v:Bs}{k s:Tok}{ks:List Bs}{es:List (Bs×Ob)}{vL:Value}{rl:List (List Value)}
theorem DS.to (h:DS W P L R A c bs d pl ks es vL rl X r) (hP:PS P L R A c bs d pl X' r') (hF:Fr L R X X'):DS W P L R A c bs d pl ks es vL rl X' r':=
 ⟨hP,h.fr.trans hF,hF.blk (by have:=h.lL;omega) (by have:=h.lR;omega) h.bT,l9 h.mp (hF.block _ (by have:=h.sz;omega) (by have:=h.lL;omega) (by have:=h.lR;omega)),
  h.rows.far en_law (fun k h1 h2=>hF.block k h2 (by have:=h.lL;omega) (by have:=h.lR;omega)) hF.size,h.lL,h.lR,h.lP,h.off,Nat.le_trans h.sz hF.size⟩
theorem DS.belowW (h:DS W P L R A c bs d pl ks es vL rl X r) (hb:Below X.heap.size X X'):DS W P L R A c bs d pl ks es vL rl X' r:=h.to (h.ps.belowW hb) (Fr.of_below hb)
theorem DS.key (h:DS W P L R A c bs d pl ks es vL rl X r) {K:Bs}(hm:X'.ownsMap Tryz.prog 9 unitElem (W.heap.size+1) (ks.length+1) ((eu ks).put (.string K) (.agg []))) (hg:X.grownBy X' (some (W.heap.size+1))):DS W P L R A c bs d pl (ks++[K]) es vL rl X' r:=
 ⟨h.ps.grownL hg (by have:=h.lL;omega) (by have:=h.lR;omega) (by have:=h.lP;omega) (fun h0 x hx=>by have:=h.off h0 x hx;omega),h.fr.grownL hg (by omega),
  (hg.block _ (by have:=h.sz;omega) (by intro e;injection e with e;omega)).trans h.bT,by rw[mO,List.length_append];exact hm,
  h.rows.far en_law (fun k h1 h2=>hg.block k h2 (by intro e;injection e with e;omega)) hg.size,h.lL,h.lR,h.lP,h.off,Nat.le_trans h.sz hg.size⟩
theorem DS.row (h:DS W P L R A c bs d pl ks es vL rl X r) {es':List (Bs×Ob)}{v':Value}{rl':List (List Value)}(hR:RowG EnI 91 6 (W.heap.size+2) X' v' es' rl') (hg:X.grownBy X' vL.ownBlock):DS W P L R A c bs d pl ks es' v' rl' X' r:=by
 have hB:Below (W.heap.size+2) X X':=(Below.refl _ _ |>.mono h.sz).grown hg h.sz (fun k hk=>(h.rows.row.lt k hk).1);exact⟨h.ps.below hB (by have:=h.lL;omega) (by have:=h.lR;omega) (by have:=h.lP;omega) (fun h0 x hx=>by have:=h.off h0 x hx;omega),h.fr.thenB (hB.mono (by omega)),h.bT.below hB (by omega),l9 h.mp (hB.block _ (by omega)),hR,h.lL,h.lR,h.lP,h.off,Nat.le_trans h.sz hB.size⟩
theorem DS.shape (h:DS W P L R A c bs d pl ks es vL rl X r):∃A c,vL=.slice A es.length c:=by
 obtain⟨A,c,g,rfl,_⟩:=h.rows.out en_law (by omega);exact⟨A,c,rfl⟩
theorem mw {d:List (Bs×Ob)}{e:Bs×Ob}(h:e∈d):e.1.length+e.2.bulk+1≤aI d:=by
 obtain⟨i,hi,rfl⟩:=List.getElem_of_mem h;exact bZ d i hi
theorem DS.ents {A2:Option Addr}{n c2:Nat}(h:DS W P L R A c bs d pl ks es (.slice A2 n c2) rl X r) (hbk:∀e∈es,e.2.bulk≤100000000) (hn:es.length≤100000000) (hnd:(es.map (·.1)).Nodup) :
 Calls Tryz.prog 125 #[.slice A2 n c2] X fun e w'=>∃us,e=.returned (.agg (List.toArray us))∧ObI X.heap.size w'.heap.size w' (.mk 7 0 [] [] (bK es)) us∧Below X.heap.size X w':=by
 obtain⟨A',c',g',e',i1,i2,i3,i4,i5⟩:=h.rows.out en_law (by omega);injection e' with e1 e2 e3;subst e1 e2 e3;have hen:∀i (hi:i<es.length),∃us,rl.getD i []=bE es[i].1 :: us∧es[i].1.length≤maxLen∧ObAt X es[i].2 us:=fun i hi=>by
  obtain⟨⟨lo,hi',us,e1,e2,e3⟩,_⟩:=i5 i hi;exact⟨us,e1,e2,e3.ob⟩
 refine nU X es _ g' 0 _ (fun i=>(rl.getD i []).drop 1) i3 (fun i hi=>?_) (fun i hi=>?_) (fun i hi j hj=>?_) hbk hn hnd
 ·obtain⟨us,e1,e2,e3⟩:=hen i hi
  show ObAt X es[i].2 ((rl.getD i []).drop 1)
  rw[e1];exact e3
 ·obtain⟨us,e1,e2,e3⟩:=hen i hi
  have:=(i5 i hi).2 0 (by omega);rw[e1]at this;exact⟨e2,this⟩
 ·have:=(i5 i hi).2 (1+j) (by omega)
  show _=((rl.getD i []).drop 1)[j]?
  rw[List.getElem?_drop,←this]
  congr 2
  omega
theorem qW (hv:nM pl dd) (hsm6:bs.length≤100000000) (W:World) (h:PS P L R A c bs d pl W r):Calls Tryz.prog 95 #[.pointer (some ⟨P,0,none⟩),.int .i64 (dd:Nat)] W (dT P L R A c bs d pl W (match bQ (valS pl dd) (r.length+1) [] [] r with| .ok l v=>.ok (.mk 7 0 [] [] l) v| .err e v=>.err e v)):=by
 obtain⟨W1,hW1⟩:∃W1,W1=W.alloc (.cells #[.int .i64 0,.int .i64 0,.slice none 0 0,.slice none 0 0,.slice none 0 0] 32):=⟨_,rfl⟩;obtain⟨W2,hW2⟩:∃W2,W2=W1.alloc (.map #[] 0):=⟨_,rfl⟩;have hb1:Below W.heap.size W W1:=by rw[hW1];exact (Below.refl _ _).alloc (Nat.le_refl _) _
 have z1:W1.heap.size=W.heap.size+1:=by rw[hW1,World.size_alloc]
 have hb12:Below W1.heap.size W1 W2:=by rw[hW2];exact (Below.refl _ _).alloc (Nat.le_refl _) _
 have hb2:Below W.heap.size W W2:=ah hb1 hb12;have z2:W2.heap.size=W.heap.size+2:=by rw[hW2,World.size_alloc,z1]
 have hR1:Blk W2 W.heap.size 32 #[.int .i64 0,.int .i64 0,.slice none 0 0,.slice none 0 0,.slice none 0 0]:=(by rw[hW1];exact Blk.new W _ _:Blk W1 W.heap.size 32 #[.int .i64 0,.int .i64 0,.slice none 0 0,.slice none 0 0,.slice none 0 0]).below hb12 (by omega);have hM1:W2.ownsMap (H:=Unit) Tryz.prog 9 unitElem (W.heap.size+1) 0 (eu []):=by rw[hW2,←z1,oF];exact World.ownsMap_made _ _ _ _
 have hA:DS W P L R A c bs d pl [] [] (.slice none 0 0) [] W2 r:=⟨h.belowW hb2,Fr.of_below hb2,hR1,hM1,RowG.nil _ _ _ _ _,h.L_lt,h.R_lt,h.P_lt,h.a_lt,by omega⟩;obtain⟨K,hK⟩:∃K,K=bQ (valS pl dd) (r.length+1) [] [] r:=⟨_,rfl⟩;rw[←hK];have hsm:=h.small;have hrb:=aB h.suf;have hmm:=@run_makeMap Tryz.prog;refine h6_ hK hA hv hsm hrb hsm6 ?_;clear hK hA hv hsm hrb hsm6;intro hK hA hv hsm hrb hsm6;clear h hb1 z1 hb12 hb2 z2 hR1 hM1;go_enter Tryz.func95,Tryz.ntmps95;go_upto_region 3 with fail
 rw[←hW1,←hW2];replace hW1:=hi_ hW1;replace hW2:=hi_ hW2;go_wp2
 go_loopw [7] (fun s7 wr=>∃(f:Nat) (es:List (Bs×Ob)) (rl:List (List Value)) (r1:Bs),DS W P L R A c bs d pl (es.map (·.1)) es s7 rl wr r1∧bQ (valS pl dd) f (es.map (·.1)) (bK es) r1=K∧r1.length<f∧aI es+r1.length≤r.length∧(es.map (·.1)).Nodup) (fun _ wr=>bs.length+1 - posOf L wr)
 case atStart=>exact⟨_,[],_,r,hA.out,hK.out.symm,Nat.lt_succ_self _,by simp[aI],by simp⟩
 case round=>
  clear hA hK;obtain⟨f,es,rl,r1,hA,hE,hf,hacc,hnd⟩:=hrel;obtain⟨f,rfl⟩:∃g,f=g+1:=⟨f - 1,by omega⟩;have hbw:bs.length+1 - posOf L wr=r1.length+1:=by rw[hA.ps.posOf];have:=aK hA.ps.suf;have:=aE bs r1;omega
  have hel:=cH es;have hes:es.length≤100000000:=by have:=hsm6.out;have:=hrb.out;omega
  have heb:∀e∈es,e.2.bulk≤100000000:=fun e he=>by have h1:=mw he;have:=hsm6.out;have:=hrb.out;omega
  have hu7:=hA.shape;obtain⟨AL,cL,hu7⟩:=hu7;subst hu7;have cD:=fun X r2 (hX:DS W P L R A c bs d pl (es.map (·.1)) es (.slice AL es.length cL) rl X r2)=>hX.ents heb hes hnd
  have hltG:∀g,(Value.slice AL es.length cL).ownBlock=some g→W.heap.size+2≤g∧g<wr.heap.size:=fun g hg=>⟨(hA.rows.row.lt g hg).1,(hA.rows.row.lt g hg).2⟩
  have p0:=hA.ps.p0;have q0:=hA.ps.q0;obtain⟨t0,t1,t2,t3,t4,f0,f1,f2,f3,f4⟩:=hA.bT.b5;have hsuf:=hA.ps.suf;have hsufb:=(av false r1).trans hsuf;obtain⟨at1,ha1⟩:∃a:Int,a=(pos bs (af false r1):Nat):=⟨_,rfl⟩;have cst:=fun (n:Int)=>Lib.hid fun (r2:Bs) W h=>dB (P:=P) (L:=L) (R:=R) (A:=A) (c:=c) (bs:=bs) (d:=d) (pl:=pl) (r:=r2) hsufb ha1 n W h
  obtain⟨ks,hks⟩:∃ks,ks=es.map (·.1):=⟨_,rfl⟩;rw[←hks]at hA hE hnd cD;obtain⟨m,hm⟩:∃m,m=es.length:=⟨_,rfl⟩;rw[←hm]at hltG cD hA⊢;have hmk:ks.length=m:=by rw[hks,List.length_map,hm]
  refine h9_ hks hm hmk hsuf hsufb hel hes heb hA ?_;clear hks hm hmk hsuf hsufb hel hes heb hA;intro hks hm hmk hsuf hsufb hel hes heb hA;refine h8_ hf hacc hbw hltG hE hnd cD cst ?_;clear hf hacc hbw hltG hE hnd cD cst;intro hf hacc hbw hltG hE hnd cD cst;cases ht:ar r1 with
  |err n u=>
   have ct:=hi_ fun W h=>eY (P:=P) (L:=L) (R:=R) (A:=A) (c:=c) (bs:=bs) (d:=d) (pl:=pl) ht ha1 W h
   obtain rfl:K=.err n u:=by rw[←hE.out,bQ,ht]
   clear hE ht cst;replace ha1:=hi_ ha1;go_upto_region 4 with (first|(go_at_call 82;(with_reducible refine (ct.out _ hA.out.ps).mono ?_);rintro e w4 ⟨hn0,rfl,hP2,hF2⟩;replace hA:=hi_ (hA.out.to hP2 hF2);replace p0:=hA.out.ps.p0;replace q0:=hA.out.ps.q0;obtain⟨t0,t1,t2,t3,t4,f0,f1,f2,f3,f4⟩:=hA.out.bT.b5;have hnb:=bne_iff_ne.2 hn0;replace hn0:=hi_ hn0;clear hP2 hF2))
   obtain⟨W5,hW5,b5,hU5⟩:=ak w4 108 #[.int .i64 0,.int .i64 at1,.int .i64 0,.slice none 0 0];rw[←hW5];have k50:=hU5.cell 0;have k51:=hU5.cell 1;have k53:=hU5.cell 3;replace hA:=hi_ (hA.out.belowW b5);replace p0:=hA.out.ps.p0;replace q0:=hA.out.ps.q0;obtain⟨t0,t1,t2,t3,t4,f0,f1,f2,f3,f4⟩:=hA.out.bT.b5;refine h3_ hU5 b5 hW5 ?_;clear hU5 b5 hW5;intro hU5 b5 hW5;go_wp2
   generalize hWf:World.setCell _ _ _=Wf;replace hWf:=hWf.symm;obtain⟨hb,hg⟩:=aD hA.out.bT hWf;obtain⟨u0,u1,u2,u3,u4,-⟩:=hb.b5;have hPf:=hi_ (hA.out.ps.grownL hg (by have:=hA.out.lL;omega) (by have:=hA.out.lR;omega) (by have:=hA.out.lP;omega) (fun h0 x hx=>by have:=hA.out.off h0 x hx;omega));have hFf:=hi_ (hA.out.fr.grownL hg (Nat.le_refl _));replace hg:=hi_ hg;replace hWf:=hi_ hWf;clear hb t0 t1 t2 t3 t4 f0 f1 f2 f3 f4;refine bodyPost_ret (by simp[results,Tryz.results95,go_sem,u0,u1,u2,u3,u4];try rfl) rfl ?_;exact⟨hn0.out,rfl,hPf.out,hFf.out⟩
  |ok k u=>
   have ct:=hi_ fun W h=>bF (P:=P) (L:=L) (R:=R) (A:=A) (c:=c) (bs:=bs) (d:=d) (pl:=pl) ht ha1 W h
   replace ha1:=hi_ ha1;obtain⟨kk,hkk⟩:∃x,x=k.k:=⟨_,rfl⟩;rw[←hkk]at ct;have htl:=bY ht;have hE2:=hE.out;rw[bQ,ht]at hE2;simp only[]at hE2;rw[←hkk]at hE2;clear hE ht;replace hkk:=hi_ hkk;replace htl:=hi_ htl;by_cases hk8:kk=8
   ·obtain rfl:K=.ok (bK es) u:=by rw[←hE2,if_pos hk8]
    subst hk8;clear hE2 cst;go_upto_region 4 with (first|(go_at_call 82;(with_reducible refine (ct.out _ hA.out.ps).mono ?_);rintro e w4 ⟨a2,c2,rfl,hO,hP2,hF2⟩;replace hA:=hi_ (hA.out.to hP2 hF2);replace p0:=hA.out.ps.p0;replace q0:=hA.out.ps.q0;obtain⟨t0,t1,t2,t3,t4,f0,f1,f2,f3,f4⟩:=hA.out.bT.b5;replace hO:=hi_ hO;clear hP2 hF2))
    obtain⟨W5,hW5,b5,hU5⟩:=ak w4 108 #[.int .i64 8,.int .i64 at1,.int .i64 k.n,.slice a2 k.b.length c2];rw[←hW5];have k50:=hU5.cell 0;have k51:=hU5.cell 1;have k53:=hU5.cell 3;replace hA:=hi_ (hA.out.belowW b5);replace p0:=hA.out.ps.p0;replace q0:=hA.out.ps.q0;obtain⟨t0,t1,t2,t3,t4,f0,f1,f2,f3,f4⟩:=hA.out.bT.b5;refine h3_ hU5 b5 hW5 ?_;clear hU5 b5 hW5;intro hU5 b5 hW5;have cd:=cD.out W5 _ hA.out;have hW5s:=hA.out.sz;go_wp2_with (go_at_call 125;(with_reducible refine cd.mono ?_);rintro e w7 ⟨us,rfl,hI,hB7⟩;obtain⟨xk,xn,F1,F2,F3,fn1,fc1,fn2,fc2,fn3,fc3,rfl⟩:=cg hI.ob;replace hA:=hi_ (hA.out.belowW hB7);replace p0:=hA.out.ps.p0;replace q0:=hA.out.ps.q0;obtain⟨t0,t1,t2,t3,t4,f0,f1,f2,f3,f4⟩:=hA.out.bT.b5;replace hI:=hi_ hI;replace hB7:=hi_ hB7;clear cd)
    generalize hWf:World.setCell _ _ _=Wf;replace hWf:=hWf.symm;obtain⟨hb,hg⟩:=aD hA.out.bT hWf;obtain⟨u0,u1,u2,u3,u4,-⟩:=hb.b5;have hPf:=hi_ (hA.out.ps.grownL hg (by have:=hA.out.lL;omega) (by have:=hA.out.lR;omega) (by have:=hA.out.lP;omega) (fun h0 x hx=>by have:=hA.out.off h0 x hx;omega));have hFf:=hi_ (hA.out.fr.grownL hg (Nat.le_refl _));replace hg:=hi_ hg;replace hWf:=hi_ hWf;clear hb t0 t1 t2 t3 t4 f0 f1 f2 f3 f4;refine bodyPost_ret (by simp[results,Tryz.results95,go_sem,u0,u1,u2,u3,u4];try rfl) rfl ?_;have hz7:=hB7.out.size;have hIf:=(hI.out.keep (fun b hb1 hb2=>hg.out.block b hb2 (by intro e;injection e with e;omega)) hg.out.size).wide (lo':=W.heap.size) (by omega);have hIg:ObI W.heap.size Wf.heap.size Wf (.mk 7 0 [] [] (bK es)) _:=⟨Nat.le_refl _,fun w' h hz=>hIf.2 w' (fun b h1 h2=>h b h1 (Nat.lt_of_lt_of_le h2 hIf.1)) (Nat.le_trans hIf.1 hz)⟩;exact⟨_,rfl,hIg,hPf.out,hFf.out⟩
   ·rw[if_neg hk8]at hE2
    by_cases hk0:kk=0
    ·obtain rfl:K=.err 2 (af false r1):=by rw[←hE2,if_pos hk0]
     have cs:=cst.out 2;subst hk0;clear hE2 cst;go_upto_region 4 with (first|(go_at_call 82;(with_reducible refine (ct.out _ hA.out.ps).mono ?_);rintro e w4 ⟨a2,c2,rfl,hO,hP2,hF2⟩;replace hA:=hi_ (hA.out.to hP2 hF2);replace p0:=hA.out.ps.p0;replace q0:=hA.out.ps.q0;obtain⟨t0,t1,t2,t3,t4,f0,f1,f2,f3,f4⟩:=hA.out.bT.b5;replace hO:=hi_ hO;clear hP2 hF2))
     obtain⟨W5,hW5,b5,hU5⟩:=ak w4 108 #[.int .i64 0,.int .i64 at1,.int .i64 k.n,.slice a2 k.b.length c2];rw[←hW5];have k50:=hU5.cell 0;have k51:=hU5.cell 1;have k53:=hU5.cell 3;replace hA:=hi_ (hA.out.belowW b5);replace p0:=hA.out.ps.p0;replace q0:=hA.out.ps.q0;obtain⟨t0,t1,t2,t3,t4,f0,f1,f2,f3,f4⟩:=hA.out.bT.b5;refine h3_ hU5 b5 hW5 ?_;clear hU5 b5 hW5;intro hU5 b5 hW5;go_wp2_with (go_at_call 83;(with_reducible refine (cs.out _ _ hA.out.ps).mono ?_);rintro e w6 ⟨rfl,hP2,hF2⟩;replace hA:=hi_ (hA.out.to hP2 hF2);replace p0:=hA.out.ps.p0;replace q0:=hA.out.ps.q0;obtain⟨t0,t1,t2,t3,t4,f0,f1,f2,f3,f4⟩:=hA.out.bT.b5;clear hP2 hF2)
     generalize hWf:World.setCell _ _ _=Wf;replace hWf:=hWf.symm;obtain⟨hb,hg⟩:=aD hA.out.bT hWf;obtain⟨u0,u1,u2,u3,u4,-⟩:=hb.b5;have hPf:=hi_ (hA.out.ps.grownL hg (by have:=hA.out.lL;omega) (by have:=hA.out.lR;omega) (by have:=hA.out.lP;omega) (fun h0 x hx=>by have:=hA.out.off h0 x hx;omega));have hFf:=hi_ (hA.out.fr.grownL hg (Nat.le_refl _));replace hg:=hi_ hg;replace hWf:=hi_ hWf;clear hb t0 t1 t2 t3 t4 f0 f1 f2 f3 f4;refine bodyPost_ret (by simp[results,Tryz.results95,go_sem,u0,u1,u2,u3,u4];try rfl) rfl ?_;exact⟨by decide,rfl,hPf.out,hFf.out⟩
    ·rw[if_neg hk0]at hE2
     by_cases hk4:kk=4
     ·rw[if_neg (by simpa using hk4)]at hE2
      subst hk4;have hbl:k.b.length≤100000000:=by
       have h1:=htl.out;have h2:=hkk.out;have h3:=hacc.out;have h4:=hrb.out;have h5:=hsm6.out;unfold cM at h1;rw[←h2]at h1;simp at h1;omega
      have hml:k.b.length≤maxLen:=by unfold maxLen;omega
      have hlk:u.length+k.b.length+1≤r1.length:=by
       have h1:=htl.out;have h2:=hkk.out;unfold cM at h1;rw[←h2]at h1;simp at h1;omega
      obtain⟨S,hS⟩:∃S,S=bytes k.b:=⟨_,rfl⟩;have hSd:S.data.toList=k.b:=by rw[hS];rfl
      have hkey:keyOf Tryz.prog 9 (.string S)=some (.string k.b):=by
       rw[←hSd];exact Go.WideMaps.keyOf_string_mk Tryz.underlying9 (by show S.data.size≤_;rw[←Array.length_toList,hSd];exact hml)
      have hkl:ks.length<maxLen:=by rw[hmk.out,hm.out];have:=hes.out;unfold maxLen;omega
      have hhas:=ow ks k.b;obtain⟨tw,htw⟩:∃t,t=ks.contains k.b:=⟨_,rfl⟩;rw[←htw]at hhas hE2;refine h9_ hbl hml hlk hS hSd htw hhas hE2 hkl ?_;clear hbl hml hlk hS hSd htw hhas hE2 hkl;intro hbl hml hlk hS hSd htw hhas hE2 hkl;refine h3_ hkey hk8 hk0 ?_;clear hkey hk8 hk0;intro hkey hk8 hk0;go_upto_region 4 with (first|(go_at_call 82;(with_reducible refine (ct.out _ hA.out.ps).mono ?_);rintro e w4 ⟨a2,c2,rfl,hO,hP2,hF2⟩;replace hA:=hi_ (hA.out.to hP2 hF2);replace p0:=hA.out.ps.p0;replace q0:=hA.out.ps.q0;obtain⟨t0,t1,t2,t3,t4,f0,f1,f2,f3,f4⟩:=hA.out.bT.b5;replace hO:=hi_ hO;clear hP2 hF2))
      obtain⟨W5,hW5,b5,hU5⟩:=ak w4 108 #[.int .i64 4,.int .i64 at1,.int .i64 k.n,.slice a2 k.b.length c2];rw[←hW5];have k50:=hU5.cell 0;have k51:=hU5.cell 1;have k53:=hU5.cell 3;replace hA:=hi_ (hA.out.belowW b5);replace p0:=hA.out.ps.p0;replace q0:=hA.out.ps.q0;obtain⟨t0,t1,t2,t3,t4,f0,f1,f2,f3,f4⟩:=hA.out.bT.b5;refine h3_ hU5 b5 hW5 ?_;clear hU5 b5 hW5;intro hU5 b5 hW5;replace hO:=hi_ (hO.out.below b5.out);have hcv:=cX hO.out;rw[show (⟨k.b.toArray⟩:ByteArray)=bytes k.b from rfl,←hS.out]at hcv;obtain⟨kl,hkl2⟩:∃n,n=k.b.length:=⟨_,rfl⟩;rw[←hkl2]at hcv hU5 k53⊢;replace hkl2:=hi_ hkl2;go_upto_region 13 with fail
      have hhs:=hhas.out;go_upto_region 14 with (at_lookup;refine wpList_lookup_own_unit _ rfl _ _ 167 rfl 9 168 tJ Tryz.underlying167 (ue _) (W.heap.size+1) ks.length (eu ks) rfl hA.out.mp _ _ rfl hkey.out ?_;rw[hhs])
      obtain⟨W6,hW6,b6⟩:=bH W5 168 #[];rw[←hW6];replace hA:=hi_ (hA.out.belowW b6);replace p0:=hA.out.ps.p0;replace q0:=hA.out.ps.q0;obtain⟨t0,t1,t2,t3,t4,f0,f1,f2,f3,-⟩:=hA.out.bT.b5;replace f4:=hA.out.bT.frozen 4;have hU6:=hU5.out.below b6 hU5.out.lt;replace k51:=hU6.cell 1;clear k50 k53 hU6;replace hW6:=hi_ hW6;replace b6:=hi_ b6;cases tw with
      |true=>
       have hE3:=hE2.out;rw[if_pos rfl]at hE3;obtain rfl:K=.err 4 (af false r1):=hE3.symm;have cs:=cst.out 4;clear hE3 hE2 cst;go_wp2_with (go_at_call 83;(with_reducible refine (cs.out _ _ hA.out.ps).mono ?_);rintro e w6 ⟨rfl,hP2,hF2⟩;replace hA:=hi_ (hA.out.to hP2 hF2);replace p0:=hA.out.ps.p0;replace q0:=hA.out.ps.q0;obtain⟨t0,t1,t2,t3,t4,f0,f1,f2,f3,f4⟩:=hA.out.bT.b5;clear hP2 hF2)
       generalize hWf:World.setCell _ _ _=Wf;replace hWf:=hWf.symm;obtain⟨hb,hg⟩:=aD hA.out.bT hWf;obtain⟨u0,u1,u2,u3,u4,-⟩:=hb.b5;have hPf:=hi_ (hA.out.ps.grownL hg (by have:=hA.out.lL;omega) (by have:=hA.out.lR;omega) (by have:=hA.out.lP;omega) (fun h0 x hx=>by have:=hA.out.off h0 x hx;omega));have hFf:=hi_ (hA.out.fr.grownL hg (Nat.le_refl _));replace hg:=hi_ hg;replace hWf:=hi_ hWf;clear hb t0 t1 t2 t3 t4 f0 f1 f2 f3 f4;refine bodyPost_ret (by simp[results,Tryz.results95,go_sem,u0,u1,u2,u3,u4];try rfl) rfl ?_;exact⟨by decide,rfl,hPf.out,hFf.out⟩
      |false=>
       have hE3:=hE2.out;rw[if_neg (by decide)]at hE3;clear hE2 cst;have cv:=hi_ fun W h=>hv.out P L R A c bs d W u hsm6.out h
       have hcut:=fB pl dd;obtain⟨V,hV⟩:∃V,V=valS pl dd u:=⟨_,rfl⟩;rw[←hV]at cv hE3;refine h3_ hV hE3 hcut ?_;clear hV hE3 hcut;intro hV hE3 hcut;go_upto_region 17 with (at_mapUpdate;refine wpList_mapUpdate_own _ rfl _ _ _ 167 rfl 9 168 tJ Tryz.underlying167 unitElem (W.heap.size+1) ks.length (eu ks) rfl hA.out.mp hkl.out _ _ _ rfl rfl hkey.out _ [] unitElem_mk ?_;intro w8 hown8 hgrow8;replace hA:=hi_ (hA.out.key hown8 hgrow8);replace p0:=hA.out.ps.p0;replace q0:=hA.out.ps.q0;obtain⟨t0,t1,t2,t3,t4,f0,f1,f2,f3,f4⟩:=hA.out.bT.b5;clear hown8 hgrow8)
       cases V with
       |err n v=>
        have hE4:=hE3.out;obtain rfl:K=.err n v:=hE4.symm;clear hE3 hE4;go_upto_region 18 with (first|(go_at_call 64;(with_reducible refine (cv.out _ hA.out.ps).mono ?_);rintro e w9 ⟨hn0,rfl,hP2,hF2⟩;replace hA:=hi_ (hA.out.to hP2 hF2);replace p0:=hA.out.ps.p0;replace q0:=hA.out.ps.q0;obtain⟨t0,t1,t2,t3,t4,f0,f1,f2,f3,f4⟩:=hA.out.bT.b5;have hnb:=bne_iff_ne.2 hn0;replace hn0:=hi_ hn0;clear hP2 hF2))
        obtain⟨WA,hWA,bA⟩:=bH w9 32 #[.int .i64 0,.int .i64 0,.slice none 0 0,.slice none 0 0,.slice none 0 0];rw[←hWA];replace hA:=hi_ (hA.out.belowW bA);replace p0:=hA.out.ps.p0;replace q0:=hA.out.ps.q0;obtain⟨t0,t1,t2,t3,t4,f0,f1,f2,f3,-⟩:=hA.out.bT.b5;replace f4:=hA.out.bT.frozen 4;replace hWA:=hi_ hWA;replace bA:=hi_ bA;go_wp2
        generalize hWf:World.setCell _ _ _=Wf;replace hWf:=hWf.symm;obtain⟨hb,hg⟩:=aD hA.out.bT hWf;obtain⟨u0,u1,u2,u3,u4,-⟩:=hb.b5;have hPf:=hi_ (hA.out.ps.grownL hg (by have:=hA.out.lL;omega) (by have:=hA.out.lR;omega) (by have:=hA.out.lP;omega) (fun h0 x hx=>by have:=hA.out.off h0 x hx;omega));have hFf:=hi_ (hA.out.fr.grownL hg (Nat.le_refl _));replace hg:=hi_ hg;replace hWf:=hi_ hWf;clear hb t0 t1 t2 t3 t4 f0 f1 f2 f3 f4;refine bodyPost_ret (by simp[results,Tryz.results95,go_sem,u0,u1,u2,u3,u4];try rfl) rfl ?_;exact⟨hn0.out,rfl,hPf.out,hFf.out⟩
       |ok o v=>
        go_upto_region 18 with (first|(go_at_call 64;(with_reducible refine (cv.out _ hA.out.ps).mono ?_);rintro e w9 ⟨us,rfl,hI,hP2,hF2⟩;obtain⟨xk,xn,F1,F2,F3,fn1,fc1,fn2,fc2,fn3,fc3,rfl⟩:=cg hI.ob;have hszV:=hi_ hA.out.sz;have hltV:=hi_ (fun g hg=>(hA.out.rows.row.lt g hg).2);replace hI:=hi_ hI;replace hA:=hi_ (hA.out.to hP2 hF2);replace p0:=hA.out.ps.p0;replace q0:=hA.out.ps.q0;obtain⟨t0,t1,t2,t3,t4,f0,f1,f2,f3,f4⟩:=hA.out.bT.b5;clear hP2 hF2))
        obtain⟨WA,hWA,bA,hXA⟩:=ak w9 32 #[.int .i64 xk,.int .i64 xn,.slice F1 fn1 fc1,.slice F2 fn2 fc2,.slice F3 fn3 fc3];rw[←hWA];obtain⟨x0,x1,x2,x3,x4,-⟩:=hXA.b5;replace hA:=hi_ (hA.out.belowW bA);have hIA:=hI.out.keep (fun b _ hb=>bA.block b (by have:=hI.out.1;omega)) (Nat.le_trans hI.out.1 bA.size);replace p0:=hA.out.ps.p0;replace q0:=hA.out.ps.q0;obtain⟨t0,t1,t2,t3,t4,f0,f1,f2,f3,-⟩:=hA.out.bT.b5;replace f4:=hA.out.bT.frozen 4;refine h4_ hWA bA hXA hIA ?_;clear hWA bA hXA hIA;intro hWA bA hXA hIA;go_upto_region 20 with fail
        obtain⟨WB,hWB,bB⟩:=bH WA 91 #[.string S,.int .i64 xk,.int .i64 xn,.slice F1 fn1 fc1,.slice F2 fn2 fc2,.slice F3 fn3 fc3];have hIB:=hIA.out.keep (fun b _ hb=>bB.block b (by have:=hIA.out.1;omega)) (Nat.le_trans hIA.out.1 bB.size);have hEB:EnI w8.heap.size w9.heap.size WB (k.b,o) [.string S,.int .i64 xk,.int .i64 xn,.slice F1 fn1 fc1,.slice F2 fn2 fc2,.slice F3 fn3 fc3]:=⟨_,by rw[hS.out];rfl,hml.out,hIB⟩;have hAB:=hA.out.belowW bB;have hcB:∀j u,([.string S,.int .i64 xk,.int .i64 xn,.slice F1 fn1 fc1,.slice F2 fn2 fc2,.slice F3 fn3 fc3]:List Value)[j]?=some u→WB.cell? ⟨WA.heap.size,j,none⟩=some u:=fun j u hu=>by rw[hWB];exact ei WA _ _ j u hu
        have hapB:∀g,(Value.slice AL m cL).ownBlock=some g→g<w8.heap.size∨w9.heap.size≤g:=fun g hg=>.inl (hltV.out g hg)
        have hAL:es.length≤1000000000:=by have:=hes.out;omega
        refine h7_ hWB bB hEB hAB hcB hapB hAL ?_;clear hWB bB hEB hAB hcB hapB hAL;intro hWB bB hEB hAB hcB hapB hAL;clear hIB;go_wp2_with (at_builtin;rw[←hWB.out];refine kJ rfl _ _ rfl (W.heap.size+2) _ es rl rfl hAB.out.rows WA.heap.size w8.heap.size w9.heap.size (k.b,o) _ rfl hEB.out hszV.out hapB.out hcB.out hAL.out hAB.out.sz ?_;intro vE wE hGE hgE hatE;obtain⟨AE,cE,rfl⟩:∃A c,vE=.slice A (es++[(k.b,o)]).length c:=(by obtain⟨A,c,g,e,_⟩:=hGE.out en_law (by omega);exact⟨A,c,e⟩);obtain⟨nE,hnE⟩:∃n,n=(es++[(k.b,o)]).length:=⟨_,rfl⟩;rw[←hnE]at hGE⊢;replace hAB:=hi_ (hAB.out.row hGE hgE);replace hnE:=hi_ hnE;clear hGE hgE hatE)
        have hE4:bQ (valS pl dd) f (ks++[k.b]) (dA k.b o (bK es)) v=K:=hE3.out;have hN:=hAB.out;have e1:=hN.ps.posOf;have e2:=hbw.out;have e3:=aK hN.ps.suf;have e5:=hcut.out u o v hV.out.symm;have e6:=hf.out;have e7:=hacc.out;have e8:=aE bs v;have e9:=hlk.out;have e10:=dk o;have hks2:(es++[(k.b,o)]).map (·.1)=ks++[k.b]:=by rw[hks.out];simp
        rw[←hks2]at hN hE4
        go_roundw
        case rel=>
         refine⟨f,es++[(k.b,o)],_,v,hN,by rw[eg];exact hE4,by omega,?_,?_⟩
         ·rw[ee]
          simp only[aI];omega
         ·rw[hks2,List.nodup_append]
          refine⟨hnd.out,by simp,fun a ha b hb=>?_⟩;simp only[List.mem_singleton]at hb;subst hb;intro e;subst e;have h1:=htw.out;rw[List.contains_iff_mem.2 ha]at h1;cases h1
        case measure=>rw[e1];omega
     ·obtain rfl:K=.err 4 (af false r1):=by rw[←hE2,if_pos hk4]
      have cs:=cst.out 4;have hb8:(kk == 8)=false:=beq_eq_false_iff_ne.2 hk8;have hb0:(kk == 0)=false:=beq_eq_false_iff_ne.2 hk0;have hb4:(kk !=4)=true:=bne_iff_ne.2 hk4;refine h3_ hk8 hk0 hk4 ?_;clear hk8 hk0 hk4;intro hk8 hk0 hk4;clear hE2 cst;go_upto_region 4 with (first|(go_at_call 82;(with_reducible refine (ct.out _ hA.out.ps).mono ?_);rintro e w4 ⟨a2,c2,rfl,hO,hP2,hF2⟩;replace hA:=hi_ (hA.out.to hP2 hF2);replace p0:=hA.out.ps.p0;replace q0:=hA.out.ps.q0;obtain⟨t0,t1,t2,t3,t4,f0,f1,f2,f3,f4⟩:=hA.out.bT.b5;replace hO:=hi_ hO;clear hP2 hF2))
      obtain⟨W5,hW5,b5,hU5⟩:=ak w4 108 #[.int .i64 kk,.int .i64 at1,.int .i64 k.n,.slice a2 k.b.length c2];rw[←hW5];have k50:=hU5.cell 0;have k51:=hU5.cell 1;have k53:=hU5.cell 3;replace hA:=hi_ (hA.out.belowW b5);replace p0:=hA.out.ps.p0;replace q0:=hA.out.ps.q0;obtain⟨t0,t1,t2,t3,t4,f0,f1,f2,f3,f4⟩:=hA.out.bT.b5;refine h3_ hU5 b5 hW5 ?_;clear hU5 b5 hW5;intro hU5 b5 hW5;go_wp2_with (go_at_call 83;(with_reducible refine (cs.out _ _ hA.out.ps).mono ?_);rintro e w6 ⟨rfl,hP2,hF2⟩;replace hA:=hi_ (hA.out.to hP2 hF2);replace p0:=hA.out.ps.p0;replace q0:=hA.out.ps.q0;obtain⟨t0,t1,t2,t3,t4,f0,f1,f2,f3,f4⟩:=hA.out.bT.b5;clear hP2 hF2)
      generalize hWf:World.setCell _ _ _=Wf;replace hWf:=hWf.symm;obtain⟨hb,hg⟩:=aD hA.out.bT hWf;obtain⟨u0,u1,u2,u3,u4,-⟩:=hb.b5;have hPf:=hi_ (hA.out.ps.grownL hg (by have:=hA.out.lL;omega) (by have:=hA.out.lR;omega) (by have:=hA.out.lP;omega) (fun h0 x hx=>by have:=hA.out.off h0 x hx;omega));have hFf:=hi_ (hA.out.fr.grownL hg (Nat.le_refl _));replace hg:=hi_ hg;replace hWf:=hi_ hWf;clear hb t0 t1 t2 t3 t4 f0 f1 f2 f3 f4;refine bodyPost_ret (by simp[results,Tryz.results95,go_sem,u0,u1,u2,u3,u4];try rfl) rfl ?_;exact⟨by decide,rfl,hPf.out,hFf.out⟩
end
end
section
open Go Go.RowKit Go.Wk Go.Rd Go.Fx
section
variable {P L R:Nat}{A:Option Addr}{c:Nat}{bs:Bs}{d dd:Nat}{pl:Bool}{W X X' w w':World}{r r' u v:Bs}{k s:Tok}
theorem nu (h:ar r=.ok k u):k.k=0∨k.k=1∨k.k=2∨k.k=3∨k.k=4∨k.k=5∨k.k=6∨k.k=7∨k.k=8∨k.k=9:=by
 unfold ar at h;have key:∀B:Bs,tokA B=.ok k u→k.k=0∨k.k=1∨k.k=2∨k.k=3∨k.k=4∨k.k=5∨k.k=6∨k.k=7∨k.k=8∨k.k=9:=fun B h=>by
  cases B with
  |nil=>rw[tokA]at h;cases h;simp
  |cons x t=>
   rw[tokA]at h;have ht:∀kk R,bw kk (x :: t) R=.ok k u→k.k=kk:=fun kk R h=>by
    cases R with
    |ok b v=>cases h;simp
    |err e v=>cases h
   unfold dS at h
   repeat' split at h
   all_goals first
    |(cases h;done)
    |(have:=ht _ _ h;simp[this];done)
    |(cases h;simp;done)
 exact key _ h
theorem gQ:∀(dd:Nat),dd≤1001→∀{pl:Bool},nM pl dd
 |dd,hdd,pl=>fun P L R A c bs d W r hsm6 h=>by
  cases ht:ar r with
  |err n u=>exact th ht W h
  |ok k u=>
   rcases nu ht with hk|hk|hk|hk|hk|hk|hk|hk|hk|hk
   ·exact tg ht hk W h
   ·exact p9 ht hk W h
   ·exact rG ht hk W h
   ·exact ti ht hk W h
   ·exact rF ht hk W h
   ·cases dd with
    |zero=>exact p5 rfl ht hk W h
    |succ d'=>exact te (by omega) (fun W hP=>by
     have:=pd (gQ d' (by omega)) hsm6 W hP;cases hA:dj (valS pl d') (u.length+1) [] u with
     |ok l v=>rw[hA]at this;exact this
     |err e v=>rw[hA]at this;exact this) ht hk W h
   ·exact pZ ht hk W h
   ·cases dd with
    |zero=>exact p6 rfl ht hk W h
    |succ d'=>exact tf (by omega) (fun W hP=>by
     have:=qW (gQ d' (by omega)) hsm6 W hP;cases hA:bQ (valS pl d') (u.length+1) [] [] u with
     |ok l v=>rw[hA]at this;exact this
     |err e v=>rw[hA]at this;exact this) ht hk W h
   ·exact p8 ht hk W h
   ·cases hw:(bn k.b).2.2 with
    |true=>exact rI ht hk hw W h
    |false=>exact nw ht hk hw W h
end
end
end Go.Proofs.YthffpbkndnhlfaaGreatDoor
namespace Go.Rd
open Go Go.Wk Go.Fx
def cx (s:Bs) (r:Bs):Res Tok:=match ar r with
 | .err e u=>.err e u
 | .ok t u=>if t.k=0 then .err 2 (af false r) else if t.k=9∧t.b=s then .ok t u else .err 4 (af false r)
def bx (lo hi:Int) (r:Bs):Res Tok:=match ar r with
 | .err e u=>.err e u
 | .ok t u=>if t.k=0 then .err 2 (af false r) else if t.k=1∧lo≤t.n∧t.n≤hi then .ok t u else .err 4 (af false r)
section
variable {r u:Bs}{k:Tok}
theorem r8 {s:Bs}{n:Int}(h:ar r=.err n u):cx s r=.err n u:=by unfold cx;rw[h]
theorem r7 {s:Bs}(h:ar r=.ok k u) (hk:k.k=0):cx s r=.err 2 (af false r):=by unfold cx;rw[h];simp only[if_pos hk]
theorem tj {s:Bs}(h:ar r=.ok k u) (hk:¬k.k=0) (h2:¬(k.k=9∧k.b=s)):cx s r=.err 4 (af false r):=by unfold cx;rw[h];simp only[if_neg hk,if_neg h2]
theorem r9 {s:Bs}(h:ar r=.ok k u) (h2:k.k=9∧k.b=s):cx s r=.ok k u:=by unfold cx;rw[h];simp only[if_pos h2];rw[if_neg (by rw[h2.1];decide)]
theorem rX {lo hi n:Int}(h:ar r=.err n u):bx lo hi r=.err n u:=by unfold bx;rw[h]
theorem rW {lo hi:Int}(h:ar r=.ok k u) (hk:k.k=0):bx lo hi r=.err 2 (af false r):=by unfold bx;rw[h];simp only[if_pos hk]
theorem qH {lo hi:Int}(h:ar r=.ok k u) (hk:¬k.k=0) (h2:¬(k.k=1∧lo≤k.n∧k.n≤hi)):bx lo hi r=.err 4 (af false r):=by unfold bx;rw[h];simp only[if_neg hk,if_neg h2]
theorem rY {lo hi:Int}(h:ar r=.ok k u) (h2:k.k=1∧lo≤k.n∧k.n≤hi):bx lo hi r=.ok k u:=by unfold bx;rw[h];simp only[if_pos h2];rw[if_neg (by rw[h2.1];decide)]
end
end Go.Rd
namespace Go.Proofs.YthffpbkndnhlfaaGreatDoor
open Go Go.RowKit Go.Wk Go.Rd Go.Fx
section
variable {P L R:Nat}{A:Option Addr}{c:Nat}{bs:Bs}{d dd:Nat}{pl:Bool}{W X X' w w':World}{r r' u v:Bs}{k s:Tok}
theorem o8 (hd:d≤1001) (hsm6:bs.length≤100000000) (W:World) (h:PS P L R A c bs d pl W r):Calls Tryz.prog 29 #[.pointer (some ⟨P,0,none⟩)] W (dT P L R A c bs d pl W (valS pl d r)):=by
 have cv:=hi_ fun W h=>gQ d hd (pl:=pl) P L R A c bs d W r hsm6 h
 obtain⟨RR,hRR⟩:∃x,x=valS pl d r:=⟨_,rfl⟩;rw[←hRR]at cv⊢;replace hRR:=hi_ hRR;obtain⟨W1,hW1,b1,hT⟩:=ak W 32 #[.int .i64 0,.int .i64 0,.slice none 0 0,.slice none 0 0,.slice none 0 0];have zs:W1.heap.size=W.heap.size+1:=by rw[hW1];exact World.size_alloc _ _
 have hP:=h.belowW b1;have hLT:=h.L_lt;have hRT:=h.R_lt;have hPT:=h.P_lt;have hAT:=h.a_lt;have hneL:W.heap.size≠L:=by omega
 have hneR:W.heap.size≠R:=by omega
 have hsuf:=(av false r).trans h.suf;have cm:=hi_ fun W h=>jg (P:=P) (L:=L) (R:=R) (A:=A) (c:=c) (bs:=bs) (d:=d) (pl:=pl) (r:=r) W h
 have p0:=hP.p0;have q0:=hP.q0;have hF:=hi_ (Fr.of_below (L:=L) (R:=R) b1);have p1:=hP.par.cell 1;refine h8_ hsuf hP hT b1 zs hneL hneR hAT ?_;clear hsuf hP hT b1 zs hneL hneR hAT;intro hsuf hP hT b1 zs hneL hneR hAT;clear h;go_enter Tryz.func29,Tryz.ntmps29;go_upto_region 1 with fail
 rw[←hW1];replace hW1:=hi_ hW1;cases RR with
 |err n v=>
  go_upto_region 4 with (first|(go_at_call 63;(with_reducible refine (cm.out _ hP.out).mono ?_);rintro e w2 ⟨rfl,rfl⟩)|(go_at_call 64;(with_reducible refine (cv.out _ hP.out).mono ?_);rintro e w4 ⟨hn0,rfl,hP2,hF2⟩;replace hT:=hi_ (hF2.blk hneL.out hneR.out hT.out);replace hF:=hi_ (hF.out.trans hF2);replace hP:=hi_ hP2;replace p0:=hP.out.p0;replace q0:=hP.out.q0;have hnb:=bne_iff_ne.2 hn0;replace hn0:=hi_ hn0;clear hP2 hF2))
  obtain⟨WA,hWA,bWA,hUWA⟩:=ak w4 32 #[.int .i64 0,.int .i64 0,.slice none 0 0,.slice none 0 0,.slice none 0 0];rw[←hWA];obtain⟨x0,x1,x2,x3,x4,-⟩:=hUWA.b5;replace hT:=hi_ (hT.out.below bWA hT.out.lt);replace hP:=hi_ (hP.out.belowW bWA);replace hF:=hi_ (hF.out.trans (Fr.of_below (L:=L) (R:=R) bWA));replace p0:=hP.out.p0;replace q0:=hP.out.q0;replace hUWA:=hi_ hUWA;replace hWA:=hi_ hWA;obtain⟨z0,z1,z2,z3,z4,v0,v1,v2,v3,v4⟩:=hT.out.b5;go_wp2
  generalize hWf:World.setCell _ _ _=Wf;replace hWf:=hWf.symm;obtain⟨hb,hg⟩:=aD hT.out hWf;obtain⟨u0,u1,u2,u3,u4,-⟩:=hb.b5;have hPf:=hi_ (hP.out.grownL hg (by omega) (by omega) (by omega) (fun h0 x hx=>by have:=hAT.out h0 x hx;omega));have hFf:=hi_ (hF.out.grownL hg (Nat.le_refl _));replace hg:=hi_ hg;replace hWf:=hi_ hWf;clear hb z0 v0 z1 v1 z2 v2 z3 v3 z4 v4;refine bodyPost_ret (by simp[results,Tryz.results29,go_sem,u0,u1,u2,u3,u4];try rfl) rfl ?_;exact⟨hn0.out,rfl,hPf.out,hFf.out⟩
 |ok o v=>
  go_upto_region 4 with (first|(go_at_call 63;(with_reducible refine (cm.out _ hP.out).mono ?_);rintro e w2 ⟨rfl,rfl⟩)|(go_at_call 64;(with_reducible refine (cv.out _ hP.out).mono ?_);rintro e w4 ⟨us,rfl,hI,hP2,hF2⟩;obtain⟨xk,xn,F1,F2,F3,fn1,fc1,fn2,fc2,fn3,fc3,rfl⟩:=cg hI.ob;replace hI:=hi_ hI;have hwb:=hi_ hF.out.size;have hwT:=hi_ hT.out.lt;replace hT:=hi_ (hF2.blk hneL.out hneR.out hT.out);replace hF:=hi_ (hF.out.trans hF2);replace hP:=hi_ hP2;replace p0:=hP.out.p0;replace q0:=hP.out.q0;clear hP2 hF2))
  obtain⟨WA,hWA,bWA,hUWA⟩:=ak w4 32 #[.int .i64 xk,.int .i64 xn,.slice F1 fn1 fc1,.slice F2 fn2 fc2,.slice F3 fn3 fc3];rw[←hWA];obtain⟨x0,x1,x2,x3,x4,-⟩:=hUWA.b5;replace hT:=hi_ (hT.out.below bWA hT.out.lt);replace hP:=hi_ (hP.out.belowW bWA);replace hF:=hi_ (hF.out.trans (Fr.of_below (L:=L) (R:=R) bWA));replace p0:=hP.out.p0;replace q0:=hP.out.q0;replace hUWA:=hi_ hUWA;replace hWA:=hi_ hWA;replace hI:=hi_ (hI.out.keep (fun b hb1 hb2=>bWA.block b (by have:=hI.out.1;omega)) (Nat.le_trans hI.out.1 bWA.size));obtain⟨z0,z1,z2,z3,z4,v0,v1,v2,v3,v4⟩:=hT.out.b5;go_wp2
  generalize hWf:World.setCell _ _ _=Wf;replace hWf:=hWf.symm;obtain⟨hb,hg⟩:=aD hT.out hWf;obtain⟨u0,u1,u2,u3,u4,-⟩:=hb.b5;have hPf:=hi_ (hP.out.grownL hg (by omega) (by omega) (by omega) (fun h0 x hx=>by have:=hAT.out h0 x hx;omega));have hFf:=hi_ (hF.out.grownL hg (Nat.le_refl _));replace hg:=hi_ hg;replace hWf:=hi_ hWf;clear hb z0 v0 z1 v1 z2 v2 z3 v3 z4 v4;refine bodyPost_ret (by simp[results,Tryz.results29,go_sem,u0,u1,u2,u3,u4];try rfl) rfl ?_;have hIf:=(hI.out.keep (fun b hb1 hb2=>hg.out.block b (by have:=hI.out.1;omega) (by intro e;injection e with e;have:=hwT.out;omega)) (Nat.le_trans hI.out.1 hg.out.size)).wide hwb.out;have hIg:ObI W.heap.size Wf.heap.size Wf o _:=⟨Nat.le_refl _,fun w' h hz=>hIf.2 w' (fun b h1 h2=>h b h1 (Nat.lt_of_lt_of_le h2 hIf.1)) (Nat.le_trans hIf.1 hz)⟩;exact⟨_,rfl,hIg,hPf.out,hFf.out⟩
def rO (P L R:Nat) (A:Option Addr) (c:Nat) (bs:Bs) (d:Nat) (pl:Bool) (w:World) (res:Res Tok) (e:Ending) (w':World):Prop:=match res with
 | .ok t u=>∃(a:Int) (Av:Option Addr) (nv cv:Nat),e=.returned (.tuple #[.agg #[.int .i64 t.k,.int .i64 a,.int .i64 t.n,.slice Av nv cv],.int .i64 0])∧PS P L R A c bs d pl w' u∧Fr L R w w'
 | .err n u=>n≠0∧e=.returned (.tuple #[.agg #[.int .i64 0,.int .i64 0,.int .i64 0,.slice none 0 0],.int .i64 n])∧PS P L R A c bs d pl w' u∧Fr L R w w'
theorem rT {B:Nat}{b:Bs}{a2:Option Addr}{n2 c2:Nat}(kk a n:Int) (S:ByteArray) (q:Nat) (W:World) (hO:Own B W (.slice a2 n2 c2) b) (hq:W.cell? ⟨q,0,none⟩=some (.string S)):Calls Tryz.prog 52 #[.agg #[.int .i64 kk,.int .i64 a,.int .i64 n,.slice a2 n2 c2],.pointer (some ⟨q,0,none⟩)] W fun e w'=>e=.returned (.bool (decide (kk=9∧b=S.data.toList)))∧Below W.heap.size W w':=by
 have hb:Below W.heap.size W (W.alloc (.cells #[.int .i64 kk,.int .i64 a,.int .i64 n,.slice a2 n2 c2] 108)):=(Below.refl _ _).alloc (Nat.le_refl _) _;have hcv:=cX (hO.below hb);have ql:=ac hq;replace hb:=hi_ hb;replace hO:=hi_ hO;obtain⟨D,hD⟩:∃D,D=decide (kk=9∧b=S.data.toList):=⟨_,rfl⟩;rw[←hD];replace hD:=hi_ hD;by_cases hk:kk=9
 ·subst hk
  go_enter Tryz.func52,Tryz.ntmps52;go_wp2
  go_ret
  refine⟨?_,hb.out⟩;rw[hD.out];refine congrArg (fun x=>Ending.returned (Value.bool x)) ?_;rw[ByteArray.toList_eq,Bool.eq_iff_iff];simp
 ·have hkb:(kk == 9)=false:=beq_eq_false_iff_ne.2 hk
  replace hk:=hi_ hk;go_enter Tryz.func52,Tryz.ntmps52;go_wp2
  go_ret
  refine⟨?_,hb.out⟩;rw[hD.out,decide_eq_false (fun h=>hk.out h.1)]
  rfl
theorem rS (kk a n lo hi:Int) (v:Value) (p q:Nat) (W:World) (hp:W.cell? ⟨p,0,none⟩=some (.int .i64 lo)) (hq:W.cell? ⟨q,0,none⟩=some (.int .i64 hi)) (hv:∃a2 n2 c2,v=.slice a2 n2 c2):Calls Tryz.prog 85 #[.agg #[.int .i64 kk,.int .i64 a,.int .i64 n,v],.pointer (some ⟨p,0,none⟩),.pointer (some ⟨q,0,none⟩)] W fun e w'=>e=.returned (.bool (decide (kk=1∧lo≤n∧n≤hi)))∧Below W.heap.size W w':=by
 obtain⟨a2,n2,c2,rfl⟩:=hv;have hb:Below W.heap.size W (W.alloc (.cells #[.int .i64 kk,.int .i64 a,.int .i64 n,.slice a2 n2 c2] 108)):=(Below.refl _ _).alloc (Nat.le_refl _) _;have pl:=ac hp;have ql:=ac hq;replace hb:=hi_ hb;obtain⟨D,hD⟩:∃D,D=decide (kk=1∧lo≤n∧n≤hi):=⟨_,rfl⟩;rw[←hD];replace hD:=hi_ hD;by_cases hk:kk=1
 ·subst hk
  go_enter Tryz.func85,Tryz.ntmps85;go_wp2
  all_goals go_ret
  all_goals refine⟨?_,hb.out⟩
  all_goals rw[hD.out]
  all_goals refine congrArg (fun x=>Ending.returned (Value.bool x)) ?_
  all_goals first
   |(exact decide_eq_decide.2 ⟨fun _=>⟨trivial,by omega,by omega⟩,fun h=>h.2.2⟩)
   |(exact (decide_eq_false (fun h=>by omega)).symm)
 ·have hkb:(kk == 1)=false:=beq_eq_false_iff_ne.2 hk
  replace hk:=hi_ hk;go_enter Tryz.func85,Tryz.ntmps85;go_wp2
  go_ret
  refine⟨?_,hb.out⟩;rw[hD.out,decide_eq_false (fun h=>hk.out h.1)]
  rfl
theorem pc {S:ByteArray}{q:Nat}(W:World) (h:PS P L R A c bs d pl W r) (hQq:Blk W q 9 #[.string S]) (hqL:q≠L) (hqR:q≠R):Calls Tryz.prog 51 #[.pointer (some ⟨P,0,none⟩),.func (.func 52) #[] #[.pointer (some ⟨q,0,none⟩)]] W (rO P L R A c bs d pl W (cx S.data.toList r)):=by
 obtain⟨RR,hRR⟩:∃x,x=cx S.data.toList r:=⟨_,rfl⟩;rw[←hRR];replace hRR:=hi_ hRR;obtain⟨W1,hW1,b1,hT⟩:=ak W 108 #[.int .i64 0,.int .i64 0,.int .i64 0,.slice none 0 0];have zs:W1.heap.size=W.heap.size+1:=by rw[hW1];exact World.size_alloc _ _
 have hP:=h.belowW b1;have hLT:=h.L_lt;have hRT:=h.R_lt;have hPT:=h.P_lt;have hAT:=h.a_lt;have hneL:W.heap.size≠L:=by omega
 have hneR:W.heap.size≠R:=by omega
 have hsuf:=(av false r).trans h.suf;have cm:=hi_ fun W h=>jg (P:=P) (L:=L) (R:=R) (A:=A) (c:=c) (bs:=bs) (d:=d) (pl:=pl) (r:=r) W h
 have p0:=hP.p0;have q0:=hP.q0;have hF:=hi_ (Fr.of_below (L:=L) (R:=R) b1);replace hQq:=hi_ (hQq.below b1 hQq.lt);replace hqL:=hi_ hqL;replace hqR:=hi_ hqR;obtain⟨at1,ha1⟩:∃a:Int,a=(pos bs (af false r):Nat):=⟨_,rfl⟩;have cst:=fun (n:Int)=>Lib.hid fun (r2:Bs) W h=>dB (P:=P) (L:=L) (R:=R) (A:=A) (c:=c) (bs:=bs) (d:=d) (pl:=pl) (r:=r2) hsuf ha1 n W h
 cases ht:ar r with
 |err n u=>
  obtain rfl:RR=.err n u:=hRR.out.trans (r8 ht);have ct:=hi_ fun W h=>eY (P:=P) (L:=L) (R:=R) (A:=A) (c:=c) (bs:=bs) (d:=d) (pl:=pl) ht ha1 W h
  replace ha1:=hi_ ha1;clear cst ht hRR;refine h8_ hsuf hP hT b1 zs hneL hneR hAT ?_;clear hsuf hP hT b1 zs hneL hneR hAT;intro hsuf hP hT b1 zs hneL hneR hAT;clear h;go_enter Tryz.func51,Tryz.ntmps51;go_upto_region 1 with fail
  rw[←hW1];replace hW1:=hi_ hW1;go_upto_region 4 with (first|(go_at_call 63;(with_reducible refine (cm.out _ hP.out).mono ?_);rintro e w2 ⟨rfl,rfl⟩)|(go_at_call 82;(with_reducible refine (ct.out _ hP.out).mono ?_);rintro e w4 ⟨hn0,rfl,hP2,hF2⟩;replace hT:=hi_ (hF2.blk hneL.out hneR.out hT.out);replace hF:=hi_ (hF.out.trans hF2);replace hP:=hi_ hP2;replace p0:=hP.out.p0;replace q0:=hP.out.q0;replace hQq:=hi_ (hF2.blk hqL.out hqR.out hQq.out);have hnb:=bne_iff_ne.2 hn0;replace hn0:=hi_ hn0;clear hP2 hF2))
  obtain⟨WA,hWA,bWA,hUWA⟩:=ak w4 108 #[.int .i64 0,.int .i64 at1,.int .i64 0,.slice none 0 0];rw[←hWA];obtain⟨x0,x1,x2,x3,-⟩:=hUWA.b4;replace hT:=hi_ (hT.out.below bWA hT.out.lt);replace hP:=hi_ (hP.out.belowW bWA);replace hF:=hi_ (hF.out.trans (Fr.of_below (L:=L) (R:=R) bWA));replace p0:=hP.out.p0;replace q0:=hP.out.q0;replace hUWA:=hi_ hUWA;replace hWA:=hi_ hWA;replace hQq:=hi_ (hQq.out.below bWA hQq.out.lt);obtain⟨z0,z1,z2,z3,v0,v1,v2,v3⟩:=hT.out.b4;go_wp2
  generalize hWf:World.setCell _ _ _=Wf;replace hWf:=hWf.symm;obtain⟨hb,hg⟩:=bf hT.out hWf;obtain⟨u0,u1,u2,u3,-⟩:=hb.b4;have hPf:=hi_ (hP.out.grownL hg (by omega) (by omega) (by omega) (fun h0 x hx=>by have:=hAT.out h0 x hx;omega));have hFf:=hi_ (hF.out.grownL hg (Nat.le_refl _));replace hg:=hi_ hg;replace hWf:=hi_ hWf;clear hb z0 v0 z1 v1 z2 v2 z3 v3;refine bodyPost_ret (by simp[results,Tryz.results51,go_sem,u0,u1,u2,u3];try rfl) rfl ?_;exact⟨hn0.out,rfl,hPf.out,hFf.out⟩
 |ok k u=>
  have ct:=hi_ fun W h=>bF (P:=P) (L:=L) (R:=R) (A:=A) (c:=c) (bs:=bs) (d:=d) (pl:=pl) ht ha1 W h
  replace ha1:=hi_ ha1;obtain⟨kk,hkk⟩:∃x,x=k.k:=⟨_,rfl⟩;rw[←hkk]at ct;by_cases hk0:kk=0
  ·obtain rfl:RR=.err 2 (af false r):=hRR.out.trans (r7 ht (hkk.symm.trans hk0))
   have cs:=cst 2;subst hk0;replace hkk:=hi_ hkk;clear cst ht hRR;refine h8_ hsuf hP hT b1 zs hneL hneR hAT ?_;clear hsuf hP hT b1 zs hneL hneR hAT;intro hsuf hP hT b1 zs hneL hneR hAT;clear h;go_enter Tryz.func51,Tryz.ntmps51;go_upto_region 1 with fail
   rw[←hW1];replace hW1:=hi_ hW1;go_upto_region 4 with (first|(go_at_call 63;(with_reducible refine (cm.out _ hP.out).mono ?_);rintro e w2 ⟨rfl,rfl⟩)|(go_at_call 82;(with_reducible refine (ct.out _ hP.out).mono ?_);rintro e w4 ⟨a2,c2,rfl,hO,hP2,hF2⟩;replace hT:=hi_ (hF2.blk hneL.out hneR.out hT.out);replace hF:=hi_ (hF.out.trans hF2);replace hP:=hi_ hP2;replace p0:=hP.out.p0;replace q0:=hP.out.q0;replace hQq:=hi_ (hF2.blk hqL.out hqR.out hQq.out);replace hO:=hi_ hO;clear hP2 hF2))
   obtain⟨WA,hWA,bWA,hUWA⟩:=ak w4 108 #[.int .i64 0,.int .i64 at1,.int .i64 k.n,.slice a2 k.b.length c2];rw[←hWA];obtain⟨x0,x1,x2,x3,-⟩:=hUWA.b4;replace hT:=hi_ (hT.out.below bWA hT.out.lt);replace hP:=hi_ (hP.out.belowW bWA);replace hF:=hi_ (hF.out.trans (Fr.of_below (L:=L) (R:=R) bWA));replace p0:=hP.out.p0;replace q0:=hP.out.q0;replace hUWA:=hi_ hUWA;replace hWA:=hi_ hWA;replace hQq:=hi_ (hQq.out.below bWA hQq.out.lt);go_wp2_with (go_at_call 83;(with_reducible refine (cs.out _ _ hP.out).mono ?_);rintro e w6 ⟨rfl,hP2,hF2⟩;replace hT:=hi_ (hF2.blk hneL.out hneR.out hT.out);replace hF:=hi_ (hF.out.trans hF2);replace hP:=hi_ hP2;replace p0:=hP.out.p0;replace q0:=hP.out.q0;replace hQq:=hi_ (hF2.blk hqL.out hqR.out hQq.out);obtain⟨z0,z1,z2,z3,v0,v1,v2,v3⟩:=hT.out.b4;clear hP2 hF2)
   generalize hWf:World.setCell _ _ _=Wf;replace hWf:=hWf.symm;obtain⟨hb,hg⟩:=bf hT.out hWf;obtain⟨u0,u1,u2,u3,-⟩:=hb.b4;have hPf:=hi_ (hP.out.grownL hg (by omega) (by omega) (by omega) (fun h0 x hx=>by have:=hAT.out h0 x hx;omega));have hFf:=hi_ (hF.out.grownL hg (Nat.le_refl _));replace hg:=hi_ hg;replace hWf:=hi_ hWf;clear hb z0 v0 z1 v1 z2 v2 z3 v3;refine bodyPost_ret (by simp[results,Tryz.results51,go_sem,u0,u1,u2,u3];try rfl) rfl ?_;exact⟨by decide,rfl,hPf.out,hFf.out⟩
  ·have hb0:(kk == 0)=false:=beq_eq_false_iff_ne.2 hk0
   by_cases hw:kk=9∧k.b=S.data.toList
   ·obtain rfl:RR=.ok k u:=hRR.out.trans (r9 ht (by rw[←hkk];exact hw))
    have hDD:=hi_ (decide_eq_true hw);refine h3_ hkk hk0 hw ?_;clear hkk hk0 hw;intro hkk hk0 hw;clear cst ht hRR;refine h8_ hsuf hP hT b1 zs hneL hneR hAT ?_;clear hsuf hP hT b1 zs hneL hneR hAT;intro hsuf hP hT b1 zs hneL hneR hAT;clear h;go_enter Tryz.func51,Tryz.ntmps51;go_upto_region 1 with fail
    rw[←hW1];replace hW1:=hi_ hW1;go_upto_region 4 with (first|(go_at_call 63;(with_reducible refine (cm.out _ hP.out).mono ?_);rintro e w2 ⟨rfl,rfl⟩)|(go_at_call 82;(with_reducible refine (ct.out _ hP.out).mono ?_);rintro e w4 ⟨a2,c2,rfl,hO,hP2,hF2⟩;replace hT:=hi_ (hF2.blk hneL.out hneR.out hT.out);replace hF:=hi_ (hF.out.trans hF2);replace hP:=hi_ hP2;replace p0:=hP.out.p0;replace q0:=hP.out.q0;replace hQq:=hi_ (hF2.blk hqL.out hqR.out hQq.out);replace hO:=hi_ hO;clear hP2 hF2))
    obtain⟨WA,hWA,bWA,hUWA⟩:=ak w4 108 #[.int .i64 kk,.int .i64 at1,.int .i64 k.n,.slice a2 k.b.length c2];rw[←hWA];obtain⟨x0,x1,x2,x3,-⟩:=hUWA.b4;replace hT:=hi_ (hT.out.below bWA hT.out.lt);replace hP:=hi_ (hP.out.belowW bWA);replace hF:=hi_ (hF.out.trans (Fr.of_below (L:=L) (R:=R) bWA));replace p0:=hP.out.p0;replace q0:=hP.out.q0;replace hUWA:=hi_ hUWA;replace hWA:=hi_ hWA;replace hQq:=hi_ (hQq.out.below bWA hQq.out.lt);replace hO:=hi_ (hO.out.below bWA);have cq0:WA.cell? ⟨q,0,none⟩=some (.string S):=hQq.out.cell 0;go_wp2_with (go_at_call 52;(with_reducible refine (rT kk at1 k.n S q _ hO.out cq0).mono ?_);rw[hDD.out];rintro e w7 ⟨rfl,hB7⟩;have hF2:=Fr.of_below (L:=L) (R:=R) hB7;have hP2:=hP.out.belowW hB7;replace hT:=hi_ (hF2.blk hneL.out hneR.out hT.out);replace hF:=hi_ (hF.out.trans hF2);replace hP:=hi_ hP2;replace p0:=hP.out.p0;replace q0:=hP.out.q0;replace hQq:=hi_ (hF2.blk hqL.out hqR.out hQq.out);obtain⟨z0,z1,z2,z3,v0,v1,v2,v3⟩:=hT.out.b4;replace hUWA:=hi_ (hUWA.out.below hB7 hUWA.out.lt);obtain⟨x0,x1,x2,x3,-⟩:=hUWA.out.b4;clear hP2 hF2 hB7)
    generalize hWf:World.setCell _ _ _=Wf;replace hWf:=hWf.symm;obtain⟨hb,hg⟩:=bf hT.out hWf;obtain⟨u0,u1,u2,u3,-⟩:=hb.b4;have hPf:=hi_ (hP.out.grownL hg (by omega) (by omega) (by omega) (fun h0 x hx=>by have:=hAT.out h0 x hx;omega));have hFf:=hi_ (hF.out.grownL hg (Nat.le_refl _));replace hg:=hi_ hg;replace hWf:=hi_ hWf;clear hb z0 v0 z1 v1 z2 v2 z3 v3;refine bodyPost_ret (by simp[results,Tryz.results51,go_sem,u0,u1,u2,u3];try rfl) rfl ?_;rw[hkk.out];exact⟨at1,a2,_,c2,rfl,hPf.out,hFf.out⟩
   ·obtain rfl:RR=.err 4 (af false r):=hRR.out.trans (tj ht (by rw[←hkk];exact hk0) (by rw[←hkk];exact hw))
    have hDD:=hi_ (decide_eq_false hw);have cs:=cst 4;refine h3_ hkk hk0 hw ?_;clear hkk hk0 hw;intro hkk hk0 hw;clear cst ht hRR;refine h8_ hsuf hP hT b1 zs hneL hneR hAT ?_;clear hsuf hP hT b1 zs hneL hneR hAT;intro hsuf hP hT b1 zs hneL hneR hAT;clear h;go_enter Tryz.func51,Tryz.ntmps51;go_upto_region 1 with fail
    rw[←hW1];replace hW1:=hi_ hW1;go_upto_region 4 with (first|(go_at_call 63;(with_reducible refine (cm.out _ hP.out).mono ?_);rintro e w2 ⟨rfl,rfl⟩)|(go_at_call 82;(with_reducible refine (ct.out _ hP.out).mono ?_);rintro e w4 ⟨a2,c2,rfl,hO,hP2,hF2⟩;replace hT:=hi_ (hF2.blk hneL.out hneR.out hT.out);replace hF:=hi_ (hF.out.trans hF2);replace hP:=hi_ hP2;replace p0:=hP.out.p0;replace q0:=hP.out.q0;replace hQq:=hi_ (hF2.blk hqL.out hqR.out hQq.out);replace hO:=hi_ hO;clear hP2 hF2))
    obtain⟨WA,hWA,bWA,hUWA⟩:=ak w4 108 #[.int .i64 kk,.int .i64 at1,.int .i64 k.n,.slice a2 k.b.length c2];rw[←hWA];obtain⟨x0,x1,x2,x3,-⟩:=hUWA.b4;replace hT:=hi_ (hT.out.below bWA hT.out.lt);replace hP:=hi_ (hP.out.belowW bWA);replace hF:=hi_ (hF.out.trans (Fr.of_below (L:=L) (R:=R) bWA));replace p0:=hP.out.p0;replace q0:=hP.out.q0;replace hUWA:=hi_ hUWA;replace hWA:=hi_ hWA;replace hQq:=hi_ (hQq.out.below bWA hQq.out.lt);replace hO:=hi_ (hO.out.below bWA);have cq0:WA.cell? ⟨q,0,none⟩=some (.string S):=hQq.out.cell 0;go_wp2_with (first|(go_at_call 52;(with_reducible refine (rT kk at1 k.n S q _ hO.out cq0).mono ?_);rw[hDD.out];rintro e w7 ⟨rfl,hB7⟩;have hF2:=Fr.of_below (L:=L) (R:=R) hB7;have hP2:=hP.out.belowW hB7;replace hT:=hi_ (hF2.blk hneL.out hneR.out hT.out);replace hF:=hi_ (hF.out.trans hF2);replace hP:=hi_ hP2;replace p0:=hP.out.p0;replace q0:=hP.out.q0;replace hQq:=hi_ (hF2.blk hqL.out hqR.out hQq.out);replace hUWA:=hi_ (hUWA.out.below hB7 hUWA.out.lt);obtain⟨x0,x1,x2,x3,-⟩:=hUWA.out.b4;clear hP2 hF2 hB7)|(go_at_call 83;(with_reducible refine (cs.out _ _ hP.out).mono ?_);rintro e w6 ⟨rfl,hP2,hF2⟩;replace hT:=hi_ (hF2.blk hneL.out hneR.out hT.out);replace hF:=hi_ (hF.out.trans hF2);replace hP:=hi_ hP2;replace p0:=hP.out.p0;replace q0:=hP.out.q0;replace hQq:=hi_ (hF2.blk hqL.out hqR.out hQq.out);obtain⟨z0,z1,z2,z3,v0,v1,v2,v3⟩:=hT.out.b4;clear hP2 hF2))
    generalize hWf:World.setCell _ _ _=Wf;replace hWf:=hWf.symm;obtain⟨hb,hg⟩:=bf hT.out hWf;obtain⟨u0,u1,u2,u3,-⟩:=hb.b4;have hPf:=hi_ (hP.out.grownL hg (by omega) (by omega) (by omega) (fun h0 x hx=>by have:=hAT.out h0 x hx;omega));have hFf:=hi_ (hF.out.grownL hg (Nat.le_refl _));replace hg:=hi_ hg;replace hWf:=hi_ hWf;clear hb z0 v0 z1 v1 z2 v2 z3 v3;refine bodyPost_ret (by simp[results,Tryz.results51,go_sem,u0,u1,u2,u3];try rfl) rfl ?_;exact⟨by decide,rfl,hPf.out,hFf.out⟩
theorem o9 {lo hi:Int}{p q:Nat}(W:World) (h:PS P L R A c bs d pl W r) (hQp:Blk W p 3 #[.int .i64 lo]) (hpL:p≠L) (hpR:p≠R) (hQq:Blk W q 3 #[.int .i64 hi]) (hqL:q≠L) (hqR:q≠R):Calls Tryz.prog 51 #[.pointer (some ⟨P,0,none⟩),.func (.func 85) #[] #[.pointer (some ⟨p,0,none⟩),.pointer (some ⟨q,0,none⟩)]] W (rO P L R A c bs d pl W (bx lo hi r)):=by
 obtain⟨RR,hRR⟩:∃x,x=bx lo hi r:=⟨_,rfl⟩;rw[←hRR];replace hRR:=hi_ hRR;obtain⟨W1,hW1,b1,hT⟩:=ak W 108 #[.int .i64 0,.int .i64 0,.int .i64 0,.slice none 0 0];have zs:W1.heap.size=W.heap.size+1:=by rw[hW1];exact World.size_alloc _ _
 have hP:=h.belowW b1;have hLT:=h.L_lt;have hRT:=h.R_lt;have hPT:=h.P_lt;have hAT:=h.a_lt;have hneL:W.heap.size≠L:=by omega
 have hneR:W.heap.size≠R:=by omega
 have hsuf:=(av false r).trans h.suf;have cm:=hi_ fun W h=>jg (P:=P) (L:=L) (R:=R) (A:=A) (c:=c) (bs:=bs) (d:=d) (pl:=pl) (r:=r) W h
 have p0:=hP.p0;have q0:=hP.q0;have hF:=hi_ (Fr.of_below (L:=L) (R:=R) b1);replace hQp:=hi_ (hQp.below b1 hQp.lt);replace hpL:=hi_ hpL;replace hpR:=hi_ hpR;replace hQq:=hi_ (hQq.below b1 hQq.lt);replace hqL:=hi_ hqL;replace hqR:=hi_ hqR;obtain⟨at1,ha1⟩:∃a:Int,a=(pos bs (af false r):Nat):=⟨_,rfl⟩;have cst:=fun (n:Int)=>Lib.hid fun (r2:Bs) W h=>dB (P:=P) (L:=L) (R:=R) (A:=A) (c:=c) (bs:=bs) (d:=d) (pl:=pl) (r:=r2) hsuf ha1 n W h
 cases ht:ar r with
 |err n u=>
  obtain rfl:RR=.err n u:=hRR.out.trans (rX ht);have ct:=hi_ fun W h=>eY (P:=P) (L:=L) (R:=R) (A:=A) (c:=c) (bs:=bs) (d:=d) (pl:=pl) ht ha1 W h
  replace ha1:=hi_ ha1;clear cst ht hRR;refine h8_ hsuf hP hT b1 zs hneL hneR hAT ?_;clear hsuf hP hT b1 zs hneL hneR hAT;intro hsuf hP hT b1 zs hneL hneR hAT;clear h;go_enter Tryz.func51,Tryz.ntmps51;go_upto_region 1 with fail
  rw[←hW1];replace hW1:=hi_ hW1;go_upto_region 4 with (first|(go_at_call 63;(with_reducible refine (cm.out _ hP.out).mono ?_);rintro e w2 ⟨rfl,rfl⟩)|(go_at_call 82;(with_reducible refine (ct.out _ hP.out).mono ?_);rintro e w4 ⟨hn0,rfl,hP2,hF2⟩;replace hT:=hi_ (hF2.blk hneL.out hneR.out hT.out);replace hF:=hi_ (hF.out.trans hF2);replace hP:=hi_ hP2;replace p0:=hP.out.p0;replace q0:=hP.out.q0;replace hQp:=hi_ (hF2.blk hpL.out hpR.out hQp.out);replace hQq:=hi_ (hF2.blk hqL.out hqR.out hQq.out);have hnb:=bne_iff_ne.2 hn0;replace hn0:=hi_ hn0;clear hP2 hF2))
  obtain⟨WA,hWA,bWA,hUWA⟩:=ak w4 108 #[.int .i64 0,.int .i64 at1,.int .i64 0,.slice none 0 0];rw[←hWA];obtain⟨x0,x1,x2,x3,-⟩:=hUWA.b4;replace hT:=hi_ (hT.out.below bWA hT.out.lt);replace hP:=hi_ (hP.out.belowW bWA);replace hF:=hi_ (hF.out.trans (Fr.of_below (L:=L) (R:=R) bWA));replace p0:=hP.out.p0;replace q0:=hP.out.q0;replace hUWA:=hi_ hUWA;replace hWA:=hi_ hWA;replace hQp:=hi_ (hQp.out.below bWA hQp.out.lt);replace hQq:=hi_ (hQq.out.below bWA hQq.out.lt);obtain⟨z0,z1,z2,z3,v0,v1,v2,v3⟩:=hT.out.b4;go_wp2
  generalize hWf:World.setCell _ _ _=Wf;replace hWf:=hWf.symm;obtain⟨hb,hg⟩:=bf hT.out hWf;obtain⟨u0,u1,u2,u3,-⟩:=hb.b4;have hPf:=hi_ (hP.out.grownL hg (by omega) (by omega) (by omega) (fun h0 x hx=>by have:=hAT.out h0 x hx;omega));have hFf:=hi_ (hF.out.grownL hg (Nat.le_refl _));replace hg:=hi_ hg;replace hWf:=hi_ hWf;clear hb z0 v0 z1 v1 z2 v2 z3 v3;refine bodyPost_ret (by simp[results,Tryz.results51,go_sem,u0,u1,u2,u3];try rfl) rfl ?_;exact⟨hn0.out,rfl,hPf.out,hFf.out⟩
 |ok k u=>
  have ct:=hi_ fun W h=>bF (P:=P) (L:=L) (R:=R) (A:=A) (c:=c) (bs:=bs) (d:=d) (pl:=pl) ht ha1 W h
  replace ha1:=hi_ ha1;obtain⟨kk,hkk⟩:∃x,x=k.k:=⟨_,rfl⟩;rw[←hkk]at ct;by_cases hk0:kk=0
  ·obtain rfl:RR=.err 2 (af false r):=hRR.out.trans (rW ht (hkk.symm.trans hk0))
   have cs:=cst 2;subst hk0;replace hkk:=hi_ hkk;clear cst ht hRR;refine h8_ hsuf hP hT b1 zs hneL hneR hAT ?_;clear hsuf hP hT b1 zs hneL hneR hAT;intro hsuf hP hT b1 zs hneL hneR hAT;clear h;go_enter Tryz.func51,Tryz.ntmps51;go_upto_region 1 with fail
   rw[←hW1];replace hW1:=hi_ hW1;go_upto_region 4 with (first|(go_at_call 63;(with_reducible refine (cm.out _ hP.out).mono ?_);rintro e w2 ⟨rfl,rfl⟩)|(go_at_call 82;(with_reducible refine (ct.out _ hP.out).mono ?_);rintro e w4 ⟨a2,c2,rfl,hO,hP2,hF2⟩;replace hT:=hi_ (hF2.blk hneL.out hneR.out hT.out);replace hF:=hi_ (hF.out.trans hF2);replace hP:=hi_ hP2;replace p0:=hP.out.p0;replace q0:=hP.out.q0;replace hQp:=hi_ (hF2.blk hpL.out hpR.out hQp.out);replace hQq:=hi_ (hF2.blk hqL.out hqR.out hQq.out);replace hO:=hi_ hO;clear hP2 hF2))
   obtain⟨WA,hWA,bWA,hUWA⟩:=ak w4 108 #[.int .i64 0,.int .i64 at1,.int .i64 k.n,.slice a2 k.b.length c2];rw[←hWA];obtain⟨x0,x1,x2,x3,-⟩:=hUWA.b4;replace hT:=hi_ (hT.out.below bWA hT.out.lt);replace hP:=hi_ (hP.out.belowW bWA);replace hF:=hi_ (hF.out.trans (Fr.of_below (L:=L) (R:=R) bWA));replace p0:=hP.out.p0;replace q0:=hP.out.q0;replace hUWA:=hi_ hUWA;replace hWA:=hi_ hWA;replace hQp:=hi_ (hQp.out.below bWA hQp.out.lt);replace hQq:=hi_ (hQq.out.below bWA hQq.out.lt);go_wp2_with (go_at_call 83;(with_reducible refine (cs.out _ _ hP.out).mono ?_);rintro e w6 ⟨rfl,hP2,hF2⟩;replace hT:=hi_ (hF2.blk hneL.out hneR.out hT.out);replace hF:=hi_ (hF.out.trans hF2);replace hP:=hi_ hP2;replace p0:=hP.out.p0;replace q0:=hP.out.q0;replace hQp:=hi_ (hF2.blk hpL.out hpR.out hQp.out);replace hQq:=hi_ (hF2.blk hqL.out hqR.out hQq.out);obtain⟨z0,z1,z2,z3,v0,v1,v2,v3⟩:=hT.out.b4;clear hP2 hF2)
   generalize hWf:World.setCell _ _ _=Wf;replace hWf:=hWf.symm;obtain⟨hb,hg⟩:=bf hT.out hWf;obtain⟨u0,u1,u2,u3,-⟩:=hb.b4;have hPf:=hi_ (hP.out.grownL hg (by omega) (by omega) (by omega) (fun h0 x hx=>by have:=hAT.out h0 x hx;omega));have hFf:=hi_ (hF.out.grownL hg (Nat.le_refl _));replace hg:=hi_ hg;replace hWf:=hi_ hWf;clear hb z0 v0 z1 v1 z2 v2 z3 v3;refine bodyPost_ret (by simp[results,Tryz.results51,go_sem,u0,u1,u2,u3];try rfl) rfl ?_;exact⟨by decide,rfl,hPf.out,hFf.out⟩
  ·have hb0:(kk == 0)=false:=beq_eq_false_iff_ne.2 hk0
   by_cases hw:kk=1∧lo≤k.n∧k.n≤hi
   ·obtain rfl:RR=.ok k u:=hRR.out.trans (rY ht (by rw[←hkk];exact hw))
    have hDD:=hi_ (decide_eq_true hw);refine h3_ hkk hk0 hw ?_;clear hkk hk0 hw;intro hkk hk0 hw;clear cst ht hRR;refine h8_ hsuf hP hT b1 zs hneL hneR hAT ?_;clear hsuf hP hT b1 zs hneL hneR hAT;intro hsuf hP hT b1 zs hneL hneR hAT;clear h;go_enter Tryz.func51,Tryz.ntmps51;go_upto_region 1 with fail
    rw[←hW1];replace hW1:=hi_ hW1;go_upto_region 4 with (first|(go_at_call 63;(with_reducible refine (cm.out _ hP.out).mono ?_);rintro e w2 ⟨rfl,rfl⟩)|(go_at_call 82;(with_reducible refine (ct.out _ hP.out).mono ?_);rintro e w4 ⟨a2,c2,rfl,hO,hP2,hF2⟩;replace hT:=hi_ (hF2.blk hneL.out hneR.out hT.out);replace hF:=hi_ (hF.out.trans hF2);replace hP:=hi_ hP2;replace p0:=hP.out.p0;replace q0:=hP.out.q0;replace hQp:=hi_ (hF2.blk hpL.out hpR.out hQp.out);replace hQq:=hi_ (hF2.blk hqL.out hqR.out hQq.out);replace hO:=hi_ hO;clear hP2 hF2))
    obtain⟨WA,hWA,bWA,hUWA⟩:=ak w4 108 #[.int .i64 kk,.int .i64 at1,.int .i64 k.n,.slice a2 k.b.length c2];rw[←hWA];obtain⟨x0,x1,x2,x3,-⟩:=hUWA.b4;replace hT:=hi_ (hT.out.below bWA hT.out.lt);replace hP:=hi_ (hP.out.belowW bWA);replace hF:=hi_ (hF.out.trans (Fr.of_below (L:=L) (R:=R) bWA));replace p0:=hP.out.p0;replace q0:=hP.out.q0;replace hUWA:=hi_ hUWA;replace hWA:=hi_ hWA;replace hQp:=hi_ (hQp.out.below bWA hQp.out.lt);replace hQq:=hi_ (hQq.out.below bWA hQq.out.lt);replace hO:=hi_ (hO.out.below bWA);have cp0:WA.cell? ⟨p,0,none⟩=some (.int .i64 lo):=hQp.out.cell 0;have cq0:WA.cell? ⟨q,0,none⟩=some (.int .i64 hi):=hQq.out.cell 0;go_wp2_with (go_at_call 85;(with_reducible refine (rS kk at1 k.n lo hi _ p q _ cp0 cq0 ⟨_,_,_,rfl⟩).mono ?_);rw[hDD.out];rintro e w7 ⟨rfl,hB7⟩;have hF2:=Fr.of_below (L:=L) (R:=R) hB7;have hP2:=hP.out.belowW hB7;replace hT:=hi_ (hF2.blk hneL.out hneR.out hT.out);replace hF:=hi_ (hF.out.trans hF2);replace hP:=hi_ hP2;replace p0:=hP.out.p0;replace q0:=hP.out.q0;replace hQp:=hi_ (hF2.blk hpL.out hpR.out hQp.out);replace hQq:=hi_ (hF2.blk hqL.out hqR.out hQq.out);obtain⟨z0,z1,z2,z3,v0,v1,v2,v3⟩:=hT.out.b4;replace hUWA:=hi_ (hUWA.out.below hB7 hUWA.out.lt);obtain⟨x0,x1,x2,x3,-⟩:=hUWA.out.b4;clear hP2 hF2 hB7)
    generalize hWf:World.setCell _ _ _=Wf;replace hWf:=hWf.symm;obtain⟨hb,hg⟩:=bf hT.out hWf;obtain⟨u0,u1,u2,u3,-⟩:=hb.b4;have hPf:=hi_ (hP.out.grownL hg (by omega) (by omega) (by omega) (fun h0 x hx=>by have:=hAT.out h0 x hx;omega));have hFf:=hi_ (hF.out.grownL hg (Nat.le_refl _));replace hg:=hi_ hg;replace hWf:=hi_ hWf;clear hb z0 v0 z1 v1 z2 v2 z3 v3;refine bodyPost_ret (by simp[results,Tryz.results51,go_sem,u0,u1,u2,u3];try rfl) rfl ?_;rw[hkk.out];exact⟨at1,a2,_,c2,rfl,hPf.out,hFf.out⟩
   ·obtain rfl:RR=.err 4 (af false r):=hRR.out.trans (qH ht (by rw[←hkk];exact hk0) (by rw[←hkk];exact hw))
    have hDD:=hi_ (decide_eq_false hw);have cs:=cst 4;refine h3_ hkk hk0 hw ?_;clear hkk hk0 hw;intro hkk hk0 hw;clear cst ht hRR;refine h8_ hsuf hP hT b1 zs hneL hneR hAT ?_;clear hsuf hP hT b1 zs hneL hneR hAT;intro hsuf hP hT b1 zs hneL hneR hAT;clear h;go_enter Tryz.func51,Tryz.ntmps51;go_upto_region 1 with fail
    rw[←hW1];replace hW1:=hi_ hW1;go_upto_region 4 with (first|(go_at_call 63;(with_reducible refine (cm.out _ hP.out).mono ?_);rintro e w2 ⟨rfl,rfl⟩)|(go_at_call 82;(with_reducible refine (ct.out _ hP.out).mono ?_);rintro e w4 ⟨a2,c2,rfl,hO,hP2,hF2⟩;replace hT:=hi_ (hF2.blk hneL.out hneR.out hT.out);replace hF:=hi_ (hF.out.trans hF2);replace hP:=hi_ hP2;replace p0:=hP.out.p0;replace q0:=hP.out.q0;replace hQp:=hi_ (hF2.blk hpL.out hpR.out hQp.out);replace hQq:=hi_ (hF2.blk hqL.out hqR.out hQq.out);replace hO:=hi_ hO;clear hP2 hF2))
    obtain⟨WA,hWA,bWA,hUWA⟩:=ak w4 108 #[.int .i64 kk,.int .i64 at1,.int .i64 k.n,.slice a2 k.b.length c2];rw[←hWA];obtain⟨x0,x1,x2,x3,-⟩:=hUWA.b4;replace hT:=hi_ (hT.out.below bWA hT.out.lt);replace hP:=hi_ (hP.out.belowW bWA);replace hF:=hi_ (hF.out.trans (Fr.of_below (L:=L) (R:=R) bWA));replace p0:=hP.out.p0;replace q0:=hP.out.q0;replace hUWA:=hi_ hUWA;replace hWA:=hi_ hWA;replace hQp:=hi_ (hQp.out.below bWA hQp.out.lt);replace hQq:=hi_ (hQq.out.below bWA hQq.out.lt);replace hO:=hi_ (hO.out.below bWA);have cp0:WA.cell? ⟨p,0,none⟩=some (.int .i64 lo):=hQp.out.cell 0;have cq0:WA.cell? ⟨q,0,none⟩=some (.int .i64 hi):=hQq.out.cell 0;go_wp2_with (first|(go_at_call 85;(with_reducible refine (rS kk at1 k.n lo hi _ p q _ cp0 cq0 ⟨_,_,_,rfl⟩).mono ?_);rw[hDD.out];rintro e w7 ⟨rfl,hB7⟩;have hF2:=Fr.of_below (L:=L) (R:=R) hB7;have hP2:=hP.out.belowW hB7;replace hT:=hi_ (hF2.blk hneL.out hneR.out hT.out);replace hF:=hi_ (hF.out.trans hF2);replace hP:=hi_ hP2;replace p0:=hP.out.p0;replace q0:=hP.out.q0;replace hQp:=hi_ (hF2.blk hpL.out hpR.out hQp.out);replace hQq:=hi_ (hF2.blk hqL.out hqR.out hQq.out);replace hUWA:=hi_ (hUWA.out.below hB7 hUWA.out.lt);obtain⟨x0,x1,x2,x3,-⟩:=hUWA.out.b4;clear hP2 hF2 hB7)|(go_at_call 83;(with_reducible refine (cs.out _ _ hP.out).mono ?_);rintro e w6 ⟨rfl,hP2,hF2⟩;replace hT:=hi_ (hF2.blk hneL.out hneR.out hT.out);replace hF:=hi_ (hF.out.trans hF2);replace hP:=hi_ hP2;replace p0:=hP.out.p0;replace q0:=hP.out.q0;replace hQp:=hi_ (hF2.blk hpL.out hpR.out hQp.out);replace hQq:=hi_ (hF2.blk hqL.out hqR.out hQq.out);obtain⟨z0,z1,z2,z3,v0,v1,v2,v3⟩:=hT.out.b4;clear hP2 hF2))
    generalize hWf:World.setCell _ _ _=Wf;replace hWf:=hWf.symm;obtain⟨hb,hg⟩:=bf hT.out hWf;obtain⟨u0,u1,u2,u3,-⟩:=hb.b4;have hPf:=hi_ (hP.out.grownL hg (by omega) (by omega) (by omega) (fun h0 x hx=>by have:=hAT.out h0 x hx;omega));have hFf:=hi_ (hF.out.grownL hg (Nat.le_refl _));replace hg:=hi_ hg;replace hWf:=hi_ hWf;clear hb z0 v0 z1 v1 z2 v2 z3 v3;refine bodyPost_ret (by simp[results,Tryz.results51,go_sem,u0,u1,u2,u3];try rfl) rfl ?_;exact⟨by decide,rfl,hPf.out,hFf.out⟩
end
def tF (P L R:Nat) (A:Option Addr) (c:Nat) (bs:Bs) (d:Nat) (pl:Bool) (w:World) (res:Res Tok) (e:Ending) (w':World):Prop:=match res with
 | .ok t u=>e=.returned (.int .i64 0)∧PS P L R A c bs d pl w' u∧Fr L R w w'
 | .err n u=>n≠0∧e=.returned (.int .i64 n)∧PS P L R A c bs d pl w' u∧Fr L R w w'
def nN (P L R:Nat) (A:Option Addr) (c:Nat) (bs:Bs) (d:Nat) (pl:Bool) (w:World) (res:Res Tok) (e:Ending) (w':World):Prop:=match res with
 | .ok t u=>e=.returned (.tuple #[.int .i64 t.n,.int .i64 0])∧PS P L R A c bs d pl w' u∧Fr L R w w'
 | .err n u=>n≠0∧e=.returned (.tuple #[.int .i64 0,.int .i64 n])∧PS P L R A c bs d pl w' u∧Fr L R w w'
section
variable {P L R:Nat}{A:Option Addr}{c:Nat}{bs:Bs}{d dd:Nat}{pl:Bool}{W X X' w w':World}{r r' u v:Bs}{k s:Tok}
theorem qV (S:ByteArray) (W:World) (h:PS P L R A c bs d pl W r):Calls Tryz.prog 25 #[.pointer (some ⟨P,0,none⟩),.string S] W (tF P L R A c bs d pl W (cx S.data.toList r)):=by
 obtain⟨W1,hW1,b1,hQ⟩:=ak W 9 #[.string S];have hF:=hi_ (Fr.of_below (L:=L) (R:=R) b1);have cw:=pc (S:=S) (q:=W.heap.size) W1 (h.belowW b1) hQ (by have:=h.L_lt;omega) (by have:=h.R_lt;omega);obtain⟨RR,hRR⟩:∃x,x=cx S.data.toList r:=⟨_,rfl⟩;rw[←hRR]at cw⊢;refine h3_ hRR hQ b1 ?_;clear hRR hQ b1;intro hRR hQ b1;clear h;cases RR with
 |err n u=>
  go_enter Tryz.func25,Tryz.ntmps25;go_upto_region 1 with fail
  rw[←hW1];replace hW1:=hi_ hW1;go_wp2_with (go_at_call 51;(with_reducible refine cw.mono ?_);rintro e w2 ⟨hn0,rfl,hP2,hF2⟩;replace hP2:=hi_ hP2;replace hF2:=hi_ hF2;replace hn0:=hi_ hn0;clear cw)
  have hb2:=hi_ ((Below.refl w2.heap.size w2).alloc (Nat.le_refl _) (.cells #[.int .i64 0,.int .i64 0,.int .i64 0,.slice none 0 0] 108));go_ret
  exact⟨hn0.out,rfl,hP2.out.belowW hb2.out,hF.out.trans (hF2.out.trans (Fr.of_below hb2.out))⟩
 |ok t u=>
  go_enter Tryz.func25,Tryz.ntmps25;go_upto_region 1 with fail
  rw[←hW1];replace hW1:=hi_ hW1;go_wp2_with (go_at_call 51;(with_reducible refine cw.mono ?_);rintro e w2 ⟨aa,Av,nv,cv,rfl,hP2,hF2⟩;replace hP2:=hi_ hP2;replace hF2:=hi_ hF2;clear cw)
  have hb2:=hi_ ((Below.refl w2.heap.size w2).alloc (Nat.le_refl _) (.cells #[.int .i64 t.k,.int .i64 aa,.int .i64 t.n,.slice Av nv cv] 108));go_ret
  exact⟨rfl,hP2.out.belowW hb2.out,hF.out.trans (hF2.out.trans (Fr.of_below hb2.out))⟩
theorem ke (lo hi:Int) (W:World) (h:PS P L R A c bs d pl W r):Calls Tryz.prog 57 #[.pointer (some ⟨P,0,none⟩),.int .i64 lo,.int .i64 hi] W (nN P L R A c bs d pl W (bx lo hi r)):=by
 obtain⟨W0,hW0⟩:∃W1,W1=W.alloc (.cells #[.int .i64 lo] 3):=⟨_,rfl⟩;obtain⟨W1,hW1⟩:∃W1,W1=W0.alloc (.cells #[.int .i64 hi] 3):=⟨_,rfl⟩;have b0:Below W.heap.size W W0:=by rw[hW0];exact (Below.refl _ _).alloc (Nat.le_refl _) _
 have z0:W0.heap.size=W.heap.size+1:=by rw[hW0];exact World.size_alloc _ _
 have b01:Below W0.heap.size W0 W1:=by rw[hW1];exact (Below.refl _ _).alloc (Nat.le_refl _) _
 have b1:=ah b0 b01;have hQ0:Blk W1 W.heap.size 3 #[.int .i64 lo]:=(by rw[hW0];exact Blk.new W _ _:Blk W0 W.heap.size 3 #[.int .i64 lo]).below b01 (by omega);have hQ1:Blk W1 (W.heap.size+1) 3 #[.int .i64 hi]:=by rw[hW1,←z0];exact Blk.new W0 _ _
 have hF:=hi_ (Fr.of_below (L:=L) (R:=R) b1);have cw:=o9 (lo:=lo) (hi:=hi) (p:=W.heap.size) (q:=W.heap.size+1) W1 (h.belowW b1) hQ0 (by have:=h.L_lt;omega) (by have:=h.R_lt;omega) hQ1 (by have:=h.L_lt;omega) (by have:=h.R_lt;omega);obtain⟨RR,hRR⟩:∃x,x=bx lo hi r:=⟨_,rfl⟩;rw[←hRR]at cw⊢;refine h6_ hRR hQ0 hQ1 b1 b0 b01 ?_;clear hRR hQ0 hQ1 b1 b0 b01;intro hRR hQ0 hQ1 b1 b0 b01;clear h;cases RR with
 |err n u=>
  go_enter Tryz.func57,Tryz.ntmps57;go_upto_region 1 with fail
  rw[←hW0,←hW1];replace hW1:=hi_ hW1;replace hW0:=hi_ hW0;go_wp2_with (go_at_call 51;(with_reducible refine cw.mono ?_);rintro e w2 ⟨hn0,rfl,hP2,hF2⟩;replace hP2:=hi_ hP2;replace hF2:=hi_ hF2;replace hn0:=hi_ hn0;clear cw)
  have hb2:=hi_ ((Below.refl w2.heap.size w2).alloc (Nat.le_refl _) (.cells #[.int .i64 0,.int .i64 0,.int .i64 0,.slice none 0 0] 108))
  go_ret2
  exact⟨hn0.out,rfl,hP2.out.belowW hb2.out,hF.out.trans (hF2.out.trans (Fr.of_below hb2.out))⟩
 |ok t u=>
  go_enter Tryz.func57,Tryz.ntmps57;go_upto_region 1 with fail
  rw[←hW0,←hW1];replace hW1:=hi_ hW1;replace hW0:=hi_ hW0;go_wp2_with (go_at_call 51;(with_reducible refine cw.mono ?_);rintro e w2 ⟨aa,Av,nv,cv,rfl,hP2,hF2⟩;replace hP2:=hi_ hP2;replace hF2:=hi_ hF2;clear cw)
  have hb2:=hi_ ((Below.refl w2.heap.size w2).alloc (Nat.le_refl _) (.cells #[.int .i64 t.k,.int .i64 aa,.int .i64 t.n,.slice Av nv cv] 108))
  go_ret2
  exact⟨rfl,hP2.out.belowW hb2.out,hF.out.trans (hF2.out.trans (Fr.of_below hb2.out))⟩
end
theorem sf (A:Option Addr) (n c:Nat) (W:World) (hcap:n≤c) (hc:n≤maxLen):Calls Tryz.prog 50 #[.slice A n c] W fun e w'=>e=.returned (.pointer (some ⟨W.heap.size,0,none⟩))∧w'=W.alloc (.cells #[.slice A n n,.int .i64 0] 93):=by
 go_enter Tryz.func50,Tryz.ntmps50;go_wp2
 all_goals go_ret
 all_goals exact⟨rfl,rfl⟩
theorem sw (A:Option Addr) (n c:Nat) (W:World) (hcap:n≤c) (hc:n≤maxLen):Calls Tryz.prog 24 #[.slice A n c] W fun e w'=>e=.returned (.pointer (some ⟨W.heap.size+1,0,none⟩))∧w'=(W.alloc (.cells #[.slice A n n,.int .i64 0] 93)).alloc (.cells #[.pointer (some ⟨W.heap.size,0,none⟩),.int .i64 0,.slice none 0 0] 51):=by
 have cn:=sf A n c W hcap hc;obtain⟨W1,hW1⟩:∃W1,W1=W.alloc (.cells #[.slice A n n,.int .i64 0] 93):=⟨_,rfl⟩;have z1:W1.heap.size=W.heap.size+1:=by rw[hW1,World.size_alloc]
 rw[←hW1]at cn⊢;replace hW1:=hi_ hW1;clear hcap hc;go_enter Tryz.func24,Tryz.ntmps24;go_wp2_with (go_at_call 50;(with_reducible refine cn.mono ?_);rintro e w1 ⟨rfl,rfl⟩)
 go_ret
 exact⟨rfl,rfl⟩
theorem qU (A:Option Addr) (n c:Nat) (dep:Int) (d:Nat) (hd:min (max dep 0) 28=(d:Int)) (W:World) (hcap:n≤c) (hc:n≤maxLen):Calls Tryz.prog 8 #[.slice A n c,.int .i64 dep] W fun e w'=>e=.returned (.pointer (some ⟨W.heap.size+2,0,none⟩))∧w'=((W.alloc (.cells #[.slice A n n,.int .i64 0] 93)).alloc (.cells #[.pointer (some ⟨W.heap.size,0,none⟩),.int .i64 0,.slice none 0 0] 51)).alloc (.cells #[.pointer (some ⟨W.heap.size+1,0,none⟩),.int .i64 d,.bool false] 48):=by
 have cn:=sw A n c W hcap hc;obtain⟨W2,hW2⟩:∃W1,W1=(W.alloc (.cells #[.slice A n n,.int .i64 0] 93)).alloc (.cells #[.pointer (some ⟨W.heap.size,0,none⟩),.int .i64 0,.slice none 0 0] 51):=⟨_,rfl⟩;have z2:W2.heap.size=W.heap.size+2:=by rw[hW2,World.size_alloc,World.size_alloc]
 rw[←hW2]at cn⊢;replace hW2:=hi_ hW2;clear hcap hc;obtain⟨D,hD⟩:∃D:Int,D=(d:Nat):=⟨_,rfl⟩;rw[←hD]at hd⊢;rw[←hd];replace hD:=hi_ hD;replace hd:=hi_ hd;go_enter Tryz.func8,Tryz.ntmps8;go_wp2_with (go_at_call 24;(with_reducible refine cn.mono ?_);rintro e w1 ⟨rfl,rfl⟩)
 go_ret
 exact⟨by rw[←z2];rfl,rfl⟩
theorem o6 (A:Option Addr) (c:Nat) (bs:Bs) (W:World) (hby:Byt W A bs) (hcap:bs.length≤c) (hsm:bs.length≤1000000000) (dep:Int) (d:Nat) (hd:min (max dep 0) 28=(d:Int)) :
 Calls Tryz.prog 8 #[.slice A bs.length c,.int .i64 dep] W fun e w'=>e=.returned (.pointer (some ⟨W.heap.size+2,0,none⟩))∧PS (W.heap.size+2) W.heap.size (W.heap.size+1) A bs.length bs d false w' bs∧Below W.heap.size W w':=by
 refine (qU A bs.length c dep d hd W hcap hby.1).mono ?_;rintro e w' ⟨rfl,rfl⟩;have hAl:0<bs.length→∀x,A=some x→x.block<W.heap.size:=by
  rintro h0 x rfl;obtain⟨b,o,e,hcell⟩:=hby.2 h0;cases e;exact ac (hcell 0 h0)
 obtain⟨W1,hW1⟩:∃W1,W1=W.alloc (.cells #[.slice A bs.length bs.length,.int .i64 0] 93):=⟨_,rfl⟩;obtain⟨W2,hW2⟩:∃W2,W2=W1.alloc (.cells #[.pointer (some ⟨W.heap.size,0,none⟩),.int .i64 0,.slice none 0 0] 51):=⟨_,rfl⟩;obtain⟨W3,hW3⟩:∃W3,W3=W2.alloc (.cells #[.pointer (some ⟨W.heap.size+1,0,none⟩),.int .i64 (d:Nat),.bool false] 48):=⟨_,rfl⟩;rw[←hW1,←hW2,←hW3];have b1:Below W.heap.size W W1:=by rw[hW1];exact (Below.refl _ _).alloc (Nat.le_refl _) _
 have z1:W1.heap.size=W.heap.size+1:=by rw[hW1,World.size_alloc]
 have b2:Below W1.heap.size W1 W2:=by rw[hW2];exact (Below.refl _ _).alloc (Nat.le_refl _) _
 have z2:W2.heap.size=W.heap.size+2:=by rw[hW2,World.size_alloc,z1]
 have b3:Below W2.heap.size W2 W3:=by rw[hW3];exact (Below.refl _ _).alloc (Nat.le_refl _) _
 have z3:W3.heap.size=W.heap.size+3:=by rw[hW3,World.size_alloc,z2]
 have hC1:Blk W1 W.heap.size 93 #[.slice A bs.length bs.length,.int .i64 0]:=by rw[hW1];exact Blk.new W _ _
 have hC:Blk W3 W.heap.size 93 #[.slice A bs.length bs.length,.int .i64 0]:=(hC1.below b2 (by omega)).below b3 (by omega);have hR2:Blk W2 (W.heap.size+1) 51 #[.pointer (some ⟨W.heap.size,0,none⟩),.int .i64 0,.slice none 0 0]:=by rw[hW2,←z1];exact Blk.new W1 _ _
 have hR:=hR2.below b3 (by omega);have hP:Blk W3 (W.heap.size+2) 48 #[.pointer (some ⟨W.heap.size+1,0,none⟩),.int .i64 (d:Nat),.bool false]:=by rw[hW3,←z2];exact Blk.new W2 _ _
 have hB:=ah (ah b1 b2) b3;refine⟨rfl,⟨⟨.int .i64 0,.slice none 0 0,?_⟩,hP,by omega,by omega⟩,hB⟩;have hp:pos bs bs=0:=by unfold pos;omega
 exact⟨⟨fun h0 x hx=>by have:=hAl h0 x hx;omega,Save.refl _ _,hC.cell 0,by rw[hp];exact hC.cell 1,hC.frozen 1,hby.below hB,by rw[hp];omega,hsm⟩,hR,by omega,fun h0 x hx=>by have:=hAl h0 x hx;omega,Nat.le_refl _,List.suffix_refl _⟩
section
open Go Go.RowKit Go.Wk

end
section
open Go Go.RowKit Go.Wk
def OwnX (B:Nat) (w:World) (v:Value) (bs:List UInt8):Prop:=Own B w v bs∨∃g,v=.slice (some ⟨g,0,none⟩) bs.length bs.length∧g<w.heap.size∧Byt w (some ⟨g,0,none⟩) bs
theorem OwnX.below {B:Nat}{w w':World}{v:Value}{bs:List UInt8}(h:OwnX B w v bs) (hb:Below w.heap.size w w'):OwnX B w' v bs:=by
 rcases h with h|⟨g,h1,h2,h3⟩
 ·exact .inl (h.below hb)
 ·exact .inr ⟨g,h1,Nat.lt_of_lt_of_le h2 hb.size,h3.below hb⟩
end
section
open Go Go.RowKit Go.Wk
theorem OwnX.rb {B:Nat}{w:World}{v:Value}{bs:List UInt8}(h:Own B w v bs):OwnX B w v bs:=.inl h
end
section
open Go Go.RowKit Go.Wk

end
section
open Go Go.RowKit Go.Wk

end
section
open Go Go.RowKit Go.Wk

end
section
open Go Go.RowKit Go.Wk
def m0 (o:Ob):List UInt8:=if o.kind≠8∧o.may 28=true then o.show else []
def qP (o:Ob):Int:=if o.kind≠8∧o.may 28=true then 0 else 1
def VR2 (w:World) (o:Ob) (e:Ending) (w':World):Prop:=∃A c,e=.returned (.tuple #[.slice A (m0 o).length c,.int .i64 (qP o)])∧Byt w' A (m0 o)∧Below w.heap.size w w'
theorem VR.two {w w':World}{o:Ob}{e:Ending}(h:VR w o e w'):VR2 w o e w':=by
 obtain⟨hB,A,c,n,z,rfl,hA,⟨h1,h2,rfl,h3,rfl⟩|⟨h1,rfl,rfl,rfl⟩⟩:=h
 ·exact⟨A,c,by simp[m0,qP,h1,h2],by simpa [m0,h1,h2] using h3,hB⟩
 ·have e1:m0 o=[]:=by unfold m0;rw[if_neg h1]
  have e2:qP o=1:=by unfold qP;rw[if_neg h1]
  exact⟨none,c,by rw[e1,e2];rfl,by rw[e1];exact⟨by simp,fun h=>by simp at h⟩,hB⟩
end
end Go.Proofs.YthffpbkndnhlfaaGreatDoor
