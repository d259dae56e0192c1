/- Walks and laws, joined: part A. No condition. -/
import Derived.Calls
import Derived.ChangeArms
import Derived.Great.BuildSlice
import Derived.Laws.AppendOwn
import Derived.Laws.BytesArg
import Derived.Laws.Externs
import Derived.Laws.IdiomCopy
import Derived.Laws.IdiomStrings
import Derived.Laws.MakeOwn
import Derived.Laws.Runes
import Derived.Laws.Tables
import Derived.Lib.Builder
import Derived.Lib.BytesEntry
import Derived.Lib.IndexEntry
import Derived.Lib.MakeNoZero
import Derived.Lib.ReflectliteSlice
import Derived.Lib.UnsafeStr
import Derived.LoopN
import Derived.LoopNIn
import Derived.Orders
import Derived.OrdersIn
import Derived.RangeFuncIn
import Derived.RangeFuncRecord
import Derived.WalkKit
import Derived.WalkLawsBesides
import Derived.ChangeSame
import Derived.HandedShaped
import Derived.Lay
import Derived.MakeChecks
import Derived.Stop.Joined
import Derived.Carry
import Derived.ChangeCalls
import Derived.OpenShut
import Derived.Below
import Derived.KernelRfl
import Derived.Deep.DeepHandedRow
import Derived.LaidLaws
import Derived.Lib.Hide
import Derived.ChangeSlices
import Derived.OwnWalk
import Derived.Shelf.LaysM
import Derived.Shelf.Strconv.Itoa0
import Derived.Shelf.Strconv.Itoa1
import Derived.Shelf.Strconv.Itoa2
import Derived.Shelf.Strconv.Itoa3
import Derived.Shelf.Strconv.Itoa4
import Derived.Shelf.Strings.Trim
import Derived.Test.YthffpbkndnhlfaaGreatDoorProg
import Derived.ProofKit
import Derived.IntWalk
import Derived.Laws.BitsAllLaws
import Derived.RegionTactic
import Derived.Lib.Walk
import Derived.Lib.ItoaMem
import Derived.BigCall
import Derived.BigGuard
import Derived.Deep.QuietTactic
import Derived.BigQuiet
import Derived.Shelf.Small.Strs
import Derived.Shelf.Strings.Search3
import Derived.Shelf.Bytes.SlJoin
import Derived.Maps.AppendAt
import Derived.Laws.AppendOwnNone
import Derived.Lib.AppendStr
import Derived.Lib.ItoaNum
import Derived.Lib.TrimByte
import Derived.Tactics2
import Derived.BigRegion
import Derived.Laws.OwnMore
import Derived.Deep.Draws
import Derived.Laws.Rows
import Derived.Test.YthffpbkndnhlfaaGreatDoorRows
import Derived.Lib.ItoaLen
import Derived.Shelf.Bytes.SlClone
import Derived.Deep.RegionHeld3
import Derived.Deep.DrawnRows
import Derived.Deep.DeepCutAuto
import Derived.Deep.Cut
set_option linter.unusedSimpArgs false
set_option linter.unusedVariables false
set_option maxRecDepth 100000
set_option maxHeartbeats 32000000
namespace Go.Am
open Go Go.RowKit Go.WideShapes Go.ChangeShapes
theorem less_tri:∀(a b:List UInt8),(!(Op.bytesLess a b || a == b))=Op.bytesLess b a:=by
 intro a
 induction a with
 |nil=>intro b;cases b <;> rfl
 |cons x a ih=>
  intro b;cases b with
  |nil=>rfl
  |cons y b=>
   simp only[Op.bytesLess,List.cons_beq_cons];rw[←ih b];have hx:(x<y)∨x=y∨y<x:=by
    rcases Nat.lt_trichotomy x.toNat y.toNat with h|h|h
    ·exact .inl (UInt8.lt_iff_toNat_lt.2 h)
    ·exact .inr (.inl (UInt8.toNat_inj.1 h))
    ·exact .inr (.inr (UInt8.lt_iff_toNat_lt.2 h))
   rcases hx with h|h|h
   ·have h1:¬y<x:=by rw[UInt8.lt_iff_toNat_lt]at *;omega
    have h2:¬y=x:=by intro e;subst e;exact h1 h
    simp[h,h1,h2]
   ·subst h
    have h1:¬x<x:=by rw[UInt8.lt_iff_toNat_lt];omega
    simp[h1]
   ·have h1:¬x<y:=by rw[UInt8.lt_iff_toNat_lt]at *;omega
    have h2:¬x=y:=by intro e;subst e;exact h1 h
    simp[h,h1,h2]
theorem oJ {H:Type}{enc:TypeId×Value→H}{P:Program}{f:Func}{s:ChangeSpec}{apart fresh handsOn:Bool}{W W':World}{args:Array Value}{ds:List (DataW H)}{before:List MemPlace}{t:TypeId}
 (hW:DataW.Whole enc P f.params.toList s.vars apart W args.toList ds [] before) (hv:s.vars=[]) (hs:s.fn H (ds++[])={results:=[.lit (.bool true)],args:=ds}) (ht:f.resultTypes=#[t]) (hb:P.underlying t=some .bool)
 (hargs:DataW.TrodAll enc P W' 0 (fun b=>decide (b<W.heap.size)) true f.params.toList args.toList ds before) (hk:Below W.heap.size W W'):s.post enc P f apart fresh handsOn false W args (.bool true) W':=by
 refine⟨ds,[],before,[],before,[],hW,?_,?_,?_,World.keptBut_mono (fun p hp=>⟨hp,.inr (.inl hp)⟩) (hk.frame (·∈before)),fun h=>by cases h⟩
 ·rw[hs,ht];exact trodAll_mk1 (shut_bool hb true)
 ·rw[hs];exact hargs
 ·rw[hs,hv];rfl
theorem jE {P:Program}{w:World}(hsh:w.ShapedOpen P) (hl:Nat.ble (P.globals.size+1) (begin P (fun _ _=>0) default).world.heap.size=true):P.globals.size<w.heap.size:=by
 obtain⟨o,_,h1,_⟩:=hsh.2 P.globals.size (Nat.le_refl _) (Nat.le_of_ble_eq_true hl);exact (Array.getElem?_eq_some_iff.1 h1).1
theorem gZ {H:Type}{enc:TypeId×Value→H}{P:Program}(lo:laidOutB P=true) {W W':World}(hb:Below W.heap.size W W') :
 ∀{ts:List TypeId}{vs:List Value}{ds:List (DataW H)}{ps:List MemPlace},(ts.all fun t=>P.readableRec t && decide (t<P.types.size))=true→DataW.TrodAll enc P W 0 (fun _=>true) true ts vs ds ps→(∀x∈ps,x.block<W.heap.size)→
  DataW.TrodAll enc P W' 0 (fun b=>decide (b<W.heap.size)) true ts vs ds ps:=by
 intro ts
 induction ts with
 |nil=>
  intro vs ds ps _ h _;obtain⟨rfl,rfl,rfl⟩:=trodAll_nil h;exact trodAll_mk0
 |cons t ts ih=>
  intro vs ds ps hr h hlt;rw[List.all_cons,Bool.and_eq_true]at hr;obtain⟨v,vs',d,ds',p,q,rfl,rfl,rfl,h1,h2⟩:=trodAll_cons h;simp only[Bool.and_eq_true,decide_eq_true_eq]at hr;exact trodAll_cons_mk (Below.trod lo hr.1.1 hr.1.2 h1 hb fun x hx=>hlt x (List.mem_append_left _ hx)) (ih (by simpa using hr.2) h2 fun x hx=>hlt x (List.mem_append_right _ hx))
theorem oI {C:Checked}{H:Type}{enc:TypeId×Value→H}{f:FuncId}{fn:Func}{s:ChangeSpec}{t:TypeId}
 (hfn:C.prog.funcs[f]?=some fn) (hv:s.vars=[]) (hs:∀ds:List (DataW H),ds.length=fn.params.size→s.fn H (ds++[])={results:=[.lit (.bool true)],args:=ds}) (ht:fn.resultTypes=#[t]) (hb:C.prog.underlying t=some .bool)
 (hl:Nat.ble (C.prog.globals.size+1) (begin C.prog (fun _ _=>0) default).world.heap.size=true) (lo:laidOutB C.prog=true) (hr:(fn.params.toList.all fun t=>C.prog.readableRec t && decide (t<C.prog.types.size))=true)
 {w:World}{tape:Tape}{i:Input}(hsh:(w.forCall tape i).ShapedOpen C.prog) (hok:Input.okWide C.prog (w.forCall tape i) .any w.heap.size f i) (hpre:s.pre enc C.prog fn [] false (w.forCall tape i).memory i.args)
 (
  run:∀(W:World) (base:Nat) (ds:List (DataW H)) (before:List MemPlace),W=w.forCall tape i→C.prog.globals.size<W.heap.size→(∀(j:Nat) t v,fn.params[j]?=some t→i.args[j]?=some v→Value.okWide C.prog W .any base t v)→
  DataW.TrodAll enc C.prog W 0 (fun _=>true) true fn.params.toList i.args.toList ds before→Calls C.prog f i.args W fun e W'=>e=.returned (.bool true)∧Below W.heap.size W W') :
 Calls C.prog f i.args (w.forCall tape i) fun
  | .returned v,w'=>s.post enc C.prog fn false true false false (w.forCall tape i).blind i.args v w'.blind
  |_,_=>False:=by
 obtain⟨_,_,_,fn',hfn',_,_,_,_,hval⟩:=hok;have e:fn'=fn:=Option.some.inj (hfn'.symm.trans hfn);subst e;obtain⟨ds,gs,before,hw,_⟩:=hpre;have hw':=DataW.Whole.of_heap (w':=w.forCall tape i) (by rfl) hw;have hg:=jE hsh hl;generalize hWW:w.forCall tape i=W at *;have hW:=hw';have hlt:∀x∈before,x.block<W.heap.size:=fun x hx=>hW.lt x hx
 obtain⟨p,q,hA0,hV,rfl,hfz,hnd⟩:=hw';rw[hv]at hV;obtain⟨rfl,rfl⟩:=trodVars_none hV;have hlen:ds.length=fn'.params.size:=by
  have:∀{ts:List TypeId}{vs:List Value}{ds:List (DataW H)}{ps:List MemPlace},DataW.TrodAll enc C.prog W 0 (fun _=>true) true ts vs ds ps→ds.length=ts.length:=by
   intro ts
   induction ts with
   |nil=>intro vs ds ps h;obtain⟨_,rfl,_⟩:=trodAll_nil h;rfl
   |cons t ts ih=>intro vs ds ps h;obtain⟨v,vs',d,ds',p,q,rfl,rfl,rfl,_,h2⟩:=trodAll_cons h;simp[ih h2]
  have:=this hA0
  simpa using this
 simp only[List.append_nil]at hlt hW;refine (run W _ ds p rfl hg hval hA0).mono fun e W' ⟨he,hk⟩=>?_
 subst he;exact ChangeSpec.post_blind (oJ hW hv (hs ds hlen) ht hb (gZ lo hk hr hA0 hlt) hk)
theorem law_any {C:Checked}{os:Os}(started:os.Started) {H:Type}{enc:TypeId×Value→H}{f:FuncId}{fn:Func}{s:ChangeSpec}{laid:List (String×DataW Unit)}{t:TypeId}
 (own:ownKnob C.prog.godebug=none) (noInit:C.prog.inits.idxOf? f=none) (hfn:C.prog.funcs[f]?=some fn) (hv:s.vars=[]) (hs:∀ds:List (DataW H),ds.length=fn.params.size→s.fn H (ds++[])={results:=[.lit (.bool true)],args:=ds}) (ht:fn.resultTypes=#[t]) (hb:C.prog.underlying t=some .bool)
 (hl:Nat.ble (C.prog.globals.size+1) (begin C.prog (fun _ _=>0) default).world.heap.size=true) (lo:laidOutB C.prog=true) (hr:(fn.params.toList.all fun t=>C.prog.readableRec t && decide (t<C.prog.types.size))=true)
 (
  witness:∃(w:World) (tape:Tape) (i:Input),w.os=os∧(w.forCall tape i).Shaped C.prog∧i.vars=[]∧Input.okWide C.prog (w.forCall tape i) .any w.heap.size f i∧
  ((s.pre enc C.prog fn [] false (w.forCall tape i).memory i.args∧laidMetH C.prog laid (w.forCall tape i).memory)∧sizedMet enc C.prog fn (OpenSpec.ofChange s) false (w.forCall tape i).memory i.args)∧({}:Assume).holds C.prog (lone (Frame.enter C.prog f i.args .normal) [] (w.forCall tape i)))
 (
  run:∀(W:World) (base:Nat) (args:Array Value) (ds:List (DataW H)) (before:List MemPlace),C.prog.globals.size<W.heap.size→laidMetH C.prog laid W→(∀(j:Nat) t v,fn.params[j]?=some t→args[j]?=some v→Value.okWide C.prog W .any base t v)→
  DataW.TrodAll enc C.prog W 0 (fun _=>true) true fn.params.toList args.toList ds before→Calls C.prog f args W fun e W'=>e=.returned (.bool true)∧Below W.heap.size W W') :
 ReturnsInHanded {} C os f .any (fun w args=>(s.pre enc C.prog fn [] false w args∧laidMetH C.prog laid w)∧sizedMet enc C.prog fn (OpenSpec.ofChange s) false w args) (s.post enc C.prog fn false true false false):=by
 refine returnsInHanded_of_calls own started noInit witness ?_;intro w tape i _ hsh _ hok hpre _;have hL':laidMetH C.prog laid (w.forCall tape i):=laidMetH.of_heap (w:=(w.forCall tape i).memory) (w':=w.forCall tape i) rfl hpre.1.2;exact oI hfn hv hs ht hb hl lo hr hsh hok hpre.1.1 fun W base ds before hWW hg hval hA=>run W base i.args ds before hg (hWW▸hL') hval hA
end Go.Am
namespace Go.Wk
open Go Go.RowKit Go.ChangeShapes
theorem hi_ {p:Prop}(h:p):Hid p:=Lib.hid h
theorem h3_ {p q r G:Prop}(hp:p) (hq:q) (hr:r) (k:RowKit.Hid p→RowKit.Hid q→RowKit.Hid r→G):G:=k hp hq hr
theorem h4_ {p q r s G:Prop}(hp:p) (hq:q) (hr:r) (hs:s) (k:RowKit.Hid p→RowKit.Hid q→RowKit.Hid r→RowKit.Hid s→G):G:=k hp hq hr hs
theorem h5_ {p q r s t G:Prop}(hp:p) (hq:q) (hr:r) (hs:s) (ht:t) (k:RowKit.Hid p→RowKit.Hid q→RowKit.Hid r→RowKit.Hid s→RowKit.Hid t→G):G:=k hp hq hr hs ht
theorem h6_ {p q r s t u G:Prop}(hp:p) (hq:q) (hr:r) (hs:s) (ht:t) (hu:u) (k:RowKit.Hid p→RowKit.Hid q→RowKit.Hid r→RowKit.Hid s→RowKit.Hid t→RowKit.Hid u→G):G:=k hp hq hr hs ht hu
theorem h7_ {p q r s t u v G:Prop}(hp:p) (hq:q) (hr:r) (hs:s) (ht:t) (hu:u) (hv:v) (k:RowKit.Hid p→RowKit.Hid q→RowKit.Hid r→RowKit.Hid s→RowKit.Hid t→RowKit.Hid u→RowKit.Hid v→G):G:=k hp hq hr hs ht hu hv
theorem h8_ {p q r s t u v x G:Prop}(hp:p) (hq:q) (hr:r) (hs:s) (ht:t) (hu:u) (hv:v) (hx:x) (k:RowKit.Hid p→RowKit.Hid q→RowKit.Hid r→RowKit.Hid s→RowKit.Hid t→RowKit.Hid u→RowKit.Hid v→RowKit.Hid x→G):G:=k hp hq hr hs ht hu hv hx
theorem h9_ {p q r s t u v x y G:Prop}(hp:p) (hq:q) (hr:r) (hs:s) (ht:t) (hu:u) (hv:v) (hx:x) (hy:y) (k:RowKit.Hid p→RowKit.Hid q→RowKit.Hid r→RowKit.Hid s→RowKit.Hid t→RowKit.Hid u→RowKit.Hid v→RowKit.Hid x→RowKit.Hid y→G):G:=k hp hq hr hs ht hu hv hx hy
theorem ac {w:World}{a:Addr}{v:Value}(h:w.cell? a=some v):a.block<w.heap.size:=by
 rcases Nat.lt_or_ge a.block w.heap.size with h'|h'
 ·exact h'
 ·unfold World.cell? at h;rw[Array.getElem?_eq_none h']at h;cases h
theorem add_none (b o j:Nat):(⟨b,o,none⟩:Addr).add j=⟨b,o+j,none⟩:=by unfold Addr.add;split <;> simp_all
def Byt (w:World) (A:Option Addr) (bs:List UInt8):Prop:=
 bs.length≤maxLen∧(0<bs.length→∃b o,A=some ⟨b,o,none⟩∧∀i (h:i<bs.length),w.cell? ⟨b,o+i,none⟩=some (.int .u8 (bs[i].toNat:Int)))
theorem dK (b:UInt8):(b.toNat:Int)<256:=by have:=b.toNat_lt;omega
theorem Byt.nil {w:World}{A:Option Addr}:Byt w A []:=⟨Nat.zero_le _,fun h=>by simp at h⟩
theorem Byt.below {w w':World}{A:Option Addr}{bs:List UInt8}(h:Byt w A bs) (hb:Below w.heap.size w w'):Byt w' A bs:=by
 refine⟨h.1,fun h0=>?_⟩;obtain⟨b,o,e,hc⟩:=h.2 h0;refine⟨b,o,e,fun i hi=>?_⟩;rw[hb.cell (p:=⟨b,o+i,none⟩) (ac (hc i hi))];exact hc i hi
abbrev tz:=Option Addr×Nat×List UInt8
def Parts (w:World) (A:Option Addr) (ps:List tz):Prop:=
 ps.length≤maxLen∧(0<ps.length→∃b o,A=some ⟨b,o,none⟩∧∀i (h:i<ps.length),w.cell? ⟨b,o+i,none⟩=some (.slice ps[i].1 ps[i].2.2.length ps[i].2.1))∧∀p∈ps,Byt w p.1 p.2.2∧(p.1=none→p.2.1=0)
theorem Parts.below {w w':World}{A:Option Addr}{ps:List tz}(h:Parts w A ps) (hb:Below w.heap.size w w'):Parts w' A ps:=by
 refine⟨h.1,fun h0=>?_,fun p hp=>⟨(h.2.2 p hp).1.below hb,(h.2.2 p hp).2⟩⟩;obtain⟨b,o,e,hc⟩:=h.2.1 h0;refine⟨b,o,e,fun i hi=>?_⟩;rw[hb.cell (p:=⟨b,o+i,none⟩) (ac (hc i hi))];exact hc i hi
def aM (bs:List UInt8):List Value:=bs.map fun b=>.int .u8 (b.toNat:Int)
theorem aS (bs:List UInt8):(aM bs).length=bs.length:=by simp[aM]
theorem iM (bs:List UInt8):∀u∈aM bs,u.oneCell'=true:=by
 intro u hu;obtain⟨b,_,rfl⟩:=List.mem_map.1 hu
 rfl
theorem ed (a b:List UInt8):aM (a++b)=aM a++aM b:=by simp[aM]
theorem Byt.news {w:World}{a:Addr}{bs:List UInt8}(h:Byt w (some a) bs):∀j u,(aM bs)[j]?=some u→w.cell? (a.add j)=some u:=by
 intro j u hu;have hj:j<bs.length:=by have:=(List.getElem?_eq_some_iff.1 hu).1;rwa [aS]at this
 obtain⟨b,o,e,hc⟩:=h.2 (by omega);cases e;rw[add_none,hc j hj,←hu];simp[aM,hj]
theorem fp {w:World}{B e:Nat}{v:Value}{bs:List UInt8}(h:w.ownsRow B e 1 v bs.length (aM bs)):∃A c,v=.slice A bs.length c∧(bs.length≤maxLen→Byt w A bs):=by
 rcases h.2 with ⟨rfl,h0⟩|⟨g,cap,cur,rfl,_,hh,hnc,hcm,hsz,htk⟩
 ·exact⟨none,0,by rw[h0],fun hm=>⟨hm,fun h1=>by omega⟩⟩
 ·refine⟨_,_,rfl,fun hm=>⟨hm,fun h1=>⟨g,0,rfl,fun i hi=>?_⟩⟩⟩
  have hv:(aM bs)[i]?=some (.int .u8 (bs[i].toNat:Int)):=by simp[aM,hi]
  rw[←htk,List.getElem?_take_of_lt (by omega),Array.getElem?_toList]at hv;rw[Nat.zero_add];unfold World.cell?;rw[hh]
  simpa using hv

section
variable {H:Type}{enc:TypeId×Value→H}{P:Program}{w:World}{base:Nat}{sp:Nat→Bool}{held:Bool}
theorem tP {n:Int}(h:(Lit.int .u8 n).wf=true):∃b:UInt8,n=(b.toNat:Int):=by
 have:0≤n∧n≤255:=by simpa [Lit.wf,IntKind.min,IntKind.max,IntKind.signed,IntKind.bits] using h
 refine⟨UInt8.ofNat n.toNat,?_⟩;have h2:n.toNat<256:=by omega
 rw[UInt8.toNat_ofNat_of_lt' h2];omega
theorem open_byt {t e fuel:Nat}{cs:List Value}{x:DataW H×List MemPlace}(ht:P.underlying t=some (.slice e)) (he:P.underlying e=some (.int .u8)) (hc:P.cellsOf e=1) (h:DataW.trod enc P w base sp held fuel t cs=some x) :
 ∃A c bs,cs=[.slice A (bs:List UInt8).length c]∧Byt w A bs∧(A=none→c=0)∧(bs:List UInt8).length≤c:=by
 rcases open_ints ht he hc h with ⟨rfl,_⟩|⟨a,len,cap,zs,rfl,_,hlc,hcm,hz,_,hcell,hwf⟩
 ·exact⟨none,0,[],rfl,Byt.nil,fun _=>rfl,Nat.le_refl _⟩
 ·have hlz:len≤zs.length:=by rw[hz];split <;> omega
  have hbs:∃bs:List UInt8,bs.length=len∧∀i (h:i<bs.length),zs.getD i 0=(bs[i].toNat:Int):=by
   refine⟨(zs.take len).map fun n=>UInt8.ofNat n.toNat,by simp;omega,fun i hi=>?_⟩;have hil:i<len:=by simp at hi;omega
   have hiz:i<zs.length:=by omega
   obtain⟨b,hb⟩:=tP (hwf zs[i] (List.getElem_mem hiz));rw[List.getElem_map,List.getElem_take,List.getD_eq_getElem?_getD,List.getElem?_eq_getElem hiz,Option.getD_some,hb];simp
  obtain⟨bs,rfl,hb⟩:=hbs;refine⟨some a,cap,bs,rfl,⟨by omega,fun h0=>?_⟩,(fun h=>by cases h),hlc⟩;obtain⟨b,o,spot⟩:=a;have h1:=hcell 0 (by omega);have hspot:spot=none:=by simpa [Addr.add] using World.cell?_spot h1
  subst hspot;refine⟨b,o,rfl,fun i hi=>?_⟩;have:=hcell i (by omega);rw[add_none,hb i hi]at this;exact this
end
end Go.Wk
namespace Go.Proofs
open Go.Shelf

end Go.Proofs
namespace Go.Proofs.YthffpbkndnhlfaaGreatDoor
open Go Go.RowKit Go.Wk
def i64 (n:Int):Prop:= -9223372036854775808≤n∧n≤9223372036854775807
theorem aT (a:Int):∃A:Int,Hid (A=a):=⟨a,Lib.hid rfl⟩
theorem bP {w:World}{vs:Array Value}{e i:Nat}:(w.alloc (.cells vs e)).cell? ⟨w.heap.size,0+i,none⟩=vs[i]?:=by
 have h:(w.alloc (.cells vs e)).heap[w.heap.size]?=some (.cells vs e):=by
  show (w.heap.push _)[w.heap.size]?=_
  simp
 unfold World.cell?;rw[h,Nat.zero_add]
 rfl
theorem ah {a b c:World}(h:Below a.heap.size a b) (k:Below b.heap.size b c):Below a.heap.size a c:=h.trans (k.mono h.size)
section
open Go Go.RowKit Go.Wk Go.Sort Go.Lib
theorem kL (w:World) (os:Array Obj) (k:Nat):Below w.heap.size w ((grow w os).drewN k):=
 ⟨rfl,rfl,rfl,by show w.heap.size≤(grow w os).heap.size;rw[size_grow];omega,fun j hj=>heap_grow_old w os hj⟩
abbrev Tab (w:World):Prop:=Lib.TabIs Tryz.prog w "internal/strconv.uint64pow10" .u64 Lib.pow10Tab
end
section
open Go Go.RowKit Go.Wk Go.Sort Go.Lib
theorem Tab.below {w w':World}(h:Tab w) (hb:Below w.heap.size w w'):Tab w':=by
 unfold Tab TabIs World.var? at *;cases hg:Tryz.prog.globalNamed "internal/strconv.uint64pow10" with
 |none=>simp[hg]at h
 |some g=>
  simp only[hg,Option.bind_some]at h⊢;have hlt:g<w.heap.size:=by
   rcases Nat.lt_or_ge g w.heap.size with h'|h'
   ·exact h'
   ·rw[Array.getElem?_eq_none h']at h;simp at h
  rw[hb.block g hlt];exact h
theorem ax (w:World) (n:Nat):Below w.heap.size w (w.drewN n):=⟨rfl,rfl,rfl,Nat.le_refl _,fun _ _=>rfl⟩
def str (l:List UInt8):Value:=.string ⟨l.toArray⟩
def cU (r:Nat):List UInt8:=((decDigits (100000+r)).drop 1).take 1++trimRightB (((decDigits (100000+r)).drop 1).drop 1) 48
theorem fG {a b:ByteArray}(h:a.data.toList=b.data.toList):a=b:=by
 cases a;cases b;simp at h;rw[h]
theorem eH (a b:ByteArray):(a++b).data.toList=a.data.toList++b.data.toList:=by simp
theorem six (r:Nat) (h:r<100000):(decDigits (100000+r)).length=6:=by
 rw[decDigits_length];exact nDigits_unique 5 _ (by omega) (by omega)
end
section
open Go Go.RowKit Go.Wk Go.Sort Go.Lib

end
end Go.Proofs.YthffpbkndnhlfaaGreatDoor
namespace Go.Proofs
section
open Go.Shelf
def Tryz.lays137_ren:Go.Shelf.Ren:=⟨fun|137=>84|217=>120|266=>156|n=>n,fun|9=>9|5=>5|3=>3|n=>n,fun|n=>n⟩
theorem Tryz.lays137:Go.Proofs.Lays.n137 Tryz.prog Tryz.lays137_ren:={
 mixed:=by kernel_rfl
 f137:=Tryz.func84.trans (congrArg some (by kernel_rfl))
 f217:=Tryz.func120.trans (congrArg some (by kernel_rfl))
 f266:=Tryz.func156.trans (congrArg some (by kernel_rfl))
 t3:=Tryz.underlying3
 a3:=Tryz.isAgg3
 z3:=Tryz.sizeOf3
 v3:=Tryz.zeroValue3
 t5:=Tryz.underlying5
 a5:=Tryz.isAgg5
 z5:=Tryz.sizeOf5
 v5:=Tryz.zeroValue5
 t9:=Tryz.underlying9
 a9:=Tryz.isAgg9
 z9:=Tryz.sizeOf9
 v9:=Tryz.zeroValue9}
open Go.RowKit in
theorem Tryz.strings_IndexByte (s:ByteArray) (c:Int) (w:World) :
 Calls Tryz.prog 84 #[.string s,.int .u8 c] w fun e w'=>e=.returned (.int .i64 (Lib.indexByte s.data.toList c.toNat.toUInt8))∧w'=w:=Any.strings_IndexByte Tryz.lays137 s c w
def Tryz.laysSlJ14_ren:Go.Shelf.Ren:=⟨fun|14=>175|15=>181|n=>n,fun|26=>210|22=>22|3=>3|4=>4|0=>0|9=>9|20=>20|5=>5|n=>n,fun|n=>n⟩
theorem Tryz.laysSlJ14:Go.Proofs.SlLaysJ.n14 Tryz.prog Tryz.laysSlJ14_ren:={
 mixed:=by kernel_rfl
 f14:=Tryz.func175.trans (congrArg some (by kernel_rfl))
 f15:=Tryz.func181.trans (congrArg some (by kernel_rfl))
 t0:=Tryz.underlying0
 a0:=Tryz.isAgg0
 z0:=Tryz.sizeOf0
 v0:=Tryz.zeroValue0
 t3:=Tryz.underlying3
 a3:=Tryz.isAgg3
 z3:=Tryz.sizeOf3
 v3:=Tryz.zeroValue3
 t4:=Tryz.underlying4
 a4:=Tryz.isAgg4
 z4:=Tryz.sizeOf4
 v4:=Tryz.zeroValue4
 t9:=Tryz.underlying9
 a9:=Tryz.isAgg9
 z9:=Tryz.sizeOf9
 v9:=Tryz.zeroValue9
 t20:=Tryz.underlying20
 a20:=Tryz.isAgg20
 z20:=Tryz.sizeOf20
 v20:=Tryz.zeroValue20
 t22:=Tryz.underlying22
 a22:=Tryz.isAgg22
 z22:=Tryz.sizeOf22
 v22:=Tryz.zeroValue22
 t26:=Tryz.underlying210
 a26:=Tryz.isAgg210
 z26:=Tryz.sizeOf210
 v26:=Tryz.zeroValue210
 t5:=Tryz.underlying5
 z5:=Tryz.sizeOf5
 i5:=by kernel_rfl}
open Go.RowKit Go.Lib in
theorem Tryz.bytes_Join_many (b o n c:Nat) (vs:List Value) (ls:List (List UInt8)) (sv:Value) (sep:List UInt8) (w:World) (hn:ls.length=n) (h2:2≤n) (hP:Lib.PartsAt w ⟨b,o,none⟩ vs ls) (hcap:n≤c) (hS:Lib.HoldsBytes w sv sep) (hn47:n≤140737488355328) (hlen:Lib.lens ls+sep.length*(n - 1)≤140737488355328) :
 Calls Tryz.prog 175 #[.slice (some ⟨b,o,none⟩) n c,sv] w fun e w'=>∃v',e=.returned v'∧Lib.FreshBytes w.heap.size w' v' (Lib.join ls sep)∧Below w.heap.size w w':=Any.bytes_Join_many Tryz.laysSlJ14 b o n c vs ls sv sep w hn h2 hP hcap hS hn47 hlen
end
end Go.Proofs
namespace Go.Proofs.YthffpbkndnhlfaaGreatDoor
open Go Go.RowKit Go.Wk
structure Own (B:Nat) (w:World) (v:Value) (bs:List UInt8):Prop where
 row:w.ownsRow B 5 1 v bs.length (aM bs)
theorem Own.nil (B:Nat) (w:World):Own B w (.slice none 0 0) []:=⟨World.ownsRow_nil _ _ _ _⟩
theorem Own.out {B:Nat}{w:World}{v:Value}{bs:List UInt8}(h:Own B w v bs) (hm:bs.length≤maxLen):∃A c,v=.slice A bs.length c∧Byt w A bs∧(A=none→c=0):=by
 obtain⟨A,c,rfl,hb⟩:=fp h.row;refine⟨A,c,rfl,hb hm,?_⟩;rintro rfl;rcases h.row.2 with ⟨e,_⟩|⟨g,cap,cur,e,_⟩
 ·injection e
 ·injection e with e;cases e
theorem Own.base {B B':Nat}{w:World}{v:Value}{bs:List UInt8}(h:Own B' w v bs) (hB:B≤B'):Own B w v bs:=by
 refine⟨h.row.1,?_⟩;rcases h.row.2 with h2|⟨g,cap,cur,e,hB',rest⟩
 ·exact .inl h2
 ·exact .inr ⟨g,cap,cur,e,Nat.le_trans hB hB',rest⟩
theorem Own.below {B:Nat}{w w':World}{v:Value}{bs:List UInt8}(h:Own B w v bs) (hb:Below w.heap.size w w'):Own B w' v bs:=by
 refine⟨h.row.1,?_⟩;rcases h.row.2 with h2|⟨g,cap,cur,e,hB,hh,rest⟩
 ·exact .inl h2
 ·exact .inr ⟨g,cap,cur,e,hB,(hb.block g (Array.getElem?_eq_some_iff.1 hh).1).trans hh,rest⟩
def RB (w:World) (bs:List UInt8) (e:Ending) (w':World):Prop:=∃A c,e=.returned (.slice A bs.length c)∧Byt w' A bs∧(A=none→c=0)∧Below w.heap.size w w'
def RO (w:World) (bs:List UInt8) (e:Ending) (w':World):Prop:=∃v,e=.returned v∧Own w.heap.size w' v bs∧Below w.heap.size w w'
theorem RO.rb {w w':World}{bs:List UInt8}{e:Ending}(h:RO w bs e w') (hm:bs.length≤maxLen):RB w bs e w':=by
 obtain⟨v,rfl,h1,h2⟩:=h;obtain⟨A,c,rfl,h3,h4⟩:=h1.out hm;exact⟨A,c,rfl,h3,h4,h2⟩
theorem eG:∃i,Tryz.prog.info? 5=some i∧i.zero=some (.int .u8 0)∧i.size=1∧i.bytes=1:=⟨Tryz.t5,by kernel_rfl,by kernel_rfl,by kernel_rfl,by kernel_rfl⟩
theorem dU {w:World}{ops:Array Oper}{rest:List Oper}{o:Oper}{a:Act}{Q:Exit→Act→World→Prop}(hgd:o.guard=none) (s x:Operand)
 (ho:o.op=.call {callee:=.builtin .append,args:=#[s,x],argTypes:=#[22,22]}) (B:Nat) (v:Value) (out:List UInt8) (hs:a.eval s=v) (hown:Own B w v out)
 (A:Option Addr) (n c:Nat) (bs:List UInt8) (hx:a.eval x=.slice A n c) (hn:n=bs.length) (hb:Byt w A bs) (hA:A=none→c=0) (hl:out.length+bs.length≤70368744177664) (hB:B≤w.heap.size)
 (h:∀v' w',Own B w' v' (out++bs)→Below B w w'→wpList Tryz.prog ops Q rest (a.put o.dst v') w'):wpList Tryz.prog ops Q (o :: rest) a w:=by
 obtain⟨i0,hi,hz0,hz1,hz2⟩:=eG;cases A with
 |none=>
  have hbs:bs=[]:=by
   cases bs with
   |nil=>rfl
   |cons y l=>obtain⟨b,o,e,_⟩:=hb.2 (by simp);cases e
  subst hbs;have hc:=hA rfl;subst hc;obtain rfl:n=0:=hn;refine wpList_append_own_none hgd s x 22 ho B 5 i0 1 Tryz.underlying22 hi v out.length (aM out) hs hown.row hx ?_;exact h v w (by rw[List.append_nil];exact hown) (Below.refl _ _ |>.mono hB)
 |some ad=>
  refine wpList_append_own_at w hgd s x 22 ho B 5 i0 (.int .u8 0) 1 1 Tryz.underlying22 hi hz0 hz1 hz2 rfl (by decide) v out.length (aM out) hs hown.row ad n c (aM bs) hx (by rw[aS,hn,Nat.mul_one]) hb.news (iM bs) (by unfold maxLen;omega) (by omega) hB ?_;intro v' w' h1 h2 _ h3;refine h v' w' ⟨?_⟩ ((Below.refl _ _ |>.mono hB).grown h2 hB fun k hk=>(hown.row.lt k hk).1);rw[List.length_append,ed,←hn];exact h1
theorem rR {w:World}{ops:Array Oper}{rest:List Oper}{o:Oper}{a:Act}{Q:Exit→Act→World→Prop}(hgd:o.guard=none) (s x:Operand)
 (ho:o.op=.call {callee:=.builtin .append,args:=#[s,x],argTypes:=#[22,9]}) (B:Nat) (v:Value) (out:List UInt8) (hs:a.eval s=v) (hown:Own B w v out)
 (S:ByteArray) (bs:List UInt8) (hx:a.eval x=.string S) (hS:S.data.toList=bs) (hl:out.length+bs.length≤70368744177664) (hB:B≤w.heap.size)
 (h:∀v' w',Own B w' v' (out++bs)→Below B w w'→wpList Tryz.prog ops Q rest (a.put o.dst v') w'):wpList Tryz.prog ops Q (o :: rest) a w:=by
 obtain⟨i0,hi,hz0,hz1,hz2⟩:=eG;subst hS;have hlen:S.data.toList.length=S.size:=Array.length_toList;refine Lib.wpList_append_own_string w hgd s x 22 9 ho B 5 i0 Tryz.underlying22 Tryz.underlying9 hi hz0 hz1 hz2 v out.length (aM out) hs hown.row S hx (by unfold maxLen;omega) (by omega) hB ?_;intro v' w' h1 h2 h3;refine h v' w' ⟨?_⟩ ((Below.refl _ _ |>.mono hB).grown h2 hB fun k hk=>(hown.row.lt k hk).1);have e:Lib.strCells S=aM S.data.toList:=rfl;rw[List.length_append,ed,hlen,←e];exact h1
end Go.Proofs.YthffpbkndnhlfaaGreatDoor
namespace Go.Wk
open Go Go.RowKit Go.ChangeShapes
inductive Ob where
 |mk (k n:Int) (b:List UInt8) (l:List Ob) (d:List (List UInt8×Ob))
mutual
def Ob.bulk:Ob→Nat
 | .mk _ _ b l d=>b.length+bv l+aI d+1
def bv:List Ob→Nat
 |[]=>0
 |o :: r=>o.bulk+bv r
def aI:List (List UInt8×Ob)→Nat
 |[]=>0
 |e :: r=>e.1.length+e.2.bulk+1+aI r
end
theorem dG:∀(l:List Ob) (i:Nat) (h:i<l.length),l[i].bulk≤bv l
 |[],i,h=>by simp at h
 |o :: r,0,_=>by simp[bv]
 |o :: r,i+1,h=>by have:=dG r i (by simpa using h);simp[bv];omega
theorem bZ:∀(l:List (List UInt8×Ob)) (i:Nat) (h:i<l.length),l[i].1.length+l[i].2.bulk+1≤aI l
 |[],i,h=>by simp at h
 |o :: r,0,_=>by simp[aI]
 |o :: r,i+1,h=>by have:=bZ r i (by simpa using h);simp[aI];omega
theorem dk (o:Ob):1≤o.bulk:=by cases o;simp[Ob.bulk]
theorem dV:∀(l:List Ob),l.length≤bv l
 |[]=>Nat.le_refl _
 |o :: r=>by have:=dV r;have:=dk o;simp[bv];omega
theorem cH:∀(l:List (List UInt8×Ob)),l.length≤aI l
 |[]=>Nat.le_refl _
 |o :: r=>by have:=cH r;simp[aI];omega
def bE (l:List UInt8):Value:=.string ⟨l.toArray⟩
inductive ObAt (w:World):Ob→List Value→Prop
 |mk (k n:Int) (b:List UInt8) (l:List Ob) (d:List (List UInt8×Ob)) (A AL AD:Option Addr) (c cL cD gL oL gD oD:Nat) (vl vd:Nat→List Value) :
  -9223372036854775808≤k→k≤9223372036854775807→-9223372036854775808≤n→n≤9223372036854775807→Byt w A b→b.length≤c→(A=none→c=0)→l.length≤cL→l.length≤maxLen→d.length≤cD→d.length≤maxLen→
  (0<l.length→AL=some ⟨gL,oL,none⟩)→(∀i,(hi:i<l.length)→ObAt w l[i] (vl i))→(∀i,i<l.length→∀j,j<5→w.cell? ⟨gL,oL+(5*i+j),none⟩=(vl i)[j]?)→
  (0<d.length→AD=some ⟨gD,oD,none⟩)→(∀i,(hi:i<d.length)→ObAt w d[i].2 (vd i))→(∀i,(hi:i<d.length)→d[i].1.length≤maxLen∧w.cell? ⟨gD,oD+6*i,none⟩=some (bE d[i].1))→(∀i,i<d.length→∀j,j<5→w.cell? ⟨gD,oD+(6*i+1+j),none⟩=(vd i)[j]?)→
  ObAt w (.mk k n b l d) [.int .i64 k,.int .i64 n,.slice A b.length c,.slice AL l.length cL,.slice AD d.length cD]
theorem ObAt.five {w:World}{o:Ob}{vs:List Value}(h:ObAt w o vs):vs.length=5:=by cases h;rfl
theorem ObAt.kept {w w':World}{o:Ob}{vs:List Value}(h:ObAt w o vs) (hb:Below w.heap.size w w'):ObAt w' o vs:=by
 induction h with
 |mk k n b l d A AL AD c cL cD gL oL gD oD vl vd h1 h2 h3 h4 h5 h6 h7 h8 h9 h10 h11 h12 h13 h14 h15 h16 h17 h18 ihl ihd=>
  have keep:∀{p:Addr}{v:Option Value},(∃u,v=some u)→w.cell? p=v→w'.cell? p=v:=fun {p v} hv hp=>by
   obtain⟨u,rfl⟩:=hv;rw[hb.cell (ac hp)];exact hp
  have five:∀(vs:List Value) (j:Nat),vs.length=5→j<5→∃u,vs[j]?=some u:=fun vs j h hj=>⟨vs[j],List.getElem?_eq_getElem (by omega)⟩
  exact .mk k n b l d A AL AD c cL cD gL oL gD oD vl vd h1 h2 h3 h4 (h5.below hb) h6 h7 h8 h9 h10 h11 h12 ihl (fun i hi j hj=>keep (five _ j (h13 i hi).five hj) (h14 i hi j hj)) h15 ihd
   (fun i hi=>⟨(h17 i hi).1,keep ⟨_,rfl⟩ (h17 i hi).2⟩) (fun i hi j hj=>keep (five _ j (h16 i hi).five hj) (h18 i hi j hj))
section
variable {H:Type}{enc:TypeId×Value→H}{P:Program}{w:World}{base:Nat}{sp:Nat→Bool}{held:Bool}
end
section
open Go
def ltB:List UInt8→List UInt8→Bool
 |_,[]=>false
 |[],_ :: _=>true
 |a :: r,b :: s=>if a<b then true else if b<a then false else ltB r s
def oQ (s:List UInt8):Bool:=decide (s.length≤127) && !s.contains 0
def sK (k n:Int) (b:List UInt8) (l:List Ob) (d:List (List UInt8×Ob)):Bool:=
 (k == 1 || k == 2 || k == 3 || k == 9 || n == 0) && (k == 4 || k == 5 || k == 8 || b.length == 0) && (k == 6 || l.length == 0) && (k == 7 || k == 8 || d.length == 0)
def pi:List (List UInt8×Ob)→Bool
 |[]=>true
 |[_]=>true
 |a :: b :: r=>ltB a.1 b.1 && pi (b :: r)
def Ob.kind:Ob→Int
 | .mk k _ _ _ _=>k
mutual
def Ob.may (dep:Nat):Ob→Bool
 | .mk k n b l d=>sK k n b l d && (
  if k=0 then true
  else if k=1 then decide (0≤n∧n≤1)
  else if k=2 then decide (-2147483647≤n∧n≤2147483647)
  else if k=3 then decide (-214748364799999≤n∧n≤214748364799999)
  else if k=9 then decide (1≤n∧n≤8388607)
  else if k=4 then decide (b.length≤32767)
  else if k=5 then oQ b
  else if k=6 then decide (0<dep) && gI (dep - 1) l
  else if k=7∨k=8 then decide (0<dep) && pi d && decide (b.length≤16777216) && kZ (dep - 1) d
  else false)
def gI (dep:Nat):List Ob→Bool
 |[]=>true
 |o :: r=>(o.kind !=8 && o.may dep) && gI dep r
def kZ (dep:Nat):List (List UInt8×Ob)→Bool
 |[]=>true
 |e :: r=>(oQ e.1 && e.2.kind !=0 && e.2.kind !=8 && e.2.may dep) && kZ dep r
end
def eh (n:Nat):UInt8:=if n<10 then UInt8.ofNat (48+n) else UInt8.ofNat (87+n)
def eQ (b:List UInt8):List UInt8:=b.flatMap fun c=>[eh (c.toNat / 16),eh (c.toNat % 16)]
def bu (c:UInt8):Bool:=!(c == 0 || c == 9 || c == 10 || c == 12 || c == 13 || c == 32 || c == 40 || c == 41 || c == 60 || c == 62 || c == 91 || c == 93 || c == 123 || c == 125 || c == 47 || c == 37)
def dN (c:UInt8):List UInt8:=if 33≤c.toNat∧c.toNat≤126∧c≠35∧bu c=true then [c] else 35 :: eQ [c]
def dw (s:List UInt8):List UInt8:=47 :: s.flatMap dN
def jf (c:UInt8):Bool:=decide (32≤c.toNat∧c.toNat≤126) && c !=40 && c !=41 && c !=92
def eT (b:List UInt8):List UInt8:=if b.all jf then 40 :: (b++[41]) else 60 :: (eQ b++[62])
def cU (f:Nat):List UInt8:=
 let p:=(Lib.decDigits (100000+f)).drop 1
 p.take 1++Lib.trimRightB (p.drop 1) 48
def cZ (n:Int) (whole:Bool):List UInt8:=if whole then Lib.itoa n else (if n<0 then [45] else [])++(Lib.decDigits (n.natAbs / 100000)++(46 :: cU (n.natAbs % 100000)))
mutual
def Ob.show:Ob→List UInt8
 | .mk k n b l d=>
  if k=1 then (if n=1 then [116,114,117,101] else [102,97,108,115,101])
  else if k=2 then cZ n true
  else if k=3 then cZ n false
  else if k=4 then eT b
  else if k=5 then dw b
  else if k=9 then cZ n true++[32,48,32,82]
  else if k=6 then 91 :: (bc true l++[93])
  else if k=7∨k=8 then 60 :: 60 :: (bW d++[62,62])
  else [110,117,108,108]
def bc (first:Bool):List Ob→List UInt8
 |[]=>[]
 |o :: r=>(if first then [] else [32])++(o.show++bc false r)
def bW:List (List UInt8×Ob)→List UInt8
 |[]=>[]
 |e :: r=>dw e.1++(32 :: (e.2.show++bW r))
end
theorem jG (b:List UInt8):(eQ b).length=2*b.length:=by
 unfold eQ;induction b with
 |nil=>rfl
 |cons x b ih=>simp only[List.flatMap_cons,List.length_append,List.length_cons,List.length_nil,ih];omega
theorem mT (c:UInt8):(dN c).length≤3:=by
 unfold dN;split
 ·simp
 ·simp[jG]
theorem iw (s:List UInt8):(dw s).length≤3*s.length+1:=by
 unfold dw;have:∀s:List UInt8,(s.flatMap dN).length≤3*s.length:=by
  intro s;induction s with
  |nil=>simp
  |cons x s ih=>have:=mT x;simp only[List.flatMap_cons,List.length_append,List.length_cons];omega
 have:=this s;simp only[List.length_cons];omega
theorem nm (b:List UInt8):(eT b).length≤2*b.length+2:=by
 unfold eT;split
 ·simp;omega
 ·simp[jG]
theorem lQ:∀(k u:Nat),u<10 ^ (k+1)→(Lib.decDigits u).length≤k+1:=by
 intro k
 induction k with
 |zero=>intro u h;rw[Lib.decDigits];rw[dif_pos (by omega)];simp
 |succ k ih=>
  intro u h;rw[Lib.decDigits];split
  ·simp
  ·have:=ih (u / 10) (by rw[Nat.pow_succ]at h;omega)
   simp only[List.length_append,List.length_cons,List.length_nil];omega
theorem pS (l:List UInt8) (c:UInt8):(Lib.trimRightB l c).length≤l.length:=by
 unfold Lib.trimRightB;have:∀k:List UInt8,(k.dropWhile (·== c)).length≤k.length:=fun k=>by
  induction k with
  |nil=>simp
  |cons x k ih=>simp only[List.dropWhile_cons];split <;> simp <;> omega
 have:=this l.reverse;simp at this⊢;omega
theorem gJ (n:Int) (w:Bool) (h: -9223372036854775808≤n∧n≤9223372036854775807):(cZ n w).length≤28:=by
 have h20:∀u,u≤9223372036854775808→(Lib.decDigits u).length≤19:=fun u hu=>lQ 18 u (by omega)
 unfold cZ;split
 ·unfold Lib.itoa
  split
  ·have:=h20 n.natAbs (by omega);simp;omega
  ·have:=h20 n.toNat (by omega);omega
 ·have h1:=h20 (n.natAbs / 100000) (by omega)
  have h2:=lQ 5 (100000+n.natAbs % 100000) (by omega);have h3:(cU (n.natAbs % 100000)).length≤6:=by
   unfold cU;have:=pS (((Lib.decDigits (100000+n.natAbs % 100000)).drop 1).drop 1) 48;simp only[List.length_append,List.length_take,List.length_drop]at this⊢;omega
  simp only[List.length_append,List.length_cons];have:(if n<0 then [(45:UInt8)] else []).length≤1:=by split <;> simp
  omega
inductive Fits:Ob→Prop
 |mk (k n:Int) (b:List UInt8) (l:List Ob) (d:List (List UInt8×Ob)): -9223372036854775808≤n∧n≤9223372036854775807→(∀o∈l,Fits o)→(∀e∈d,Fits e.2)→Fits (.mk k n b l d)
mutual
theorem ku:∀(o:Ob),Fits o→o.show.length+1≤40*o.bulk
 | .mk k n b l d,h=>by
  cases h with
  |mk _ _ _ _ _ hn hl hd=>
   have h1:=gJ n true hn;have h2:=gJ n false hn;have h3:=nm b;have h4:=iw b;have h5:=eO l hl true;have h6:=eN d hd;simp only[Ob.show,Ob.bulk];split
   ·split <;> simp <;> omega
   split
   ·omega
   split
   ·omega
   split
   ·omega
   split
   ·omega
   split
   ·simp;omega
   split
   ·simp;omega
   split
   ·simp;omega
   ·simp;omega
theorem eO:∀(l:List Ob),(∀o∈l,Fits o)→∀f,(bc f l).length≤40*bv l
 |[],_,_=>by simp[bc]
 |o :: r,h,f=>by
  have h1:=ku o (h o (by simp));have h2:=eO r (fun x hx=>h x (by simp[hx])) false;have h3:(if f then ([]:List UInt8) else [32]).length≤1:=by split <;> simp
  simp only[bc,bv,List.length_append,List.length_cons];omega
theorem eN:∀(l:List (List UInt8×Ob)),(∀e∈l,Fits e.2)→(bW l).length≤40*aI l
 |[],_=>by simp[bW]
 |e :: r,h=>by
  have h1:=ku e.2 (h e (by simp));have h2:=eN r (fun x hx=>h x (by simp[hx]));have h3:=iw e.1;simp only[bW,aI,List.length_append,List.length_cons];omega
end
end
end Go.Wk
namespace Go.Proofs.YthffpbkndnhlfaaGreatDoor
open Go Go.RowKit Go.Wk
def lC (x:Int):Bool:=x == 0 || x == 9 || x == 10 || x == 12 || x == 13 || x == 32
theorem ik (x:Int) (w:World):Calls Tryz.prog 59 #[.int .i64 x] w fun e w'=>e=.returned (.bool (lC x))∧w=w':=by
 go_enter Tryz.func59,Tryz.ntmps59;go_wp2
 all_goals go_ret
 all_goals refine⟨?_,rfl⟩
 all_goals simp_all [lC]
theorem qY:∀c:Fin 256,bu (UInt8.ofNat c.val)=(!lC (c.val:Int) && decide (Lib.indexByte [40,41,60,62,91,93,123,125,47,37] (UInt8.ofNat c.val)<0)):=by decide +kernel
theorem fZ (c:UInt8) (w:World):Calls Tryz.prog 55 #[.int .i64 (c.toNat:Int)] w fun e w'=>e=.returned (.bool (bu c))∧w=w':=by
 have hc:=c.toNat_lt;have hr:=qY ⟨c.toNat,hc⟩;simp at hr;rw[hr];have cw:=fun w=>ik (c.toNat:Int) w
 have ci:=fun w=>Tryz.strings_IndexByte ⟨#[40,41,60,62,91,93,123,125,47,37]⟩ (c.toNat:Int) w
 obtain⟨j,hj⟩:∃j,j=Lib.indexByte [40,41,60,62,91,93,123,125,47,37] c:=⟨_,rfl⟩;rw[←hj];have e8:UInt8.ofNat (c.toNat:Int).toNat=c:=by simp
 simp only[e8]at ci;rw[←hj]at ci;obtain⟨b,hb⟩:∃b,b=lC (c.toNat:Int):=⟨_,rfl⟩;rw[←hb]at cw⊢;obtain⟨x,hx⟩:∃x:Int,x=(c.toNat:Int):=⟨_,rfl⟩;have hx2:0≤x∧x≤255:=by omega
 rw[←hx]at cw ci⊢;clear hx hr hc hj hb e8;cases b
 all_goals
  go_enter Tryz.func55,Tryz.ntmps55;go_wp2_with (first|((first|(go_at_call 59;(with_reducible refine (cw _).mono ?_))|(go_at_call 84;(with_reducible refine (ci _).mono ?_)));rintro e w1 ⟨rfl,rfl⟩))
  all_goals go_ret
  all_goals refine⟨?_,rfl⟩
  all_goals simp_all
end Go.Proofs.YthffpbkndnhlfaaGreatDoor
namespace Go.Wk
open Go
def upd (x:Nat→Value) (i:Nat) (v:Value):Nat→Value:=fun j=>if j=i then v else x j
def aV (ops:Array Oper) (i:Nat):List Nat:=match ops[i]? with
 |none=>[]
 |some o=>(o.after.toList.filter fun e=>Region.binds .any e).map (·.on)
def each (p:Nat→Prop):Nat→Prop
 |0=>True
 |n+1=>each p n∧p n
theorem fh {p:Nat→Prop}:∀{n:Nat},each p n→∀i,i<n→p i
 |n+1,h,i,hi=>by
  rcases Nat.lt_or_ge i n with h'|h'
  ·exact fh h.1 i h'
  ·have:i=n:=by omega
   subst this;exact h.2
theorem ep (l:Array Bool) (i j:Nat) (b:Bool) (hi:i<l.size):(l.setIfInBounds i true).getD j b=if j=i then true else l.getD j b:=by
 simp only[Array.getD_eq_getD_getElem?,Array.getElem?_setIfInBounds];by_cases h:i=j
 ·subst h;simp[hi]
 ·simp[h,Ne.symm h]
theorem eU {ops:Array Oper}{listed:Array Bool}(back:((List.range ops.size).all fun i=>(aV ops i).all fun j=>decide (j<i))=true) (hs:listed.size=ops.size) (hr:Region.ready .any ops listed=[]) :
 ∀i,i<ops.size→listed.getD i false=true:=by
 intro i
 induction i using Nat.strongRecOn with
 |_ i ih=>
  intro hi;have hil:i<listed.size:=by omega
  rcases hb:listed.getD i true with _|_
  ·exfalso
   have:i∈Region.ready .any ops listed:=by
    rw[mem_ready];refine⟨hb,ops[i],by simp[hi],fun e he hbd=>?_⟩;have hm:e.on∈aV ops i:=by
     unfold aV;rw[Array.getElem?_eq_getElem hi];exact List.mem_map.2 ⟨e,List.mem_filter.2 ⟨by simpa using he,hbd⟩,rfl⟩
    have h1:=List.all_eq_true.1 (List.all_eq_true.1 back i (List.mem_range.2 hi)) _ hm;have h2:e.on<i:=of_decide_eq_true h1;exact ih _ h2 (by omega)
   rw[hr]at this;cases this
  ·simp only[Array.getD_eq_getD_getElem?,Array.getElem?_eq_getElem hil,Option.getD_some]at hb⊢;exact hb
theorem nA {P:Program}{ops:Array Oper}{Q:Exit→Act→World→Prop}(mk:(Nat→Value)→Act) {R:World→Prop}{Keeps:World→World→Prop}{Good:Nat→Value→World→Prop}
 (back:((List.range ops.size).all fun i=>(aV ops i).all fun j=>decide (j<i))=true)
 (mono:∀i v w w',Good i v w→Keeps w w'→Good i v w')
 (step:∀i,i<ops.size→∀x w,R w→(∀j∈aV ops i,Good j (x j) w)→wpOp P ops Q i (fun a' w'=>∃v,a'=mk (upd x i v)∧R w'∧Keeps w w'∧Good i v w') (mk x) w)
 (done:∀x w,R w→(∀i,i<ops.size→Good i (x i) w)→Q .normal (mk x) w) :
 ∀(fuel:Nat) (listed:Array Bool) (x:Nat→Value) (w:World),listed.toList.count false≤fuel→listed.size=ops.size→R w→(∀i,i<ops.size→listed.getD i false=true→Good i (x i) w)→
  wpAny P .any ops Q fuel listed (mk x) w:=by
 have fin:∀(listed:Array Bool) (x:Nat→Value) (w:World),listed.size=ops.size→R w→(∀i,i<ops.size→listed.getD i false=true→Good i (x i) w)→Region.ready .any ops listed=[]→Q .normal (mk x) w:=
  fun listed x w hs hR hG hr=>done x w hR fun i hi=>hG i hi (eU back hs hr i hi)
 intro fuel
 induction fuel with
 |zero=>
  intro listed x w hc hs hR hG;have hr:Region.ready .any ops listed=[]:=by
   apply List.eq_nil_iff_forall_not_mem.2
   intro i hi;obtain⟨h1,o,ho,_⟩:=mem_ready.1 hi;have hi':i<ops.size:=(Array.getElem?_eq_some_iff.1 ho).1;have hil:i<listed.size:=by omega
   have:false∈listed.toList:=by
    simp only[Array.getD_eq_getD_getElem?,Array.getElem?_eq_getElem hil,Option.getD_some]at h1;rw[←h1];simp
   have:=List.count_pos_iff.2 this;omega
  exact⟨hr,fin listed x w hs hR hG hr⟩
 |succ fuel ih=>
  intro listed x w hc hs hR hG;refine⟨fin listed x w hs hR hG,fun i hi=>?_⟩;obtain⟨h1,o,ho,hall⟩:=mem_ready.1 hi;have hi':i<ops.size:=(Array.getElem?_eq_some_iff.1 ho).1;have hil:i<listed.size:=by omega
  have hdep:∀j∈aV ops i,Good j (x j) w:=by
   intro j hj;have hji:j<i:=of_decide_eq_true (List.all_eq_true.1 (List.all_eq_true.1 back i (List.mem_range.2 hi')) _ hj);unfold aV at hj;rw[ho]at hj;obtain⟨e,he,rfl⟩:=List.mem_map.1 hj;obtain⟨he,hb⟩:=List.mem_filter.1 he;exact hG _ (by omega) (hall e (by simpa using he) hb)
  refine wpOp_mono ?_ (step i hi' x w hR hdep);rintro a' w' ⟨v,rfl,hR',hK,hg⟩;refine ih _ _ _ ?_ (by simpa using hs) hR' ?_
  ·have hf:listed.toList[i]'(by simpa using hil)=false:=by
    simp only[Array.getD_eq_getD_getElem?,Array.getElem?_eq_getElem hil,Option.getD_some]at h1
    simpa using h1
   rw[Array.toList_setIfInBounds,List.count_set (by simpa using hil)];have:0<listed.toList.count false:=List.count_pos_iff.2 (by rw[←hf];exact List.getElem_mem _);simp only[hf,beq_self_eq_true,if_true,Bool.true_beq,Bool.false_eq_true,if_false];omega
  ·intro j hj hl
   rw[ep _ _ _ _ hil]at hl;unfold upd;by_cases hji:j=i
   ·subst hji;simpa using hg
   ·rw[if_neg hji]at hl⊢
    exact mono _ _ _ _ (hG j hj hl) hK
theorem ie {P:Program}{ops:Array Oper}{Q:Exit→Act→World→Prop}{id:Nat}{a0:Act}{w0:World}(hm:P.follows .mixedOrders=true) (mk:(Nat→Value)→Act) (x0:Nat→Value) (h0:a0=mk x0)
 (R:World→Prop) (Keeps:World→World→Prop) (Good:Nat→Value→World→Prop)
 (back:((List.range ops.size).all fun i=>(aV ops i).all fun j=>decide (j<i))=true)
 (hR:R {w0 with drawn:=w0.drawn+1})
 (mono:∀i v w w',Good i v w→Keeps w w'→Good i v w')
 (step:each (fun i=>∀x w,R w→(∀j∈aV ops i,Good j (x j) w)→wpOp P ops Q i (fun a' w'=>∃v,a'=mk (upd x i v)∧R w'∧Keeps w w'∧Good i v w') (mk x) w) ops.size)
 (done:∀x w,R w→each (fun i=>Good i (x i) w) ops.size→Q .normal (mk x) w):(Code.region id ops true).wp P Q a0 w0:=by
 subst h0;refine wp_region_any hm (nA mk back mono (fh step) (fun x w hR hG=>done x w hR ?_) _ _ _ _ ?_ (by simp) hR ?_)
 ·generalize ops.size=n at hG
  induction n with
  |zero=>trivial
  |succ n ih=>exact⟨ih fun i hi=>hG i (by omega),hG n (by omega)⟩
 ·simp
 ·intro i hi hl
  simp[Array.getD_eq_getD_getElem?,hi]at hl
def All (G:Nat→Value→World→Prop) (x:Nat→Value) (w:World):List Nat→Prop
 |[]=>True
 |j :: js=>G j (x j) w∧All G x w js
theorem nO {G:Nat→Value→World→Prop}{x:Nat→Value}{w:World}:∀{js:List Nat},(∀j∈js,G j (x j) w)→All G x w js
 |[],_=>trivial
 |_ :: _,h=>⟨h _ (List.mem_cons_self ..),nO fun j hj=>h j (List.mem_cons_of_mem _ hj)⟩
def sd (P:Program) (ops:Array Oper) (Q:Exit→Act→World→Prop) (mk:(Nat→Value)→Act) (R:World→Prop) (Keeps:World→World→Prop) (G:Nat→Value→World→Prop) (i:Nat):Prop:=
 ∀x w,R w→(∀j∈aV ops i,G j (x j) w)→wpOp P ops Q i (fun a' w'=>∃v,a'=mk (upd x i v)∧R w'∧Keeps w w'∧G i v w') (mk x) w
theorem ab {P:Program}{ops:Array Oper}{Q:Exit→Act→World→Prop}{mk:(Nat→Value)→Act}{R:World→Prop}{Keeps:World→World→Prop}{G:Nat→Value→World→Prop}{i:Nat}{o:Oper}(js:List Nat)
 (ho:ops[i]?=some o) (hj:(js.all fun j=>(aV ops i).contains j)=true)
 (
  h:∀x w,R w→All G x w js→∀K:Act→World→Prop,(∀v w',R w'∧Keeps w w'∧G i v w'→K (mk (upd x i v)) w')→
  if Region.wanted o (yielded ops (mk x).tmps)=true then Oper.wp P o (mk x) w K Q else K ((mk x).put o.dst undef) w):sd P ops Q mk R Keeps G i:=by
 intro x w hR hd;unfold wpOp;simp only[ho];have h1:=h x w hR (nO fun j hj'=>hd j (List.contains_iff_mem.1 (List.all_eq_true.1 hj j hj'))) (fun a' w'=>∃v,a'=mk (upd x i v)∧R w'∧Keeps w w'∧G i v w') (fun v w' h=>⟨v,rfl,h.1,h.2.1,h.2.2⟩);split
 ·rename_i hw;rw[if_pos hw]at h1;exact .inl h1
 ·rename_i hw;rw[if_neg hw]at h1;exact h1
inductive Steps (p:Nat→Prop):Nat→Prop
 |nil:Steps p 0
 |cons (n:Nat) (h:p n) (t:Steps p n):Steps p (n+1)
theorem Steps.each {p:Nat→Prop}:∀{n:Nat},Steps p n→Wk.each p n
 |_,.nil=>trivial
 |_,.cons n h t=>⟨t.each,h⟩
def ai:List Value→List (Option Nat)→(Nat→Value)→List Value
 |v :: vs,some i :: ss,x=>x i :: ai vs ss x
 |v :: vs,none :: ss,x=>v :: ai vs ss x
 |vs,[],_=>vs
 |[],_,_=>[]
def mW:List Value→List (Option Nat)→Nat→Value
 |v :: vs,some i :: ss,j=>if j=i then v else mW vs ss j
 |_ :: vs,none :: ss,j=>mW vs ss j
 |_,_,_=>undef
theorem qe {P:Program}{ops:Array Oper}{Q:Exit→Act→World→Prop}{id:Nat}{tm:List Value}{df:List Deferred}{w0:World}(hm:P.follows .mixedOrders=true) (ss:List (Option Nat))
 (R:World→Prop) (Keeps:World→World→Prop) (G:Nat→Value→World→Prop)
 (h0:ai tm ss (mW tm ss)=tm)
 (back:((List.range ops.size).all fun i=>(aV ops i).all fun j=>decide (j<i))=true)
 (n:Nat) (hn:ops.size=n)
 (hR:R w0.drew)
 (mono:∀i v w w',G i v w→Keeps w w'→G i v w')
 (step:Steps (sd P ops Q (fun x=>{tmps:=(ai tm ss x).toArray,defers:=df}) R Keeps G) n)
 (done:∀x w,R w→(∀i,i<n→G i (x i) w)→Q .normal {tmps:=(ai tm ss x).toArray,defers:=df} w):(Code.region id ops true).wp P Q {tmps:=tm.toArray,defers:=df} w0:=by
 subst hn;exact ie hm (fun x=>{tmps:=(ai tm ss x).toArray,defers:=df}) (mW tm ss) (by rw[h0]) R Keeps G back hR mono step.each fun x w hR h=>done x w hR (fh h)
theorem nz {P:Program}{ops:Array Oper}{Q:Exit→Act→World→Prop}(listed:Array Bool) (a:Act) (w:World) (hl:∀i,i<ops.size→listed.getD i false=true) (hs:listed.size=ops.size) (hQ:Q .normal a w):∀fuel,wpAny P .any ops Q fuel listed a w:=by
 have hr:Region.ready .any ops listed=[]:=by
  apply List.eq_nil_iff_forall_not_mem.2
  intro i hi;obtain⟨h1,o,ho,_⟩:=mem_ready.1 hi;have hi':i<ops.size:=(Array.getElem?_eq_some_iff.1 ho).1;have hil:i<listed.size:=by omega
  have h2:=hl i hi';simp only[Array.getD_eq_getD_getElem?,Array.getElem?_eq_getElem hil,Option.getD_some]at h1 h2;rw[h1]at h2;cases h2
 intro fuel;cases fuel with
 |zero=>exact⟨hr,hQ⟩
 |succ fuel=>exact⟨fun _=>hQ,fun i hi=>by rw[hr]at hi;cases hi⟩
section
variable {P:Program}{ops:Array Oper}{Q:Exit→Act→World→Prop}
theorem ij {n:Nat}(back:((List.range ops.size).all fun i=>(aV ops i).all fun j=>decide (j<i))=true) (i j:Nat) (hi:i<ops.size) (hj:j∈aV ops i):j<i:=
 of_decide_eq_true (List.all_eq_true.1 (List.all_eq_true.1 back i (List.mem_range.2 hi)) _ hj)
theorem jt {listed:Array Bool}{i fuel:Nat}(hil:i<listed.size) (h1:listed.getD i true=false) (hc:listed.toList.count false≤fuel+1):(listed.setIfInBounds i true).toList.count false≤fuel:=by
 have hf:listed.toList[i]'(by simpa using hil)=false:=by
  simp only[Array.getD_eq_getD_getElem?,Array.getElem?_eq_getElem hil,Option.getD_some]at h1
  simpa using h1
 rw[Array.toList_setIfInBounds,List.count_set (by simpa using hil)];have:0<listed.toList.count false:=List.count_pos_iff.2 (by rw[←hf];exact List.getElem_mem _);simp only[hf,beq_self_eq_true,if_true,Bool.true_beq,Bool.false_eq_true,if_false];omega
theorem gz {listed:Array Bool}{i:Nat}(hil:i<listed.size) (hl:listed.getD i false=false) (hc:listed.toList.count false≤0):False:=by
 have:false∈listed.toList:=by
  simp only[Array.getD_eq_getD_getElem?,Array.getElem?_eq_getElem hil,Option.getD_some]at hl;rw[←hl];simp
 have:=List.count_pos_iff.2 this;omega
theorem f7 {listed:Array Bool}{i:Nat}(hi:i∈Region.ready .any ops listed):i<ops.size∧listed.getD i true=false∧∀j∈aV ops i,listed.getD j false=true:=by
 obtain⟨h1,o,ho,hall⟩:=mem_ready.1 hi;refine⟨(Array.getElem?_eq_some_iff.1 ho).1,h1,fun j hj=>?_⟩;unfold aV at hj;rw[ho]at hj;obtain⟨e,he,rfl⟩:=List.mem_map.1 hj;obtain⟨he,hb⟩:=List.mem_filter.1 he;exact hall e (by simpa using he) hb
theorem lE (n:Nat) (back:((List.range ops.size).all fun i=>(aV ops i).all fun j=>decide (j<i))=true)
 (chain:((List.range ops.size).all fun j=>Nat.ble j n || (aV ops j).contains (j - 1))=true) :
 ∀(l:List Oper) (k fuel:Nat) (listed:Array Bool) (a:Act) (w:World),n≤k→k+l.length=ops.size→(∀j,l[j]?=ops[k+j]?)→listed.size=ops.size→listed.toList.count false≤fuel→
  (∀i,i<ops.size→(listed.getD i false=true↔i<k))→wpList P ops Q l a w→wpAny P .any ops Q fuel listed a w:=by
 intro l
 induction l with
 |nil=>
  intro k fuel listed a w hn hk hl hs hc hL hw;exact nz listed a w (fun i hi=>(hL i hi).2 (by simp at hk;omega)) hs hw fuel
 |cons o l ih=>
  intro k fuel listed a w hn hk hl hs hc hL hw;simp only[List.length_cons]at hk;have hkn:k<ops.size:=by omega
  have hkf:listed.getD k false=false:=by
   cases h:listed.getD k false with
   |false=>rfl
   |true=>have:=(hL k hkn).1 h;omega
  have ho:ops[k]?=some o:=by have:=hl 0;simpa using this.symm
  cases fuel with
  |zero=>exact (gz (by omega) hkf hc).elim
  |succ fuel=>
   refine⟨fun hr=>absurd (eU back hs hr k hkn) (by rw[hkf];simp),fun i hi=>?_⟩;obtain⟨hi',h1,haft⟩:=f7 hi;have hif:listed.getD i false=false:=by
    have hil:i<listed.size:=by omega
    simp only[Array.getD_eq_getD_getElem?,Array.getElem?_eq_getElem hil,Option.getD_some]at h1⊢;exact h1
   have hik:i=k:=by
    have h2:¬i<k:=fun h=>by rw[(hL i hi').2 h]at hif;cases hif
    rcases Nat.lt_or_ge k i with h3|h3
    ·exfalso
     have hch:=List.all_eq_true.1 chain i (List.mem_range.2 hi');rw[Bool.or_eq_true]at hch;rcases hch with hch|hch
     ·have:=Nat.le_of_ble_eq_true hch;omega
     ·have:=haft _ (List.contains_iff_mem.1 hch)
      have:=(hL (i - 1) (by omega)).1 this;omega
    ·omega
   subst hik;have hnext:∀a' w',wpList P ops Q l a' w'→wpAny P .any ops Q fuel (listed.setIfInBounds i true) a' w':=fun a' w' h=>
    ih (i+1) fuel _ a' w' (by omega) (by omega) (fun j=>by have:=hl (j+1);rw[List.getElem?_cons_succ]at this;rw[this];congr 1;omega) (by simpa using hs) (jt (by omega) h1 hc)
     (
      fun q hq=>by
      rw[ep _ _ _ _ (by omega)];by_cases hqi:q=i
      ·subst hqi;simp
      ·rw[if_neg hqi,hL q hq];omega) h
   unfold wpOp;simp only[ho];unfold wpList at hw;split
   ·rename_i hwt
    rw[if_pos hwt]at hw;rcases hw with hw|hw
    ·exact .inl (Oper.wp_mono hnext hw)
    ·exact .inr hw
   ·rename_i hwt
    rw[if_neg hwt]at hw;exact hnext _ _ hw
theorem lD (mk:(Nat→Value)→Act) {R:World→Prop}{Keeps:World→World→Prop}{Good:Nat→Value→World→Prop}(n:Nat) (hn:n<ops.size) (l:List Oper) (hln:n+l.length=ops.size) (hl:∀j,l[j]?=ops[n+j]?)
 (back:((List.range ops.size).all fun i=>(aV ops i).all fun j=>decide (j<i))=true)
 (chain:((List.range ops.size).all fun j=>Nat.ble j n || (aV ops j).contains (j - 1))=true)
 (wit:List Nat) (cover:((List.range n).all fun i=>(aV ops (wit.getD i 0)).contains i && Nat.ble (wit.getD i 0) n)=true)
 (mono:∀i v w w',Good i v w→Keeps w w'→Good i v w')
 (step:∀i,i<n→∀x w,R w→(∀j∈aV ops i,Good j (x j) w)→wpOp P ops Q i (fun a' w'=>∃v,a'=mk (upd x i v)∧R w'∧Keeps w w'∧Good i v w') (mk x) w)
 (fin:∀x w,R w→(∀i,i<n→Good i (x i) w)→wpList P ops Q l (mk x) w) :
 ∀(fuel:Nat) (listed:Array Bool) (x:Nat→Value) (w:World),listed.toList.count false≤fuel→listed.size=ops.size→R w→(∀i,i<n→listed.getD i false=true→Good i (x i) w)→
  (∀i,n≤i→i<ops.size→listed.getD i false=false)→(∀i,i<ops.size→listed.getD i false=true→∀j∈aV ops i,listed.getD j false=true)→wpAny P .any ops Q fuel listed (mk x) w:=by
 intro fuel
 induction fuel with
 |zero=>
  intro listed x w hc hs hR hG hl0 hd;exact (gz (i:=n) (by omega) (hl0 n (Nat.le_refl _) hn) hc).elim
 |succ fuel ih=>
  intro listed x w hc hs hR hG hl0 hd;refine⟨fun hr=>absurd (eU back hs hr n hn) (by rw[hl0 n (Nat.le_refl _) hn];simp),fun i hi=>?_⟩;have hi0:=hi;obtain⟨hi',h1,haft⟩:=f7 hi;rcases Nat.lt_or_ge i n with hin|hin
  ·refine wpOp_mono ?_ (step i hin x w hR fun j hj=>hG j (by have:=ij (n:=0) back i j hi' hj;omega) (haft j hj))
   rintro a' w' ⟨v,rfl,hR',hK,hg⟩;refine ih _ _ _ (jt (by omega) h1 hc) (by simpa using hs) hR' ?_ ?_ ?_
   ·intro j hj hlj
    rw[ep _ _ _ _ (by omega)]at hlj;unfold upd;by_cases hji:j=i
    ·subst hji;simpa using hg
    ·rw[if_neg hji]at hlj⊢
     exact mono _ _ _ _ (hG j hj hlj) hK
   ·intro j hj hj2
    rw[ep _ _ _ _ (by omega),if_neg (by omega)];exact hl0 j hj hj2
   ·intro k hk hkl j hj
    rw[ep _ _ _ _ (by omega)]at hkl⊢;by_cases hji:j=i
    ·rw[if_pos hji]
    ·rw[if_neg hji]
     by_cases hki:k=i
     ·subst hki;exact haft j hj
     ·rw[if_neg hki]at hkl;exact hd k hk hkl j hj
  ·have hi2:i=n:=by
    rcases Nat.lt_or_ge n i with h3|h3
    ·exfalso
     have hch:=List.all_eq_true.1 chain i (List.mem_range.2 hi');rw[Bool.or_eq_true]at hch;rcases hch with hch|hch
     ·have:=Nat.le_of_ble_eq_true hch;omega
     ·have:=haft _ (List.contains_iff_mem.1 hch)
      rw[hl0 (i - 1) (by omega) (by omega)]at this;cases this
    ·omega
   subst hi2;have hothers:∀m k,k<i→i≤k+m→listed.getD k false=true:=by
    intro m
    induction m with
    |zero=>intro k hk hm;omega
    |succ m ihm=>
     intro k hk hm;have hcv:=List.all_eq_true.1 cover k (List.mem_range.2 hk);rw[Bool.and_eq_true]at hcv;obtain⟨j,hjj⟩:∃j,j=wit.getD k 0:=⟨_,rfl⟩;rw[←hjj]at hcv;have hjk:=List.contains_iff_mem.1 hcv.1;have hjn:=Nat.le_of_ble_eq_true hcv.2;have hlt:=ij (n:=0) back j k (by omega) hjk;by_cases hji:j=i
     ·subst hji;exact haft k hjk
     ·exact hd j (by omega) (ihm j (by omega) (by omega)) k hjk
   have htail:=fin x w hR fun k hk=>hG k hk (hothers i k hk (by omega))
   have hfin:=lE (P:=P) (Q:=Q) i back chain l i (fuel+1) listed (mk x) w (Nat.le_refl _) hln hl hs hc (fun q hq=>⟨fun h=>by
    rcases Nat.lt_or_ge q i with h'|h'
    ·exact h'
    ·have h2:=hl0 q h' hq;rw[h2]at h;exact absurd h (by simp)
    ,fun h=>hothers i q h (by omega)⟩) htail
   exact hfin.2 i hi0
end
theorem aL {P:Program}{ops:Array Oper}{Q:Exit→Act→World→Prop}{id:Nat}{tm:List Value}{df:List Deferred}{w0:World}(hm:P.follows .mixedOrders=true) (ss:List (Option Nat))
 (R:World→Prop) (Keeps:World→World→Prop) (G:Nat→Value→World→Prop)
 (h0:ai tm ss (mW tm ss)=tm)
 (back:((List.range ops.size).all fun i=>(aV ops i).all fun j=>decide (j<i))=true)
 (n:Nat) (l:List Oper) (hdr:ops.toList.drop n=l) (hn:n<ops.size)
 (chain:((List.range ops.size).all fun j=>Nat.ble j n || (aV ops j).contains (j - 1))=true)
 (wit:List Nat) (cover:((List.range n).all fun i=>(aV ops (wit.getD i 0)).contains i && Nat.ble (wit.getD i 0) n)=true)
 (hR:R w0.drew)
 (mono:∀i v w w',G i v w→Keeps w w'→G i v w')
 (step:Steps (sd P ops Q (fun x=>{tmps:=(ai tm ss x).toArray,defers:=df}) R Keeps G) n)
 (done:∀x w,R w→(∀i,i<n→G i (x i) w)→∀fr,fr=ai tm ss x→wpList P ops Q l {tmps:=fr.toArray,defers:=df} w) :
 (Code.region id ops true).wp P Q {tmps:=tm.toArray,defers:=df} w0:=by
 have e0:({tmps:=tm.toArray,defers:=df}:Act)=(fun x=>({tmps:=(ai tm ss x).toArray,defers:=df}:Act)) (mW tm ss):=by simp only[h0]
 rw[e0];refine wp_region_any hm (lD (fun x=>{tmps:=(ai tm ss x).toArray,defers:=df}) n hn l (by rw[←hdr];simp;omega) (fun j=>by rw[←hdr,List.getElem?_drop];simp) back chain wit cover mono (fun i hi=>fh step.each i hi) (fun x w hR hG=>done x w hR hG _ rfl) _ _ _ _ ?_ (by simp) hR ?_ ?_ ?_)
 ·simp
 ·intro i hi hl
  have:i<ops.size:=by omega
  simp[Array.getD_eq_getD_getElem?,this]at hl
 ·intro i hi hi2
  simp[Array.getD_eq_getD_getElem?,hi2]
 ·intro i hi hl
  simp[Array.getD_eq_getD_getElem?,hi]at hl
end Go.Wk
namespace Go.Proofs.YthffpbkndnhlfaaGreatDoor
open Go Go.RowKit Go.Wk
theorem iY (n:Nat) (h:n<16) (W:World):(Instr.slice 9 (.string ⟨#[48,49,50,51,52,53,54,55,56,57,97,98,99,100,101,102]⟩) (some (.int .u8 (n:Int))) (some (.int .u8 ((n:Int)+1))) none).run Tryz.prog W=.ok (.string ⟨#[eh n]⟩) W:=by
 have:n=0∨n=1∨n=2∨n=3∨n=4∨n=5∨n=6∨n=7∨n=8∨n=9∨n=10∨n=11∨n=12∨n=13∨n=14∨n=15:=by omega
 rcases this with rfl|rfl|rfl|rfl|rfl|rfl|rfl|rfl|rfl|rfl|rfl|rfl|rfl|rfl|rfl|rfl
 all_goals rfl
theorem bI (w:World) (a:UInt8) (t:TypeId):Byt (w.alloc (.cells #[.int .u8 (a.toNat:Int)] t)) (some ⟨w.heap.size,0,none⟩) [a]:=by
 refine⟨by unfold maxLen;simp,fun _=>⟨_,_,rfl,fun i hi=>?_⟩⟩;rw[bP]
 match i,hi with
 |0,_=>rfl
end Go.Proofs.YthffpbkndnhlfaaGreatDoor
namespace Go.Wk
open Go Go.RowKit
def Blk (w:World) (g:Nat) (t:TypeId) (cs:Array Value):Prop:=w.heap[g]?=some (.cells cs t (0,0))
section
variable {w w':World}{g:Nat}{t:TypeId}{cs:Array Value}
theorem Blk.lt (h:Blk w g t cs):g<w.heap.size:=by
 rcases Nat.lt_or_ge g w.heap.size with hlt|hge
 ·exact hlt
 ·unfold Blk at h;rw[Array.getElem?_eq_none hge]at h;cases h
theorem Blk.cell (h:Blk w g t cs) (i:Nat):w.cell? ⟨g,i,none⟩=cs[i]?:=cell_of_row w g i cs t (0,0) h
theorem Blk.frozen (h:Blk w g t cs) (i:Nat):w.frozen? ⟨g,i,none⟩=false:=by
 unfold Blk at h;simp[World.frozen?,h]
theorem Blk.b3 {z0 z1 z2:Value}(h:Blk w g t #[z0,z1,z2]):w.cell? ⟨g,0,none⟩=some z0∧w.cell? ⟨g,1,none⟩=some z1∧w.cell? ⟨g,2,none⟩=some z2∧w.frozen? ⟨g,0,none⟩=false∧w.frozen? ⟨g,1,none⟩=false∧w.frozen? ⟨g,2,none⟩=false:=⟨h.cell 0,h.cell 1,h.cell 2,h.frozen 0,h.frozen 1,h.frozen 2⟩
theorem Blk.b4 {z0 z1 z2 z3:Value}(h:Blk w g t #[z0,z1,z2,z3]):w.cell? ⟨g,0,none⟩=some z0∧w.cell? ⟨g,1,none⟩=some z1∧w.cell? ⟨g,2,none⟩=some z2∧w.cell? ⟨g,3,none⟩=some z3∧w.frozen? ⟨g,0,none⟩=false∧w.frozen? ⟨g,1,none⟩=false∧w.frozen? ⟨g,2,none⟩=false∧w.frozen? ⟨g,3,none⟩=false:=⟨h.cell 0,h.cell 1,h.cell 2,h.cell 3,h.frozen 0,h.frozen 1,h.frozen 2,h.frozen 3⟩
theorem Blk.b5 {z0 z1 z2 z3 z4:Value}(h:Blk w g t #[z0,z1,z2,z3,z4]):w.cell? ⟨g,0,none⟩=some z0∧w.cell? ⟨g,1,none⟩=some z1∧w.cell? ⟨g,2,none⟩=some z2∧w.cell? ⟨g,3,none⟩=some z3∧w.cell? ⟨g,4,none⟩=some z4∧w.frozen? ⟨g,0,none⟩=false∧w.frozen? ⟨g,1,none⟩=false∧w.frozen? ⟨g,2,none⟩=false∧w.frozen? ⟨g,3,none⟩=false∧w.frozen? ⟨g,4,none⟩=false:=⟨h.cell 0,h.cell 1,h.cell 2,h.cell 3,h.cell 4,h.frozen 0,h.frozen 1,h.frozen 2,h.frozen 3,h.frozen 4⟩
theorem Blk.b6 {z0 z1 z2 z3 z4 z5:Value}(h:Blk w g t #[z0,z1,z2,z3,z4,z5]):w.cell? ⟨g,0,none⟩=some z0∧w.cell? ⟨g,1,none⟩=some z1∧w.cell? ⟨g,2,none⟩=some z2∧w.cell? ⟨g,3,none⟩=some z3∧w.cell? ⟨g,4,none⟩=some z4∧w.cell? ⟨g,5,none⟩=some z5∧w.frozen? ⟨g,0,none⟩=false∧w.frozen? ⟨g,1,none⟩=false∧w.frozen? ⟨g,2,none⟩=false∧w.frozen? ⟨g,3,none⟩=false∧w.frozen? ⟨g,4,none⟩=false∧w.frozen? ⟨g,5,none⟩=false:=⟨h.cell 0,h.cell 1,h.cell 2,h.cell 3,h.cell 4,h.cell 5,h.frozen 0,h.frozen 1,h.frozen 2,h.frozen 3,h.frozen 4,h.frozen 5⟩
theorem Blk.new (w:World) (t:TypeId) (cs:Array Value):Blk (w.alloc (.cells cs t)) w.heap.size t cs:=heap_alloc_new w _
theorem bH (w:World) (t:TypeId) (cs:Array Value):∃w',w'=w.alloc (.cells cs t)∧Below w.heap.size w w':=⟨_,rfl,(Below.refl _ _).alloc (Nat.le_refl _) _⟩
theorem ak (w:World) (t:TypeId) (cs:Array Value):∃w',w'=w.alloc (.cells cs t)∧Below w.heap.size w w'∧Blk w' w.heap.size t cs:=⟨_,rfl,(Below.refl _ _).alloc (Nat.le_refl _) _,Blk.new w _ _⟩
theorem Blk.drew (h:Blk w g t cs):Blk w.drew g t cs:=h
theorem Blk.drewN (h:Blk w g t cs) (n:Nat):Blk (w.drewN n) g t cs:=h
theorem Blk.alloc (h:Blk w g t cs) (o:Obj):Blk (w.alloc o) g t cs:=(Below.heap_alloc w o g h.lt).trans h
theorem Blk.set_ (h:Blk w g t cs) (i:Nat) (u:Value):Blk (w.setCell ⟨g,i,none⟩ u) g t (cs.setIfInBounds i u):=by
 unfold Blk at h⊢;simp[World.setCell,Array.getElem?_modify,h]
theorem Blk.far (h:Blk w g t cs) {p:Addr}(hp:g≠p.block) (u:Value):Blk (w.setCell p u) g t cs:=(Below.heap_setCell w p u g hp).trans h
theorem Blk.below {B:Nat}(h:Blk w g t cs) (hb:Below B w w') (hg:g<B):Blk w' g t cs:=(hb.block g hg).trans h
theorem Blk.grown {row:Option Nat}(h:Blk w g t cs) (hb:w.grownBy w' row) (hg:some g≠row):Blk w' g t cs:=(hb.block g h.lt hg).trans h
end
end Go.Wk
namespace Go.Proofs.YthffpbkndnhlfaaGreatDoor
open Go Go.RowKit Go.Wk Go.Sort Go.Lib
theorem size_alloc (w:World) (o:Obj):(w.alloc o).heap.size=w.heap.size+1:=by show (w.heap.push _).size=_;simp
theorem sO {a b:ByteArray}(h:¬a.data.toList=b.data.toList):(a.toList == b.toList)=false:=by
 rw[ByteArray.toList_eq,ByteArray.toList_eq];simpa using h
end Go.Proofs.YthffpbkndnhlfaaGreatDoor
namespace Go.Fx
open Go Go.RowKit Go.Wk Go.Lib
theorem six (r:Nat) (h:r<100000):(decDigits (100000+r)).length=6:=by
 rw[decDigits_length];exact nDigits_unique 5 _ (by omega) (by omega)
def aU (bs:List UInt8) (p:Nat):Int:=match bs[p]? with|some b=>(b.toNat:Int)|none=> -1
theorem jZ {bs:List UInt8}{p:Nat}(h:p<bs.length):0≤aU bs p∧aU bs p≤255∧aU bs p=(bs[p].toNat:Int):=by
 have e:aU bs p=(bs[p].toNat:Int):=by unfold aU;rw[List.getElem?_eq_getElem h]
 have:=dK bs[p];rw[e];omega
theorem fN {bs:List UInt8}{p:Nat}(h:¬p<bs.length):aU bs p= -1:=by unfold aU;rw[List.getElem?_eq_none (by omega)]
def isD (b:UInt8):Bool:=decide (48≤b.toNat) && decide (b.toNat≤57)
def ae (bs:List UInt8) (p:Nat):List UInt8:=(bs.drop p).takeWhile isD
theorem tM (f:UInt8→Bool):∀(l:List UInt8) (k:Nat) (h:k<(l.takeWhile f).length),l[k]?=some (l.takeWhile f)[k]∧f (l.takeWhile f)[k]=true:=by
 intro l
 induction l with
 |nil=>intro k h;simp at h
 |cons x xs ih=>
  intro k h;by_cases hx:f x=true
  ·cases k with
   |zero=>simp[List.takeWhile_cons,hx]
   |succ k=>
    have h2:k<(xs.takeWhile f).length:=by simpa [List.takeWhile_cons,hx] using h
    have:=ih k h2
    simpa [List.takeWhile_cons,hx] using this
  ·simp[List.takeWhile_cons,hx]at h
theorem pT (f:UInt8→Bool):∀(l:List UInt8) (b:UInt8),l[(l.takeWhile f).length]?=some b→f b=false:=by
 intro l
 induction l with
 |nil=>intro b h;simp at h
 |cons x xs ih=>
  intro b h;by_cases hx:f x=true
  ·exact ih b (by simpa [List.takeWhile_cons,hx] using h)
  ·simp[List.takeWhile_cons,hx]at h
   subst h;simpa using hx
theorem dL {bs:List UInt8}{p k:Nat}(h:k<(ae bs p).length):bs[p+k]?=some (ae bs p)[k]∧isD (ae bs p)[k]=true:=by
 have:=tM isD (bs.drop p) k h;rw[List.getElem?_drop]at this;exact this
theorem oh {bs:List UInt8}{p:Nat}(b:UInt8) (h:bs[p+(ae bs p).length]?=some b):isD b=false:=by
 refine pT isD (bs.drop p) b ?_;rw[List.getElem?_drop];exact h
theorem mf {bs:List UInt8}{p k:Nat}(h:k<(ae bs p).length):aU bs (p+k)=((ae bs p)[k].toNat:Int)∧48≤aU bs (p+k)∧aU bs (p+k)≤57∧p+k<bs.length:=by
 obtain⟨h1,h2⟩:=dL h;have e:aU bs (p+k)=((ae bs p)[k].toNat:Int):=by unfold aU;rw[h1]
 have hl:=(List.getElem?_eq_some_iff.1 h1).1;simp[isD]at h2;rw[e];omega
theorem ka (bs:List UInt8) (p:Nat):aU bs (p+(ae bs p).length)<48∨57<aU bs (p+(ae bs p).length):=by
 unfold aU;cases h:bs[p+(ae bs p).length]? with
 |none=>left;simp
 |some b=>
  have:=oh b h;simp[isD]at this;simp;omega
def eS (s:Nat×Bool) (b:UInt8):Nat×Bool:=if s.1*10+(b.toNat - 48) > 2147483647 then (2147483647,false) else (s.1*10+(b.toNat - 48),s.2)
def aA (l:List UInt8):Nat×Bool:=l.foldl eS (0,true)
theorem fK (l:List UInt8) (k:Nat) (h:k<l.length):aA (l.take (k+1))=eS (aA (l.take k)) l[k]:=by
 unfold aA;rw[List.take_succ_eq_append_getElem h,List.foldl_append];rfl
theorem cy:∀(l:List UInt8) (s:Nat×Bool),s.1≤2147483647→(l.foldl eS s).1≤2147483647:=by
 intro l
 induction l with
 |nil=>intro s h;exact h
 |cons b l ih=>
  intro s h;refine ih _ ?_;unfold eS;split <;> simp <;> omega
def aX (l:List UInt8):Nat:=l.foldl (fun s b=>s*10+(b.toNat - 48)) 0
theorem iL (l:List UInt8) (b:UInt8):aX (l++[b])=aX l*10+(b.toNat - 48):=by unfold aX;rw[List.foldl_append];rfl
theorem pW:∀(l:List UInt8) (s:Nat),(∀b∈l,isD b=true)→l.foldl (fun s b=>s*10+(b.toNat - 48)) s+1≤(s+1)*10 ^ l.length:=by
 intro l
 induction l with
 |nil=>intro s _;simp
 |cons b l ih=>
  intro s h;have h1:=ih (s*10+(b.toNat - 48)) fun x hx=>h x (List.mem_cons_of_mem _ hx)
  have h2:=h b (List.mem_cons_self ..);simp[isD]at h2;rw[List.foldl_cons,List.length_cons,Nat.pow_succ,Nat.mul_comm (10 ^ l.length) 10,←Nat.mul_assoc];refine Nat.le_trans h1 (Nat.mul_le_mul_right _ ?_);omega
theorem fA (l:List UInt8) (h:∀b∈l,isD b=true):aX l<10 ^ l.length:=by
 have:=pW l 0 h;unfold aX;omega
theorem pX (l:List UInt8) (k:Nat) (h:k<l.length):(k<5→aX ((l.take (k+1)).take 5)=aX ((l.take k).take 5)*10+(l[k].toNat - 48))∧(5≤k→aX ((l.take (k+1)).take 5)=aX ((l.take k).take 5)):=by
 constructor
 ·intro h5
  rw[List.take_take,List.take_take,show min 5 (k+1)=k+1 by omega,show min 5 k=k by omega,List.take_succ_eq_append_getElem h,iL]
 ·intro h5
  rw[List.take_take,List.take_take]
  congr 2;omega
def bp (l:List UInt8):Nat:=aX (l.take 5)*10 ^ (5 - l.length)
theorem dI {bs:List UInt8}{p:Nat}:∀b∈ae bs p,isD b=true:=by
 intro b hb;obtain⟨k,hk,rfl⟩:=List.getElem_of_mem hb;exact (dL hk).2
def sgn (bs:List UInt8):Nat×Bool:=if bs[0]?=some 43 then (1,false) else if bs[0]?=some 45 then (1,true) else (0,false)
def bh (b:Bool):Int:=if b then -1 else 1
def ao (bs:List UInt8):Int×Bool×Int:=
 if bs[(sgn bs).1+(ae bs (sgn bs).1).length]?=some 46 then
  if (sgn bs).1+(ae bs (sgn bs).1).length+1+(ae bs ((sgn bs).1+(ae bs (sgn bs).1).length+1)).length<bs.length∨(ae bs (sgn bs).1).length+(ae bs ((sgn bs).1+(ae bs (sgn bs).1).length+1)).length=0 then (0,false,4)
  else if (aA (ae bs (sgn bs).1)).2 then (bh (sgn bs).2*(((aA (ae bs (sgn bs).1)).1:Int)*100000+(bp (ae bs ((sgn bs).1+(ae bs (sgn bs).1).length+1)):Int)),false,0) else (0,false,5)
 else
  if (sgn bs).1+(ae bs (sgn bs).1).length<bs.length∨(ae bs (sgn bs).1).length=0 then (0,false,4)
  else if (aA (ae bs (sgn bs).1)).2 then (bh (sgn bs).2*((aA (ae bs (sgn bs).1)).1:Int),true,0) else (0,false,5)
def aW (bs:List UInt8) (p:Nat) (neg:Bool):Int×Bool×Int:=
 if bs[p+(ae bs p).length]?=some 46 then
  if p+(ae bs p).length+1+(ae bs (p+(ae bs p).length+1)).length<bs.length∨(ae bs p).length+(ae bs (p+(ae bs p).length+1)).length=0 then (0,false,4)
  else if (aA (ae bs p)).2 then (bh neg*(((aA (ae bs p)).1:Int)*100000+(bp (ae bs (p+(ae bs p).length+1)):Int)),false,0) else (0,false,5)
 else
  if p+(ae bs p).length<bs.length∨(ae bs p).length=0 then (0,false,4)
  else if (aA (ae bs p)).2 then (bh neg*((aA (ae bs p)).1:Int),true,0) else (0,false,5)
theorem bX (bs:List UInt8):ao bs=aW bs (sgn bs).1 (sgn bs).2:=rfl
theorem eo (bs:List UInt8) (p:Nat):bp (ae bs p)≤99999:=by
 have h1:=fA ((ae bs p).take 5) fun b hb=>dI b (List.mem_of_mem_take hb)
 unfold bp;rw[List.length_take]at h1;have h2:aX ((ae bs p).take 5)*10 ^ (5 - (ae bs p).length)<10 ^ (min 5 (ae bs p).length)*10 ^ (5 - (ae bs p).length):=Nat.mul_lt_mul_of_pos_right h1 (Nat.pow_pos (by omega));rw[←Nat.pow_add]at h2;have h3:10 ^ (min 5 (ae bs p).length+(5 - (ae bs p).length))=10 ^ 5:=by congr 1;omega
 omega
theorem dz (bs:List UInt8) (p:Nat):(ae bs p).length≤bs.length:=by
 have:(ae bs p).length≤(bs.drop p).length:=(List.takeWhile_sublist _).length_le;rw[List.length_drop]at this;omega
theorem tc (ds post:List UInt8) (h:∀b∈ds,isD b=true) (hp:∀b,post[0]?=some b→isD b=false):(ds++post).takeWhile isD=ds:=by
 induction ds with
 |nil=>
  cases post with
  |nil=>rfl
  |cons x xs=>simp[List.takeWhile_cons,hp x rfl]
 |cons x xs ih=>
  rw[List.cons_append,List.takeWhile_cons,if_pos (h x (List.mem_cons_self ..)),ih fun b hb=>h b (List.mem_cons_of_mem _ hb)]
theorem lU (d:Nat) (h:d<10):isD (UInt8.ofNat (48+d))=true∧(UInt8.ofNat (48+d)).toNat - 48=d:=by
 have:(UInt8.ofNat (48+d)).toNat=48+d:=UInt8.toNat_ofNat_of_lt' (by show 48+d<256;omega);unfold isD;rw[this];simp;omega
theorem fe (u:Nat):∀b∈decDigits u,isD b=true:=by
 induction u using Nat.strongRecOn with
 |_ u ih=>
  intro b hb;rw[decDigits]at hb;split at hb
  ·rename_i h
   rw[List.mem_singleton]at hb;subst hb;exact (lU u h).1
  ·rename_i h
   rcases List.mem_append.1 hb with hb|hb
   ·exact ih (u / 10) (by omega) b hb
   ·rw[List.mem_singleton]at hb;subst hb
    exact (lU (u % 10) (by omega)).1
theorem lS (u:Nat):0<(decDigits u).length:=by
 rw[decDigits];split <;> simp
theorem pU (f:UInt8→Bool):∀(l:List UInt8) (b:UInt8),b∈l.takeWhile f→f b=true:=by
 intro l
 induction l with
 |nil=>intro b h;simp at h
 |cons x xs ih=>
  intro b h;by_cases hx:f x=true
  ·rw[List.takeWhile_cons,if_pos hx]at h
   rcases List.mem_cons.1 h with rfl|h
   ·exact hx
   ·exact ih b h
  ·simp[List.takeWhile_cons,hx]at h
theorem lA (l:List UInt8):∃z:List UInt8,l=trimRightB l 48++z∧∀b∈z,b=48:=by
 refine⟨(l.reverse.takeWhile (·== 48)).reverse,?_,fun b hb=>?_⟩
 ·unfold trimRightB
  rw[←List.reverse_append,List.takeWhile_append_dropWhile,List.reverse_reverse]
 ·rw[List.mem_reverse]at hb
  have:=pU (·== 48) _ b hb
  simpa using this
theorem kT (r:Nat) (h:r<100000):∃z:List UInt8,(decDigits (100000+r)).drop 1=cU r++z∧(∀b∈z,b=48)∧1≤(cU r).length∧(cU r).length+z.length=5:=by
 have h6:=six r h;generalize hp:(decDigits (100000+r)).drop 1=p;have hl:p.length=5:=by rw[←hp,List.length_drop,h6]
 obtain⟨z,hz,hz2⟩:=lA (p.drop 1);have hf:cU r=p.take 1++trimRightB (p.drop 1) 48:=by unfold cU;rw[hp]
 have e:p=cU r++z:=by
  rw[hf,List.append_assoc,←hz,List.take_append_drop]
 refine⟨z,e,hz2,?_,?_⟩
 ·rw[hf,List.length_append,List.length_take];omega
 ·rw[←List.length_append,←e,hl]
theorem ot (r:Nat) (h:r<100000):∀b∈cU r,isD b=true:=by
 obtain⟨z,e,_⟩:=kT r h;intro b hb;exact fe (100000+r) b (List.mem_of_mem_drop (i:=1) (by rw[e];exact List.mem_append_left _ hb))
def isP (b:UInt8):Bool:=b == 46
theorem pV (R:List UInt8):∃rest,R=R.takeWhile isD++rest∧∀b,rest[0]?=some b→isD b=false:=by
 refine⟨R.dropWhile isD,(List.takeWhile_append_dropWhile ..).symm,fun b h=>?_⟩;refine pT isD R b ?_;have e:R[(R.takeWhile isD).length]?=(R.takeWhile isD++R.dropWhile isD)[(R.takeWhile isD).length]?:=by rw[List.takeWhile_append_dropWhile]
 rw[e,List.getElem?_append_right (by omega),Nat.sub_self];exact h
theorem fT (R:List UInt8):∀b∈R.takeWhile isD,isD b=true:=fun b h=>pU isD R b h
theorem eV (D:List UInt8) (h:∀b∈D,isD b=true):D.countP isP=0∧D.countP isD=D.length:=by
 refine⟨List.countP_eq_zero.2 fun b hb=>?_,List.countP_eq_length.2 h⟩;have:=h b hb;intro e;have e2:b=46:=by simpa [isP] using e
 subst e2;exact absurd this (by decide)
theorem jX (bs:List UInt8) (p:Nat) (hp:p≤bs.length):∃D rest,bs.drop p=D++rest∧ae bs p=D∧(∀b∈D,isD b=true)∧(∀b,rest[0]?=some b→isD b=false)∧bs.length=p+(D.length+rest.length)∧(∀k,bs[p+D.length+k]?=rest[k]?)∧(∀k,ae bs (p+D.length+k)=(rest.drop k).takeWhile isD):=by
 obtain⟨rest,h1,h2⟩:=pV (bs.drop p);refine⟨ae bs p,rest,h1,rfl,fT _,h2,?_,fun k=>?_,fun k=>?_⟩
 ·have:=congrArg List.length h1
  rw[List.length_drop,List.length_append]at this;unfold ae;omega
 ·have e:bs[p+(ae bs p).length+k]?=(bs.drop p)[(ae bs p).length+k]?:=by rw[List.getElem?_drop];congr 1;omega
  rw[e];have h1':bs.drop p=ae bs p++rest:=h1;rw[h1',List.getElem?_append_right (by omega)]
  congr 1;omega
 ·have e:bs.drop (p+(ae bs p).length+k)=(bs.drop p).drop ((ae bs p).length+k):=by rw[List.drop_drop];congr 1;omega
  unfold ae;unfold ae at e;rw[e];have h1':bs.drop p=ae bs p++rest:=h1;have:(bs.drop p).drop ((ae bs p).length+k)=rest.drop k:=by
   rw[h1',List.drop_append];have:(ae bs p).drop ((ae bs p).length+k)=[]:=List.drop_eq_nil_of_le (by omega);rw[this];simp
  unfold ae at this;rw[this]
theorem fL (bs:List UInt8) (p:Nat) (neg:Bool) (hp:p≤bs.length) (b:UInt8) (hb:b∈bs.drop p) (h1:isD b=false) (h2:isP b=false):aW bs p neg=(0,false,4):=by
 obtain⟨D,rest,e,hd,hD,hr,hl,hat,hdr⟩:=jX bs p hp;unfold aW;rw[hd];have hbr:b∈rest:=by
  rw[e]at hb;rcases List.mem_append.1 hb with h|h
  ·rw[hD b h]at h1;cases h1
  ·exact h
 match rest,hbr with
 |c :: r,hbr=>
  have h0:=hat 0;rw[Nat.add_zero]at h0;rw[h0];by_cases hc:c=46
  ·subst hc
   have hbr2:b∈r:=by
    rcases List.mem_cons.1 hbr with h|h
    ·subst h;exact absurd h2 (by decide)
    ·exact h
   rw[show (46 :: r:List UInt8)[0]?=some 46 from rfl,if_pos rfl,if_pos]
   left
   rw[hdr 1,hl];show _+((r.takeWhile isD).length)<p+(D.length+(r.length+1))
   have hne:(r.takeWhile isD).length≠r.length:=by
    intro he;have h3:r.takeWhile isD=r:=(List.takeWhile_prefix _).eq_of_length he;rw[←h3]at hbr2;rw[fT _ _ hbr2]at h1;cases h1
   have:=(List.takeWhile_sublist (p:=isD) (l:=r)).length_le;omega
  ·rw[show (c :: r:List UInt8)[0]?=some c from rfl,if_neg (by simpa using hc),if_pos]
   left
   rw[hl,List.length_cons];omega
theorem fM (bs:List UInt8) (p:Nat) (neg:Bool) (hp:p≤bs.length) (hall:∀b∈bs.drop p,isD b=true∨isP b=true) :
 (1<(bs.drop p).countP isP∨(bs.drop p).countP isD=0→aW bs p neg=(0,false,4))∧
 (
  ¬(1<(bs.drop p).countP isP∨(bs.drop p).countP isD=0)→
  (p+(ae bs p).length<bs.length→bs[p+(ae bs p).length]?=some 46)∧
  ((aA (ae bs p)).2=false→aW bs p neg=(0,false,5))∧
  ((aA (ae bs p)).2=true→(bs.drop p).countP isP=0→p+(ae bs p).length=bs.length∧aW bs p neg=(bh neg*((aA (ae bs p)).1:Int),true,0))∧
  (
   (
   aA (ae bs p)).2=true→¬(bs.drop p).countP isP=0→p+(ae bs p).length<bs.length∧p+(ae bs p).length+1+(ae bs (p+(ae bs p).length+1)).length=bs.length∧
   aW bs p neg=(bh neg*(((aA (ae bs p)).1:Int)*100000+(bp (ae bs (p+(ae bs p).length+1)):Int)),false,0))):=by
 obtain⟨D,rest,e,hd,hD,hr,hl,hat,hdr⟩:=jX bs p hp;have hcD:=eV D hD;rw[e,List.countP_append,List.countP_append,hcD.1,hcD.2,hd];unfold aW;rw[hd];have h0:=hat 0;rw[Nat.add_zero]at h0;rw[h0,hdr 1,hl];rw[e]at hall
 match rest,hr with
 |[],_=>
  simp;refine⟨fun h h2=>absurd h h2,fun h=>⟨fun h2=>?_,fun h2=>?_⟩⟩
  ·rw[if_neg h,h2];simp
  ·rw[if_neg h,h2];simp
 |c :: r,hr=>
  have hc:c=46:=by
   have h3:=hall c (by simp);rw[hr c rfl]at h3
   simpa [isP] using h3
  subst hc;have h5:(46 :: r).countP isP=r.countP isP+1:=by rw[List.countP_cons];rfl
  have h6:(46 :: r).countP isD=r.countP isD:=by rw[List.countP_cons];rfl
  rw[h5,h6,show (46 :: r:List UInt8)[0]?=some 46 from rfl,List.length_cons,show (46 :: r:List UInt8).drop 1=r from rfl];have hle:=(List.takeWhile_sublist (p:=isD) (l:=r)).length_le;by_cases hpt:r.countP isP=0
  ·have hrd:∀b∈r,isD b=true:=by
    intro b hb;rcases hall b (by simp[hb]) with h|h
    ·exact h
    ·exact absurd h (List.countP_eq_zero.1 hpt b hb)
   have hrt:r.takeWhile isD=r:=by have:=tc r [] hrd (fun b h=>by simp at h);rwa [List.append_nil]at this
   have hcr:=(eV r hrd).2;rw[hrt,hcr,hpt];refine⟨fun h=>by rw[if_pos rfl,if_pos (by omega)],fun h=>⟨fun _=>rfl,fun h2=>?_,fun _ h2=>by omega,fun h2 _=>⟨by omega,by omega,?_⟩⟩⟩
   ·rw[if_pos rfl,if_neg (by omega),h2,if_neg (by simp)]
   ·rw[if_pos rfl,if_neg (by omega),h2,if_pos rfl]
  ·have hlt:(r.takeWhile isD).length<r.length:=by
    refine Nat.lt_of_le_of_ne hle fun he=>hpt ?_
    have h3:r.takeWhile isD=r:=(List.takeWhile_prefix _).eq_of_length he;exact (eV r (by rw[←h3];exact fT _)).1
   refine⟨fun _=>by rw[if_pos rfl,if_pos (by omega)],fun h=>absurd (by omega) h⟩
theorem mV:∀(l:List UInt8) (s:Nat×Bool),s.2=false→(l.foldl eS s).2=false:=by
 intro l
 induction l with
 |nil=>intro s h;exact h
 |cons b l ih=>
  intro s h;refine ih _ ?_;unfold eS;split
  ·rfl
  ·exact h
theorem gN (l:List UInt8) (k:Nat) (h:k<l.length) (ht:(aA (l.take k)).1*10+(l[k].toNat - 48) > 2147483647):(aA l).2=false:=by
 have e:l=l.take (k+1)++l.drop (k+1):=(List.take_append_drop _ _).symm;have h1:(aA (l.take (k+1))).2=false:=by rw[fK l k h];unfold eS;rw[if_pos ht]
 unfold aA at h1⊢;rw[e,List.foldl_append];exact mV _ _ h1
theorem lc (l:List UInt8) (k:Nat) (h:k<l.length) (hf:(aA (l.take k)).2=true) (ht:¬(aA (l.take k)).1*10+(l[k].toNat - 48) > 2147483647):aA (l.take (k+1))=((aA (l.take k)).1*10+(l[k].toNat - 48),true):=by
 rw[fK l k h];unfold eS;rw[if_neg ht,hf]
theorem iX (l:List UInt8) (k:Nat):(∀h:k<l.length,aX (l.take (k+1))*10 ^ (k+1 - l.length)=10*(aX (l.take k)*10 ^ (k - l.length))+(l[k].toNat - 48))∧(¬k<l.length→aX (l.take (k+1))*10 ^ (k+1 - l.length)=10*(aX (l.take k)*10 ^ (k - l.length))):=by
 constructor
 ·intro h
  rw[List.take_succ_eq_append_getElem h,iL,show k+1 - l.length=0 by omega,show k - l.length=0 by omega];omega
 ·intro h
  rw[List.take_of_length_le (by omega),List.take_of_length_le (by omega),show k+1 - l.length=(k - l.length)+1 by omega,Nat.pow_succ];rw[←Nat.mul_assoc,Nat.mul_comm 10]
theorem iW (l:List UInt8) (h:∀b∈l,isD b=true) (k:Nat):aX (l.take k)*10 ^ (k - l.length)<10 ^ k:=by
 have h1:=fA (l.take k) fun b hb=>h b (List.mem_of_mem_take hb)
 rw[List.length_take]at h1;have h2:aX (l.take k)*10 ^ (k - l.length)<10 ^ (min k l.length)*10 ^ (k - l.length):=Nat.mul_lt_mul_of_pos_right h1 (Nat.pow_pos (by omega));rw[←Nat.pow_add,show min k l.length+(k - l.length)=k by omega]at h2;exact h2
end Go.Fx
namespace Go.Proofs.YthffpbkndnhlfaaGreatDoor
open Go Go.RowKit Go.Wk Go.Fx
structure Save (L:Nat) (w w':World):Prop where
 os:w'.os=w.os
 tape:w'.tape=w.tape
 output:w'.output=w.output
 size:w.heap.size≤w'.heap.size
 block:∀k,k<w.heap.size→k≠L→w'.heap[k]?=w.heap[k]?
theorem Save.refl (L:Nat) (w:World):Save L w w:=⟨rfl,rfl,rfl,Nat.le_refl _,fun _ _ _=>rfl⟩
theorem Save.trans {L:Nat}{a b c:World}(h:Save L a b) (k:Save L b c):Save L a c:=
 ⟨k.os.trans h.os,k.tape.trans h.tape,k.output.trans h.output,Nat.le_trans h.size k.size,fun j hj hn=>(k.block j (Nat.lt_of_lt_of_le hj h.size) hn).trans (h.block j hj hn)⟩
theorem Save.drawn {L:Nat}{a b:World}(h:Save L a b) (n:Nat):Save L a (b.drewN n):=⟨h.os,h.tape,h.output,h.size,h.block⟩
theorem Save.store {L:Nat}{a b:World}(h:Save L a b) (o:Nat) (u:Value):Save L a (b.setCell ⟨L,o,none⟩ u):=
 h.trans ⟨rfl,rfl,rfl,by simp[World.setCell],fun k _ hn=>Below.heap_setCell _ _ _ _ hn⟩
theorem Save.cell {L:Nat}{a b:World}(h:Save L a b) {p:Addr}(hn:p.block≠L) (hp:p.block<a.heap.size):b.cell? p=a.cell? p:=World.cell?_of_block (w:=a) (h.block p.block hp hn)
theorem Save.of_below {L:Nat}{a b:World}(h:Below a.heap.size a b):Save L a b:=⟨h.os,h.tape,h.output,h.size,fun k hk _=>h.block k hk⟩
theorem Save.below {L B:Nat}{a b:World}(h:Save L a b) (hL:B≤L) (hB:B≤a.heap.size):Below B a b:=⟨h.os,h.tape,h.output,h.size,fun k hk=>h.block k (by omega) (by omega)⟩
theorem Save.byt {L:Nat}{a b:World}{A:Option Addr}{bs:List UInt8}(h:Save L a b) (hn:0<bs.length→∀x,A=some x→x.block≠L) (hb:Byt a A bs):Byt b A bs:=by
 refine⟨hb.1,fun h0=>?_⟩;obtain⟨g,o,e,hc⟩:=hb.2 h0;refine⟨g,o,e,fun i hi=>?_⟩;rw[h.cell (p:=⟨g,o+i,none⟩) (show g≠L from hn h0 _ e) (ac (hc i hi))];exact hc i hi
structure Cur (w0 w:World) (L:Nat) (A:Option Addr) (c:Nat) (bs:List UInt8) (at':Nat):Prop where
 ne:0<bs.length→∀x,A=some x→x.block≠L
 bel:Save L w0 w
 cb:w.cell? ⟨L,0,none⟩=some (.slice A bs.length c)
 ca:w.cell? ⟨L,1,none⟩=some (.int .i64 (at':Nat))
 fr:w.frozen? ⟨L,1,none⟩=false
 byt:Byt w0 A bs
 le:at'≤bs.length
 small:bs.length≤1000000000
theorem Cur.drawn {w0 w:World}{L:Nat}{A:Option Addr}{c:Nat}{bs:List UInt8}{p:Nat}(h:Cur w0 w L A c bs p) (n:Nat):Cur w0 (w.drewN n) L A c bs p:=
 ⟨h.ne,h.bel.drawn n,h.cb,h.ca,h.fr,h.byt,h.le,h.small⟩
theorem Cur.go {w0 w:World}{L:Nat}{A:Option Addr}{c:Nat}{bs:List UInt8}{p:Nat}(h:Cur w0 w L A c bs p) (q:Nat) (hq:q≤bs.length):Cur w0 (w.setCell ⟨L,1,none⟩ (.int .i64 (q:Nat))) L A c bs q:=by
 refine⟨h.ne,h.bel.store _ _,?_,World.cell?_setCell_same _ _ _ h.ca,?_,h.byt,hq,h.small⟩
 ·rw[World.cell?_setCell_other _ _ _ _ (by intro e;cases e)];exact h.cb
 ·simp[h.fr]
theorem Cur.here {w0 w:World}{L:Nat}{A:Option Addr}{c:Nat}{bs:List UInt8}{p:Nat}(h:Cur w0 w L A c bs p):Cur w w L A c bs p:=
 ⟨h.ne,Save.refl _ _,h.cb,h.ca,h.fr,h.bel.byt h.ne h.byt,h.le,h.small⟩
theorem dH {w0 w:World}{L:Nat}{A:Option Addr}{c:Nat}{bs:List UInt8}{p:Nat}(h:Cur w0 w L A c bs p) :
 Calls Tryz.prog 56 #[.pointer (some ⟨L,0,none⟩),.int .i64 0] w fun e w'=>e=.returned (.int .i64 (aU bs p))∧Cur w0 w' L A c bs p:=by
 have H:=hi_ h;obtain⟨h1,h2,h3,h4,h5,h6,h7,h8⟩:=h;have hS:=hi_ (show aU bs p=match bs[p]? with|some b=>(b.toNat:Int)|none=> -1 from rfl);generalize aU bs p=S at *;by_cases hlt:p<bs.length
 ·obtain⟨b,o,rfl,hc⟩:=h6.2 (by omega)
  have hck:=(h2.cell (p:=⟨b,o+p,none⟩) (show b≠L from h1 (by omega) ⟨b,o,none⟩ rfl) (ac (hc p hlt))).trans (hc p hlt);have hS2:=hi_ (show S=(bs[p].toNat:Int) by rw[hS.out,List.getElem?_eq_getElem hlt]);generalize bs[p]=x at *;clear hc h6 h2 h1;go_enter Tryz.func56,Tryz.ntmps56;go_wp2
  ·go_quiet (fail)
   go_wp2
   go_ret
   have hxw:wrap64 (x.toNat:Int)=(x.toNat:Int):=by have:=dK x;unfold wrap64;omega
   exact⟨by rw[hS2.out];exact congrArg (fun z=>Ending.returned (.int .i64 z)) hxw,H.out.drawn _⟩
 ·have hS2:=hi_ (show S= -1 by rw[hS.out,List.getElem?_eq_none (by omega)])
  clear h6 h2 h1;go_enter Tryz.func56,Tryz.ntmps56;go_wp2
  go_ret
  exact⟨by rw[hS2.out];rfl,H.out⟩
theorem fd {w0 w:World}{L:Nat}{A:Option Addr}{c:Nat}{bs:List UInt8}{p:Nat}(h:Cur w0 w L A c bs p) :
 Calls Tryz.prog 60 #[.pointer (some ⟨L,0,none⟩)] w fun e w'=>e=.returned (.int .i64 (aU bs p))∧Cur w0 w' L A c bs (if p<bs.length then p+1 else p):=by
 have hk:=dH h;by_cases hlt:p<bs.length
 ·have hs:=jZ hlt
  rw[if_pos hlt];have hs0:=hs.1;generalize aU bs p=S at *;have hsm:=h.small;clear h hs;go_enter Tryz.func60,Tryz.ntmps60;go_wp2_with (go_at_call 56;(with_reducible refine hk.mono ?_);rintro e w1 ⟨rfl,h1⟩;have hca:=h1.ca;have hfr:=h1.fr;replace h1:=hi_ h1)
  go_ret
  have h2:=h1.out.go (p+1) hlt;rw[show ((p+1:Nat):Int)=(p:Int)+1 by omega]at h2;exact⟨rfl,h2⟩
 ·have hs:=fN hlt
  rw[if_neg hlt];rw[hs]at hk⊢;clear h;go_enter Tryz.func60,Tryz.ntmps60;go_wp2_with (go_at_call 56;(with_reducible refine hk.mono ?_);rintro e w1 ⟨rfl,h1⟩;replace h1:=hi_ h1)
  go_ret
  exact⟨rfl,h1.out⟩
theorem bd {w0 w:World}{L:Nat}{A:Option Addr}{c:Nat}{bs:List UInt8}{p:Nat}(h:Cur w0 w L A c bs p) :
 Calls Tryz.prog 58 #[.pointer (some ⟨L,0,none⟩)] w fun e w'=>e=.returned (.int .i64 ((bs.length:Int) - p))∧w'=w:=by
 obtain⟨h1,h2,h3,h4,h5,h6,h7,h8⟩:=h;clear h6 h2 h1;go_enter Tryz.func58,Tryz.ntmps58;go_wp2
 go_ret
 exact⟨rfl,rfl⟩
theorem lO (W:World) (b o cap:Nat) (x:UInt8) (h:W.cell? ⟨b,o,none⟩=some (.int .u8 (x.toNat:Int))):(convert 22 9 (.slice (some ⟨b,o,none⟩) 1 cap)).run Tryz.prog W=.ok (.string ⟨#[x]⟩) W:=by
 have h:=run_convert_bytes_back (P:=Tryz.prog) W 22 9 5 ⟨b,o,none⟩ cap [x] Tryz.underlying22 Tryz.underlying5 Tryz.underlying9 (fun j hj=>by
  have:j=0:=by simpa using hj
  subst this;rw[Lib.add_plain];exact h)
 exact h
theorem bt {w0 w:World}{L:Nat}{A:Option Addr}{c:Nat}{bs:List UInt8}{p:Nat}{ch:UInt8}(h:Cur w0 w L A c bs p) (hcap:bs.length≤c) (hp:bs[p]?=some ch) :
 Calls Tryz.prog 54 #[.pointer (some ⟨L,0,none⟩),.string ⟨#[ch]⟩] w fun e w'=>e=.returned (.bool true)∧Cur w0 w' L A c bs (p+1):=by
 have H:=hi_ h;obtain⟨h1,h2,h3,h4,h5,h6,h7,h8⟩:=h;obtain⟨hlt,hpe⟩:=List.getElem?_eq_some_iff.1 hp;obtain⟨b,o,rfl,hc⟩:=h6.2 (by omega);have hck:=(h2.cell (p:=⟨b,o+p,none⟩) (show b≠L from h1 (by omega) ⟨b,o,none⟩ rfl) (ac (hc p hlt))).trans (hc p hlt);rw[hpe]at hck;have hcv:=fun n=>lO (w.drewN n) b (o+p) (c - p) ch hck
 clear hc h6 h2 h1 hp hpe;have hg:decide ((bs.length:Int) - (p:Int)<1)=false:=by simp;omega
 go_enter Tryz.func54,Tryz.ntmps54;go_wp2
 go_quiet ((go_at_call 58;refine Calls.quiet_of_same (bd (H.out.drawn _))))
 go_wp2
 go_ret
 have h9:=(H.out.drawn nq).go (p+1) hlt;rw[show ((p+1:Nat):Int)=(p:Int)+1 by omega]at h9;exact⟨rfl,h9⟩
theorem bg {w0 w:World}{L:Nat}{A:Option Addr}{c:Nat}{bs:List UInt8}{p:Nat}{ch:UInt8}(h:Cur w0 w L A c bs p) (hcap:bs.length≤c) (hp:bs[p]?≠some ch) :
 Calls Tryz.prog 54 #[.pointer (some ⟨L,0,none⟩),.string ⟨#[ch]⟩] w fun e w'=>e=.returned (.bool false)∧Cur w0 w' L A c bs p:=by
 have H:=hi_ h;obtain⟨h1,h2,h3,h4,h5,h6,h7,h8⟩:=h;by_cases hlt:p<bs.length
 ·obtain⟨b,o,rfl,hc⟩:=h6.2 (by omega)
  have hck:=(h2.cell (p:=⟨b,o+p,none⟩) (show b≠L from h1 (by omega) ⟨b,o,none⟩ rfl) (ac (hc p hlt))).trans (hc p hlt);have hcv:=fun n=>lO (w.drewN n) b (o+p) (c - p) bs[p] hck
  have hne:(bs[p] == ch)=false:=by
   rw[beq_eq_false_iff_ne];intro e;exact hp (by rw[List.getElem?_eq_getElem hlt,e])
  generalize bs[p]=x at *;clear hc h6 h2 h1 hp;have hg:decide ((bs.length:Int) - (p:Int)<1)=false:=by simp;omega
  go_enter Tryz.func54,Tryz.ntmps54;go_wp2
  go_quiet ((go_at_call 58;refine Calls.quiet_of_same (bd (H.out.drawn _))))
  go_wp2
  go_ret
  exact⟨rfl,H.out.drawn _⟩
 ·clear h6 h2 h1 hp
  have hg:decide ((bs.length:Int) - (p:Int)<1)=true:=by simp;omega
  go_enter Tryz.func54,Tryz.ntmps54;go_wp2
  go_quiet ((go_at_call 58;refine Calls.quiet_of_same (bd (H.out.drawn _))))
  go_wp2
  go_ret
  exact⟨rfl,H.out.drawn _⟩
section
open Go Go.RowKit Go.Wk
def cR (bs:List UInt8) (p:Nat) (s:List UInt8):Bool:=decide (p+s.length≤bs.length) && ((bs.drop p).take s.length == s)
theorem mz (W:World) (b o n cap:Nat) (l:List UInt8) (hl:l.length=n) (h:∀i (hi:i<l.length),W.cell? ⟨b,o+i,none⟩=some (.int .u8 (l[i].toNat:Int))):(convert 22 9 (.slice (some ⟨b,o,none⟩) n cap)).run Tryz.prog W=.ok (.string ⟨l.toArray⟩) W:=by
 subst hl;exact run_convert_bytes_back W 22 9 5 ⟨b,o,none⟩ cap l Tryz.underlying22 Tryz.underlying5 Tryz.underlying9 (fun j hj=>by rw[Lib.add_plain];exact h j hj)
theorem mD {w0 w:World}{L:Nat}{A:Option Addr}{c:Nat}{bs:List UInt8}{p:Nat}(s:ByteArray) (h:Cur w0 w L A c bs p) (hcap:bs.length≤c) (hs:1≤s.size) (hs2:s.size≤1000000000) :
 Calls Tryz.prog 54 #[.pointer (some ⟨L,0,none⟩),.string s] w fun e w'=>e=.returned (.bool (cR bs p s.data.toList))∧Cur w0 w' L A c bs (if cR bs p s.data.toList then p+s.size else p):=by
 have H:=hi_ h;have hsl:s.data.toList.length=s.size:=Array.length_toList;obtain⟨h1,h2,h3,h4,h5,h6,h7,h8⟩:=h;by_cases hle:p+s.size≤bs.length
 ·obtain⟨b,o,rfl,hc⟩:=h6.2 (by omega)
  have hcv:=fun n=>mz (w.drewN n) b (o+p) s.size (c - p) ((bs.drop p).take s.size) (by simp;omega) (fun i hi=>by
   have hi2:i<s.size:=by simp at hi;omega
   have:=(h2.cell (p:=⟨b,o+(p+i),none⟩) (show b≠L from h1 (by omega) ⟨b,o,none⟩ rfl) (ac (hc (p+i) (by omega)))).trans (hc (p+i) (by omega));rw[Nat.add_assoc,List.getElem_take,List.getElem_drop];exact this)
  have hpc:¬c=p:=by omega
  have hg:decide ((bs.length:Int) - (p:Int)<(s.size:Int))=false:=by simp;omega
  by_cases heq:(bs.drop p).take s.size=s.data.toList
  ·have hst:cR bs p s.data.toList=true:=by simp[cR,hsl,hle,heq]
   rw[hst];have hX:({data:=(List.take s.size (List.drop p bs)).toArray}:ByteArray)=s:=by apply fG;simpa using heq
   rw[hX]at hcv;clear hc h6 h2 h1 heq hX hst hsl;go_enter Tryz.func54,Tryz.ntmps54;go_wp2
   go_quiet ((go_at_call 58;refine Calls.quiet_of_same (bd (H.out.drawn _))))
   go_wp2
   go_ret
   have h9:=(H.out.drawn nq).go (p+s.size) hle;rw[show ((p+s.size:Nat):Int)=(p:Int)+(s.size:Int) by omega]at h9;exact⟨rfl,h9⟩
  ·have hst:cR bs p s.data.toList=false:=by
    unfold cR;rw[hsl];simp[heq]
   rw[hst];generalize hX:({data:=(List.take s.size (List.drop p bs)).toArray}:ByteArray)=X at hcv;have hXl:X.data.toList=(bs.drop p).take s.size:=by rw[←hX]
   have hne:=sO (a:=X) (b:=s) (by rw[hXl];exact heq);clear hXl;clear hc h6 h2 h1 heq hX hst hsl;go_enter Tryz.func54,Tryz.ntmps54;go_wp2
   go_quiet ((go_at_call 58;refine Calls.quiet_of_same (bd (H.out.drawn _))))
   go_wp2
   go_ret
   exact⟨rfl,H.out.drawn _⟩
 ·have hst:cR bs p s.data.toList=false:=by
   unfold cR;rw[hsl];simp[hle]
  rw[hst];have hg:decide ((bs.length:Int) - (p:Int)<(s.size:Int))=true:=by
   rw[decide_eq_true_eq];omega
  clear h6 h2 h1 hst hsl;go_enter Tryz.func54,Tryz.ntmps54;go_wp2
  go_quiet ((go_at_call 58;refine Calls.quiet_of_same (bd (H.out.drawn _))))
  go_wp2
  go_ret
  exact⟨rfl,H.out.drawn _⟩
end
end Go.Proofs.YthffpbkndnhlfaaGreatDoor
namespace Go.Proofs
section
open Go.Shelf
def Tryz.laysSlK4_ren:Go.Shelf.Ren:=⟨fun|4=>87|n=>n,fun|22=>22|4=>4|5=>5|n=>n,fun|n=>n⟩
theorem Tryz.laysSlK4:Go.Proofs.SlLaysK.n4 Tryz.prog Tryz.laysSlK4_ren:={
 mixed:=by kernel_rfl
 f4:=Tryz.func87.trans (congrArg some (by kernel_rfl))
 t4:=Tryz.underlying4
 a4:=Tryz.isAgg4
 z4:=Tryz.sizeOf4
 v4:=Tryz.zeroValue4
 t22:=Tryz.underlying22
 a22:=Tryz.isAgg22
 z22:=Tryz.sizeOf22
 v22:=Tryz.zeroValue22
 t5:=Tryz.underlying5
 i5:=by kernel_rfl}
open Go.RowKit Go.Lib in
theorem Tryz.bytes_Clone_at (a:Addr) (n c:Nat) (xs:List Int) (w:World) (hx:xs.length=n) (hbig:n≤140737488355328) (hc:∀i,i<n→w.cell? (a.add i)=some (.int .u8 (xs.getD i 0))) :
 Calls Tryz.prog 87 #[.slice (some a) n c] w fun e w'=>∃v',e=.returned v'∧w'.ownsRow w.heap.size 5 1 v' n (xs.map (Value.int .u8))∧v'≠.slice none 0 0∧Below w.heap.size w w':=Any.bytes_Clone_at Tryz.laysSlK4 a n c xs w hx hbig hc
open Go.RowKit Go.Lib in
theorem Tryz.bytes_Clone_nil (n c:Nat) (w:World) :
 Calls Tryz.prog 87 #[.slice none n c] w fun e w'=>e=.returned (.slice none 0 0)∧w'=w:=Any.bytes_Clone_nil Tryz.laysSlK4 n c w
end
end Go.Proofs
namespace Go.Proofs.YthffpbkndnhlfaaGreatDoor
section
open Go Go.RowKit Go.Wk
attribute [local go_sem ↓] Go.wp_at_zero Go.wp_at_succ
theorem Cur.below {w0 w w1:World}{L:Nat}{A:Option Addr}{c:Nat}{bs:List UInt8}{p:Nat}(h:Cur w0 w L A c bs p) (hb:Below w.heap.size w w1):Cur w0 w1 L A c bs p:=by
 have hl:=ac h.cb;exact⟨h.ne,h.bel.trans (Save.of_below hb),(hb.cell hl).trans h.cb,(hb.cell (p:=⟨L,1,none⟩) hl).trans h.ca,(hb.frozen (p:=⟨L,1,none⟩) hl).trans h.fr,h.byt,h.le,h.small⟩
def iK (bs:List UInt8) (p n:Nat):List UInt8:=if p+n≤bs.length then (bs.drop p).take n else []
def gd (bs:List UInt8) (p n:Nat):Bool:=decide (p+n≤bs.length)
def tD (w0 w:World) (L:Nat) (A:Option Addr) (c:Nat) (bs:List UInt8) (p n:Nat) (e:Ending) (w':World):Prop:=
 ∃A' c',e=.returned (.tuple #[.slice A' (iK bs p n).length c',.bool (gd bs p n)])∧Byt w' A' (iK bs p n)∧Cur w0 w' L A c bs (if gd bs p n then p+n else p)
theorem oV {w:World}{B e:Nat}{v:Value}{bs:List UInt8}(h:w.ownsRow B e 1 v bs.length (aM bs)) (h0:v≠.slice none 0 0) (hm:bs.length≤maxLen) :
 ∃g c,B≤g∧v=.slice (some ⟨g,0,none⟩) bs.length c∧Byt w (some ⟨g,0,none⟩) bs:=by
 obtain⟨A,c,hv,hb⟩:=fp h;rcases h.2 with ⟨rfl,_⟩|⟨g,cap,cur,rfl,hB,_⟩
 ·exact absurd rfl h0
 ·injection hv with h1 h2 h3
  subst h1;exact⟨g,cap,hB,rfl,hb hm⟩
theorem Byt.store {w:World}{g o:Nat}{bs:List UInt8}(h:Byt w (some ⟨g,o,none⟩) bs) {p:Addr}(hp:g≠p.block) (u:Value):Byt (w.setCell p u) (some ⟨g,o,none⟩) bs:=by
 refine⟨h.1,fun h0=>?_⟩;obtain⟨b,o',e,hc⟩:=h.2 h0;cases e;refine⟨g,o,rfl,fun i hi=>?_⟩;rw[World.cell?_setCell_other _ _ _ _ (by intro e;apply hp;rw[e])];exact hc i hi
theorem fU (l:List UInt8):(l.map fun x=>(x.toNat:Int)).map (Value.int .u8)=aM l:=by simp[aM]
theorem od {w0 w:World}{L:Nat}{A:Option Addr}{c:Nat}{bs:List UInt8}{p:Nat}(n:Nat) (h:Cur w0 w L A c bs p) (hcap:bs.length≤c) (hn:1≤n) (hn2:n≤1000000000) :
 Calls Tryz.prog 61 #[.pointer (some ⟨L,0,none⟩),.int .i64 n] w (tD w0 w L A c bs p n):=by
 have H:=hi_ h;obtain⟨h1,h2,h3,h4,h5,h6,h7,h8⟩:=h;by_cases hle:p+n≤bs.length
 ·obtain⟨b,o,rfl,hc⟩:=h6.2 (by omega)
  have hpc:¬c=p:=by omega
  have cl:=Tryz.bytes_Clone_at ⟨b,o+p,none⟩ n (c - p) (((bs.drop p).take n).map fun x=>(x.toNat:Int)) w.drew (by simp;omega) (by omega) (fun i hi=>by
   have:=(h2.cell (p:=⟨b,o+(p+i),none⟩) (show b≠L from h1 (by omega) ⟨b,o,none⟩ rfl) (ac (hc (p+i) (by omega)))).trans (hc (p+i) (by omega));rw[Wk.add_none,Nat.add_assoc];show w.cell? _=_
   rw[this];simp[List.getD,hi,show p+i<bs.length by omega])
  have hts:=hi_ (show iK bs p n=(bs.drop p).take n by simp[iK,hle]);have htb:=hi_ (show gd bs p n=true by simp[gd,hle]);have hl:((bs.drop p).take n).length=n:=by simp;omega
  generalize hT:(bs.drop p).take n=T at *;replace hT:=hi_ hT;replace cl:=hi_ cl;have kp:=hi_ fun (w1:World) (hb:Below w.heap.size w w1)=>(⟨(H.out.below hb).cb,(H.out.below hb).ca⟩:w1.cell? ⟨L,0,none⟩=some (.slice (some ⟨b,o,none⟩) bs.length c)∧w1.cell? ⟨L,1,none⟩=some (.int .i64 (p:Nat)))
  have hp0:(0:Int)≤(p:Int):=by omega
  have hpn:(p:Int)+(n:Int)≤(bs.length:Int):=by omega
  have hbc:(bs.length:Int)≤(c:Int):=by omega
  have hw:IntKind.i64.wrap ((p:Int)+(n:Int))=(p:Int)+(n:Int):=IntWalk.i64_in _ (by omega);clear hc h6 h2 h1;go_enter Tryz.func61,Tryz.ntmps61;go_wp2_with (go_at_call 58;(with_reducible refine (bd H.out).mono ?_);rintro e w1 ⟨rfl,rfl⟩)
  go_region_held (fun w'=>w'.cell? ⟨L,0,none⟩=some (.slice (some ⟨b,o,none⟩) bs.length c)∧w'.cell? ⟨L,1,none⟩=some (.int .i64 (p:Nat)))
   (first|go_keep|exact kp.out _ ((Below.refl _ _).drew.trans hw2))
   ((go_at_call 87;(with_reducible refine cl.out.mono ?_);rintro e w2 ⟨v,rfl,hown,hne,hw2⟩))
  have hb2:Below w1.heap.size w1 w2:=(Below.refl w1.heap.size w1).drew.trans hw2;have hC2:=hi_ (H.out.below hb2);have k5:=hC2.out.fr;obtain⟨k3,k4⟩:=kp.out _ hb2;rw[fU]at hown;have hlm:T.length≤maxLen:=by unfold maxLen;omega
  subst hl;obtain⟨g,c',hg,rfl,hby⟩:=oV hown hne hlm;have hgL:g≠L:=by
   have hlt:L<w1.heap.size:=ac H.out.cb;have hg:w1.heap.size≤g:=hg;intro e;omega
  replace hby:=hi_ (Byt.store hby (p:=⟨L,1,none⟩) hgL (.int .i64 ((p:Int)+(T.length:Int))));clear hown hne hw2 hw;have hw:IntKind.i64.wrap ((p:Int)+(T.length:Int))=(p:Int)+(T.length:Int):=IntWalk.i64_in _ (by omega);go_wp2
  go_ret2
  refine⟨some ⟨g,0,none⟩,c',?_,?_,?_⟩
  ·rw[hts.out,htb.out];rfl
  ·rw[hts.out];exact hby.out
  ·rw[htb.out,if_pos rfl]
   have h9:=hC2.out.go (p+T.length) hle;rw[show ((p+T.length:Nat):Int)=(p:Int)+(T.length:Int) by omega]at h9;exact h9
 ·have hts:=hi_ (show iK bs p n=[] by simp[iK,hle])
  have htb:=hi_ (show gd bs p n=false by simp[gd,hle]);have hg:decide ((bs.length:Int) - (p:Int)<(n:Int))=true:=by rw[decide_eq_true_eq];omega
  clear h6 h2 h1;go_enter Tryz.func61,Tryz.ntmps61;go_wp2_with (go_at_call 58;(with_reducible refine (bd H.out).mono ?_);rintro e w1 ⟨rfl,rfl⟩)
  go_ret2
  refine⟨none,0,?_,?_,?_⟩
  ·rw[hts.out,htb.out];rfl
  ·rw[hts.out];exact Byt.nil
  ·rw[htb.out];exact H.out
end
end Go.Proofs.YthffpbkndnhlfaaGreatDoor
namespace Go.Wk
open Go Go.RowKit
def ObI (lo hi:Nat) (w:World) (o:Ob) (vs:List Value):Prop:=hi≤w.heap.size∧∀w':World,(∀b,lo≤b→b<hi→w'.heap[b]?=w.heap[b]?)→hi≤w'.heap.size→ObAt w' o vs
theorem ObI.ob {lo hi:Nat}{w:World}{o:Ob}{vs:List Value}(h:ObI lo hi w o vs):ObAt w o vs:=h.2 w (fun _ _ _=>rfl) h.1
theorem ObI.keep {lo hi:Nat}{w w':World}{o:Ob}{vs:List Value}(h:ObI lo hi w o vs) (hk:∀b,lo≤b→b<hi→w'.heap[b]?=w.heap[b]?) (hs:hi≤w'.heap.size):ObI lo hi w' o vs:=
 ⟨hs,fun w2 h2 hz=>h.2 w2 (fun b h3 h4=>(h2 b h3 h4).trans (hk b h3 h4)) hz⟩
theorem ObI.wide {lo lo' hi:Nat}{w:World}{o:Ob}{vs:List Value}(h:ObI lo hi w o vs) (hl:lo'≤lo):ObI lo' hi w o vs:=
 ⟨h.1,fun w2 h2 hz=>h.2 w2 (fun b h3 h4=>h2 b (by omega) h4) hz⟩
def EnI (lo hi:Nat) (w:World) (e:List UInt8×Ob) (rs:List Value):Prop:=∃us,rs=bE e.1 :: us∧e.1.length≤maxLen∧ObI lo hi w e.2 us
structure ItLaw {α:Type}(I:Nat→Nat→World→α→List Value→Prop) (sz:Nat):Prop where
 keep:∀{lo hi w w' a us},I lo hi w a us→(∀b,lo≤b→b<hi→w'.heap[b]?=w.heap[b]?)→hi≤w'.heap.size→I lo hi w' a us
 top:∀{lo hi w a us},I lo hi w a us→hi≤w.heap.size
 len:∀{lo hi w a us},I lo hi w a us→us.length=sz
theorem aQ:ItLaw ObI 5:=⟨fun h hk hs=>h.keep hk hs,fun h=>h.1,fun h=>h.ob.five⟩
theorem en_law:ItLaw EnI 6:=⟨fun⟨us,h1,h2,h3⟩ hk hs=>⟨us,h1,h2,h3.keep hk hs⟩,fun ⟨us,h1,h2,h3⟩=>h3.1,fun ⟨us,h1,h2,h3⟩=>by rw[h1];simp[h3.ob.five]⟩
structure RowG {α:Type}(I:Nat→Nat→World→α→List Value→Prop) (e:TypeId) (sz B:Nat) (w:World) (v:Value) (l:List α) (rss:List (List Value)):Prop where
 len:rss.length=l.length
 row:w.ownsRow B e sz v l.length rss.flatten
 it:∀i (h:i<l.length),∃lo hi,B≤lo∧(∀g,v.ownBlock=some g→g<lo∨hi≤g)∧I lo hi w l[i] (rss.getD i [])
section
variable {α:Type}{I:Nat→Nat→World→α→List Value→Prop}{e:TypeId}{sz B:Nat}{w w':World}{v:Value}{l:List α}{rss:List (List Value)}
theorem RowG.nil (I:Nat→Nat→World→α→List Value→Prop) (e:TypeId) (sz B:Nat) (w:World):RowG I e sz B w (.slice none 0 0) ([]:List α) []:=
 ⟨rfl,World.ownsRow_nil _ _ _ _,fun i h=>by simp at h⟩
theorem am {e:TypeId}{sz B:Nat}{w w':World}{v:Value}{n:Nat}{xs:List Value}(h:w.ownsRow B e sz v n xs) (hk:∀b,B≤b→b<w.heap.size→w'.heap[b]?=w.heap[b]?):w'.ownsRow B e sz v n xs:=by
 refine⟨h.1,?_⟩;rcases h.2 with h2|⟨g,cap,cur,e',hB,hh,rest⟩
 ·exact .inl h2
 ·exact .inr ⟨g,cap,cur,e',hB,(hk g hB (Array.getElem?_eq_some_iff.1 hh).1).trans hh,rest⟩
theorem RowG.far (L:ItLaw I sz) (h:RowG I e sz B w v l rss) (hk:∀b,B≤b→b<w.heap.size→w'.heap[b]?=w.heap[b]?) (hs:w.heap.size≤w'.heap.size):RowG I e sz B w' v l rss:=
 ⟨h.len,am h.row hk,fun i hi=>by
  obtain⟨lo,hi',h1,h2,h3⟩:=h.it i hi;have ht:=L.top h3;exact⟨lo,hi',h1,h2,L.keep h3 (fun b hb hb'=>hk b (by omega) (by omega)) (by omega)⟩⟩
theorem RowG.below (L:ItLaw I sz) (h:RowG I e sz B w v l rss) (hb:Below w.heap.size w w'):RowG I e sz B w' v l rss:=
 h.far L (fun b _ hb'=>hb.block b hb') hb.size
theorem RowG.more (L:ItLaw I sz) (h:RowG I e sz B w v l rss) {a:α}{us:List Value}{lo hi:Nat}(ha:I lo hi w a us) (hlo:B≤lo) (hne:∀g,v.ownBlock=some g→g<lo∨hi≤g)
 {v':Value}(hown:w'.ownsRow B e sz v' (l.length+1) (rss.flatten++us)) (hg:w.grownBy w' v.ownBlock) (hat:v'.ownBlock=v.ownBlock∨v'.ownBlock=some w.heap.size):RowG I e sz B w' v' (l++[a]) (rss++[us]):=by
 have keep:∀{lo hi:Nat},hi≤w.heap.size→(∀g,v.ownBlock=some g→g<lo∨hi≤g)→∀b,lo≤b→b<hi→w'.heap[b]?=w.heap[b]?:=fun {lo hi} ht hq b h1 h2=>
  hg.block b (by omega) (fun e=>by have h9:=hq b e.symm;omega)
 have apart:∀{lo hi:Nat},hi≤w.heap.size→(∀g,v.ownBlock=some g→g<lo∨hi≤g)→∀g,v'.ownBlock=some g→g<lo∨hi≤g:=fun {lo hi} ht hq g hgo=>by
  rcases hat with e|e
  ·exact hq g (by rw[←e];exact hgo)
  ·rw[e]at hgo;injection hgo with hgo;right;omega
 refine⟨by simp[h.len],?_,fun i hi'=>?_⟩
 ·rw[List.length_append,List.flatten_append];simpa using hown
 ·rw[List.length_append]at hi'
  simp only[List.length_cons,List.length_nil]at hi';have hs:=hg.size;by_cases hil:i<l.length
  ·obtain⟨lo2,hi2,h1,h2,h3⟩:=h.it i hil
   have ht:=L.top h3;refine⟨lo2,hi2,h1,apart ht h2,?_⟩;rw[List.getElem_append_left hil,List.getD_eq_getElem?_getD,List.getElem?_append_left (by rw[h.len];exact hil),←List.getD_eq_getElem?_getD];exact L.keep h3 (keep ht h2) (by omega)
  ·obtain rfl:i=l.length:=by omega
   have ht:=L.top ha;refine⟨lo,hi,hlo,apart ht hne,?_⟩;have e1:(rss++[us]).getD l.length []=us:=by
    rw[List.getD_eq_getElem?_getD,List.getElem?_append_right (by rw[h.len];omega),h.len];simp
   rw[e1];have e2:(l++[a])[l.length]=a:=by simp
   rw[e2];exact L.keep ha (keep ht hne) (by omega)
theorem iV {rss:List (List Value)}{sz:Nat}(h:∀i,i<rss.length→(rss.getD i []).length=sz):∀i j,i<rss.length→j<sz→rss.flatten[sz*i+j]?=(rss.getD i [])[j]?:=by
 induction rss with
 |nil=>intro i j hi;simp at hi
 |cons r t ih=>
  intro i j hi hj;have h0:=h 0 (by simp);simp only[List.getD_cons_zero]at h0;cases i with
  |zero=>
   rw[List.flatten_cons,List.getElem?_append_left (by omega)];simp
  |succ i=>
   rw[List.flatten_cons,List.getElem?_append_right (by rw[h0,Nat.mul_succ];omega)];have:=ih (fun k hk=>by have:=h (k+1) (by simpa using hk);simpa using this) i j (by simpa using hi) hj;rw[h0,show sz*(i+1)+j - sz=sz*i+j by rw[Nat.mul_succ];omega,this];simp
theorem RowG.out (L:ItLaw I sz) (hsz:0<sz) (h:RowG I e sz B w v l rss):∃A c g,v=.slice A l.length c∧l.length≤c∧(A=none→c=0)∧(0<l.length→A=some ⟨g,0,none⟩)∧c≤maxLen∧
 (∀i (hi:i<l.length),(∃lo hi',I lo hi' w l[i] (rss.getD i []))∧∀j,j<sz→w.cell? ⟨g,0+(sz*i+j),none⟩=(rss.getD i [])[j]?):=by
 have hlen:∀i,i<rss.length→(rss.getD i []).length=sz:=fun i hi=>by
  obtain⟨lo,hi',_,_,h3⟩:=h.it i (by rw[←h.len];exact hi);exact L.len h3
 rcases h.row.2 with ⟨rfl,hn⟩|⟨g,cap,cur,rfl,hB,hh,hnc,hcm,hcs,htk⟩
 ·exact⟨none,0,0,by rw[hn],by omega,fun _=>rfl,fun h=>by omega,by unfold maxLen;omega,fun i hi=>by omega⟩
 ·refine⟨_,cap,g,rfl,hnc,(fun e=>by cases e),fun _=>rfl,hcm,fun i hi=>⟨?_,fun j hj=>?_⟩⟩
  ·obtain⟨lo,hi',_,_,h3⟩:=h.it i hi
   exact⟨lo,hi',h3⟩
  ·rw[←iV hlen i j (by rw[h.len];exact hi) hj,←htk,List.getElem?_take]
   have hb:sz*i+j<l.length*sz:=by
    have:sz*i+sz≤sz*l.length:=by rw[←Nat.mul_succ];exact Nat.mul_le_mul_left _ hi
    rw[Nat.mul_comm l.length];omega
   rw[if_pos hb,Nat.zero_add];simp[World.cell?,hh]
end
theorem el {tb tO tE:TypeId}{B:Nat}{w:World}{k n:Int}{vB vL vD:Value}{b:List UInt8}{l:List Ob}{d:List (List UInt8×Ob)}{rl rd:List (List Value)}
 (hk1: -9223372036854775808≤k) (hk2:k≤9223372036854775807) (hn1: -9223372036854775808≤n) (hn2:n≤9223372036854775807)
 (hb:w.ownsRow B tb 1 vB b.length (aM b)) (hbm:b.length≤maxLen) (hL:RowG ObI tO 5 B w vL l rl) (hD:RowG EnI tE 6 B w vD d rd) :
 ObI B w.heap.size w (.mk k n b l d) [.int .i64 k,.int .i64 n,vB,vL,vD]:=by
 refine⟨Nat.le_refl _,fun w' h hz=>?_⟩;have hb':=am hb h;have hL':=hL.far aQ h hz;have hD':=hD.far en_law h hz;obtain⟨AL,cL,gL,rfl,h1,h2,h3,h4,h5⟩:=hL'.out aQ (by omega);obtain⟨AD,cD,gD,rfl,i1,i2,i3,i4,i5⟩:=hD'.out en_law (by omega);obtain⟨A,c,rfl,hby⟩:=fp hb';have hbc:b.length≤c∧(A=none→c=0):=by
  rcases hb'.2 with ⟨e,hn⟩|⟨g,cap,cur,e,_,_,hnc,_⟩
  ·injection e with e1 e2 e3;exact⟨by omega,fun _=>e3⟩
  ·injection e with e1 e2 e3;exact⟨by omega,fun e=>by rw[e]at e1;cases e1⟩
 have hen:∀i (hi:i<d.length),∃us,rd.getD i []=bE d[i].1 :: us∧d[i].1.length≤maxLen∧ObAt w' d[i].2 us:=fun i hi=>by
  obtain⟨⟨lo,hi',us,e1,e2,e3⟩,_⟩:=i5 i hi;exact⟨us,e1,e2,e3.ob⟩
 refine ObAt.mk k n b l d A AL AD c cL cD gL 0 gD 0 (fun i=>rl.getD i []) (fun i=>(rd.getD i []).drop 1) hk1 hk2 hn1 hn2 (hby hbm) hbc.1 hbc.2 h1 (by omega) i1 (by omega) h3 (fun i hi=>?_) (fun i hi j hj=>(h5 i hi).2 j hj) i3 (fun i hi=>?_) (fun i hi=>?_) (fun i hi j hj=>?_)
 ·obtain⟨⟨lo,hi',e⟩,_⟩:=h5 i hi
  exact e.ob
 ·obtain⟨us,e1,e2,e3⟩:=hen i hi
  show ObAt w' d[i].2 ((rd.getD i []).drop 1)
  rw[e1];exact e3
 ·obtain⟨us,e1,e2,e3⟩:=hen i hi
  have:=(i5 i hi).2 0 (by omega);rw[e1]at this;exact⟨e2,this⟩
 ·have:=(i5 i hi).2 (1+j) (by omega)
  show _=((rd.getD i []).drop 1)[j]?
  rw[List.getElem?_drop,←this]
  congr 2
  omega
end Go.Wk
namespace Go.Rd
open Go Go.Wk Go.Fx
abbrev Bs:=List UInt8
inductive Res (α:Type) where
 |ok (v:α) (r:Bs)
 |err (e:Int) (r:Bs)
def aY (c:UInt8):Bool:=c == 0 || c == 9 || c == 10 || c == 12 || c == 13 || c == 32
def pk (r:Bs) (i:Nat):Int:=match r[i]? with|some b=>(b.toNat:Int)|none=> -1
def bM (x:Int):Int:=if 48≤x∧x≤57 then x - 48 else if 97≤x∧x≤102 then x - 87 else if 65≤x∧x≤70 then x - 55 else -1
def af:Bool→Bs→Bs
 |_,[]=>[]
 |true,c :: r=>if c == 10 || c == 13 then af false r else af true r
 |false,c :: r=>if aY c then af false r else if c == 37 then af true r else c :: r
def aJ:Nat→Bs→Bs→Res Bs
 |0,_,r=>.err 99 r
 |_+1,out,[]=>.ok out []
 |f+1,out,c :: t=>
  if bu c=false then .ok out (c :: t)
  else if c=35 then
   if bM (pk t 0)<0∨bM (pk t 1)<0∨bM (pk t 0)+bM (pk t 1)=0 then .err 4 t
   else if 127≤out.length then .err 3 (t.drop 2)
   else aJ f (out++[UInt8.ofNat (bM (pk t 0)*16+bM (pk t 1)).toNat]) (t.drop 2)
  else if 127≤out.length then .err 3 t
  else aJ f (out++[c]) t
def dm (c:UInt8) (t:Bs):Bs:=if c=13∧t[0]?=some 10 then t.drop 1 else t
def eX (c:UInt8):Bool:=decide (48≤c.toNat) && decide (c.toNat≤55)
def cu:Nat→Nat→Bs→Nat×Bs
 |0,n,r=>(n,r)
 |_+1,n,[]=>(n,[])
 |k+1,n,c :: r=>if eX c then cu k (8*n+(c.toNat - 48)) r else (n,c :: r)
def bD (d:UInt8) (t:Bs):Option UInt8×Bs:=
 if d=13∨d=10 then (none,dm d t)
 else if eX d then (some (UInt8.ofNat ((cu 2 (d.toNat - 48) t).1 % 256)),(cu 2 (d.toNat - 48) t).2)
 else (some (if d=110 then 10 else if d=114 then 13 else if d=116 then 9 else if d=98 then 8 else if d=102 then 12 else d),t)
def textS:Nat→Nat→Bs→Bs→Res Bs
 |0,_,_,r=>.err 99 r
 |_+1,_,_,[]=>.err 2 []
 |f+1,op,out,c :: t=>
  if c=92 then
   match t with
   |[]=>.err 2 []
   |d :: u=>
    match bD d u with
    |(none,v)=>textS f op out v
    |(some x,v)=>if 32767≤out.length then .err 3 v else textS f op (out++[x]) v
  else if c=41∧op=1 then .ok out t
  else if 32767≤out.length then .err 3 t
  else if c=13∨c=10 then textS f op (out++[10]) (dm c t)
  else textS f (if c=40 then op+1 else if c=41 then op - 1 else op) (out++[c]) t
def bm:Nat→Int→Bs→Bs→Res Bs
 |0,_,_,r=>.err 99 r
 |_+1,_,_,[]=>.err 2 []
 |f+1,h,out,c :: t=>
  if aY c then bm f h out t
  else if c=62 then
   if h<0 then .ok out t
   else if 32767≤out.length then .err 3 t
   else .ok (out++[UInt8.ofNat (16*h).toNat]) t
  else if bM c.toNat<0 then .err 4 t
  else if h<0 then bm f (bM c.toNat) out t
  else if 32767≤out.length then .err 3 t
  else bm f (-1) (out++[UInt8.ofNat (16*h+bM c.toNat).toNat]) t
structure Tok where
 k:Int
 n:Int
 b:Bs
def bw (k:Int) (at':Bs):Res Bs→Res Tok
 | .ok b r=>.ok ⟨k,0,b⟩ r
 | .err e _=>.err e at'
def aN (r:Bs):Bs:=r.takeWhile bu
def dS (at':Bs):Res Tok:=
 if (ao (aN at')).2.2=0 then .ok ⟨if (ao (aN at')).2.1 then 1 else 2,(ao (aN at')).1,[]⟩ (at'.drop (aN at').length)
 else .err (ao (aN at')).2.2 at'
def dR (c:UInt8):Bool:=c == 43 || c == 45 || c == 46 || (decide (48≤c.toNat) && decide (c.toNat≤57))
def tokA:Bs→Res Tok
 |[]=>.ok ⟨0,0,[]⟩ []
 |c :: t=>
  if c=91 then .ok ⟨5,0,[]⟩ t
  else if c=93 then .ok ⟨6,0,[]⟩ t
  else if c=60∧t[0]?=some 60 then .ok ⟨7,0,[]⟩ (t.drop 1)
  else if c=62∧t[0]?=some 62 then .ok ⟨8,0,[]⟩ (t.drop 1)
  else if c=47 then bw 4 (c :: t) (aJ (t.length+1) [] t)
  else if c=40 then bw 3 (c :: t) (textS (t.length+1) 1 [] t)
  else if c=60 then bw 3 (c :: t) (bm (t.length+1) (-1) [] t)
  else if dR c then dS (c :: t)
  else if bu c then (if 127<(aN (c :: t)).length then .err 3 (c :: t) else .ok ⟨9,0,aN (c :: t)⟩ ((c :: t).drop (aN (c :: t)).length))
  else .err 4 (c :: t)
def ar (r:Bs):Res Tok:=tokA (af false r)
def aZ (plain:Bool) (n:Int) (r:Bs):Ob×Bs:=
 if 1≤n∧n≤8388607∧plain=false then
  match ar r with
  | .ok t u=>if t.k=1∧t.n=0 then
   match ar u with
   | .ok s v=>if s.k=9∧s.b=[82] then (.mk 9 n [] [] [],v) else (.mk 2 n [] [] [],r)
   | .err _ _=>(.mk 2 n [] [] [],r)
   else (.mk 2 n [] [] [],r)
  | .err _ _=>(.mk 2 n [] [] [],r)
 else (.mk 2 n [] [] [],r)
def dj (val:Bs→Res Ob):Nat→List Ob→Bs→Res (List Ob)
 |0,_,r=>.err 99 r
 |f+1,acc,r=>
  match ar r with
  | .err e u=>.err e u
  | .ok t u=>if t.k=6 then .ok acc u else
   match val r with
   | .err e u=>.err e u
   | .ok o u=>dj val f (acc++[o]) u
def br (K:Bs) (X:Ob):Bool→List (Bs×Ob)→List (Bs×Ob)
 |put,[]=>if put then [] else [(K,X)]
 |put,e :: r=>(if !put && !ltB e.1 K then [(K,X)] else [])++((if e.1=K then [] else [e])++br K X (put || !ltB e.1 K) r)
def dA (K:Bs) (X:Ob) (d:List (Bs×Ob)):List (Bs×Ob):=br K X (X.kind == 0) d
def bQ (val:Bs→Res Ob):Nat→List Bs→List (Bs×Ob)→Bs→Res (List (Bs×Ob))
 |0,_,_,r=>.err 99 r
 |f+1,keys,acc,r=>
  match ar r with
  | .err e u=>.err e u
  | .ok t u=>if t.k=8 then .ok acc u
   else if t.k=0 then .err 2 (af false r)
   else if t.k≠4 then .err 4 (af false r)
   else if keys.contains t.b then .err 4 (af false r)
   else match val u with
    | .err e u=>.err e u
    | .ok o u=>bQ val f (keys++[t.b]) (dA t.b o acc) u
def kH (b:Bs):Option Ob:=if b=[116,114,117,101] then some (.mk 1 1 [] [] []) else if b=[102,97,108,115,101] then some (.mk 1 0 [] [] []) else if b=[110,117,108,108] then some (.mk 0 0 [] [] []) else none
def valS (plain:Bool) (d:Nat) (r:Bs):Res Ob:=
 match ar r with
 | .err e u=>.err e u
 | .ok t u=>
  if t.k=0 then .err 2 (af false r)
  else if t.k=1 then .ok (aZ plain t.n u).1 (aZ plain t.n u).2
  else if t.k=2 then .ok (.mk 3 t.n [] [] []) u
  else if t.k=3 then .ok (.mk 4 0 t.b [] []) u
  else if t.k=4 then .ok (.mk 5 0 t.b [] []) u
  else if t.k=9 then (match kH t.b with|some o=>.ok o u|none=>.err 4 (af false r))
  else if t.k=5 then
   match d with
   |0=>.err 6 (af false r)
   |d+1=>match dj (valS plain d) (u.length+1) [] u with| .ok l v=>.ok (.mk 6 0 [] l []) v| .err e v=>.err e v
  else if t.k=7 then
   match d with
   |0=>.err 6 (af false r)
   |d+1=>match bQ (valS plain d) (u.length+1) [] [] u with| .ok l v=>.ok (.mk 7 0 [] [] l) v| .err e v=>.err e v
  else .err 4 (af false r)
section
open Go Go.Wk Go.Fx Go.Lib
theorem kO {c:UInt8}(h:isD c=true):bu c=true∧aY c=false∧c≠37∧dR c=true∧c≠91∧c≠93∧c≠60∧c≠62∧c≠47∧c≠40:=by
 have:∀c:UInt8,isD c=true→bu c=true∧aY c=false∧c≠37∧dR c=true∧c≠91∧c≠93∧c≠60∧c≠62∧c≠47∧c≠40:=by
  intro c h;simp only[isD,Bool.and_eq_true,decide_eq_true_eq]at h;have hc:∀d:UInt8,(d.toNat<48∨57<d.toNat)→c≠d:=fun d hd e=>by rw[e]at h;omega
  have n1:=fun d hd=>(beq_eq_false_iff_ne.2 (hc d hd))
  refine⟨?_,?_,hc _ (by decide),?_,hc _ (by decide),hc _ (by decide),hc _ (by decide),hc _ (by decide),hc _ (by decide),hc _ (by decide)⟩
  ·unfold bu
   rw[n1 0 (by decide),n1 9 (by decide),n1 10 (by decide),n1 12 (by decide),n1 13 (by decide),n1 32 (by decide),n1 40 (by decide),n1 41 (by decide),n1 60 (by decide),n1 62 (by decide),n1 91 (by decide),n1 93 (by decide),n1 123 (by decide),n1 125 (by decide),n1 47 (by decide),n1 37 (by decide)]
   rfl
  ·unfold aY
   rw[n1 0 (by decide),n1 9 (by decide),n1 10 (by decide),n1 12 (by decide),n1 13 (by decide),n1 32 (by decide)]
   rfl
  ·unfold dR
   simp[h.1,h.2]
 exact this c h
theorem iy (n:Int) (w:Bool):(∀c∈cZ n w,isD c=true∨c=45∨c=46)∧∃c r,cZ n w=c :: r∧(isD c=true∨c=45):=by
 have hit:∀m:Int,(∀c∈itoa m,isD c=true∨c=45∨c=46)∧∃c r,itoa m=c :: r∧(isD c=true∨c=45):=by
  intro m;unfold itoa;split
  ·exact⟨fun c hc=>by
    rcases List.mem_cons.1 hc with h|h
    ·exact .inr (.inl h)
    ·exact .inl (fe _ c h),_,_,rfl,.inr rfl⟩
  ·refine⟨fun c hc=>.inl (fe _ c hc),?_⟩
   have hp:=lS m.toNat;cases h:decDigits m.toNat with
   |nil=>rw[h]at hp;simp at hp
   |cons c r=>exact⟨c,r,rfl,.inl (fe m.toNat c (by rw[h];simp))⟩
 unfold cZ;split
 ·exact hit n
 ·have hf:=ot (n.natAbs % 100000) (by omega)
  have hp:=lS (n.natAbs / 100000);have hd:=fe (n.natAbs / 100000);refine⟨fun c hc=>?_,?_⟩
  ·rcases List.mem_append.1 hc with h|h
   ·split at h
    ·exact .inr (.inl (by simpa using h))
    ·simp at h
   ·rcases List.mem_append.1 h with h|h
    ·exact .inl (hd c h)
    ·rcases List.mem_cons.1 h with h|h
     ·exact .inr (.inr h)
     ·exact .inl (hf c h)
  ·split
   ·exact⟨_,_,rfl,.inr rfl⟩
   ·cases h:decDigits (n.natAbs / 100000) with
    |nil=>rw[h]at hp;simp at hp
    |cons c r=>exact⟨c,_,rfl,.inl (hd c (by rw[h];simp))⟩
end
section
open Go Go.Wk Go.Fx Go.Lib
theorem pA (o:Ob):0<o.show.length:=by
 obtain⟨k,n,b,l,d⟩:=o;obtain⟨_,c,r,e,_⟩:=iy n true;obtain⟨_,c',r',e',_⟩:=iy n false;have h1:0<(cZ n true).length:=by rw[e];simp
 have h2:0<(cZ n false).length:=by rw[e'];simp
 unfold Ob.show
 repeat' split
 all_goals first|(simp;done)|exact h1|exact h2|(simp only[eT];split <;> simp;done)|(simp[dw];done)|(simp only[List.length_append];omega)
theorem eO:∀(l:List Ob) (f:Bool),l.length≤(bc f l).length
 |[],_=>by simp
 |o :: r,f=>by
  have:=eO r false;have:=pA o;simp only[bc,List.length_append,List.length_cons];omega
theorem eN:∀(d:List (Bs×Ob)),d.length≤(bW d).length
 |[]=>by simp
 |e :: r=>by
  have:=eN r;simp only[bW,List.length_append,List.length_cons];omega
end
end Go.Rd
namespace Go.Proofs.YthffpbkndnhlfaaGreatDoor
open Go Go.RowKit Go.Wk Go.Rd
theorem Save.then_ {L:Nat}{a b c:World}(h:Save L a b) (k:Below b.heap.size b c):Save L a c:=h.trans (.of_below k)
theorem Save.thenB {L:Nat}{a b c:World}(h:Save L a b) (k:Below a.heap.size b c):Save L a c:=⟨k.os.trans h.os,k.tape.trans h.tape,k.output.trans h.output,Nat.le_trans h.size k.size,fun j hj hn=>(k.block j hj).trans (h.block j hj hn)⟩
theorem Save.own {L B:Nat}{a b:World}{v:Value}{bs:List UInt8}(h:Save L a b) (hB:L<B) (ho:Own B a v bs):Own B b v bs:=
 ⟨am ho.row fun k hk hs=>h.block k hs (by omega)⟩
theorem Save.blk {L g:Nat}{a b:World}{t:TypeId}{cs:Array Value}(h:Save L a b) (hg:g≠L) (k:Blk a g t cs):Blk b g t cs:=(h.block g k.lt hg).trans k
def pos (bs r:Bs):Nat:=bs.length - r.length
theorem aB {bs r:Bs}(h:r <:+bs):r.length≤bs.length:=h.length_le
theorem fy {bs r:Bs}(h:r <:+bs):bs.drop (pos bs r)=r:=by
 obtain⟨q,rfl⟩:=h;unfold pos;rw[List.length_append,Nat.add_sub_cancel,List.drop_left]
theorem ly {bs r:Bs}(h:r <:+bs) (i:Nat):bs[pos bs r+i]?=r[i]?:=by
 rw[←List.getElem?_drop,fy h]
theorem aE (bs r:Bs):pos bs r≤bs.length:=by unfold pos;omega
theorem bU {bs t:Bs}{c:UInt8}(h:(c :: t) <:+bs):pos bs t=pos bs (c :: t)+1∧pos bs (c :: t)<bs.length:=by
 have:=aB h;unfold pos;simp only[List.length_cons]at this⊢;omega
theorem dq {bs r:Bs}(h:r <:+bs) (n:Nat) (hn:n≤r.length):pos bs (r.drop n)=pos bs r+n:=by
 have:=aB h;unfold pos;rw[List.length_drop];omega
theorem gW {bs t:Bs}{c:UInt8}(h:(c :: t) <:+bs):t <:+bs:=(List.suffix_cons c t).trans h
theorem dc {bs r:Bs}(h:r <:+bs) (n:Nat):r.drop n <:+bs:=(List.drop_suffix n r).trans h
theorem aK {bs r:Bs}(h:r <:+bs):bs.length - pos bs r=r.length:=by
 have:=aB h;unfold pos;omega
structure LX (L:Nat) (A:Option Addr) (c:Nat) (bs:Bs) (D:Value) (P:Value) (w:World) (r:Bs):Prop where
 blk:Blk w L 55 #[.slice A bs.length c,.int .i64 (pos bs r:Nat),D,P]
 byt:Byt w A bs
 ne:0<bs.length→∀x,A=some x→x.block≠L
 suf:r <:+bs
 cap:bs.length≤c
 small:bs.length≤1000000000
section
variable {L:Nat}{A:Option Addr}{c:Nat}{bs:Bs}{D P:Value}{w w':World}{r r':Bs}
theorem LX.below (h:LX L A c bs D P w r) (hb:Below w.heap.size w w'):LX L A c bs D P w' r:=⟨h.blk.below hb h.blk.lt,h.byt.below hb,h.ne,h.suf,h.cap,h.small⟩
theorem LX.go (h:LX L A c bs D P w r) (hs:r' <:+bs):LX L A c bs D P (w.setCell ⟨L,1,none⟩ (.int .i64 (pos bs r':Nat))) r':=
 ⟨h.blk.set_ 1 _,(Save.refl L w).store 1 _ |>.byt h.ne h.byt,h.ne,hs,h.cap,h.small⟩
theorem LX.to (h:LX L A c bs D P w r) (hs:Save L w w') (hb:Blk w' L 55 #[.slice A bs.length c,.int .i64 (pos bs r':Nat),D,P]) (hr:r' <:+bs):LX L A c bs D P w' r':=
 ⟨hb,hs.byt h.ne h.byt,h.ne,hr,h.cap,h.small⟩
theorem LX.a_lt (h:LX L A c bs D P w r):0<bs.length→∀x,A=some x→x.block<w.heap.size:=fun h0 x hx=>by
 obtain⟨g,o,e,hc⟩:=h.byt.2 h0;rw[hx]at e;injection e with e;rw[e];exact ac (hc 0 h0)
theorem LX.belowB {B:Nat}(h:LX L A c bs D P w r) (hb:Below B w w') (hL:L<B) (hA:0<bs.length→∀x,A=some x→x.block<B):LX L A c bs D P w' r:=by
 refine⟨h.blk.below hb hL,⟨h.byt.1,fun h0=>?_⟩,h.ne,h.suf,h.cap,h.small⟩;obtain⟨g,o,e,hc⟩:=h.byt.2 h0;exact⟨g,o,e,fun i hi=>(hb.cell (p:=⟨g,o+i,none⟩) (show g<B from hA h0 _ e)).trans (hc i hi)⟩
theorem LX.lt (h:LX L A c bs D P w r):L<w.heap.size:=h.blk.lt
end
def posOf (L:Nat) (w:World):Nat:=match w.cell? ⟨L,1,none⟩ with|some (.int _ n)=>n.toNat|_=>0
theorem LX.posOf {L:Nat}{A:Option Addr}{c:Nat}{bs:Bs}{D P:Value}{w:World}{r:Bs}(h:LX L A c bs D P w r):posOf L w=pos bs r:=by
 unfold Proofs.YthffpbkndnhlfaaGreatDoor.posOf;rw[h.blk.cell 1];simp
section
open Go Go.RowKit Go.Wk Go.Rd Go.Fx
theorem jY {bs:Bs}{q:Nat}(h:q<bs.length):aU bs q=(bs[q].toNat:Int):=(jZ h).2.2
theorem qZ (A:Option Addr) (c:Nat) (bs:Bs) (w:World) (hb:Byt w A bs) (q:Nat) (hs:bs.length≤1000000000) (hq:q≤2000000000) :
 Calls Tryz.prog 35 #[.slice A bs.length c,.int .i64 (q:Nat)] w fun e w'=>e=.returned (.int .i64 (aU bs q))∧Below w.heap.size w w':=by
 obtain⟨S,hS⟩:∃S,S=aU bs q:=⟨_,rfl⟩;rw[←hS];obtain⟨m,hm⟩:∃m,m=bs.length:=⟨_,rfl⟩;by_cases hlt:q<bs.length
 ·obtain⟨b,o,rfl,hc⟩:=hb.2 (by omega)
  have hck:=hc q hlt;rw[jY hlt]at hS;have hx0:=dK bs[q];generalize bs[q]=x at *;obtain⟨xn,hxn⟩:∃n:Int,n=(x.toNat:Int):=⟨_,rfl⟩;rw[←hxn]at hck hx0 hS;have hx1:0≤xn:=by omega
  have hxw:wrap64 xn=xn:=by unfold wrap64;omega
  rw[←hm]at hlt hs⊢;refine h3_ hS hm hxw ?_;clear hS hm hxw;intro hS hm hxw;clear hc hb hxn;go_enter Tryz.func35,Tryz.ntmps35;go_wp2
  go_ret
  exact⟨by rw[hS.out];first|rfl|exact congrArg (fun z=>Ending.returned (.int .i64 z)) hxw.out,by first|exact Below.refl _ _|exact (Below.refl _ _).drew⟩
 ·rw[fN hlt]at hS
  rw[←hm]at hlt hs⊢;replace hS:=hi_ hS;replace hm:=hi_ hm;clear hb;go_enter Tryz.func35,Tryz.ntmps35;go_wp2
  go_ret
  exact⟨by rw[hS.out];rfl,Below.refl _ _⟩
theorem iB {bs r:Bs}(h:r <:+bs) (i:Nat):aU bs (pos bs r+i)=pk r i:=by unfold aU pk;rw[ly h] <;> cases r[i]? <;> rfl
theorem dn (r:Bs) (i:Nat): -1≤pk r i∧pk r i≤255:=by
 unfold pk;split
 ·rename_i b _;have:=dK b;omega
 ·omega
section
variable {L:Nat}{A:Option Addr}{c:Nat}{bs:Bs}{D P:Value}{w w':World}{r r':Bs}
theorem fw (h:LX L A c bs D P w r) (i:Nat) (hi:i≤1000) :
 Calls Tryz.prog 68 #[.pointer (some ⟨L,0,none⟩),.int .i64 (i:Nat)] w fun e w'=>e=.returned (.int .i64 (pk r i))∧Below w.heap.size w w':=by
 have c0:=fun W (hW:Below w.heap.size w W)=>qZ A c bs W (h.byt.below hW) (pos bs r+i) h.small (by have:=aE bs r;have:=h.small;omega)
 rw[iB h.suf]at c0;have h0:=h.blk.cell 0;have h1:=h.blk.cell 1;have hle:=aE bs r;have hsm:=h.small;obtain⟨m,hm⟩:∃m,m=bs.length:=⟨_,rfl⟩;rw[←hm]at h0 h1 c0 hle hsm;obtain⟨p,hp⟩:∃p,p=pos bs r:=⟨_,rfl⟩;rw[←hp]at h1 c0 hle;obtain⟨S,hS⟩:∃S,S=pk r i:=⟨_,rfl⟩;rw[←hS]at c0⊢;refine h4_ h hm hp hS ?_;clear h hm hp hS;intro h hm hp hS;have hsum:((p+i:Nat):Int)=(p:Int)+(i:Int):=by omega
 rw[hsum]at c0;replace hsum:=hi_ hsum;have hwr:IntKind.i64.wrap ((p:Int)+(i:Int))=(p:Int)+(i:Int):=IntWalk.i64_in _ (by omega);go_enter Tryz.func68,Tryz.ntmps68;go_wp2
 go_region_with (go_at_call 35;(with_reducible refine (c0 _ (by first|exact (Below.refl _ _).drew|exact Below.refl _ _)).mono ?_);rintro e w1 ⟨rfl,hB⟩;replace hB:=hi_ hB)
 all_goals go_wp2
 all_goals go_ret
 all_goals exact⟨rfl,(Below.refl _ _).drew.trans hB.out⟩
end
def gh (x:Int):Bool:=(x == 0) || (x == 9) || (x == 10) || (x == 12) || (x == 13) || (x == 32)
def rgI (x:Int):Bool:=!(decide (x<0) || decide (255<x) || gh x || ((x == 40) || (x == 41) || (x == 60) || (x == 62) || (x == 91) || (x == 93) || (x == 123) || (x == 125) || (x == 47) || (x == 37)))
theorem aq (c n:UInt8):(c == n)=((c.toNat:Int) == (n.toNat:Int)):=by
 rw[Bool.eq_iff_iff];simp only[beq_iff_eq];exact⟨fun h=>by rw[h],fun h=>UInt8.toNat_inj.1 (by omega)⟩
theorem eC (c:UInt8):gh (c.toNat:Int)=aY c:=by
 unfold gh aY;rw[aq c 0,aq c 9,aq c 10,aq c 12,aq c 13,aq c 32];rfl
theorem jh (c:UInt8):rgI (c.toNat:Int)=bu c:=by
 have h1:decide ((c.toNat:Int)<0)=false:=by simp
 have h2:decide ((255:Int)<(c.toNat:Int))=false:=by have:=c.toNat_lt;simp;omega
 unfold rgI;rw[h1,h2,eC];unfold bu aY;rw[aq c 40,aq c 41,aq c 60,aq c 62,aq c 91,aq c 93,aq c 123,aq c 125,aq c 47,aq c 37];simp only[Bool.false_or,Bool.or_assoc]
 rfl
def eR:Bs→Bool
 |[]=>false
 |c :: _=>bu c
theorem pg (r:Bs):rgI (pk r 0)=eR r:=by
 cases r with
 |nil=>rfl
 |cons c t=>simp only[pk,List.getElem?_cons_zero,eR];exact jh c
theorem ft {w:World}(x:Int):Calls Tryz.prog 34 #[.int .i64 x] w fun e w'=>e=.returned (.bool (gh x))∧w=w':=by
 have h:gh x=((x == 0) || (x == 9) || (x == 10) || (x == 12) || (x == 13) || (x == 32)):=rfl;replace h:=hi_ h;generalize gh x=B at *;go_enter Tryz.func34,Tryz.ntmps34;go_wp2
 all_goals go_ret
 all_goals (refine⟨congrArg (fun b=>Ending.returned (.bool b)) ?_,rfl⟩;first|(rw[h.out,Bool.eq_iff_iff];done)|(rw[h.out,Bool.eq_iff_iff];simp;done)|(rw[h.out,Bool.eq_iff_iff];simp;omega))
theorem fs {w:World}(x:Int) (hx: -1≤x∧x≤255):Calls Tryz.prog 192 #[.int .i64 x] w fun e w'=>e=.returned (.int .i64 (bM x))∧w=w':=by
 have h:bM x=if 48≤x∧x≤57 then x - 48 else if 97≤x∧x≤102 then x - 87 else if 65≤x∧x≤70 then x - 55 else -1:=rfl
 replace h:=hi_ h;generalize bM x=B at *;go_enter Tryz.func192,Tryz.ntmps192;go_wp2
 all_goals go_ret
 all_goals
  refine⟨congrArg (fun b=>Ending.returned (.int .i64 b)) ?_,rfl⟩;have:=h.out;split at this
  ·omega
  split at this
  ·omega
  split at this <;> omega
theorem bV {w:World}(x:Int) (hx: -1≤x∧x≤255):Calls Tryz.prog 67 #[.int .i64 x] w fun e w'=>e=.returned (.bool (rgI x))∧w=w':=by
 have h:rgI x=!(decide (x<0) || decide (255<x) || gh x || ((x == 40) || (x == 41) || (x == 60) || (x == 62) || (x == 91) || (x == 93) || (x == 123) || (x == 125) || (x == 47) || (x == 37))):=rfl;have cw:=ft (w:=w) x;replace h:=hi_ h;generalize rgI x=B at *;generalize gh x=V at *;go_enter Tryz.func67,Tryz.ntmps67;go_wp2_with (go_at_call 34;(with_reducible refine cw.mono ?_);rintro e w1 ⟨rfl,rfl⟩)
 all_goals go_ret
 all_goals (refine⟨congrArg (fun b=>Ending.returned (.bool b)) ?_,rfl⟩;rw[h.out];cases V <;> first|(exfalso;simp_all;done)|(exfalso;simp_all;omega)|(rw[Bool.eq_iff_iff];simp;done)|(rw[Bool.eq_iff_iff];simp;omega)|(rw[Bool.eq_iff_iff];simp_all;done)|(rw[Bool.eq_iff_iff];simp_all;omega))
end
end Go.Proofs.YthffpbkndnhlfaaGreatDoor
