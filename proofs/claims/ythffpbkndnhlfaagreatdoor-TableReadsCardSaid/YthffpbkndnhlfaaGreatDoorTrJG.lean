/- Walks and laws, joined: part G. No condition. -/
import Derived.Test.YthffpbkndnhlfaaGreatDoorTrJF
import Derived.Shelf.Strings.Builder1
import Derived.Shelf.Strings.Builder2
import Derived.Shelf.Strings.Trim
import Derived.Shelf.Small.Utf8
import Derived.Shelf.Small.Strs
import Derived.Shelf.Strings.BuilderF
import Derived.Shelf.Strings.BuilderK
import Derived.Shelf.Strings.Builder2Cap
import Derived.Shelf.Strconv.Itoa0
import Derived.Shelf.Strconv.Itoa1
import Derived.Shelf.LaysM
import Derived.Shelf.Strconv.Itoa2
import Derived.Shelf.Strconv.Itoa3
import Derived.Shelf.Strconv.Itoa4
import Derived.Shelf.Strings.Search1
import Derived.Shelf.Strings.Search2
import Derived.Shelf.Strings.Search3
import Derived.Shelf.Strings.Shaped
import Derived.Shelf.Strings.Prefix
import Derived.Shelf.Unicode.Decode
import Derived.Shelf.Strings.Runes
import Derived.Shelf.Strings.AsciiSet
import Derived.Shelf.Bits.Mul64
import Derived.Shelf.Strings.Repeat
import Derived.Shelf.Unicode.DecodeSlow
import Derived.Shelf.Unicode.DecodeAny
import Derived.Shelf.Unicode.DecodeLast
import Derived.Shelf.Strings.BuilderCap
import Derived.Shelf.Bytes.SlClone
import Derived.Shelf.Bytes.SlJoin
import Derived.Test.YthffpbkndnhlfaaGreatDoorProg
import Derived.Test.YthffpbkndnhlfaaGreatDoorTrJA
import Derived.Maps.AppendAt
import Derived.Deep.CutBlock
set_option linter.unusedSimpArgs false
set_option linter.unusedVariables false
set_option maxRecDepth 100000
set_option maxHeartbeats 32000000
namespace Go.Proofs
section
open Go.Shelf
def Tryz.laysM171_ren:Go.Shelf.Ren:=⟨fun|171=>77|243=>108|246=>143|283=>176|284=>177|285=>178|286=>179|129=>201|317=>200|318=>202|319=>203|320=>204|337=>217|338=>218|n=>n,fun|3=>3|9=>9|2=>2|4=>4|171=>212|0=>0|53=>163|37=>22|5=>5|173=>215|212=>236|51=>185|20=>20|213=>237|46=>151|232=>248|233=>249|n=>n,fun|17=>1|18=>2|19=>3|n=>n⟩
theorem Tryz.laysM171:Go.Proofs.LaysM.n171 Tryz.prog Tryz.laysM171_ren:={
 mixed:=by kernel_rfl
 f129:=Tryz.func201.trans (congrArg some (by kernel_rfl))
 f171:=Tryz.func77.trans (congrArg some (by kernel_rfl))
 f243:=Tryz.func108.trans (congrArg some (by kernel_rfl))
 f246:=Tryz.func143.trans (congrArg some (by kernel_rfl))
 f283:=Tryz.func176.trans (congrArg some (by kernel_rfl))
 f284:=Tryz.func177.trans (congrArg some (by kernel_rfl))
 f285:=Tryz.func178.trans (congrArg some (by kernel_rfl))
 f286:=Tryz.func179.trans (congrArg some (by kernel_rfl))
 f317:=Tryz.func200.trans (congrArg some (by kernel_rfl))
 f318:=Tryz.func202.trans (congrArg some (by kernel_rfl))
 f319:=Tryz.func203.trans (congrArg some (by kernel_rfl))
 f320:=Tryz.func204.trans (congrArg some (by kernel_rfl))
 f337:=Tryz.func217.trans (congrArg some (by kernel_rfl))
 f338:=Tryz.func218.trans (congrArg some (by kernel_rfl))
 t0:=Tryz.underlying0
 a0:=Tryz.isAgg0
 z0:=Tryz.sizeOf0
 v0:=Tryz.zeroValue0
 t2:=Tryz.underlying2
 a2:=Tryz.isAgg2
 z2:=Tryz.sizeOf2
 v2:=Tryz.zeroValue2
 t3:=Tryz.underlying3
 a3:=Tryz.isAgg3
 z3:=Tryz.sizeOf3
 v3:=Tryz.zeroValue3
 t4:=Tryz.underlying4
 a4:=Tryz.isAgg4
 z4:=Tryz.sizeOf4
 v4:=Tryz.zeroValue4
 t5:=Tryz.underlying5
 a5:=Tryz.isAgg5
 z5:=Tryz.sizeOf5
 v5:=Tryz.zeroValue5
 t9:=Tryz.underlying9
 a9:=Tryz.isAgg9
 z9:=Tryz.sizeOf9
 v9:=Tryz.zeroValue9
 t20:=Tryz.underlying20
 a20:=Tryz.isAgg20
 z20:=Tryz.sizeOf20
 v20:=Tryz.zeroValue20
 t37:=Tryz.underlying22
 a37:=Tryz.isAgg22
 z37:=Tryz.sizeOf22
 v37:=Tryz.zeroValue22
 t46:=Tryz.underlying151
 a46:=Tryz.isAgg151
 z46:=Tryz.sizeOf151
 v46:=Tryz.zeroValue151
 t51:=Tryz.underlying185
 a51:=Tryz.isAgg185
 z51:=Tryz.sizeOf185
 v51:=Tryz.zeroValue185
 t53:=Tryz.underlying163
 a53:=Tryz.isAgg163
 z53:=Tryz.sizeOf163
 v53:=Tryz.zeroValue163
 t171:=Tryz.underlying212
 a171:=Tryz.isAgg212
 z171:=Tryz.sizeOf212
 v171:=Tryz.zeroValue212
 t173:=Tryz.underlying215
 a173:=Tryz.isAgg215
 z173:=Tryz.sizeOf215
 v173:=Tryz.zeroValue215
 t212:=Tryz.underlying236
 a212:=Tryz.isAgg236
 z212:=Tryz.sizeOf236
 v212:=Tryz.zeroValue236
 t213:=Tryz.underlying237
 a213:=Tryz.isAgg237
 z213:=Tryz.sizeOf237
 t232:=Tryz.underlying248
 a232:=Tryz.isAgg248
 z232:=Tryz.sizeOf248
 v232:=Tryz.zeroValue248
 t233:=Tryz.underlying249
 a233:=Tryz.isAgg249
 z233:=Tryz.sizeOf249
 v233:=Tryz.zeroValue249
 g17:=by kernel_rfl
 g18:=by kernel_rfl
 g19:=by kernel_rfl
 i0:=by kernel_rfl
 i2:=by kernel_rfl
 i3:=by kernel_rfl
 i4:=by kernel_rfl
 i5:=by kernel_rfl
 i9:=by kernel_rfl
 i20:=by kernel_rfl
 i37:=by kernel_rfl
 i46:=by kernel_rfl
 i51:=by kernel_rfl
 i53:=by kernel_rfl
 i171:=by kernel_rfl
 i173:=by kernel_rfl
 i212:=by kernel_rfl
 i232:=by kernel_rfl
 i233:=by kernel_rfl
 m17:=by kernel_rfl
 m18:=by kernel_rfl
 m19:=by kernel_rfl}
open Go.RowKit Go.Sort Go.Lib in
theorem Tryz.strconv_Itoa (n:Int) (h0: -9223372036854775808≤n) (h1:n≤9223372036854775807) (w:World) (htab:Lib.TabIs Tryz.prog w "internal/strconv.uint64pow10" .u64 Lib.pow10Tab) :
 Calls Tryz.prog 77 #[.int .i64 n] w fun e w'=>e=.returned (.string ⟨(Lib.itoa n).toArray⟩)∧∃k os,w'=grow (w.drewN k) os:=Any.strconv_Itoa Tryz.laysM171 n h0 h1 w htab
def Tryz.lays105_ren:Go.Shelf.Ren:=⟨fun|105=>78|212=>109|99=>110|165=>111|166=>112|170=>113|169=>114|263=>144|264=>145|206=>146|240=>147|241=>148|276=>180|277=>181|n=>n,fun|9=>9|3=>3|4=>4|20=>20|0=>0|46=>151|109=>152|5=>5|72=>157|76=>161|51=>185|146=>186|53=>163|148=>188|70=>155|37=>22|75=>160|127=>190|164=>197|80=>100|n=>n,fun|n=>n⟩
theorem Tryz.lays105:Go.Proofs.Lays.n105 Tryz.prog Tryz.lays105_ren:={
 mixed:=by kernel_rfl
 f99:=Tryz.func110.trans (congrArg some (by kernel_rfl))
 f105:=Tryz.func78.trans (congrArg some (by kernel_rfl))
 f165:=Tryz.func111.trans (congrArg some (by kernel_rfl))
 f166:=Tryz.func112.trans (congrArg some (by kernel_rfl))
 f169:=Tryz.func114.trans (congrArg some (by kernel_rfl))
 f170:=Tryz.func113.trans (congrArg some (by kernel_rfl))
 f206:=Tryz.func146.trans (congrArg some (by kernel_rfl))
 f212:=Tryz.func109.trans (congrArg some (by kernel_rfl))
 f240:=Tryz.func147.trans (congrArg some (by kernel_rfl))
 f241:=Tryz.func148.trans (congrArg some (by kernel_rfl))
 f263:=Tryz.func144.trans (congrArg some (by kernel_rfl))
 f264:=Tryz.func145.trans (congrArg some (by kernel_rfl))
 f276:=Tryz.func180.trans (congrArg some (by kernel_rfl))
 f277:=Tryz.func181.trans (congrArg some (by kernel_rfl))
 t0:=Tryz.underlying0
 a0:=Tryz.isAgg0
 z0:=Tryz.sizeOf0
 v0:=Tryz.zeroValue0
 t3:=Tryz.underlying3
 a3:=Tryz.isAgg3
 z3:=Tryz.sizeOf3
 v3:=Tryz.zeroValue3
 t4:=Tryz.underlying4
 a4:=Tryz.isAgg4
 z4:=Tryz.sizeOf4
 v4:=Tryz.zeroValue4
 t5:=Tryz.underlying5
 a5:=Tryz.isAgg5
 z5:=Tryz.sizeOf5
 v5:=Tryz.zeroValue5
 t9:=Tryz.underlying9
 a9:=Tryz.isAgg9
 z9:=Tryz.sizeOf9
 v9:=Tryz.zeroValue9
 t20:=Tryz.underlying20
 a20:=Tryz.isAgg20
 z20:=Tryz.sizeOf20
 v20:=Tryz.zeroValue20
 t37:=Tryz.underlying22
 a37:=Tryz.isAgg22
 z37:=Tryz.sizeOf22
 v37:=Tryz.zeroValue22
 t46:=Tryz.underlying151
 a46:=Tryz.isAgg151
 z46:=Tryz.sizeOf151
 v46:=Tryz.zeroValue151
 t51:=Tryz.underlying185
 a51:=Tryz.isAgg185
 z51:=Tryz.sizeOf185
 v51:=Tryz.zeroValue185
 t53:=Tryz.underlying163
 a53:=Tryz.isAgg163
 z53:=Tryz.sizeOf163
 v53:=Tryz.zeroValue163
 t70:=Tryz.underlying155
 a70:=Tryz.isAgg155
 z70:=Tryz.sizeOf155
 v70:=Tryz.zeroValue155
 t72:=Tryz.underlying157
 a72:=Tryz.isAgg157
 z72:=Tryz.sizeOf157
 v72:=Tryz.zeroValue157
 t75:=Tryz.underlying160
 a75:=Tryz.isAgg160
 z75:=Tryz.sizeOf160
 v75:=Tryz.zeroValue160
 t76:=Tryz.underlying161
 a76:=Tryz.isAgg161
 z76:=Tryz.sizeOf161
 v76:=Tryz.zeroValue161
 t109:=Tryz.underlying152
 a109:=Tryz.isAgg152
 z109:=Tryz.sizeOf152
 v109:=Tryz.zeroValue152
 t127:=Tryz.underlying190
 a127:=Tryz.isAgg190
 z127:=Tryz.sizeOf190
 v127:=Tryz.zeroValue190
 t146:=Tryz.underlying186
 a146:=Tryz.isAgg186
 z146:=Tryz.sizeOf186
 v146:=Tryz.zeroValue186
 t148:=Tryz.underlying188
 a148:=Tryz.isAgg188
 z148:=Tryz.sizeOf188
 v148:=Tryz.zeroValue188
 t164:=Tryz.underlying197
 a164:=Tryz.isAgg197
 z164:=Tryz.sizeOf197
 v164:=Tryz.zeroValue197}
theorem Tryz.Builder_Extra_105:Builder.Extra Tryz.prog Tryz.lays105_ren:={
 sizeBuilder:=by kernel_rfl
 liesBuilder:=by kernel_rfl
 t5:=Tryz.underlying5
 a5:=Tryz.isAgg5
 z5:=Tryz.sizeOf5
 v5:=Tryz.zeroValue5
 infoByte:=by kernel_rfl
 cellsByte:=by kernel_rfl
 sizeByte:=by kernel_rfl
 neB5:=by decide}
open Go.RowKit Go.Lib in
theorem Tryz.strings_Repeat (s:ByteArray) (c:Nat) (w:World) (hc:c≤9223372036854775807) (hlen:s.size*c≤140737488355328) :
 Calls Tryz.prog 78 #[.string s,.int .i64 c] w fun e w'=>e=.returned (.string ⟨(Lib.repeatL s.data.toList c).toArray⟩)∧Below w.heap.size w w':=Any.strings_Repeat Tryz.lays105 Tryz.Builder_Extra_105 s c w hc hlen
end
end Go.Proofs
namespace Go.Proofs.YthffpbkndnhlfaaGreatDoor
open Go Go.RowKit Go.Wk
def jU (n:Int) (k:Nat):List UInt8:=List.replicate (k - (Lib.itoa n).length) 48++Lib.itoa n
theorem lZ (n:Int) (h:i64 n):(Lib.itoa n).length≤28:=gJ n true h
theorem jV (n:Int) (h:i64 n) (k:Nat) (hk:k≤100):(jU n k).length≤128:=by
 have:=lZ n h;unfold jU;simp only[List.length_append,List.length_replicate];omega
theorem mm (c:Nat):Lib.repeatL [48] c=List.replicate c 48:=by
 induction c with
 |zero=>rfl
 |succ c ih=>rw[List.replicate_succ];simp[Lib.repeatL,ih]at *
theorem pC (n:Int) (h:i64 n) (w:World) (htab:Tab w) :
 Calls Tryz.prog 77 #[.int .i64 n] w fun e w'=>e=.returned (.string ⟨(Lib.itoa n).toArray⟩)∧Below w.heap.size w w':=by
 refine (Tryz.strconv_Itoa n h.1 h.2 w htab).mono ?_;rintro e w' ⟨rfl,k,os,rfl⟩;exact⟨rfl,kL w os k⟩
theorem ej (n:Int) (h:i64 n) (k:Nat) (hk:k≤100) (w:World) (htab:Tab w) (D:ByteArray) (hD:D=⟨(jU n k).toArray⟩) :
 Calls Tryz.prog 43 #[.int .i64 n,.int .i64 k] w fun e w'=>e=.returned (.string D)∧Below w.heap.size w w':=by
 have c:=pC n h w htab;have hl:=lZ n h;obtain⟨S,hS⟩:∃S:ByteArray,S=⟨(Lib.itoa n).toArray⟩:=⟨_,rfl⟩;rw[←hS]at c;have hSz:S.size=(Lib.itoa n).length:=by rw[hS];simp[ByteArray.size]
 obtain⟨m,hm⟩:∃m,m=S.size:=⟨_,rfl⟩;have zm:m≤28:=by omega
 obtain⟨q,hq⟩:∃q:Nat,q=k - m:=⟨_,rfl⟩;have cr:=fun W=>Tryz.strings_Repeat ⟨#[48]⟩ q W (by omega) (by show 1*q≤_;omega)
 obtain⟨R,hR⟩:∃R:ByteArray,R=⟨(Lib.repeatL [48] q).toArray⟩:=⟨_,rfl⟩;have cr2:∀W,Calls Tryz.prog 78 #[.string ⟨#[48]⟩,.int .i64 q] W fun e w'=>e=.returned (.string R)∧Below W.heap.size W w':=by rw[hR];exact cr
 have hRS:R++S=D:=by
  apply fG
  rw[eH,hR,hS,hD,mm];unfold jU;rw[hq,hm,hSz]
 have hRz:R.size=q:=by rw[hR,mm];show (List.replicate q _).toArray.size=q;simp
 clear cr hS hR hSz hD;replace hRS:=hi_ hRS;replace cr2:=hi_ cr2;have zS:S.size≤28:=by omega
 have zR:R.size≤100:=by omega
 replace hRz:=hi_ hRz;have hmx:(max 0 ((k:Int) - (S.size:Int)))=(q:Int):=by omega
 replace hm:=hi_ hm;replace hq:=hi_ hq;go_enter Tryz.func43,Tryz.ntmps43;go_wp2_with (first
  |(go_at_call 77;(with_reducible refine c.mono ?_);rintro e w2 ⟨rfl,hB2⟩;have c78:=cr2.out w2;replace hB2:=hi_ hB2)
  |(go_at_call 78;(with_reducible refine c78.mono ?_);rintro e w3 ⟨rfl,hB3⟩;replace hB3:=hi_ hB3))
 go_ret
 exact⟨by rw[hRS.out];rfl,ah hB2.out hB3.out⟩
structure R4 where
 n:Int
 k:Int
 a:Int
 g:Int
def rv (r:R4):List Value:=[.int .i64 r.n,.int .i64 r.k,.int .i64 r.a,.int .i64 r.g]
def R4.ok (r:R4):Prop:=i64 r.n∧i64 r.k∧i64 r.a∧i64 r.g
def sy (r:R4):Bool:=(r.k == 0 || r.k == 1) && decide (0≤r.n) && decide (r.n≤8388607) && decide (0≤r.a) && decide (r.a≤9999999999) && decide (0≤r.g) && decide (r.g≤65535)
def ui (r:R4):List UInt8:=((jU r.a 10++[32])++jU r.g 5)++(if r.k=1 then [32,110,32,10] else [32,102,32,10])
theorem cY {w:World}{v0 v1 v2 v3:Value}{t:TypeId}{W:World}(hW:W=w.alloc (.cells #[v0,v1,v2,v3] t)) :
 W.cell? ⟨w.heap.size,0,none⟩=some v0∧W.cell? ⟨w.heap.size,1,none⟩=some v1∧W.cell? ⟨w.heap.size,2,none⟩=some v2∧W.cell? ⟨w.heap.size,3,none⟩=some v3:=by
 subst hW;refine⟨?_,?_,?_,?_⟩ <;> simp
theorem dY {p:Nat}{v0 v1 v2 v3:Value}{W W':World}(h:W.cell? ⟨p,0,none⟩=some v0∧W.cell? ⟨p,1,none⟩=some v1∧W.cell? ⟨p,2,none⟩=some v2∧W.cell? ⟨p,3,none⟩=some v3) (hb:Below W.heap.size W W') :
 W'.cell? ⟨p,0,none⟩=some v0∧W'.cell? ⟨p,1,none⟩=some v1∧W'.cell? ⟨p,2,none⟩=some v2∧W'.cell? ⟨p,3,none⟩=some v3:=
 ⟨(hb.cell (ac h.1)).trans h.1,(hb.cell (ac h.2.1)).trans h.2.1,(hb.cell (ac h.2.2.1)).trans h.2.2.1,(hb.cell (ac h.2.2.2)).trans h.2.2.2⟩
theorem rn (r:R4) (w:World):Calls Tryz.prog 40 #[.agg (rv r).toArray] w fun e w'=>e=.returned (.bool (sy r))∧Below w.heap.size w w':=by
 obtain⟨n,k,a,g⟩:=r;have hb:Below w.heap.size w (w.alloc (.cells #[.int .i64 n,.int .i64 k,.int .i64 a,.int .i64 g] 64)):=(Below.refl _ _).alloc (Nat.le_refl _) _;obtain⟨W1,hW1⟩:∃W,W=w.alloc (.cells #[.int .i64 n,.int .i64 k,.int .i64 a,.int .i64 g] 64):=⟨_,rfl⟩;rw[←hW1]at hb;obtain⟨c0,c1,c2,c3⟩:=cY hW1;obtain⟨mb,hmb⟩:∃mb,mb=sy ⟨n,k,a,g⟩:=⟨_,rfl⟩;rw[←hmb];simp only[sy]at hmb;replace hb:=hi_ hb;show Calls Tryz.prog 40 #[.agg #[.int .i64 n,.int .i64 k,.int .i64 a,.int .i64 g]] w fun e w'=>e=.returned (.bool mb)∧Below w.heap.size w w'
 have hk:(k == 0 || k == 1)=false∨(k == 0)=true∨((k == 0)=false∧(k == 1)=true):=by
  cases h0:(k == 0) <;> cases h1:(k == 1) <;> simp_all
 rcases hk with hk|hk
 ·rw[hk]at hmb
  simp only[Bool.false_and]at hmb;subst hmb;have h0:(k == 0)=false:=by simpa using (Bool.or_eq_false_iff.1 hk).1
  have h1:(k == 1)=false:=by simpa using (Bool.or_eq_false_iff.1 hk).2
  clear hk;go_enter Tryz.func40,Tryz.ntmps40;go_upto_region 1 with (fail)
  rw[←hW1];replace hW1:=hi_ hW1;go_wp2
  go_ret
  exact⟨rfl,hb.out⟩
 have ht:∀b,mb=b→(decide (0≤n) && decide (n≤8388607) && decide (0≤a) && decide (a≤9999999999) && decide (0≤g) && decide (g≤65535))=b:=by
  intro b hb';rw[←hb',hmb];rcases hk with h|⟨h,h'⟩
  ·rw[h];simp
  ·rw[h,h'];simp
 replace ht:=ht mb rfl;clear hmb;by_cases t1:0≤n
 case neg=>
  have e1:decide (0≤n)=false:=decide_eq_false t1;simp only[e1,Bool.false_and]at ht;subst ht;rcases hk with h0|⟨h0,h1⟩
  all_goals
   go_enter Tryz.func40,Tryz.ntmps40;go_upto_region 1 with (fail)
   rw[←hW1];replace hW1:=hi_ hW1;go_wp2
   go_ret
   exact⟨rfl,hb.out⟩
 have e1:decide (0≤n)=true:=decide_eq_true t1;by_cases t2:n≤8388607
 case neg=>
  have e2:decide (n≤8388607)=false:=decide_eq_false t2;simp only[e1,e2,Bool.false_and,Bool.true_and,Bool.and_false,Bool.and_true]at ht;subst ht;rcases hk with h0|⟨h0,h1⟩
  all_goals
   go_enter Tryz.func40,Tryz.ntmps40;go_upto_region 1 with (fail)
   rw[←hW1];replace hW1:=hi_ hW1;go_wp2
   go_ret
   exact⟨rfl,hb.out⟩
 have e2:decide (n≤8388607)=true:=decide_eq_true t2;by_cases t3:0≤a
 case neg=>
  have e3:decide (0≤a)=false:=decide_eq_false t3;simp only[e1,e2,e3,Bool.false_and,Bool.true_and,Bool.and_false,Bool.and_true]at ht;subst ht;rcases hk with h0|⟨h0,h1⟩
  all_goals
   go_enter Tryz.func40,Tryz.ntmps40;go_upto_region 1 with (fail)
   rw[←hW1];replace hW1:=hi_ hW1;go_wp2
   go_ret
   exact⟨rfl,hb.out⟩
 have e3:decide (0≤a)=true:=decide_eq_true t3;by_cases t4:a≤9999999999
 case neg=>
  have e4:decide (a≤9999999999)=false:=decide_eq_false t4;simp only[e1,e2,e3,e4,Bool.false_and,Bool.true_and,Bool.and_false,Bool.and_true]at ht;subst ht;rcases hk with h0|⟨h0,h1⟩
  all_goals
   go_enter Tryz.func40,Tryz.ntmps40;go_upto_region 1 with (fail)
   rw[←hW1];replace hW1:=hi_ hW1;go_wp2
   go_ret
   exact⟨rfl,hb.out⟩
 have e4:decide (a≤9999999999)=true:=decide_eq_true t4;by_cases t5:0≤g
 case neg=>
  have e5:decide (0≤g)=false:=decide_eq_false t5;simp only[e1,e2,e3,e4,e5,Bool.false_and,Bool.true_and,Bool.and_false,Bool.and_true]at ht;subst ht;rcases hk with h0|⟨h0,h1⟩
  all_goals
   go_enter Tryz.func40,Tryz.ntmps40;go_upto_region 1 with (fail)
   rw[←hW1];replace hW1:=hi_ hW1;go_wp2
   go_ret
   exact⟨rfl,hb.out⟩
 have e5:decide (0≤g)=true:=decide_eq_true t5;by_cases t6:g≤65535
 case neg=>
  have e6:decide (g≤65535)=false:=decide_eq_false t6;simp only[e1,e2,e3,e4,e5,e6,Bool.false_and,Bool.true_and,Bool.and_false,Bool.and_true]at ht;subst ht;rcases hk with h0|⟨h0,h1⟩
  all_goals
   go_enter Tryz.func40,Tryz.ntmps40;go_upto_region 1 with (fail)
   rw[←hW1];replace hW1:=hi_ hW1;go_wp2
   go_ret
   exact⟨rfl,hb.out⟩
 have e6:decide (g≤65535)=true:=decide_eq_true t6;simp only[e1,e2,e3,e4,e5,e6,Bool.true_and,Bool.and_true]at ht;subst ht;rcases hk with h0|⟨h0,h1⟩
 all_goals
  go_enter Tryz.func40,Tryz.ntmps40;go_upto_region 1 with (fail)
  rw[←hW1];replace hW1:=hi_ hW1;go_wp2
  go_ret
  exact⟨rfl,hb.out⟩
section
open Go Go.RowKit Go.Wk Go.Rd Go.Fx
def gB:Nat→Bs→Option Nat
 |n,[]=>some n
 |n,c :: r=>if 48≤c.toNat∧c.toNat≤57 then gB (10*n+(c.toNat - 48)) r else none
def ju (b:Bs):Option Nat:=gB 0 b
def mG (e:Bs):Bool:=e == [32,13] || e == [32,10] || e == [13,10]
def kQ (b:Bs):Option (Int×Int×Int):=match ju (b.take 10),ju ((b.drop 11).take 5) with
 |some a,some g=>if mG (b.drop 18) && b[10]? == some 32 && b[16]? == some 32 && (b[17]? == some 110 || b[17]? == some 102) then some (if b[17]?=some 110 then 1 else 0,a,g) else none
 |_,_=>none
theorem oe:∀(b:Bs) (n m:Nat) (k:Nat),gB n b=some m→n<10 ^ k→m<10 ^ (k+b.length)
 |[],n,m,k,h,hn=>by rw[gB]at h;cases h;simpa using hn
 |c :: r,n,m,k,h,hn=>by
  rw[gB]at h;split at h
  ·rename_i hc
   have:=oe r _ m (k+1) h (by rw[Nat.pow_succ];omega);rw[List.length_cons];rw[show k+(r.length+1)=k+1+r.length by omega];exact this
  ·cases h
def jR:Option Nat→Int×Bool
 |some n=>((n:Int),true)
 |none=>(0,false)
def bN (b:Bs):Int×Bool:=jR (ju b)
theorem jP {b:Bs}(h:b.length≤10):0≤(bN b).1∧(bN b).1≤9999999999:=by
 unfold bN;cases hd:ju b with
 |none=>simp[jR]
 |some n=>
  have h1:=oe b 0 n 0 hd (by simp);rw[Nat.zero_add]at h1;have h2:10 ^ b.length≤10 ^ 10:=Nat.pow_le_pow_right (by omega) h;simp only[jR];omega
theorem gX (A:Option Addr) (c:Nat) (b:Bs) (hb:b.length≤10) (W:World) (hby:Byt W A b):Calls Tryz.prog 88 #[.slice A b.length c] W fun e w'=>e=.returned (.tuple #[.int .i64 (bN b).1,.bool (bN b).2])∧W=w':=by
 obtain⟨n,hn⟩:∃n,n=b.length:=⟨_,rfl⟩;obtain⟨K,hK⟩:∃K,K=ju b:=⟨_,rfl⟩;have hnum:bN b=jR K:=by rw[hK];rfl
 rw[←hn];rw[←hn]at hb;obtain⟨N1,hN1⟩:∃x,x=(bN b).1:=⟨_,rfl⟩;obtain⟨N2,hN2⟩:∃x,x=(bN b).2:=⟨_,rfl⟩;rw[←hN1,←hN2];rw[hnum]at hN1 hN2;refine h5_ hn hK hN1 hN2 hby ?_;clear hn hK hN1 hN2 hby;intro hn hK hN1 hN2 hby
 clear hnum;go_enter Tryz.func88,Tryz.ntmps88;go_wp2
 go_loopw [4,9] (fun s4 s9 wr=>∃(i m:Nat),i≤n∧s9=.int .i64 i∧s4=.int .i64 m∧gB m (b.drop i)=K∧m<10 ^ i∧wr=W) (fun _ s9 _=>n - (RowKit.intOf s9).toNat)
 case atStart=>exact⟨0,0,by omega,rfl,rfl,hK.out.symm,by simp,rfl⟩
 case round=>
  obtain⟨i,m,hi,rfl,rfl,hE,hm,rfl⟩:=hrel;by_cases hin:i<n
  ·have hil:i<b.length:=by rw[←hn.out];exact hin
   obtain⟨g,o,hA,hc⟩:=hby.out.2 (by omega);subst hA;obtain⟨x,hx⟩:∃x,x=b[i]:=⟨_,rfl⟩;have c0:=hc i hil;rw[←hx]at c0;have hE2:=hE;rw[List.drop_eq_getElem_cons hil,gB,←hx]at hE2;have hx2:=x.toNat_lt;have hp:10 ^ i≤10 ^ 9:=Nat.pow_le_pow_right (by omega) (by omega);have hm9:m≤999999999:=by omega
   have hms:(10*m+(x.toNat - 48))<10 ^ (i+1)∨¬x.toNat≤57:=by rw[Nat.pow_succ];omega
   obtain⟨X,hX⟩:∃X:Int,X=(x.toNat:Nat):=⟨_,rfl⟩;obtain⟨M,hM⟩:∃M:Int,M=(m:Nat):=⟨_,rfl⟩;rw[←hX]at c0;rw[←hM];have hX0:0≤X:=by omega
   have hX1:X<256:=by omega
   have hM0:0≤M:=by omega
   have hM1:M≤999999999:=by omega
   refine h7_ hX hM hx hE2 hms hm hc ?_;clear hX hM hx hE2 hms hm hc;intro hX hM hx hE2 hms hm hc;clear hE hp hm9 hx2;by_cases h48:X<48
   ·obtain rfl:K=none:=by rw[←hE2.out,if_neg (by have:=hX.out;omega)]
    go_wp2
    go_ret2
    exact⟨by rw[hN1.out,hN2.out];rfl,rfl⟩
   ·by_cases h57:57<X
    ·obtain rfl:K=none:=by rw[←hE2.out,if_neg (by have:=hX.out;omega)]
     go_wp2
     go_ret2
     exact⟨by rw[hN1.out,hN2.out];rfl,rfl⟩
    ·have hE3:=hE2.out
     rw[if_pos (by have:=hX.out;omega)]at hE3;have hw1:IntKind.u8.wrap (X - 48)=X - 48:=by rw[IntWalk.u8_in _ (by omega)]
     go_wp2
     go_roundw
     case rel=>
      refine⟨i+1,10*m+(x.toNat - 48),by omega,by go_num,?_,hE3,by have:=hms.out;have:=hX.out;omega,trivial⟩;have:=hX.out;have:=hM.out
      congr 1
      omega
     case measure=>simp[RowKit.intOf];omega
  ·obtain rfl:i=n:=by omega
   have hE3:K=some m:=by rw[←hE,hn.out,List.drop_length,gB]
   subst hE3;go_wp2
   go_ret2
   exact⟨by rw[hN1.out,hN2.out];rfl,rfl⟩
theorem ef {w:World}{g o:Nat}{b:Bs}(h:Byt w (some ⟨g,o,none⟩) b) (i n:Nat) (hi:i+n≤b.length):Byt w (some ⟨g,o+i,none⟩) ((b.drop i).take n):=by
 refine⟨by have:=h.1;simp only[List.length_take,List.length_drop];omega,fun h0=>⟨g,o+i,rfl,fun j hj=>?_⟩⟩;simp only[List.length_take,List.length_drop]at hj h0;obtain⟨b2,o2,e,hc⟩:=h.2 (by omega);injection e with e;injection e with e1 e2;subst e1 e2;rw[Nat.add_assoc,hc (i+j) (by omega)];simp[List.getElem_take,List.getElem_drop]
theorem jr {w:World}{A:Option Addr}{b:Bs}{c:Nat}(hby:Byt w A b):(convert 22 9 (.slice A b.length c)).run Tryz.prog w=.ok (.string ⟨b.toArray⟩) w:=by
 cases A with
 |none=>
  have hb:b=[]:=by
   cases b with
   |nil=>rfl
   |cons y l=>obtain⟨b,o,e,_⟩:=hby.2 (by simp);cases e
  subst hb;exact io w c
 |some ad=>
  by_cases h0:0<b.length
  ·obtain⟨g,o,e,_⟩:=hby.2 h0
   injection e with e;subst e;exact fI w g o c b hby
  ·have hb:b=[]:=List.eq_nil_of_length_eq_zero (by omega)
   subst hb;exact run_convert_bytes_back (P:=Tryz.prog) w 22 9 5 ad c [] Tryz.underlying22 Tryz.underlying5 Tryz.underlying9 (fun j hj=>absurd hj (by simp))
def okE (b:Bs):Bool:=((bN (b.take 10)).2 && (bN ((b.drop 11).take 5)).2 && mG (b.drop 18) && (b[10]? == some 32) && (b[16]? == some 32)) && (b[17]? == some 110 || b[17]? == some 102)
def dZ (b:Bs):Int:=if b[17]?=some 110 then 1 else 0
theorem jz (b:Bs):kQ b=if okE b=true then some (dZ b,(bN (b.take 10)).1,(bN ((b.drop 11).take 5)).1) else none:=by
 unfold kQ okE bN dZ;cases ju (b.take 10) with
 |none=>simp[jR]
 |some a=>
  cases ju ((b.drop 11).take 5) with
  |none=>simp[jR]
  |some g=>simp[jR]
theorem ge {x:UInt8}{X:Int}(h:X=(x.toNat:Nat)) (y:UInt8):(x == y)=(X == ((y.toNat:Nat):Int)):=by
 rw[Bool.eq_iff_iff];simp only[beq_iff_eq]
 constructor
 ·rintro rfl;exact h
 ·intro e;exact UInt8.toNat_inj.1 (by omega)
def G8 (T:Nat) (fin:Array Value) (A:Value) (g o:Nat) (ag:Array Value) (a1 a2 en p4 p7 p13 p19 c10 c16 kn kf OK:Bool) (X10 X16 X17:Int):Nat→Value→World→Prop:=fun j v w=>match j with
 |0=>v=.agg ag
 |1|2=>v=.bool a1
 |3=>a1=true→v=.bool a2
 |4|5=>v=.bool p4
 |6=>p4=true→v=.bool en
 |7|8=>v=.bool p7
 |9=>p7=true→v=A
 |10=>p7=true→v=.pointer (some ⟨g,o+10,none⟩)
 |11=>p7=true→v=.int .u8 X10
 |12=>p7=true→v=.bool c10
 |13|14=>v=.bool p13
 |15=>p13=true→v=A
 |16=>p13=true→v=.pointer (some ⟨g,o+16,none⟩)
 |17=>p13=true→v=.int .u8 X16
 |18=>p13=true→v=.bool c16
 |19|20=>v=.bool p19
 |21=>p19=true→v=A
 |22=>p19=true→v=.pointer (some ⟨g,o+17,none⟩)
 |23=>p19=true→v=.int .u8 X17
 |24=>p19=true→v=.bool kn
 |25=>(p19=true→v=.bool kn)∧(p19=false→v=undef)
 |26=>p19=true→kn=false→v=A
 |27=>p19=true→kn=false→v=.pointer (some ⟨g,o+17,none⟩)
 |28=>p19=true→kn=false→v=.int .u8 X17
 |29=>p19=true→kn=false→v=.bool kf
 |30=>p19=true→v=.bool (kn || kf)
 |32=>Blk w T 64 fin
 |_=>v=.bool OK
theorem lF {T:Nat}{fin:Array Value}{A:Value}{g o:Nat}{ag:Array Value}{a1 a2 en p4 p7 p13 p19 c10 c16 kn kf OK:Bool}{X10 X16 X17:Int}(j:Nat) (v:Value) (w w':World) (hG:G8 T fin A g o ag a1 a2 en p4 p7 p13 p19 c10 c16 kn kf OK X10 X16 X17 j v w) (hk:Blk w T 64 fin→Blk w' T 64 fin):G8 T fin A g o ag a1 a2 en p4 p7 p13 p19 c10 c16 kn kf OK X10 X16 X17 j v w':=by
 unfold G8 at hG⊢;split at hG <;> first
  |exact hG
  |exact hk hG
theorem ni (A:Option Addr) (c:Nat) (b:Bs) (hb:b.length=20) (hc:20≤c) (W:World) (hby:Byt W A b):Calls Tryz.prog 62 #[.slice A 20 c] W fun e w'=>e=.returned (.tuple #[.agg #[.int .i64 0,.int .i64 (dZ b),.int .i64 (bN (b.take 10)).1,.int .i64 (bN ((b.drop 11).take 5)).1],.bool (okE b)])∧Below W.heap.size W w':=by
 obtain⟨g,o,hA,hcl⟩:=hby.2 (by omega);subst hA;obtain⟨W1,hW1,b1,hT⟩:=ak W 64 #[.int .i64 0,.int .i64 0,.int .i64 0,.int .i64 0];have hby1:=hby.below b1;have gl:=ac (hcl 0 (by omega));have s1:=ef hby1 0 10 (by omega);have s2:=ef hby1 11 5 (by omega);have s3:=ef hby1 18 2 (by omega);rw[List.drop_zero,Nat.add_zero]at s1;have l1:(b.take 10).length=10:=by simp;omega
 have l2:((b.drop 11).take 5).length=5:=by simp;omega
 have l3:((b.drop 18).take 2).length=2:=by simp;omega
 have e3:(b.drop 18).take 2=b.drop 18:=List.take_of_length_le (by simp;omega);have c1:=fun c=>gX _ c _ (by omega) W1 s1
 have c2:=fun c=>gX _ c _ (by omega) W1 s2
 have hcv:=fun c=>jr (c:=c) s3
 rw[l1]at c1;rw[l2]at c2;rw[l3,e3]at hcv;have k10:=(b1.cell (ac (hcl 10 (by omega)))).trans (hcl 10 (by omega));have k16:=(b1.cell (ac (hcl 16 (by omega)))).trans (hcl 16 (by omega));have k17:=(b1.cell (ac (hcl 17 (by omega)))).trans (hcl 17 (by omega));obtain⟨x10,h10⟩:∃x,x=b[10]:=⟨_,rfl⟩;obtain⟨x16,h16⟩:∃x,x=b[16]:=⟨_,rfl⟩;obtain⟨x17,h17⟩:∃x,x=b[17]:=⟨_,rfl⟩;rw[←h10]at k10;rw[←h16]at k16;rw[←h17]at k17;have hok:okE b=(((bN (b.take 10)).2 && (bN ((b.drop 11).take 5)).2 && mG (b.drop 18) && (x10 == 32) && (x16 == 32)) && (x17 == 110 || x17 == 102)):=by
  unfold okE;rw[List.getElem?_eq_getElem (by omega),List.getElem?_eq_getElem (by omega),List.getElem?_eq_getElem (by omega),←h10,←h16,←h17];simp
 have hkd:dZ b=if x17=110 then 1 else 0:=by
  unfold dZ;rw[List.getElem?_eq_getElem (by omega),←h17];simp
 have hen:mG (b.drop 18)=((⟨(b.drop 18).toArray⟩:ByteArray).toList == [32,13] || (⟨(b.drop 18).toArray⟩:ByteArray).toList == [32,10] || (⟨(b.drop 18).toArray⟩:ByteArray).toList == [13,10]):=by
  rw[ByteArray.toList_eq];rfl
 obtain⟨S,hS⟩:∃S:ByteArray,S=⟨(b.drop 18).toArray⟩:=⟨_,rfl⟩;rw[←hS]at hcv hen;obtain⟨OK,hOK⟩:∃x,x=okE b:=⟨_,rfl⟩;obtain⟨KD,hKD⟩:∃x,x=dZ b:=⟨_,rfl⟩;rw[←hOK,←hKD];rw[←hOK]at hok;rw[←hKD]at hkd;obtain⟨N1,hN1⟩:∃x,x=bN (b.take 10):=⟨_,rfl⟩;obtain⟨N2,hN2⟩:∃x,x=bN ((b.drop 11).take 5):=⟨_,rfl⟩;rw[←hN1,←hN2];rw[←hN1,←hN2,hen]at hok;rw[←hN1]at c1;rw[←hN2]at c2;obtain⟨n1,a1⟩:=N1;obtain⟨n2,a2⟩:=N2;obtain⟨t1,ht1⟩:∃t,t=(S.toList == [32,13]):=⟨_,rfl⟩;obtain⟨t2,ht2⟩:∃t,t=(S.toList == [32,10]):=⟨_,rfl⟩;obtain⟨t3,ht3⟩:∃t,t=(S.toList == [13,10]):=⟨_,rfl⟩;rw[←ht1,←ht2,←ht3]at hok;have y10:=dK x10;have y16:=dK x16;have y17:=dK x17;obtain⟨X10,e10⟩:∃X:Int,X=(x10.toNat:Nat):=⟨_,rfl⟩;obtain⟨X16,e16⟩:∃X:Int,X=(x16.toNat:Nat):=⟨_,rfl⟩;obtain⟨X17,e17⟩:∃X:Int,X=(x17.toNat:Nat):=⟨_,rfl⟩;rw[←e10]at k10;rw[←e16]at k16;rw[←e17]at k17;have q10:(x10 == 32)=(X10 == 32):=ge e10 32;have q16:(x16 == 32)=(X16 == 32):=ge e16 32;have q17:(x17 == 110)=(X17 == 110):=ge e17 110;have q172:(x17 == 102)=(X17 == 102):=ge e17 102;have hkd2:KD=if (X17 == 110)=true then 1 else 0:=by rw[hkd,←q17];simp
 rw[q10,q16,q17,q172]at hok;simp only[]at c1 c2 hok⊢;refine h6_ hT b1 c1 c2 hok hkd2 ?_;clear hT b1 c1 c2 hok hkd2;intro hT b1 c1 c2 hok hkd2;replace ht1:=ht1.symm;replace ht2:=ht2.symm;replace ht3:=ht3.symm;clear hkd hen hS hOK hKD hN1 hN2 hby hby1 hcl s1 s2 s3 l1 l2 l3 e3 y10 y16 y17 e10 e16 e17 q10 q16 q17 q172 h10 h16 h17;obtain⟨z0,z1,z2,z3,v0,v1,v2,v3⟩:=hT.out.b4;go_enter Tryz.func62,Tryz.ntmps62;go_upto_region 1 with fail
 rw[←hW1];replace hW1:=hi_ hW1;go_upto_region 4 with (first|((first|(go_at_call 88;(with_reducible refine (c1.out _).mono ?_))|(go_at_call 88;(with_reducible refine (c2.out _).mono ?_)));rintro e w2 ⟨rfl,rfl⟩))
 obtain⟨W2,hW2,b2,hU⟩:=ak W1 64 #[.int .i64 0,.int .i64 0,.int .i64 n1,.int .i64 n2];have hT2:=hT.out.below b2 hT.out.lt;have r10:=(b2.cell (ac k10)).trans k10;have r16:=(b2.cell (ac k16)).trans k16;have r17:=(b2.cell (ac k17)).trans k17;have zne:W1.heap.size≠W.heap.size:=by have:=hT.out.lt;omega
 obtain⟨j0,j1,j2,j3,-,i1,-⟩:=hU.b4;obtain⟨zz0,zz1,zz2,zz3,vv0,vv1,vv2,vv3⟩:=hT2.b4;refine h5_ hW2 b2 hU hT2 zne ?_;clear hW2 b2 hU hT2 zne;intro hW2 b2 hU hT2 zne;obtain⟨en,hen⟩:∃x,x=(t1 || t2 || t3):=⟨_,rfl⟩;obtain⟨c10,hc10⟩:∃x,x=(X10 == 32):=⟨_,rfl⟩;obtain⟨c16,hc16⟩:∃x,x=(X16 == 32):=⟨_,rfl⟩;obtain⟨kf,hkf⟩:∃x,x=(X17 == 102):=⟨_,rfl⟩;obtain⟨p4,hp4⟩:∃x,x=(a1 && a2):=⟨_,rfl⟩;obtain⟨p7,hp7⟩:∃x,x=(p4 && en):=⟨_,rfl⟩;obtain⟨p13,hp13⟩:∃x,x=(p7 && c10):=⟨_,rfl⟩;obtain⟨p19,hp19⟩:∃x,x=(p13 && c16):=⟨_,rfl⟩;have hok2:=hok.out;rw[←hen,←hc10,←hc16,←hkf,←hp4,←hp7,←hp13,←hp19]at hok2;refine h6_ hok2 hen hp4 hp7 hp13 hp19 ?_;clear hok2 hen hp4 hp7 hp13 hp19;intro hok2 hen hp4 hp7 hp13 hp19;replace hc10:=hc10.symm;replace hc16:=hc16.symm;replace hkf:=hkf.symm;clear hok;go_cut [9] from 26 to 35 (fun s9 wx=>s9=.bool en∧wx=W1)
 case first=>
  cases t1 with
  |true=>
   go_wp2
   go_meet
   exact⟨by rw[hen.out];rfl,rfl⟩
  |false=>
   cases t2 with
   |true=>
    go_wp2
    go_meet
    exact⟨by rw[hen.out];rfl,rfl⟩
   |false=>
    go_wp2
    go_meet
    exact⟨by rw[hen.out];rfl,rfl⟩
 case rest=>
 obtain⟨rfl,hwc⟩:=hcut;rw[hwc];clear hwc;go_upto_region 6 with fail
 rw[←hW2.out];clear z0 z1 z2 z3 v0 v1 v2 v3 k10 k16 k17;by_cases hx:X17=110
 ·subst hx
  obtain rfl:KD=1:=by rw[hkd2.out];rfl
  have hOKp:=hi_ (show OK=(p19 && (true || kf)) from hok2.out);go_upto_region 8 with fail
  obtain⟨W3,hW3⟩:∃W3,W3=W2.setCell ⟨W1.heap.size,1,none⟩ (.int .i64 1):=⟨_,rfl⟩;rw[←hW3];have hg3:W2.grownBy W3 (some W1.heap.size):=by rw[hW3];exact aO _ _ _ _
  have hU3:Blk W3 W1.heap.size 64 #[.int .i64 0,.int .i64 1,.int .i64 n1,.int .i64 n2]:=by rw[hW3];exact hU.out.set_ 1 _
  have hT3:Blk W3 W.heap.size 64 #[.int .i64 0,.int .i64 0,.int .i64 0,.int .i64 0]:=(hg3.block _ hT2.out.lt (by intro e;injection e with e;have:=zne.out;omega)).trans hT2.out;have hcl3:∀i X,W2.cell? ⟨g,o+i,none⟩=some (.int .u8 X)→W3.cell? ⟨g,o+i,none⟩=some (.int .u8 X):=fun i X h=>(World.cell?_of_block (a:=⟨g,o+i,none⟩) (hg3.block g (by have:=b1.out.size;have:=b2.out.size;omega) (by intro e;injection e with e;have:=b1.out.size;omega))).trans h
  have s10:=hcl3 _ _ r10;have s16:=hcl3 _ _ r16;have s17:=hcl3 _ _ r17;clear j0 j1 j2 j3 i1 zz0 zz1 zz2 zz3 vv0 vv1 vv2 vv3 r10 r16 r17 hcl3;obtain⟨j0,j1,j2,j3,-⟩:=hU3.b4;obtain⟨z0,z1,z2,z3,v0,v1,v2,v3⟩:=hT3.b4;replace hW3:=hi_ hW3;clear hU3;refine qe (by kernel_rfl) [none,none,none,some 33,none,none,none,none,none,none,none,none,none,none,none,none,none,none,none,none,none,none,none,none,none,none,none,none,none,none,none,none,none,none,none,none,none,none,none,none,none,none,none,none,some 0,some 1,some 2,some 3,some 4,some 5,some 6,some 7,some 8,some 9,some 10,some 11,some 12,some 13,some 14,some 15,some 16,some 17,some 18,some 19,some 20,some 21,some 22,some 23,some 24,some 25,some 26,some 27,some 28,some 29,some 30,some 31] (fun w'=>W3.grownBy w' (some W.heap.size)∧(Blk w' W.heap.size 64 #[.int .i64 0,.int .i64 0,.int .i64 0,.int .i64 0]∨Blk w' W.heap.size 64 #[.int .i64 0,.int .i64 1,.int .i64 n1,.int .i64 n2])) (fun w' w''=>Blk w' W.heap.size 64 #[.int .i64 0,.int .i64 1,.int .i64 n1,.int .i64 n2]→Blk w'' W.heap.size 64 #[.int .i64 0,.int .i64 1,.int .i64 n1,.int .i64 n2]) (G8 W.heap.size #[.int .i64 0,.int .i64 1,.int .i64 n1,.int .i64 n2] (.slice (some ⟨g,o,none⟩) 20 c) g o #[.int .i64 0,.int .i64 1,.int .i64 n1,.int .i64 n2] a1 a2 en p4 p7 p13 p19 c10 c16 true kf OK X10 X16 110) (by rfl) (by kernel_rfl) 34 (by rfl) ?hR ?mono (.cons 33 (ab [31,32,0,1,2,3,4,5,6,7,8,9,10,11,12,13,14,15,16,17,18,19,20,21,22,23,24,25,26,27,28,29,30] rfl (by kernel_rfl) ?s33) (.cons 32 (ab [0,25] rfl (by kernel_rfl) ?s32) (.cons 31 (ab [20,30] rfl (by kernel_rfl) ?s31) (.cons 30 (ab [25,29,20] rfl (by kernel_rfl) ?s30) (.cons 29 (ab [28,25] rfl (by kernel_rfl) ?s29) (.cons 28 (ab [27,25] rfl (by kernel_rfl) ?s28) (.cons 27 (ab [26,25] rfl (by kernel_rfl) ?s27) (.cons 26 (ab [25] rfl (by kernel_rfl) ?s26) (.cons 25 (ab [24,20] rfl (by kernel_rfl) ?s25) (.cons 24 (ab [23,20] rfl (by kernel_rfl) ?s24) (.cons 23 (ab [22,20] rfl (by kernel_rfl) ?s23) (.cons 22 (ab [21,20] rfl (by kernel_rfl) ?s22) (.cons 21 (ab [20] rfl (by kernel_rfl) ?s21) (.cons 20 (ab [19,14] rfl (by kernel_rfl) ?s20) (.cons 19 (ab [14,18] rfl (by kernel_rfl) ?s19) (.cons 18 (ab [17,14] rfl (by kernel_rfl) ?s18) (.cons 17 (ab [16,14] rfl (by kernel_rfl) ?s17) (.cons 16 (ab [15,14] rfl (by kernel_rfl) ?s16) (.cons 15 (ab [14] rfl (by kernel_rfl) ?s15) (.cons 14 (ab [13,8] rfl (by kernel_rfl) ?s14) (.cons 13 (ab [8,12] rfl (by kernel_rfl) ?s13) (.cons 12 (ab [11,8] rfl (by kernel_rfl) ?s12) (.cons 11 (ab [10,8] rfl (by kernel_rfl) ?s11) (.cons 10 (ab [9,8] rfl (by kernel_rfl) ?s10) (.cons 9 (ab [8] rfl (by kernel_rfl) ?s9) (.cons 8 (ab [7,5] rfl (by kernel_rfl) ?s8) (.cons 7 (ab [5,6] rfl (by kernel_rfl) ?s7) (.cons 6 (ab [5] rfl (by kernel_rfl) ?s6) (.cons 5 (ab [4,2] rfl (by kernel_rfl) ?s5) (.cons 4 (ab [2,3] rfl (by kernel_rfl) ?s4) (.cons 3 (ab [2] rfl (by kernel_rfl) ?s3) (.cons 2 (ab [1] rfl (by kernel_rfl) ?s2) (.cons 1 (ab [] rfl (by kernel_rfl) ?s1) (.cons 0 (ab [] rfl (by kernel_rfl) ?s0) (.nil))))))))))))))))))))))))))))))))))) ?done
  case hR=>exact⟨⟨rfl,rfl,rfl,Nat.le_refl _,fun _ _ _=>rfl⟩,.inl hT3⟩
  case mono=>exact lF
  case' s0|s1|s2|s3|s4|s5|s6|s7|s8|s9|s10|s11|s12|s13|s14|s15|s16|s17|s18|s19|s20|s21|s22|s23|s24|s25|s26|s27|s28|s29|s30|s31|s32|s33=>
   intro x w' hRw hd K9 hK;simp only[All,G8]at hd;simp +decide only[upd,G8,ai,if_true,if_false]at hK⊢
  case s0=>
   have tj0:=(World.cell?_of_block (hRw.1.block _ (ac j0) (by intro e;injection e with e;dsimp only at e;have:=zne.out;have:=b1.out.size;omega))).trans j0;have tj1:=(World.cell?_of_block (hRw.1.block _ (ac j1) (by intro e;injection e with e;dsimp only at e;have:=zne.out;have:=b1.out.size;omega))).trans j1;have tj2:=(World.cell?_of_block (hRw.1.block _ (ac j2) (by intro e;injection e with e;dsimp only at e;have:=zne.out;have:=b1.out.size;omega))).trans j2;have tj3:=(World.cell?_of_block (hRw.1.block _ (ac j3) (by intro e;injection e with e;dsimp only at e;have:=zne.out;have:=b1.out.size;omega))).trans j3;go_simp;have hK2:=hK _ _ ⟨hRw,fun h=>h,rfl⟩;exact hK2
  case s1=>
   go_simp;have hK2:=hK _ _ ⟨hRw,fun h=>h,rfl⟩;exact hK2
  case s2=>
   obtain⟨e1,_⟩:=hd;simp only[e1]at hK⊢;go_simp;have hK2:=hK _ _ ⟨hRw,fun h=>h,rfl⟩;exact hK2
  case s3=>
   obtain⟨e2,_⟩:=hd;cases a1 with
   |true=>
    simp only[e2]at hK⊢;go_simp;have hK2:=hK _ _ ⟨hRw,fun h=>h,fun _=>rfl⟩;exact hK2
   |false=>
    simp only[e2]at hK⊢;go_simp;have hK2:=hK undef _ ⟨hRw,fun h=>h,fun h=>by cases h⟩;exact hK2
  case s4=>
   obtain⟨e2,e3,_⟩:=hd;cases a1 with
   |true=>
    have f3:=e3 (by first|rfl|trivial);simp only[e2,f3]at hK⊢;go_simp;have hK2:=hK _ _ ⟨hRw,fun h=>h,by first|(rw[hp4.out];done)|(rw[hp4.out];rfl)⟩;exact hK2
   |false=>
    simp only[e2]at hK⊢;go_simp;have hK2:=hK _ _ ⟨hRw,fun h=>h,by first|(rw[hp4.out];done)|(rw[hp4.out];rfl)⟩;exact hK2
  case s5=>
   obtain⟨e4,e2,_⟩:=hd;simp only[e4,e2]at hK⊢;go_simp;have hK2:=hK _ _ ⟨hRw,fun h=>h,rfl⟩;exact hK2
  case s6=>
   obtain⟨e5,_⟩:=hd;cases p4 with
   |true=>
    simp only[e5]at hK⊢;go_simp;have hK2:=hK _ _ ⟨hRw,fun h=>h,fun _=>rfl⟩;exact hK2
   |false=>
    simp only[e5]at hK⊢;go_simp;have hK2:=hK undef _ ⟨hRw,fun h=>h,fun h=>by cases h⟩;exact hK2
  case s7=>
   obtain⟨e5,e6,_⟩:=hd;cases p4 with
   |true=>
    have f6:=e6 (by first|rfl|trivial);simp only[e5,f6]at hK⊢;go_simp;have hK2:=hK _ _ ⟨hRw,fun h=>h,by first|(rw[hp7.out];done)|(rw[hp7.out];rfl)⟩;exact hK2
   |false=>
    simp only[e5]at hK⊢;go_simp;have hK2:=hK _ _ ⟨hRw,fun h=>h,by first|(rw[hp7.out];done)|(rw[hp7.out];rfl)⟩;exact hK2
  case s8=>
   obtain⟨e7,e5,_⟩:=hd;simp only[e7,e5]at hK⊢;go_simp;have hK2:=hK _ _ ⟨hRw,fun h=>h,rfl⟩;exact hK2
  case s9=>
   obtain⟨e8,_⟩:=hd;cases p7 with
   |true=>
    simp only[e8]at hK⊢;go_simp;have hK2:=hK _ _ ⟨hRw,fun h=>h,fun _=>rfl⟩;exact hK2
   |false=>
    simp only[e8]at hK⊢;go_simp;have hK2:=hK undef _ ⟨hRw,fun h=>h,fun h=>by cases h⟩;exact hK2
  case s10=>
   obtain⟨e9,e8,_⟩:=hd;cases p7 with
   |true=>
    have f9:=e9 (by first|rfl|trivial);simp only[f9,e8]at hK⊢;go_simp;have hK2:=hK _ _ ⟨hRw,fun h=>h,fun _=>rfl⟩;exact hK2
   |false=>
    simp only[e8]at hK⊢;go_simp;have hK2:=hK undef _ ⟨hRw,fun h=>h,fun h=>by cases h⟩;exact hK2
  case s11=>
   obtain⟨e10,e8,_⟩:=hd;have ts10:=(World.cell?_of_block (hRw.1.block _ (ac s10) (by intro e;injection e with e;dsimp only at e;have:=zne.out;have:=b1.out.size;omega))).trans s10;cases p7 with
   |true=>
    have f10:=e10 (by first|rfl|trivial);simp only[f10,e8]at hK⊢;go_simp;have hK2:=hK _ _ ⟨hRw,fun h=>h,fun _=>rfl⟩;exact hK2
   |false=>
    simp only[e8]at hK⊢;go_simp;have hK2:=hK undef _ ⟨hRw,fun h=>h,fun h=>by cases h⟩;exact hK2
  case s12=>
   obtain⟨e11,e8,_⟩:=hd;cases p7 with
   |true=>
    have f11:=e11 (by first|rfl|trivial);simp only[f11,e8]at hK⊢;go_simp;have hK2:=hK _ _ ⟨hRw,fun h=>h,fun _=>rfl⟩;exact hK2
   |false=>
    simp only[e8]at hK⊢;go_simp;have hK2:=hK undef _ ⟨hRw,fun h=>h,fun h=>by cases h⟩;exact hK2
  case s13=>
   obtain⟨e8,e12,_⟩:=hd;cases p7 with
   |true=>
    have f12:=e12 (by first|rfl|trivial);simp only[e8,f12]at hK⊢;go_simp;have hK2:=hK _ _ ⟨hRw,fun h=>h,by first|(rw[hp13.out];done)|(rw[hp13.out];rfl)⟩;exact hK2
   |false=>
    simp only[e8]at hK⊢;go_simp;have hK2:=hK _ _ ⟨hRw,fun h=>h,by first|(rw[hp13.out];done)|(rw[hp13.out];rfl)⟩;exact hK2
  case s14=>
   obtain⟨e13,e8,_⟩:=hd;simp only[e13,e8]at hK⊢;go_simp;have hK2:=hK _ _ ⟨hRw,fun h=>h,rfl⟩;exact hK2
  case s15=>
   obtain⟨e14,_⟩:=hd;cases p13 with
   |true=>
    simp only[e14]at hK⊢;go_simp;have hK2:=hK _ _ ⟨hRw,fun h=>h,fun _=>rfl⟩;exact hK2
   |false=>
    simp only[e14]at hK⊢;go_simp;have hK2:=hK undef _ ⟨hRw,fun h=>h,fun h=>by cases h⟩;exact hK2
  case s16=>
   obtain⟨e15,e14,_⟩:=hd;cases p13 with
   |true=>
    have f15:=e15 (by first|rfl|trivial);simp only[f15,e14]at hK⊢;go_simp;have hK2:=hK _ _ ⟨hRw,fun h=>h,fun _=>rfl⟩;exact hK2
   |false=>
    simp only[e14]at hK⊢;go_simp;have hK2:=hK undef _ ⟨hRw,fun h=>h,fun h=>by cases h⟩;exact hK2
  case s17=>
   obtain⟨e16,e14,_⟩:=hd;have ts16:=(World.cell?_of_block (hRw.1.block _ (ac s16) (by intro e;injection e with e;dsimp only at e;have:=zne.out;have:=b1.out.size;omega))).trans s16;cases p13 with
   |true=>
    have f16:=e16 (by first|rfl|trivial);simp only[f16,e14]at hK⊢;go_simp;have hK2:=hK _ _ ⟨hRw,fun h=>h,fun _=>rfl⟩;exact hK2
   |false=>
    simp only[e14]at hK⊢;go_simp;have hK2:=hK undef _ ⟨hRw,fun h=>h,fun h=>by cases h⟩;exact hK2
  case s18=>
   obtain⟨e17,e14,_⟩:=hd;cases p13 with
   |true=>
    have f17:=e17 (by first|rfl|trivial);simp only[f17,e14]at hK⊢;go_simp;have hK2:=hK _ _ ⟨hRw,fun h=>h,fun _=>rfl⟩;exact hK2
   |false=>
    simp only[e14]at hK⊢;go_simp;have hK2:=hK undef _ ⟨hRw,fun h=>h,fun h=>by cases h⟩;exact hK2
  case s19=>
   obtain⟨e14,e18,_⟩:=hd;cases p13 with
   |true=>
    have f18:=e18 (by first|rfl|trivial);simp only[e14,f18]at hK⊢;go_simp;have hK2:=hK _ _ ⟨hRw,fun h=>h,by first|(rw[hp19.out];done)|(rw[hp19.out];rfl)⟩;exact hK2
   |false=>
    simp only[e14]at hK⊢;go_simp;have hK2:=hK _ _ ⟨hRw,fun h=>h,by first|(rw[hp19.out];done)|(rw[hp19.out];rfl)⟩;exact hK2
  case s20=>
   obtain⟨e19,e14,_⟩:=hd;simp only[e19,e14]at hK⊢;go_simp;have hK2:=hK _ _ ⟨hRw,fun h=>h,rfl⟩;exact hK2
  case s21=>
   obtain⟨e20,_⟩:=hd;cases p19 with
   |true=>
    simp only[e20]at hK⊢;go_simp;have hK2:=hK _ _ ⟨hRw,fun h=>h,fun _=>rfl⟩;exact hK2
   |false=>
    simp only[e20]at hK⊢;go_simp;have hK2:=hK undef _ ⟨hRw,fun h=>h,fun h=>by cases h⟩;exact hK2
  case s22=>
   obtain⟨e21,e20,_⟩:=hd;cases p19 with
   |true=>
    have f21:=e21 (by first|rfl|trivial);simp only[f21,e20]at hK⊢;go_simp;have hK2:=hK _ _ ⟨hRw,fun h=>h,fun _=>rfl⟩;exact hK2
   |false=>
    simp only[e20]at hK⊢;go_simp;have hK2:=hK undef _ ⟨hRw,fun h=>h,fun h=>by cases h⟩;exact hK2
  case s23=>
   obtain⟨e22,e20,_⟩:=hd;have ts17:=(World.cell?_of_block (hRw.1.block _ (ac s17) (by intro e;injection e with e;dsimp only at e;have:=zne.out;have:=b1.out.size;omega))).trans s17;cases p19 with
   |true=>
    have f22:=e22 (by first|rfl|trivial);simp only[f22,e20]at hK⊢;go_simp;have hK2:=hK _ _ ⟨hRw,fun h=>h,fun _=>rfl⟩;exact hK2
   |false=>
    simp only[e20]at hK⊢;go_simp;have hK2:=hK undef _ ⟨hRw,fun h=>h,fun h=>by cases h⟩;exact hK2
  case s24=>
   obtain⟨e23,e20,_⟩:=hd;cases p19 with
   |true=>
    have f23:=e23 (by first|rfl|trivial);simp only[f23,e20]at hK⊢;go_simp;have hK2:=hK _ _ ⟨hRw,fun h=>h,fun _=>rfl⟩;exact hK2
   |false=>
    simp only[e20]at hK⊢;go_simp;have hK2:=hK undef _ ⟨hRw,fun h=>h,fun h=>by cases h⟩;exact hK2
  case s25=>
   obtain⟨e24,e20,_⟩:=hd;cases p19 with
   |true=>
    have f24:=e24 (by first|rfl|trivial);simp only[f24,e20]at hK⊢;go_simp;have hK2:=hK (Value.bool true) _ ⟨hRw,fun h=>h,by simp⟩;exact hK2
   |false=>
    simp only[e20]at hK⊢;go_simp;have hK2:=hK undef _ ⟨hRw,fun h=>h,by simp⟩;exact hK2
  case s26=>
   obtain⟨e25,_⟩:=hd;cases p19 with
   |true=>
    have f25:=e25.1 rfl;simp only[f25]at hK⊢;go_simp;have hK2:=hK undef _ ⟨hRw,fun h=>h,fun _ h=>by cases h⟩;exact hK2
   |false=>
    have f25:=e25.2 rfl;simp only[f25]at hK⊢;go_simp;have hK2:=hK undef _ ⟨hRw,fun h=>h,fun h=>by cases h⟩;exact hK2
  case s27=>
   obtain⟨e26,e25,_⟩:=hd;cases p19 with
   |true=>
    have f25:=e25.1 rfl;simp only[f25]at hK⊢;go_simp;have hK2:=hK undef _ ⟨hRw,fun h=>h,fun _ h=>by cases h⟩;exact hK2
   |false=>
    have f25:=e25.2 rfl;simp only[f25]at hK⊢;go_simp;have hK2:=hK undef _ ⟨hRw,fun h=>h,fun h=>by cases h⟩;exact hK2
  case s28=>
   obtain⟨e27,e25,_⟩:=hd;have ts17:=(World.cell?_of_block (hRw.1.block _ (ac s17) (by intro e;injection e with e;dsimp only at e;have:=zne.out;have:=b1.out.size;omega))).trans s17;cases p19 with
   |true=>
    have f25:=e25.1 rfl;simp only[f25]at hK⊢;go_simp;have hK2:=hK undef _ ⟨hRw,fun h=>h,fun _ h=>by cases h⟩;exact hK2
   |false=>
    have f25:=e25.2 rfl;simp only[f25]at hK⊢;go_simp;have hK2:=hK undef _ ⟨hRw,fun h=>h,fun h=>by cases h⟩;exact hK2
  case s29=>
   obtain⟨e28,e25,_⟩:=hd;cases p19 with
   |true=>
    have f25:=e25.1 rfl;simp only[f25]at hK⊢;go_simp;have hK2:=hK undef _ ⟨hRw,fun h=>h,fun _ h=>by cases h⟩;exact hK2
   |false=>
    have f25:=e25.2 rfl;simp only[f25]at hK⊢;go_simp;have hK2:=hK undef _ ⟨hRw,fun h=>h,fun h=>by cases h⟩;exact hK2
  case s30=>
   obtain⟨e25,e29,e20,_⟩:=hd;cases p19 with
   |true=>
    have f25:=e25.1 rfl;simp only[f25,e20]at hK⊢;go_simp;have hK2:=hK _ _ ⟨hRw,fun h=>h,fun _=>rfl⟩;exact hK2
   |false=>
    have f25:=e25.2 rfl;simp only[f25,e20]at hK⊢;go_simp;have hK2:=hK undef _ ⟨hRw,fun h=>h,fun h=>by cases h⟩;exact hK2
  case s31=>
   obtain⟨e20,e30,_⟩:=hd;cases p19 with
   |true=>
    have f30:=e30 (by first|rfl|trivial);simp only[e20,f30]at hK⊢;go_simp;have hK2:=hK _ _ ⟨hRw,fun h=>h,by first|(rw[hOKp.out];done)|(rw[hOKp.out];rfl)⟩;exact hK2
   |false=>
    simp only[e20]at hK⊢;go_simp;have hK2:=hK _ _ ⟨hRw,fun h=>h,by first|(rw[hOKp.out];done)|(rw[hOKp.out];rfl)⟩;exact hK2
  case s32=>
   obtain⟨e0,e25,_⟩:=hd;simp only[e0]at hK⊢;obtain⟨hgw,hbl⟩:=hRw;rcases hbl with hbl|hbl
   ·obtain⟨z0,z1,z2,z3,v0,v1,v2,v3⟩:=hbl.b4
    go_simp;generalize hWf:World.setCell _ _ _=Wf;replace hWf:=hWf.symm;obtain⟨hbf,hgf⟩:=bf hbl hWf;have hK2:=hK undef Wf ⟨⟨hgw.trans hgf,.inr hbf⟩,fun _=>hbf,hbf⟩;exact hK2
   ·obtain⟨z0,z1,z2,z3,v0,v1,v2,v3⟩:=hbl.b4
    go_simp;generalize hWf:World.setCell _ _ _=Wf;replace hWf:=hWf.symm;obtain⟨hbf,hgf⟩:=bf hbl hWf;have hK2:=hK undef Wf ⟨⟨hgw.trans hgf,.inr hbf⟩,fun _=>hbf,hbf⟩;exact hK2
  case s33=>
   obtain⟨e31,-⟩:=hd;simp only[e31]at hK⊢;go_simp;have hK2:=hK _ _ ⟨hRw,fun h=>h,rfl⟩;exact hK2
  case done=>
   intro x w7 hR2' hG;have d32:=hG 32 (by omega);have d33:=hG 33 (by omega);simp only[G8]at d32 d33;clear hG;simp only[ai];rw[d33];obtain⟨u0,u1,u2,u3,-⟩:=d32.b4;have hBf:=hi_ (((ah b1.out b2.out).grown hg3 (ah b1.out b2.out).size (fun q hq=>by injection hq with hq;have:=b1.out.size;omega)).grown hR2'.1 (by have:=(ah b1.out b2.out).size;have:=hg3.size;omega) (fun q hq=>by injection hq with hq;omega));replace hR2':=hi_ hR2';clear d32 d33 z0 z1 z2 z3 v0 v1 v2 v3 j0 j1 j2 j3;go_wp2
   refine bodyPost_ret (by simp[results,Tryz.results62,go_sem,u0,u1,u2,u3];try rfl) rfl ?_;exact⟨rfl,hBf.out⟩


 ·have hkn:(X17 == 110)=false:=beq_eq_false_iff_ne.2 hx
  obtain rfl:KD=0:=by rw[hkd2.out,hkn];rfl
  have hOKp:=hi_ (show OK=(p19 && (false || kf)) from by rw[hok2.out,hkn]);replace hx:=hi_ hx;go_upto_region 8 with fail
  obtain⟨W3,hW3⟩:∃W3,W3=W2:=⟨_,rfl⟩;rw[←hW3];have hg3:W2.grownBy W3 (some W1.heap.size):=by rw[hW3];exact⟨rfl,rfl,rfl,Nat.le_refl _,fun _ _ _=>rfl⟩
  have hU3:Blk W3 W1.heap.size 64 #[.int .i64 0,.int .i64 0,.int .i64 n1,.int .i64 n2]:=by rw[hW3];exact hU.out
  have hT3:Blk W3 W.heap.size 64 #[.int .i64 0,.int .i64 0,.int .i64 0,.int .i64 0]:=(hg3.block _ hT2.out.lt (by intro e;injection e with e;have:=zne.out;omega)).trans hT2.out;have hcl3:∀i X,W2.cell? ⟨g,o+i,none⟩=some (.int .u8 X)→W3.cell? ⟨g,o+i,none⟩=some (.int .u8 X):=fun i X h=>(World.cell?_of_block (a:=⟨g,o+i,none⟩) (hg3.block g (by have:=b1.out.size;have:=b2.out.size;omega) (by intro e;injection e with e;have:=b1.out.size;omega))).trans h
  have s10:=hcl3 _ _ r10;have s16:=hcl3 _ _ r16;have s17:=hcl3 _ _ r17;clear j0 j1 j2 j3 i1 zz0 zz1 zz2 zz3 vv0 vv1 vv2 vv3 r10 r16 r17 hcl3;obtain⟨j0,j1,j2,j3,-⟩:=hU3.b4;obtain⟨z0,z1,z2,z3,v0,v1,v2,v3⟩:=hT3.b4;replace hW3:=hi_ hW3;clear hU3;refine qe (by kernel_rfl) [none,none,none,some 33,none,none,none,none,none,none,none,none,none,none,none,none,none,none,none,none,none,none,none,none,none,none,none,none,none,none,none,none,none,none,none,none,none,none,none,none,none,none,none,none,some 0,some 1,some 2,some 3,some 4,some 5,some 6,some 7,some 8,some 9,some 10,some 11,some 12,some 13,some 14,some 15,some 16,some 17,some 18,some 19,some 20,some 21,some 22,some 23,some 24,some 25,some 26,some 27,some 28,some 29,some 30,some 31] (fun w'=>W3.grownBy w' (some W.heap.size)∧(Blk w' W.heap.size 64 #[.int .i64 0,.int .i64 0,.int .i64 0,.int .i64 0]∨Blk w' W.heap.size 64 #[.int .i64 0,.int .i64 0,.int .i64 n1,.int .i64 n2])) (fun w' w''=>Blk w' W.heap.size 64 #[.int .i64 0,.int .i64 0,.int .i64 n1,.int .i64 n2]→Blk w'' W.heap.size 64 #[.int .i64 0,.int .i64 0,.int .i64 n1,.int .i64 n2]) (G8 W.heap.size #[.int .i64 0,.int .i64 0,.int .i64 n1,.int .i64 n2] (.slice (some ⟨g,o,none⟩) 20 c) g o #[.int .i64 0,.int .i64 0,.int .i64 n1,.int .i64 n2] a1 a2 en p4 p7 p13 p19 c10 c16 false kf OK X10 X16 X17) (by rfl) (by kernel_rfl) 34 (by rfl) ?hR ?mono (.cons 33 (ab [31,32,0,1,2,3,4,5,6,7,8,9,10,11,12,13,14,15,16,17,18,19,20,21,22,23,24,25,26,27,28,29,30] rfl (by kernel_rfl) ?s33) (.cons 32 (ab [0,25] rfl (by kernel_rfl) ?s32) (.cons 31 (ab [20,30] rfl (by kernel_rfl) ?s31) (.cons 30 (ab [25,29,20] rfl (by kernel_rfl) ?s30) (.cons 29 (ab [28,25] rfl (by kernel_rfl) ?s29) (.cons 28 (ab [27,25] rfl (by kernel_rfl) ?s28) (.cons 27 (ab [26,25] rfl (by kernel_rfl) ?s27) (.cons 26 (ab [25] rfl (by kernel_rfl) ?s26) (.cons 25 (ab [24,20] rfl (by kernel_rfl) ?s25) (.cons 24 (ab [23,20] rfl (by kernel_rfl) ?s24) (.cons 23 (ab [22,20] rfl (by kernel_rfl) ?s23) (.cons 22 (ab [21,20] rfl (by kernel_rfl) ?s22) (.cons 21 (ab [20] rfl (by kernel_rfl) ?s21) (.cons 20 (ab [19,14] rfl (by kernel_rfl) ?s20) (.cons 19 (ab [14,18] rfl (by kernel_rfl) ?s19) (.cons 18 (ab [17,14] rfl (by kernel_rfl) ?s18) (.cons 17 (ab [16,14] rfl (by kernel_rfl) ?s17) (.cons 16 (ab [15,14] rfl (by kernel_rfl) ?s16) (.cons 15 (ab [14] rfl (by kernel_rfl) ?s15) (.cons 14 (ab [13,8] rfl (by kernel_rfl) ?s14) (.cons 13 (ab [8,12] rfl (by kernel_rfl) ?s13) (.cons 12 (ab [11,8] rfl (by kernel_rfl) ?s12) (.cons 11 (ab [10,8] rfl (by kernel_rfl) ?s11) (.cons 10 (ab [9,8] rfl (by kernel_rfl) ?s10) (.cons 9 (ab [8] rfl (by kernel_rfl) ?s9) (.cons 8 (ab [7,5] rfl (by kernel_rfl) ?s8) (.cons 7 (ab [5,6] rfl (by kernel_rfl) ?s7) (.cons 6 (ab [5] rfl (by kernel_rfl) ?s6) (.cons 5 (ab [4,2] rfl (by kernel_rfl) ?s5) (.cons 4 (ab [2,3] rfl (by kernel_rfl) ?s4) (.cons 3 (ab [2] rfl (by kernel_rfl) ?s3) (.cons 2 (ab [1] rfl (by kernel_rfl) ?s2) (.cons 1 (ab [] rfl (by kernel_rfl) ?s1) (.cons 0 (ab [] rfl (by kernel_rfl) ?s0) (.nil))))))))))))))))))))))))))))))))))) ?done
  case hR=>exact⟨⟨rfl,rfl,rfl,Nat.le_refl _,fun _ _ _=>rfl⟩,.inl hT3⟩
  case mono=>exact lF
  case' s0|s1|s2|s3|s4|s5|s6|s7|s8|s9|s10|s11|s12|s13|s14|s15|s16|s17|s18|s19|s20|s21|s22|s23|s24|s25|s26|s27|s28|s29|s30|s31|s32|s33=>
   intro x w' hRw hd K9 hK;simp only[All,G8]at hd;simp +decide only[upd,G8,ai,if_true,if_false]at hK⊢
  case s0=>
   have tj0:=(World.cell?_of_block (hRw.1.block _ (ac j0) (by intro e;injection e with e;dsimp only at e;have:=zne.out;have:=b1.out.size;omega))).trans j0;have tj1:=(World.cell?_of_block (hRw.1.block _ (ac j1) (by intro e;injection e with e;dsimp only at e;have:=zne.out;have:=b1.out.size;omega))).trans j1;have tj2:=(World.cell?_of_block (hRw.1.block _ (ac j2) (by intro e;injection e with e;dsimp only at e;have:=zne.out;have:=b1.out.size;omega))).trans j2;have tj3:=(World.cell?_of_block (hRw.1.block _ (ac j3) (by intro e;injection e with e;dsimp only at e;have:=zne.out;have:=b1.out.size;omega))).trans j3;go_simp;have hK2:=hK _ _ ⟨hRw,fun h=>h,rfl⟩;exact hK2
  case s1=>
   go_simp;have hK2:=hK _ _ ⟨hRw,fun h=>h,rfl⟩;exact hK2
  case s2=>
   obtain⟨e1,_⟩:=hd;simp only[e1]at hK⊢;go_simp;have hK2:=hK _ _ ⟨hRw,fun h=>h,rfl⟩;exact hK2
  case s3=>
   obtain⟨e2,_⟩:=hd;cases a1 with
   |true=>
    simp only[e2]at hK⊢;go_simp;have hK2:=hK _ _ ⟨hRw,fun h=>h,fun _=>rfl⟩;exact hK2
   |false=>
    simp only[e2]at hK⊢;go_simp;have hK2:=hK undef _ ⟨hRw,fun h=>h,fun h=>by cases h⟩;exact hK2
  case s4=>
   obtain⟨e2,e3,_⟩:=hd;cases a1 with
   |true=>
    have f3:=e3 (by first|rfl|trivial);simp only[e2,f3]at hK⊢;go_simp;have hK2:=hK _ _ ⟨hRw,fun h=>h,by first|(rw[hp4.out];done)|(rw[hp4.out];rfl)⟩;exact hK2
   |false=>
    simp only[e2]at hK⊢;go_simp;have hK2:=hK _ _ ⟨hRw,fun h=>h,by first|(rw[hp4.out];done)|(rw[hp4.out];rfl)⟩;exact hK2
  case s5=>
   obtain⟨e4,e2,_⟩:=hd;simp only[e4,e2]at hK⊢;go_simp;have hK2:=hK _ _ ⟨hRw,fun h=>h,rfl⟩;exact hK2
  case s6=>
   obtain⟨e5,_⟩:=hd;cases p4 with
   |true=>
    simp only[e5]at hK⊢;go_simp;have hK2:=hK _ _ ⟨hRw,fun h=>h,fun _=>rfl⟩;exact hK2
   |false=>
    simp only[e5]at hK⊢;go_simp;have hK2:=hK undef _ ⟨hRw,fun h=>h,fun h=>by cases h⟩;exact hK2
  case s7=>
   obtain⟨e5,e6,_⟩:=hd;cases p4 with
   |true=>
    have f6:=e6 (by first|rfl|trivial);simp only[e5,f6]at hK⊢;go_simp;have hK2:=hK _ _ ⟨hRw,fun h=>h,by first|(rw[hp7.out];done)|(rw[hp7.out];rfl)⟩;exact hK2
   |false=>
    simp only[e5]at hK⊢;go_simp;have hK2:=hK _ _ ⟨hRw,fun h=>h,by first|(rw[hp7.out];done)|(rw[hp7.out];rfl)⟩;exact hK2
  case s8=>
   obtain⟨e7,e5,_⟩:=hd;simp only[e7,e5]at hK⊢;go_simp;have hK2:=hK _ _ ⟨hRw,fun h=>h,rfl⟩;exact hK2
  case s9=>
   obtain⟨e8,_⟩:=hd;cases p7 with
   |true=>
    simp only[e8]at hK⊢;go_simp;have hK2:=hK _ _ ⟨hRw,fun h=>h,fun _=>rfl⟩;exact hK2
   |false=>
    simp only[e8]at hK⊢;go_simp;have hK2:=hK undef _ ⟨hRw,fun h=>h,fun h=>by cases h⟩;exact hK2
  case s10=>
   obtain⟨e9,e8,_⟩:=hd;cases p7 with
   |true=>
    have f9:=e9 (by first|rfl|trivial);simp only[f9,e8]at hK⊢;go_simp;have hK2:=hK _ _ ⟨hRw,fun h=>h,fun _=>rfl⟩;exact hK2
   |false=>
    simp only[e8]at hK⊢;go_simp;have hK2:=hK undef _ ⟨hRw,fun h=>h,fun h=>by cases h⟩;exact hK2
  case s11=>
   obtain⟨e10,e8,_⟩:=hd;have ts10:=(World.cell?_of_block (hRw.1.block _ (ac s10) (by intro e;injection e with e;dsimp only at e;have:=zne.out;have:=b1.out.size;omega))).trans s10;cases p7 with
   |true=>
    have f10:=e10 (by first|rfl|trivial);simp only[f10,e8]at hK⊢;go_simp;have hK2:=hK _ _ ⟨hRw,fun h=>h,fun _=>rfl⟩;exact hK2
   |false=>
    simp only[e8]at hK⊢;go_simp;have hK2:=hK undef _ ⟨hRw,fun h=>h,fun h=>by cases h⟩;exact hK2
  case s12=>
   obtain⟨e11,e8,_⟩:=hd;cases p7 with
   |true=>
    have f11:=e11 (by first|rfl|trivial);simp only[f11,e8]at hK⊢;go_simp;have hK2:=hK _ _ ⟨hRw,fun h=>h,fun _=>rfl⟩;exact hK2
   |false=>
    simp only[e8]at hK⊢;go_simp;have hK2:=hK undef _ ⟨hRw,fun h=>h,fun h=>by cases h⟩;exact hK2
  case s13=>
   obtain⟨e8,e12,_⟩:=hd;cases p7 with
   |true=>
    have f12:=e12 (by first|rfl|trivial);simp only[e8,f12]at hK⊢;go_simp;have hK2:=hK _ _ ⟨hRw,fun h=>h,by first|(rw[hp13.out];done)|(rw[hp13.out];rfl)⟩;exact hK2
   |false=>
    simp only[e8]at hK⊢;go_simp;have hK2:=hK _ _ ⟨hRw,fun h=>h,by first|(rw[hp13.out];done)|(rw[hp13.out];rfl)⟩;exact hK2
  case s14=>
   obtain⟨e13,e8,_⟩:=hd;simp only[e13,e8]at hK⊢;go_simp;have hK2:=hK _ _ ⟨hRw,fun h=>h,rfl⟩;exact hK2
  case s15=>
   obtain⟨e14,_⟩:=hd;cases p13 with
   |true=>
    simp only[e14]at hK⊢;go_simp;have hK2:=hK _ _ ⟨hRw,fun h=>h,fun _=>rfl⟩;exact hK2
   |false=>
    simp only[e14]at hK⊢;go_simp;have hK2:=hK undef _ ⟨hRw,fun h=>h,fun h=>by cases h⟩;exact hK2
  case s16=>
   obtain⟨e15,e14,_⟩:=hd;cases p13 with
   |true=>
    have f15:=e15 (by first|rfl|trivial);simp only[f15,e14]at hK⊢;go_simp;have hK2:=hK _ _ ⟨hRw,fun h=>h,fun _=>rfl⟩;exact hK2
   |false=>
    simp only[e14]at hK⊢;go_simp;have hK2:=hK undef _ ⟨hRw,fun h=>h,fun h=>by cases h⟩;exact hK2
  case s17=>
   obtain⟨e16,e14,_⟩:=hd;have ts16:=(World.cell?_of_block (hRw.1.block _ (ac s16) (by intro e;injection e with e;dsimp only at e;have:=zne.out;have:=b1.out.size;omega))).trans s16;cases p13 with
   |true=>
    have f16:=e16 (by first|rfl|trivial);simp only[f16,e14]at hK⊢;go_simp;have hK2:=hK _ _ ⟨hRw,fun h=>h,fun _=>rfl⟩;exact hK2
   |false=>
    simp only[e14]at hK⊢;go_simp;have hK2:=hK undef _ ⟨hRw,fun h=>h,fun h=>by cases h⟩;exact hK2
  case s18=>
   obtain⟨e17,e14,_⟩:=hd;cases p13 with
   |true=>
    have f17:=e17 (by first|rfl|trivial);simp only[f17,e14]at hK⊢;go_simp;have hK2:=hK _ _ ⟨hRw,fun h=>h,fun _=>rfl⟩;exact hK2
   |false=>
    simp only[e14]at hK⊢;go_simp;have hK2:=hK undef _ ⟨hRw,fun h=>h,fun h=>by cases h⟩;exact hK2
  case s19=>
   obtain⟨e14,e18,_⟩:=hd;cases p13 with
   |true=>
    have f18:=e18 (by first|rfl|trivial);simp only[e14,f18]at hK⊢;go_simp;have hK2:=hK _ _ ⟨hRw,fun h=>h,by first|(rw[hp19.out];done)|(rw[hp19.out];rfl)⟩;exact hK2
   |false=>
    simp only[e14]at hK⊢;go_simp;have hK2:=hK _ _ ⟨hRw,fun h=>h,by first|(rw[hp19.out];done)|(rw[hp19.out];rfl)⟩;exact hK2
  case s20=>
   obtain⟨e19,e14,_⟩:=hd;simp only[e19,e14]at hK⊢;go_simp;have hK2:=hK _ _ ⟨hRw,fun h=>h,rfl⟩;exact hK2
  case s21=>
   obtain⟨e20,_⟩:=hd;cases p19 with
   |true=>
    simp only[e20]at hK⊢;go_simp;have hK2:=hK _ _ ⟨hRw,fun h=>h,fun _=>rfl⟩;exact hK2
   |false=>
    simp only[e20]at hK⊢;go_simp;have hK2:=hK undef _ ⟨hRw,fun h=>h,fun h=>by cases h⟩;exact hK2
  case s22=>
   obtain⟨e21,e20,_⟩:=hd;cases p19 with
   |true=>
    have f21:=e21 (by first|rfl|trivial);simp only[f21,e20]at hK⊢;go_simp;have hK2:=hK _ _ ⟨hRw,fun h=>h,fun _=>rfl⟩;exact hK2
   |false=>
    simp only[e20]at hK⊢;go_simp;have hK2:=hK undef _ ⟨hRw,fun h=>h,fun h=>by cases h⟩;exact hK2
  case s23=>
   obtain⟨e22,e20,_⟩:=hd;have ts17:=(World.cell?_of_block (hRw.1.block _ (ac s17) (by intro e;injection e with e;dsimp only at e;have:=zne.out;have:=b1.out.size;omega))).trans s17;cases p19 with
   |true=>
    have f22:=e22 (by first|rfl|trivial);simp only[f22,e20]at hK⊢;go_simp;have hK2:=hK _ _ ⟨hRw,fun h=>h,fun _=>rfl⟩;exact hK2
   |false=>
    simp only[e20]at hK⊢;go_simp;have hK2:=hK undef _ ⟨hRw,fun h=>h,fun h=>by cases h⟩;exact hK2
  case s24=>
   obtain⟨e23,e20,_⟩:=hd;cases p19 with
   |true=>
    have f23:=e23 (by first|rfl|trivial);simp only[f23,e20]at hK⊢;go_simp;have hK2:=hK _ _ ⟨hRw,fun h=>h,fun _=>rfl⟩;exact hK2
   |false=>
    simp only[e20]at hK⊢;go_simp;have hK2:=hK undef _ ⟨hRw,fun h=>h,fun h=>by cases h⟩;exact hK2
  case s25=>
   obtain⟨e24,e20,_⟩:=hd;cases p19 with
   |true=>
    have f24:=e24 (by first|rfl|trivial);simp only[f24,e20]at hK⊢;go_simp;have hK2:=hK (Value.bool false) _ ⟨hRw,fun h=>h,by simp⟩;exact hK2
   |false=>
    simp only[e20]at hK⊢;go_simp;have hK2:=hK undef _ ⟨hRw,fun h=>h,by simp⟩;exact hK2
  case s26=>
   obtain⟨e25,_⟩:=hd;cases p19 with
   |true=>
    have f25:=e25.1 rfl;simp only[f25]at hK⊢;go_simp;have hK2:=hK _ _ ⟨hRw,fun h=>h,fun _ _=>rfl⟩;exact hK2
   |false=>
    have f25:=e25.2 rfl;simp only[f25]at hK⊢;go_simp;have hK2:=hK undef _ ⟨hRw,fun h=>h,fun h=>by cases h⟩;exact hK2
  case s27=>
   obtain⟨e26,e25,_⟩:=hd;cases p19 with
   |true=>
    have f26:=e26 (by first|rfl|trivial) (by first|rfl|trivial);have f25:=e25.1 rfl;simp only[f26,f25]at hK⊢;go_simp;have hK2:=hK _ _ ⟨hRw,fun h=>h,fun _ _=>rfl⟩;exact hK2
   |false=>
    have f25:=e25.2 rfl;simp only[f25]at hK⊢;go_simp;have hK2:=hK undef _ ⟨hRw,fun h=>h,fun h=>by cases h⟩;exact hK2
  case s28=>
   obtain⟨e27,e25,_⟩:=hd;have ts17:=(World.cell?_of_block (hRw.1.block _ (ac s17) (by intro e;injection e with e;dsimp only at e;have:=zne.out;have:=b1.out.size;omega))).trans s17;cases p19 with
   |true=>
    have f27:=e27 (by first|rfl|trivial) (by first|rfl|trivial);have f25:=e25.1 rfl;simp only[f27,f25]at hK⊢;go_simp;have hK2:=hK _ _ ⟨hRw,fun h=>h,fun _ _=>rfl⟩;exact hK2
   |false=>
    have f25:=e25.2 rfl;simp only[f25]at hK⊢;go_simp;have hK2:=hK undef _ ⟨hRw,fun h=>h,fun h=>by cases h⟩;exact hK2
  case s29=>
   obtain⟨e28,e25,_⟩:=hd;cases p19 with
   |true=>
    have f28:=e28 (by first|rfl|trivial) (by first|rfl|trivial);have f25:=e25.1 rfl;simp only[f28,f25]at hK⊢;go_simp;have hK2:=hK _ _ ⟨hRw,fun h=>h,fun _ _=>rfl⟩;exact hK2
   |false=>
    have f25:=e25.2 rfl;simp only[f25]at hK⊢;go_simp;have hK2:=hK undef _ ⟨hRw,fun h=>h,fun h=>by cases h⟩;exact hK2
  case s30=>
   obtain⟨e25,e29,e20,_⟩:=hd;cases p19 with
   |true=>
    have f25:=e25.1 rfl;have f29:=e29 (by first|rfl|trivial) (by first|rfl|trivial);simp only[f25,f29,e20]at hK⊢;go_simp;have hK2:=hK _ _ ⟨hRw,fun h=>h,fun _=>rfl⟩;exact hK2
   |false=>
    have f25:=e25.2 rfl;simp only[f25,e20]at hK⊢;go_simp;have hK2:=hK undef _ ⟨hRw,fun h=>h,fun h=>by cases h⟩;exact hK2
  case s31=>
   obtain⟨e20,e30,_⟩:=hd;cases p19 with
   |true=>
    have f30:=e30 (by first|rfl|trivial);simp only[e20,f30]at hK⊢;go_simp;have hK2:=hK _ _ ⟨hRw,fun h=>h,by first|(rw[hOKp.out];done)|(rw[hOKp.out];rfl)⟩;exact hK2
   |false=>
    simp only[e20]at hK⊢;go_simp;have hK2:=hK _ _ ⟨hRw,fun h=>h,by first|(rw[hOKp.out];done)|(rw[hOKp.out];rfl)⟩;exact hK2
  case s32=>
   obtain⟨e0,e25,_⟩:=hd;simp only[e0]at hK⊢;obtain⟨hgw,hbl⟩:=hRw;rcases hbl with hbl|hbl
   ·obtain⟨z0,z1,z2,z3,v0,v1,v2,v3⟩:=hbl.b4
    go_simp;generalize hWf:World.setCell _ _ _=Wf;replace hWf:=hWf.symm;obtain⟨hbf,hgf⟩:=bf hbl hWf;have hK2:=hK undef Wf ⟨⟨hgw.trans hgf,.inr hbf⟩,fun _=>hbf,hbf⟩;exact hK2
   ·obtain⟨z0,z1,z2,z3,v0,v1,v2,v3⟩:=hbl.b4
    go_simp;generalize hWf:World.setCell _ _ _=Wf;replace hWf:=hWf.symm;obtain⟨hbf,hgf⟩:=bf hbl hWf;have hK2:=hK undef Wf ⟨⟨hgw.trans hgf,.inr hbf⟩,fun _=>hbf,hbf⟩;exact hK2
  case s33=>
   obtain⟨e31,-⟩:=hd;simp only[e31]at hK⊢;go_simp;have hK2:=hK _ _ ⟨hRw,fun h=>h,rfl⟩;exact hK2
  case done=>
   intro x w7 hR2' hG;have d32:=hG 32 (by omega);have d33:=hG 33 (by omega);simp only[G8]at d32 d33;clear hG;simp only[ai];rw[d33];obtain⟨u0,u1,u2,u3,-⟩:=d32.b4;have hBf:=hi_ (((ah b1.out b2.out).grown hg3 (ah b1.out b2.out).size (fun q hq=>by injection hq with hq;have:=b1.out.size;omega)).grown hR2'.1 (by have:=(ah b1.out b2.out).size;have:=hg3.size;omega) (fun q hq=>by injection hq with hq;omega));replace hR2':=hi_ hR2';clear d32 d33 z0 z1 z2 z3 v0 v1 v2 v3 j0 j1 j2 j3;go_wp2
   refine bodyPost_ret (by simp[results,Tryz.results62,go_sem,u0,u1,u2,u3];try rfl) rfl ?_;exact⟨rfl,hBf.out⟩
end
def G44 (p:Nat) (a g:Int) (DA DG K S3 S7:ByteArray):Nat→Value→World→Prop:=fun j v w=>match j with
 |0=>v=.pointer (some ⟨p,2,none⟩)
 |1=>v=.int .i64 a
 |2=>v=.string DA
 |3=>v=.string S3
 |4=>v=.pointer (some ⟨p,3,none⟩)
 |5=>v=.int .i64 g
 |6=>v=.string DG
 |7=>v=.string S7
 |8=>v=.string K
 |_=>v=.string (S7++K)
theorem jo {p:Nat}{a g:Int}{DA DG K S3 S7:ByteArray}(j:Nat) (v:Value) (w w':World) (hG:G44 p a g DA DG K S3 S7 j v w) (hk:Below w.heap.size w w'):G44 p a g DA DG K S3 S7 j v w':=hG
theorem pE (r:R4) (hr:r.ok) (w:World) (htab:Tab w) (T:ByteArray) (hT:T=⟨(ui r).toArray⟩):Calls Tryz.prog 44 #[.agg (rv r).toArray] w fun e w'=>e=.returned (.string T)∧Below w.heap.size w w':=by
 obtain⟨n,k,a,g⟩:=r;obtain⟨W1,hW1,hb⟩:=bH w 64 #[.int .i64 n,.int .i64 k,.int .i64 a,.int .i64 g];obtain⟨c0,c1,c2,c3⟩:=cY hW1;obtain⟨_,_,ia,ig⟩:=hr;obtain⟨DA,hDA⟩:∃D:ByteArray,D=⟨(jU a 10).toArray⟩:=⟨_,rfl⟩;obtain⟨DG,hDG⟩:∃D:ByteArray,D=⟨(jU g 5).toArray⟩:=⟨_,rfl⟩;have zA:DA.size≤128:=by rw[hDA];have:=jV a ia 10 (by omega);simpa [ByteArray.size] using this
 have zG:DG.size≤128:=by rw[hDG];have:=jV g ig 5 (by omega);simpa [ByteArray.size] using this
 have cA:=fun W (hW:Below w.heap.size w W)=>ej a ia 10 (by omega) W (htab.below hW) DA hDA
 have cG:=fun W (hW:Below w.heap.size w W)=>ej g ig 5 (by omega) W (htab.below hW) DG hDG
 obtain⟨S3,hS3⟩:∃S,S=DA++⟨#[32]⟩:=⟨_,rfl⟩;obtain⟨S7,hS7⟩:∃S,S=S3++DG:=⟨_,rfl⟩;have z3:S3.size≤129:=by rw[hS3,ByteArray.size_append];show DA.size+1≤129;omega
 have z7:S7.size≤257:=by rw[hS7,ByteArray.size_append];omega
 have hend:∀K:ByteArray,K.data.toList=(if k=1 then [32,110,32,10] else [32,102,32,10])→S7++K=T:=fun K hK=>by
  apply fG
  rw[hT,eH,hS7,eH,hS3,eH,hK,hDA,hDG]
  rfl
 clear hT;refine h7_ hDA hDG hS7 hS3 hb cA cG ?_;clear hDA hDG hS7 hS3 hb cA cG;intro hDA hDG hS7 hS3 hb cA cG;show Calls Tryz.prog 44 #[.agg #[.int .i64 n,.int .i64 k,.int .i64 a,.int .i64 g]] w fun e w'=>e=.returned (.string T)∧Below w.heap.size w w'
 have fin:∃(b:Bool) (K:ByteArray),(k == 1)=b∧S7++K=T∧K=(bif b then ⟨#[32,110,32,10]⟩ else ⟨#[32,102,32,10]⟩):=by
  by_cases h1:k=1
  ·exact⟨true,⟨#[32,110,32,10]⟩,by simpa using h1,hend _ (by rw[if_pos h1]),rfl⟩
  ·exact⟨false,⟨#[32,102,32,10]⟩,by simpa using h1,hend _ (by rw[if_neg h1]),rfl⟩
 clear hend;obtain⟨b,K,hkb,hKT,hK⟩:=fin;have zK:K.size≤4:=by rw[hK];cases b <;> decide
 replace hKT:=hi_ hKT;cases b
 case false=>
  simp only[cond_true,cond_false]at hK;subst hK;go_enter Tryz.func44,Tryz.ntmps44;go_upto_region 1 with (fail)
  rw[←hW1];replace hW1:=hi_ hW1;go_upto_region 4 with (fail)
  refine aL (by kernel_rfl) [none,none,none,none,none,none,none,some 0,some 1,some 2,some 3,some 4,some 5,some 6,some 7,some 8,some 9] (fun w'=>Below W1.heap.size W1 w') (fun w' w''=>Below w'.heap.size w' w'') (G44 w.heap.size a g DA DG ⟨#[32,102,32,10]⟩ S3 S7) (by rfl) (by kernel_rfl) 10 _ rfl (by decide) (by kernel_rfl) [10,10,10,10,10,10,10,10,10,10,0] (by kernel_rfl) ?hR ?mono (.cons 9 (ab [7,8] rfl (by kernel_rfl) ?s9) (.cons 8 (ab [] rfl (by kernel_rfl) ?s8) (.cons 7 (ab [3,6] rfl (by kernel_rfl) ?s7) (.cons 6 (ab [5,2] rfl (by kernel_rfl) ?s6) (.cons 5 (ab [4] rfl (by kernel_rfl) ?s5) (.cons 4 (ab [] rfl (by kernel_rfl) ?s4) (.cons 3 (ab [2] rfl (by kernel_rfl) ?s3) (.cons 2 (ab [1] rfl (by kernel_rfl) ?s2) (.cons 1 (ab [0] rfl (by kernel_rfl) ?s1) (.cons 0 (ab [] rfl (by kernel_rfl) ?s0) (.nil))))))))))) ?done
  case hR=>exact (Below.refl _ _).drew
  case mono=>exact jo
  case s0=>
   intro x w' hRw hd K' hK;simp only[All,G44]at hd;simp +decide only[upd,G44,ai,if_true,if_false]at hK⊢;go_simp;have hK2:=hK _ _ ⟨hRw,Below.refl _ _,rfl⟩;exact hK2
  case s1=>
   intro x w' hRw hd K' hK;simp only[All,G44]at hd;obtain⟨e0,_⟩:=hd;have tc2:=(hRw.cell (ac c2)).trans c2;simp +decide only[upd,G44,ai,if_true,if_false]at hK⊢;simp only[e0]at hK⊢;go_simp;have hK2:=hK _ _ ⟨hRw,Below.refl _ _,rfl⟩;exact hK2
  case s2=>
   intro x w' hRw hd K' hK;simp only[All,G44]at hd;obtain⟨e1,_⟩:=hd;simp +decide only[upd,G44,ai,if_true,if_false]at hK⊢;simp only[e1]at hK⊢;go_simp;refine (cA.out w' (ah hb.out hRw)).mono ?_;rintro e' w2 ⟨rfl,hB9⟩;have hK2:=hK _ _ ⟨ah hRw hB9,hB9,rfl⟩;exact hK2
  case s3=>
   intro x w' hRw hd K' hK;simp only[All,G44]at hd;obtain⟨e2,_⟩:=hd;simp +decide only[upd,G44,ai,if_true,if_false]at hK⊢;simp only[e2]at hK⊢;have h3:=hS3.out.symm;go_simp;rw[if_neg (by omega)];have hK2:=hK _ _ ⟨hRw,Below.refl _ _,rfl⟩;exact hK2
  case s4=>
   intro x w' hRw hd K' hK;simp only[All,G44]at hd;simp +decide only[upd,G44,ai,if_true,if_false]at hK⊢;go_simp;have hK2:=hK _ _ ⟨hRw,Below.refl _ _,rfl⟩;exact hK2
  case s5=>
   intro x w' hRw hd K' hK;simp only[All,G44]at hd;obtain⟨e4,_⟩:=hd;have tc3:=(hRw.cell (ac c3)).trans c3;simp +decide only[upd,G44,ai,if_true,if_false]at hK⊢;simp only[e4]at hK⊢;go_simp;have hK2:=hK _ _ ⟨hRw,Below.refl _ _,rfl⟩;exact hK2
  case s6=>
   intro x w' hRw hd K' hK;simp only[All,G44]at hd;obtain⟨e5,e2,_⟩:=hd;simp +decide only[upd,G44,ai,if_true,if_false]at hK⊢;simp only[e5,e2]at hK⊢;go_simp;refine (cG.out w' (ah hb.out hRw)).mono ?_;rintro e' w2 ⟨rfl,hB9⟩;have hK2:=hK _ _ ⟨ah hRw hB9,hB9,rfl⟩;exact hK2
  case s7=>
   intro x w' hRw hd K' hK;simp only[All,G44]at hd;obtain⟨e3,e6,_⟩:=hd;simp +decide only[upd,G44,ai,if_true,if_false]at hK⊢;simp only[e3,e6]at hK⊢;have h7:=hS7.out.symm;go_simp;rw[if_neg (by omega)];have hK2:=hK _ _ ⟨hRw,Below.refl _ _,rfl⟩;exact hK2
  case s8=>
   intro x w' hRw hd K' hK;simp only[All,G44]at hd;simp +decide only[upd,G44,ai,if_true,if_false]at hK⊢;go_simp;have hK2:=hK _ _ ⟨hRw,Below.refl _ _,rfl⟩;exact hK2
  case s9=>
   intro x w' hRw hd K' hK;simp only[All,G44]at hd;obtain⟨e7,e8,_⟩:=hd;simp +decide only[upd,G44,ai,if_true,if_false]at hK⊢;simp only[e7,e8]at hK⊢;have zK2:=zK;go_simp;rw[if_neg (by omega)];have hK2:=hK _ _ ⟨hRw,Below.refl _ _,rfl⟩;exact hK2
  case done=>
   intro x w6 hR2 hG fr hfr;have a9:=hG 9 (by omega);simp only[G44]at a9;clear hG;rw[hKT.out]at a9;simp only[ai]at hfr;rw[a9]at hfr;subst hfr;replace hR2:=hi_ hR2;go_wp2
   go_ret
   exact⟨rfl,ah hb.out hR2.out⟩
 case true=>
  simp only[cond_true,cond_false]at hK;subst hK;go_enter Tryz.func44,Tryz.ntmps44;go_upto_region 1 with (fail)
  rw[←hW1];replace hW1:=hi_ hW1;go_upto_region 4 with (fail)
  refine aL (by kernel_rfl) [none,none,none,none,none,none,none,some 0,some 1,some 2,some 3,some 4,some 5,some 6,some 7,some 8,some 9] (fun w'=>Below W1.heap.size W1 w') (fun w' w''=>Below w'.heap.size w' w'') (G44 w.heap.size a g DA DG ⟨#[32,110,32,10]⟩ S3 S7) (by rfl) (by kernel_rfl) 10 _ rfl (by decide) (by kernel_rfl) [10,10,10,10,10,10,10,10,10,10,0] (by kernel_rfl) ?hR ?mono (.cons 9 (ab [7,8] rfl (by kernel_rfl) ?s9) (.cons 8 (ab [] rfl (by kernel_rfl) ?s8) (.cons 7 (ab [3,6] rfl (by kernel_rfl) ?s7) (.cons 6 (ab [5,2] rfl (by kernel_rfl) ?s6) (.cons 5 (ab [4] rfl (by kernel_rfl) ?s5) (.cons 4 (ab [] rfl (by kernel_rfl) ?s4) (.cons 3 (ab [2] rfl (by kernel_rfl) ?s3) (.cons 2 (ab [1] rfl (by kernel_rfl) ?s2) (.cons 1 (ab [0] rfl (by kernel_rfl) ?s1) (.cons 0 (ab [] rfl (by kernel_rfl) ?s0) (.nil))))))))))) ?done
  case hR=>exact (Below.refl _ _).drew
  case mono=>exact jo
  case s0=>
   intro x w' hRw hd K' hK;simp only[All,G44]at hd;simp +decide only[upd,G44,ai,if_true,if_false]at hK⊢;go_simp;have hK2:=hK _ _ ⟨hRw,Below.refl _ _,rfl⟩;exact hK2
  case s1=>
   intro x w' hRw hd K' hK;simp only[All,G44]at hd;obtain⟨e0,_⟩:=hd;have tc2:=(hRw.cell (ac c2)).trans c2;simp +decide only[upd,G44,ai,if_true,if_false]at hK⊢;simp only[e0]at hK⊢;go_simp;have hK2:=hK _ _ ⟨hRw,Below.refl _ _,rfl⟩;exact hK2
  case s2=>
   intro x w' hRw hd K' hK;simp only[All,G44]at hd;obtain⟨e1,_⟩:=hd;simp +decide only[upd,G44,ai,if_true,if_false]at hK⊢;simp only[e1]at hK⊢;go_simp;refine (cA.out w' (ah hb.out hRw)).mono ?_;rintro e' w2 ⟨rfl,hB9⟩;have hK2:=hK _ _ ⟨ah hRw hB9,hB9,rfl⟩;exact hK2
  case s3=>
   intro x w' hRw hd K' hK;simp only[All,G44]at hd;obtain⟨e2,_⟩:=hd;simp +decide only[upd,G44,ai,if_true,if_false]at hK⊢;simp only[e2]at hK⊢;have h3:=hS3.out.symm;go_simp;rw[if_neg (by omega)];have hK2:=hK _ _ ⟨hRw,Below.refl _ _,rfl⟩;exact hK2
  case s4=>
   intro x w' hRw hd K' hK;simp only[All,G44]at hd;simp +decide only[upd,G44,ai,if_true,if_false]at hK⊢;go_simp;have hK2:=hK _ _ ⟨hRw,Below.refl _ _,rfl⟩;exact hK2
  case s5=>
   intro x w' hRw hd K' hK;simp only[All,G44]at hd;obtain⟨e4,_⟩:=hd;have tc3:=(hRw.cell (ac c3)).trans c3;simp +decide only[upd,G44,ai,if_true,if_false]at hK⊢;simp only[e4]at hK⊢;go_simp;have hK2:=hK _ _ ⟨hRw,Below.refl _ _,rfl⟩;exact hK2
  case s6=>
   intro x w' hRw hd K' hK;simp only[All,G44]at hd;obtain⟨e5,e2,_⟩:=hd;simp +decide only[upd,G44,ai,if_true,if_false]at hK⊢;simp only[e5,e2]at hK⊢;go_simp;refine (cG.out w' (ah hb.out hRw)).mono ?_;rintro e' w2 ⟨rfl,hB9⟩;have hK2:=hK _ _ ⟨ah hRw hB9,hB9,rfl⟩;exact hK2
  case s7=>
   intro x w' hRw hd K' hK;simp only[All,G44]at hd;obtain⟨e3,e6,_⟩:=hd;simp +decide only[upd,G44,ai,if_true,if_false]at hK⊢;simp only[e3,e6]at hK⊢;have h7:=hS7.out.symm;go_simp;rw[if_neg (by omega)];have hK2:=hK _ _ ⟨hRw,Below.refl _ _,rfl⟩;exact hK2
  case s8=>
   intro x w' hRw hd K' hK;simp only[All,G44]at hd;simp +decide only[upd,G44,ai,if_true,if_false]at hK⊢;go_simp;have hK2:=hK _ _ ⟨hRw,Below.refl _ _,rfl⟩;exact hK2
  case s9=>
   intro x w' hRw hd K' hK;simp only[All,G44]at hd;obtain⟨e7,e8,_⟩:=hd;simp +decide only[upd,G44,ai,if_true,if_false]at hK⊢;simp only[e7,e8]at hK⊢;have zK2:=zK;go_simp;rw[if_neg (by omega)];have hK2:=hK _ _ ⟨hRw,Below.refl _ _,rfl⟩;exact hK2
  case done=>
   intro x w6 hR2 hG fr hfr;have a9:=hG 9 (by omega);simp only[G44]at a9;clear hG;rw[hKT.out]at a9;simp only[ai]at hfr;rw[a9]at hfr;subst hfr;replace hR2:=hi_ hR2;go_wp2
   go_ret
   exact⟨rfl,ah hb.out hR2.out⟩
def RowsAt (w:World) (A:Option Addr) (l:List R4):Prop:=l.length≤maxLen∧(0<l.length→∃b o,A=some ⟨b,o,none⟩∧∀i (hi:i<l.length) j u,(rv l[i])[j]?=some u→w.cell? ⟨b,o+i*4+j,none⟩=some u)
theorem RowsAt.below {w w':World}{A:Option Addr}{l:List R4}(h:RowsAt w A l) (hb:Below w.heap.size w w'):RowsAt w' A l:=by
 refine⟨h.1,fun h0=>?_⟩;obtain⟨b,o,rfl,hc⟩:=h.2 h0;exact⟨b,o,rfl,fun i hi j u hu=>(hb.cell (ac (hc i hi j u hu))).trans (hc i hi j u hu)⟩
def OwnR (e:TypeId) (B:Nat) (w:World) (v:Value) (l:List R4):Prop:=w.ownsRow B e 4 v l.length (l.map rv).flatten
theorem jj (r:R4):(rv r).length=4:=rfl
theorem tH (l:List R4):(l.map rv).flatten.length=l.length*4:=by
 induction l with
 |nil=>rfl
 |cons x l ih=>simp only[List.map_cons,List.flatten_cons,List.length_append,ih,jj,List.length_cons];omega
theorem jB:∀(l:List R4) (i:Nat) (hi:i<l.length) (j:Nat) (u:Value),(rv l[i])[j]?=some u→(l.map rv).flatten[i*4+j]?=some u
 |[],i,hi,j,u,h=>by simp at hi
 |x :: l,0,hi,j,u,h=>by
  have hj:j<4:=(List.getElem?_eq_some_iff.1 h).1;simp only[List.map_cons,List.flatten_cons,Nat.zero_mul,Nat.zero_add];rw[List.getElem?_append_left (by rw[jj];exact hj)];exact h
 |x :: l,i+1,hi,j,u,h=>by
  have:=jB l i (by simpa using hi) j u h;simp only[List.map_cons,List.flatten_cons];rw[List.getElem?_append_right (by rw[jj];omega),jj,show (i+1)*4+j - 4=i*4+j by omega];exact this
theorem OwnR.nil (e:TypeId) (B:Nat) (w:World):OwnR e B w (.slice none 0 0) []:=World.ownsRow_nil _ _ _ _
theorem OwnR.below {e:TypeId}{B:Nat}{w w':World}{v:Value}{l:List R4}(h:OwnR e B w v l) (hb:Below w.heap.size w w'):OwnR e B w' v l:=am h fun b _ hb'=>hb.block b hb'
theorem OwnR.out {e:TypeId}{B:Nat}{w:World}{v:Value}{l:List R4}(h:OwnR e B w v l) (hl:l.length≤maxLen):∃A c,v=.slice A l.length c∧RowsAt w A l:=by
 rcases h.2 with ⟨rfl,hn⟩|⟨g,cap,cur,rfl,hB,hh,hnc,hcm,hcs,htk⟩
 ·exact⟨none,0,by rw[hn],hl,fun h0=>by omega⟩
 ·refine⟨_,cap,rfl,hl,fun h0=>⟨g,0,rfl,fun i hi j u hu=>?_⟩⟩
  have h1:=jB l i hi j u hu;have hj:j<4:=(List.getElem?_eq_some_iff.1 hu).1;have:=World.ownsRow.cells (w:=w) (base:=B) (e:=e) (size:=4) (v:=.slice (some ⟨g,0,none⟩) l.length cap) (n:=l.length) (xs:=(l.map rv).flatten) h (g:=g) rfl (i*4+j) u h1;rw[bz]at this;rw[←Nat.add_assoc]at this;exact this
structure RT (t e:TypeId):Prop where
 u:Tryz.prog.underlying t=some (.slice e)
 i:∃i,Tryz.prog.info? e=some i∧i.zero=some (.agg #[.int .i64 0,.int .i64 0,.int .i64 0,.int .i64 0])∧i.size=4∧i.bytes=32
theorem rt28:RT 28 64:=⟨Tryz.underlying28,Tryz.t64,by kernel_rfl,by kernel_rfl,by kernel_rfl,by kernel_rfl⟩
theorem uj:RT 38 70:=⟨Tryz.underlying38,Tryz.t70,by kernel_rfl,by kernel_rfl,by kernel_rfl,by kernel_rfl⟩
theorem lj (r:R4):∀u∈rv r,u.oneCell'=true:=by
 intro u hu;simp only[rv,List.mem_cons,List.not_mem_nil,or_false]at hu;rcases hu with rfl|rfl|rfl|rfl <;> rfl
theorem rQ {t e:TypeId}(T:RT t e) {w:World}{ops:Array Oper}{rest:List Oper}{o:Oper}{a:Act}{Q:Exit→Act→World→Prop}(hgd:o.guard=none) (s x:Operand)
 (ho:o.op=.call {callee:=.builtin .append,args:=#[s,x],argTypes:=#[t,t]}) (B:Nat) (v:Value) (l:List R4) (hs:a.eval s=v) (hR:OwnR e B w v l)
 (g:Nat) (r:R4) (hx:a.eval x=.slice (some ⟨g,0,none⟩) 1 1) (hc:∀j u,(rv r)[j]?=some u→w.cell? ⟨g,j,none⟩=some u) (hl:l.length≤1000000000) (hB:B≤w.heap.size)
 (h:∀v' w',OwnR e B w' v' (l++[r])→w.grownBy w' v.ownBlock→(v'.ownBlock=v.ownBlock∨v'.ownBlock=some w.heap.size)→wpList Tryz.prog ops Q rest (a.put o.dst v') w'):wpList Tryz.prog ops Q (o :: rest) a w:=by
 obtain⟨i0,hi0,hz0,hz1,hz2⟩:=T.i;refine wpList_append_own_at w hgd s x t ho B e i0 _ 4 32 T.u hi0 hz0 hz1 hz2 rfl (by decide) v l.length (l.map rv).flatten hs hR ⟨g,0,none⟩ 1 1 (rv r) hx rfl ?_ (lj r) (by unfold maxLen;omega) (by omega) hB ?_
 ·intro j u hu;rw[bz,Nat.zero_add];exact hc j u hu
 ·intro v' w' h1 h2 _ h3
  refine h v' w' ?_ h2 h3;unfold OwnR;rw[List.length_append,List.map_append,List.flatten_append]
  simpa using h1
section
open Go Go.RowKit Go.Wk Go.Rd Go.Fx
def dx (first:Int):Nat→Nat→List R4→Bs→Res (List R4)
 |0,_,acc,r=>.ok acc r
 |m+1,i,acc,r=>if r.length<20 then .err 2 r else match kQ (r.take 20) with
  |none=>.err 4 r
  |some (k,a,g)=>dx first m (i+1) (acc++[⟨first+i,k,a,g⟩]) (r.drop 20)
def de (r:Bs):Bs:=r.dropWhile aY
def fq (r:Bs):Res (List R4):=match bx 0 8388607 r with
 | .err e u=>.err e u
 | .ok t u=>match bx 0 (8388608 - t.n) u with
  | .err e v=>.err e v
  | .ok s v=>dx t.n s.n.toNat 0 [] (de v)
theorem qG {lo hi:Int}{r u:Bs}{k:Tok}(h:bx lo hi r=.ok k u):lo≤k.n∧k.n≤hi:=by
 unfold bx at h;cases ht:ar r with
 |err e v=>rw[ht]at h;cases h
 |ok t v=>
  rw[ht]at h;simp only[]at h;split at h
  ·cases h
  ·split at h
   ·rename_i h2;cases h;exact h2.2
   ·cases h
section
variable {P L R:Nat}{A:Option Addr}{c:Nat}{bs:Bs}{d dd:Nat}{pl:Bool}{W X X' w w':World}{r r' u v:Bs}{k s:Tok}
theorem mi (W:World) (h:PS P L R A c bs d pl W r):Calls Tryz.prog 58 #[.pointer (some ⟨L,0,none⟩)] W fun e w'=>e=.returned (.int .i64 (r.length:Nat))∧W=w':=by
 obtain⟨M,V,hL⟩:=h.ls;have hs:=aK hL.suf;have hs2:=aB hL.suf;have hs3:=aE bs r;refine (bd hL.cur).mono ?_;rintro e w' ⟨rfl,rfl⟩;exact⟨by congr 2;omega,rfl⟩
theorem oX {x:UInt8}{t:Bs}{Y:Int}(hX:Y=(x.toNat:Int)) (W:World) (h:PS P L R A c bs d pl W (x :: t)):Calls Tryz.prog 56 #[.pointer (some ⟨L,0,none⟩),.int .i64 0] W fun e w'=>e=.returned (.int .i64 Y)∧PS P L R A c bs d pl w' (x :: t)∧Fr L R W w':=by
 obtain⟨M,V,hL⟩:=h.ls;refine (bi hX W hL).mono ?_;rintro e w' ⟨rfl,h1,h2⟩;exact⟨rfl,h.to h1 (Fr.of_save h2),Fr.of_save h2⟩
theorem qR {x:UInt8}{t:Bs}{Y:Int}(hX:Y=(x.toNat:Int)) (W:World) (h:PS P L R A c bs d pl W (x :: t)):Calls Tryz.prog 60 #[.pointer (some ⟨L,0,none⟩)] W fun e w'=>e=.returned (.int .i64 Y)∧PS P L R A c bs d pl w' t∧Fr L R W w':=by
 obtain⟨M,V,hL⟩:=h.ls;refine (dM hX W hL).mono ?_;rintro e w' ⟨rfl,h1,h2⟩;exact⟨rfl,h.to h1 (Fr.of_save h2),Fr.of_save h2⟩
theorem qS (W:World) (h:PS P L R A c bs d pl W r) (hn:20≤r.length):Calls Tryz.prog 61 #[.pointer (some ⟨L,0,none⟩),.int .i64 20] W fun e w'=>∃a2 c2,e=.returned (.tuple #[.slice a2 20 c2,.bool true])∧Byt w' a2 (r.take 20)∧20≤c2∧PS P L R A c bs d pl w' (r.drop 20)∧Fr L R W w':=by
 obtain⟨M,V,hL⟩:=h.ls;have hl:(r.take 20).length=20:=by rw[List.length_take];omega
 refine (l4 20 (by omega) hn W hL).mono ?_;rintro e w' ⟨a2,m2,c2,rfl,hO,h1,h2⟩;obtain⟨A9,c9,e9,hby,_,hcap⟩:=hO.out2L (by rw[hl];decide);injection e9 with i1 i2 i3;subst i1 i2 i3;rw[hl]at hcap⊢;exact⟨_,_,rfl,hby,hcap,h.to h1 (Fr.of_save h2),Fr.of_save h2⟩
theorem m4 (W:World) (h:PS P L R A c bs d pl W r) (hn:r.length<20):Calls Tryz.prog 61 #[.pointer (some ⟨L,0,none⟩),.int .i64 20] W fun e w'=>∃a2 n2 c2,e=.returned (.tuple #[.slice a2 n2 c2,.bool false])∧PS P L R A c bs d pl w' r∧Fr L R W w':=by
 obtain⟨M,V,hL⟩:=h.ls;have hp:=aK hL.suf;refine (od 20 hL.cur hL.cap (by omega) (by omega)).mono ?_;rintro e w' ⟨A',c',rfl,hby,hC⟩;have hb:gd bs (pos bs r) 20=false:=by unfold gd;simp;omega
 rw[hb]at hC⊢;have hsv:=hL.save_to hC hL.suf rfl;exact⟨_,_,_,rfl,h.to hsv.1 (Fr.of_save hsv.2),Fr.of_save hsv.2⟩
structure TSx (W:World) (P L R:Nat) (A:Option Addr) (c:Nat) (bs:Bs) (d:Nat) (pl:Bool) (acc:List R4) (vL:Value) (X:World) (r:Bs):Prop where
 ps:PS P L R A c bs d pl X r
 fr:Fr L R W X
 own:OwnR 64 W.heap.size X vL acc
 lL:L<W.heap.size
 lR:R<W.heap.size
 lP:P<W.heap.size
 off:0<bs.length→∀x,A=some x→x.block<W.heap.size
theorem TSx.to {acc:List R4}{vL:Value}(h:TSx W P L R A c bs d pl acc vL X r) (hP:PS P L R A c bs d pl X' r') (hF:Fr L R X X'):TSx W P L R A c bs d pl acc vL X' r':=
 ⟨hP,h.fr.trans hF,am h.own (fun b h1 h2=>hF.block b h2 (by have:=h.lL;omega) (by have:=h.lR;omega)),h.lL,h.lR,h.lP,h.off⟩
theorem TSx.belowW {acc:List R4}{vL:Value}(h:TSx W P L R A c bs d pl acc vL X r) (hb:Below X.heap.size X X'):TSx W P L R A c bs d pl acc vL X' r:=h.to (h.ps.belowW hb) (Fr.of_below hb)
theorem TSx.row {acc acc':List R4}{vL v':Value}(h:TSx W P L R A c bs d pl acc vL X r) (hR:OwnR 64 W.heap.size X' v' acc') (hg:X.grownBy X' vL.ownBlock):TSx W P L R A c bs d pl acc' v' X' r:=by
 have hB:Below W.heap.size X X':=(Below.refl _ _ |>.mono h.fr.size).grown hg h.fr.size (fun k hk=>(World.ownsRow.lt h.own k hk).1);exact⟨h.ps.below hB h.lL h.lR h.lP h.off,h.fr.thenB hB,hR,h.lL,h.lR,h.lP,h.off⟩
theorem TSx.cellU {acc:List R4}{vL:Value}(h:TSx W P L R A c bs d pl acc vL X r) (T i:Nat) (u:Value) (hT:W.heap.size≤T) (hne:vL.ownBlock=none∨vL.ownBlock≠some T):TSx W P L R A c bs d pl acc vL (X.setCell ⟨T,i,none⟩ u) r:=by
 have hg:=aO X T i u;exact⟨h.ps.grownL hg (by have:=h.lL;omega) (by have:=h.lR;omega) (by have:=h.lP;omega) (fun h0 x hx=>by have:=h.off h0 x hx;omega),h.fr.grownL hg hT,h.own.kept hg hne,h.lL,h.lR,h.lP,h.off⟩
def nK (P L R:Nat) (A:Option Addr) (c:Nat) (bs:Bs) (d:Nat) (pl:Bool) (w:World) (res:Res (List R4)) (e:Ending) (w':World):Prop:=match res with
 | .ok l u=>∃v,e=.returned (.tuple #[v,.int .i64 0])∧OwnR 64 w.heap.size w' v l∧PS P L R A c bs d pl w' u∧Fr L R w w'
 | .err n u=>n≠0∧e=.returned (.tuple #[.slice none 0 0,.int .i64 n])∧PS P L R A c bs d pl w' u∧Fr L R w w'
theorem qX (W:World) (h:PS P L R A c bs d pl W r):Calls Tryz.prog 27 #[.pointer (some ⟨P,0,none⟩)] W (nK P L R A c bs d pl W (fq r)):=by
 obtain⟨K,hK⟩:∃K,K=fq r:=⟨_,rfl⟩;rw[←hK];have hsm:=h.small;have hrl:=aB h.suf;have hA:TSx W P L R A c bs d pl [] (.slice none 0 0) W r:=⟨h,Fr.refl _ _ _,OwnR.nil _ _ _,h.L_lt,h.R_lt,h.P_lt,h.a_lt⟩;have p0:=h.p0;have q0:=h.q0;have c1:=ke 0 8388607 W h;unfold fq at hK;replace hsm:=hi_ hsm;replace hrl:=hi_ hrl;cases h1:bx 0 8388607 r with
 |err n u=>
  rw[h1]at c1 hK;simp only[]at hK;subst hK;replace hA:=hi_ hA;clear h;go_enter Tryz.func27,Tryz.ntmps27;go_wp2_with (go_at_call 57;(with_reducible refine c1.mono ?_);rintro e w2 ⟨hn0,rfl,hP2,hF2⟩;have hnb:=bne_iff_ne.2 hn0;replace hn0:=hi_ hn0;replace hP2:=hi_ hP2;replace hF2:=hi_ hF2;clear c1)
  go_ret2
  exact⟨hn0.out,rfl,hP2.out,hF2.out⟩
 |ok t u=>
  rw[h1]at c1 hK;simp only[]at hK;have hin1:=qG h1;obtain⟨N,hN⟩:∃N,N=t.n:=⟨_,rfl⟩;have c1':Calls Tryz.prog 57 #[.pointer (some ⟨P,0,none⟩),.int .i64 0,.int .i64 8388607] W fun e w'=>e=.returned (.tuple #[.int .i64 N,.int .i64 0])∧PS P L R A c bs d pl w' u∧Fr L R W w':=by rw[hN];exact c1
  rw[←hN]at hin1 hK;have hw8:IntKind.i64.wrap (8388608 - N)=8388608 - N:=by rw[IntWalk.i64_in _ (by omega)]
  have c2:=hi_ fun W h=>ke (P:=P) (L:=L) (R:=R) (A:=A) (c:=c) (bs:=bs) (d:=d) (pl:=pl) (r:=u) 0 (8388608 - N) W h
  replace hN:=hi_ hN;clear c1 h1 h;cases h2:bx 0 (8388608 - N) u with
  |err n v=>
   have c3:∀W,PS P L R A c bs d pl W u→Calls Tryz.prog 57 #[.pointer (some ⟨P,0,none⟩),.int .i64 0,.int .i64 (8388608 - N)] W (nN P L R A c bs d pl W (.err n v)):=fun W h=>by have:=c2.out W h;rw[h2]at this;exact this
   rw[h2]at hK;simp only[]at hK;subst hK;replace c3:=hi_ c3;replace hA:=hi_ hA;clear h2 c2;go_enter Tryz.func27,Tryz.ntmps27;go_wp2_with (first|(go_at_call 57;(with_reducible refine c1'.mono ?_);rintro e w2 ⟨rfl,hP2,hF2⟩;replace hA:=hi_ (hA.out.to hP2 hF2);replace p0:=hA.out.ps.p0;replace q0:=hA.out.ps.q0;clear hP2 hF2 c1')|(go_at_call 57;(with_reducible refine (c3.out _ hA.out.ps).mono ?_);rintro e w2 ⟨hn0,rfl,hP2,hF2⟩;replace hA:=hi_ (hA.out.to hP2 hF2);have hnb:=bne_iff_ne.2 hn0;replace hn0:=hi_ hn0;clear hP2 hF2 c3))
   go_ret2
   exact⟨hn0.out,rfl,hA.out.ps,hA.out.fr⟩
  |ok t2 v=>
   have hin2:=qG h2;obtain⟨m,hm⟩:∃m,m=t2.n.toNat:=⟨_,rfl⟩;obtain⟨M,hM⟩:∃M:Int,M=(m:Nat):=⟨_,rfl⟩;have htn:t2.n=M:=by omega
   have c3:∀W,PS P L R A c bs d pl W u→Calls Tryz.prog 57 #[.pointer (some ⟨P,0,none⟩),.int .i64 0,.int .i64 (8388608 - N)] W fun e w'=>e=.returned (.tuple #[.int .i64 M,.int .i64 0])∧PS P L R A c bs d pl w' v∧Fr L R W w':=fun W h=>by have:=c2.out W h;rw[h2]at this;rw[←htn];exact this
   rw[h2]at hK;simp only[]at hK;rw[←hm]at hK;rw[htn]at hin2;refine h6_ hm htn hM c3 hA hK ?_;clear hm htn hM c3 hA hK;intro hm htn hM c3 hA hK;clear h2 c2;go_enter Tryz.func27,Tryz.ntmps27
   go_upto_block 0 with (first|(go_at_call 57;(with_reducible refine c1'.mono ?_);rintro e w2 ⟨rfl,hP2,hF2⟩;replace hA:=hi_ (hA.out.to hP2 hF2);replace p0:=hA.out.ps.p0;replace q0:=hA.out.ps.q0;clear hP2 hF2 c1')|(go_at_call 57;(with_reducible refine (c3.out _ hA.out.ps).mono ?_);rintro e w2 ⟨rfl,hP2,hF2⟩;replace hA:=hi_ (hA.out.to hP2 hF2);replace p0:=hA.out.ps.p0;replace q0:=hA.out.ps.q0;clear hP2 hF2 c3))
   obtain⟨Z,hZ⟩:∃Z,Z=de v:=⟨_,rfl⟩;have hzs:Z <:+bs:=by rw[hZ];exact (List.dropWhile_suffix _).trans hA.out.ps.suf
   have hK2:=hK.out;rw[←hZ]at hK2;replace hK:=hi_ hK2;replace hZ:=hi_ hZ;replace hzs:=hi_ hzs;clear hK2;go_cut [] from 31 to 58 (fun wx=>TSx W P L R A c bs d pl [] (.slice none 0 0) wx Z)
   case first=>
    go_wp2_with fail
    go_loopw [] (fun wr=>∃r1,TSx W P L R A c bs d pl [] (.slice none 0 0) wr r1∧de r1=Z) (fun wr=>bs.length+1 - posOf L wr)
    case atStart=>exact⟨_,hA.out,hZ.out.symm⟩
    case round=>
     clear hA;obtain⟨r1,hA,hE⟩:=hrel;have hbw:bs.length+1 - posOf L wr=r1.length+1:=by rw[hA.ps.posOf];have:=aK hA.ps.suf;have:=aE bs r1;omega
     have p0:=hA.ps.p0;have q0:=hA.ps.q0;replace hbw:=hi_ hbw;cases r1 with
     |nil=>
      have cl:=hi_ fun W h=>mi (P:=P) (L:=L) (R:=R) (A:=A) (c:=c) (bs:=bs) (d:=d) (pl:=pl) (r:=[]) W h
      have hEz:Z=[]:=by rw[←hE];rfl
      rw[←hEz]at hA;have hA2:=hi_ hA;rw[hEz]at hA;replace hA:=hi_ hA;replace hEz:=hi_ hEz;clear hE;go_wp2_with (go_at_call 58;(with_reducible refine (cl.out _ hA.out.ps).mono ?_);rintro e w2 ⟨rfl,rfl⟩)
      go_meet
      exact hA2.out
     |cons x t=>
      have cl:=hi_ fun W h=>mi (P:=P) (L:=L) (R:=R) (A:=A) (c:=c) (bs:=bs) (d:=d) (pl:=pl) (r:=x :: t) W h
      obtain⟨Y,hY⟩:∃Y:Int,Y=(x.toNat:Nat):=⟨_,rfl⟩;have ck:=hi_ fun W h=>oX (P:=P) (L:=L) (R:=R) (A:=A) (c:=c) (bs:=bs) (d:=d) (pl:=pl) (t:=t) hY W h
      have cn:=hi_ fun W h=>qR (P:=P) (L:=L) (R:=R) (A:=A) (c:=c) (bs:=bs) (d:=d) (pl:=pl) (t:=t) hY W h
      obtain⟨wb,hwb⟩:∃b,b=aY x:=⟨_,rfl⟩;have cw:=hi_ fun w=>dF hY hwb w
      have hE2:(if wb=true then de t else x :: t)=Z:=by rw[←hE,hwb];unfold de;rw[List.dropWhile_cons]
      obtain⟨ln,hln⟩:∃n,n=(x :: t).length:=⟨_,rfl⟩;have hlp:0<ln:=by rw[hln];simp
      rw[←hln]at cl;refine h5_ hA hwb hY hln hE2 ?_;clear hA hwb hY hln hE2;intro hA hwb hY hln hE2;clear hE;cases wb with
      |true=>
       go_wp2_with (first|(go_at_call 58;(with_reducible refine (cl.out _ hA.out.ps).mono ?_);rintro e w2 ⟨rfl,rfl⟩)|(go_at_call 56;(with_reducible refine (ck.out _ hA.out.ps).mono ?_);rintro e w2 ⟨rfl,hP2,hF2⟩;replace hA:=hi_ (hA.out.to hP2 hF2);replace p0:=hA.out.ps.p0;replace q0:=hA.out.ps.q0;clear hP2 hF2)|(go_at_call 59;(with_reducible refine (cw.out _).mono ?_);rintro e w3 ⟨rfl,rfl⟩)|(go_at_call 60;(with_reducible refine (cn.out _ hA.out.ps).mono ?_);rintro e w4 ⟨rfl,hP2,hF2⟩;replace hA:=hi_ (hA.out.to hP2 hF2);replace p0:=hA.out.ps.p0;replace q0:=hA.out.ps.q0;clear hP2 hF2))
       have hE3:de t=Z:=by simpa using hE2.out
       have e1:=hA.out.ps.posOf;have e2:=aK hA.out.ps.suf;have e3:=aE bs t;have e4:=hbw.out;simp only[List.length_cons]at e4;exact⟨⟨t,hA.out,hE3⟩,by rw[e1];omega⟩
      |false=>
       have hE3:x :: t=Z:=by simpa using hE2.out
       replace hE3:=hi_ hE3;go_wp2_with (first|(go_at_call 58;(with_reducible refine (cl.out _ hA.out.ps).mono ?_);rintro e w2 ⟨rfl,rfl⟩)|(go_at_call 56;(with_reducible refine (ck.out _ hA.out.ps).mono ?_);rintro e w2 ⟨rfl,hP2,hF2⟩;replace hA:=hi_ (hA.out.to hP2 hF2);replace p0:=hA.out.ps.p0;replace q0:=hA.out.ps.q0;clear hP2 hF2)|(go_at_call 59;(with_reducible refine (cw.out _).mono ?_);rintro e w3 ⟨rfl,rfl⟩))
       go_meet
       rw[←hE3.out];exact hA.out
   case rest=>
    replace hA:=hi_ hcut;clear hcut;replace p0:=hA.out.ps.p0;replace q0:=hA.out.ps.q0;replace hmM:=hM.out;rw[hmM];replace hmM:=hi_ hmM;go_wp2
    go_loopw [7,60] (fun s7 s60 wr=>∃(i j:Nat) (acc:List R4) (r1:Bs),s60=.int .i64 i∧i+j=m∧TSx W P L R A c bs d pl acc s7 wr r1∧dx N j i acc r1=K∧acc.length=i) (fun _ s60 _=>m - (RowKit.intOf s60).toNat)
    case atStart=>exact⟨0,m,[],Z,rfl,by omega,hA.out,hK.out.symm,rfl⟩
    case round=>
     clear hA;obtain⟨i,j,acc,r1,rfl,hij,hA,hE,hal⟩:=hrel;have p0:=hA.ps.p0;have q0:=hA.ps.q0;have hmb:=hmM.out;have hmx:m≤8388608:=by omega
     cases j with
     |zero=>
      obtain rfl:i=m:=by omega
      obtain rfl:K=.ok acc r1:=by rw[←hE,dx]
      obtain⟨vA,vc,hv7,_⟩:=hA.own.out (by unfold maxLen;omega);replace hA:=hi_ hA;clear hE;go_wp2
      go_ret2
      exact⟨_,rfl,hA.out.own,hA.out.ps,hA.out.fr⟩
     |succ j=>
      have him:i<m:=by omega
      have hsuf:=hA.ps.suf;have cps:=hi_ fun W h=>cQ (P:=P) (L:=L) (R:=R) (A:=A) (c:=c) (bs:=bs) (d:=d) (pl:=pl) (r:=r1) W h
      obtain⟨q,hq⟩:∃q:Int,q=(pos bs r1:Nat):=⟨_,rfl⟩;rw[←hq]at cps;have csk:=hi_ fun (r2:Bs) W h=>bL (P:=P) (L:=L) (R:=R) (A:=A) (c:=c) (bs:=bs) (d:=d) (pl:=pl) (r:=r2) hsuf hq W h
      replace hq:=hi_ hq;replace hsuf:=hi_ hsuf;by_cases h20:r1.length<20
      ·obtain rfl:K=.err 2 r1:=by rw[←hE,dx,if_pos h20]
       have ct:=hi_ fun W h=>m4 (P:=P) (L:=L) (R:=R) (A:=A) (c:=c) (bs:=bs) (d:=d) (pl:=pl) (r:=r1) W h h20
       replace hA:=hi_ hA;replace h20:=hi_ h20;clear hE csk;go_wp2_with (first|(go_at_call 14;(with_reducible refine (cps.out _ hA.out.ps).mono ?_);rintro e w2 ⟨rfl,rfl⟩)|(go_at_call 61;(with_reducible refine (ct.out _ hA.out.ps).mono ?_);rintro e w3 ⟨a2,n2,c2,rfl,hP2,hF2⟩;replace hA:=hi_ (hA.out.to hP2 hF2);replace p0:=hA.out.ps.p0;replace q0:=hA.out.ps.q0;clear hP2 hF2))
       go_ret2
       exact⟨by decide,rfl,hA.out.ps,hA.out.fr⟩
      ·have hal9:acc.length≤1000000000:=by omega
       replace hal:=hi_ hal;have ct:=hi_ fun W h=>qS (P:=P) (L:=L) (R:=R) (A:=A) (c:=c) (bs:=bs) (d:=d) (pl:=pl) (r:=r1) W h (by omega)
       have h20l:(r1.take 20).length=20:=by rw[List.length_take];omega
       have ce:=fun A c (hc:20≤c) W (hby:Byt W A (r1.take 20))=>ni A c (r1.take 20) h20l hc W hby
       have hE2:=hE;rw[dx,if_neg h20,jz]at hE2;obtain⟨ok,hok⟩:∃x,x=okE (r1.take 20):=⟨_,rfl⟩;obtain⟨KD,hKD⟩:∃x,x=dZ (r1.take 20):=⟨_,rfl⟩;obtain⟨n1,hn1⟩:∃x,x=(bN ((r1.take 20).take 10)).1:=⟨_,rfl⟩;obtain⟨n2,hn2⟩:∃x,x=(bN (((r1.take 20).drop 11).take 5)).1:=⟨_,rfl⟩;rw[←hok,←hKD,←hn1,←hn2]at ce hE2;refine h9_ ce hE2 hA hok hKD hn1 hn2 h20 h20l ?_;clear ce hE2 hA hok hKD hn1 hn2 h20 h20l;intro ce hE2 hA hok hKD hn1 hn2 h20 h20l;clear hE;obtain⟨vA,vc,hv7,_⟩:=hA.out.own.out (by unfold maxLen;omega);subst hv7;go_upto_region 18 with (first|(go_at_call 14;(with_reducible refine (cps.out _ hA.out.ps).mono ?_);rintro e w2 ⟨rfl,rfl⟩)|(go_at_call 61;(with_reducible refine (ct.out _ hA.out.ps).mono ?_);rintro e w3 ⟨a2,c2,rfl,hby,hcap,hP2,hF2⟩;replace hA:=hi_ (hA.out.to hP2 hF2);replace p0:=hA.out.ps.p0;replace q0:=hA.out.ps.q0;have ce2:=ce.out a2 c2 hcap _ hby;replace hby:=hi_ hby;clear hP2 hF2)|(go_at_call 62;(with_reducible refine ce2.mono ?_);rintro e w6 ⟨rfl,hB6⟩;replace hA:=hi_ (hA.out.belowW hB6);replace p0:=hA.out.ps.p0;replace q0:=hA.out.ps.q0;clear hB6 ce2))
       obtain⟨W7,hW7,b7,hU7⟩:=ak w6 64 #[.int .i64 0,.int .i64 KD,.int .i64 n1,.int .i64 n2];rw[←hW7];have hsz6:=hA.out.fr.size;have hltv:(Value.slice vA acc.length vc).ownBlock=none∨(Value.slice vA acc.length vc).ownBlock≠some w6.heap.size:=.inr fun e=>by have:=(World.ownsRow.lt hA.out.own _ e).2;omega
       replace hA:=hi_ (hA.out.belowW b7);replace p0:=hA.out.ps.p0;replace q0:=hA.out.ps.q0;refine h3_ hW7 b7 hltv ?_;clear hW7 b7 hltv;intro hW7 b7 hltv;cases ok with
       |false=>
        have hE3:K=.err 4 r1:=by have h3:=hE2.out;simpa using h3.symm
        subst hE3;replace hU7:=hi_ hU7;clear hE2;go_wp2_with (first|(go_at_call 30;(with_reducible refine (csk.out _ _ hA.out.ps).mono ?_);rintro e w8 ⟨rfl,hP2,hF2⟩;replace hA:=hi_ (hA.out.to hP2 hF2);clear hP2 hF2))
        go_ret2
        exact⟨by decide,rfl,hA.out.ps,hA.out.fr⟩
       |true=>
        have hE3:dx N j (i+1) (acc++[⟨N+i,KD,n1,n2⟩]) (r1.drop 20)=K:=by have h3:=hE2.out;simpa using h3
        have hwi:IntKind.i64.wrap (N+(i:Int))=N+i:=by rw[IntWalk.i64_in _ (by omega)]
        obtain⟨Ni,hNi⟩:∃x:Int,x=N+i:=⟨_,rfl⟩;rw[←hNi]at hE3 hwi;obtain⟨k0,k1,k2,k3,f0,-⟩:=hU7.b4;refine h3_ hU7 hE3 hNi ?_;clear hU7 hE3 hNi;intro hU7 hE3 hNi;clear hE2;go_upto_region 22 with fail
        rw[←hNi.out];obtain⟨W8,hW8⟩:∃Wx,Wx=W7.setCell ⟨w6.heap.size,0,none⟩ (.int .i64 Ni):=⟨_,rfl⟩;rw[←hW8];have hU8:Blk W8 w6.heap.size 64 #[.int .i64 Ni,.int .i64 KD,.int .i64 n1,.int .i64 n2]:=by rw[hW8];exact hU7.out.set_ 0 _
        have hA8:=hA.out.cellU w6.heap.size 0 (.int .i64 Ni) hsz6 hltv.out;rw[←hW8]at hA8;replace hA:=hi_ hA8;clear hA8 k0 k1 k2 k3 f0;obtain⟨k0,k1,k2,k3,-⟩:=hU8.b4;obtain⟨W9,hW9,b9⟩:=bH W8 64 #[.int .i64 Ni,.int .i64 KD,.int .i64 n1,.int .i64 n2];have hA9:=hA.out.belowW b9;have hc9:∀j u,(rv ⟨Ni,KD,n1,n2⟩)[j]?=some u→W9.cell? ⟨W8.heap.size,j,none⟩=some u:=fun j u hu=>by rw[hW9];exact ei W8 _ _ j u hu
        refine h7_ hU8 hW8 hW9 b9 hA9 hc9 hal9 ?_;clear hU8 hW8 hW9 b9 hA9 hc9 hal9;intro hU8 hW8 hW9 b9 hA9 hc9 hal9;go_wp2_with (at_builtin;rw[←hW9.out];refine rQ rt28 rfl _ _ rfl W.heap.size _ acc rfl hA9.out.own W8.heap.size ⟨Ni,KD,n1,n2⟩ rfl hc9.out hal9.out hA9.out.fr.size ?_;intro vE wE hRE hgE hatE;obtain⟨AE,cE,hvE,_⟩:=hRE.out (by rw[List.length_append];simp only[List.length_cons,List.length_nil];have:=hal9.out;unfold maxLen;omega);subst hvE;have hAE:=hA9.out.row hRE hgE;obtain⟨nE,hnE⟩:∃n,n=(acc++[(⟨Ni,KD,n1,n2⟩:R4)]).length:=⟨_,rfl⟩;rw[←hnE]at hAE⊢;replace hAE:=hi_ hAE;replace hnE:=hi_ hnE;clear hRE hgE hatE)
        go_roundw
        case rel=>exact⟨i+1,j,_,r1.drop 20,by go_num,by omega,hAE.out,hE3.out,by rw[List.length_append,hal.out];simp only[List.length_cons,List.length_nil]⟩
        case measure=>simp[RowKit.intOf];omega
end
end
section
open Go Go.RowKit Go.Wk Go.Rd Go.Fx
def gY:Bs:=[116,114,97,105,108,101,114]
def iQ:Bs:=[120,114,101,102]
def gf:Nat→List R4→Bs→Res (List R4)
 |0,_,r=>.err 99 r
 |f+1,acc,r=>if kwL gY r=true then .ok acc ((af false r).drop 7) else match fq r with
  | .err e u=>.err e u
  | .ok l u=>gf f (acc++l) u
def kP (l:List R4) (b:Bs):Res Ob→Res (List R4×Ob)
 | .err e z=>.err e z
 | .ok o z=>if o.kind=7 then .ok (l,o) z else .err 4 b
def kR (pl:Bool) (d:Nat):Res (List R4)→Res (List R4×Ob)
 | .err e v=>.err e v
 | .ok l v=>kP l (af false v) (valS pl d (af false v))
def gg (pl:Bool) (d:Nat) (r:Bs):Res (List R4×Ob):=match cx iQ r with
 | .err e u=>.err e u
 | .ok _ u=>kR pl d (gf (u.length+1) [] u)
theorem fD {lo hi:Int}{r u:Bs}{k:Tok}(h:bx lo hi r=.ok k u):u.length<r.length:=by
 unfold bx at h;cases ht:ar r with
 |err e v=>rw[ht]at h;cases h
 |ok t v=>
  rw[ht]at h;simp only[]at h;have h1:=bY ht;split at h
  ·cases h
  ·split at h
   ·rename_i h3 h2;cases h
    unfold cM at h1;rw[if_neg h3]at h1;split at h1 <;> omega
   ·cases h
theorem kh (first:Int):∀(m i:Nat) (acc:List R4) (r:Bs) (l:List R4) (u:Bs),dx first m i acc r=.ok l u→20*l.length+u.length≤20*acc.length+r.length
 |0,i,acc,r,l,u,h=>by rw[dx]at h;cases h;exact Nat.le_refl _
 |m+1,i,acc,r,l,u,h=>by
  rw[dx]at h;split at h
  ·cases h
  ·rename_i h20
   split at h
   ·cases h
   ·have:=kh first m _ _ _ _ _ h
    simp only[List.length_append,List.length_cons,List.length_nil,List.length_drop]at this;omega
theorem jW {r u:Bs}{l:List R4}(h:fq r=.ok l u):20*l.length+u.length<r.length:=by
 unfold fq at h;cases h1:bx 0 8388607 r with
 |err e v=>rw[h1]at h;cases h
 |ok t v=>
  rw[h1]at h;simp only[]at h;have e1:=fD h1;cases h2:bx 0 (8388608 - t.n) v with
  |err e x=>rw[h2]at h;cases h
  |ok t2 x=>
   rw[h2]at h;simp only[]at h;have e2:=fD h2;have e3:=kh _ _ _ _ _ _ _ h;have e4:(de x).length≤x.length:=(List.dropWhile_suffix _).length_le;simp only[List.length_nil]at e3;omega
section
variable {P L R:Nat}{A:Option Addr}{c:Nat}{bs:Bs}{d dd:Nat}{pl:Bool}{W X X' w w':World}{r r' u v:Bs}{k s:Tok}
theorem o5 (W:World) (h:PS P L R A c bs d pl W r):Calls Tryz.prog 28 #[.pointer (some ⟨R,0,none⟩)] W fun e w'=>e=.returned (.tuple #[])∧PS P L R A c bs d pl w' (af false r)∧Fr L R W w':=by
 obtain⟨M,V,hL⟩:=h.ls;refine (gH W hL).mono ?_;rintro e w' ⟨rfl,h1,h2⟩;exact⟨rfl,h.to h1 (Fr.of_save h2),Fr.of_save h2⟩
theorem lg (S:ByteArray) (hS0:1≤S.size) (hS1:S.size≤100) (W:World) (h:PS P L R A c bs d pl W r):Calls Tryz.prog 26 #[.pointer (some ⟨R,0,none⟩),.string S] W fun e w'=>e=.returned (.bool (kwL S.data.toList r))∧PS P L R A c bs d pl w' (if kwL S.data.toList r then (af false r).drop S.size else r)∧Fr L R W w':=by
 obtain⟨M,V,hL⟩:=h.ls;refine (kW S hS0 hS1 W hL).mono ?_;rintro e w' ⟨rfl,h1,h2⟩;exact⟨rfl,h.to h1 (Fr.of_save h2),Fr.of_save h2⟩
theorem eb {w:World}{R:Nat}{t:TypeId}{z0 z1 z2 z3 z4 z5 u0 u1 u2 u3 u4 u5:Value}(hR:Blk w R t #[z0,z1,z2,z3,z4,z5]) {Wf:World}
 (hWf:Wf=(((((w.setCell ⟨R,0,none⟩ (u0)).setCell ⟨R,1,none⟩ (u1)).setCell ⟨R,2,none⟩ (u2)).setCell ⟨R,3,none⟩ (u3)).setCell ⟨R,4,none⟩ (u4)).setCell ⟨R,5,none⟩ (u5)) :
 Blk Wf R t #[u0,u1,u2,u3,u4,u5]∧w.grownBy Wf (some R):=by
 have g:∀(i:Nat) (u:Value) (v:World),v.grownBy (v.setCell ⟨R,i,none⟩ u) (some R):=fun i u v=>aO v R i u
 subst hWf;exact⟨(((((hR.set_ 0 u0).set_ 1 u1).set_ 2 u2).set_ 3 u3).set_ 4 u4).set_ 5 u5,(((((g 0 u0 w).trans (g 1 u1 _)).trans (g 2 u2 _)).trans (g 3 u3 _)).trans (g 4 u4 _)).trans (g 5 u5 _)⟩
theorem r6 {w:World}{R:Nat}{t:TypeId}{z0 z1 z2 z3 z4 z5 u1 u2 u3 u4 u5:Value}(hR:Blk w R t #[z0,z1,z2,z3,z4,z5]) {Wf:World}
 (hWf:Wf=((((w.setCell ⟨R,1,none⟩ (u1)).setCell ⟨R,2,none⟩ (u2)).setCell ⟨R,3,none⟩ (u3)).setCell ⟨R,4,none⟩ (u4)).setCell ⟨R,5,none⟩ (u5)) :
 Blk Wf R t #[z0,u1,u2,u3,u4,u5]∧w.grownBy Wf (some R):=by
 have g:∀(i:Nat) (u:Value) (v:World),v.grownBy (v.setCell ⟨R,i,none⟩ u) (some R):=fun i u v=>aO v R i u
 subst hWf;exact⟨((((hR.set_ 1 u1).set_ 2 u2).set_ 3 u3).set_ 4 u4).set_ 5 u5,((((g 1 u1 w).trans (g 2 u2 _)).trans (g 3 u3 _)).trans (g 4 u4 _)).trans (g 5 u5 _)⟩
theorem iz {B B':Nat}{e:TypeId}{w:World}{v:Value}{l:List R4}(h:OwnR e B w v l) (hB:B'≤B):OwnR e B' w v l:=aR h hB
theorem se {t e:TypeId}(T:RT t e) {w:World}{ops:Array Oper}{rest:List Oper}{o:Oper}{a:Act}{Q:Exit→Act→World→Prop}(hgd:o.guard=none) (s x:Operand)
 (ho:o.op=.call {callee:=.builtin .append,args:=#[s,x],argTypes:=#[t,t]}) (B:Nat) (v:Value) (l:List R4) (hs:a.eval s=v) (hR:OwnR e B w v l)
 (B2:Nat) (v2:Value) (l2:List R4) (hx:a.eval x=v2) (hR2:OwnR e B2 w v2 l2) (hl:l.length+l2.length≤1000000000) (hB:B≤w.heap.size)
 (h:∀v' w',OwnR e B w' v' (l++l2)→w.grownBy w' v.ownBlock→wpList Tryz.prog ops Q rest (a.put o.dst v') w'):wpList Tryz.prog ops Q (o :: rest) a w:=by
 obtain⟨i0,hi0,hz0,hz1,hz2⟩:=T.i;rcases hR2.2 with ⟨rfl,hn⟩|⟨g,cap,cur,rfl,hB2,hh,hnc,hcm,hcs,htk⟩
 ·have hnil:l2=[]:=List.eq_nil_of_length_eq_zero hn
  subst hnil;refine wpList_append_own_none hgd s x t ho B e i0 4 T.u hi0 v l.length (l.map rv).flatten hs hR hx ?_;exact h v w (by simpa using hR) ⟨rfl,rfl,rfl,Nat.le_refl _,fun _ _ _=>rfl⟩
 ·refine wpList_append_own_at w hgd s x t ho B e i0 _ 4 32 T.u hi0 hz0 hz1 hz2 rfl (by decide) v l.length (l.map rv).flatten hs hR ⟨g,0,none⟩ l2.length cap (l2.map rv).flatten hx (tH l2) ?_ ?_ (by unfold maxLen;omega) (by omega) hB ?_
  ·exact World.ownsRow.cells hR2 rfl
  ·intro u hu
   obtain⟨q,hq,hu⟩:=List.mem_flatten.1 hu;obtain⟨r,_,rfl⟩:=List.mem_map.1 hq;exact lj r u hu
  ·intro v' w' h1 h2 _ h3
   refine h v' w' ?_ h2;unfold OwnR;rw[List.length_append,List.map_append,List.flatten_append];exact h1
structure US (W:World) (P L R:Nat) (A:Option Addr) (c:Nat) (bs:Bs) (d:Nat) (pl:Bool) (T:Nat) (acc:List R4) (vL:Value) (X:World) (r:Bs):Prop where
 ps:PS P L R A c bs d pl X r
 fr:Fr L R W X
 bT:Blk X W.heap.size 34 #[.slice none 0 0,.int .i64 0,.int .i64 0,.slice none 0 0,.slice none 0 0,.slice none 0 0]
 bS:Blk X T 34 #[vL,.int .i64 0,.int .i64 0,.slice none 0 0,.slice none 0 0,.slice none 0 0]
 own:OwnR 64 (T+1) X vL acc
 lT:W.heap.size<T
 lL:L<W.heap.size
 lR:R<W.heap.size
 lP:P<W.heap.size
 off:0<bs.length→∀x,A=some x→x.block<W.heap.size
variable {T:Nat}{acc acc':List R4}{vL v':Value}
theorem US.to (h:US W P L R A c bs d pl T acc vL X r) (hP:PS P L R A c bs d pl X' r') (hF:Fr L R X X'):US W P L R A c bs d pl T acc vL X' r':=
 ⟨hP,h.fr.trans hF,hF.blk (by have:=h.lL;omega) (by have:=h.lR;omega) h.bT,hF.blk (by have:=h.lL;have:=h.lT;omega) (by have:=h.lR;have:=h.lT;omega) h.bS,am h.own (fun b h1 h2=>hF.block b h2 (by have:=h.lL;have:=h.lT;omega) (by have:=h.lR;have:=h.lT;omega)),h.lT,h.lL,h.lR,h.lP,h.off⟩
theorem US.belowW (h:US W P L R A c bs d pl T acc vL X r) (hb:Below X.heap.size X X'):US W P L R A c bs d pl T acc vL X' r:=h.to (h.ps.belowW hb) (Fr.of_below hb)
theorem US.more {Y:World}(h:US W P L R A c bs d pl T acc vL X r) (hR:OwnR 64 (T+1) Y v' acc') (hg:X.grownBy Y vL.ownBlock):US W P L R A c bs d pl T acc' v' (Y.setCell ⟨T,0,none⟩ v') r:=by
 have hT:=h.bS.lt;have hB:Below (T+1) X Y:=((Below.refl X.heap.size X).mono (by omega)).grown hg (by omega) (fun k hk=>(World.ownsRow.lt h.own k hk).1);have hg2:=aO Y T 0 v';have lT:=h.lT;have lL:=h.lL;have lR:=h.lR;have lP:=h.lP;have h2:=h.ps.below hB (by omega) (by omega) (by omega) (fun h0 x hx=>by have:=h.off h0 x hx;omega);refine⟨h2.grownL hg2 (by omega) (by omega) (by omega) (fun h0 x hx=>by have:=h.off h0 x hx;omega),(h.fr.thenB (hB.mono (by omega))).grownL hg2 (by omega),(h.bT.below hB (by omega)).far (p:=⟨T,0,none⟩) (by show W.heap.size≠T;omega) _,(h.bS.below hB (by omega)).set_ 0 _,?_,h.lT,h.lL,h.lR,h.lP,h.off⟩;exact World.ownsRow.kept hR hg2 (.inr fun e=>by have:=(World.ownsRow.lt hR _ e).1;omega)
def tA (P L R:Nat) (A:Option Addr) (c:Nat) (bs:Bs) (d:Nat) (pl:Bool) (w:World) (res:Res (List R4×Ob)) (e:Ending) (w':World):Prop:=match res with
 | .ok lo u=>∃v us,e=.returned (.tuple #[.agg (List.toArray (v :: us)),.int .i64 0])∧OwnR 64 w.heap.size w' v lo.1∧ObI w.heap.size w'.heap.size w' lo.2 us∧PS P L R A c bs d pl w' u∧Fr L R w w'
 | .err n u=>n≠0∧e=.returned (.tuple #[.agg #[.slice none 0 0,.int .i64 0,.int .i64 0,.slice none 0 0,.slice none 0 0,.slice none 0 0],.int .i64 n])∧PS P L R A c bs d pl w' u∧Fr L R w w'
theorem mj (hd:d≤1001) (hsm6:bs.length≤100000000) (W:World) (h:PS P L R A c bs d pl W r):Calls Tryz.prog 10 #[.pointer (some ⟨P,0,none⟩)] W (tA P L R A c bs d pl W (gg pl d r)):=by
 obtain⟨K,hK⟩:∃K,K=gg pl d r:=⟨_,rfl⟩;rw[←hK];have hrl:=aB h.suf;obtain⟨W1,hW1,b1,hT1⟩:=ak W 34 #[.slice none 0 0,.int .i64 0,.int .i64 0,.slice none 0 0,.slice none 0 0,.slice none 0 0];have z1:W1.heap.size=W.heap.size+1:=by rw[hW1,World.size_alloc]
 have hP1:=h.belowW b1;have hF1:=Fr.of_below (L:=L) (R:=R) b1;have hLT:=h.L_lt;have hRT:=h.R_lt;have hPT:=h.P_lt;have hAT:=h.a_lt;have p0:=hP1.p0;have q0:=hP1.q0;have cw:=qV ⟨#[120,114,101,102]⟩ W1 hP1;rw[show (⟨#[120,114,101,102]⟩:ByteArray).data.toList=iQ from rfl]at cw;unfold gg at hK;refine h8_ hsm6 hrl hAT z1 hT1 b1 hF1 hP1 ?_;clear hsm6 hrl hAT z1 hT1 b1 hF1 hP1;intro hsm6 hrl hAT z1 hT1 b1 hF1 hP1;clear h;cases h1:cx iQ r with
 |err n u=>
  rw[h1]at cw hK;simp only[]at hK;subst hK;clear h1;go_enter Tryz.func10,Tryz.ntmps10;go_upto_region 1 with fail
  rw[←hW1];replace hW1:=hi_ hW1;go_wp2_with (go_at_call 25;(with_reducible refine cw.mono ?_);rintro e w2 ⟨hn0,rfl,hP2,hF2⟩;have hnb:=bne_iff_ne.2 hn0;replace hn0:=hi_ hn0;have hT2:=hF2.blk (by omega) (by omega) hT1.out;obtain⟨z0,z1,z2,z3,z4,z5,v0,v1,v2,v3,v4,v5⟩:=hT2.b6;replace hP2:=hi_ hP2;replace hF2:=hi_ hF2;replace hT2:=hi_ hT2;clear cw)
  generalize hWf:World.setCell _ _ _=Wf;replace hWf:=hWf.symm;obtain⟨hb,hg⟩:=eb hT2.out hWf;obtain⟨u0,u1,u2,u3,u4,u5,-⟩:=hb.b6;have hPf:=hi_ (hP2.out.grownL hg (by omega) (by omega) (by omega) (fun h0 x hx=>by have:=hAT.out h0 x hx;omega));have hFf:=hi_ ((hF1.out.trans hF2.out).grownL hg (Nat.le_refl _));replace hg:=hi_ hg;replace hWf:=hi_ hWf;clear hb z0 v0 v1 z2 v2 z3 v3 z4 v4 z5 v5;refine bodyPost_ret (v:=.tuple #[.agg #[.slice none 0 0,.int .i64 0,.int .i64 0,.slice none 0 0,.slice none 0 0,.slice none 0 0],.int .i64 n]) (by simp only[results,Tryz.results10];simp[go_sem,u0,u1,u2,u3,u4,u5]) rfl ?_;exact⟨hn0.out,rfl,hPf.out,hFf.out⟩
 |ok t u=>
  rw[h1]at cw hK;simp only[]at hK;clear h1;replace hK:=hi_ hK;go_enter Tryz.func10,Tryz.ntmps10;go_upto_region 1 with fail
  rw[←hW1];replace hW1:=hi_ hW1
  go_upto_block 0 with (go_at_call 25;(with_reducible refine cw.mono ?_);rintro e w2 ⟨rfl,hP2,hF2⟩;have hT2:=hF2.blk (by omega) (by omega) hT1.out;replace p0:=hP2.p0;replace q0:=hP2.q0;replace hP2:=hi_ hP2;replace hF2:=hi_ hF2;replace hT2:=hi_ hT2;clear cw)
  obtain⟨W3,hW3,b3,hS3⟩:=ak w2 34 #[.slice none 0 0,.int .i64 0,.int .i64 0,.slice none 0 0,.slice none 0 0,.slice none 0 0];rw[←hW3];obtain⟨T,hTe⟩:∃T,T=w2.heap.size:=⟨_,rfl⟩;have hTW:W.heap.size<T:=by have:=hF2.out.size;have:=z1.out;omega
  rw[←hTe]at hS3⊢;have hA:US W P L R A c bs d pl T [] (.slice none 0 0) W3 u:=⟨hP2.out.belowW b3,(hF1.out.trans hF2.out).trans (Fr.of_below b3),hT2.out.below b3 (by omega),hS3,OwnR.nil _ _ _,hTW,hLT,hRT,hPT,hAT.out⟩;have hul:u.length≤bs.length:=aB hP2.out.suf;clear hS3;refine h4_ hW3 b3 hTe hul ?_;clear hW3 b3 hTe hul;intro hW3 b3 hTe hul;replace p0:=hA.ps.p0;replace q0:=hA.ps.q0;replace hA:=hi_ hA;obtain⟨Z,hZ⟩:∃Z,Z=gf (u.length+1) [] u:=⟨_,rfl⟩;have hKZ:K=kR pl d Z:=by rw[hZ];exact hK.out
  replace hKZ:=hi_ hKZ;replace hZ:=hi_ hZ;clear hK hP2 hF2 hT2 hP1 hF1 b1 hT1;go_wp2
  go_loopw [] (fun wr=>∃(f:Nat) (acc:List R4) (vL:Value) (r1:Bs),US W P L R A c bs d pl T acc vL wr r1∧gf f acc r1=Z∧r1.length<f∧20*acc.length+r1.length≤bs.length) (fun wr=>bs.length+1 - posOf L wr)
  case atStart=>exact⟨_,[],_,u,hA.out,hZ.out.symm,Nat.lt_succ_self _,by have:=hul.out;simpa using this⟩
  case round=>
   clear hA hZ;obtain⟨f,acc,vL,r1,hA,hE,hf,hacc⟩:=hrel;obtain⟨f,rfl⟩:∃g,f=g+1:=⟨f - 1,by omega⟩;have hbw:bs.length+1 - posOf L wr=r1.length+1:=by rw[hA.ps.posOf];have:=aK hA.ps.suf;have:=aE bs r1;omega
   have hal:acc.length≤100000000:=by have:=hsm6.out;omega
   obtain⟨AL,cL,hvL,_⟩:=hA.own.out (by unfold maxLen;omega);have p0:=hA.ps.p0;have q0:=hA.ps.q0;have ck:=hi_ fun W h=>lg (P:=P) (L:=L) (R:=R) (A:=A) (c:=c) (bs:=bs) (d:=d) (pl:=pl) (r:=r1) ⟨#[116,114,97,105,108,101,114]⟩ (by decide) (by decide) W h
   rw[show (⟨#[116,114,97,105,108,101,114]⟩:ByteArray).data.toList=gY from rfl,show (⟨#[116,114,97,105,108,101,114]⟩:ByteArray).size=7 from rfl]at ck;rw[gf]at hE;obtain⟨kb,hkb⟩:∃k,k=kwL gY r1:=⟨_,rfl⟩;rw[←hkb]at ck hE;obtain⟨nacc,hnacc⟩:∃n,n=acc.length:=⟨_,rfl⟩;rw[←hnacc]at hvL;refine h8_ hkb hbw hal hf hacc hnacc hA hE ?_;clear hkb hbw hal hf hacc hnacc hA hE;intro hkb hbw hal hf hacc hnacc hA hE;subst hvL;cases kb with
   |true=>
    have hE2:Res.ok acc ((af false r1).drop 7)=Z:=by simpa using hE.out
    subst hE2;obtain⟨v7,hv7⟩:∃x,x=(af false r1).drop 7:=⟨_,rfl⟩;have ck2:∀W,PS P L R A c bs d pl W r1→Calls Tryz.prog 26 #[.pointer (some ⟨R,0,none⟩),.string ⟨#[116,114,97,105,108,101,114]⟩] W fun e w'=>e=.returned (.bool true)∧PS P L R A c bs d pl w' v7∧Fr L R W w':=fun W h=>by rw[hv7];exact ck.out W h
    have hKZ2:=hKZ.out;rw[←hv7]at hKZ2;simp only[kR]at hKZ2;replace hKZ:=hi_ hKZ2;obtain⟨B,hB⟩:∃x,x=af false v7:=⟨_,rfl⟩;have cb:=fun W (h:PS P L R A c bs d pl W v7)=>o5 W h
    rw[←hB]at hKZ2 cb;replace hKZ:=hi_ hKZ2;have cps:=hi_ fun W h=>cQ (P:=P) (L:=L) (R:=R) (A:=A) (c:=c) (bs:=bs) (d:=d) (pl:=pl) (r:=B) W h
    obtain⟨q,hq⟩:∃q:Int,q=(pos bs B:Nat):=⟨_,rfl⟩;rw[←hq]at cps;have cv:=fun W (h:PS P L R A c bs d pl W B)=>o8 hd hsm6.out W h
    obtain⟨RR,hRR⟩:∃x,x=valS pl d B:=⟨_,rfl⟩;rw[←hRR]at hKZ2 cv;replace hKZ:=hi_ hKZ2;refine h7_ cv cb ck2 hq hRR hB hv7 ?_;clear cv cb ck2 hq hRR hB hv7;intro cv cb ck2 hq hRR hB hv7;clear hKZ2 hE ck;go_upto_region 14 with (first|(go_at_call 26;(with_reducible refine (ck2.out _ hA.out.ps).mono ?_);rintro e w4 ⟨rfl,hP2,hF2⟩;replace hA:=hi_ (hA.out.to hP2 hF2);replace p0:=hA.out.ps.p0;replace q0:=hA.out.ps.q0;clear hP2 hF2)|(go_at_call 28;(with_reducible refine (cb.out _ hA.out.ps).mono ?_);rintro e w5 ⟨rfl,hP2,hF2⟩;replace hA:=hi_ (hA.out.to hP2 hF2);replace p0:=hA.out.ps.p0;replace q0:=hA.out.ps.q0;have hsufB:=hi_ hA.out.ps.suf;clear hP2 hF2)|(go_at_call 14;(with_reducible refine (cps.out _ hA.out.ps).mono ?_);rintro e w6 ⟨rfl,rfl⟩))
    cases RR with
    |err n z=>
     have hKn:K=.err n z:=hKZ.out;subst hKn;go_upto_region 15 with (first|(go_at_call 29;(with_reducible refine (cv.out _ hA.out.ps).mono ?_);rintro e w7 ⟨hn0,rfl,hP2,hF2⟩;replace hA:=hi_ (hA.out.to hP2 hF2);replace p0:=hA.out.ps.p0;replace q0:=hA.out.ps.q0;have hnb:=bne_iff_ne.2 hn0;replace hn0:=hi_ hn0;clear hP2 hF2))
     obtain⟨WA,hWA,bA⟩:=bH w7 32 #[.int .i64 0,.int .i64 0,.slice none 0 0,.slice none 0 0,.slice none 0 0];rw[←hWA];replace hA:=hi_ (hA.out.belowW bA);replace p0:=hA.out.ps.p0;replace q0:=hA.out.ps.q0;obtain⟨z0,z1,z2,z3,z4,z5,v0,v1,v2,v3,v4,v5⟩:=hA.out.bT.b6;replace hWA:=hi_ hWA;replace bA:=hi_ bA;go_wp2
     generalize hWf:World.setCell _ _ _=Wf;replace hWf:=hWf.symm;obtain⟨hb,hg⟩:=eb hA.out.bT hWf;obtain⟨u0,u1,u2,u3,u4,u5,-⟩:=hb.b6;have hPf:=hi_ (hA.out.ps.grownL hg (by have:=hA.out.lL;omega) (by have:=hA.out.lR;omega) (by have:=hA.out.lP;omega) (fun h0 x hx=>by have:=hA.out.off h0 x hx;omega));have hFf:=hi_ (hA.out.fr.grownL hg (Nat.le_refl _));replace hg:=hi_ hg;replace hWf:=hi_ hWf;clear hb z0 v0 z1 v1 z2 v2 z3 v3 z4 v4 z5 v5;refine bodyPost_ret (v:=.tuple #[.agg #[.slice none 0 0,.int .i64 0,.int .i64 0,.slice none 0 0,.slice none 0 0,.slice none 0 0],.int .i64 n]) (by simp only[results,Tryz.results10];simp[go_sem,u0,u1,u2,u3,u4,u5]) rfl ?_;exact⟨hn0.out,rfl,hPf.out,hFf.out⟩
    |ok o z=>
     go_upto_region 15 with (first|(go_at_call 29;(with_reducible refine (cv.out _ hA.out.ps).mono ?_);rintro e w7 ⟨us,rfl,hI,hP2,hF2⟩;obtain⟨xn,F1,F2,F3,fn1,fc1,fn2,fc2,fn3,fc3,hus⟩:=ay hI.ob;obtain⟨xk,hxk⟩:∃x,x=o.kind:=⟨_,rfl⟩;rw[←hxk]at hus;subst hus;replace hxk:=hi_ hxk;have hszV:=hi_ hA.out.fr.size;have hszT:=hi_ hA.out.bS.lt;replace hA:=hi_ (hA.out.to hP2 hF2);replace p0:=hA.out.ps.p0;replace q0:=hA.out.ps.q0;replace hI:=hi_ hI;clear hP2 hF2))
     obtain⟨WA,hWA,bA,hXA⟩:=ak w7 32 #[.int .i64 xk,.int .i64 xn,.slice F1 fn1 fc1,.slice F2 fn2 fc2,.slice F3 fn3 fc3];rw[←hWA];obtain⟨x0,x1,x2,x3,x4,-⟩:=hXA.b5;have hIA:=hI.out.keep (fun b _ hb=>bA.block b (by have:=hI.out.1;omega)) (Nat.le_trans hI.out.1 bA.size);have hTlt:=hA.out.bS.lt;have hTX:T≠w7.heap.size:=by omega
     replace hA:=hi_ (hA.out.belowW bA);replace p0:=hA.out.ps.p0;replace q0:=hA.out.ps.q0;obtain⟨z0,z1,z2,z3,z4,z5,v0,v1,v2,v3,v4,v5⟩:=hA.out.bT.b6;refine h3_ hWA bA hIA ?_;clear hWA bA hIA;intro hWA bA hIA;by_cases hk7:xk=7
     ·have hKo:K=.ok (acc,o) z:=by have:=hKZ.out;rw[kP,if_pos (hxk.out.symm.trans hk7)]at this;exact this
      subst hKo;subst hk7;obtain⟨s0,s1,s2,s3,s4,s5,-,g1,g2,g3,g4,g5⟩:=hA.out.bS.b6;replace hXA:=hi_ hXA;go_upto_region 21 with fail
      obtain⟨WC,hWC⟩:∃Wx,Wx=((((WA.setCell ⟨T,1,none⟩ (.int .i64 7)).setCell ⟨T,2,none⟩ (.int .i64 xn)).setCell ⟨T,3,none⟩ (.slice F1 fn1 fc1)).setCell ⟨T,4,none⟩ (.slice F2 fn2 fc2)).setCell ⟨T,5,none⟩ (.slice F3 fn3 fc3):=⟨_,rfl⟩;rw[←hWC];obtain⟨hSC,hgC⟩:=r6 hA.out.bS hWC;have hneT:=hA.out.lT;have hTC:Blk WC W.heap.size 34 #[.slice none 0 0,.int .i64 0,.int .i64 0,.slice none 0 0,.slice none 0 0,.slice none 0 0]:=(hgC.block _ hA.out.bT.lt (by intro e;injection e with e;omega)).trans hA.out.bT;have hPC:=hi_ (hA.out.ps.grownL hgC (by have:=hA.out.lL;omega) (by have:=hA.out.lR;omega) (by have:=hA.out.lP;omega) (fun h0 x hx=>by have:=hA.out.off h0 x hx;omega));have hFC:=hi_ (hA.out.fr.grownL hgC (by omega));have hOC:=hi_ (World.ownsRow.kept hA.out.own hgC (.inr fun e=>by have:=(World.ownsRow.lt hA.out.own _ e).1;omega));clear s0 s1 s2 s3 s4 s5 g1 g2 g3 g4 g5 x0 x1 x2 x3 x4;obtain⟨s0,s1,s2,s3,s4,s5,-⟩:=hSC.b6;obtain⟨z0,z1,z2,z3,z4,z5,v0,v1,v2,v3,v4,v5⟩:=hTC.b6;refine h4_ hWC hgC hSC hTC ?_;clear hWC hgC hSC hTC;intro hWC hgC hSC hTC;go_wp2
      generalize hWf:World.setCell _ _ _=Wf;replace hWf:=hWf.symm;obtain⟨hb,hg⟩:=eb hTC.out hWf;obtain⟨u0,u1,u2,u3,u4,u5,-⟩:=hb.b6;have hPf:=hi_ (hPC.out.grownL hg (by omega) (by omega) (by omega) (fun h0 x hx=>by have:=hAT.out h0 x hx;omega));have hFf:=hi_ (hFC.out.grownL hg (Nat.le_refl _));have hOf:OwnR 64 W.heap.size Wf (.slice AL nacc cL) acc:=iz (World.ownsRow.kept hOC.out hg (.inr fun e=>by have:=(World.ownsRow.lt hOC.out _ e).1;omega)) (by omega);have hIf:=((hIA.out.keep (fun b hb1 hb2=>hgC.out.block b (by have:=hIA.out.1;omega) (by intro e;injection e with e;have:=hszT.out;omega)) (Nat.le_trans hIA.out.1 hgC.out.size)).keep (fun b hb1 hb2=>hg.block b (by have:=hIA.out.1;have:=hgC.out.size;omega) (by intro e;injection e with e;have:=hszV.out;have:=hszT.out;omega)) (Nat.le_trans (Nat.le_trans hIA.out.1 hgC.out.size) hg.size)).wide (lo':=W.heap.size) (by have:=hszT.out;omega);have hIg:=hi_ (show ObI W.heap.size Wf.heap.size Wf o [.int .i64 7,.int .i64 xn,.slice F1 fn1 fc1,.slice F2 fn2 fc2,.slice F3 fn3 fc3] from ⟨Nat.le_refl _,fun w' h hz=>hIf.2 w' (fun b h1 h2=>h b h1 (Nat.lt_of_lt_of_le h2 hIf.1)) (Nat.le_trans hIf.1 hz)⟩);refine h3_ hOf hg hWf ?_;clear hOf hg hWf;intro hOf hg hWf;clear hb hIf z0 z1 z2 z3 z4 z5 v0 v1 v2 v3 v4 v5 s0 s1 s2 s3 s4 s5;refine bodyPost_ret (v:=.tuple #[.agg #[.slice AL nacc cL,.int .i64 7,.int .i64 xn,.slice F1 fn1 fc1,.slice F2 fn2 fc2,.slice F3 fn3 fc3],.int .i64 0]) (by simp only[results,Tryz.results10];simp[go_sem,u0,u1,u2,u3,u4,u5]) rfl ?_;exact⟨.slice AL nacc cL,[.int .i64 7,.int .i64 xn,.slice F1 fn1 fc1,.slice F2 fn2 fc2,.slice F3 fn3 fc3],rfl,hOf.out,hIg.out,hPf.out,hFf.out⟩
     ·have hKo:K=.err 4 B:=by have:=hKZ.out;rw[kP,if_neg (fun e=>hk7 (hxk.out.trans e))]at this;exact this
      subst hKo;have hkb7:(xk !=7)=true:=bne_iff_ne.2 hk7;have csk:=hi_ fun W h=>bL (P:=P) (L:=L) (R:=R) (A:=A) (c:=c) (bs:=bs) (d:=d) (pl:=pl) (r:=z) hsufB.out hq.out W h
      replace hk7:=hi_ hk7;replace hXA:=hi_ hXA;clear x1 x2 x3 x4;go_wp2_with (go_at_call 30;(with_reducible refine (csk.out _ hA.out.ps).mono ?_);rintro e w8 ⟨rfl,hP2,hF2⟩;replace hA:=hi_ (hA.out.to hP2 hF2);replace p0:=hA.out.ps.p0;replace q0:=hA.out.ps.q0;obtain⟨z0,z1,z2,z3,z4,z5,v0,v1,v2,v3,v4,v5⟩:=hA.out.bT.b6;clear hP2 hF2)
      generalize hWf:World.setCell _ _ _=Wf;replace hWf:=hWf.symm;obtain⟨hb,hg⟩:=eb hA.out.bT hWf;obtain⟨u0,u1,u2,u3,u4,u5,-⟩:=hb.b6;have hPf:=hi_ (hA.out.ps.grownL hg (by have:=hA.out.lL;omega) (by have:=hA.out.lR;omega) (by have:=hA.out.lP;omega) (fun h0 x hx=>by have:=hA.out.off h0 x hx;omega));have hFf:=hi_ (hA.out.fr.grownL hg (Nat.le_refl _));replace hg:=hi_ hg;replace hWf:=hi_ hWf;clear hb z0 v0 z1 v1 z2 v2 z3 v3 z4 v4 z5 v5;refine bodyPost_ret (v:=.tuple #[.agg #[.slice none 0 0,.int .i64 0,.int .i64 0,.slice none 0 0,.slice none 0 0,.slice none 0 0],.int .i64 4]) (by simp only[results,Tryz.results10];simp[go_sem,u0,u1,u2,u3,u4,u5]) rfl ?_;exact⟨by decide,rfl,hPf.out,hFf.out⟩
   |false=>
    have cp:=hi_ fun W h=>qX (P:=P) (L:=L) (R:=R) (A:=A) (c:=c) (bs:=bs) (d:=d) (pl:=pl) (r:=r1) W h
    have ck2:∀W,PS P L R A c bs d pl W r1→Calls Tryz.prog 26 #[.pointer (some ⟨R,0,none⟩),.string ⟨#[116,114,97,105,108,101,114]⟩] W fun e w'=>e=.returned (.bool false)∧PS P L R A c bs d pl w' r1∧Fr L R W w':=fun W h=>ck.out W h
    have hE2:=hE.out;rw[if_neg (by decide)]at hE2;replace ck2:=hi_ ck2;clear hE ck;cases hpt:fq r1 with
    |err n u2=>
     rw[hpt]at hE2;simp only[]at hE2;subst hE2;have hKn:K=.err n u2:=hKZ.out;subst hKn;have cp2:∀W,PS P L R A c bs d pl W r1→Calls Tryz.prog 27 #[.pointer (some ⟨P,0,none⟩)] W (nK P L R A c bs d pl W (.err n u2)):=fun W h=>by have:=cp.out W h;rw[hpt]at this;exact this
     replace cp2:=hi_ cp2;clear cp hpt;go_wp2_with (first|(go_at_call 26;(with_reducible refine (ck2.out _ hA.out.ps).mono ?_);rintro e w4 ⟨rfl,hP2,hF2⟩;replace hA:=hi_ (hA.out.to hP2 hF2);replace p0:=hA.out.ps.p0;replace q0:=hA.out.ps.q0;clear hP2 hF2)|(go_at_call 27;(with_reducible refine (cp2.out _ hA.out.ps).mono ?_);rintro e w5 ⟨hn0,rfl,hP2,hF2⟩;replace hA:=hi_ (hA.out.to hP2 hF2);replace p0:=hA.out.ps.p0;replace q0:=hA.out.ps.q0;obtain⟨z0,z1,z2,z3,z4,z5,v0,v1,v2,v3,v4,v5⟩:=hA.out.bT.b6;have hnb:=bne_iff_ne.2 hn0;replace hn0:=hi_ hn0;clear hP2 hF2))
     generalize hWf:World.setCell _ _ _=Wf;replace hWf:=hWf.symm;obtain⟨hb,hg⟩:=eb hA.out.bT hWf;obtain⟨u0,u1,u2,u3,u4,u5,-⟩:=hb.b6;have hPf:=hi_ (hA.out.ps.grownL hg (by have:=hA.out.lL;omega) (by have:=hA.out.lR;omega) (by have:=hA.out.lP;omega) (fun h0 x hx=>by have:=hA.out.off h0 x hx;omega));have hFf:=hi_ (hA.out.fr.grownL hg (Nat.le_refl _));replace hg:=hi_ hg;replace hWf:=hi_ hWf;clear hb z0 v0 z1 v1 z2 v2 z3 v3 z4 v4 z5 v5;refine bodyPost_ret (v:=.tuple #[.agg #[.slice none 0 0,.int .i64 0,.int .i64 0,.slice none 0 0,.slice none 0 0,.slice none 0 0],.int .i64 n]) (by simp only[results,Tryz.results10];simp[go_sem,u0,u1,u2,u3,u4,u5]) rfl ?_;exact⟨hn0.out,rfl,hPf.out,hFf.out⟩
    |ok l u2=>
     rw[hpt]at hE2;simp only[]at hE2;have cp2:∀W,PS P L R A c bs d pl W r1→Calls Tryz.prog 27 #[.pointer (some ⟨P,0,none⟩)] W (nK P L R A c bs d pl W (.ok l u2)):=fun W h=>by have:=cp.out W h;rw[hpt]at this;exact this
     have hpl:=jW hpt;have hll:l.length≤100000000:=by have:=hsm6.out;have:=hacc.out;omega
     refine h4_ cp2 hE2 hpl hll ?_;clear cp2 hE2 hpl hll;intro cp2 hE2 hpl hll;clear cp hpt;go_upto_region 11 with (first|(go_at_call 26;(with_reducible refine (ck2.out _ hA.out.ps).mono ?_);rintro e w4 ⟨rfl,hP2,hF2⟩;replace hA:=hi_ (hA.out.to hP2 hF2);replace p0:=hA.out.ps.p0;replace q0:=hA.out.ps.q0;clear hP2 hF2)|(go_at_call 27;(with_reducible refine (cp2.out _ hA.out.ps).mono ?_);rintro e w5 ⟨v2,rfl,hO,hP2,hF2⟩;obtain⟨A2,c2,hv2,_⟩:=hO.out (by have:=hll.out;unfold maxLen;omega);subst hv2;replace hA:=hi_ (hA.out.to hP2 hF2);replace p0:=hA.out.ps.p0;replace q0:=hA.out.ps.q0;replace hO:=hi_ hO;clear hP2 hF2))
     obtain⟨n2,hn2⟩:∃n,n=l.length:=⟨_,rfl⟩;rw[←hn2]at hO⊢;replace hn2:=hi_ hn2;have s0:=hA.out.bS.cell 0;have hTl:=hA.out.bS.lt;go_wp2_with (at_builtin;refine se rt28 rfl _ _ rfl (T+1) _ acc rfl hA.out.own _ _ l rfl hO.out (by have:=hal.out;have:=hll.out;omega) (by omega) ?_;intro vE wE hRE hgE;obtain⟨AE,cE,hvE,_⟩:=hRE.out (by rw[List.length_append];have:=hal.out;have:=hll.out;unfold maxLen;omega);subst hvE;have hBE:Below (T+1) w5 wE:=((Below.refl w5.heap.size w5).mono (by omega)).grown hgE (by omega) (fun k hk=>(World.ownsRow.lt hA.out.own k hk).1);have hS2:=hA.out.bS.below hBE (by omega);replace s0:=hS2.cell 0;have g0:=hS2.frozen 0;have hA2:=hi_ (hA.out.more hRE hgE);obtain⟨nE,hnE⟩:∃n,n=(acc++l).length:=⟨_,rfl⟩;rw[←hnE]at hA2⊢;replace hnE:=hi_ hnE;clear hRE hgE hBE hS2)
     have e1:=hA2.out.ps.posOf;have e2:=aK hA2.out.ps.suf;have e3:=aE bs u2;have e4:=hbw.out;have e5:=hpl.out;have e6:=hf.out;have e7:=hacc.out;exact⟨⟨f,acc++l,_,u2,hA2.out,hE2.out,by omega,by rw[List.length_append];omega⟩,by rw[e1];omega⟩
end
end
end Go.Proofs.YthffpbkndnhlfaaGreatDoor
namespace Go.Proofs.YthffpbkndnhlfaaGreatDoor
open Go Go.RowKit Go.Wk Go.Rd Go.Fx
theorem f8 (A:Option Addr) (c:Nat) (b:Bs) (hb:b.length≤10) (W:World) (hby:Byt W A b):Calls Tryz.prog 69 #[.slice A b.length c] W fun e w'=>e=.returned (.int .i64 (if (bN b).2=true then (bN b).1 else -1))∧W=w':=by
 obtain⟨n,hn⟩:∃n,n=b.length:=⟨_,rfl⟩;obtain⟨K,hK⟩:∃K,K=ju b:=⟨_,rfl⟩;have hnum:bN b=jR K:=by rw[hK];rfl
 rw[←hn];rw[←hn]at hb;obtain⟨N1,hN1⟩:∃x,x=if (bN b).2=true then (bN b).1 else -1:=⟨_,rfl⟩
 rw[←hN1];rw[hnum]at hN1;refine h4_ hn hK hN1 hby ?_;clear hn hK hN1 hby;intro hn hK hN1 hby
 clear hnum;go_enter Tryz.func69,Tryz.ntmps69;go_wp2
 go_loopw [3,4] (fun s4 s9 wr=>∃(i m:Nat),i≤n∧s9=.int .i64 i∧s4=.int .i64 m∧gB m (b.drop i)=K∧m<10 ^ i∧wr=W) (fun _ s9 _=>n - (RowKit.intOf s9).toNat)
 case atStart=>exact⟨0,0,by omega,rfl,rfl,hK.out.symm,by simp,rfl⟩
 case round=>
  obtain⟨i,m,hi,rfl,rfl,hE,hm,rfl⟩:=hrel;by_cases hin:i<n
  ·have hil:i<b.length:=by rw[←hn.out];exact hin
   obtain⟨g,o,hA,hc⟩:=hby.out.2 (by omega);subst hA;obtain⟨x,hx⟩:∃x,x=b[i]:=⟨_,rfl⟩;have c0:=hc i hil;rw[←hx]at c0;have hE2:=hE;rw[List.drop_eq_getElem_cons hil,gB,←hx]at hE2;have hx2:=x.toNat_lt;have hp:10 ^ i≤10 ^ 9:=Nat.pow_le_pow_right (by omega) (by omega);have hm9:m≤999999999:=by omega
   have hms:(10*m+(x.toNat - 48))<10 ^ (i+1)∨¬x.toNat≤57:=by rw[Nat.pow_succ];omega
   obtain⟨X,hX⟩:∃X:Int,X=(x.toNat:Nat):=⟨_,rfl⟩;obtain⟨M,hM⟩:∃M:Int,M=(m:Nat):=⟨_,rfl⟩;rw[←hX]at c0;rw[←hM];have hX0:0≤X:=by omega
   have hX1:X<256:=by omega
   have hM0:0≤M:=by omega
   have hM1:M≤999999999:=by omega
   refine h7_ hX hM hx hE2 hms hm hc ?_;clear hX hM hx hE2 hms hm hc;intro hX hM hx hE2 hms hm hc;clear hE hp hm9 hx2;by_cases h48:X<48
   ·obtain rfl:K=none:=by rw[←hE2.out,if_neg (by have:=hX.out;omega)]
    go_wp2
    go_ret
    exact⟨by rw[hN1.out];rfl,rfl⟩
   ·by_cases h57:57<X
    ·obtain rfl:K=none:=by rw[←hE2.out,if_neg (by have:=hX.out;omega)]
     go_wp2
     go_ret
     exact⟨by rw[hN1.out];rfl,rfl⟩
    ·have hE3:=hE2.out
     rw[if_pos (by have:=hX.out;omega)]at hE3;have hw1:IntKind.u8.wrap (X - 48)=X - 48:=by rw[IntWalk.u8_in _ (by omega)]
     go_wp2
     go_roundw
     case rel=>
      refine⟨i+1,10*m+(x.toNat - 48),by omega,by go_num,?_,hE3,by have:=hms.out;have:=hX.out;omega,trivial⟩;have:=hX.out;have:=hM.out
      congr 1
      omega
     case measure=>simp[RowKit.intOf];omega
  ·obtain rfl:i=n:=by omega
   have hE3:K=some m:=by rw[←hE,hn.out,List.drop_length,gB]
   subst hE3;go_wp2
   go_ret
   exact⟨by rw[hN1.out];rfl,rfl⟩
