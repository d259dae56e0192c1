/- Walks and laws, joined: part K. No condition. -/
import Derived.Test.YthffpbkndnhlfaaGreatDoorTbJJ
import Derived.Test.YthffpbkndnhlfaaGreatDoorTbJH
import Derived.Test.YthffpbkndnhlfaaGreatDoorTbJA
import Derived.Deep.QuietTactic
import Derived.BigQuiet
import Derived.IntWalk
import Derived.Test.YthffpbkndnhlfaaGreatDoorTbJI
set_option linter.unusedSimpArgs false
set_option linter.unusedVariables false
set_option maxRecDepth 100000
set_option maxHeartbeats 32000000
namespace Go.Proofs.YthffpbkndnhlfaaGreatDoor
open Go Go.RowKit Go.Wk Go.Rd Go.Fx
def trailW : Bs := [116, 114, 97, 105, 108, 101, 114]
def xrefW : Bs := [120, 114, 101, 102]
def secS : Nat → List R4 → Bs → Res (List R4)
 | 0, _, r => .err 99 r
 | f + 1, acc, r => if kwL trailW r = true then .ok acc ((blankM false r).drop 7) else match partS r with
  | .err e u => .err e u
  | .ok l u => secS f (acc ++ l) u
def endS (l : List R4) (b : Bs) : Res Ob → Res (List R4 × Ob)
 | .err e z => .err e z
 | .ok o z => if o.kind = 7 then .ok (l, o) z else .err 4 b
def finS (pl : Bool) (d : Nat) : Res (List R4) → Res (List R4 × Ob)
 | .err e v => .err e v
 | .ok l v => endS l (blankM false v) (valS pl d (blankM false v))
def tabS (pl : Bool) (d : Nat) (r : Bs) : Res (List R4 × Ob) := match wantW xrefW r with
 | .err e u => .err e u
 | .ok _ u => finS pl d (secS (u.length + 1) [] u)
theorem want_cut {lo hi : Int} {r u : Bs} {k : Tok} (h : wantN lo hi r = .ok k u) : u.length < r.length := by
 unfold wantN at h
 cases ht : tokS r with
 | err e v => rw [ht] at h; cases h
 | ok t v =>
  rw [ht] at h
  simp only [] at h
  have h1 := tok_len ht
  split at h
  ·cases h
  ·split at h
   ·rename_i h3 h2; cases h
    unfold tokW at h1
    rw [if_neg h3] at h1
    split at h1 <;> omega
   ·cases h
theorem rows_cut (first : Int) : ∀ (m i : Nat) (acc : List R4) (r : Bs) (l : List R4) (u : Bs), rowsS first m i acc r = .ok l u → 20 * l.length + u.length ≤ 20 * acc.length + r.length
 | 0, i, acc, r, l, u, h => by rw [rowsS] at h; cases h; exact Nat.le_refl _
 | m + 1, i, acc, r, l, u, h => by
  rw [rowsS] at h
  split at h
  ·cases h
  ·rename_i h20
   split at h
   ·cases h
   ·have := rows_cut first m _ _ _ _ _ h
    simp only [List.length_append, List.length_cons, List.length_nil, List.length_drop] at this
    omega
theorem part_cut {r u : Bs} {l : List R4} (h : partS r = .ok l u) : 20 * l.length + u.length < r.length := by
 unfold partS at h
 cases h1 : wantN 0 8388607 r with
 | err e v => rw [h1] at h; cases h
 | ok t v =>
  rw [h1] at h
  simp only [] at h
  have e1 := want_cut h1
  cases h2 : wantN 0 (8388608 - t.n) v with
  | err e x => rw [h2] at h; cases h
  | ok t2 x =>
   rw [h2] at h
   simp only [] at h
   have e2 := want_cut h2
   have e3 := rows_cut _ _ _ _ _ _ _ h
   have e4 : (whiteR x).length ≤ x.length := (List.dropWhile_suffix _).length_le
   simp only [List.length_nil] at e3
   omega
section
variable {P L R : Nat} {A : Option Addr} {c : Nat} {bs : Bs} {d dd : Nat} {pl : Bool} {W X X' w w' : World} {r r' u v : Bs} {k s : Tok}
theorem px_Blank (W : World) (h : PS P L R A c bs d pl W r) : Calls Tryz.prog 28 #[.pointer (some ⟨R, 0, none⟩)] W fun e w' => e = .returned (.tuple #[]) ∧ PS P L R A c bs d pl w' (blankM false r) ∧ Fr L R W w' := by
 obtain ⟨M, V, hL⟩ := h.ls
 refine (lx_Blank W hL).mono ?_
 rintro e w' ⟨rfl, h1, h2⟩
 exact ⟨rfl, h.to h1 (Fr.of_save h2), Fr.of_save h2⟩
theorem px_Keyword (S : ByteArray) (hS0 : 1 ≤ S.size) (hS1 : S.size ≤ 100) (W : World) (h : PS P L R A c bs d pl W r) : Calls Tryz.prog 26 #[.pointer (some ⟨R, 0, none⟩), .string S] W fun e w' => e = .returned (.bool (kwL S.data.toList r)) ∧ PS P L R A c bs d pl w' (if kwL S.data.toList r then (blankM false r).drop S.size else r) ∧ Fr L R W w' := by
 obtain ⟨M, V, hL⟩ := h.ls
 refine (lx_Keyword S hS0 hS1 W hL).mono ?_
 rintro e w' ⟨rfl, h1, h2⟩
 exact ⟨rfl, h.to h1 (Fr.of_save h2), Fr.of_save h2⟩
theorem set6L {w : World} {R : Nat} {t : TypeId} {z0 z1 z2 z3 z4 z5 u0 u1 u2 u3 u4 u5 : Value} (hR : Blk w R t #[z0, z1, z2, z3, z4, z5]) {Wf : World}
 (hWf : Wf = (((((w.setCell ⟨R, 0, none⟩ (u0)).setCell ⟨R, 1, none⟩ (u1)).setCell ⟨R, 2, none⟩ (u2)).setCell ⟨R, 3, none⟩ (u3)).setCell ⟨R, 4, none⟩ (u4)).setCell ⟨R, 5, none⟩ (u5)) :
 Blk Wf R t #[u0, u1, u2, u3, u4, u5] ∧ w.grownBy Wf (some R) := by
 have g : ∀ (i : Nat) (u : Value) (v : World), v.grownBy (v.setCell ⟨R, i, none⟩ u) (some R) := fun i u v => set_grownL v R i u
 subst hWf
 exact ⟨(((((hR.set_ 0 u0).set_ 1 u1).set_ 2 u2).set_ 3 u3).set_ 4 u4).set_ 5 u5, (((((g 0 u0 w).trans (g 1 u1 _)).trans (g 2 u2 _)).trans (g 3 u3 _)).trans (g 4 u4 _)).trans (g 5 u5 _)⟩
theorem set5T {w : World} {R : Nat} {t : TypeId} {z0 z1 z2 z3 z4 z5 u1 u2 u3 u4 u5 : Value} (hR : Blk w R t #[z0, z1, z2, z3, z4, z5]) {Wf : World}
 (hWf : Wf = ((((w.setCell ⟨R, 1, none⟩ (u1)).setCell ⟨R, 2, none⟩ (u2)).setCell ⟨R, 3, none⟩ (u3)).setCell ⟨R, 4, none⟩ (u4)).setCell ⟨R, 5, none⟩ (u5)) :
 Blk Wf R t #[z0, u1, u2, u3, u4, u5] ∧ w.grownBy Wf (some R) := by
 have g : ∀ (i : Nat) (u : Value) (v : World), v.grownBy (v.setCell ⟨R, i, none⟩ u) (some R) := fun i u v => set_grownL v R i u
 subst hWf
 exact ⟨((((hR.set_ 1 u1).set_ 2 u2).set_ 3 u3).set_ 4 u4).set_ 5 u5, ((((g 1 u1 w).trans (g 2 u2 _)).trans (g 3 u3 _)).trans (g 4 u4 _)).trans (g 5 u5 _)⟩
theorem own_baseR {B B' : Nat} {e : TypeId} {w : World} {v : Value} {l : List R4} (h : OwnR e B w v l) (hB : B' ≤ B) : OwnR e B' w v l := own_base h hB
theorem app_rs {t e : TypeId} (T : RT t e) {w : World} {ops : Array Oper} {rest : List Oper} {o : Oper} {a : Act} {Q : Exit → Act → World → Prop} (hgd : o.guard = none) (s x : Operand)
 (ho : o.op = .call { callee := .builtin .append, args := #[s, x], argTypes := #[t, t] }) (B : Nat) (v : Value) (l : List R4) (hs : a.eval s = v) (hR : OwnR e B w v l)
 (B2 : Nat) (v2 : Value) (l2 : List R4) (hx : a.eval x = v2) (hR2 : OwnR e B2 w v2 l2) (hl : l.length + l2.length ≤ 1000000000) (hB : B ≤ w.heap.size)
 (h : ∀ v' w', OwnR e B w' v' (l ++ l2) → w.grownBy w' v.ownBlock → wpList Tryz.prog ops Q rest (a.put o.dst v') w') : wpList Tryz.prog ops Q (o :: rest) a w := by
 obtain ⟨i0, hi0, hz0, hz1, hz2⟩ := T.i
 rcases hR2.2 with ⟨rfl, hn⟩ | ⟨g, cap, cur, rfl, hB2, hh, hnc, hcm, hcs, htk⟩
 ·have hnil : l2 = [] := List.eq_nil_of_length_eq_zero hn
  subst hnil
  refine wpList_append_own_none hgd s x t ho B e i0 4 T.u hi0 v l.length (l.map rv).flatten hs hR hx ?_
  exact h v w (by simpa using hR) ⟨rfl, rfl, rfl, Nat.le_refl _, fun _ _ _ => rfl⟩
 ·refine wpList_append_own_at w hgd s x t ho B e i0 _ 4 32 T.u hi0 hz0 hz1 hz2 rfl (by decide) v l.length (l.map rv).flatten hs hR ⟨g, 0, none⟩ l2.length cap (l2.map rv).flatten hx (flat4 l2) ?_ ?_ (by unfold maxLen; omega) (by omega) hB ?_
  ·exact World.ownsRow.cells hR2 rfl
  ·intro u hu
   obtain ⟨q, hq, hu⟩ := List.mem_flatten.1 hu
   obtain ⟨r, _, rfl⟩ := List.mem_map.1 hq
   exact rv_one r u hu
  ·intro v' w' h1 h2 _ h3
   refine h v' w' ?_ h2
   unfold OwnR
   rw [List.length_append, List.map_append, List.flatten_append]
   exact h1
structure US (W : World) (P L R : Nat) (A : Option Addr) (c : Nat) (bs : Bs) (d : Nat) (pl : Bool) (T : Nat) (acc : List R4) (vL : Value) (X : World) (r : Bs) : Prop where
 ps : PS P L R A c bs d pl X r
 fr : Fr L R W X
 bT : Blk X W.heap.size 34 #[.slice none 0 0, .int .i64 0, .int .i64 0, .slice none 0 0, .slice none 0 0, .slice none 0 0]
 bS : Blk X T 34 #[vL, .int .i64 0, .int .i64 0, .slice none 0 0, .slice none 0 0, .slice none 0 0]
 own : OwnR 64 (T + 1) X vL acc
 lT : W.heap.size < T
 lL : L < W.heap.size
 lR : R < W.heap.size
 lP : P < W.heap.size
 off : 0 < bs.length → ∀ x, A = some x → x.block < W.heap.size
variable {T : Nat} {acc acc' : List R4} {vL v' : Value}
theorem US.to (h : US W P L R A c bs d pl T acc vL X r) (hP : PS P L R A c bs d pl X' r') (hF : Fr L R X X') : US W P L R A c bs d pl T acc vL X' r' :=
 ⟨hP, h.fr.trans hF, hF.blk (by have := h.lL; omega) (by have := h.lR; omega) h.bT, hF.blk (by have := h.lL; have := h.lT; omega) (by have := h.lR; have := h.lT; omega) h.bS, own_far h.own (fun b h1 h2 => hF.block b h2 (by have := h.lL; have := h.lT; omega) (by have := h.lR; have := h.lT; omega)), h.lT, h.lL, h.lR, h.lP, h.off⟩
theorem US.belowW (h : US W P L R A c bs d pl T acc vL X r) (hb : Below X.heap.size X X') : US W P L R A c bs d pl T acc vL X' r := h.to (h.ps.belowW hb) (Fr.of_below hb)
theorem US.more {Y : World} (h : US W P L R A c bs d pl T acc vL X r) (hR : OwnR 64 (T + 1) Y v' acc') (hg : X.grownBy Y vL.ownBlock) : US W P L R A c bs d pl T acc' v' (Y.setCell ⟨T, 0, none⟩ v') r := by
 have hT := h.bS.lt
 have hB : Below (T + 1) X Y := ((Below.refl X.heap.size X).mono (by omega)).grown hg (by omega) (fun k hk => (World.ownsRow.lt h.own k hk).1)
 have hg2 := set_grownL Y T 0 v'
 have lT := h.lT
 have lL := h.lL
 have lR := h.lR
 have lP := h.lP
 have h2 := h.ps.below hB (by omega) (by omega) (by omega) (fun h0 x hx => by have := h.off h0 x hx; omega)
 refine ⟨h2.grownL hg2 (by omega) (by omega) (by omega) (fun h0 x hx => by have := h.off h0 x hx; omega), (h.fr.thenB (hB.mono (by omega))).grownL hg2 (by omega), (h.bT.below hB (by omega)).far (p := ⟨T, 0, none⟩) (by show W.heap.size ≠ T; omega) _, (h.bS.below hB (by omega)).set_ 0 _, ?_, h.lT, h.lL, h.lR, h.lP, h.off⟩
 exact World.ownsRow.kept hR hg2 (.inr fun e => by have := (World.ownsRow.lt hR _ e).1; omega)
def ReadP (P L R : Nat) (A : Option Addr) (c : Nat) (bs : Bs) (d : Nat) (pl : Bool) (w : World) (res : Res (List R4 × Ob)) (e : Ending) (w' : World) : Prop := match res with
 | .ok lo u => ∃ v us, e = .returned (.tuple #[.agg (List.toArray (v :: us)), .int .i64 0]) ∧ OwnR 64 w.heap.size w' v lo.1 ∧ ObI w.heap.size w'.heap.size w' lo.2 us ∧ PS P L R A c bs d pl w' u ∧ Fr L R w w'
 | .err n u => n ≠ 0 ∧ e = .returned (.tuple #[.agg #[.slice none 0 0, .int .i64 0, .int .i64 0, .slice none 0 0, .slice none 0 0, .slice none 0 0], .int .i64 n]) ∧ PS P L R A c bs d pl w' u ∧ Fr L R w w'
theorem px_Read (hd : d ≤ 1001) (hsm6 : bs.length ≤ 100000000) (W : World) (h : PS P L R A c bs d pl W r) : Calls Tryz.prog 10 #[.pointer (some ⟨P, 0, none⟩)] W (ReadP P L R A c bs d pl W (tabS pl d r)) := by
 obtain ⟨K, hK⟩ : ∃ K, K = tabS pl d r := ⟨_, rfl⟩
 rw [← hK]
 have hrl := suf_len h.suf
 obtain ⟨W1, hW1, b1, hT1⟩ := newB W 34 #[.slice none 0 0, .int .i64 0, .int .i64 0, .slice none 0 0, .slice none 0 0, .slice none 0 0]
 have z1 : W1.heap.size = W.heap.size + 1 := by rw [hW1, World.size_alloc]
 have hP1 := h.belowW b1
 have hF1 := Fr.of_below (L := L) (R := R) b1
 have hLT := h.L_lt
 have hRT := h.R_lt
 have hPT := h.P_lt
 have hAT := h.a_lt
 have p0 := hP1.p0
 have q0 := hP1.q0
 have cw := px_Word ⟨#[120, 114, 101, 102]⟩ W1 hP1
 rw [show (⟨#[120, 114, 101, 102]⟩ : ByteArray).data.toList = xrefW from rfl] at cw
 unfold tabS at hK
 refine h8_ hsm6 hrl hAT z1 hT1 b1 hF1 hP1 ?_; clear hsm6 hrl hAT z1 hT1 b1 hF1 hP1; intro hsm6 hrl hAT z1 hT1 b1 hF1 hP1
 clear h
 cases h1 : wantW xrefW r with
 | err n u =>
  rw [h1] at cw hK
  simp only [] at hK
  subst hK
  clear h1
  go_enter Tryz.func10, Tryz.ntmps10
  go_upto_region 1 with fail
  rw [← hW1]
  replace hW1 := hi_ hW1
  go_wp2_with (go_at_call 25; (with_reducible refine cw.mono ?_); rintro e w2 ⟨hn0, rfl, hP2, hF2⟩; have hnb := bne_iff_ne.2 hn0; replace hn0 := hi_ hn0; have hT2 := hF2.blk (by omega) (by omega) hT1.out; obtain ⟨z0, z1, z2, z3, z4, z5, v0, v1, v2, v3, v4, v5⟩ := hT2.b6; replace hP2 := hi_ hP2; replace hF2 := hi_ hF2; replace hT2 := hi_ hT2; clear cw)
  generalize hWf : World.setCell _ _ _ = Wf
  replace hWf := hWf.symm
  obtain ⟨hb, hg⟩ := set6L hT2.out hWf
  obtain ⟨u0, u1, u2, u3, u4, u5, -⟩ := hb.b6
  have hPf := hi_ (hP2.out.grownL hg (by omega) (by omega) (by omega) (fun h0 x hx => by have := hAT.out h0 x hx; omega))
  have hFf := hi_ ((hF1.out.trans hF2.out).grownL hg (Nat.le_refl _))
  replace hg := hi_ hg
  replace hWf := hi_ hWf
  clear hb z0 v0 v1 z2 v2 z3 v3 z4 v4 z5 v5
  refine bodyPost_ret (v := .tuple #[.agg #[.slice none 0 0, .int .i64 0, .int .i64 0, .slice none 0 0, .slice none 0 0, .slice none 0 0], .int .i64 n]) (by simp only [results, Tryz.results10]; simp [go_sem, u0, u1, u2, u3, u4, u5]) rfl ?_
  exact ⟨hn0.out, rfl, hPf.out, hFf.out⟩
 | ok t u =>
  rw [h1] at cw hK
  simp only [] at hK
  clear h1
  replace hK := hi_ hK
  go_enter Tryz.func10, Tryz.ntmps10
  go_upto_region 1 with fail
  rw [← hW1]
  replace hW1 := hi_ hW1
  go_upto_block 0 with (go_at_call 25; (with_reducible refine cw.mono ?_); rintro e w2 ⟨rfl, hP2, hF2⟩; have hT2 := hF2.blk (by omega) (by omega) hT1.out; replace p0 := hP2.p0; replace q0 := hP2.q0; replace hP2 := hi_ hP2; replace hF2 := hi_ hF2; replace hT2 := hi_ hT2; clear cw)
  obtain ⟨W3, hW3, b3, hS3⟩ := newB w2 34 #[.slice none 0 0, .int .i64 0, .int .i64 0, .slice none 0 0, .slice none 0 0, .slice none 0 0]
  rw [← hW3]
  obtain ⟨T, hTe⟩ : ∃ T, T = w2.heap.size := ⟨_, rfl⟩
  have hTW : W.heap.size < T := by have := hF2.out.size; have := z1.out; omega
  rw [← hTe] at hS3 ⊢
  have hA : US W P L R A c bs d pl T [] (.slice none 0 0) W3 u := ⟨hP2.out.belowW b3, (hF1.out.trans hF2.out).trans (Fr.of_below b3), hT2.out.below b3 (by omega), hS3, OwnR.nil _ _ _, hTW, hLT, hRT, hPT, hAT.out⟩
  have hul : u.length ≤ bs.length := suf_len hP2.out.suf
  clear hS3
  refine h4_ hW3 b3 hTe hul ?_; clear hW3 b3 hTe hul; intro hW3 b3 hTe hul
  replace p0 := hA.ps.p0
  replace q0 := hA.ps.q0
  replace hA := hi_ hA
  obtain ⟨Z, hZ⟩ : ∃ Z, Z = secS (u.length + 1) [] u := ⟨_, rfl⟩
  have hKZ : K = finS pl d Z := by rw [hZ]; exact hK.out
  replace hKZ := hi_ hKZ
  replace hZ := hi_ hZ
  clear hK hP2 hF2 hT2 hP1 hF1 b1 hT1
  go_wp2
  go_loopw [] (fun wr => ∃ (f : Nat) (acc : List R4) (vL : Value) (r1 : Bs), US W P L R A c bs d pl T acc vL wr r1 ∧ secS f acc r1 = Z ∧ r1.length < f ∧ 20 * acc.length + r1.length ≤ bs.length) (fun wr => bs.length + 1 - posOf L wr)
  case atStart => exact ⟨_, [], _, u, hA.out, hZ.out.symm, Nat.lt_succ_self _, by have := hul.out; simpa using this⟩
  case round =>
   clear hA hZ
   obtain ⟨f, acc, vL, r1, hA, hE, hf, hacc⟩ := hrel
   obtain ⟨f, rfl⟩ : ∃ g, f = g + 1 := ⟨f - 1, by omega⟩
   have hbw : bs.length + 1 - posOf L wr = r1.length + 1 := by rw [hA.ps.posOf]; have := pos_len hA.ps.suf; have := pos_le bs r1; omega
   have hal : acc.length ≤ 100000000 := by have := hsm6.out; omega
   obtain ⟨AL, cL, hvL, _⟩ := hA.own.out (by unfold maxLen; omega)
   have p0 := hA.ps.p0
   have q0 := hA.ps.q0
   have ck := hi_ fun W h => px_Keyword (P := P) (L := L) (R := R) (A := A) (c := c) (bs := bs) (d := d) (pl := pl) (r := r1) ⟨#[116, 114, 97, 105, 108, 101, 114]⟩ (by decide) (by decide) W h
   rw [show (⟨#[116, 114, 97, 105, 108, 101, 114]⟩ : ByteArray).data.toList = trailW from rfl, show (⟨#[116, 114, 97, 105, 108, 101, 114]⟩ : ByteArray).size = 7 from rfl] at ck
   rw [secS] at hE
   obtain ⟨kb, hkb⟩ : ∃ k, k = kwL trailW r1 := ⟨_, rfl⟩
   rw [← hkb] at ck hE
   obtain ⟨nacc, hnacc⟩ : ∃ n, n = acc.length := ⟨_, rfl⟩
   rw [← hnacc] at hvL
   refine h8_ hkb hbw hal hf hacc hnacc hA hE ?_; clear hkb hbw hal hf hacc hnacc hA hE; intro hkb hbw hal hf hacc hnacc hA hE
   subst hvL
   cases kb with
   | true =>
    have hE2 : Res.ok acc ((blankM false r1).drop 7) = Z := by simpa using hE.out
    subst hE2
    obtain ⟨v7, hv7⟩ : ∃ x, x = (blankM false r1).drop 7 := ⟨_, rfl⟩
    have ck2 : ∀ W, PS P L R A c bs d pl W r1 → Calls Tryz.prog 26 #[.pointer (some ⟨R, 0, none⟩), .string ⟨#[116, 114, 97, 105, 108, 101, 114]⟩] W fun e w' => e = .returned (.bool true) ∧ PS P L R A c bs d pl w' v7 ∧ Fr L R W w' := fun W h => by rw [hv7]; exact ck.out W h
    have hKZ2 := hKZ.out
    rw [← hv7] at hKZ2
    simp only [finS] at hKZ2
    replace hKZ := hi_ hKZ2
    obtain ⟨B, hB⟩ : ∃ x, x = blankM false v7 := ⟨_, rfl⟩
    have cb := fun W (h : PS P L R A c bs d pl W v7) => px_Blank W h
    rw [← hB] at hKZ2 cb
    replace hKZ := hi_ hKZ2
    have cps := hi_ fun W h => ps_pos (P := P) (L := L) (R := R) (A := A) (c := c) (bs := bs) (d := d) (pl := pl) (r := B) W h
    obtain ⟨q, hq⟩ : ∃ q : Int, q = (pos bs B : Nat) := ⟨_, rfl⟩
    rw [← hq] at cps
    have cv := fun W (h : PS P L R A c bs d pl W B) => px_Value hd hsm6.out W h
    obtain ⟨RR, hRR⟩ : ∃ x, x = valS pl d B := ⟨_, rfl⟩
    rw [← hRR] at hKZ2 cv
    replace hKZ := hi_ hKZ2
    refine h7_ cv cb ck2 hq hRR hB hv7 ?_; clear cv cb ck2 hq hRR hB hv7; intro cv cb ck2 hq hRR hB hv7
    clear hKZ2 hE ck
    go_upto_region 14 with (first | (go_at_call 26; (with_reducible refine (ck2.out _ hA.out.ps).mono ?_); rintro e w4 ⟨rfl, hP2, hF2⟩; replace hA := hi_ (hA.out.to hP2 hF2); replace p0 := hA.out.ps.p0; replace q0 := hA.out.ps.q0; clear hP2 hF2) | (go_at_call 28; (with_reducible refine (cb.out _ hA.out.ps).mono ?_); rintro e w5 ⟨rfl, hP2, hF2⟩; replace hA := hi_ (hA.out.to hP2 hF2); replace p0 := hA.out.ps.p0; replace q0 := hA.out.ps.q0; have hsufB := hi_ hA.out.ps.suf; clear hP2 hF2) | (go_at_call 14; (with_reducible refine (cps.out _ hA.out.ps).mono ?_); rintro e w6 ⟨rfl, rfl⟩))
    cases RR with
    | err n z =>
     have hKn : K = .err n z := hKZ.out
     subst hKn
     go_upto_region 15 with (first | (go_at_call 29; (with_reducible refine (cv.out _ hA.out.ps).mono ?_); rintro e w7 ⟨hn0, rfl, hP2, hF2⟩; replace hA := hi_ (hA.out.to hP2 hF2); replace p0 := hA.out.ps.p0; replace q0 := hA.out.ps.q0; have hnb := bne_iff_ne.2 hn0; replace hn0 := hi_ hn0; clear hP2 hF2))
     obtain ⟨WA, hWA, bA⟩ := newA w7 32 #[.int .i64 0, .int .i64 0, .slice none 0 0, .slice none 0 0, .slice none 0 0]
     rw [← hWA]
     replace hA := hi_ (hA.out.belowW bA)
     replace p0 := hA.out.ps.p0; replace q0 := hA.out.ps.q0; obtain ⟨z0, z1, z2, z3, z4, z5, v0, v1, v2, v3, v4, v5⟩ := hA.out.bT.b6
     replace hWA := hi_ hWA
     replace bA := hi_ bA
     go_wp2
     generalize hWf : World.setCell _ _ _ = Wf
     replace hWf := hWf.symm
     obtain ⟨hb, hg⟩ := set6L hA.out.bT hWf
     obtain ⟨u0, u1, u2, u3, u4, u5, -⟩ := hb.b6
     have hPf := hi_ (hA.out.ps.grownL hg (by have := hA.out.lL; omega) (by have := hA.out.lR; omega) (by have := hA.out.lP; omega) (fun h0 x hx => by have := hA.out.off h0 x hx; omega))
     have hFf := hi_ (hA.out.fr.grownL hg (Nat.le_refl _))
     replace hg := hi_ hg
     replace hWf := hi_ hWf
     clear hb z0 v0 z1 v1 z2 v2 z3 v3 z4 v4 z5 v5
     refine bodyPost_ret (v := .tuple #[.agg #[.slice none 0 0, .int .i64 0, .int .i64 0, .slice none 0 0, .slice none 0 0, .slice none 0 0], .int .i64 n]) (by simp only [results, Tryz.results10]; simp [go_sem, u0, u1, u2, u3, u4, u5]) rfl ?_
     exact ⟨hn0.out, rfl, hPf.out, hFf.out⟩
    | ok o z =>
     go_upto_region 15 with (first | (go_at_call 29; (with_reducible refine (cv.out _ hA.out.ps).mono ?_); rintro e w7 ⟨us, rfl, hI, hP2, hF2⟩; obtain ⟨xn, F1, F2, F3, fn1, fc1, fn2, fc2, fn3, fc3, hus⟩ := ob_five2 hI.ob; obtain ⟨xk, hxk⟩ : ∃ x, x = o.kind := ⟨_, rfl⟩; rw [← hxk] at hus; subst hus; replace hxk := hi_ hxk; have hszV := hi_ hA.out.fr.size; have hszT := hi_ hA.out.bS.lt; replace hA := hi_ (hA.out.to hP2 hF2); replace p0 := hA.out.ps.p0; replace q0 := hA.out.ps.q0; replace hI := hi_ hI; clear hP2 hF2))
     obtain ⟨WA, hWA, bA, hXA⟩ := newB w7 32 #[.int .i64 xk, .int .i64 xn, .slice F1 fn1 fc1, .slice F2 fn2 fc2, .slice F3 fn3 fc3]
     rw [← hWA]
     obtain ⟨x0, x1, x2, x3, x4, -⟩ := hXA.b5
     have hIA := hI.out.keep (fun b _ hb => bA.block b (by have := hI.out.1; omega)) (Nat.le_trans hI.out.1 bA.size)
     have hTlt := hA.out.bS.lt
     have hTX : T ≠ w7.heap.size := by omega
     replace hA := hi_ (hA.out.belowW bA)
     replace p0 := hA.out.ps.p0; replace q0 := hA.out.ps.q0; obtain ⟨z0, z1, z2, z3, z4, z5, v0, v1, v2, v3, v4, v5⟩ := hA.out.bT.b6
     refine h3_ hWA bA hIA ?_; clear hWA bA hIA; intro hWA bA hIA
     by_cases hk7 : xk = 7
     ·have hKo : K = .ok (acc, o) z := by have := hKZ.out; rw [endS, if_pos (hxk.out.symm.trans hk7)] at this; exact this
      subst hKo
      subst hk7
      obtain ⟨s0, s1, s2, s3, s4, s5, -, g1, g2, g3, g4, g5⟩ := hA.out.bS.b6
      replace hXA := hi_ hXA
      go_upto_region 21 with fail
      obtain ⟨WC, hWC⟩ : ∃ Wx, Wx = ((((WA.setCell ⟨T, 1, none⟩ (.int .i64 7)).setCell ⟨T, 2, none⟩ (.int .i64 xn)).setCell ⟨T, 3, none⟩ (.slice F1 fn1 fc1)).setCell ⟨T, 4, none⟩ (.slice F2 fn2 fc2)).setCell ⟨T, 5, none⟩ (.slice F3 fn3 fc3) := ⟨_, rfl⟩
      rw [← hWC]
      obtain ⟨hSC, hgC⟩ := set5T hA.out.bS hWC
      have hneT := hA.out.lT
      have hTC : Blk WC W.heap.size 34 #[.slice none 0 0, .int .i64 0, .int .i64 0, .slice none 0 0, .slice none 0 0, .slice none 0 0] := (hgC.block _ hA.out.bT.lt (by intro e; injection e with e; omega)).trans hA.out.bT
      have hPC := hi_ (hA.out.ps.grownL hgC (by have := hA.out.lL; omega) (by have := hA.out.lR; omega) (by have := hA.out.lP; omega) (fun h0 x hx => by have := hA.out.off h0 x hx; omega))
      have hFC := hi_ (hA.out.fr.grownL hgC (by omega))
      have hOC := hi_ (World.ownsRow.kept hA.out.own hgC (.inr fun e => by have := (World.ownsRow.lt hA.out.own _ e).1; omega))
      clear s0 s1 s2 s3 s4 s5 g1 g2 g3 g4 g5 x0 x1 x2 x3 x4
      obtain ⟨s0, s1, s2, s3, s4, s5, -⟩ := hSC.b6
      obtain ⟨z0, z1, z2, z3, z4, z5, v0, v1, v2, v3, v4, v5⟩ := hTC.b6
      refine h4_ hWC hgC hSC hTC ?_; clear hWC hgC hSC hTC; intro hWC hgC hSC hTC
      go_wp2
      generalize hWf : World.setCell _ _ _ = Wf
      replace hWf := hWf.symm
      obtain ⟨hb, hg⟩ := set6L hTC.out hWf
      obtain ⟨u0, u1, u2, u3, u4, u5, -⟩ := hb.b6
      have hPf := hi_ (hPC.out.grownL hg (by omega) (by omega) (by omega) (fun h0 x hx => by have := hAT.out h0 x hx; omega))
      have hFf := hi_ (hFC.out.grownL hg (Nat.le_refl _))
      have hOf : OwnR 64 W.heap.size Wf (.slice AL nacc cL) acc := own_baseR (World.ownsRow.kept hOC.out hg (.inr fun e => by have := (World.ownsRow.lt hOC.out _ e).1; omega)) (by omega)
      have hIf := ((hIA.out.keep (fun b hb1 hb2 => hgC.out.block b (by have := hIA.out.1; omega) (by intro e; injection e with e; have := hszT.out; omega)) (Nat.le_trans hIA.out.1 hgC.out.size)).keep (fun b hb1 hb2 => hg.block b (by have := hIA.out.1; have := hgC.out.size; omega) (by intro e; injection e with e; have := hszV.out; have := hszT.out; omega)) (Nat.le_trans (Nat.le_trans hIA.out.1 hgC.out.size) hg.size)).wide (lo' := W.heap.size) (by have := hszT.out; omega)
      have hIg := hi_ (show ObI W.heap.size Wf.heap.size Wf o [.int .i64 7, .int .i64 xn, .slice F1 fn1 fc1, .slice F2 fn2 fc2, .slice F3 fn3 fc3] from ⟨Nat.le_refl _, fun w' h hz => hIf.2 w' (fun b h1 h2 => h b h1 (Nat.lt_of_lt_of_le h2 hIf.1)) (Nat.le_trans hIf.1 hz)⟩)
      refine h3_ hOf hg hWf ?_; clear hOf hg hWf; intro hOf hg hWf
      clear hb hIf z0 z1 z2 z3 z4 z5 v0 v1 v2 v3 v4 v5 s0 s1 s2 s3 s4 s5
      refine bodyPost_ret (v := .tuple #[.agg #[.slice AL nacc cL, .int .i64 7, .int .i64 xn, .slice F1 fn1 fc1, .slice F2 fn2 fc2, .slice F3 fn3 fc3], .int .i64 0]) (by simp only [results, Tryz.results10]; simp [go_sem, u0, u1, u2, u3, u4, u5]) rfl ?_
      exact ⟨.slice AL nacc cL, [.int .i64 7, .int .i64 xn, .slice F1 fn1 fc1, .slice F2 fn2 fc2, .slice F3 fn3 fc3], rfl, hOf.out, hIg.out, hPf.out, hFf.out⟩
     ·have hKo : K = .err 4 B := by have := hKZ.out; rw [endS, if_neg (fun e => hk7 (hxk.out.trans e))] at this; exact this
      subst hKo
      have hkb7 : (xk != 7) = true := bne_iff_ne.2 hk7
      have csk := hi_ fun W h => ps_seek (P := P) (L := L) (R := R) (A := A) (c := c) (bs := bs) (d := d) (pl := pl) (r := z) hsufB.out hq.out W h
      replace hk7 := hi_ hk7
      replace hXA := hi_ hXA
      clear x1 x2 x3 x4
      go_wp2_with (go_at_call 30; (with_reducible refine (csk.out _ hA.out.ps).mono ?_); rintro e w8 ⟨rfl, hP2, hF2⟩; replace hA := hi_ (hA.out.to hP2 hF2); replace p0 := hA.out.ps.p0; replace q0 := hA.out.ps.q0; obtain ⟨z0, z1, z2, z3, z4, z5, v0, v1, v2, v3, v4, v5⟩ := hA.out.bT.b6; clear hP2 hF2)
      generalize hWf : World.setCell _ _ _ = Wf
      replace hWf := hWf.symm
      obtain ⟨hb, hg⟩ := set6L hA.out.bT hWf
      obtain ⟨u0, u1, u2, u3, u4, u5, -⟩ := hb.b6
      have hPf := hi_ (hA.out.ps.grownL hg (by have := hA.out.lL; omega) (by have := hA.out.lR; omega) (by have := hA.out.lP; omega) (fun h0 x hx => by have := hA.out.off h0 x hx; omega))
      have hFf := hi_ (hA.out.fr.grownL hg (Nat.le_refl _))
      replace hg := hi_ hg
      replace hWf := hi_ hWf
      clear hb z0 v0 z1 v1 z2 v2 z3 v3 z4 v4 z5 v5
      refine bodyPost_ret (v := .tuple #[.agg #[.slice none 0 0, .int .i64 0, .int .i64 0, .slice none 0 0, .slice none 0 0, .slice none 0 0], .int .i64 4]) (by simp only [results, Tryz.results10]; simp [go_sem, u0, u1, u2, u3, u4, u5]) rfl ?_
      exact ⟨by decide, rfl, hPf.out, hFf.out⟩
   | false =>
    have cp := hi_ fun W h => px_part (P := P) (L := L) (R := R) (A := A) (c := c) (bs := bs) (d := d) (pl := pl) (r := r1) W h
    have ck2 : ∀ W, PS P L R A c bs d pl W r1 → Calls Tryz.prog 26 #[.pointer (some ⟨R, 0, none⟩), .string ⟨#[116, 114, 97, 105, 108, 101, 114]⟩] W fun e w' => e = .returned (.bool false) ∧ PS P L R A c bs d pl w' r1 ∧ Fr L R W w' := fun W h => ck.out W h
    have hE2 := hE.out
    rw [if_neg (by decide)] at hE2
    replace ck2 := hi_ ck2
    clear hE ck
    cases hpt : partS r1 with
    | err n u2 =>
     rw [hpt] at hE2
     simp only [] at hE2
     subst hE2
     have hKn : K = .err n u2 := hKZ.out
     subst hKn
     have cp2 : ∀ W, PS P L R A c bs d pl W r1 → Calls Tryz.prog 27 #[.pointer (some ⟨P, 0, none⟩)] W (PartP P L R A c bs d pl W (.err n u2)) := fun W h => by have := cp.out W h; rw [hpt] at this; exact this
     replace cp2 := hi_ cp2
     clear cp hpt
     go_wp2_with (first | (go_at_call 26; (with_reducible refine (ck2.out _ hA.out.ps).mono ?_); rintro e w4 ⟨rfl, hP2, hF2⟩; replace hA := hi_ (hA.out.to hP2 hF2); replace p0 := hA.out.ps.p0; replace q0 := hA.out.ps.q0; clear hP2 hF2) | (go_at_call 27; (with_reducible refine (cp2.out _ hA.out.ps).mono ?_); rintro e w5 ⟨hn0, rfl, hP2, hF2⟩; replace hA := hi_ (hA.out.to hP2 hF2); replace p0 := hA.out.ps.p0; replace q0 := hA.out.ps.q0; obtain ⟨z0, z1, z2, z3, z4, z5, v0, v1, v2, v3, v4, v5⟩ := hA.out.bT.b6; have hnb := bne_iff_ne.2 hn0; replace hn0 := hi_ hn0; clear hP2 hF2))
     generalize hWf : World.setCell _ _ _ = Wf
     replace hWf := hWf.symm
     obtain ⟨hb, hg⟩ := set6L hA.out.bT hWf
     obtain ⟨u0, u1, u2, u3, u4, u5, -⟩ := hb.b6
     have hPf := hi_ (hA.out.ps.grownL hg (by have := hA.out.lL; omega) (by have := hA.out.lR; omega) (by have := hA.out.lP; omega) (fun h0 x hx => by have := hA.out.off h0 x hx; omega))
     have hFf := hi_ (hA.out.fr.grownL hg (Nat.le_refl _))
     replace hg := hi_ hg
     replace hWf := hi_ hWf
     clear hb z0 v0 z1 v1 z2 v2 z3 v3 z4 v4 z5 v5
     refine bodyPost_ret (v := .tuple #[.agg #[.slice none 0 0, .int .i64 0, .int .i64 0, .slice none 0 0, .slice none 0 0, .slice none 0 0], .int .i64 n]) (by simp only [results, Tryz.results10]; simp [go_sem, u0, u1, u2, u3, u4, u5]) rfl ?_
     exact ⟨hn0.out, rfl, hPf.out, hFf.out⟩
    | ok l u2 =>
     rw [hpt] at hE2
     simp only [] at hE2
     have cp2 : ∀ W, PS P L R A c bs d pl W r1 → Calls Tryz.prog 27 #[.pointer (some ⟨P, 0, none⟩)] W (PartP P L R A c bs d pl W (.ok l u2)) := fun W h => by have := cp.out W h; rw [hpt] at this; exact this
     have hpl := part_cut hpt
     have hll : l.length ≤ 100000000 := by have := hsm6.out; have := hacc.out; omega
     refine h4_ cp2 hE2 hpl hll ?_; clear cp2 hE2 hpl hll; intro cp2 hE2 hpl hll
     clear cp hpt
     go_upto_region 11 with (first | (go_at_call 26; (with_reducible refine (ck2.out _ hA.out.ps).mono ?_); rintro e w4 ⟨rfl, hP2, hF2⟩; replace hA := hi_ (hA.out.to hP2 hF2); replace p0 := hA.out.ps.p0; replace q0 := hA.out.ps.q0; clear hP2 hF2) | (go_at_call 27; (with_reducible refine (cp2.out _ hA.out.ps).mono ?_); rintro e w5 ⟨v2, rfl, hO, hP2, hF2⟩; obtain ⟨A2, c2, hv2, _⟩ := hO.out (by have := hll.out; unfold maxLen; omega); subst hv2; replace hA := hi_ (hA.out.to hP2 hF2); replace p0 := hA.out.ps.p0; replace q0 := hA.out.ps.q0; replace hO := hi_ hO; clear hP2 hF2))
     obtain ⟨n2, hn2⟩ : ∃ n, n = l.length := ⟨_, rfl⟩
     rw [← hn2] at hO ⊢
     replace hn2 := hi_ hn2
     have s0 := hA.out.bS.cell 0
     have hTl := hA.out.bS.lt
     go_wp2_with (at_builtin; refine app_rs rt28 rfl _ _ rfl (T + 1) _ acc rfl hA.out.own _ _ l rfl hO.out (by have := hal.out; have := hll.out; omega) (by omega) ?_; intro vE wE hRE hgE; obtain ⟨AE, cE, hvE, _⟩ := hRE.out (by rw [List.length_append]; have := hal.out; have := hll.out; unfold maxLen; omega); subst hvE; have hBE : Below (T + 1) w5 wE := ((Below.refl w5.heap.size w5).mono (by omega)).grown hgE (by omega) (fun k hk => (World.ownsRow.lt hA.out.own k hk).1); have hS2 := hA.out.bS.below hBE (by omega); replace s0 := hS2.cell 0; have g0 := hS2.frozen 0; have hA2 := hi_ (hA.out.more hRE hgE); obtain ⟨nE, hnE⟩ : ∃ n, n = (acc ++ l).length := ⟨_, rfl⟩; rw [← hnE] at hA2 ⊢; replace hnE := hi_ hnE; clear hRE hgE hBE hS2)
     have e1 := hA2.out.ps.posOf
     have e2 := pos_len hA2.out.ps.suf
     have e3 := pos_le bs u2
     have e4 := hbw.out
     have e5 := hpl.out
     have e6 := hf.out
     have e7 := hacc.out
     exact ⟨⟨f, acc ++ l, _, u2, hA2.out, hE2.out, by omega, by rw [List.length_append]; omega⟩, by rw [e1]; omega⟩
end
section
open Go Go.RowKit Go.Wk
structure PG (e er : TypeId) (B : Nat) (w : World) (v : Value) (ps : List (List R4)) (hs : List Value) : Prop where
 len : hs.length = ps.length
 row : w.ownsRow B e 1 v ps.length hs
 it : ∀ i (h : i < ps.length), OwnR er B w (hs.getD i undef) ps[i]
 apart : ∀ i j, i < j → j < ps.length → (hs.getD i undef).ownBlock = none ∨ (hs.getD i undef).ownBlock ≠ (hs.getD j undef).ownBlock
 off : ∀ i, i < ps.length → (hs.getD i undef).ownBlock = none ∨ (hs.getD i undef).ownBlock ≠ v.ownBlock
theorem PG.nil (e er : TypeId) (B : Nat) (w : World) : PG e er B w (.slice none 0 0) [] [] :=
 ⟨rfl, World.ownsRow_nil _ _ _ _, fun i h => by simp at h, fun i j _ h => by simp at h, fun i h => by simp at h⟩
theorem PG.below {e er : TypeId} {B : Nat} {w w' : World} {v : Value} {ps : List (List R4)} {hs : List Value} (h : PG e er B w v ps hs) (hb : Below w.heap.size w w') : PG e er B w' v ps hs :=
 ⟨h.len, own_far h.row fun b _ hb' => hb.block b hb', fun i hi => (h.it i hi).below hb, h.apart, h.off⟩
theorem own_lt {e : TypeId} {B : Nat} {w : World} {v : Value} {l : List R4} (h : OwnR e B w v l) {g : Nat} (hg : v.ownBlock = some g) : B ≤ g ∧ g < w.heap.size := World.ownsRow.lt h g hg
theorem getD_snoc_lt (hs : List Value) (x : Value) (i : Nat) (h : i < hs.length) : (hs ++ [x]).getD i undef = hs.getD i undef := by
 rw [List.getD_eq_getElem?_getD, List.getD_eq_getElem?_getD, List.getElem?_append_left h]
theorem getD_snoc_eq (hs : List Value) (x : Value) (i : Nat) (h : i = hs.length) : (hs ++ [x]).getD i undef = x := by
 subst h; rw [List.getD_eq_getElem?_getD]; simp
theorem PG.more {e er : TypeId} {B : Nat} {w w' : World} {v v' : Value} {ps : List (List R4)} {hs : List Value} (h : PG e er B w v ps hs) (hrow : w'.ownsRow B e 1 v' (ps.length + 1) (hs ++ [.slice none 0 0])) (hg : w.grownBy w' v.ownBlock) (hat : v'.ownBlock = v.ownBlock ∨ v'.ownBlock = some w.heap.size) :
 PG e er B w' v' (ps ++ [[]]) (hs ++ [.slice none 0 0]) := by
 have hl := h.len
 refine ⟨by simp [hl], by simpa using hrow, fun i hi => ?_, fun i j hij hj => ?_, fun i hi => ?_⟩
 ·rw [List.length_append] at hi
  simp only [List.length_cons, List.length_nil] at hi
  by_cases hil : i < ps.length
  ·rw [getD_snoc_lt _ _ _ (by omega), List.getElem_append_left hil]
   exact (h.it i hil).kept hg (h.off i hil)
  ·rw [getD_snoc_eq _ _ _ (by omega)]
   have : (ps ++ [[]])[i] = [] := by rw [List.getElem_append_right (by omega)]; simp
   rw [this]; exact OwnR.nil _ _ _
 ·rw [List.length_append] at hj
  simp only [List.length_cons, List.length_nil] at hj
  by_cases hjl : j < ps.length
  ·rw [getD_snoc_lt _ _ _ (by omega), getD_snoc_lt _ _ _ (by omega)]; exact h.apart i j hij hjl
  ·rw [getD_snoc_lt _ _ i (by omega), getD_snoc_eq _ _ j (by omega)]
   cases hq : (hs.getD i undef).ownBlock with
   | none => exact .inl rfl
   | some g => exact .inr (by simp [Value.ownBlock])
 ·rw [List.length_append] at hi
  simp only [List.length_cons, List.length_nil] at hi
  by_cases hil : i < ps.length
  ·rw [getD_snoc_lt _ _ _ (by omega)]
   cases hq : (hs.getD i undef).ownBlock with
   | none => exact .inl rfl
   | some g =>
    refine .inr fun e' => ?_
    rcases hat with h9 | h9
    ·rcases h.off i hil with h8 | h8
     ·rw [hq] at h8; cases h8
     ·exact h8 (hq.trans (e'.trans h9))
    ·have := (own_lt (h.it i hil) hq).2
     rw [h9] at e'; injection e' with e'; omega
  ·rw [getD_snoc_eq _ _ _ (by omega)]; exact .inl rfl
theorem PG.last {e er : TypeId} {B : Nat} {w : World} {v : Value} {ps : List (List R4)} {p : List R4} {hs : List Value} (h : PG e er B w v (ps ++ [p]) hs) :
 ∃ hs0 hl g cap, hs = hs0 ++ [hl] ∧ hs0.length = ps.length ∧ v = .slice (some ⟨g, 0, none⟩) (ps.length + 1) cap ∧ w.cell? ⟨g, ps.length, none⟩ = some hl ∧ w.frozen? ⟨g, ps.length, none⟩ = false ∧ OwnR er B w hl p ∧ B ≤ g ∧ g < w.heap.size := by
 have hl := h.len
 rw [List.length_append] at hl
 simp only [List.length_cons, List.length_nil] at hl
 obtain ⟨hs0, x, rfl⟩ : ∃ hs0 x, hs = hs0 ++ [x] := by
  rcases List.eq_nil_or_concat hs with rfl | ⟨a, b, rfl⟩
  ·simp at hl
  ·exact ⟨a, b, by simp⟩
 have h0 : hs0.length = ps.length := by simpa using hl
 have hit := h.it ps.length (by simp)
 rw [getD_snoc_eq _ _ _ h0.symm] at hit
 have e1 : (ps ++ [p])[ps.length]'(by simp) = p := by simp
 rw [e1] at hit
 rcases h.row.2 with ⟨_, hn⟩ | ⟨g, cap, cur, hv, hB, hh, hnc, hcm, hcs, htk⟩
 ·simp at hn
 ·rw [List.length_append] at hv hnc htk
  simp only [List.length_cons, List.length_nil, Nat.mul_one] at hv hnc htk hcs
  have hcell : w.cell? ⟨g, ps.length, none⟩ = some x := by
   rw [cell_of_row w g ps.length cur e (0, 0) hh]
   have h5 : (cur.toList.take (ps.length + 1))[ps.length]? = some x := by rw [htk, ← h0]; simp
   rw [List.getElem?_take, if_pos (by omega)] at h5
   simpa using h5
  refine ⟨hs0, x, g, cap, rfl, h0, hv, hcell, ?_, hit, hB, (Array.getElem?_eq_some_iff.1 hh).1⟩
  simp [World.frozen?, hh]
theorem PG.put {e er : TypeId} {B : Nat} {w w' w2 : World} {ps : List (List R4)} {p p' : List R4} {hs0 : List Value} {hl h' : Value} {g cap n : Nat} (h : PG e er B w (.slice (some ⟨g, 0, none⟩) n cap) (ps ++ [p]) (hs0 ++ [hl])) (h1 : h'.oneCell' = true)
 (hg : w.grownBy w' hl.ownBlock) (hO : OwnR er B w' h' p') (hat : h'.ownBlock = hl.ownBlock ∨ h'.ownBlock = some w.heap.size) (hw : w2 = w'.setCell ⟨g, ps.length, none⟩ h') :
 PG e er B w2 (.slice (some ⟨g, 0, none⟩) n cap) (ps ++ [p']) (hs0 ++ [h']) := by
 have hlen : hs0.length = ps.length := by have := h.len; simpa using this
 have hps : ps.length < (ps ++ [p]).length := by simp
 have hgl : g < w.heap.size := (World.ownsRow.lt h.row g rfl).2
 have hng : hl.ownBlock = none ∨ hl.ownBlock ≠ some g := by
  have := h.off ps.length hps
  rw [getD_snoc_eq _ _ _ hlen.symm] at this; exact this
 have hng' : h'.ownBlock ≠ some g := fun e' => by
  rcases hat with h9 | h9
  ·rw [h9] at e'; rcases hng with h8 | h8
   ·rw [h8] at e'; cases e'
   ·exact h8 e'
  ·rw [h9] at e'; injection e' with e'; omega
 have hset : w'.grownBy w2 (some g) := by rw [hw]; exact set_grown w' g ps.length h'
 have keepO : ∀ {x : Value} {l : List R4}, OwnR er B w' x l → x.ownBlock ≠ some g → OwnR er B w2 x l := fun {x l} hx hne => World.ownsRow.kept hx hset (.inr hne)
 have hO2 := keepO hO hng'
 have hothers : ∀ i, i < ps.length → OwnR er B w2 (hs0.getD i undef) (ps[i]!) ∧ True := fun i hi => by
  have h3 := h.it i (by simp; omega)
  rw [getD_snoc_lt _ _ _ (by omega), List.getElem_append_left hi] at h3
  have h4 : (hs0.getD i undef).ownBlock = none ∨ (hs0.getD i undef).ownBlock ≠ hl.ownBlock := by
   have := h.apart i ps.length hi hps
   rwa [getD_snoc_lt _ _ _ (by omega), getD_snoc_eq _ _ _ hlen.symm] at this
  have h5 : (hs0.getD i undef).ownBlock = none ∨ (hs0.getD i undef).ownBlock ≠ some g := by
   have := h.off i (by simp; omega)
   rwa [getD_snoc_lt _ _ _ (by omega)] at this
  have h6 : OwnR er B w' (hs0.getD i undef) ps[i] := World.ownsRow.kept h3 hg h4
  refine ⟨?_, trivial⟩
  rw [getElem!_pos ps i hi]
  exact World.ownsRow.kept h6 hset h5
 refine ⟨by simp [hlen], ?_, fun i hi => ?_, fun i j hij hj => ?_, fun i hi => ?_⟩
 ·have hr := h.row
  rcases hr.2 with ⟨hv, _⟩ | ⟨g2, cap2, cur, hv, hB, hh, hnc, hcm, hcs, htk⟩
  ·cases hv
  ·injection hv with hv1 hv2 hv3
   injection hv1 with hv1
   injection hv1 with hv1
   subst hv1 hv3
   have hh' : w'.heap[g]? = some (.cells cur e (0, 0)) := by
    rw [hg.block g hgl (by rcases hng with h8 | h8 <;> (rw [ne_comm] <;> first | exact h8 | (rw [h8]; simp)))]; exact hh
   refine ⟨by simp [hlen], .inr ⟨g, cap, cur.setIfInBounds ps.length h', ?_, hB, ?_, by simpa using hnc, hcm, by simpa using hcs, ?_⟩⟩
   ·rw [hv2]; simp
   ·rw [hw, setCell_eq_setRow w' g ps.length cur e (0, 0) h' hh']; exact setRow_heap w' g cur _ e _ hh'
   ·have e2 : (ps ++ [p']).length * 1 = ps.length + 1 := by simp
    have e3 : (ps ++ [p]).length * 1 = ps.length + 1 := by simp
    rw [e2]
    rw [e3] at htk
    rw [Array.toList_setIfInBounds, List.take_set, htk, ← hlen, List.set_append_right _ _ (Nat.le_refl _)]
    simp
 ·rw [List.length_append] at hi
  simp only [List.length_cons, List.length_nil] at hi
  by_cases hil : i < ps.length
  ·rw [getD_snoc_lt _ _ _ (by omega), List.getElem_append_left hil]
   have := (hothers i hil).1
   rwa [getElem!_pos ps i hil] at this
  ·rw [getD_snoc_eq _ _ _ (by omega)]
   have : (ps ++ [p'])[i] = p' := by rw [List.getElem_append_right (by omega)]; simp
   rw [this]; exact hO2
 ·rw [List.length_append] at hj
  simp only [List.length_cons, List.length_nil] at hj
  by_cases hjl : j < ps.length
  ·have := h.apart i j hij (by simp; omega)
   rw [getD_snoc_lt _ _ _ (by omega), getD_snoc_lt _ _ _ (by omega)] at this ⊢; exact this
  ·have h3 := h.it i (by simp; omega)
   rw [getD_snoc_lt _ _ _ (by omega)] at h3
   have h4 : (hs0.getD i undef).ownBlock = none ∨ (hs0.getD i undef).ownBlock ≠ hl.ownBlock := by
    have := h.apart i ps.length (by omega) hps
    rwa [getD_snoc_lt _ _ _ (by omega), getD_snoc_eq _ _ _ hlen.symm] at this
   rw [getD_snoc_lt _ _ i (by omega), getD_snoc_eq _ _ j (by omega)]
   cases hq : (hs0.getD i undef).ownBlock with
   | none => exact .inl rfl
   | some g3 =>
    refine .inr fun e' => ?_
    rcases hat with h9 | h9
    ·rcases h4 with h8 | h8
     ·rw [hq] at h8; cases h8
     ·exact h8 (hq.trans (e'.trans h9))
    ·have := (own_lt h3 hq).2
     rw [h9] at e'; injection e' with e'; omega
 ·rw [List.length_append] at hi
  simp only [List.length_cons, List.length_nil] at hi
  by_cases hil : i < ps.length
  ·have := h.off i (by simp; omega)
   rw [getD_snoc_lt _ _ _ (by omega)] at this ⊢; exact this
  ·rw [getD_snoc_eq _ _ _ (by omega)]; exact .inr hng'
def PtsAt (w : World) (A : Option Addr) (ps : List (List R4)) : Prop := ps.length ≤ maxLen ∧ (0 < ps.length → ∃ b o, A = some ⟨b, o, none⟩ ∧ ∀ i (hi : i < ps.length), ∃ Ai ci, w.cell? ⟨b, o + i, none⟩ = some (.slice Ai ps[i].length ci) ∧ RowsAt w Ai ps[i])
theorem PtsAt.below {w w' : World} {A : Option Addr} {ps : List (List R4)} (h : PtsAt w A ps) (hb : Below w.heap.size w w') : PtsAt w' A ps := by
 refine ⟨h.1, fun h0 => ?_⟩
 obtain ⟨b, o, rfl, hc⟩ := h.2 h0
 refine ⟨b, o, rfl, fun i hi => ?_⟩
 obtain ⟨Ai, ci, h1, h2⟩ := hc i hi
 exact ⟨Ai, ci, (hb.cell (cell_lt h1)).trans h1, h2.below hb⟩
theorem PG.out {e er : TypeId} {B : Nat} {w : World} {v : Value} {ps : List (List R4)} {hs : List Value} (h : PG e er B w v ps hs) (hm : ps.length ≤ maxLen) (hp : ∀ p ∈ ps, p.length ≤ maxLen) : ∃ A c, v = .slice A ps.length c ∧ PtsAt w A ps := by
 rcases h.row.2 with ⟨rfl, hn⟩ | ⟨g, cap, cur, rfl, hB, hh, hnc, hcm, hcs, htk⟩
 ·exact ⟨none, 0, by rw [hn], hm, fun h0 => by omega⟩
 ·refine ⟨_, cap, rfl, hm, fun h0 => ⟨g, 0, rfl, fun i hi => ?_⟩⟩
  obtain ⟨A, c, h1, h2⟩ := (h.it i hi).out (hp _ (List.getElem_mem hi))
  refine ⟨A, c, ?_, h2⟩
  have h3 : hs[i]? = some (.slice A ps[i].length c) := by
   rw [List.getD_eq_getElem?_getD] at h1
   have hil : i < hs.length := by rw [h.len]; exact hi
   rw [List.getElem?_eq_getElem hil] at h1 ⊢
   simpa using h1
  have := World.ownsRow.cells (w := w) h.row (g := g) rfl i _ h3
  rw [addr_add] at this
  exact this
end
end Go.Proofs.YthffpbkndnhlfaaGreatDoor
namespace Go.Wk
open Go
def AllU (G : Nat → Value → Prop) (x : Nat → Value) : List Nat → Prop
 | [] => True
 | j :: js => G j (x j) ∧ AllU G x js
theorem allU_of {G : Nat → Value → Prop} {x : Nat → Value} : ∀ {js : List Nat}, (∀ j ∈ js, G j (x j)) → AllU G x js
 | [], _ => trivial
 | _ :: _, h => ⟨h _ (List.mem_cons_self ..), allU_of fun j hj => h j (List.mem_cons_of_mem _ hj)⟩
def StepU (P : Program) (ops : Array Oper) (Q : Exit → Act → World → Prop) (mk : (Nat → Value) → Act) (GU : Nat → Value → Prop) (i : Nat) : Prop :=
 ∀ x w, (∀ j ∈ afters ops i, GU j (x j)) → wpOp P ops Q i (fun a' w' => ∃ v, a' = mk (upd x i v) ∧ w' = w ∧ GU i v) (mk x) w
theorem stepU_of {P : Program} {ops : Array Oper} {Q : Exit → Act → World → Prop} {mk : (Nat → Value) → Act} {GU : Nat → Value → Prop} {i : Nat} {o : Oper} (js : List Nat)
 (ho : ops[i]? = some o) (hj : (js.all fun j => (afters ops i).contains j) = true)
 (h : ∀ x w, AllU GU x js → ∀ K : Act → World → Prop, (∀ v, GU i v → K (mk (upd x i v)) w) →
  if Region.wanted o (yielded ops (mk x).tmps) = true then Oper.wp P o (mk x) w K Q else K ((mk x).put o.dst undef) w) : StepU P ops Q mk GU i := by
 intro x w hd
 unfold wpOp
 simp only [ho]
 have h1 := h x w (allU_of fun j hj' => hd j (List.contains_iff_mem.1 (List.all_eq_true.1 hj j hj'))) (fun a' w' => ∃ v, a' = mk (upd x i v) ∧ w' = w ∧ GU i v) (fun v h => ⟨v, rfl, rfl, h⟩)
 split
 ·rename_i hw; rw [if_pos hw] at h1; exact .inl h1
 ·rename_i hw; rw [if_neg hw] at h1; obtain ⟨v, h2, h3⟩ := h1; exact ⟨v, h2, by simp, by simpa using h3⟩
section
variable {P : Program} {ops : Array Oper} {Q : Exit → Act → World → Prop}
theorem wpAny_two (mk : (Nat → Value) → Act) {R : World → Prop} {Keeps : World → World → Prop} {Good : Nat → Value → World → Prop} {F : Value → World → Prop} {GU : Nat → Value → Prop} (U : Nat → Bool) (n last : Nat) (hnl : n < last) (hlast : last < ops.size) (l : List Oper) (hll : last + l.length = ops.size) (hl : ∀ j, l[j]? = ops[last + j]?)
 (chain : ((List.range ops.size).all fun j => Nat.ble j last || (afters ops j).contains (j - 1)) = true)
 (back : ((List.range ops.size).all fun i => (afters ops i).all fun j => decide (j < i)) = true)
 (hUn : U n = false) (hbe : ∀ i, n < i → i < last → U i = true)
 (closed : ∀ i, i < last → U i = true → ∀ j ∈ afters ops i, U j = true)
 (wit : List Nat) (cover : ∀ i, i < n → U i = false → i ∈ afters ops (wit.getD i 0) ∧ wit.getD i 0 ≤ n ∧ U (wit.getD i 0) = false)
 (wit2 : List Nat) (cover2 : ∀ i, i < last → i ∈ afters ops (wit2.getD i 0) ∧ wit2.getD i 0 ≤ last)
 (nafter : ∀ j ∈ afters ops n, U j = false ∨ True)
 (mono : ∀ i v w w', U i = false → Good i v w → Keeps w w' → Good i v w')
 (step : ∀ i, i < n → U i = false → ∀ x w, R w → (∀ j ∈ afters ops i, U j = false → Good j (x j) w) → (∀ j ∈ afters ops i, U j = true → GU j (x j)) → wpOp P ops Q i (fun a' w' => ∃ v, a' = mk (upd x i v) ∧ R w' ∧ Keeps w w' ∧ Good i v w') (mk x) w)
 (stepU : ∀ i, i < last → U i = true → StepU P ops Q mk GU i)
 (stepN : ∀ x w, R w → (∀ i, i < n → U i = false → Good i (x i) w) → (∀ j ∈ afters ops n, U j = true → GU j (x j)) → wpOp P ops Q n (fun a' w' => ∃ v, a' = mk (upd x n v) ∧ F v w') (mk x) w)
 (fin : ∀ x w, F (x n) w → (∀ i, i < last → U i = true → GU i (x i)) → wpList P ops Q l (mk x) w) :
 ∀ (fuel : Nat) (listed : Array Bool) (x : Nat → Value) (w : World), listed.toList.count false ≤ fuel → listed.size = ops.size → (∀ j, last ≤ j → j < ops.size → listed.getD j false = false) →
  (∀ i, i < ops.size → listed.getD i false = true → ∀ j ∈ afters ops i, listed.getD j false = true) → (∀ i, i < last → U i = true → listed.getD i false = true → GU i (x i)) →
  ((listed.getD n false = false ∧ R w ∧ (∀ i, i < n → U i = false → listed.getD i false = true → Good i (x i) w)) ∨ ((∀ i, i < last → U i = false → listed.getD i false = true) ∧ F (x n) w)) → wpAny P .any ops Q fuel listed (mk x) w := by
 intro fuel
 induction fuel with
 | zero =>
  intro listed x w hc hs hl0 hd hgu hph
  exact (count_none (i := last) (by omega) (hl0 last (Nat.le_refl _) hlast) hc).elim
 | succ fuel ih =>
  intro listed x w hc hs hl0 hd hgu hph
  refine ⟨fun hr => absurd (all_listed back hs hr last (by omega)) (by rw [hl0 last (Nat.le_refl _) hlast]; simp), fun i hi => ?_⟩
  have hi0 := hi
  obtain ⟨hi', h1, haft⟩ := ready_after hi
  have hd' : ∀ k, k < ops.size → (listed.setIfInBounds i true).getD k false = true → ∀ j ∈ afters ops k, (listed.setIfInBounds i true).getD j false = true := by
   intro k hk hkl j hj
   rw [getD_set _ _ _ _ (by omega)] at hkl ⊢
   by_cases hji : j = i
   ·rw [if_pos hji]
   ·rw [if_neg hji]
    by_cases hki : k = i
    ·subst hki; exact haft j hj
    ·rw [if_neg hki] at hkl; exact hd k hk hkl j hj
  have hcu := count_up (fuel := fuel) (by omega) h1 hc
  by_cases hil : i = last
  ·subst hil
   -- all others are done
   have hothers : ∀ m k, k < i → i ≤ k + m → listed.getD k false = true := by
    intro m
    induction m with
    | zero => intro k hk hm; omega
    | succ m ihm =>
     intro k hk hm
     obtain ⟨hjk, hjn⟩ := cover2 k hk
     obtain ⟨j, hjj⟩ : ∃ j, j = wit2.getD k 0 := ⟨_, rfl⟩
     rw [← hjj] at hjk hjn
     have hlt := afters_lt (n := 0) back j k (by omega) hjk
     by_cases hji : j = i
     ·subst hji; exact haft k hjk
     ·exact hd j (by omega) (ihm j (by omega) (by omega)) k hjk
   rcases hph with ⟨hn0, _⟩ | ⟨hnu, hF⟩
   ·rw [hothers i n hnl (by omega)] at hn0; cases hn0
   ·have htail := fin x w hF fun k hk hu => hgu k hk hu (hothers i k hk (by omega))
    have hiff : ∀ q, q < ops.size → (listed.getD q false = true ↔ q < i) := fun q hq => by
     constructor
     ·intro h
      rcases Nat.lt_or_ge q i with h' | h'
      ·exact h'
      ·rw [hl0 q h' hq] at h; cases h
     ·exact fun h => hothers i q h (by omega)
    have hfin := wpAny_tail (P := P) (Q := Q) i back chain l i (fuel + 1) listed (mk x) w (Nat.le_refl _) hll hl hs hc hiff htail
    exact hfin.2 i hi0
  ·have hill : i < last := by
    rcases Nat.lt_or_ge i last with h | h
    ·exact h
    ·exfalso
     have hch := List.all_eq_true.1 chain i (List.mem_range.2 hi')
     rw [Bool.or_eq_true] at hch
     rcases hch with hch | hch
     ·have := Nat.le_of_ble_eq_true hch; omega
     ·have := haft _ (List.contains_iff_mem.1 hch)
      rw [hl0 (i - 1) (by omega) (by omega)] at this; cases this
   have hl0' : ∀ j, last ≤ j → j < ops.size → (listed.setIfInBounds i true).getD j false = false := fun j hj hj2 => by rw [getD_set _ _ _ _ (by omega), if_neg (by omega)]; exact hl0 j hj hj2
   by_cases hui : U i = true
   ·refine wpOp_mono ?_ (stepU i hill hui x w fun j hj => hgu j (by have := afters_lt (n := 0) back i j hi' hj; omega) (closed i hill hui j hj) (haft j hj))
    rintro a' w' ⟨v, rfl, rfl, hg⟩
    refine ih _ _ _ hcu (by simpa using hs) hl0' hd' ?_ ?_
    ·intro j hj hju hjl
     rw [getD_set _ _ _ _ (by omega)] at hjl
     unfold upd
     by_cases hji : j = i
     ·subst hji; simpa using hg
     ·rw [if_neg hji] at hjl ⊢
      exact hgu j hj hju hjl
    ·rcases hph with ⟨hn0, hR, hG⟩ | ⟨hnu, hF⟩
     ·have hni : n ≠ i := fun e => by rw [← e, hUn] at hui; cases hui
      refine .inl ⟨by rw [getD_set _ _ _ _ (by omega), if_neg hni]; exact hn0, hR, fun j hj hju hjl => ?_⟩
      have hji : j ≠ i := fun e => by rw [e, hui] at hju; cases hju
      rw [getD_set _ _ _ _ (by omega), if_neg hji] at hjl
      unfold upd; rw [if_neg hji]; exact hG j hj hju hjl
     ·have hni : n ≠ i := fun e => by rw [← e, hUn] at hui; cases hui
      refine .inr ⟨fun j hj hju => ?_, by unfold upd; rw [if_neg hni]; exact hF⟩
      have hji : j ≠ i := fun e => by rw [e, hui] at hju; cases hju
      rw [getD_set _ _ _ _ (by omega), if_neg hji]; exact hnu j hj hju
   ·have hui : U i = false := by simpa using hui
    rcases hph with ⟨hn0, hR, hG⟩ | ⟨hnu, hF⟩
    ·have hin : i ≤ n := by
      rcases Nat.lt_or_ge n i with h | h
      ·rw [hbe i h hill] at hui; cases hui
      ·exact h
     by_cases hni : i = n
     ·subst hni
      have hothers : ∀ m k, k < i → i ≤ k + m → U k = false → listed.getD k false = true := by
       intro m
       induction m with
       | zero => intro k hk hm; omega
       | succ m ihm =>
        intro k hk hm hku
        obtain ⟨hjk, hjn, hju⟩ := cover k hk hku
        obtain ⟨j, hjj⟩ : ∃ j, j = wit.getD k 0 := ⟨_, rfl⟩
        rw [← hjj] at hjk hjn hju
        have hlt := afters_lt (n := 0) back j k (by omega) hjk
        by_cases hji : j = i
        ·subst hji; exact haft k hjk
        ·exact hd j (by omega) (ihm j (by omega) (by omega) hju) k hjk
      refine wpOp_mono ?_ (stepN x w hR (fun k hk hku => hG k hk hku (hothers i k hk (by omega) hku)) (fun j hj hju => hgu j (by have := afters_lt (n := 0) back i j hi' hj; omega) hju (haft j hj)))
      rintro a' w' ⟨v, rfl, hF⟩
      refine ih _ _ _ hcu (by simpa using hs) hl0' hd' ?_ (.inr ⟨fun j hj hju => ?_, by unfold upd; simpa using hF⟩)
      ·intro j hj hju hjl
       have hji : j ≠ i := fun e => by rw [e, hui] at hju; cases hju
       rw [getD_set _ _ _ _ (by omega), if_neg hji] at hjl
       unfold upd; rw [if_neg hji]; exact hgu j hj hju hjl
      ·rw [getD_set _ _ _ _ (by omega)]
       by_cases hji : j = i
       ·rw [if_pos hji]
       ·rw [if_neg hji]
        rcases Nat.lt_or_ge j i with h | h
        ·exact hothers i j h (by omega) hju
        ·rw [hbe j (by omega) hj] at hju; cases hju
     ·refine wpOp_mono ?_ (step i (by omega) hui x w hR (fun j hj hju => hG j (by have := afters_lt (n := 0) back i j hi' hj; omega) hju (haft j hj)) (fun j hj hju => hgu j (by have := afters_lt (n := 0) back i j hi' hj; omega) hju (haft j hj)))
      rintro a' w' ⟨v, rfl, hR', hK, hg⟩
      refine ih _ _ _ hcu (by simpa using hs) hl0' hd' ?_ (.inl ⟨by rw [getD_set _ _ _ _ (by omega), if_neg (fun e => hni e.symm)]; exact hn0, hR', fun j hj hju hjl => ?_⟩)
      ·intro j hj hju hjl
       have hji : j ≠ i := fun e => by rw [e, hui] at hju; cases hju
       rw [getD_set _ _ _ _ (by omega), if_neg hji] at hjl
       unfold upd; rw [if_neg hji]; exact hgu j hj hju hjl
      ·rw [getD_set _ _ _ _ (by omega)] at hjl
       unfold upd
       by_cases hji : j = i
       ·subst hji; simpa using hg
       ·rw [if_neg hji] at hjl ⊢
        exact mono _ _ _ _ hju (hG j hj hju hjl) hK
    ·have := hnu i hill hui
     have hil2 : i < listed.size := by omega
     simp only [Array.getD_eq_getD_getElem?, Array.getElem?_eq_getElem hil2, Option.getD_some] at h1 this
     rw [h1] at this; cases this
end
theorem wp_lin_two {P : Program} {ops : Array Oper} {Q : Exit → Act → World → Prop} {id : Nat} {tm : List Value} {df : List Deferred} {w0 : World} (hm : P.follows .mixedOrders = true) (ss : List (Option Nat))
 (R : World → Prop) (Keeps : World → World → Prop) (G : Nat → Value → World → Prop) (F : Value → World → Prop) (GU : Nat → Value → Prop) (U : Nat → Bool)
 (h0 : fillL tm ss (oldX tm ss) = tm)
 (back : ((List.range ops.size).all fun i => (afters ops i).all fun j => decide (j < i)) = true)
 (n last : Nat) (on : Oper) (l : List Oper) (hdr : ops.toList.drop last = l) (hon : ops[n]? = some on) (hnl : n < last) (hls : last < ops.size)
 (chain : ((List.range ops.size).all fun j => Nat.ble j last || (afters ops j).contains (j - 1)) = true)
 (hU : (!U n && ((List.range last).all fun i => (Nat.ble i n || U i) && (!U i || (afters ops i).all U))) = true)
 (wit : List Nat) (cover : ((List.range n).all fun i => U i || ((afters ops (wit.getD i 0)).contains i && Nat.ble (wit.getD i 0) n && !U (wit.getD i 0))) = true)
 (wit2 : List Nat) (cover2 : ((List.range last).all fun i => (afters ops (wit2.getD i 0)).contains i && Nat.ble (wit2.getD i 0) last) = true)
 (hR : R w0.drew)
 (mono : ∀ i v w w', G i v w → Keeps w w' → G i v w')
 (step : Steps (fun i => i = n ∨ (U i = true ∧ StepU P ops Q (fun x => { tmps := (fillL tm ss x).toArray, defers := df }) GU i) ∨ (U i = false ∧ Step P ops Q (fun x => { tmps := (fillL tm ss x).toArray, defers := df }) R Keeps (fun j v w => if U j = true then GU j v else G j v w) i)) last)
 (stepN : ∀ x w, R w → (∀ i, i < n → U i = false → G i (x i) w) → (∀ j ∈ afters ops n, U j = true → GU j (x j)) → ∀ K : Act → World → Prop, (∀ v w', F v w' → K { tmps := (fillL tm ss (upd x n v)).toArray, defers := df } w') →
  ∀ fr, fr = fillL tm ss x → if Region.wanted on (yielded ops fr.toArray) = true then Oper.wp P on { tmps := fr.toArray, defers := df } w K Q else K (({ tmps := fr.toArray, defers := df } : Act).put on.dst undef) w)
 (done : ∀ x w, F (x n) w → (∀ i, i < last → U i = true → GU i (x i)) → ∀ fr, fr = fillL tm ss x → wpList P ops Q l { tmps := fr.toArray, defers := df } w) :
 (Code.region id ops true).wp P Q { tmps := tm.toArray, defers := df } w0 := by
 have e0 : ({ tmps := tm.toArray, defers := df } : Act) = (fun x => ({ tmps := (fillL tm ss x).toArray, defers := df } : Act)) (oldX tm ss) := by simp only [h0]
 rw [e0]
 rw [Bool.and_eq_true] at hU
 have hU2 : ∀ i, i < last → (i ≤ n ∨ U i = true) ∧ (U i = true → ∀ j ∈ afters ops i, U j = true) := fun i hi => by
  have := List.all_eq_true.1 hU.2 i (List.mem_range.2 hi)
  rw [Bool.and_eq_true, Bool.or_eq_true, Bool.or_eq_true] at this
  refine ⟨this.1.imp Nat.le_of_ble_eq_true fun h => h, fun hu j hj => ?_⟩
  rcases this.2 with h | h
  ·rw [hu] at h; cases h
  ·exact List.all_eq_true.1 h j hj
 have hst := fun i hi => each_all step.each i hi
 refine wp_region_any hm (wpAny_two (R := R) (Keeps := Keeps) (Good := G) (F := F) (GU := GU) (mk := fun x => { tmps := (fillL tm ss x).toArray, defers := df }) U n last hnl hls l (by rw [← hdr]; simp; omega) (fun j => by rw [← hdr, List.getElem?_drop]; simp) chain back (by simpa using hU.1) (fun i h1 h2 => ((hU2 i h2).1).elim (fun h => by omega) fun h => h) (fun i hi hu => (hU2 i hi).2 hu)
  wit (fun i hi hu => by
   have := List.all_eq_true.1 cover i (List.mem_range.2 hi)
   rw [hu, Bool.false_or, Bool.and_eq_true, Bool.and_eq_true] at this
   exact ⟨List.contains_iff_mem.1 this.1.1, Nat.le_of_ble_eq_true this.1.2, by simpa using this.2⟩)
  wit2 (fun i hi => by
   have := List.all_eq_true.1 cover2 i (List.mem_range.2 hi)
   rw [Bool.and_eq_true] at this
   exact ⟨List.contains_iff_mem.1 this.1, Nat.le_of_ble_eq_true this.2⟩)
  (fun _ _ => .inr trivial) (fun i v w w' _ => mono i v w w')
  (fun i hi hu x w hR hg hgu => by
   rcases hst i (by omega) with rfl | ⟨h, _⟩ | ⟨_, h⟩
   ·omega
   ·rw [hu] at h; cases h
   ·refine wpOp_mono ?_ (h x w hR fun j hj => ?_)
    ·rintro a' w' ⟨v, h1, h2, h3, h4⟩
     refine ⟨v, h1, h2, h3, ?_⟩
     rw [if_neg (by rw [hu]; simp)] at h4; exact h4
    ·cases hq : U j with
     | true => rw [if_pos hq]; exact hgu j hj hq
     | false => rw [if_neg (by rw [hq]; simp)]; exact hg j hj hq)
  (fun i hi hu => by
   rcases hst i hi with rfl | ⟨_, h⟩ | ⟨h, _⟩
   ·simp [hu] at hU
   ·exact h
   ·rw [hu] at h; cases h)
  (fun x w hR hg hgu => by
   have h1 := stepN x w hR hg hgu (fun a' w' => ∃ v, a' = ({ tmps := (fillL tm ss (upd x n v)).toArray, defers := df } : Act) ∧ F v w') (fun v w' h => ⟨v, rfl, h⟩) _ rfl
   unfold wpOp
   simp only [hon]
   split
   ·rename_i hw; rw [if_pos hw] at h1; exact .inl h1
   ·rename_i hw; rw [if_neg hw] at h1; exact h1)
  (fun x w hF hu => done x w hF hu _ rfl) _ _ _ _ ?_ (by simp) ?_ ?_ ?_ (.inl ⟨?_, hR, ?_⟩))
 ·simp
 ·intro j _ hj
  simp [Array.getD_eq_getD_getElem?, hj]
 ·intro i hi hl
  simp [Array.getD_eq_getD_getElem?, hi] at hl
 ·intro i hi _ hl
  have : i < ops.size := by omega
  simp [Array.getD_eq_getD_getElem?, this] at hl
 ·have : n < ops.size := by omega
  simp [Array.getD_eq_getD_getElem?, this]
 ·intro i hi _ hl
  have : i < ops.size := by omega
  simp [Array.getD_eq_getD_getElem?, this] at hl
end Go.Wk
namespace Go.Proofs.YthffpbkndnhlfaaGreatDoor
open Go Go.RowKit Go.Wk
def r0 : R4 := ⟨0, 0, 0, 0⟩
def newP (l : List R4) (k : Nat) : Bool := k == 0 || (l.getD k r0).n != (l.getD (k - 1) r0).n + 1
def partsK (l : List R4) : Nat → List (List R4)
 | 0 => []
 | k + 1 => if newP l k = true then partsK l k ++ [[l.getD k r0]] else (partsK l k).dropLast ++ [(partsK l k).getLastD [] ++ [l.getD k r0]]
def risesK (l : List R4) : Nat → Bool
 | 0 => true
 | k + 1 => risesK l k && (k == 0 || decide ((l.getD (k - 1) r0).n < (l.getD k r0).n))
theorem parts_new {l : List R4} {k : Nat} (h : newP l k = true) : partsK l (k + 1) = partsK l k ++ [[] ++ [l.getD k r0]] := by
 show (if newP l k = true then _ else _) = _
 rw [if_pos h]; rfl
theorem parts_old {l : List R4} {k : Nat} {ps : List (List R4)} {p : List R4} (h : newP l k = false) (e : partsK l k = ps ++ [p]) : partsK l (k + 1) = ps ++ [p ++ [l.getD k r0]] := by
 show (if newP l k = true then _ else _) = _
 rw [if_neg (by rw [h]; simp), e]; simp
theorem parts_last (l : List R4) : ∀ k, 0 < k → ∃ ps p, partsK l k = ps ++ [p]
 | 0, h => by omega
 | k + 1, _ => by
  show ∃ ps p, (if newP l k = true then _ else _) = _
  split
  ·exact ⟨_, _, rfl⟩
  ·exact ⟨_, _, rfl⟩
theorem parts_len (l : List R4) : ∀ k, (partsK l k).length ≤ k
 | 0 => Nat.le_refl _
 | k + 1 => by
  have ih := parts_len l k
  show (if newP l k = true then _ else _ : List (List R4)).length ≤ k + 1
  split
  ·simp; omega
  ·simp; omega
theorem part_len (l : List R4) : ∀ k, ∀ p ∈ partsK l k, p.length ≤ k ∧ 0 < p.length
 | 0 => by simp [partsK]
 | k + 1 => by
  have ih := part_len l k
  intro p hp
  have hp : p ∈ (if newP l k = true then partsK l k ++ [[l.getD k r0]] else (partsK l k).dropLast ++ [(partsK l k).getLastD [] ++ [l.getD k r0]]) := hp
  split at hp
  ·rcases List.mem_append.1 hp with h | h
   ·have := ih p h; omega
   ·simp at h; subst h; simp
  ·rcases List.mem_append.1 hp with h | h
   ·have := ih p ((List.dropLast_sublist _).subset h); omega
   ·simp at h; subst h
    have hq : ((partsK l k).getLast?.getD []).length ≤ k := by
     cases hl : (partsK l k).getLast? with
     | none => simp
     | some q => exact (ih q (List.mem_of_getLast? hl)).1
    simp; omega
theorem rises_false {l : List R4} : ∀ {k m : Nat}, k ≤ m → risesK l k = false → risesK l m = false
 | k, 0, h, e => by obtain rfl : k = 0 := by omega
                    exact e
 | k, m + 1, h, e => by
  by_cases hk : k = m + 1
  ·subst hk; exact e
  ·show (risesK l m && _) = false
   rw [rises_false (by omega) e]; rfl
theorem drewN_below (w : World) (n : Nat) : Below w.heap.size w (w.drewN n) := ⟨rfl, rfl, rfl, Nat.le_refl _, fun _ _ => rfl⟩
def UP (i : Nat) : Bool := !(i == 9 || i == 10 || i == 11 || i == 12)
def GUP (g N psl cap : Nat) : Nat → Value → Prop := fun j v => match j with
 | 0 | 1 | 4 | 5 => v = .slice (some ⟨g, 0, none⟩) N cap
 | 2 | 6 => v = .int .i64 N
 | 3 | 7 => v = .int .i64 psl
 | _ => v = .pointer (some ⟨g, psl, none⟩)
def GP (hl : Value) (agr : Value) (r : R4) : Nat → Value → World → Prop := fun j v w => match j with
 | 9 => v = hl
 | 10 => v = agr
 | _ => ∃ gb, v = .slice (some ⟨gb, 0, none⟩) 1 1 ∧ w.cell? ⟨gb, 0, none⟩ = some (.int .i64 r.n) ∧ w.cell? ⟨gb, 1, none⟩ = some (.int .i64 r.k) ∧ w.cell? ⟨gb, 2, none⟩ = some (.int .i64 r.a) ∧ w.cell? ⟨gb, 3, none⟩ = some (.int .i64 r.g)
theorem GP_mono {hl agr : Value} {r : R4} (j : Nat) (v : Value) (w w' : World) (hG : GP hl agr r j v w) (hk : Below w.heap.size w w') : GP hl agr r j v w' := by
 unfold GP at hG ⊢
 split at hG <;> first
  | exact hG
  | (obtain ⟨g, e, hc⟩ := hG; exact ⟨g, e, four_kept hc hk⟩)
def FP (w : World) (l : List R4) (k g N psl cap : Nat) (v7 : Value) (w7 : World) : Prop := (∃ A7 n7 c7, v7 = .slice A7 n7 c7) ∧ (∃ hl9, w7.cell? ⟨g, psl, none⟩ = some hl9) ∧ w7.frozen? ⟨g, psl, none⟩ = false ∧ (∃ hs, PG 28 64 w.heap.size (w7.setCell ⟨g, psl, none⟩ v7) (.slice (some ⟨g, 0, none⟩) N cap) (partsK l (k + 1)) hs) ∧ Below w.heap.size w (w7.setCell ⟨g, psl, none⟩ v7)
theorem wp_app_r {t e : TypeId} (T : RT t e) {w : World} {o : Oper} {a : Act} {K : Act → World → Prop} {Q : Exit → Act → World → Prop} (s x : Operand)
 (ho : o.op = .call { callee := .builtin .append, args := #[s, x], argTypes := #[t, t] }) (B : Nat) (v : Value) (l : List R4) (hs : a.eval s = v) (hR : OwnR e B w v l)
 (g : Nat) (r : R4) (hx : a.eval x = .slice (some ⟨g, 0, none⟩) 1 1) (hc : ∀ j u, (rv r)[j]? = some u → w.cell? ⟨g, j, none⟩ = some u) (hl : l.length ≤ 1000000000) (hB : B ≤ w.heap.size)
 (h : ∀ v' w', OwnR e B w' v' (l ++ [r]) → w.grownBy w' v.ownBlock → (v'.ownBlock = v.ownBlock ∨ v'.ownBlock = some w.heap.size) → K (a.put o.dst v') w') : Oper.wp Tryz.prog o a w K Q := by
 obtain ⟨i0, hi0, hz0, hz1, hz2⟩ := T.i
 obtain ⟨v', w', hr, h2, h3, h4, h5⟩ := run_append_own_at (P := Tryz.prog) w B t o.type e i0 _ 4 32 T.u hi0 hz0 hz1 hz2 rfl (by decide) v l.length (l.map rv).flatten hR ⟨g, 0, none⟩ 1 1 (rv r) rfl (fun j u hu => by rw [addr_add, Nat.zero_add]; exact hc j u hu) (rv_one r) (by unfold maxLen; omega) (by omega) hB
 unfold Oper.wp execOp
 simp only [ho, resolve, invoke, builtin, Sem.run_bind, Sem.run_pure, Result.andThen_ok, List.map_toArray, List.map_cons, List.map_nil, hs, hx, hr]
 refine h v' w' ?_ h3 h5
 unfold OwnR
 rw [List.length_append, List.map_append, List.flatten_append]
 simpa using h2
theorem four_of {w : World} {g : Nat} {r : R4} (h : w.cell? ⟨g, 0, none⟩ = some (.int .i64 r.n) ∧ w.cell? ⟨g, 1, none⟩ = some (.int .i64 r.k) ∧ w.cell? ⟨g, 2, none⟩ = some (.int .i64 r.a) ∧ w.cell? ⟨g, 3, none⟩ = some (.int .i64 r.g)) : ∀ j u, (rv r)[j]? = some u → w.cell? ⟨g, j, none⟩ = some u := by
 intro j u hu
 match j with
 | 0 => rw [← hu]; exact h.1
 | 1 => rw [← hu]; exact h.2.1
 | 2 => rw [← hu]; exact h.2.2.1
 | 3 => rw [← hu]; exact h.2.2.2
 | j + 4 => cases hu
theorem slice_is {e : TypeId} {B : Nat} {w : World} {v : Value} {l : List R4} (h : OwnR e B w v l) : ∃ A7 n7 c7, v = .slice A7 n7 c7 := by
 rcases h.2 with ⟨rfl, _⟩ | ⟨g, cap, cur, rfl, _⟩
 ·exact ⟨_, _, _, rfl⟩
 ·exact ⟨_, _, _, rfl⟩
theorem slice_one {e : TypeId} {B : Nat} {w : World} {v : Value} {l : List R4} (h : OwnR e B w v l) : v.oneCell' = true := by
 rcases h.2 with ⟨rfl, _⟩ | ⟨g, cap, cur, rfl, _⟩ <;> rfl
theorem info28 : ∃ i, Tryz.prog.info? 28 = some i ∧ i.zero = some (.slice none 0 0) ∧ i.size = 1 ∧ i.bytes = 24 := ⟨Tryz.t28, by kernel_rfl, by kernel_rfl, by kernel_rfl, by kernel_rfl⟩
theorem app_nil {t e er : TypeId} (hu : Tryz.prog.underlying t = some (.slice e)) (hi : ∃ i, Tryz.prog.info? e = some i ∧ i.zero = some (.slice none 0 0) ∧ i.size = 1 ∧ i.bytes = 24) {w : World} {ops : Array Oper} {rest : List Oper} {o : Oper} {a : Act} {Q : Exit → Act → World → Prop} (hgd : o.guard = none) (s x : Operand)
 (ho : o.op = .call { callee := .builtin .append, args := #[s, x], argTypes := #[t, t] }) (B : Nat) (v : Value) (ps : List (List R4)) (hs : List Value) (hv : a.eval s = v) (hP : PG e er B w v ps hs)
 (g : Nat) (hx : a.eval x = .slice (some ⟨g, 0, none⟩) 1 1) (hc : w.cell? ⟨g, 0, none⟩ = some (.slice none 0 0)) (hl : ps.length ≤ 1000000000) (hB : B ≤ w.heap.size)
 (h : ∀ v' w', PG e er B w' v' (ps ++ [[]]) (hs ++ [.slice none 0 0]) → Below B w w' → w.grownBy w' v.ownBlock → wpList Tryz.prog ops Q rest (a.put o.dst v') w') : wpList Tryz.prog ops Q (o :: rest) a w := by
 obtain ⟨i0, hi0, hz0, hz1, hz2⟩ := hi
 refine wpList_append_own_at w hgd s x t ho B e i0 _ 1 24 hu hi0 hz0 hz1 hz2 rfl (by decide) v ps.length hs hv hP.row ⟨g, 0, none⟩ 1 1 [.slice none 0 0] hx rfl ?_ (by simp [Value.oneCell']) (by unfold maxLen; omega) (by omega) hB ?_
 ·intro j u hu; rw [addr_add, Nat.zero_add]
  match j with
  | 0 => rw [← hu]; exact hc
  | j + 1 => cases hu
 ·intro v' w' h1 h2 _ h3
  exact h v' w' (hP.more h1 h2 h3) ((Below.refl _ _ |>.mono hB).grown h2 hB fun k hk => (World.ownsRow.lt hP.row k hk).1) h2
theorem tab_Parts (A : Option Addr) (c : Nat) (l : List R4) (w : World) (h : RowsAt w A l) (hl : l.length ≤ 1000000) (hn : ∀ r ∈ l, 0 ≤ r.n ∧ r.n ≤ 8388607) : Calls Tryz.prog 41 #[.slice A l.length c] w fun e w' => Below w.heap.size w w' ∧ ((risesK l l.length = true ∧ ∃ A' c', e = .returned (.tuple #[.slice A' (partsK l l.length).length c', .bool true]) ∧ PtsAt w' A' (partsK l l.length)) ∨ (risesK l l.length = false ∧ e = .returned (.tuple #[.slice none 0 0, .bool false]))) := by
 obtain ⟨m, hm⟩ : ∃ m, m = l.length := ⟨_, rfl⟩
 rw [← hm] at hl ⊢
 obtain ⟨Po, hPo⟩ : ∃ Po : World → Ending → Prop, Po = fun w' e => Below w.heap.size w w' ∧ ((risesK l m = true ∧ ∃ A' c', e = .returned (.tuple #[.slice A' (partsK l m).length c', .bool true]) ∧ PtsAt w' A' (partsK l m)) ∨ (risesK l m = false ∧ e = .returned (.tuple #[.slice none 0 0, .bool false]))) := ⟨_, rfl⟩
 have hp1 : ∀ w' e, Below w.heap.size w w' → risesK l m = false → e = .returned (.tuple #[.slice none 0 0, .bool false]) → Po w' e := fun w' e h1 h2 h3 => by rw [hPo]; exact ⟨h1, .inr ⟨h2, h3⟩⟩
 have hp2 : ∀ w' v, Below w.heap.size w w' → risesK l m = true → (∃ hs, PG 28 64 w.heap.size w' v (partsK l m) hs) → Po w' (.returned (.tuple #[v, .bool true])) := fun w' v h1 h2 ⟨hs, h3⟩ => by
  have h4 := parts_len l m
  obtain ⟨A', c', rfl, h5⟩ := h3.out (by unfold maxLen; omega) (fun p hp => by have := part_len l m p hp; unfold maxLen; omega)
  rw [hPo]; exact ⟨h1, .inl ⟨h2, A', c', rfl, h5⟩⟩
 show Calls Tryz.prog 41 #[.slice A m c] w fun e w' => (fun w' e => Below w.heap.size w w' ∧ ((risesK l m = true ∧ ∃ A' c', e = .returned (.tuple #[.slice A' (partsK l m).length c', .bool true]) ∧ PtsAt w' A' (partsK l m)) ∨ (risesK l m = false ∧ e = .returned (.tuple #[.slice none 0 0, .bool false])))) w' e
 rw [← hPo]
 clear hPo
 refine h5_ hm h hn hp1 hp2 ?_; clear hm h hn hp1 hp2; intro hm h hn hp1 hp2
 go_enter Tryz.func41, Tryz.ntmps41
 go_wp2
 go_loopw [4, 9] (fun s4 s9 wr => ∃ k : Nat, k ≤ m ∧ s9 = .int .i64 k ∧ (∃ hs, PG 28 64 w.heap.size wr s4 (partsK l k) hs) ∧ risesK l k = true ∧ Below w.heap.size w wr) (fun _ s9 _ => m - (RowKit.intOf s9).toNat)
 case atStart => exact ⟨0, by omega, rfl, ⟨[], PG.nil _ _ _ _⟩, rfl, Below.refl _ _⟩
 case round =>
  rename_i wr
  obtain ⟨k, hk, rfl, ⟨hs, hP⟩, hrk, hB⟩ := hrel
  have lB := hB.size
  by_cases hkm : k < m
  case neg =>
   obtain rfl : k = m := by omega
   refine h3_ hP hrk hB ?_; clear hP hrk hB; intro hP hrk hB
   go_wp2
   exact hp2.out _ _ hB.out hrk.out ⟨hs, hP.out⟩
  have hkl : k < l.length := by rw [← hm.out]; exact hkm
  obtain ⟨b, o, rfl, hc⟩ := h.out.2 (by omega)
  have hc4 := hc k hkl
  obtain ⟨r, hr⟩ : ∃ r, r = l[k] := ⟨_, rfl⟩
  have hgr : l.getD k r0 = r := by rw [hr, List.getD_eq_getElem?_getD, List.getElem?_eq_getElem hkl]; rfl
  have hrn := hn.out r (by rw [hr]; exact List.getElem_mem hkl)
  rw [← hr] at hc4
  have y0 := (hB.cell (cell_lt (hc4 0 _ rfl))).trans (hc4 0 _ rfl)
  have y1 := (hB.cell (cell_lt (hc4 1 _ rfl))).trans (hc4 1 _ rfl)
  have y2 := (hB.cell (cell_lt (hc4 2 _ rfl))).trans (hc4 2 _ rfl)
  have y3 := (hB.cell (cell_lt (hc4 3 _ rfl))).trans (hc4 3 _ rfl)
  simp only [Nat.add_zero] at y0
  obtain ⟨P, hP0⟩ : ∃ P, P = o + k * 4 := ⟨_, rfl⟩
  have hP2 : o + k * 4 = P := hP0.symm
  rw [hP2] at y0 y1 y2 y3
  replace hP0 := hi_ hP0
  have hprev : 0 < k → ∃ (q : Nat) (p : R4), q + 1 = k ∧ l.getD (k - 1) r0 = p ∧ (0 ≤ p.n ∧ p.n ≤ 8388607) ∧ wr.cell? ⟨b, o + q * 4, none⟩ = some (.int .i64 p.n) := fun h0 => by
   have hql : k - 1 < l.length := by omega
   refine ⟨k - 1, l[k - 1], by omega, by rw [List.getD_eq_getElem?_getD, List.getElem?_eq_getElem hql]; rfl, hn.out _ (List.getElem_mem hql), ?_⟩
   have h9 := hc (k - 1) hql 0 _ rfl
   exact (hB.cell (cell_lt h9)).trans h9
  clear hc hc4
  replace hr := hi_ hr
  obtain ⟨W1, hW1, hb1⟩ := newA wr 64 #[.int .i64 r.n, .int .i64 r.k, .int .i64 r.a, .int .i64 r.g]
  have hD1 := bthen hB hb1
  have hP1 := hP.below hb1
  obtain ⟨c0, c1, c2, c3⟩ := four_cells hW1
  have cs := four_cells hW1
  have hprev1 : 0 < k → ∃ (q : Nat) (p : R4), q + 1 = k ∧ l.getD (k - 1) r0 = p ∧ (0 ≤ p.n ∧ p.n ≤ 8388607) ∧ W1.cell? ⟨b, o + q * 4, none⟩ = some (.int .i64 p.n) := fun h0 => by
   obtain ⟨q, p, h1, h2, h3, h4⟩ := hprev h0
   exact ⟨q, p, h1, h2, h3, (hb1.cell (cell_lt h4)).trans h4⟩
  replace hprev1 := hi_ hprev1
  clear hprev
  refine h8_ hP hP1 hB hb1 hD1 hgr hrk cs ?_; clear hP hP1 hB hb1 hD1 hgr hrk cs; intro hP hP1 hB hb1 hD1 hgr hrk cs
  go_upto_region 5 with (fail)
  rw [← hW1]
  replace hW1 := hi_ hW1
  clear y0 y1 y2 y3 hP2
  by_cases hk0 : k = 0
  ·have d0 : decide ((0 : Int) < (k : Int)) = false := decide_eq_false (by omega)
   have e0 : ((k : Int) == 0) = true := by rw [hk0]; rfl
   have hnew : newP l k = true := by rw [hk0]; rfl
   have hrk1 : risesK l (k + 1) = true := by
    show (risesK l k && _) = true
    rw [hrk.out, hk0]; rfl
   replace hnew := hi_ hnew
   replace hrk1 := hi_ hrk1
   go_quiet (fail)
   obtain ⟨W2, hW2⟩ : ∃ W, W = W1.drewN nq := ⟨_, rfl⟩
   rw [← hW2]
   have hb2 : Below W1.heap.size W1 W2 := by rw [hW2]; exact drewN_below _ _
   have hD2 := bthen hD1.out hb2
   have cs2 := four_kept cs.out hb2
   clear c0 c1 c2 c3
   obtain ⟨c0, c1, c2, c3⟩ := id cs2
   have hP2 := hP1.out.below hb2
   refine h5_ hW2 hD2 cs2 hP2 hb2 ?_; clear hW2 hD2 cs2 hP2 hb2; intro hW2 hD2 cs2 hP2 hb2
   go_upto_region 7 with (fail)
   go_quiet (fail)
   obtain ⟨W3, hW3⟩ : ∃ W, W = W2.drewN nq := ⟨_, rfl⟩
   rw [← hW3]
   have hb3 : Below W2.heap.size W2 W3 := by rw [hW3]; exact drewN_below _ _
   have hD3 := bthen hD2.out hb3
   have cs3 := four_kept cs2.out hb3
   clear c0 c1 c2 c3
   obtain ⟨c0, c1, c2, c3⟩ := id cs3
   have hP3 := hP2.out.below hb3
   refine h5_ hW3 hD3 cs3 hP3 hb3 ?_; clear hW3 hD3 cs3 hP3 hb3; intro hW3 hD3 cs3 hP3 hb3
   have hal : Below W3.heap.size W3 (W3.alloc (.cells #[.slice none 0 0] 28)) := (Below.refl _ _).alloc (Nat.le_refl _) _
   have hP4 := hP3.out.below hal
   have z4 : (W3.alloc (.cells #[.slice none 0 0] 28)).heap.size = W3.heap.size + 1 := World.size_alloc _ _
   have z3 := hD3.out.size
   have hcn : (W3.alloc (.cells #[.slice none 0 0] 28)).cell? ⟨W3.heap.size, 0, none⟩ = some (.slice none 0 0) := by simp
   have hcs4 := four_kept cs3.out hal
   have hD4 := bthen hD3.out hal
   have hne4 : some wr.heap.size ≠ u4.ownBlock := fun e => by have := (World.ownsRow.lt hP.out.row _ e.symm).2; omega
   replace hne4 := hi_ hne4
   obtain ⟨PS, hPS⟩ : ∃ PS, PS = partsK l k := ⟨_, rfl⟩
   have zPS : PS.length ≤ 1000000 := by have := parts_len l k; rw [hPS]; omega
   obtain ⟨p, hpe⟩ : ∃ p : List R4, p = [] := ⟨_, rfl⟩
   have zp : p.length ≤ 1000000 := by rw [hpe]; simp
   have hstep : partsK l (k + 1) = PS ++ [p ++ [r]] := by rw [parts_new hnew.out, hPS, hpe, hgr.out]
   rw [← hPS] at hP4
   refine h9_ hal hP4 hcn hcs4 hD4 z4 hPS hstep hpe ?_; clear hal hP4 hcn hcs4 hD4 z4 hPS hstep hpe; intro hal hP4 hcn hcs4 hD4 z4 hPS hstep hpe
   clear c0 c1 c2 c3
   go_upto_region 9 with (at_builtin; refine app_nil Tryz.underlying95 info28 rfl _ _ rfl w.heap.size u4 PS hs rfl hP4.out W3.heap.size rfl hcn.out (by omega) (by rw [z4.out]; omega) ?_; intro vX WX hPX hBX hgX; have csX := And.intro (hgX.cell hcs4.out.1 hne4.out) (And.intro (hgX.cell hcs4.out.2.1 hne4.out) (And.intro (hgX.cell hcs4.out.2.2.1 hne4.out) (hgX.cell hcs4.out.2.2.2 hne4.out))); clear hgX; have hDX : Below w.heap.size w WX := hD4.out.trans hBX; replace hPX := hi_ hPX; replace hBX := hi_ hBX; replace hDX := hi_ hDX; replace csX := hi_ csX)
   obtain ⟨c0, c1, c2, c3⟩ := csX.out
   rw [← hpe.out] at hPX
   obtain ⟨hs0, hl9, g, cap, hhs, hlen0, hv9, hcell, hfro, hO9, hBg, hgz⟩ := PG.last hPX.out
   obtain ⟨psl, hpsl⟩ : ∃ n, n = PS.length := ⟨_, rfl⟩
   obtain ⟨N, hN⟩ : ∃ N, N = psl + 1 := ⟨_, rfl⟩
   have hPZ := hPX.out
   rw [hhs, hv9] at hPZ
   rw [← hpsl] at hv9 hcell hfro hPZ zPS
   rw [← hN] at hv9 hPZ
   subst hv9
   have hw : IntKind.i64.wrap ((N : Int) - 1) = (psl : Int) := by rw [IntWalk.i64_in _ (by omega)]; omega
   have hw2 : IntKind.i64.wrap (psl : Int) = (psl : Int) := IntWalk.i64_in _ (by omega)
   have hpl : psl < N := by omega
   refine h8_ hpsl hN hPZ hO9 hhs hlen0 hcell hfro ?_; clear hpsl hN hPZ hO9 hhs hlen0 hcell hfro; intro hpsl hN hPZ hO9 hhs hlen0 hcell hfro
   refine wp_lin_two (by kernel_rfl) [none, none, none, none, none, none, none, none, none, none, none, none, none, none, none, none, none, none, none, none, none, none, none, none, none, none, none, none, none, none, none, none, none, none, none, none, none, none, none, none, none, none, none, none, some 0, some 1, some 2, some 3, some 4, some 5, some 6, some 7, some 8, some 9, some 10, some 11, some 12, none, none, none] (fun w' => Below WX.heap.size WX w') (fun w' w'' => Below w'.heap.size w' w'') (GP hl9 (.agg #[.int .i64 r.n, .int .i64 r.k, .int .i64 r.a, .int .i64 r.g]) r) (FP w l k g N psl cap) (GUP g N psl cap) UP (by rfl) (by kernel_rfl) 12 13 _ _ rfl rfl (by decide) (by decide) (by kernel_rfl) (by kernel_rfl) [0, 0, 0, 0, 0, 0, 0, 0, 0, 12, 11, 12] (by kernel_rfl) [13, 13, 13, 13, 13, 13, 13, 13, 13, 13, 13, 13, 13] (by kernel_rfl) ?hR ?mono (.cons 12 (.inl rfl) (.cons 11 (.inr (.inr ⟨rfl, step_of [10] rfl (by kernel_rfl) ?s11⟩)) (.cons 10 (.inr (.inr ⟨rfl, step_of [] rfl (by kernel_rfl) ?s10⟩)) (.cons 9 (.inr (.inr ⟨rfl, step_of [8] rfl (by kernel_rfl) ?s9⟩)) (.cons 8 (.inr (.inl ⟨rfl, stepU_of [4, 7] rfl (by kernel_rfl) ?s8⟩)) (.cons 7 (.inr (.inl ⟨rfl, stepU_of [6] rfl (by kernel_rfl) ?s7⟩)) (.cons 6 (.inr (.inl ⟨rfl, stepU_of [5] rfl (by kernel_rfl) ?s6⟩)) (.cons 5 (.inr (.inl ⟨rfl, stepU_of [] rfl (by kernel_rfl) ?s5⟩)) (.cons 4 (.inr (.inl ⟨rfl, stepU_of [] rfl (by kernel_rfl) ?s4⟩)) (.cons 3 (.inr (.inl ⟨rfl, stepU_of [2] rfl (by kernel_rfl) ?s3⟩)) (.cons 2 (.inr (.inl ⟨rfl, stepU_of [1] rfl (by kernel_rfl) ?s2⟩)) (.cons 1 (.inr (.inl ⟨rfl, stepU_of [] rfl (by kernel_rfl) ?s1⟩)) (.cons 0 (.inr (.inl ⟨rfl, stepU_of [] rfl (by kernel_rfl) ?s0⟩)) (.nil)))))))))))))) ?sN ?done
   case hR => exact (Below.refl _ _).drew
   case mono => exact GP_mono
   case s0 =>
    intro x w' hd K' hK
    simp only [AllU, GUP] at hd
    simp +decide only [upd, GUP, fillL, if_true, if_false] at hK ⊢
    go_simp
    have hK2 := hK _ rfl
    exact hK2
   case s1 =>
    intro x w' hd K' hK
    simp only [AllU, GUP] at hd
    simp +decide only [upd, GUP, fillL, if_true, if_false] at hK ⊢
    go_simp
    have hK2 := hK _ rfl
    exact hK2
   case s2 =>
    intro x w' hd K' hK
    simp only [AllU, GUP] at hd
    obtain ⟨e1, _⟩ := hd
    simp +decide only [upd, GUP, fillL, if_true, if_false] at hK ⊢
    simp only [e1] at hK ⊢
    go_simp
    have hK2 := hK _ rfl
    exact hK2
   case s3 =>
    intro x w' hd K' hK
    simp only [AllU, GUP] at hd
    obtain ⟨e2, _⟩ := hd
    simp +decide only [upd, GUP, fillL, if_true, if_false] at hK ⊢
    simp only [e2] at hK ⊢
    go_simp
    try simp only [hw]
    try simp only [hw2]
    have hK2 := hK _ rfl
    exact hK2
   case s4 =>
    intro x w' hd K' hK
    simp only [AllU, GUP] at hd
    simp +decide only [upd, GUP, fillL, if_true, if_false] at hK ⊢
    go_simp
    have hK2 := hK _ rfl
    exact hK2
   case s5 =>
    intro x w' hd K' hK
    simp only [AllU, GUP] at hd
    simp +decide only [upd, GUP, fillL, if_true, if_false] at hK ⊢
    go_simp
    have hK2 := hK _ rfl
    exact hK2
   case s6 =>
    intro x w' hd K' hK
    simp only [AllU, GUP] at hd
    obtain ⟨e5, _⟩ := hd
    simp +decide only [upd, GUP, fillL, if_true, if_false] at hK ⊢
    simp only [e5] at hK ⊢
    go_simp
    have hK2 := hK _ rfl
    exact hK2
   case s7 =>
    intro x w' hd K' hK
    simp only [AllU, GUP] at hd
    obtain ⟨e6, _⟩ := hd
    simp +decide only [upd, GUP, fillL, if_true, if_false] at hK ⊢
    simp only [e6] at hK ⊢
    go_simp
    try simp only [hw]
    try simp only [hw2]
    have hK2 := hK _ rfl
    exact hK2
   case s8 =>
    intro x w' hd K' hK
    simp only [AllU, GUP] at hd
    obtain ⟨e4, e7, _⟩ := hd
    simp +decide only [upd, GUP, fillL, if_true, if_false] at hK ⊢
    simp only [e4, e7] at hK ⊢
    go_simp
    have hK2 := hK _ rfl
    exact hK2
   case s9 =>
    intro x w' hRw hd K' hK
    simp +decide only [All, UP, GP, GUP, if_true, if_false] at hd
    obtain ⟨e8, _⟩ := hd
    simp +decide only [upd, UP, GP, GUP, fillL, if_true, if_false] at hK ⊢
    simp only [e8] at hK ⊢
    have hc9 := (hRw.cell (cell_lt hcell.out)).trans hcell.out
    go_simp
    have hK2 := hK _ _ ⟨hRw, Below.refl _ _, rfl⟩
    exact hK2
   case s10 =>
    intro x w' hRw hd K' hK
    simp +decide only [All, UP, GP, GUP, if_true, if_false] at hd
    have tc0 := (hRw.cell (cell_lt c0)).trans c0
    have tc1 := (hRw.cell (cell_lt c1)).trans c1
    have tc2 := (hRw.cell (cell_lt c2)).trans c2
    have tc3 := (hRw.cell (cell_lt c3)).trans c3
    simp +decide only [upd, UP, GP, GUP, fillL, if_true, if_false] at hK ⊢
    go_simp
    have hK2 := hK _ _ ⟨hRw, Below.refl _ _, rfl⟩
    exact hK2
   case s11 =>
    intro x w' hRw hd K' hK
    simp +decide only [All, UP, GP, GUP, if_true, if_false] at hd
    obtain ⟨e10, _⟩ := hd
    simp +decide only [upd, UP, GP, GUP, fillL, if_true, if_false] at hK ⊢
    simp only [e10] at hK ⊢
    have al : Below w'.heap.size w' (w'.alloc (.cells #[.int .i64 r.n, .int .i64 r.k, .int .i64 r.a, .int .i64 r.g] 64)) := (Below.refl _ _).alloc (Nat.le_refl _) _
    go_simp
    have hK2 := hK _ _ ⟨bthen hRw al, al, w'.heap.size, rfl, four_cells rfl⟩
    exact hK2
   case sN =>
    intro x w6 hR2 hG _ K' hK fr hfr
    have a9 := hG 9 (by omega) rfl
    have a11 := hG 11 (by omega) rfl
    simp only [GP] at a9 a11
    clear hG
    obtain ⟨gb, a11, hgb⟩ := a11
    have hO6 := hO9.out.below hR2
    have hP6 := hPZ.out.below hR2
    have zW := hDX.out.size
    have z6 := hR2.size
    have hD6 := bthen hDX.out hR2
    have hc6 := (hR2.cell (cell_lt hcell.out)).trans hcell.out
    have hf6 := (hR2.frozen (show (⟨g, psl, none⟩ : Addr).block < _ from hgz)).trans hfro.out
    have h12 : ∀ v7 w7, OwnR 64 w.heap.size w7 v7 (p ++ [r]) → w6.grownBy w7 hl9.ownBlock → (v7.ownBlock = hl9.ownBlock ∨ v7.ownBlock = some w6.heap.size) → FP w l k g N psl cap v7 w7 := fun v7 w7 h1 h2 h3 => by
     have hne : some g ≠ hl9.ownBlock := by
      have := hP6.off psl (by rw [hpsl.out]; simp)
      rw [getD_snoc_eq _ _ _ (by rw [hlen0.out, hpsl.out])] at this
      rcases this with h | h
      ·rw [h]; simp
      ·exact fun e => h e.symm
     have hgw : g < w6.heap.size := by omega
     refine ⟨slice_is h1, ⟨_, (World.cell?_of_block (h2.block g hgw hne)).trans hc6⟩, (World.frozen?_of_block (h2.block g hgw hne)).trans hf6, ⟨hs0 ++ [v7], ?_⟩, ?_⟩
     ·rw [hstep.out]
      exact hP6.put (slice_one h1) h2 h1 h3 (by rw [hpsl.out])
     ·exact (hD6.grown h2 (by omega) (fun q hq => (own_lt hO6 hq).1)).grown (set_grown _ _ _ _) (by have := h2.size; omega) (fun q hq => by injection hq with hq; omega)
    simp only [fillL] at hfr
    rw [a9, a11] at hfr
    subst hfr
    rw [if_pos (show Region.wanted _ _ = true from rfl)]
    refine wp_app_r rt28 _ _ rfl w.heap.size hl9 p rfl hO6 gb r rfl (four_of hgb) (by omega) (by omega) ?_
    intro v7 w7 hO7 hg7 hat7
    have hK2 := hK v7 w7 (h12 v7 w7 hO7 hg7 hat7)
    simp +decide only [upd, fillL, if_true, if_false, a9, a11] at hK2
    exact hK2
   case done =>
    intro x w7 hF hGu fr hfr
    have a12 : ∃ v7, v7 = x 12 := ⟨_, rfl⟩
    obtain ⟨v7, a12⟩ := a12
    have a0 := hGu 0 (by omega) rfl
    have a3 := hGu 3 (by omega) rfl
    simp only [GUP] at a0 a3
    clear hGu
    simp only [fillL] at hfr
    rw [← a12] at hF hfr
    replace a12 := hi_ a12
    rw [a0, a3] at hfr
    obtain ⟨⟨A7, n7, c7, k1⟩, ⟨hl8, k2⟩, k3, hPn, hDn⟩ := hF
    subst k1
    subst hfr
    replace hPn := hi_ hPn
    replace hDn := hi_ hDn
    clear a0 a3 hw hw2 c0 c1 c2 c3
    go_wp2
    go_roundw
    case rel => exact ⟨k + 1, by omega, by go_num, hPn.out, hrk1.out, hDn.out⟩
    case measure => simp [RowKit.intOf]; omega
  ·obtain ⟨q, pr, hq1, hpr, hpn, hx1⟩ := hprev1.out (by omega)
   obtain ⟨pn, hpne⟩ : ∃ pn, pn = pr.n := ⟨_, rfl⟩
   rw [← hpne] at hpn hx1
   have d0 : decide ((0 : Int) < (k : Int)) = true := decide_eq_true (by omega)
   have d0n : decide (0 < k) = true := decide_eq_true (by omega)
   have e0 : ((k : Int) == 0) = false := by simpa using hk0
   have hwk : IntKind.i64.wrap ((k : Int) - 1) = (q : Int) := by rw [IntWalk.i64_in _ (by omega)]; omega
   have hwk2 : (k : Int) - 1 = (q : Int) := by omega
   have hwp : IntKind.i64.wrap (pn + 1) = pn + 1 := IntWalk.i64_in _ (by omega)
   have hqm : q < m := by omega
   have hk1 : (l.getD (k - 1) r0).n = pn := by rw [hpr, hpne]
   have hkr : (l.getD k r0).n = r.n := by rw [hgr.out]
   have hkb : (k == 0) = false := by simpa using hk0
   have hr1 : risesK l (k + 1) = decide (pn < r.n) := by
    show (risesK l k && (k == 0 || decide ((l.getD (k - 1) r0).n < (l.getD k r0).n))) = _
    rw [hrk.out, hkb, hk1, hkr]; simp
   have hn1 : newP l k = (r.n != pn + 1) := by
    show (k == 0 || (l.getD k r0).n != (l.getD (k - 1) r0).n + 1) = _
    rw [hkb, hk1, hkr]; simp
   refine h5_ hr1 hn1 hq1 hpr hpne ?_; clear hr1 hn1 hq1 hpr hpne; intro hr1 hn1 hq1 hpr hpne
   clear hk1 hkr hkb
   by_cases hlt : pn < r.n
   case neg =>
    have d1 : decide (r.n ≤ pn) = true := decide_eq_true (by omega)
    have hbad : risesK l m = false := rises_false (k := k + 1) (by omega) (by rw [hr1.out]; exact decide_eq_false hlt)
    replace hbad := hi_ hbad
    go_quiet (fail)
    obtain ⟨W2, hW2⟩ : ∃ W, W = W1.drewN nq := ⟨_, rfl⟩
    rw [← hW2]
    have hb2 : Below W1.heap.size W1 W2 := by rw [hW2]; exact drewN_below _ _
    have hD2 := bthen hD1.out hb2
    replace hW2 := hi_ hW2
    replace hD2 := hi_ hD2
    go_wp2
    exact hp1.out _ _ hD2.out hbad.out rfl
   have d1 : decide (r.n ≤ pn) = false := decide_eq_false (by omega)
   have hrk1 : risesK l (k + 1) = true := by rw [hr1.out]; exact decide_eq_true hlt
   replace hrk1 := hi_ hrk1
   go_quiet (fail)
   obtain ⟨W2, hW2⟩ : ∃ W, W = W1.drewN nq := ⟨_, rfl⟩
   rw [← hW2]
   have hb2 : Below W1.heap.size W1 W2 := by rw [hW2]; exact drewN_below _ _
   have hD2 := bthen hD1.out hb2
   have cs2 := four_kept cs.out hb2
   clear c0 c1 c2 c3
   obtain ⟨c0, c1, c2, c3⟩ := id cs2
   have hP2 := hP1.out.below hb2
   have hx2 := (hb2.cell (cell_lt hx1)).trans hx1
   clear hx1
   refine h5_ hW2 hD2 cs2 hP2 hb2 ?_; clear hW2 hD2 cs2 hP2 hb2; intro hW2 hD2 cs2 hP2 hb2
   go_upto_region 7 with (fail)
   by_cases hnp : r.n = pn + 1
   case neg =>
    have e1 : (r.n != pn + 1) = true := by simpa using hnp
    have hnew : newP l k = true := by rw [hn1.out]; exact e1
    replace hnew := hi_ hnew
    go_quiet (fail)
    obtain ⟨W3, hW3⟩ : ∃ W, W = W2.drewN nq := ⟨_, rfl⟩
    rw [← hW3]
    have hb3 : Below W2.heap.size W2 W3 := by rw [hW3]; exact drewN_below _ _
    have hD3 := bthen hD2.out hb3
    have cs3 := four_kept cs2.out hb3
    clear c0 c1 c2 c3
    obtain ⟨c0, c1, c2, c3⟩ := id cs3
    have hP3 := hP2.out.below hb3
    have hx3 := (hb3.cell (cell_lt hx2)).trans hx2
    clear hx2
    refine h5_ hW3 hD3 cs3 hP3 hb3 ?_; clear hW3 hD3 cs3 hP3 hb3; intro hW3 hD3 cs3 hP3 hb3
    clear hx3
    have hal : Below W3.heap.size W3 (W3.alloc (.cells #[.slice none 0 0] 28)) := (Below.refl _ _).alloc (Nat.le_refl _) _
    have hP4 := hP3.out.below hal
    have z4 : (W3.alloc (.cells #[.slice none 0 0] 28)).heap.size = W3.heap.size + 1 := World.size_alloc _ _
    have z3 := hD3.out.size
    have hcn : (W3.alloc (.cells #[.slice none 0 0] 28)).cell? ⟨W3.heap.size, 0, none⟩ = some (.slice none 0 0) := by simp
    have hcs4 := four_kept cs3.out hal
    have hD4 := bthen hD3.out hal
    have hne4 : some wr.heap.size ≠ u4.ownBlock := fun e => by have := (World.ownsRow.lt hP.out.row _ e.symm).2; omega
    replace hne4 := hi_ hne4
    obtain ⟨PS, hPS⟩ : ∃ PS, PS = partsK l k := ⟨_, rfl⟩
    have zPS : PS.length ≤ 1000000 := by have := parts_len l k; rw [hPS]; omega
    obtain ⟨p, hpe⟩ : ∃ p : List R4, p = [] := ⟨_, rfl⟩
    have zp : p.length ≤ 1000000 := by rw [hpe]; simp
    have hstep : partsK l (k + 1) = PS ++ [p ++ [r]] := by rw [parts_new hnew.out, hPS, hpe, hgr.out]
    rw [← hPS] at hP4
    refine h9_ hal hP4 hcn hcs4 hD4 z4 hPS hstep hpe ?_; clear hal hP4 hcn hcs4 hD4 z4 hPS hstep hpe; intro hal hP4 hcn hcs4 hD4 z4 hPS hstep hpe
    clear c0 c1 c2 c3
    go_upto_region 9 with (at_builtin; refine app_nil Tryz.underlying95 info28 rfl _ _ rfl w.heap.size u4 PS hs rfl hP4.out W3.heap.size rfl hcn.out (by omega) (by rw [z4.out]; omega) ?_; intro vX WX hPX hBX hgX; have csX := And.intro (hgX.cell hcs4.out.1 hne4.out) (And.intro (hgX.cell hcs4.out.2.1 hne4.out) (And.intro (hgX.cell hcs4.out.2.2.1 hne4.out) (hgX.cell hcs4.out.2.2.2 hne4.out))); clear hgX; have hDX : Below w.heap.size w WX := hD4.out.trans hBX; replace hPX := hi_ hPX; replace hBX := hi_ hBX; replace hDX := hi_ hDX; replace csX := hi_ csX)
    obtain ⟨c0, c1, c2, c3⟩ := csX.out
    rw [← hpe.out] at hPX
    obtain ⟨hs0, hl9, g, cap, hhs, hlen0, hv9, hcell, hfro, hO9, hBg, hgz⟩ := PG.last hPX.out
    obtain ⟨psl, hpsl⟩ : ∃ n, n = PS.length := ⟨_, rfl⟩
    obtain ⟨N, hN⟩ : ∃ N, N = psl + 1 := ⟨_, rfl⟩
    have hPZ := hPX.out
    rw [hhs, hv9] at hPZ
    rw [← hpsl] at hv9 hcell hfro hPZ zPS
    rw [← hN] at hv9 hPZ
    subst hv9
    have hw : IntKind.i64.wrap ((N : Int) - 1) = (psl : Int) := by rw [IntWalk.i64_in _ (by omega)]; omega
    have hw2 : IntKind.i64.wrap (psl : Int) = (psl : Int) := IntWalk.i64_in _ (by omega)
    have hpl : psl < N := by omega
    refine h8_ hpsl hN hPZ hO9 hhs hlen0 hcell hfro ?_; clear hpsl hN hPZ hO9 hhs hlen0 hcell hfro; intro hpsl hN hPZ hO9 hhs hlen0 hcell hfro
    refine wp_lin_two (by kernel_rfl) [none, none, none, none, none, none, none, none, none, none, none, none, none, none, none, none, none, none, none, none, none, none, none, none, none, none, none, none, none, none, none, none, none, none, none, none, none, none, none, none, none, none, none, none, some 0, some 1, some 2, some 3, some 4, some 5, some 6, some 7, some 8, some 9, some 10, some 11, some 12, none, none, none] (fun w' => Below WX.heap.size WX w') (fun w' w'' => Below w'.heap.size w' w'') (GP hl9 (.agg #[.int .i64 r.n, .int .i64 r.k, .int .i64 r.a, .int .i64 r.g]) r) (FP w l k g N psl cap) (GUP g N psl cap) UP (by rfl) (by kernel_rfl) 12 13 _ _ rfl rfl (by decide) (by decide) (by kernel_rfl) (by kernel_rfl) [0, 0, 0, 0, 0, 0, 0, 0, 0, 12, 11, 12] (by kernel_rfl) [13, 13, 13, 13, 13, 13, 13, 13, 13, 13, 13, 13, 13] (by kernel_rfl) ?hR ?mono (.cons 12 (.inl rfl) (.cons 11 (.inr (.inr ⟨rfl, step_of [10] rfl (by kernel_rfl) ?s11⟩)) (.cons 10 (.inr (.inr ⟨rfl, step_of [] rfl (by kernel_rfl) ?s10⟩)) (.cons 9 (.inr (.inr ⟨rfl, step_of [8] rfl (by kernel_rfl) ?s9⟩)) (.cons 8 (.inr (.inl ⟨rfl, stepU_of [4, 7] rfl (by kernel_rfl) ?s8⟩)) (.cons 7 (.inr (.inl ⟨rfl, stepU_of [6] rfl (by kernel_rfl) ?s7⟩)) (.cons 6 (.inr (.inl ⟨rfl, stepU_of [5] rfl (by kernel_rfl) ?s6⟩)) (.cons 5 (.inr (.inl ⟨rfl, stepU_of [] rfl (by kernel_rfl) ?s5⟩)) (.cons 4 (.inr (.inl ⟨rfl, stepU_of [] rfl (by kernel_rfl) ?s4⟩)) (.cons 3 (.inr (.inl ⟨rfl, stepU_of [2] rfl (by kernel_rfl) ?s3⟩)) (.cons 2 (.inr (.inl ⟨rfl, stepU_of [1] rfl (by kernel_rfl) ?s2⟩)) (.cons 1 (.inr (.inl ⟨rfl, stepU_of [] rfl (by kernel_rfl) ?s1⟩)) (.cons 0 (.inr (.inl ⟨rfl, stepU_of [] rfl (by kernel_rfl) ?s0⟩)) (.nil)))))))))))))) ?sN ?done
    case hR => exact (Below.refl _ _).drew
    case mono => exact GP_mono
    case s0 =>
     intro x w' hd K' hK
     simp only [AllU, GUP] at hd
     simp +decide only [upd, GUP, fillL, if_true, if_false] at hK ⊢
     go_simp
     have hK2 := hK _ rfl
     exact hK2
    case s1 =>
     intro x w' hd K' hK
     simp only [AllU, GUP] at hd
     simp +decide only [upd, GUP, fillL, if_true, if_false] at hK ⊢
     go_simp
     have hK2 := hK _ rfl
     exact hK2
    case s2 =>
     intro x w' hd K' hK
     simp only [AllU, GUP] at hd
     obtain ⟨e1, _⟩ := hd
     simp +decide only [upd, GUP, fillL, if_true, if_false] at hK ⊢
     simp only [e1] at hK ⊢
     go_simp
     have hK2 := hK _ rfl
     exact hK2
    case s3 =>
     intro x w' hd K' hK
     simp only [AllU, GUP] at hd
     obtain ⟨e2, _⟩ := hd
     simp +decide only [upd, GUP, fillL, if_true, if_false] at hK ⊢
     simp only [e2] at hK ⊢
     go_simp
     try simp only [hw]
     try simp only [hw2]
     have hK2 := hK _ rfl
     exact hK2
    case s4 =>
     intro x w' hd K' hK
     simp only [AllU, GUP] at hd
     simp +decide only [upd, GUP, fillL, if_true, if_false] at hK ⊢
     go_simp
     have hK2 := hK _ rfl
     exact hK2
    case s5 =>
     intro x w' hd K' hK
     simp only [AllU, GUP] at hd
     simp +decide only [upd, GUP, fillL, if_true, if_false] at hK ⊢
     go_simp
     have hK2 := hK _ rfl
     exact hK2
    case s6 =>
     intro x w' hd K' hK
     simp only [AllU, GUP] at hd
     obtain ⟨e5, _⟩ := hd
     simp +decide only [upd, GUP, fillL, if_true, if_false] at hK ⊢
     simp only [e5] at hK ⊢
     go_simp
     have hK2 := hK _ rfl
     exact hK2
    case s7 =>
     intro x w' hd K' hK
     simp only [AllU, GUP] at hd
     obtain ⟨e6, _⟩ := hd
     simp +decide only [upd, GUP, fillL, if_true, if_false] at hK ⊢
     simp only [e6] at hK ⊢
     go_simp
     try simp only [hw]
     try simp only [hw2]
     have hK2 := hK _ rfl
     exact hK2
    case s8 =>
     intro x w' hd K' hK
     simp only [AllU, GUP] at hd
     obtain ⟨e4, e7, _⟩ := hd
     simp +decide only [upd, GUP, fillL, if_true, if_false] at hK ⊢
     simp only [e4, e7] at hK ⊢
     go_simp
     have hK2 := hK _ rfl
     exact hK2
    case s9 =>
     intro x w' hRw hd K' hK
     simp +decide only [All, UP, GP, GUP, if_true, if_false] at hd
     obtain ⟨e8, _⟩ := hd
     simp +decide only [upd, UP, GP, GUP, fillL, if_true, if_false] at hK ⊢
     simp only [e8] at hK ⊢
     have hc9 := (hRw.cell (cell_lt hcell.out)).trans hcell.out
     go_simp
     have hK2 := hK _ _ ⟨hRw, Below.refl _ _, rfl⟩
     exact hK2
    case s10 =>
     intro x w' hRw hd K' hK
     simp +decide only [All, UP, GP, GUP, if_true, if_false] at hd
     have tc0 := (hRw.cell (cell_lt c0)).trans c0
     have tc1 := (hRw.cell (cell_lt c1)).trans c1
     have tc2 := (hRw.cell (cell_lt c2)).trans c2
     have tc3 := (hRw.cell (cell_lt c3)).trans c3
     simp +decide only [upd, UP, GP, GUP, fillL, if_true, if_false] at hK ⊢
     go_simp
     have hK2 := hK _ _ ⟨hRw, Below.refl _ _, rfl⟩
     exact hK2
    case s11 =>
     intro x w' hRw hd K' hK
     simp +decide only [All, UP, GP, GUP, if_true, if_false] at hd
     obtain ⟨e10, _⟩ := hd
     simp +decide only [upd, UP, GP, GUP, fillL, if_true, if_false] at hK ⊢
     simp only [e10] at hK ⊢
     have al : Below w'.heap.size w' (w'.alloc (.cells #[.int .i64 r.n, .int .i64 r.k, .int .i64 r.a, .int .i64 r.g] 64)) := (Below.refl _ _).alloc (Nat.le_refl _) _
     go_simp
     have hK2 := hK _ _ ⟨bthen hRw al, al, w'.heap.size, rfl, four_cells rfl⟩
     exact hK2
    case sN =>
     intro x w6 hR2 hG _ K' hK fr hfr
     have a9 := hG 9 (by omega) rfl
     have a11 := hG 11 (by omega) rfl
     simp only [GP] at a9 a11
     clear hG
     obtain ⟨gb, a11, hgb⟩ := a11
     have hO6 := hO9.out.below hR2
     have hP6 := hPZ.out.below hR2
     have zW := hDX.out.size
     have z6 := hR2.size
     have hD6 := bthen hDX.out hR2
     have hc6 := (hR2.cell (cell_lt hcell.out)).trans hcell.out
     have hf6 := (hR2.frozen (show (⟨g, psl, none⟩ : Addr).block < _ from hgz)).trans hfro.out
     have h12 : ∀ v7 w7, OwnR 64 w.heap.size w7 v7 (p ++ [r]) → w6.grownBy w7 hl9.ownBlock → (v7.ownBlock = hl9.ownBlock ∨ v7.ownBlock = some w6.heap.size) → FP w l k g N psl cap v7 w7 := fun v7 w7 h1 h2 h3 => by
      have hne : some g ≠ hl9.ownBlock := by
       have := hP6.off psl (by rw [hpsl.out]; simp)
       rw [getD_snoc_eq _ _ _ (by rw [hlen0.out, hpsl.out])] at this
       rcases this with h | h
       ·rw [h]; simp
       ·exact fun e => h e.symm
      have hgw : g < w6.heap.size := by omega
      refine ⟨slice_is h1, ⟨_, (World.cell?_of_block (h2.block g hgw hne)).trans hc6⟩, (World.frozen?_of_block (h2.block g hgw hne)).trans hf6, ⟨hs0 ++ [v7], ?_⟩, ?_⟩
      ·rw [hstep.out]
       exact hP6.put (slice_one h1) h2 h1 h3 (by rw [hpsl.out])
      ·exact (hD6.grown h2 (by omega) (fun q hq => (own_lt hO6 hq).1)).grown (set_grown _ _ _ _) (by have := h2.size; omega) (fun q hq => by injection hq with hq; omega)
     simp only [fillL] at hfr
     rw [a9, a11] at hfr
     subst hfr
     rw [if_pos (show Region.wanted _ _ = true from rfl)]
     refine wp_app_r rt28 _ _ rfl w.heap.size hl9 p rfl hO6 gb r rfl (four_of hgb) (by omega) (by omega) ?_
     intro v7 w7 hO7 hg7 hat7
     have hK2 := hK v7 w7 (h12 v7 w7 hO7 hg7 hat7)
     simp +decide only [upd, fillL, if_true, if_false, a9, a11] at hK2
     exact hK2
    case done =>
     intro x w7 hF hGu fr hfr
     have a12 : ∃ v7, v7 = x 12 := ⟨_, rfl⟩
     obtain ⟨v7, a12⟩ := a12
     have a0 := hGu 0 (by omega) rfl
     have a3 := hGu 3 (by omega) rfl
     simp only [GUP] at a0 a3
     clear hGu
     simp only [fillL] at hfr
     rw [← a12] at hF hfr
     replace a12 := hi_ a12
     rw [a0, a3] at hfr
     obtain ⟨⟨A7, n7, c7, k1⟩, ⟨hl8, k2⟩, k3, hPn, hDn⟩ := hF
     subst k1
     subst hfr
     replace hPn := hi_ hPn
     replace hDn := hi_ hDn
     clear a0 a3 hw hw2 c0 c1 c2 c3
     go_wp2
     go_roundw
     case rel => exact ⟨k + 1, by omega, by go_num, hPn.out, hrk1.out, hDn.out⟩
     case measure => simp [RowKit.intOf]; omega
   have e1 : (r.n != pn + 1) = false := by simpa using hnp
   have hnew : newP l k = false := by rw [hn1.out]; exact e1
   replace hnew := hi_ hnew
   replace hnp := hi_ hnp
   go_quiet (fail)
   obtain ⟨W3, hW3⟩ : ∃ W, W = W2.drewN nq := ⟨_, rfl⟩
   rw [← hW3]
   have hb3 : Below W2.heap.size W2 W3 := by rw [hW3]; exact drewN_below _ _
   have hD3 := bthen hD2.out hb3
   have cs3 := four_kept cs2.out hb3
   clear c0 c1 c2 c3
   obtain ⟨c0, c1, c2, c3⟩ := id cs3
   have hP3 := hP2.out.below hb3
   have hx3 := (hb3.cell (cell_lt hx2)).trans hx2
   clear hx2
   refine h5_ hW3 hD3 cs3 hP3 hb3 ?_; clear hW3 hD3 cs3 hP3 hb3; intro hW3 hD3 cs3 hP3 hb3
   clear hx3
   obtain ⟨PS, p, hPS⟩ := parts_last l k (by omega)
   have hstep : partsK l (k + 1) = PS ++ [p ++ [r]] := by rw [parts_old hnew.out hPS, hgr.out]
   have zPS : PS.length ≤ 1000000 := by have h8 := parts_len l k; rw [hPS] at h8; simp at h8; omega
   have zp : p.length ≤ 1000000 := by have h8 := (part_len l k p (by rw [hPS]; simp)).1; omega
   have hPX := hP3.out
   rw [hPS] at hPX
   refine h3_ hPX hPS hstep ?_; clear hPX hPS hstep; intro hPX hPS hstep
   obtain ⟨WX, hWX⟩ : ∃ W, W = W3 := ⟨_, rfl⟩
   rw [← hWX] at hPX c0 c1 c2 c3 hD3
   rw [← hWX]
   have hDX := hD3
   replace hWX := hi_ hWX
   go_upto_region 9 with (fail)
   obtain ⟨hs0, hl9, g, cap, hhs, hlen0, hv9, hcell, hfro, hO9, hBg, hgz⟩ := PG.last hPX.out
   obtain ⟨psl, hpsl⟩ : ∃ n, n = PS.length := ⟨_, rfl⟩
   obtain ⟨N, hN⟩ : ∃ N, N = psl + 1 := ⟨_, rfl⟩
   have hPZ := hPX.out
   rw [hhs, hv9] at hPZ
   rw [← hpsl] at hv9 hcell hfro hPZ zPS
   rw [← hN] at hv9 hPZ
   subst hv9
   have hw : IntKind.i64.wrap ((N : Int) - 1) = (psl : Int) := by rw [IntWalk.i64_in _ (by omega)]; omega
   have hw2 : IntKind.i64.wrap (psl : Int) = (psl : Int) := IntWalk.i64_in _ (by omega)
   have hpl : psl < N := by omega
   refine h8_ hpsl hN hPZ hO9 hhs hlen0 hcell hfro ?_; clear hpsl hN hPZ hO9 hhs hlen0 hcell hfro; intro hpsl hN hPZ hO9 hhs hlen0 hcell hfro
   refine wp_lin_two (by kernel_rfl) [none, none, none, none, none, none, none, none, none, none, none, none, none, none, none, none, none, none, none, none, none, none, none, none, none, none, none, none, none, none, none, none, none, none, none, none, none, none, none, none, none, none, none, none, some 0, some 1, some 2, some 3, some 4, some 5, some 6, some 7, some 8, some 9, some 10, some 11, some 12, none, none, none] (fun w' => Below WX.heap.size WX w') (fun w' w'' => Below w'.heap.size w' w'') (GP hl9 (.agg #[.int .i64 r.n, .int .i64 r.k, .int .i64 r.a, .int .i64 r.g]) r) (FP w l k g N psl cap) (GUP g N psl cap) UP (by rfl) (by kernel_rfl) 12 13 _ _ rfl rfl (by decide) (by decide) (by kernel_rfl) (by kernel_rfl) [0, 0, 0, 0, 0, 0, 0, 0, 0, 12, 11, 12] (by kernel_rfl) [13, 13, 13, 13, 13, 13, 13, 13, 13, 13, 13, 13, 13] (by kernel_rfl) ?hR ?mono (.cons 12 (.inl rfl) (.cons 11 (.inr (.inr ⟨rfl, step_of [10] rfl (by kernel_rfl) ?s11⟩)) (.cons 10 (.inr (.inr ⟨rfl, step_of [] rfl (by kernel_rfl) ?s10⟩)) (.cons 9 (.inr (.inr ⟨rfl, step_of [8] rfl (by kernel_rfl) ?s9⟩)) (.cons 8 (.inr (.inl ⟨rfl, stepU_of [4, 7] rfl (by kernel_rfl) ?s8⟩)) (.cons 7 (.inr (.inl ⟨rfl, stepU_of [6] rfl (by kernel_rfl) ?s7⟩)) (.cons 6 (.inr (.inl ⟨rfl, stepU_of [5] rfl (by kernel_rfl) ?s6⟩)) (.cons 5 (.inr (.inl ⟨rfl, stepU_of [] rfl (by kernel_rfl) ?s5⟩)) (.cons 4 (.inr (.inl ⟨rfl, stepU_of [] rfl (by kernel_rfl) ?s4⟩)) (.cons 3 (.inr (.inl ⟨rfl, stepU_of [2] rfl (by kernel_rfl) ?s3⟩)) (.cons 2 (.inr (.inl ⟨rfl, stepU_of [1] rfl (by kernel_rfl) ?s2⟩)) (.cons 1 (.inr (.inl ⟨rfl, stepU_of [] rfl (by kernel_rfl) ?s1⟩)) (.cons 0 (.inr (.inl ⟨rfl, stepU_of [] rfl (by kernel_rfl) ?s0⟩)) (.nil)))))))))))))) ?sN ?done
   case hR => exact (Below.refl _ _).drew
   case mono => exact GP_mono
   case s0 =>
    intro x w' hd K' hK
    simp only [AllU, GUP] at hd
    simp +decide only [upd, GUP, fillL, if_true, if_false] at hK ⊢
    go_simp
    have hK2 := hK _ rfl
    exact hK2
   case s1 =>
    intro x w' hd K' hK
    simp only [AllU, GUP] at hd
    simp +decide only [upd, GUP, fillL, if_true, if_false] at hK ⊢
    go_simp
    have hK2 := hK _ rfl
    exact hK2
   case s2 =>
    intro x w' hd K' hK
    simp only [AllU, GUP] at hd
    obtain ⟨e1, _⟩ := hd
    simp +decide only [upd, GUP, fillL, if_true, if_false] at hK ⊢
    simp only [e1] at hK ⊢
    go_simp
    have hK2 := hK _ rfl
    exact hK2
   case s3 =>
    intro x w' hd K' hK
    simp only [AllU, GUP] at hd
    obtain ⟨e2, _⟩ := hd
    simp +decide only [upd, GUP, fillL, if_true, if_false] at hK ⊢
    simp only [e2] at hK ⊢
    go_simp
    try simp only [hw]
    try simp only [hw2]
    have hK2 := hK _ rfl
    exact hK2
   case s4 =>
    intro x w' hd K' hK
    simp only [AllU, GUP] at hd
    simp +decide only [upd, GUP, fillL, if_true, if_false] at hK ⊢
    go_simp
    have hK2 := hK _ rfl
    exact hK2
   case s5 =>
    intro x w' hd K' hK
    simp only [AllU, GUP] at hd
    simp +decide only [upd, GUP, fillL, if_true, if_false] at hK ⊢
    go_simp
    have hK2 := hK _ rfl
    exact hK2
   case s6 =>
    intro x w' hd K' hK
    simp only [AllU, GUP] at hd
    obtain ⟨e5, _⟩ := hd
    simp +decide only [upd, GUP, fillL, if_true, if_false] at hK ⊢
    simp only [e5] at hK ⊢
    go_simp
    have hK2 := hK _ rfl
    exact hK2
   case s7 =>
    intro x w' hd K' hK
    simp only [AllU, GUP] at hd
    obtain ⟨e6, _⟩ := hd
    simp +decide only [upd, GUP, fillL, if_true, if_false] at hK ⊢
    simp only [e6] at hK ⊢
    go_simp
    try simp only [hw]
    try simp only [hw2]
    have hK2 := hK _ rfl
    exact hK2
   case s8 =>
    intro x w' hd K' hK
    simp only [AllU, GUP] at hd
    obtain ⟨e4, e7, _⟩ := hd
    simp +decide only [upd, GUP, fillL, if_true, if_false] at hK ⊢
    simp only [e4, e7] at hK ⊢
    go_simp
    have hK2 := hK _ rfl
    exact hK2
   case s9 =>
    intro x w' hRw hd K' hK
    simp +decide only [All, UP, GP, GUP, if_true, if_false] at hd
    obtain ⟨e8, _⟩ := hd
    simp +decide only [upd, UP, GP, GUP, fillL, if_true, if_false] at hK ⊢
    simp only [e8] at hK ⊢
    have hc9 := (hRw.cell (cell_lt hcell.out)).trans hcell.out
    go_simp
    have hK2 := hK _ _ ⟨hRw, Below.refl _ _, rfl⟩
    exact hK2
   case s10 =>
    intro x w' hRw hd K' hK
    simp +decide only [All, UP, GP, GUP, if_true, if_false] at hd
    have tc0 := (hRw.cell (cell_lt c0)).trans c0
    have tc1 := (hRw.cell (cell_lt c1)).trans c1
    have tc2 := (hRw.cell (cell_lt c2)).trans c2
    have tc3 := (hRw.cell (cell_lt c3)).trans c3
    simp +decide only [upd, UP, GP, GUP, fillL, if_true, if_false] at hK ⊢
    go_simp
    have hK2 := hK _ _ ⟨hRw, Below.refl _ _, rfl⟩
    exact hK2
   case s11 =>
    intro x w' hRw hd K' hK
    simp +decide only [All, UP, GP, GUP, if_true, if_false] at hd
    obtain ⟨e10, _⟩ := hd
    simp +decide only [upd, UP, GP, GUP, fillL, if_true, if_false] at hK ⊢
    simp only [e10] at hK ⊢
    have al : Below w'.heap.size w' (w'.alloc (.cells #[.int .i64 r.n, .int .i64 r.k, .int .i64 r.a, .int .i64 r.g] 64)) := (Below.refl _ _).alloc (Nat.le_refl _) _
    go_simp
    have hK2 := hK _ _ ⟨bthen hRw al, al, w'.heap.size, rfl, four_cells rfl⟩
    exact hK2
   case sN =>
    intro x w6 hR2 hG _ K' hK fr hfr
    have a9 := hG 9 (by omega) rfl
    have a11 := hG 11 (by omega) rfl
    simp only [GP] at a9 a11
    clear hG
    obtain ⟨gb, a11, hgb⟩ := a11
    have hO6 := hO9.out.below hR2
    have hP6 := hPZ.out.below hR2
    have zW := hDX.out.size
    have z6 := hR2.size
    have hD6 := bthen hDX.out hR2
    have hc6 := (hR2.cell (cell_lt hcell.out)).trans hcell.out
    have hf6 := (hR2.frozen (show (⟨g, psl, none⟩ : Addr).block < _ from hgz)).trans hfro.out
    have h12 : ∀ v7 w7, OwnR 64 w.heap.size w7 v7 (p ++ [r]) → w6.grownBy w7 hl9.ownBlock → (v7.ownBlock = hl9.ownBlock ∨ v7.ownBlock = some w6.heap.size) → FP w l k g N psl cap v7 w7 := fun v7 w7 h1 h2 h3 => by
     have hne : some g ≠ hl9.ownBlock := by
      have := hP6.off psl (by rw [hpsl.out]; simp)
      rw [getD_snoc_eq _ _ _ (by rw [hlen0.out, hpsl.out])] at this
      rcases this with h | h
      ·rw [h]; simp
      ·exact fun e => h e.symm
     have hgw : g < w6.heap.size := by omega
     refine ⟨slice_is h1, ⟨_, (World.cell?_of_block (h2.block g hgw hne)).trans hc6⟩, (World.frozen?_of_block (h2.block g hgw hne)).trans hf6, ⟨hs0 ++ [v7], ?_⟩, ?_⟩
     ·rw [hstep.out]
      exact hP6.put (slice_one h1) h2 h1 h3 (by rw [hpsl.out])
     ·exact (hD6.grown h2 (by omega) (fun q hq => (own_lt hO6 hq).1)).grown (set_grown _ _ _ _) (by have := h2.size; omega) (fun q hq => by injection hq with hq; omega)
    simp only [fillL] at hfr
    rw [a9, a11] at hfr
    subst hfr
    rw [if_pos (show Region.wanted _ _ = true from rfl)]
    refine wp_app_r rt28 _ _ rfl w.heap.size hl9 p rfl hO6 gb r rfl (four_of hgb) (by omega) (by omega) ?_
    intro v7 w7 hO7 hg7 hat7
    have hK2 := hK v7 w7 (h12 v7 w7 hO7 hg7 hat7)
    simp +decide only [upd, fillL, if_true, if_false, a9, a11] at hK2
    exact hK2
   case done =>
    intro x w7 hF hGu fr hfr
    have a12 : ∃ v7, v7 = x 12 := ⟨_, rfl⟩
    obtain ⟨v7, a12⟩ := a12
    have a0 := hGu 0 (by omega) rfl
    have a3 := hGu 3 (by omega) rfl
    simp only [GUP] at a0 a3
    clear hGu
    simp only [fillL] at hfr
    rw [← a12] at hF hfr
    replace a12 := hi_ a12
    rw [a0, a3] at hfr
    obtain ⟨⟨A7, n7, c7, k1⟩, ⟨hl8, k2⟩, k3, hPn, hDn⟩ := hF
    subst k1
    subst hfr
    replace hPn := hi_ hPn
    replace hDn := hi_ hDn
    clear a0 a3 hw hw2 c0 c1 c2 c3
    go_wp2
    go_roundw
    case rel => exact ⟨k + 1, by omega, by go_num, hPn.out, hrk1.out, hDn.out⟩
    case measure => simp [RowKit.intOf]; omega



theorem drewN_bl (w : World) (n : Nat) : Below w.heap.size w (w.drewN n) := ⟨rfl, rfl, rfl, Nat.le_refl _, fun _ _ => rfl⟩
theorem law_Same (A A' : Option Addr) (c c' : Nat) (l : List R4) (w : World) (h : RowsAt w A l) (h' : RowsAt w A' l) (hl : l.length ≤ 1000000) : Calls Tryz.prog 12 #[.slice A l.length c, .slice A' l.length c'] w fun e w' => e = .returned (.bool true) ∧ Below w.heap.size w w' := by
 obtain ⟨m, hm⟩ : ∃ m, m = l.length := ⟨_, rfl⟩
 rw [← hm] at hl ⊢
 replace hm := hi_ hm
 replace h := hi_ h
 replace h' := hi_ h'
 go_enter Tryz.func12, Tryz.ntmps12
 go_wp2
 go_loopw [5] (fun s5 wr => ∃ k : Nat, k ≤ m ∧ s5 = .int .i64 k ∧ Below w.heap.size w wr) (fun s5 _ => m - (RowKit.intOf s5).toNat)
 case atStart => exact ⟨0, by omega, rfl, Below.refl _ _⟩
 case round =>
  rename_i wr
  obtain ⟨k, hk, rfl, hB⟩ := hrel
  by_cases hkm : k < m
  ·have hkl : k < l.length := by rw [← hm.out]; exact hkm
   obtain ⟨b, o, rfl, hc⟩ := h.out.2 (by omega)
   obtain ⟨b', o', rfl, hc'⟩ := h'.out.2 (by omega)
   have hc4 := hc k hkl
   have hc4' := hc' k hkl
   obtain ⟨r, hr⟩ : ∃ r, r = l[k] := ⟨_, rfl⟩
   rw [← hr] at hc4 hc4'
   obtain ⟨P, hP0⟩ : ∃ P, P = o + k * 4 := ⟨_, rfl⟩
   have hP2 : o + k * 4 = P := hP0.symm
   obtain ⟨P', hP0'⟩ : ∃ P, P = o' + k * 4 := ⟨_, rfl⟩
   have hP2' : o' + k * 4 = P' := hP0'.symm
   rw [hP2] at hc4
   rw [hP2'] at hc4'
   have y0 := (hB.cell (cell_lt (hc4 0 _ rfl))).trans (hc4 0 _ rfl)
   have y1 := (hB.cell (cell_lt (hc4 1 _ rfl))).trans (hc4 1 _ rfl)
   have y2 := (hB.cell (cell_lt (hc4 2 _ rfl))).trans (hc4 2 _ rfl)
   have y3 := (hB.cell (cell_lt (hc4 3 _ rfl))).trans (hc4 3 _ rfl)
   have x0 := (hB.cell (cell_lt (hc4' 0 _ rfl))).trans (hc4' 0 _ rfl)
   have x1 := (hB.cell (cell_lt (hc4' 1 _ rfl))).trans (hc4' 1 _ rfl)
   have x2 := (hB.cell (cell_lt (hc4' 2 _ rfl))).trans (hc4' 2 _ rfl)
   have x3 := (hB.cell (cell_lt (hc4' 3 _ rfl))).trans (hc4' 3 _ rfl)
   simp only [Nat.add_zero] at y0 x0
   have e0 : (r.n != r.n) = false := by simp
   have e1 : (r.k != r.k) = false := by simp
   have e2 : (r.a != r.a) = false := by simp
   have e3 : (r.g != r.g) = false := by simp
   clear hc hc4 hc' hc4'
   replace hP0 := hi_ hP0
   replace hP0' := hi_ hP0'
   replace hr := hi_ hr
   replace hB := hi_ hB
   go_upto_region 6 with (fail)
   go_quiet (fail)
   obtain ⟨W2, hW2⟩ : ∃ W, W = wr.drewN nq := ⟨_, rfl⟩
   rw [← hW2]
   have hB2 : Below w.heap.size w W2 := by rw [hW2]; exact bthen hB.out (drewN_bl _ _)
   replace hW2 := hi_ hW2
   replace hB2 := hi_ hB2
   clear y0 y1 y2 y3 x0 x1 x2 x3
   go_wp2
   go_roundw
   case rel => exact ⟨k + 1, by omega, by go_num, hB2.out⟩
   case measure => simp [RowKit.intOf]; omega
  ·obtain rfl : k = m := by omega
   replace hB := hi_ hB
   go_wp2
   go_ret
   exact ⟨rfl, hB.out⟩
def goodK (l : List R4) : Nat → Bool
 | 0 => true
 | k + 1 => goodK l k && mayR (l.getD k r0)
theorem good_false {l : List R4} : ∀ {m k : Nat}, k ≤ m → goodK l k = false → goodK l m = false
 | 0, k, h, e => by obtain rfl : k = 0 := by omega
                    exact e
 | m + 1, k, h, e => by
  by_cases hk : k = m + 1
  ·subst hk; exact e
  ·show (goodK l m && _) = false
   rw [good_false (m := m) (by omega) e]; rfl
theorem store_m {P : Program} (g o : Nat) (t : TypeId) (lo hi : Nat) : ∀ (vs : List Value) (i : Nat) (cur : Array Value) (w : World), w.heap[g]? = some (.cells cur t (lo, hi)) → cur.size ≤ lo → o + i + vs.length ≤ cur.size → (∀ v ∈ vs, v.oneCell' = true) →
 (storeCells ⟨g, o, none⟩ vs i).run P w = .ok () (w.setRow g (cur.toList.take (o + i) ++ vs ++ cur.toList.drop (o + i + vs.length)).toArray)
 | [], i, cur, w, hg, _, _, _ => by
  simp only [storeCells, List.append_nil, List.length_nil, Nat.add_zero, List.take_append_drop, Array.toArray_toList]
  rw [setRow_self w g cur t (lo, hi) hg]
  rfl
 | v :: rest, i, cur, w, hg, hlo, hl, h1 => by
  have hi' : o + i < cur.size := by simp at hl; omega
  have hadd : (⟨g, o, none⟩ : Addr).add i = ⟨g, o + i, none⟩ := by unfold Addr.add; split <;> simp_all
  have hcell : w.cell? ⟨g, o + i, none⟩ = some cur[o + i] := by simp [World.cell?, hg, hi']
  have hfro : w.frozen? ⟨g, o + i, none⟩ = false := by simp [World.frozen?, hg]; omega
  have hst : (store ((⟨g, o, none⟩ : Addr).add i) v).run P w = .ok () (w.setRow g (cur.setIfInBounds (o + i) v)) := by
   rw [hadd, run_store P w _ v _ (h1 v (by simp)), hcell]
   simp [hfro, setCell_eq_setRow w g (o + i) cur t (lo, hi) v hg]
  have ih := store_m (P := P) g o t lo hi rest (i + 1) (cur.setIfInBounds (o + i) v) (w.setRow g (cur.setIfInBounds (o + i) v)) (setRow_heap w g cur _ t _ hg) (by simpa using hlo) (by simp at hl ⊢; omega) (fun x hx => h1 x (by simp [hx]))
  simp only [storeCells, Sem.run_bind, hst, Result.andThen_ok, ih, setRow_setRow]
  congr 3
  have e := list_seg_step cur.toList (o + i) v rest (by simp at hl ⊢; omega)
  simpa [Array.toList_setIfInBounds, Nat.add_assoc] using e
def OwnM (B : Nat) (w : World) (v : Value) (bs : List UInt8) : Prop := Own B w v bs ∨ ∃ g cap cur lo hi, v = .slice (some ⟨g, 0, none⟩) bs.length cap ∧ B ≤ g ∧ w.heap[g]? = some (.cells cur 5 (lo, hi)) ∧ cap ≤ lo ∧ bs.length ≤ cap ∧ cap ≤ maxLen ∧ cur.size = cap ∧ cur.toList.take bs.length = valsB bs
theorem OwnM.below {B : Nat} {w w' : World} {v : Value} {bs : List UInt8} (h : OwnM B w v bs) (hb : Below w.heap.size w w') : OwnM B w' v bs := by
 rcases h with h | ⟨g, cap, cur, lo, hi, h1, h2, h3, rest⟩
 ·exact .inl (h.below hb)
 ·exact .inr ⟨g, cap, cur, lo, hi, h1, h2, (hb.block g (Array.getElem?_eq_some_iff.1 h3).1).trans h3, rest⟩
theorem row_byt {w : World} {g : Nat} {cur : Array Value} {m : Nat × Nat} {bs : List UInt8} (h : w.heap[g]? = some (.cells cur 5 m)) (ht : cur.toList.take bs.length = valsB bs) (hm : bs.length ≤ maxLen) : Byt w (some ⟨g, 0, none⟩) bs := by
 refine ⟨hm, fun _ => ⟨g, 0, rfl, fun i hi => ?_⟩⟩
 have h1 : w.cell? ⟨g, 0 + i, none⟩ = cur[i]? := by rw [Nat.zero_add, cell_of_row w g i cur 5 m h]
 have h2 : (valsB bs)[i]? = some (.int .u8 (bs[i].toNat : Int)) := by simp [valsB, hi]
 rw [← ht, List.getElem?_take, if_pos hi] at h2
 rw [h1]; simpa using h2
theorem OwnM.out {B : Nat} {w : World} {v : Value} {bs : List UInt8} (h : OwnM B w v bs) (hm : bs.length ≤ maxLen) : ∃ A c, v = .slice A bs.length c ∧ Byt w A bs ∧ (A = none → c = 0) := by
 rcases h with h | ⟨g, cap, cur, lo, hi, rfl, h2, h3, h4, h5, h6, h7, h8⟩
 ·exact h.out hm
 ·exact ⟨_, _, rfl, row_byt h3 h8 hm, fun e => by cases e⟩
theorem room_m (w : World) (t ty : TypeId) (i : TypeInfo) (e : TypeId) (ht : Tryz.prog.underlying t = some (.slice e)) (hi : Tryz.prog.info? e = some i) (h1s : i.size = 1)
 (g sLen sCap lo hh : Nat) (cur : Array Value) (hg : w.heap[g]? = some (.cells cur e (lo, hh))) (hlo : cur.size ≤ lo)
 (a : Addr) (m c : Nat) (news : List Value) (hl : news.length = m) (hnews : ∀ j u, news[j]? = some u → w.cell? (a.add j) = some u) (h1 : ∀ u ∈ news, u.oneCell' = true)
 (hroom : sLen + m ≤ sCap) (hfit : sLen + news.length ≤ cur.size) :
 (Builtin.append_ #[t, t] ty #[.slice (some ⟨g, 0, none⟩) sLen sCap, .slice (some a) m c]).run Tryz.prog w =
  .ok (.slice (some ⟨g, 0, none⟩) (sLen + m) sCap) (w.setRow g (cur.toList.take sLen ++ news ++ cur.toList.drop (sLen + news.length)).toArray) := by
 have hf := run_firstCells_some (P := Tryz.prog) w i.size m a m c news (by rw [h1s]; omega) hnews
 have hst := store_m (P := Tryz.prog) g sLen e lo hh news 0 cur w hg hlo (by simpa using hfit) h1
 simp only [Nat.add_zero] at hst
 rw [h1s] at hf
 simp [Builtin.append_, run_underlying ht, sizeOf, typeInfo, hi, h1s, Builtin.lenOf, hroom, hf, Addr.add_lit, hst]
theorem room_s (w : World) (t u ty : TypeId) (i : TypeInfo) (e : TypeId) (ht : Tryz.prog.underlying t = some (.slice e)) (hu : Tryz.prog.underlying u = some .string) (hi : Tryz.prog.info? e = some i) (h1s : i.size = 1)
 (g sLen sCap lo hh : Nat) (cur : Array Value) (hg : w.heap[g]? = some (.cells cur e (lo, hh))) (hlo : cur.size ≤ lo) (S : ByteArray)
 (hroom : sLen + S.size ≤ sCap) (hfit : sLen + S.size ≤ cur.size) :
 (Builtin.append_ #[t, u] ty #[.slice (some ⟨g, 0, none⟩) sLen sCap, .string S]).run Tryz.prog w =
  .ok (.slice (some ⟨g, 0, none⟩) (sLen + S.size) sCap) (w.setRow g (cur.toList.take sLen ++ Lib.strCells S ++ cur.toList.drop (sLen + S.size)).toArray) := by
 have hf := Lib.run_firstCells_string (P := Tryz.prog) w 1 S
 have hst := store_m (P := Tryz.prog) g sLen e lo hh (Lib.strCells S) 0 cur w hg hlo (by simpa [Lib.strCells_length] using hfit) (Lib.strCells_oneCell S)
 simp only [Nat.add_zero, Lib.strCells_length] at hst
 simp [Builtin.append_, run_underlying ht, run_underlying hu, sizeOf, typeInfo, hi, h1s, Builtin.lenOf, hroom, hf, Addr.add_lit, hst]
theorem m_more {w w' : World} {B g cap lo hh : Nat} {cur : Array Value} {out bs : List UInt8} (hB : B ≤ g) (hh3 : w.heap[g]? = some (.cells cur 5 (lo, hh))) (h4 : cap ≤ lo) (h6 : cap ≤ maxLen) (h7 : cur.size = cap) (h8 : cur.toList.take out.length = valsB out) (hroom : out.length + bs.length ≤ cap)
 (hw : w' = w.setRow g (cur.toList.take out.length ++ valsB bs ++ cur.toList.drop (out.length + bs.length)).toArray) :
 OwnM B w' (.slice (some ⟨g, 0, none⟩) (out.length + bs.length) cap) (out ++ bs) ∧ w.grownBy w' (some g) := by
 subst hw
 refine ⟨.inr ⟨g, cap, _, lo, hh, by rw [List.length_append], hB, setRow_heap w g cur _ 5 _ hh3, h4, by rw [List.length_append]; exact hroom, h6, ?_, ?_⟩, ⟨rfl, rfl, rfl, by simp, fun k hk hne => setRow_other w g k _ (fun e => hne (by rw [e]))⟩⟩
 ·have hl : cur.toList.length = cap := by simpa using h7
  simp only [List.size_toArray, List.length_append, List.length_take, List.length_drop, valsB_len, hl]
  omega
 ·rw [h8, valsB_app, List.length_append]
  have hv : (valsB out ++ valsB bs).length = out.length + bs.length := by simp [valsB_len]
  show List.take _ (valsB out ++ valsB bs ++ _) = _
  rw [← hv, List.take_left]
theorem app_m {w : World} {ops : Array Oper} {rest : List Oper} {o : Oper} {a : Act} {Q : Exit → Act → World → Prop} (hgd : o.guard = none) (s x : Operand)
 (ho : o.op = .call { callee := .builtin .append, args := #[s, x], argTypes := #[22, 22] }) (B : Nat) (v : Value) (out : List UInt8) (hs : a.eval s = v) (hown : OwnM B w v out)
 (A : Option Addr) (n c : Nat) (bs : List UInt8) (hx : a.eval x = .slice A n c) (hn : n = bs.length) (hb : Byt w A bs) (hA : A = none → c = 0) (hl : out.length + bs.length ≤ 70368744177664) (hB : B ≤ w.heap.size)
 (h : ∀ v' w', OwnM B w' v' (out ++ bs) → Below B w w' → wpList Tryz.prog ops Q rest (a.put o.dst v') w') : wpList Tryz.prog ops Q (o :: rest) a w := by
 rcases hown with hown | ⟨g, cap, cur, lo, hh, rfl, hBg, h3, h4, h5, h6, h7, h8⟩
 ·exact app_b hgd s x ho B v out hs hown A n c bs hx hn hb hA hl hB fun v' w' h1 h2 => h v' w' (.inl h1) h2
 obtain ⟨i0, hi, hz0, hz1, hz2⟩ := byte_info
 have hself : (cur.toList.take out.length ++ valsB [] ++ cur.toList.drop (out.length + ([] : List UInt8).length)).toArray = cur := by simp [valsB]
 cases A with
 | none =>
  have hbs : bs = [] := by
   cases bs with
   | nil => rfl
   | cons y l => obtain ⟨b, o, e, _⟩ := hb.2 (by simp); cases e
  subst hbs
  have hc := hA rfl
  subst hc
  obtain rfl : n = 0 := hn
  refine wpList_plain hgd fun K hK => ?_
  have hr : (Builtin.append_ #[22, 22] o.type #[.slice (some ⟨g, 0, none⟩) out.length cap, .slice none 0 0]).run Tryz.prog w = .ok (.slice (some ⟨g, 0, none⟩) out.length cap) w := by
   simp [Builtin.append_, run_underlying Tryz.underlying22, sizeOf, typeInfo, hi, hz1, Builtin.lenOf, h5, Builtin.firstCells, storeCells]
  unfold Oper.wp execOp
  simp only [ho, resolve, invoke, builtin, Sem.run_bind, Sem.run_pure, Result.andThen_ok, List.map_toArray, List.map_cons, List.map_nil, hs, hx, hr]
  exact hK _ _ (h _ _ (by rw [List.append_nil]; exact .inr ⟨g, cap, cur, lo, hh, rfl, hBg, h3, h4, h5, h6, h7, h8⟩) (Below.refl _ _ |>.mono hB))
 | some ad =>
  subst hn
  by_cases hroom : out.length + bs.length ≤ cap
  ·refine wpList_plain hgd fun K hK => ?_
   have hr := room_m w 22 o.type i0 5 Tryz.underlying22 hi hz1 g out.length cap lo hh cur h3 (by omega) ad bs.length c (valsB bs) (valsB_len bs) hb.news (valsB_one bs) hroom (by rw [valsB_len]; omega)
   rw [valsB_len] at hr
   unfold Oper.wp execOp
   simp only [ho, resolve, invoke, builtin, Sem.run_bind, Sem.run_pure, Result.andThen_ok, List.map_toArray, List.map_cons, List.map_nil, hs, hx, hr]
   obtain ⟨h9, h10⟩ := m_more (bs := bs) hBg h3 h4 h6 h7 h8 hroom rfl
   exact hK _ _ (h _ _ h9 ((Below.refl _ _ |>.mono hB).grown h10 hB fun k hk => by injection hk with hk; omega))
  ·refine wpList_plain hgd fun K hK => ?_
   have hr := run_append_grow (P := Tryz.prog) w 22 o.type 5 i0 (.int .u8 0) Tryz.underlying22 hi hz0 ⟨g, 0, none⟩ out.length cap (valsB out) (by rw [hz1, valsB_len, Nat.mul_one]) (row_byt h3 h8 (by omega)).news ad bs.length c (valsB bs) (by rw [valsB_len, hz1, Nat.mul_one]) hb.news (by omega) (by omega) (growslice_fits (by omega) (by rw [hz2]; omega))
   unfold Oper.wp execOp
   simp only [ho, resolve, invoke, builtin, Sem.run_bind, Sem.run_pure, Result.andThen_ok, List.map_toArray, List.map_cons, List.map_nil, hs, hx, hr]
   have hge := grownCap_ge w (out.length + bs.length) cap 5
   refine hK _ _ (h _ _ (.inl ⟨?_, .inr ⟨w.heap.size, grownCap w (out.length + bs.length) cap 5, ((valsB out).toArray ++ (valsB bs).toArray ++ Builtin.zeroCells (Value.int IntKind.u8 0).cells (grownCap w (out.length + bs.length) cap 5 - (out.length + bs.length))), ?_, hB, heap_alloc_new w.drew _, ?_, grownCap_le_maxLen w _ _ _ (by unfold maxLen; omega), ?_, ?_⟩⟩) ((Below.refl _ _ |>.mono hB).drew.alloc hB _))
   ·rw [valsB_len, Nat.mul_one]
   ·rw [List.length_append]
   ·rw [List.length_append]; exact hge
   ·have hz : (Value.int IntKind.u8 0).cells.size = 1 := rfl
    simp only [Array.size_append, List.size_toArray, size_zeroCells, hz, valsB_len]
    omega
   ·simp only [Array.toList_append, List.append_assoc]
    rw [← List.append_assoc, valsB_app, List.take_left' (by simp [valsB_len])]
theorem app_ms {w : World} {ops : Array Oper} {rest : List Oper} {o : Oper} {a : Act} {Q : Exit → Act → World → Prop} (hgd : o.guard = none) (s x : Operand)
 (ho : o.op = .call { callee := .builtin .append, args := #[s, x], argTypes := #[22, 9] }) (B : Nat) (v : Value) (out : List UInt8) (hs : a.eval s = v) (hown : OwnM B w v out)
 (S : ByteArray) (bs : List UInt8) (hx : a.eval x = .string S) (hS : S.data.toList = bs) (hl : out.length + bs.length ≤ 70368744177664) (hB : B ≤ w.heap.size)
 (h : ∀ v' w', OwnM B w' v' (out ++ bs) → Below B w w' → wpList Tryz.prog ops Q rest (a.put o.dst v') w') : wpList Tryz.prog ops Q (o :: rest) a w := by
 rcases hown with hown | ⟨g, cap, cur, lo, hh, rfl, hBg, h3, h4, h5, h6, h7, h8⟩
 ·exact app_s hgd s x ho B v out hs hown S bs hx hS hl hB fun v' w' h1 h2 => h v' w' (.inl h1) h2
 obtain ⟨i0, hi, hz0, hz1, hz2⟩ := byte_info
 subst hS
 have hlen : S.data.toList.length = S.size := Array.length_toList
 have e : Lib.strCells S = valsB S.data.toList := rfl
 by_cases hroom : out.length + S.size ≤ cap
 ·refine wpList_plain hgd fun K hK => ?_
  have hr := room_s w 22 9 o.type i0 5 Tryz.underlying22 Tryz.underlying9 hi hz1 g out.length cap lo hh cur h3 (by omega) S hroom (by omega)
  unfold Oper.wp execOp
  simp only [ho, resolve, invoke, builtin, Sem.run_bind, Sem.run_pure, Result.andThen_ok, List.map_toArray, List.map_cons, List.map_nil, hs, hx, hr]
  obtain ⟨h9, h10⟩ := m_more (bs := S.data.toList) hBg h3 h4 h6 h7 h8 (by rw [hlen]; exact hroom) rfl
  rw [hlen, ← e] at h9 h10
  exact hK _ _ (h _ _ h9 ((Below.refl _ _ |>.mono hB).grown h10 hB fun k hk => by injection hk with hk; omega))
 ·refine wpList_plain hgd fun K hK => ?_
  have hr := Lib.run_append_grow_string (P := Tryz.prog) w 22 9 o.type 5 i0 (.int .u8 0) Tryz.underlying22 Tryz.underlying9 hi hz0 ⟨g, 0, none⟩ out.length cap (valsB out) (by rw [hz1, valsB_len, Nat.mul_one]) (row_byt h3 h8 (by omega)).news S (by omega) (by omega) (growslice_fits (by omega) (by rw [hz2]; omega))
  unfold Oper.wp execOp
  simp only [ho, resolve, invoke, builtin, Sem.run_bind, Sem.run_pure, Result.andThen_ok, List.map_toArray, List.map_cons, List.map_nil, hs, hx, hr]
  have hge := grownCap_ge w (out.length + S.size) cap 5
  rw [e]
  refine hK _ _ (h _ _ (.inl ⟨?_, .inr ⟨w.heap.size, grownCap w (out.length + S.size) cap 5, ((valsB out).toArray ++ (valsB S.data.toList).toArray ++ Builtin.zeroCells (Value.int IntKind.u8 0).cells (grownCap w (out.length + S.size) cap 5 - (out.length + S.size))), ?_, hB, heap_alloc_new w.drew _, ?_, grownCap_le_maxLen w _ _ _ (by unfold maxLen; omega), ?_, ?_⟩⟩) ((Below.refl _ _ |>.mono hB).drew.alloc hB _))
  ·rw [valsB_len, Nat.mul_one]
  ·rw [List.length_append, hlen]
  ·rw [List.length_append, hlen]; exact hge
  ·have hz : (Value.int IntKind.u8 0).cells.size = 1 := rfl
   simp only [Array.size_append, List.size_toArray, size_zeroCells, hz, valsB_len]
   omega
  ·simp only [Array.toList_append, List.append_assoc]
   rw [← List.append_assoc, valsB_app, List.take_left' (by simp [valsB_len])]
end Go.Proofs.YthffpbkndnhlfaaGreatDoor
