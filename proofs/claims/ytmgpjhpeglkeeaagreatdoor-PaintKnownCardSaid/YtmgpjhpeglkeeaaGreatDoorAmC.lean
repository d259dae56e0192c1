/- An abstract machine for closed calls, and its soundness over the given model: part C. No condition. -/
import Derived.Test.YtmgpjhpeglkeeaaGreatDoorAmB
import Derived.Laws.Tables
import Derived.Great.BuildSlice
import Derived.Laws.Runes
import Derived.Laws.IdiomStrings
import Derived.Laws.BytesArg
import Derived.Laws.AppendOwn
import Derived.Laws.IdiomCopy
import Derived.Lib.UnsafeStr
import Derived.Laws.MakeOwn
set_option linter.unusedSimpArgs false
set_option linter.unusedVariables false
namespace Go.Am
open Go

section
variable {P : Program} {N T : Nat} {ops : Array Oper} {o : Oper} {env : Env} {fr : Fr} {r : AV} {hF : Hp}
theorem guardL : (guardC P N ops o.guard = none → ∀ s : St, WantsL P N T ops o s true) ∧
    (∀ g, guardC P N ops o.guard = some (.mk g) → ∀ {s : St} {y n : Out}, g s.env s.fr y n = .ok r hF → (y = .ok r hF ∧ WantsL P N T ops o s true) ∨ (n = .ok r hF ∧ WantsL P N T ops o s false)) := by
  refine ⟨fun h s ρ a ha => ?_, fun g hg s y n e => ?_⟩
  · obtain ⟨env', fr', hr⟩ := restrict N s.env s.fr (tmpsOf ops o)
    exact (guardC_ok (T := T)).1 h env' fr' ρ a (ha.ar hr)
  · obtain ⟨env', fr', hr⟩ := restrict N s.env s.fr (tmpsOf ops o)
    have hsame : g s.env s.fr y n = g env' fr' y n := by
      cases hgd : o.guard with
      | none => rw [hgd] at hg; cases hg
      | some gw =>
        obtain ⟨j, want⟩ := gw
        rw [hgd] at hg
        cases hd : (ops[j]?).bind (·.dst) with
        | none => simp only [guardC, hd] at hg; cases hg; rfl
        | some d =>
          cases hx : opdC P N (.tmp d) with
          | mk x =>
            simp only [guardC, hd, hx] at hg; cases hg
            have hm : d ∈ tmpsOf ops o := by simp [tmpsOf, hgd, hd]
            have := opdC_same (P := P) (N := N) (env := s.env) (env' := env') (fr := s.fr) (fr' := fr') hx (fun t ht => by cases ht; rw [hr, if_pos hm])
            simp only [this]
    rw [hsame] at e
    rcases (guardC_ok (T := T)).2 g hg e with ⟨h1, h2⟩ | ⟨h1, h2⟩
    · exact .inl ⟨h1, fun ρ a ha => h2 ρ a (ha.ar hr)⟩
    · exact .inr ⟨h1, fun ρ a ha => h2 ρ a (ha.ar hr)⟩
theorem pureL (S : Spec P N T o) (hcl : clsOp P o.op = 0) {g : Call_ → Env → Fr → Hp → (AV → Hp → Out) → Out} (hg : opC P N o.op = .mk g) {call : Call_} {s : St} {h : Hp} {k : AV → Hp → Out} (e : g call s.env s.fr h k = .ok r hF) :
    ∃ v, k v h = .ok r hF ∧ ∀ ρ a w, ARL P N T ρ s.env s.fr (tmpsOf ops o) a → ∃ v', VR ρ v v' ∧ (execOp a.eval o).run P w = .ok (.value v') w := by
  obtain ⟨env', fr', hr⟩ := restrict N s.env s.fr (tmpsOf ops o)
  rw [opC_same hg (agree_of hr)] at e
  obtain ⟨v, h1, h2⟩ := S.pure hcl hg e
  exact ⟨v, h1, fun ρ a w ha => h2 ρ a w (ha.ar hr).cx⟩
theorem readL (S : Spec P N T o) (hcl : clsOp P o.op = 1) {g : Call_ → Env → Fr → Hp → (AV → Hp → Out) → Out} (hg : opC P N o.op = .mk g) {call : Call_} {s : St} {h : Hp} {k : AV → Hp → Out} (e : g call s.env s.fr h k = .ok r hF) :
    ∃ v, k v h = .ok r hF ∧ ReadL P N T ops o s.env s.fr h v := by
  obtain ⟨env', fr', hr⟩ := restrict N s.env s.fr (tmpsOf ops o)
  rw [opC_same hg (agree_of hr)] at e
  obtain ⟨v, h1, h2⟩ := S.read hcl hg e
  exact ⟨v, h1, fun ρ a w ha R => h2 ρ a w (ha.ar hr).cx R⟩
theorem madeL (S : Spec P N T o) (hcl : clsOp P o.op = 2) {g : Call_ → Env → Fr → Hp → (AV → Hp → Out) → Out} (hg : opC P N o.op = .mk g) {call : Call_} {s : St} {h : Hp} {k : AV → Hp → Out} (e : g call s.env s.fr h k = .ok r hF) :
    ∃ v el b, k v (grow h ⟨el, 0, big, b⟩) = .ok r hF ∧ ∀ ρ a w, ARL P N T ρ s.env s.fr (tmpsOf ops o) a → (∀ e, ρ h.nx e = none) → ∃ (v' : Value) (o' : Obj) (w0 : World) (cs : Nat), (execOp a.eval o).run P w = .ok (.value v') (w0.alloc o') ∧ w0.heap = w.heap ∧ w0.os = w.os ∧ w0.tape = w.tape ∧ w0.output = w.output ∧
      NewOk ρ o' cs el b ∧ VR (upd1 ρ h.nx 0 (w.heap.size, 0, cs)) v v' := by
  obtain ⟨env', fr', hr⟩ := restrict N s.env s.fr (tmpsOf ops o)
  rw [opC_same hg (agree_of hr)] at e
  obtain ⟨v, el, b, h1, h2⟩ := S.make hcl hg e
  exact ⟨v, el, b, h1, fun ρ a w ha hn => h2 ρ a w (ha.ar hr).cx hn⟩
theorem greatL (S : Spec P N T o) (hcl : 3 ≤ clsOp P o.op) {g : Call_ → Env → Fr → Hp → (AV → Hp → Out) → Out} (hg : opC P N o.op = .mk g) {call : Call_} (hc : CallOk P call) {s : St} {h : Hp} {k : AV → Hp → Out} (e : g call s.env s.fr h k = .ok r hF) :
    ∃ v h', k v h' = .ok r hF ∧ h.nx.toNat ≤ h'.nx.toNat ∧ ∀ (ro : Option Nat) ρ a w next Q, ARL P N T ρ s.env s.fr (tmpsOf ops o) a → Rel ρ h.look w → Fresh ρ h h' → (∀ ρ' v' w', VR ρ' v v' → Tr ρ h w ρ' h' w' → next (a.put o.dst v') w') → o.wpIn (wideR ro) 0 P a w next Q := by
  obtain ⟨env', fr', hr⟩ := restrict N s.env s.fr (tmpsOf ops o)
  rw [opC_same hg (agree_of hr)] at e
  obtain ⟨v, h', h1, h2, h3⟩ := S.great hcl hg hc e
  exact ⟨v, h', h1, h2, fun ro ρ a w next Q ha => h3 (ro := ro) ρ a w next Q (ha.ar hr)⟩
end
def consT {α : Type} (x : α) (f : Nat → α) : Nat → α
  | 0 => x
  | j + 1 => f j
theorem Trace.cons {P : Program} {N T : Nat} {ops : Array Oper} {l : List DI} {tr : Nat → St} {V : Nat → AV} {K : Nat → Kind} (H : Trace P N T ops l tr V K) {d : DI} {s : St} {v : AV} {κ : Kind}
    (h1 : StepK P N T ops d.o s v (tr 0) κ) (h2 : WantsL P N T ops d.o s κ.wants) (h3 : κ.fits d.cls) (h4 : (∀ t, lkp N (tr 0).env (tr 0).fr t = if d.dst = some t then some v else lkp N s.env s.fr t) ∧ ∀ t, d.dst = some t → t < T)
    (h5 : κ = .read → ∀ (m : Nat) (d' : DI), l[m]? = some d' → K m = .great → Nat.testBit d'.pre d.i = false → ReadL P N T ops d.o s.env s.fr (tr (m + 1)).h v) : Trace P N T ops (d :: l) (consT s tr) (consT v V) (consT κ K) := by
  refine ⟨fun j c hj => ?_, fun j c hj => ?_, fun j c hj => ?_, fun j c hj => ?_, fun j m c c' hjm hj hm hk hk' hp => ?_⟩
  · cases j with
    | zero => simp at hj; subst hj; exact h1
    | succ j => exact H.step j c (by simpa using hj)
  · cases j with
    | zero => simp at hj; subst hj; exact h2
    | succ j => exact H.want j c (by simpa using hj)
  · cases j with
    | zero => simp at hj; subst hj; exact h3
    | succ j => exact H.fits j c (by simpa using hj)
  · cases j with
    | zero => simp at hj; subst hj; exact h4
    | succ j => exact H.put j c (by simpa using hj)
  · cases m with
    | zero => omega
    | succ m =>
      cases j with
      | zero => simp at hj; subst hj; exact h5 hk m c' (by simpa using hm) hk' hp
      | succ j => exact H.again j m c c' (by omega) (by simpa using hj) (by simpa using hm) hk hk' hp
def PendOk (q : Pend) (Qs : Nat → (Hp → Prop) → Prop) (r : AV) (hF : Hp) : Prop := ∀ pre h k', q.runK pre h k' = .ok r hF → k' = .ok r hF ∧ ∀ i Q, Qs i Q → Nat.testBit pre i = false → Q h
theorem pend_nil (r : AV) (hF : Hp) : PendOk .nil (fun _ _ => False) r hF := fun _ _ _ e => ⟨e, fun _ _ h => h.elim⟩
theorem pend_cons {q : Pend} {Qs : Nat → (Hp → Prop) → Prop} {r : AV} {hF : Hp} (H : PendOk q Qs r hF) {i : Nat} {f : Hp → Out → Out} {Q : Hp → Prop} (hf : ∀ h k', f h k' = .ok r hF → k' = .ok r hF ∧ Q h) :
    PendOk (.cons i f q) (fun i' Q' => Qs i' Q' ∨ (i' = i ∧ Q' = Q)) r hF := by
  intro pre h k' e
  have e' : Bool.rec (motive := fun _ => Out) (f h (q.runK pre h k')) (q.runK pre h k') (Nat.testBit pre i) = .ok r hF := e
  cases hb : Nat.testBit pre i with
  | true =>
    rw [hb] at e'
    obtain ⟨h1, h2⟩ := H pre h k' e'
    refine ⟨h1, fun i' Q' hq hp => ?_⟩
    rcases hq with hq | ⟨rfl, rfl⟩
    · exact h2 i' Q' hq hp
    · rw [hb] at hp; cases hp
  | false =>
    rw [hb] at e'
    obtain ⟨h0, hQ⟩ := hf h _ e'
    obtain ⟨h1, h2⟩ := H pre h k' h0
    refine ⟨h1, fun i' Q' hq hp => ?_⟩
    rcases hq with hq | ⟨rfl, rfl⟩
    · exact h2 i' Q' hq hp
    · exact hQ
def Traced (P : Program) (N T : Nat) (ops : Array Oper) (l : List DI) (s : St) (k : Fr → Hp → Out) (r : AV) (hF : Hp) (Qs : Nat → (Hp → Prop) → Prop) : Prop :=
  ∃ tr V K, tr 0 = s ∧ k (tr l.length).fr (tr l.length).h = .ok r hF ∧ Trace P N T ops l tr V K ∧ ∀ (m : Nat) (d : DI), l[m]? = some d → K m = .great → ∀ i Q, Qs i Q → Nat.testBit d.pre i = false → Q (tr (m + 1)).h
theorem trace_ok {P : Program} {N T : Nat} {ops : Array Oper} (hs : ∀ o, Spec P N T o) {call : Call_} (hc : CallOk P call) {k : Fr → Hp → Out} {r : AV} {hF : Hp} :
    ∀ (l : List DI), (∀ d ∈ l, d.cls = clsOp P d.o.op ∧ d.dst = d.o.dst) → ∀ {f : Call_ → Env → Fr → Hp → Hp → Pend → (Fr → Hp → Out) → Out}, drsC P N T ops l = .mk f → ∀ {s : St} {q : Pend} (Qs : Nat → (Hp → Prop) → Prop), PendOk q Qs r hF →
    f call s.env s.fr s.b s.h q k = .ok r hF → Traced P N T ops l s k r hF Qs := by
  intro l
  induction l with
  | nil =>
    intro _ f hf s q Qs _ e
    cases hf
    exact ⟨fun _ => s, fun _ => .bad, fun _ => .skip, rfl, e, ⟨fun j d h => by simp at h, fun j d h => by simp at h, fun j d h => by simp at h, fun j d h => by simp at h, fun j m d d' _ h => by simp at h⟩, fun m d h => by simp at h⟩
  | cons d l ih =>
    intro hl f hf s q Qs hq e
    obtain ⟨hcls, hdst⟩ := hl d (by simp)
    have hl' : ∀ d ∈ l, d.cls = clsOp P d.o.op ∧ d.dst = d.o.dst := fun c hc => hl c (by simp [hc])
    cases hop : opC P N d.o.op with
    | mk F => cases hput : putC N T d.dst with
      | mk p => cases hr : drsC P N T ops l with
        | mk g =>
          have hf' : drC d.cls d.i d.pre (laterC d.i l) (guardC P N ops d.o.guard) (opC P N d.o.op) (putC N T d.dst) (drsC P N T ops l) = .mk f := hf
          rw [hop, hput, hr] at hf'
          -- what comes behind a step
          have next : ∀ (v : AV) (κ : Kind) (b' h' : Hp) (q' : Pend) (Qs' : Nat → (Hp → Prop) → Prop), PendOk q' Qs' r hF → (∀ i Q, Qs i Q → Qs' i Q) →
              (p v s.env s.fr fun env fr => g call env fr b' h' q' k) = .ok r hF → (∀ env' fr', StepK P N T ops d.o s v ⟨env', fr', b', h'⟩ κ) → WantsL P N T ops d.o s κ.wants → κ.fits d.cls →
              (κ = .read → Qs' d.i (fun h => ReadL P N T ops d.o s.env s.fr h v) ∨ laterC d.i l = false) → (κ = .great → ∀ i Q, Qs i Q → Nat.testBit d.pre i = false → Q h') →
              Traced P N T ops (d :: l) s k r hF Qs := by
            intro v κ b' h' q' Qs' hq' hsub e hstep hw hfit hread hgr
            obtain ⟨env', fr', e1, hlk, hlt⟩ := put_lkp hput e
            obtain ⟨tr, V, K, h0, h1, h2, h3⟩ := ih hl' hr (s := ⟨env', fr', b', h'⟩) Qs' hq' e1
            refine ⟨consT s tr, consT v V, consT κ K, rfl, h1, h2.cons (by rw [h0]; exact hstep env' fr') hw hfit (by rw [h0]; exact ⟨hlk, hlt⟩) ?_, ?_⟩
            · intro hk m d' hm hKm hp
              rcases hread hk with h | h
              · exact h3 m d' hm hKm d.i _ h hp
              · exfalso
                have hge : 3 ≤ d'.cls := by have := h2.fits m d' hm; rw [hKm] at this; exact this
                have : laterC d.i l = true := by
                  unfold laterC
                  refine List.any_eq_true.2 ⟨d', List.mem_of_getElem? hm, ?_⟩
                  simp [hp, hge]
                rw [h] at this; cases this
            · intro m c hm hKm i Q hQ hp
              cases m with
              | zero => simp at hm; subst hm; show Q (tr 0).h; rw [h0]; exact hgr hKm i Q hQ hp
              | succ m => exact h3 m c (by simpa using hm) hKm i Q (hsub i Q hQ) hp
          have skip : WantsL P N T ops d.o s false → (p (.tup []) s.env s.fr fun env fr => g call env fr s.b s.h q k) = .ok r hF → Traced P N T ops (d :: l) s k r hF Qs :=
            fun hw e => next (.tup []) .skip s.b s.h q Qs hq (fun _ _ h => h) e (fun _ _ => ⟨rfl, rfl, rfl⟩) hw trivial (fun h => by cases h) (fun h => by cases h)
          have run0 : d.cls = 0 → WantsL P N T ops d.o s true → (F call s.env s.fr s.b fun v _ => p v s.env s.fr fun env fr => g call env fr s.b s.h q k) = .ok r hF → Traced P N T ops (d :: l) s k r hF Qs := by
            intro h0 hw e
            obtain ⟨v, e1, h1⟩ := pureL (ops := ops) (hs d.o) (hcls ▸ h0) hop e
            exact next v .pure s.b s.h q Qs hq (fun _ _ h => h) e1 (fun _ _ => ⟨rfl, rfl, h1⟩) hw h0 (fun h => by cases h) (fun h => by cases h)
          have run1 : d.cls = 1 → laterC d.i l = false → WantsL P N T ops d.o s true → (F call s.env s.fr s.b fun v _ => p v s.env s.fr fun env fr => g call env fr s.b s.h q k) = .ok r hF → Traced P N T ops (d :: l) s k r hF Qs := by
            intro h0 hla hw e
            obtain ⟨v, e1, h1⟩ := readL (ops := ops) (hs d.o) (hcls ▸ h0) hop e
            exact next v .read s.b s.h q Qs hq (fun _ _ h => h) e1 (fun _ _ => ⟨rfl, rfl, h1⟩) hw h0 (fun _ => .inr hla) (fun h => by cases h)
          have run1t : d.cls = 1 → WantsL P N T ops d.o s true → (F call s.env s.fr s.b fun v _ => p v s.env s.fr fun env' fr' => g call env' fr' s.b s.h (.cons d.i (fun h k => F call s.env s.fr h fun v' _ => bc (v.beq v') k (.no 105)) q) k) = .ok r hF → Traced P N T ops (d :: l) s k r hF Qs := by
            intro h0 hw e
            obtain ⟨v, e1, h1⟩ := readL (ops := ops) (hs d.o) (hcls ▸ h0) hop e
            refine next v .read s.b s.h _ _ (pend_cons hq (Q := fun h => ReadL P N T ops d.o s.env s.fr h v) fun h k' e2 => ?_) (fun _ _ h => .inl h) e1 (fun _ _ => ⟨rfl, rfl, h1⟩) hw h0 (fun _ => .inl (.inr ⟨rfl, rfl⟩)) (fun h => by cases h)
            obtain ⟨v', e3, h3⟩ := readL (ops := ops) (hs d.o) (hcls ▸ h0) hop e2
            obtain ⟨h4, h5⟩ := bc_ok e3
            have := beq_ok _ _ h4
            subst this
            exact ⟨h5, h3⟩
          have run2 : d.cls = 2 → WantsL P N T ops d.o s true → (F call s.env s.fr s.h fun v h => p v s.env s.fr fun env fr => g call env fr s.b h q k) = .ok r hF → Traced P N T ops (d :: l) s k r hF Qs := by
            intro h0 hw e
            obtain ⟨v, el, b, e1, h1⟩ := madeL (ops := ops) (hs d.o) (hcls ▸ h0) hop e
            exact next v (.made el b) s.b _ q Qs hq (fun _ _ h => h) e1 (fun _ _ => ⟨rfl, rfl, h1⟩) hw h0 (fun h => by cases h) (fun h => by cases h)
          have run3 : 3 ≤ d.cls → WantsL P N T ops d.o s true → (F call s.env s.fr s.h fun v h => q.runK d.pre h (p v s.env s.fr fun env fr => g call env fr h h q k)) = .ok r hF → Traced P N T ops (d :: l) s k r hF Qs := by
            intro h0 hw e
            obtain ⟨v, h', e1, n1, h1⟩ := greatL (ops := ops) (hs d.o) (hcls ▸ h0) hop hc e
            obtain ⟨e2, h2⟩ := hq _ _ _ e1
            exact next v .great h' h' q Qs hq (fun _ _ h => h) e2 (fun _ _ => ⟨rfl, n1, h1⟩) hw h0 (fun h => by cases h) (fun _ i Q hQ hp => h2 i Q hQ hp)
          cases hG : guardC P N ops d.o.guard with
          | none =>
            have hw := (guardL (T := T) (r := r) (hF := hF)).1 hG s
            rw [hG] at hf'
            match hcl : d.cls, hpe : laterC d.i l with
            | 0, _ => rw [hcl, hpe] at hf'; cases hf'; exact run0 hcl hw e
            | 1, false => rw [hcl, hpe] at hf'; cases hf'; exact run1 hcl hpe hw e
            | 1, true => rw [hcl, hpe] at hf'; cases hf'; exact run1t hcl hw e
            | 2, _ => rw [hcl, hpe] at hf'; cases hf'; exact run2 hcl hw e
            | n + 3, _ => rw [hcl, hpe] at hf'; cases hf'; exact run3 (by omega) hw e
          | some gd =>
            obtain ⟨gd⟩ := gd
            have hG2 := fun {y n : Out} => (guardL (T := T) (r := r) (hF := hF)).2 gd hG (s := s) (y := y) (n := n)
            rw [hG] at hf'
            match hcl : d.cls, hpe : laterC d.i l with
            | 0, _ => rw [hcl, hpe] at hf'; cases hf'; rcases hG2 e with ⟨e1, hw⟩ | ⟨e1, hw⟩; exact run0 hcl hw e1; exact skip hw e1
            | 1, false => rw [hcl, hpe] at hf'; cases hf'; rcases hG2 e with ⟨e1, hw⟩ | ⟨e1, hw⟩; exact run1 hcl hpe hw e1; exact skip hw e1
            | 1, true => rw [hcl, hpe] at hf'; cases hf'; rcases hG2 e with ⟨e1, hw⟩ | ⟨e1, hw⟩; exact run1t hcl hw e1; exact skip hw e1
            | 2, _ => rw [hcl, hpe] at hf'; cases hf'; rcases hG2 e with ⟨e1, hw⟩ | ⟨e1, hw⟩; exact run2 hcl hw e1; exact skip hw e1
            | n + 3, _ => rw [hcl, hpe] at hf'; cases hf'; rcases hG2 e with ⟨e1, hw⟩ | ⟨e1, hw⟩; exact run3 (by omega) hw e1; exact skip hw e1
end Go.Am

namespace Go.Am
open Go

/-! ### Regions that draw their order -/
def exd (listed : Array Bool) (i : Nat) : Prop := listed.getD i false = true
theorem exd_set {listed : Array Bool} {i x : Nat} (hi : i < listed.size) : exd (listed.setIfInBounds i true) x ↔ exd listed x ∨ x = i := by
  unfold exd
  by_cases h : i = x
  · subst h; simp [hi]
  · simp [Array.getElem?_setIfInBounds_ne h, Ne.symm h]
structure Env0 (P : Program) (N T : Nat) (ops : Array Oper) (l : List DI) (tr : Nat → St) (V : Nat → AV) (K : Nat → Kind) (ρ0 : Rho) (h0 : Hp) (w0 : World) : Prop where
  ord : Order P ops l
  trc : Trace P N T ops l tr V K
  h : (tr 0).h = h0
  b : (tr 0).b = h0
  rel : Rel ρ0 h0.look w0
  fresh : Fresh ρ0 h0 (tr l.length).h
structure InvH (l : List DI) (tr : Nat → St) (K : Nat → Kind) (ρ0 : Rho) (h0 : Hp) (w0 : World) (listed : Array Bool) (q : Nat) (ρ : Rho) (g : Pth → Option Fam) (w : World) : Prop where
  qle : q ≤ l.length
  qtop : ∀ m, q = m + 1 → ∃ d, l[m]? = some d ∧ K m = .great ∧ exd listed d.i
  qall : ∀ (j : Nat) (d : DI), l[j]? = some d → K j = .great → exd listed d.i → j < q
  t : TrG ρ0 h0 w0 (tr l.length).h.nx.toNat ρ g w
  base : ∀ f F, (tr q).h.look f = some F → g f = some F
  dom : ∀ f F, (tr q).h.look f = some F → ¬ ((tr q).h.nx.toNat ≤ f.toNat ∧ f.toNat < (tr l.length).h.nx.toNat)
  ext : ∀ (j : Nat) (d : DI) el b, l[j]? = some d → K j = .made el b → exd listed d.i → q ≤ j → g (tr j).h.nx = some ⟨el, 0, big, b⟩
  fr : ∀ f e x, ρ f e = some x → h0.nx.toNat ≤ f.toNat → f.toNat < (tr l.length).h.nx.toNat → ∃ (j : Nat) (d : DI), l[j]? = some d ∧ exd listed d.i ∧ (tr j).h.nx.toNat ≤ f.toNat ∧ f.toNat < (tr (j + 1)).h.nx.toNat
def SlotIs (N : Nat) (l : List DI) (tr : Nat → St) (V : Nat → AV) (listed : Array Bool) (t : Nat) (v : AV) : Prop :=
  (∃ (j : Nat) (d : DI), l[j]? = some d ∧ exd listed d.i ∧ d.dst = some t ∧ (∀ (m : Nat) (dm : DI), l[m]? = some dm → j < m → exd listed dm.i → dm.dst ≠ some t) ∧ v = V j) ∨
  ((∀ (m : Nat) (dm : DI), l[m]? = some dm → exd listed dm.i → dm.dst ≠ some t) ∧ lkp N (tr 0).env (tr 0).fr t = some v)
structure InvS (P : Program) (N T : Nat) (l : List DI) (tr : Nat → St) (V : Nat → AV) (listed : Array Bool) (ρ : Rho) (a : Act) : Prop where
  slots : ∀ t v, SlotIs N l tr V listed t v → VR ρ v (a.tmps.getD t undef)
  down : ∀ d ∈ l, exd listed d.i → ∀ x, Nat.testBit d.pre x = true → exd listed x
  gl : Gl P ρ
  size : a.tmps.size = T
section
variable {P : Program} {N T : Nat} {ops : Array Oper} {l : List DI} {tr : Nat → St} {V : Nat → AV} {K : Nat → Kind} {ρ0 ρ : Rho} {h0 : Hp} {w0 w : World} {listed : Array Bool} {q : Nat} {g : Pth → Option Fam} {a : Act}
theorem get_of {j : Nat} (h : j < l.length) : ∃ d, l[j]? = some d := ⟨l[j], List.getElem?_eq_getElem h⟩
theorem nx_step (E : Env0 P N T ops l tr V K ρ0 h0 w0) {j : Nat} (h : j < l.length) : (tr j).h.nx.toNat ≤ (tr (j + 1)).h.nx.toNat := by
  obtain ⟨d, hd⟩ := get_of h
  have := E.trc.step j d hd
  cases hk : K j with
  | skip => rw [hk] at this; rw [this.2.1]; exact Nat.le_refl _
  | pure => rw [hk] at this; rw [this.2.1]; exact Nat.le_refl _
  | read => rw [hk] at this; rw [this.2.1]; exact Nat.le_refl _
  | made el b => rw [hk] at this; rw [this.2.1]; show _ ≤ (Pth.succ _).toNat; rw [Pth.toNat_succ]; omega
  | great => rw [hk] at this; exact this.2.1
theorem nx_made (E : Env0 P N T ops l tr V K ρ0 h0 w0) {j : Nat} (h : j < l.length) {el : Nat} {b : Body} (hk : K j = .made el b) : (tr (j + 1)).h.nx.toNat = (tr j).h.nx.toNat + 1 := by
  obtain ⟨d, hd⟩ := get_of h
  have := E.trc.step j d hd
  rw [hk] at this; rw [this.2.1]; exact Pth.toNat_succ _
theorem nx_mono (E : Env0 P N T ops l tr V K ρ0 h0 w0) {i : Nat} : ∀ {j : Nat}, i ≤ j → j ≤ l.length → (tr i).h.nx.toNat ≤ (tr j).h.nx.toNat := by
  intro j hij hj
  induction j with
  | zero => have : i = 0 := by omega
            subst this; exact Nat.le_refl _
  | succ j ih =>
    by_cases h : i = j + 1
    · subst h; exact Nat.le_refl _
    · exact Nat.le_trans (ih (by omega) (by omega)) (nx_step E (by omega))
theorem lt_of_get {j : Nat} {d : DI} (h : l[j]? = some d) : j < l.length := (List.getElem?_eq_some_iff.1 h).1
theorem idx_inj (E : Env0 P N T ops l tr V K ρ0 h0 w0) {j m : Nat} {d c : DI} (hj : l[j]? = some d) (hm : l[m]? = some c) (h : d.i = c.i) : j = m := by
  rcases Nat.lt_trichotomy j m with h1 | h1 | h1
  · exact absurd h (E.ord.pair j m d c h1 hj hm).ne
  · exact h1
  · exact absurd h.symm (E.ord.pair m j c d h1 hm hj).ne
theorem fits_of (E : Env0 P N T ops l tr V K ρ0 h0 w0) {j : Nat} {d : DI} (hj : l[j]? = some d) {κ : Kind} (hk : K j = κ) : κ.fits d.cls := by have := E.trc.fits j d hj; rw [hk] at this; exact this
/-- what a step of the machine finds that has come from q to j without a great operation -/
theorem look_from (E : Env0 P N T ops l tr V K ρ0 h0 w0) : ∀ {j : Nat}, q ≤ j → j ≤ l.length → (∀ m, q ≤ m → m < j → K m ≠ .great) → (tr j).b = (tr q).b ∧ ∀ f F, (tr j).h.look f = some F → (tr q).h.look f = some F ∨ ∃ m el b, q ≤ m ∧ m < j ∧ K m = .made el b ∧ f = (tr m).h.nx ∧ F = ⟨el, 0, big, b⟩ := by
  intro j hq hj hno
  induction j with
  | zero => have : q = 0 := by omega
            subst this; exact ⟨rfl, fun f F h => .inl h⟩
  | succ j ih =>
    by_cases h : q = j + 1
    · subst h; exact ⟨rfl, fun f F h => .inl h⟩
    · obtain ⟨h1, h2⟩ := ih (by omega) (by omega) (fun m a b => hno m a (by omega))
      obtain ⟨d, hd⟩ := get_of (l := l) (j := j) (by omega)
      have hs := E.trc.step j d hd
      have wk : ∀ f F, (tr j).h.look f = some F → (tr q).h.look f = some F ∨ ∃ m el b, q ≤ m ∧ m < j + 1 ∧ K m = .made el b ∧ f = (tr m).h.nx ∧ F = ⟨el, 0, big, b⟩ := by
        intro f F hF
        rcases h2 f F hF with h | ⟨m, el, b, a1, a2, a3⟩
        · exact .inl h
        · exact .inr ⟨m, el, b, a1, by omega, a3⟩
      cases hk : K j with
      | skip => rw [hk] at hs; exact ⟨hs.1.trans h1, fun f F hF => wk f F (by rw [hs.2.1] at hF; exact hF)⟩
      | pure => rw [hk] at hs; exact ⟨hs.1.trans h1, fun f F hF => wk f F (by rw [hs.2.1] at hF; exact hF)⟩
      | read => rw [hk] at hs; exact ⟨hs.1.trans h1, fun f F hF => wk f F (by rw [hs.2.1] at hF; exact hF)⟩
      | made el b =>
        rw [hk] at hs
        refine ⟨hs.1.trans h1, fun f F hF => ?_⟩
        rw [hs.2.1, look_grow] at hF
        simp only at hF
        split at hF
        · rename_i hf; cases hF; exact .inr ⟨j, el, b, by omega, by omega, hk, hf, rfl⟩
        · exact wk f F hF
      | great => exact absurd hk (hno j (by omega) (by omega))
theorem base_eq (E : Env0 P N T ops l tr V K ρ0 h0 w0) (I : InvH l tr K ρ0 h0 w0 listed q ρ g w) : (tr q).b = (tr q).h := by
  cases q with
  | zero => rw [E.b, E.h]
  | succ m =>
    obtain ⟨d, hd, hk, _⟩ := I.qtop m rfl
    have := E.trc.step m d hd
    rw [hk] at this; exact this.1
theorem fresh0 (E : Env0 P N T ops l tr V K ρ0 h0 w0) : ∀ f e, h0.nx.toNat ≤ f.toNat → f.toNat < (tr l.length).h.nx.toNat → ρ0 f e = none := E.fresh
/-- no place is named in the stretch of a step that has not been made -/
theorem none_at (E : Env0 P N T ops l tr V K ρ0 h0 w0) (I : InvH l tr K ρ0 h0 w0 listed q ρ g w) {j : Nat} {d : DI} (hj : l[j]? = some d) (hne : ¬ exd listed d.i) {f : Pth} (h1 : (tr j).h.nx.toNat ≤ f.toNat) (h2 : f.toNat < (tr (j + 1)).h.nx.toNat) (e : Nat) : ρ f e = none := by
  cases hx : ρ f e with
  | none => rfl
  | some x =>
    exfalso
    have hjl := lt_of_get hj
    have a1 := nx_mono E (i := 0) (j := j) (by omega) (by omega)
    have a2 := nx_mono E (i := j + 1) (j := l.length) (by omega) (by omega)
    rw [E.h] at a1
    obtain ⟨m, c, hm, hex, b1, b2⟩ := I.fr f e x hx (by omega) (by omega)
    have hml := lt_of_get hm
    rcases Nat.lt_trichotomy j m with h | h | h
    · have := nx_mono E (i := j + 1) (j := m) (by omega) (by omega); omega
    · subst h; rw [hj] at hm; cases hm; exact hne hex
    · have := nx_mono E (i := m + 1) (j := j) (by omega) (by omega); omega
theorem InvH.plain (E : Env0 P N T ops l tr V K ρ0 h0 w0) (I : InvH l tr K ρ0 h0 w0 listed q ρ g w) {j : Nat} {d : DI} (hj : l[j]? = some d) (hi : d.i < listed.size) (hk1 : K j ≠ .great) (hk2 : ∀ el b, K j ≠ .made el b) : InvH l tr K ρ0 h0 w0 (listed.setIfInBounds d.i true) q ρ g w := by
  refine ⟨I.qle, fun m hm => ?_, fun m c hm hk hex => ?_, I.t, I.base, I.dom, fun m c el b hm hk hex hq => ?_, fun f e x h1 h2 h3 => ?_⟩
  · obtain ⟨c, h1, h2, h3⟩ := I.qtop m hm
    exact ⟨c, h1, h2, (exd_set hi).2 (.inl h3)⟩
  · rcases (exd_set hi).1 hex with h | h
    · exact I.qall m c hm hk h
    · have := idx_inj E hm hj h; subst this; exact absurd hk hk1
  · rcases (exd_set hi).1 hex with h | h
    · exact I.ext m c el b hm hk h hq
    · have := idx_inj E hm hj h; subst this; exact absurd hk (hk2 el b)
  · obtain ⟨m, c, a1, a2, a3⟩ := I.fr f e x h1 h2 h3
    exact ⟨m, c, a1, (exd_set hi).2 (.inl a2), a3⟩
/-- a great operation that has been made stands ahead of j: then j had to come ahead of it -/
theorem q_le (_E : Env0 P N T ops l tr V K ρ0 h0 w0) (I : InvH l tr K ρ0 h0 w0 listed q ρ g w) {j : Nat} {d : DI} (hj : l[j]? = some d) (hne : ¬ exd listed d.i)
    (hp : ∀ (m : Nat) (c : DI), j < m → l[m]? = some c → K m = .great → exd listed c.i → False) : q ≤ j := by
  rcases Nat.lt_or_ge j q with h | h
  · exfalso
    obtain ⟨m, rfl⟩ : ∃ m, q = m + 1 := ⟨q - 1, by omega⟩
    obtain ⟨c, hm, hk, hex⟩ := I.qtop m rfl
    by_cases hjm : j = m
    · subst hjm; rw [hj] at hm; cases hm; exact hne hex
    · exact hp m c (by omega) hm hk hex
  · exact h
end
end Go.Am

namespace Go.Am
open Go
section
variable {P : Program} {N T : Nat} {ops : Array Oper} {l : List DI} {tr : Nat → St} {V : Nat → AV} {K : Nat → Kind} {ρ0 ρ ρ' : Rho} {h0 : Hp} {w0 w w' : World} {listed : Array Bool} {q : Nat} {g : Pth → Option Fam} {a : Act}
theorem made_q (E : Env0 P N T ops l tr V K ρ0 h0 w0) (I : InvH l tr K ρ0 h0 w0 listed q ρ g w) (S : InvS P N T l tr V listed ρ a) {j : Nat} {d : DI} (hj : l[j]? = some d) (hne : ¬ exd listed d.i) {el : Nat} {b : Body} (hk : K j = .made el b) : q ≤ j := by
  refine q_le E I hj hne fun m c hjm hm hkm hex => hne ?_
  have h1 : d.cls = 2 := fits_of E hj hk
  have h2 : 3 ≤ c.cls := fits_of E hm hkm
  exact S.down c (List.mem_of_getElem? hm) hex _ ((E.ord.pair j m d c hjm hj hm).made h2 h1)
theorem great_q (E : Env0 P N T ops l tr V K ρ0 h0 w0) (I : InvH l tr K ρ0 h0 w0 listed q ρ g w) (S : InvS P N T l tr V listed ρ a) {j : Nat} {d : DI} (hj : l[j]? = some d) (hne : ¬ exd listed d.i) (hk : K j = .great) : q ≤ j := by
  refine q_le E I hj hne fun m c hjm hm hkm hex => hne ?_
  have h1 : 3 ≤ d.cls := fits_of E hj hk
  have h2 : 3 ≤ c.cls := fits_of E hm hkm
  exact S.down c (List.mem_of_getElem? hm) hex _ ((E.ord.pair j m d c hjm hj hm).great (.inr h2) h1)
theorem no_great (E : Env0 P N T ops l tr V K ρ0 h0 w0) (I : InvH l tr K ρ0 h0 w0 listed q ρ g w) {j : Nat} {d : DI} (hj : l[j]? = some d) (hpre : ∀ x, Nat.testBit d.pre x = true → exd listed x) (hc : d.cls = 1 ∨ 3 ≤ d.cls) : ∀ m, q ≤ m → m < j → K m ≠ .great := by
  intro m hq hm hk
  have hjl := lt_of_get hj
  obtain ⟨c, hcm⟩ := get_of (l := l) (j := m) (by omega)
  have h2 : 3 ≤ c.cls := fits_of E hcm hk
  have := I.qall m c hcm hk (hpre _ ((E.ord.pair m j c d hm hcm hj).great hc h2))
  omega
theorem InvH.made (E : Env0 P N T ops l tr V K ρ0 h0 w0) (I : InvH l tr K ρ0 h0 w0 listed q ρ g w) (S : InvS P N T l tr V listed ρ a) {j : Nat} {d : DI} (hj : l[j]? = some d) (hi : d.i < listed.size) (hne : ¬ exd listed d.i) {el : Nat} {b : Body} (hk : K j = .made el b)
    {w1 : World} (hw : w1.heap = w.heap) (hos : w1.os = w.os) (ht : w1.tape = w.tape) (hout : w1.output = w.output) {o : Obj} {cs : Nat} (hN : NewOk ρ o cs el b) :
    InvH l tr K ρ0 h0 w0 (listed.setIfInBounds d.i true) q (upd1 ρ (tr j).h.nx 0 (w.heap.size, 0, cs)) (fun f => if f = (tr j).h.nx then some ⟨el, 0, big, b⟩ else g f) (w1.alloc o) := by
  have hjl := lt_of_get hj
  have hgrow := nx_made E hjl hk
  have hq := made_q E I S hj hne hk
  have hnone : ∀ e, ρ (tr j).h.nx e = none := none_at E I hj hne (Nat.le_refl _) (by omega)
  have hhi := nx_mono E (i := j + 1) (j := l.length) (by omega) (by omega)
  have hlo := nx_mono E (i := 0) (j := j) (by omega) (by omega)
  rw [E.h] at hlo
  refine ⟨I.qle, fun m hm => ?_, fun m c hm hkm hex => ?_, I.t.alloc hw hos ht hout hnone ⟨hlo, by omega⟩ hN, fun f F hF => ?_, I.dom, fun m c el' b' hm hkm hex hqm => ?_, fun f e x h1 h2 h3 => ?_⟩
  · obtain ⟨c, h1, h2, h3⟩ := I.qtop m hm
    exact ⟨c, h1, h2, (exd_set hi).2 (.inl h3)⟩
  · rcases (exd_set hi).1 hex with h | h
    · exact I.qall m c hm hkm h
    · have := idx_inj E hm hj h; subst this; rw [hk] at hkm; cases hkm
  · show (if f = (tr j).h.nx then _ else g f) = _
    by_cases hf : f = (tr j).h.nx
    · subst hf
      obtain ⟨x, hx⟩ := (I.t.rel.fam _ F (I.base _ F hF)).cur
      rw [hnone] at hx; cases hx
    · rw [if_neg hf]; exact I.base f F hF
  · show (if (tr m).h.nx = (tr j).h.nx then _ else g _) = _
    rcases (exd_set hi).1 hex with h | h
    · have hmj : m ≠ j := fun he => by subst he; rw [hj] at hm; cases hm; exact hne h
      have hml := lt_of_get hm
      have hg2 := nx_made E hml hkm
      have : (tr m).h.nx ≠ (tr j).h.nx := by
        intro he
        rcases Nat.lt_or_gt_of_ne hmj with h4 | h4
        · have := nx_mono E (i := m + 1) (j := j) (by omega) (by omega); rw [← he] at this; omega
        · have := nx_mono E (i := j + 1) (j := m) (by omega) (by omega); rw [he] at this; omega
      rw [if_neg this]
      exact I.ext m c el' b' hm hkm h hqm
    · have := idx_inj E hm hj h; subst this
      rw [hk] at hkm; cases hkm
      rw [if_pos rfl]
  · rcases upd1_inv h1 with ⟨a1, _, _⟩ | a1
    · subst a1; exact ⟨j, d, hj, (exd_set hi).2 (.inr rfl), Nat.le_refl _, by omega⟩
    · obtain ⟨m, c, b1, b2, b3⟩ := I.fr f e x a1 h2 h3
      exact ⟨m, c, b1, (exd_set hi).2 (.inl b2), b3⟩
theorem look_g (E : Env0 P N T ops l tr V K ρ0 h0 w0) (I : InvH l tr K ρ0 h0 w0 listed q ρ g w) {j : Nat} (hq : q ≤ j) (hj : j ≤ l.length) (hno : ∀ m, q ≤ m → m < j → K m ≠ .great)
    (hm : ∀ (m : Nat) (c : DI) el b, q ≤ m → m < j → l[m]? = some c → K m = .made el b → exd listed c.i) : ∀ f F, (tr j).h.look f = some F → g f = some F := by
  intro f F hF
  rcases (look_from E hq hj hno).2 f F hF with h | ⟨m, el, b, a1, a2, a3, rfl, rfl⟩
  · exact I.base f F h
  · obtain ⟨c, hc⟩ := get_of (l := l) (j := m) (by omega)
    exact I.ext m c el b hc a3 (hm m c el b a1 a2 hc a3) a1
theorem InvH.great (E : Env0 P N T ops l tr V K ρ0 h0 w0) (I : InvH l tr K ρ0 h0 w0 listed q ρ g w) (S : InvS P N T l tr V listed ρ a) {j : Nat} {d : DI} (hj : l[j]? = some d) (hi : d.i < listed.size) (hne : ¬ exd listed d.i)
    (hpre : ∀ x, Nat.testBit d.pre x = true → exd listed x) (hk : K j = .great) : Rel ρ (tr j).h.look w ∧ Fresh ρ (tr j).h (tr (j + 1)).h ∧
    ∀ ρ' w', Tr ρ (tr j).h w ρ' (tr (j + 1)).h w' → ∃ g', InvH l tr K ρ0 h0 w0 (listed.setIfInBounds d.i true) (j + 1) ρ' g' w' := by
  have hjl := lt_of_get hj
  have hcls : 3 ≤ d.cls := fits_of E hj hk
  have hq := great_q E I S hj hne hk
  have hno := no_great E I hj hpre (.inr hcls)
  have hsub := look_g E I hq (by omega) hno fun m c el b h1 h2 h3 h4 => hpre _ ((E.ord.pair m j c d h2 h3 hj).made hcls (fits_of E h3 h4))
  have K1 : Fresh ρ (tr j).h (tr (j + 1)).h := fun f e h1 h2 => none_at E I hj hne h1 h2 e
  refine ⟨I.t.rel.sub hsub, K1, fun ρ' w' u => ?_⟩
  have hlo := nx_mono E (i := 0) (j := j) (by omega) (by omega)
  rw [E.h] at hlo
  have hhi := nx_mono E (i := j + 1) (j := l.length) (by omega) (by omega)
  have hst := nx_step E hjl
  have hqn := nx_mono E (i := q) (j := j) hq (by omega)
  -- what stands in the heap ahead of j has an old name
  have hdom : ∀ f F, (tr j).h.look f = some F → ¬ ((tr j).h.nx.toNat ≤ f.toNat ∧ f.toNat < (tr l.length).h.nx.toNat) := by
    intro f F hF hr
    rcases (look_from E hq (by omega) hno).2 f F hF with h | ⟨m, el, b, a1, a2, a3, rfl, rfl⟩
    · exact I.dom f F h ⟨by omega, hr.2⟩
    · have h1 := nx_made E (j := m) (by omega) a3
      have h2 := nx_mono E (i := m + 1) (j := j) (by omega) (by omega)
      omega
  let X : Pth → Prop := fun f => ∃ (m : Nat) (c : DI) (el : Nat) (b : Body), l[m]? = some c ∧ K m = .made el b ∧ exd listed c.i ∧ j < m ∧ f = (tr m).h.nx
  have hXr : ∀ f, X f → (tr (j + 1)).h.nx.toNat ≤ f.toNat ∧ f.toNat < (tr l.length).h.nx.toNat := by
    rintro f ⟨m, c, el, b, h1, h2, h3, h4, rfl⟩
    have hml := lt_of_get h1
    have a1 := nx_made E hml h2
    have a2 := nx_mono E (i := m + 1) (j := l.length) (by omega) (by omega)
    have a3 := nx_mono E (i := j + 1) (j := m) (by omega) (by omega)
    omega
  have hX : ∀ f, X f → (tr j).h.look f = none ∧ ¬ ((tr j).h.nx.toNat ≤ f.toNat ∧ f.toNat < (tr (j + 1)).h.nx.toNat) := by
    intro f hx
    have := hXr f hx
    refine ⟨?_, by omega⟩
    cases hF : (tr j).h.look f with
    | none => rfl
    | some F => exact absurd ⟨by omega, by omega⟩ (hdom f F hF)
  have hdom' : ∀ f F, (tr (j + 1)).h.look f = some F → ¬ ((tr (j + 1)).h.nx.toNat ≤ f.toNat ∧ f.toNat < (tr l.length).h.nx.toNat) := by
    intro f F hF hr
    rcases u.live f F hF with ⟨F0, h⟩ | ⟨h1, h2⟩
    · exact hdom f F0 h ⟨by omega, hr.2⟩
    · omega
  have hjoin : ∀ f, ¬ X f → joinG X g (tr (j + 1)).h f = (tr (j + 1)).h.look f := fun f hx => by unfold joinG; rw [if_neg hx]
  refine ⟨joinG X g (tr (j + 1)).h, by omega, fun m hm => ?_, fun m c hm hkm hex => ?_, I.t.major (fresh0 E) hsub K1 u hlo hhi hX, fun f F hF => ?_, hdom', fun m c el b hm hkm hex hqm => ?_, fun f e x h1 h2 h3 => ?_⟩
  · have : m = j := by omega
    subst this
    exact ⟨d, hj, hk, (exd_set hi).2 (.inr rfl)⟩
  · rcases (exd_set hi).1 hex with h | h
    · have := I.qall m c hm hkm h; omega
    · have := idx_inj E hm hj h; omega
  · rw [hjoin f fun hx => hdom' f F hF (hXr f hx)]; exact hF
  · rcases (exd_set hi).1 hex with h | h
    · have hx : X (tr m).h.nx := ⟨m, c, el, b, hm, hkm, h, by omega, rfl⟩
      unfold joinG
      rw [if_pos hx]
      exact I.ext m c el b hm hkm h (by omega)
    · have := idx_inj E hm hj h; omega
  · cases hr : ρ f e with
    | some y =>
      obtain ⟨m, c, b1, b2, b3⟩ := I.fr f e y hr h2 h3
      exact ⟨m, c, b1, (exd_set hi).2 (.inl b2), b3⟩
    | none =>
      rcases (u.new f e x h1 hr).1 with h4 | ⟨F, h4⟩
      · exact ⟨j, d, hj, (exd_set hi).2 (.inr rfl), h4⟩
      · obtain ⟨y, hy⟩ := (I.t.rel.fam f F (hsub f F h4)).cur
        obtain ⟨m, c, b1, b2, b3⟩ := I.fr f _ y hy h2 h3
        exact ⟨m, c, b1, (exd_set hi).2 (.inl b2), b3⟩

/-! the slots -/
theorem look_slot (E : Env0 P N T ops l tr V K ρ0 h0 w0) {t : Nat} {v : AV} : ∀ {j : Nat}, j ≤ l.length → lkp N (tr j).env (tr j).fr t = some v →
    (∃ (i : Nat) (d : DI), i < j ∧ l[i]? = some d ∧ d.dst = some t ∧ (∀ (m : Nat) (dm : DI), l[m]? = some dm → i < m → m < j → dm.dst ≠ some t) ∧ v = V i) ∨ ((∀ (m : Nat) (dm : DI), l[m]? = some dm → m < j → dm.dst ≠ some t) ∧ lkp N (tr 0).env (tr 0).fr t = some v) := by
  intro j hj h
  induction j with
  | zero => exact .inr ⟨fun m dm _ hm => by omega, h⟩
  | succ j ih =>
    obtain ⟨d, hd⟩ := get_of (l := l) (j := j) (by omega)
    rw [(E.trc.put j d hd).1 t] at h
    split at h
    · rename_i hdst
      cases h
      exact .inl ⟨j, d, by omega, hd, hdst, fun m dm _ h1 h2 => by omega, rfl⟩
    · rename_i hdst
      rcases ih (by omega) h with ⟨i, c, h1, h2, h3, h4, h5⟩ | ⟨h1, h2⟩
      · refine .inl ⟨i, c, by omega, h2, h3, fun m dm hm a1 a2 => ?_, h5⟩
        by_cases hmj : m = j
        · subst hmj; rw [hd] at hm; cases hm; exact hdst
        · exact h4 m dm hm a1 (by omega)
      · refine .inr ⟨fun m dm hm a1 => ?_, h2⟩
        by_cases hmj : m = j
        · subst hmj; rw [hd] at hm; cases hm; exact hdst
        · exact h1 m dm hm (by omega)
/-- what stands behind j in the order, and has been made, writes nothing that j looks at or writes -/
theorem later_dst (E : Env0 P N T ops l tr V K ρ0 h0 w0) (S : InvS P N T l tr V listed ρ a) {j : Nat} {d : DI} (hj : l[j]? = some d) (hne : ¬ exd listed d.i) {t : Nat} (ht : t ∈ tmpsOf ops d.o ∨ d.o.dst = some t)
    {m : Nat} {c : DI} (hm : l[m]? = some c) (hjm : j < m) (hex : exd listed c.i) : c.dst ≠ some t := by
  intro hc
  rcases (E.ord.pair j m d c hjm hj hm).apart with h | h
  · exact hne (S.down c (List.mem_of_getElem? hm) hex _ h)
  · unfold apartOk at h
    rw [hc] at h
    simp only [Bool.and_eq_true] at h
    have := (E.ord.nm d (List.mem_of_getElem? hj) t).2 ht
    rw [this] at h
    exact absurd h.2 (by simp)
theorem InvS.arl (E : Env0 P N T ops l tr V K ρ0 h0 w0) (S : InvS P N T l tr V listed ρ a) {j : Nat} {d : DI} (hj : l[j]? = some d) (hne : ¬ exd listed d.i) (hpre : ∀ x, Nat.testBit d.pre x = true → exd listed x) :
    ARL P N T ρ (tr j).env (tr j).fr (tmpsOf ops d.o) a := by
  refine ⟨fun t ht v hv => S.slots t v ?_, S.gl, S.size⟩
  have hjl := lt_of_get hj
  have hlater : ∀ (m : Nat) (c : DI), l[m]? = some c → j ≤ m → exd listed c.i → c.dst ≠ some t := by
    intro m c hm hjm hex
    by_cases he : j = m
    · subst he; rw [hj] at hm; cases hm; exact absurd hex hne
    · exact later_dst E S hj hne (.inl ht) hm (by omega) hex
  rcases look_slot E (by omega) hv with ⟨i, c, h1, h2, h3, h4, h5⟩ | ⟨h1, h2⟩
  · have hex : exd listed c.i := by
      rcases (E.ord.pair i j c d h1 h2 hj).apart with h | h
      · exact hpre _ h
      · unfold apartOk at h
        rw [h3] at h
        simp only [Bool.and_eq_true] at h
        have := (E.ord.nm d (List.mem_of_getElem? hj) t).2 (.inl ht)
        rw [this] at h
        exact absurd h.1 (by simp)
    refine .inl ⟨i, c, h2, hex, h3, fun m dm hm a1 a2 => ?_, h5⟩
    rcases Nat.lt_or_ge m j with h | h
    · exact h4 m dm hm a1 h
    · exact hlater m dm hm h a2
  · refine .inr ⟨fun m dm hm a1 => ?_, h2⟩
    rcases Nat.lt_or_ge m j with h | h
    · exact h1 m dm hm h
    · exact hlater m dm hm h a1
theorem InvS.next (E : Env0 P N T ops l tr V K ρ0 h0 w0) (S : InvS P N T l tr V listed ρ a) {j : Nat} {d : DI} (hj : l[j]? = some d) (hi : d.i < listed.size) (hne : ¬ exd listed d.i) (hpre : ∀ x, Nat.testBit d.pre x = true → exd listed x)
    (hle : Le ρ ρ') {v' : Value} (hv : VR ρ' (V j) v') : InvS P N T l tr V (listed.setIfInBounds d.i true) ρ' (a.put d.o.dst v') := by
  have hdst := E.ord.dst d (List.mem_of_getElem? hj)
  refine ⟨fun t v hs => ?_, fun c hc hex x hx => ?_, S.gl.mono hle, ?_⟩
  · by_cases ht : d.o.dst = some t
    · have hlt : t < a.tmps.size := by rw [S.size]; exact (E.trc.put j d hj).2 t (by rw [hdst]; exact ht)
      have : (a.put d.o.dst v').tmps.getD t undef = v' := by
        rw [ht]; show (a.tmps.setIfInBounds t v').getD t undef = v'
        rw [getD_put hlt, if_pos rfl]
      rw [this]
      have hjex : exd (listed.setIfInBounds d.i true) d.i := (exd_set hi).2 (.inr rfl)
      rcases hs with ⟨i, c, h1, h2, h3, h4, h5⟩ | ⟨h1, _⟩
      · rcases Nat.lt_trichotomy i j with h | h | h
        · exact absurd (by rw [hdst]; exact ht) (h4 j d hj h hjex)
        · subst h; rw [h5]; exact hv
        · rcases (exd_set hi).1 h2 with h6 | h6
          · exact absurd h3 (later_dst E S hj hne (.inr ht) h1 h h6)
          · have := idx_inj E h1 hj h6; omega
      · exact absurd (by rw [hdst]; exact ht) (h1 j d hj hjex)
    · have : (a.put d.o.dst v').tmps.getD t undef = a.tmps.getD t undef := by
        cases hd : d.o.dst with
        | none => rfl
        | some u =>
          have hne' : u ≠ t := fun he => ht (by rw [hd, he])
          show (a.tmps.setIfInBounds u v').getD t undef = _
          by_cases hu : u < a.tmps.size
          · rw [getD_put hu, if_neg (Ne.symm hne')]
          · rw [Array.setIfInBounds_eq_of_size_le (Nat.le_of_not_lt hu)]
      rw [this]
      refine VR.mono hle _ _ (S.slots t v ?_)
      have hdn : d.dst ≠ some t := by rw [hdst]; exact ht
      rcases hs with ⟨i, c, h1, h2, h3, h4, h5⟩ | ⟨h1, h2⟩
      · refine .inl ⟨i, c, h1, ?_, h3, fun m dm hm a1 a2 => h4 m dm hm a1 ((exd_set hi).2 (.inl a2)), h5⟩
        rcases (exd_set hi).1 h2 with h6 | h6
        · exact h6
        · have := idx_inj E h1 hj h6; subst this; rw [hj] at h1; cases h1; exact absurd h3 hdn
      · exact .inr ⟨fun m dm hm a1 => h1 m dm hm ((exd_set hi).2 (.inl a1)), h2⟩
  · rcases (exd_set hi).1 hex with h | h
    · exact (exd_set hi).2 (.inl (S.down c hc h x hx))
    · obtain ⟨m, hm⟩ := List.getElem?_of_mem hc
      have := idx_inj E hm hj h; subst this; rw [hj] at hm; cases hm
      exact (exd_set hi).2 (.inl (hpre x hx))
  · cases d.o.dst with
    | none => exact S.size
    | some u => show (a.tmps.setIfInBounds u v').size = T; rw [Array.size_setIfInBounds]; exact S.size
end
end Go.Am

namespace Go.Am
open Go
section
variable {P : Program} {N T : Nat} {ops : Array Oper} {l : List DI} {tr : Nat → St} {V : Nat → AV} {K : Nat → Kind} {ρ0 ρ ρ' : Rho} {h0 : Hp} {w0 w w' : World} {listed : Array Bool} {q : Nat} {g : Pth → Option Fam} {a : Act}
def Inv (ds : List Deferred) (P : Program) (N T : Nat) (l : List DI) (tr : Nat → St) (V : Nat → AV) (K : Nat → Kind) (ρ0 : Rho) (h0 : Hp) (w0 : World) (listed : Array Bool) (a : Act) (w : World) : Prop :=
  ∃ q ρ g, InvH l tr K ρ0 h0 w0 listed q ρ g w ∧ InvS P N T l tr V listed ρ a ∧ a.defers = ds
theorem take_op {ro : Option Nat} {ds : List Deferred} (E : Env0 P N T ops l tr V K ρ0 h0 w0) (hsz : listed.size = ops.size) (I : Inv ds P N T l tr V K ρ0 h0 w0 listed a w) {Q : Exit → Act → World → Prop} {i : Nat} (hi : i ∈ Region.ready .any ops listed) :
    wpOpIn (wideR ro) 0 P ops Q i (Inv ds P N T l tr V K ρ0 h0 w0 (listed.setIfInBounds i true)) a w := by
  obtain ⟨q, ρ, g, IH, IS, hds⟩ := I
  obtain ⟨hun, o, ho, hall⟩ := mem_ready.1 hi
  have hilt : i < ops.size := (Array.getElem?_eq_some_iff.1 ho).1
  obtain ⟨d, hd, rfl⟩ := E.ord.all i hilt
  have : d.o = o := by have := E.ord.op d hd; rw [ho] at this; cases this; rfl
  subst this
  have hlt : d.i < listed.size := by omega
  have hne : ¬ exd listed d.i := by
    unfold exd
    intro h
    simp [hlt] at hun h
    rw [hun] at h; cases h
  have hpre : ∀ x, Nat.testBit d.pre x = true → exd listed x := by
    intro x hx
    obtain ⟨e, he, hb, h⟩ := E.ord.trans d hd x hx
    rcases h with rfl | ⟨c, hc, hci, h⟩
    · exact hall e he hb
    · exact IS.down c hc (by rw [hci]; exact hall e he hb) x h
  obtain ⟨j, hj⟩ := List.getElem?_of_mem hd
  have hA := IS.arl E hj hne hpre
  have hw := E.trc.want j d hj ρ a hA
  have hstep := E.trc.step j d hj
  have hdp : ∀ v, (a.put d.o.dst v).defers = ds := fun v => (put_dfr a d.o.dst v).trans hds
  unfold wpOpIn
  simp only [ho, hw]
  cases hk : K j with
  | skip =>
    rw [hk] at hstep
    simp only [Kind.wants, Bool.false_eq_true, if_false]
    refine ⟨fun _ _ => trivial, q, ρ, g, IH.plain E hj hlt (by rw [hk]; simp) (by rw [hk]; simp), IS.next E hj hlt hne hpre (Le.refl ρ) ?_, hdp _⟩
    rw [hstep.2.2]; exact ⟨#[], rfl, trivial⟩
  | pure =>
    rw [hk] at hstep
    simp only [Kind.wants, if_true]
    obtain ⟨v', h1, h2⟩ := hstep.2.2 ρ a w hA
    exact value_wp h2 ⟨q, ρ, g, IH.plain E hj hlt (by rw [hk]; simp) (by rw [hk]; simp), IS.next E hj hlt hne hpre (Le.refl ρ) h1, hdp _⟩
  | read =>
    rw [hk] at hstep
    simp only [Kind.wants, if_true]
    have hcls : d.cls = 1 := fits_of E hj hk
    have hno := no_great E IH hj hpre (.inl hcls)
    have hread : ReadL P N T ops d.o (tr j).env (tr j).fr (tr q).h (V j) := by
      rcases Nat.lt_or_ge j q with hlt2 | hge
      · obtain ⟨m, rfl⟩ : ∃ m, q = m + 1 := ⟨q - 1, by omega⟩
        obtain ⟨c, hm, hkm, hex⟩ := IH.qtop m rfl
        have hjm : j ≠ m := fun he => by subst he; rw [hk] at hkm; cases hkm
        refine E.trc.again j m d c (by omega) hj hm hk hkm ?_
        cases hb : Nat.testBit c.pre d.i with
        | false => rfl
        | true => exact absurd (IS.down c (List.mem_of_getElem? hm) hex _ hb) hne
      · have hb := (look_from E hge (Nat.le_of_lt (lt_of_get hj)) hno).1
        have := hstep.2.2
        rw [hb, base_eq E IH] at this
        exact this
    obtain ⟨v', h1, h2⟩ := hread ρ a w hA (IH.t.rel.sub IH.base)
    exact value_wp h2 ⟨q, ρ, g, IH.plain E hj hlt (by rw [hk]; simp) (by rw [hk]; simp), IS.next E hj hlt hne hpre (Le.refl ρ) h1, hdp _⟩
  | made el b =>
    rw [hk] at hstep
    simp only [Kind.wants, if_true]
    have hgrow := nx_made E (lt_of_get hj) hk
    have hnone : ∀ e, ρ (tr j).h.nx e = none := none_at E IH hj hne (Nat.le_refl _) (by omega)
    obtain ⟨v', o', w1, cs, h1, h2, h3, h4, h5, h6, h7⟩ := hstep.2.2 ρ a w hA hnone
    exact value_wp h1 ⟨q, _, _, IH.made E IS hj hlt hne hk h2 h3 h4 h5 h6, IS.next E hj hlt hne hpre (upd1_le (hnone 0)) h7, hdp _⟩
  | great =>
    rw [hk] at hstep
    simp only [Kind.wants, if_true]
    obtain ⟨R, F, H⟩ := IH.great E IS hj hlt hne hpre hk
    refine hstep.2.2 ro ρ a w _ Q hA R F fun ρ' v' w' hv u => ?_
    obtain ⟨g', IH'⟩ := H ρ' w' u
    exact ⟨j + 1, ρ', g', IH', IS.next E hj hlt hne hpre u.mono hv, hdp _⟩
theorem all_done (E : Env0 P N T ops l tr V K ρ0 h0 w0) (hsz : listed.size = ops.size) (hr : Region.ready .any ops listed = []) : ∀ (j : Nat) (d : DI), l[j]? = some d → exd listed d.i := by
  intro j
  induction j using Nat.strongRecOn with
  | _ j ih =>
    intro d hj
    have hop := E.ord.op d (List.mem_of_getElem? hj)
    have hilt : d.i < ops.size := (Array.getElem?_eq_some_iff.1 hop).1
    cases hu : listed.getD d.i true with
    | true =>
      have hlt : d.i < listed.size := by omega
      unfold exd
      simp [hlt] at hu ⊢
      exact hu
    | false =>
      exfalso
      have : d.i ∈ Region.ready .any ops listed := by
        refine mem_ready.2 ⟨hu, d.o, hop, fun e he hb => ?_⟩
        obtain ⟨m, c, h1, h2, h3⟩ := E.ord.before j d hj _ (E.ord.edge d (List.mem_of_getElem? hj) e he hb)
        have := ih m h1 c h2
        rw [h3] at this; exact this
      rw [hr] at this; cases this
def cnt (listed : Array Bool) : Nat → Nat
  | 0 => 0
  | k + 1 => cnt listed k + if listed.getD k true = true then 0 else 1
theorem cnt_set {i : Nat} (hi : i < listed.size) (hu : listed.getD i true = false) : ∀ k, cnt (listed.setIfInBounds i true) k + (if i < k then 1 else 0) = cnt listed k := by
  intro k
  induction k with
  | zero => rfl
  | succ k ih =>
    unfold cnt
    by_cases h : i = k
    · subst h
      have h1 : (listed.setIfInBounds i true).getD i true = true := by simp [hi]
      rw [h1, hu, if_pos (by omega : i < i + 1)]
      rw [if_neg (by omega : ¬ i < i)] at ih
      simp only [if_true, Bool.false_eq_true, if_false]; omega
    · have h1 : (listed.setIfInBounds i true).getD k true = listed.getD k true := getD_set_ne true h
      rw [h1]
      by_cases hik : i < k
      · have h2 : i < k + 1 := by omega
        rw [if_pos hik] at ih; rw [if_pos h2]; omega
      · have h2 : ¬ i < k + 1 := by omega
        rw [if_neg hik] at ih; rw [if_neg h2]; omega
theorem cnt_zero : ∀ k, cnt listed k = 0 → ∀ i, i < k → listed.getD i true = true := by
  intro k
  induction k with
  | zero => intro _ i h; omega
  | succ k ih =>
    intro h i hi
    unfold cnt at h
    by_cases hik : i = k
    · subst hik
      cases hb : listed.getD i true with
      | true => rfl
      | false => rw [hb] at h; simp at h
    · exact ih (by omega) i (by omega)
theorem any_ok {ro : Option Nat} {ds : List Deferred} (E : Env0 P N T ops l tr V K ρ0 h0 w0) {Q : Exit → Act → World → Prop}
    (HQ : ∀ listed a w, Inv ds P N T l tr V K ρ0 h0 w0 listed a w → (∀ (j : Nat) (d : DI), l[j]? = some d → exd listed d.i) → Q .normal a w) :
    ∀ (fuel : Nat) (listed : Array Bool) (a : Act) (w : World), listed.size = ops.size → cnt listed ops.size ≤ fuel → Inv ds P N T l tr V K ρ0 h0 w0 listed a w → wpAnyIn (wideR ro) 0 P .any ops Q fuel listed a w := by
  intro fuel
  induction fuel with
  | zero =>
    intro listed a w hsz hc I
    have h0 := cnt_zero _ (Nat.le_zero.1 hc)
    have hr : Region.ready .any ops listed = [] := by
      rw [List.eq_nil_iff_forall_not_mem]
      intro i hi
      obtain ⟨hu, o, ho, _⟩ := mem_ready.1 hi
      rw [h0 i (Array.getElem?_eq_some_iff.1 ho).1] at hu; cases hu
    exact ⟨hr, HQ listed a w I (all_done E hsz hr)⟩
  | succ fuel ih =>
    intro listed a w hsz hc I
    refine ⟨fun hr => HQ listed a w I (all_done E hsz hr), fun i hi => ?_⟩
    obtain ⟨hu, o, ho, _⟩ := mem_ready.1 hi
    have hilt : i < ops.size := (Array.getElem?_eq_some_iff.1 ho).1
    have hcs := cnt_set (listed := listed) (by omega) hu ops.size
    rw [if_pos hilt] at hcs
    exact wpOpIn_mono (fun a' w' I' => ih _ a' w' (by rw [Array.size_setIfInBounds]; exact hsz) (by omega) I') (take_op E hsz I hi)
end
theorem getD_rep (n i : Nat) : (Array.replicate n false).getD i false = false := by
  by_cases h : i < n <;> simp [h]
theorem draw_ok {P : Program} (hm : P.follows .mixedOrders = true) {N T : Nat} (hs : ∀ o, Spec P N T o) (ops : Array Oper) : DrawOk P N T ops := by
  intro f hf call fr h k r hF hc e
  have hf' : (match okGo (orderGo (infos P ops) ops.size 0 []) 0 0 0 [] && Nat.beq (maskOf ((orderGo (infos P ops) ops.size 0 []).map (·.i))) (Nat.sub (2 ^ ops.size) 1) with
    | true => DrF.rec (motive := fun _ => OpsF) (fun f => .mk fun call env fr h k => f call env fr h h .nil k) (drsC P N T ops (orderGo (infos P ops) ops.size 0 []))
    | false => OpsF.mk fun _ _ _ _ _ => .no 106) = .mk f := hf
  generalize hl : orderGo (infos P ops) ops.size 0 [] = l at hf'
  cases hok : (okGo l 0 0 0 [] && Nat.beq (maskOf (l.map (·.i))) (Nat.sub (2 ^ ops.size) 1)) with
  | false => rw [hok] at hf'; cases hf'; cases e
  | true =>
    rw [hok] at hf'
    simp only [Bool.and_eq_true] at hok
    have O := order_ok hl.symm hok.1 hok.2
    cases hg : drsC P N T ops l with
    | mk g =>
      rw [hg] at hf'
      cases hf'
      obtain ⟨tr, V, K, h0, h1, h2, _⟩ := trace_ok hs hc l (fun d hd => ⟨O.cls d hd, O.dst d hd⟩) hg (s := ⟨.nil, fr, h, h⟩) _ (pend_nil r hF) e
      have hth : (tr 0).h = h := by rw [h0]
      have htb : (tr 0).b = h := by rw [h0]
      -- a first reading of the trace, for the names it makes
      have hnx : ∀ j, j ≤ l.length → h.nx.toNat ≤ (tr j).h.nx.toNat := by
        intro j hj
        induction j with
        | zero => rw [hth]; exact Nat.le_refl _
        | succ j ih =>
          obtain ⟨d, hd⟩ := get_of (l := l) (j := j) (by omega)
          have hst := h2.step j d hd
          have := ih (by omega)
          cases hk : K j with
          | skip => rw [hk] at hst; rw [hst.2.1]; exact this
          | pure => rw [hk] at hst; rw [hst.2.1]; exact this
          | read => rw [hk] at hst; rw [hst.2.1]; exact this
          | made el b => rw [hk] at hst; rw [hst.2.1]; show _ ≤ (Pth.succ _).toNat; rw [Pth.toNat_succ]; omega
          | great => rw [hk] at hst; exact Nat.le_trans this hst.2.1
      refine ⟨(tr l.length).fr, (tr l.length).h, h1, hnx _ (Nat.le_refl _), fun id ro ρ a w Q ha R F HQ => ?_⟩
      refine wpIn_region_any hm ?_
      let w1 : World := { w with drawn := w.drawn + 1 }
      have E : Env0 P N T ops l tr V K ρ h w1 := ⟨O, h2, hth, htb, R.world rfl, F⟩
      have hnone : ∀ i, ¬ exd (Array.replicate ops.size false) i := fun i h => by unfold exd at h; rw [getD_rep] at h; cases h
      refine any_ok E (fun listed a' w' I hall => ?_) _ _ _ _ (by simp) ?_ ⟨0, ρ, h.look, ⟨Nat.zero_le _, fun m hm => by omega, fun j d _ _ hex => absurd hex (hnone _), ⟨R.world rfl, Le.refl ρ, fun f e x h1 h2 => (by rw [h1] at h2; cases h2), fun f F hF => .inl ⟨F, hF⟩, fun _ _ _ => rfl, Nat.le_refl _, rfl, rfl, rfl, fun f F hF hb => .inl ⟨F, hF, hb⟩⟩, fun f F hF => by rw [hth] at hF; exact hF, fun f G hG hr => ?_, fun j d el b _ _ hex => absurd hex (hnone _), fun f e x hx h1 h2 => ?_⟩, ⟨fun t v hs => ?_, fun d _ hex => absurd hex (hnone _), ha.cx.gl, ha.size⟩, rfl⟩
      · obtain ⟨q, ρ', g, IH, IS, hds⟩ := I
        have hno : ∀ m, q ≤ m → m < l.length → K m ≠ .great := by
          intro m h3 h4 hk
          obtain ⟨c, hcm⟩ := get_of (l := l) (j := m) h4
          have := IH.qall m c hcm hk (hall m c hcm); omega
        have hsub := look_g E IH IH.qle (Nat.le_refl _) hno fun m c el b _ _ hc _ => hall m c hc
        have t := IH.t
        refine HQ ρ' a' w' ⟨⟨fun t v hv => IS.slots t v ?_, IS.gl⟩, IS.size⟩ hds ⟨t.rel.sub hsub, t.mono, t.new, hnx _ (Nat.le_refl _), fun f F hF => t.live f F (hsub f F hF), t.frame, t.size, t.os, t.tape, t.output, fun f F hF hb => t.liveW f F (hsub f F hF) hb⟩
        have hv' : lkp N (tr l.length).env (tr l.length).fr t = some v := by
          unfold lkp
          by_cases hb : Nat.testBit N t = true
          · rw [if_pos hb] at hv ⊢; exact hv
          · rw [if_neg hb] at hv; simp [Env.look] at hv
        rcases look_slot E (Nat.le_refl _) hv' with ⟨i, c, _, h4, h5, h6, h7⟩ | ⟨h4, h5⟩
        · exact .inl ⟨i, c, h4, hall i c h4, h5, fun m dm hm a1 _ => h6 m dm hm a1 (lt_of_get hm), h7⟩
        · exact .inr ⟨fun m dm hm _ => h4 m dm hm (lt_of_get hm), h5⟩
      · have : ∀ k, cnt (Array.replicate ops.size false) k ≤ k := by
          intro k
          induction k with
          | zero => exact Nat.le_refl _
          | succ k ih => unfold cnt; split <;> omega
        exact this _
      · rw [hth] at hG hr
        obtain ⟨x, hx⟩ := (R.fam f G hG).cur
        rw [F f _ hr.1 hr.2] at hx; cases hx
      · rw [F f e h1 h2] at hx; cases hx
      · rcases hs with ⟨j, d, _, hex, _⟩ | ⟨_, hv⟩
        · exact absurd hex (hnone _)
        · rw [h0] at hv
          exact ha.cx.st t v hv
end Go.Am

namespace Go.Am
open Go

/-! ### The cells of a value -/
theorem vr_cells {ρ : Rho} {v : AV} {z : Value} (h : VR ρ v z) (hn : ∀ l, v ≠ .agg l) : z.cells = #[z] := by
  cases v with
  | agg l => exact absurd rfl (hn l)
  | bad => exact h.elim
  | bool b => have h : z = .bool b := h; subst h; rfl
  | str n l => obtain ⟨s, rfl, _⟩ := h; rfl
  | ptr f o e => obtain ⟨_, _, _, _, rfl⟩ := h; rfl
  | nul => have h : z = .pointer none := h; subst h; rfl
  | slc f o l e es => obtain ⟨_, _, _, _, _, ⟨rfl, _⟩ | ⟨_, _, rfl⟩⟩ := h <;> rfl
  | nsl => have h : z = .slice none 0 0 := h; subst h; rfl
  | mp f => obtain ⟨_, _, _, _, rfl⟩ := h; rfl
  | nmp => have h : z = .map none := h; subst h; rfl
  | fn f a c => obtain ⟨_, _, _, rfl⟩ := VR.fn_any h; rfl
  | nfn => have h : z = .nilFunc := h; subst h; rfl
  | ifc t x => rcases h with ⟨_, rfl, _⟩ | ⟨_, _, _, _, _, _, _, rfl⟩ <;> rfl
  | nif => have h : z = .nilIface := h; subst h; rfl
  | tup l => obtain ⟨_, rfl, _⟩ := h; rfl
  | int k n => have h : z = .int k n := h; subst h; rfl
def CellsR (ρ : Rho) (l : List AV) (cs : List Value) : Prop := VRs ρ l cs ∧ ∀ u ∈ cs, u.oneCell' = true
theorem cellsR_one {ρ : Rho} {v : AV} {z : Value} (h : VR ρ v z) (hf : flat v = true) : CellsR ρ [v] z.cells.toList := by
  have hn : ∀ l, v ≠ .agg l := by rintro l rfl; cases hf
  rw [vr_cells h hn]
  exact ⟨⟨h, trivial⟩, fun u hu => by simp at hu; subst hu; exact flat_of h hf⟩
theorem cellsOfC_ok {a : Bool} {n : Nat} {v : AV} {k : List AV → Out} {r : AV} {hF : Hp} (e : cellsOfC a n v k = .ok r hF) : ∃ l, k l = .ok r hF ∧ l.length = n ∧ ∀ ρ z, VR ρ v z → CellsR ρ l z.cells.toList := by
  cases a with
  | true =>
    obtain ⟨l, rfl, e1⟩ := asAgg_ok (show v.asAgg (fun l => bc (lenIs l n) (k l) (.no 65)) = .ok r hF from e)
    obtain ⟨h1, h2⟩ := bc_ok e1
    refine ⟨l, h2, lenIs_eq _ _ h1, fun ρ z hz => ?_⟩
    obtain ⟨cs, rfl, h3, h4⟩ := hz
    exact ⟨h3, h4⟩
  | false =>
    have e' : (match Nat.beq n 1 with | true => fun (v : AV) (k : List AV → Out) => bc (flat v) (k [v]) (.no 66) | false => fun _ _ => Out.no 66) v k = .ok r hF := e
    cases hb : Nat.beq n 1 with
    | false => rw [hb] at e'; cases e'
    | true =>
      rw [hb] at e'
      obtain ⟨h1, h2⟩ := bc_ok e'
      exact ⟨[v], h2, (Nat.eq_of_beq_eq_true hb).symm, fun ρ z hz => cellsR_one hz h1⟩
theorem zero_ok {P : Program} {t : Nat} (h : lenOk0 P t = true) : ∃ i z, P.info? t = some i ∧ i.zero = some z ∧ (zeroL P t).length = i.size ∧ ∀ ρ, CellsR ρ (zeroL P t) z.cells.toList := by
  unfold lenOk0 at h
  cases hi : P.info? t with
  | none => rw [hi] at h; cases h
  | some i =>
    rw [hi] at h
    simp only [Bool.and_eq_true] at h
    obtain ⟨⟨h1, h2⟩, h3⟩ := h
    unfold hasZero at h1
    cases hz : zeroOf P t with
    | none => rw [hz] at h1; cases h1
    | some v =>
      have hz' := hz
      unfold zeroOf at hz'
      rw [hi] at hz'
      cases hzz : i.zero with
      | none => simp [hzz] at hz'
      | some z =>
        simp only [Option.bind_some, hzz] at hz'
        refine ⟨i, z, rfl, hzz, Nat.eq_of_beq_eq_true h2, fun ρ => ?_⟩
        have hv : VR ρ v z := ofVal_ok hz'
        by_cases hag : ∃ l, v = .agg l
        · obtain ⟨l, rfl⟩ := hag
          have : zeroL P t = l := by unfold zeroL; rw [hz]
          rw [this]
          obtain ⟨cs, rfl, a1, a2⟩ := hv
          exact ⟨a1, a2⟩
        · have hn : ∀ l, v ≠ .agg l := fun l he => hag ⟨l, he⟩
          have : zeroL P t = [v] := by unfold zeroL; rw [hz]; cases v <;> first | rfl | exact absurd rfl (hn _)
          rw [this] at h3 ⊢
          exact cellsR_one hv (by simpa using h3)
theorem lenOk_0 {P : Program} {t : Nat} (h : lenOk P t = true) : lenOk0 P t = true ∧ 1 ≤ P.cellsOf t := by
  unfold lenOk at h
  unfold lenOk0 Program.cellsOf
  cases hi : P.info? t with
  | none => rw [hi] at h; cases h
  | some i =>
    rw [hi] at h
    simp only [Bool.and_eq_true] at h ⊢
    exact ⟨⟨h.1.1.1, h.1.2⟩, by simpa using Nat.le_of_ble_eq_true h.1.1.2⟩

/-! ### Parts laid over cells -/
theorem spl_get : ∀ (off : Nat) (new l : List AV), (spl off new l).length = l.length ∧ ∀ k : Nat, (spl off new l)[k]? = if off ≤ k ∧ k < off + new.length ∧ k < l.length then new[k - off]? else l[k]? := by
  intro off
  induction off with
  | zero =>
    intro new
    induction new with
    | nil => intro l; exact ⟨rfl, fun k => by rw [if_neg (by simp)]; rfl⟩
    | cons v new ih =>
      intro l
      cases l with
      | nil => exact ⟨rfl, fun k => by rw [if_neg (by simp)]; rfl⟩
      | cons a l =>
        have he : spl 0 (v :: new) (a :: l) = v :: spl 0 new l := rfl
        obtain ⟨h1, h2⟩ := ih l
        refine ⟨by rw [he]; simp [h1], fun k => ?_⟩
        rw [he]
        cases k with
        | zero => simp
        | succ k =>
          rw [List.getElem?_cons_succ, h2 k]
          by_cases hc : 0 ≤ k ∧ k < 0 + new.length ∧ k < l.length
          · rw [if_pos hc, if_pos (by simp; omega)]; simp
          · rw [if_neg hc, if_neg (by simp; omega)]; simp
  | succ off ih =>
    intro new l
    cases l with
    | nil => exact ⟨rfl, fun k => by rw [if_neg (by simp)]; rfl⟩
    | cons a l =>
      have he : spl (off + 1) new (a :: l) = a :: spl off new l := rfl
      obtain ⟨h1, h2⟩ := ih new l
      refine ⟨by rw [he]; simp [h1], fun k => ?_⟩
      rw [he]
      cases k with
      | zero => rw [if_neg (by omega)]; rfl
      | succ k =>
        rw [List.getElem?_cons_succ, h2 k]
        by_cases hc : off ≤ k ∧ k < off + new.length ∧ k < l.length
        · rw [if_pos hc, if_pos (by simp; omega), show k + 1 - (off + 1) = k - off by omega]
        · rw [if_neg hc, if_neg (by simp; omega)]; simp
theorem lay_one {ρ : Rho} {off : Nat} {new l : List AV} {cs : Array Value} {ns : List Value} (h : CellsR ρ l cs.toList) (hn : CellsR ρ new ns) (hle : off + new.length ≤ l.length) :
    CellsR ρ (spl off new l) ((ns.zipIdx 0).foldl (fun cs (x : Value × Nat) => cs.setIfInBounds (off + x.2) x.1) cs).toList := by
  obtain ⟨g1, g2⟩ := Great.foldl_set off ns 0 cs
  have hl := h.1.length
  have hnl := hn.1.length
  have hsz : cs.toList.length = cs.size := by simp
  obtain ⟨s1, s2⟩ := spl_get off new l
  refine ⟨VRs.of_get (by rw [s1, hl]; simp [g1]) fun i x y hx hy => ?_, fun u hu => ?_⟩
  · rw [s2 i] at hx
    rw [Array.getElem?_toList] at hy
    rw [g2 i] at hy
    by_cases hc : off ≤ i ∧ i < off + new.length ∧ i < l.length
    · rw [if_pos hc] at hx
      rw [if_pos (by omega), Nat.add_zero] at hy
      obtain ⟨y', h1, h2⟩ := hn.1.get hx
      rw [h1] at hy; cases hy; exact h2
    · rw [if_neg hc] at hx
      rw [if_neg (by omega)] at hy
      obtain ⟨y', h1, h2⟩ := h.1.get hx
      have : cs[i]? = some y' := by simpa using h1
      rw [this] at hy; cases hy; exact h2
  · obtain ⟨i, hi⟩ := List.getElem?_of_mem hu
    rw [Array.getElem?_toList] at hi
    rw [g2 i] at hi
    split at hi
    · exact hn.2 u (List.mem_of_getElem? hi)
    · exact h.2 u (by rw [Array.mem_toList_iff]; exact Array.mem_of_getElem? hi)
theorem fill_ok {place : Nat → Option (Nat × Nat)} {r : AV} {hF : Hp} : ∀ (ps : List (Nat × Bool × Nat)) (idx : List Nat) {g : List AV → List AV → (List AV → Out) → Out}, fillC ps = .mk g → ps.length = idx.length →
    (∀ (j : Nat) p i, ps[j]? = some p → idx[j]? = some i → place i = some (p.1, p.2.2)) → ∀ {vs cs : List AV} {k : List AV → Out}, (∀ p ∈ ps, p.1 + p.2.2 ≤ cs.length) → g vs cs k = .ok r hF →
    ∃ out, k out = .ok r hF ∧ ∀ ρ (vals : List Value) (zs : Array Value), VRs ρ vs vals → CellsR ρ cs zs.toList → ∃ o', Instr.fill place zs (idx.zip vals) = some o' ∧ CellsR ρ out o'.toList := by
  intro ps
  induction ps with
  | nil =>
    intro idx g hg hlen _ vs cs k _ e
    cases hg
    cases idx with
    | nil => exact ⟨cs, e, fun ρ vals zs _ h => ⟨zs, by simp [Instr.fill], h⟩⟩
    | cons _ _ => simp at hlen
  | cons p ps ih =>
    intro idx g hg hlen hpl vs cs k hin e
    cases idx with
    | nil => simp at hlen
    | cons i idx =>
      cases hG : fillC ps with
      | mk G =>
        have hg' : FillF.rec (motive := fun _ => FillF) (fun g => .mk fun vs cs k => List.rec (motive := fun _ => List AV → (List AV → Out) → Out) (fun _ _ => .no 77) (fun v vs _ cs k => cellsOfC p.2.1 p.2.2 v fun l => g vs (spl p.1 l cs) k) vs cs k) (fillC ps) = FillF.mk g := hg
        rw [hG] at hg'
        cases hg'
        cases vs with
        | nil => cases e
        | cons v vs =>
          obtain ⟨l, e1, hl, hr⟩ := cellsOfC_ok (show cellsOfC p.2.1 p.2.2 v (fun l => G vs (spl p.1 l cs) k) = .ok r hF from e)
          have hsp := (spl_get p.1 l cs).1
          obtain ⟨out, e2, H⟩ := ih idx hG (by simpa using hlen) (fun j p' i' h1 h2 => hpl (j + 1) p' i' (by simpa using h1) (by simpa using h2)) (fun p' hp' => by rw [hsp]; exact hin p' (by simp [hp'])) e1
          refine ⟨out, e2, fun ρ vals zs hv hz => ?_⟩
          cases vals with
          | nil => exact hv.elim
          | cons u vals =>
            have hc := hr ρ u hv.1
            have hle : p.1 + l.length ≤ cs.length := by rw [hl]; exact hin p (by simp)
            obtain ⟨o', h1, h2⟩ := H ρ vals _ hv.2 (lay_one hz hc hle)
            refine ⟨o', ?_, h2⟩
            have hus : u.cells.size = p.2.2 := by have := hc.1.length; simp at this; omega
            have hzl := hz.1.length
            simp only [Array.length_toList] at hzl
            rw [List.zip_cons_cons]
            unfold Instr.fill
            simp only [hpl 0 p i rfl rfl, hus]
            rw [if_neg (by simp; omega)]
            rw [← h1]
            congr 1
            rw [← Array.foldl_toList, Array.toList_zipIdx]
theorem zip_parts (a : Act) (ps : Array (Nat × Operand)) : (ps.map fun x => (x.1, a.eval x.2)).toList = (ps.toList.map (·.1)).zip ((ps.toList.map (·.2)).map a.eval) := by
  rw [Array.toList_map]
  induction ps.toList with
  | nil => rfl
  | cons x l ih => simp [ih]
theorem placesOf_ok {P : Program} {t : Nat} {idx : List Nat} {ps : List (Nat × Bool × Nat)} (h : placesOf P t idx = some ps) {i : TypeInfo} {z : Value} (hi : P.info? t = some i) (hz : i.zero = some z) :
    ∃ place, ps.length = idx.length ∧ (∀ (j : Nat) p i, ps[j]? = some p → idx[j]? = some i → place i = some (p.1, p.2.2)) ∧ ∀ parts, P.built t parts = Instr.fill place z.cells parts := by
  unfold placesOf at h
  obtain ⟨U, hu⟩ : ∃ U, P.underlying t = U := ⟨_, rfl⟩
  rw [hu] at h
  cases U with
  | none => cases h
  | some d =>
    cases d with
    | array n e =>
      simp only at h
      cases hie : P.info? e with
      | none => rw [hie] at h; simp at h
      | some ie =>
        rw [hie] at h
        simp at h
        subst h
        have hc : P.cellsOf e = ie.size := by unfold Program.cellsOf; rw [hie]; rfl
        refine ⟨fun i => some (i * ie.size, ie.size), by simp, fun j p i h1 h2 => ?_, fun parts => by simp [Program.built, hi, hu, hz, hie]⟩
        simp only [List.getElem?_map, h2, Option.map_some, Option.some.injEq] at h1
        subst h1; rw [hc]
    | struct fs =>
      simp only at h
      cases hall : fs.toList.all (fun f => (P.info? f.type).isSome) with
      | false => rw [hall] at h; cases h
      | true =>
        rw [hall] at h
        have hplaces : fs.toList.mapM (fun f => (P.info? f.type).map fun i => (f.offset, i.size)) = some (fs.toList.map fun f => (f.offset, P.cellsOf f.type)) := by
          have : ∀ l : List Field, l.all (fun f => (P.info? f.type).isSome) = true → l.mapM (fun f => (P.info? f.type).map fun i => (f.offset, i.size)) = some (l.map fun f => (f.offset, P.cellsOf f.type)) := by
            intro l
            induction l with
            | nil => intro _; rfl
            | cons f l ih =>
              intro hh
              simp only [List.all_cons, Bool.and_eq_true] at hh
              obtain ⟨x, hx⟩ := Option.isSome_iff_exists.1 hh.1
              simp [List.mapM_cons, hx, ih hh.2, Program.cellsOf]
          exact this _ hall
        refine ⟨fun i => (fs.toList.map fun f => (f.offset, P.cellsOf f.type)).toArray[i]?, ?_, ?_, fun parts => by simp only [Program.built, hi, hu, hz, hplaces]⟩
        · exact mapM_some_length' h
        · intro j p i h1 h2
          have := mapM_some_get' h j i h2
          rw [h1] at this
          cases hf : fs[i]? with
          | none => rw [hf] at this; simp at this
          | some f =>
            rw [hf] at this
            simp at this
            subst this
            simp [hf]
    | _ => cases h
where
  mapM_some_length' {α β : Type} {f : α → Option β} : ∀ {l : List α} {r : List β}, l.mapM f = some r → r.length = l.length := by
    intro l
    induction l with
    | nil => intro r h; simp at h; subst h; rfl
    | cons a l ih =>
      intro r h
      simp only [List.mapM_cons, Option.bind_eq_bind, Option.pure_def] at h
      cases ha : f a with
      | none => simp [ha] at h
      | some b =>
        cases hl : l.mapM f with
        | none => simp [ha, hl] at h
        | some r' => simp [ha, hl] at h; subst h; simp [ih hl]
  mapM_some_get' {α β : Type} {f : α → Option β} : ∀ {l : List α} {r : List β}, l.mapM f = some r → ∀ (i : Nat) (x : α), l[i]? = some x → f x = r[i]? := by
    intro l
    induction l with
    | nil => intro r h i x hx; simp at hx
    | cons a l ih =>
      intro r h i x hx
      simp only [List.mapM_cons, Option.bind_eq_bind, Option.pure_def] at h
      cases ha : f a with
      | none => simp [ha] at h
      | some b =>
        cases hl : l.mapM f with
        | none => simp [ha, hl] at h
        | some r' =>
          simp [ha, hl] at h; subst h
          cases i with
          | zero => simp at hx; subst hx; simp [ha]
          | succ i => simp at hx ⊢; exact ih hl i x hx
section
variable {P : Program} {N T : Nat} {o : Oper} {f : Call_ → Env → Fr → Hp → (AV → Hp → Out) → Out} {call : Call_} {env : Env} {fr : Fr} {h : Hp} {k : AV → Hp → Out} {r : AV} {hF : Hp}
theorem opds_ok {l : List Operand} {G : List AV → Hp → (AV → Hp → Out) → Out} (hf : OpdsF.rec (motive := fun _ => OpF) (fun xs => .mk fun _ env fr h k => xs env fr fun vs => G vs h k) (opdsC P N l) = OpF.mk f) (e : f call env fr h k = .ok r hF) :
    ∃ vs, G vs h k = .ok r hF ∧ ∀ ρ a, Cx P N ρ env fr a → VRs ρ vs (l.map a.eval) := by
  cases hl : opdsC P N l with
  | mk L =>
    rw [hl] at hf; cases hf
    obtain ⟨vs, e1, _, h2⟩ := opdsC_ok hl e
    exact ⟨vs, e1, h2⟩
theorem ok_build {t : Nat} {ps : Array (Nat × Operand)} (ho : o.op = .build t ps) (hf : opC P N o.op = .mk f) (e : f call env fr h k = .ok r hF) : ∃ v, k v h = .ok r hF ∧ Runs0 P o N env fr v := by
  rw [ho] at hf
  obtain ⟨vs, e1, hv⟩ := opds_ok (l := ps.toList.map fun x : Nat × Operand => x.2) (G := fun vs h k => buildC P t (ps.toList.map fun x : Nat × Operand => x.1) vs fun v => k v h) hf e
  unfold buildC at e1
  cases hp : placesOf P t (ps.toList.map (·.1)) with
  | none => rw [hp] at e1; cases e1
  | some pl =>
    cases hz : lenOk0 P t with
    | false => rw [hp, hz] at e1; cases e1
    | true =>
      rw [hp, hz] at e1
      simp only at e1
      split at e1
      · rename_i hin
        obtain ⟨i, z, hi, hzz, hlen, hcz⟩ := zero_ok hz
        obtain ⟨place, p1, p2, p3⟩ := placesOf_ok hp hi hzz
        cases hG : fillC pl with
        | mk G =>
          rw [hG] at e1
          have hin' : ∀ p ∈ pl, p.1 + p.2.2 ≤ (zeroL P t).length := by
            intro p hp'
            have := List.all_eq_true.1 hin p hp'
            simpa using this
          obtain ⟨out, e2, H⟩ := fill_ok pl _ hG p1 p2 hin' (show G vs (zeroL P t) (fun cs => k (.agg cs) h) = .ok r hF from e1)
          refine ⟨_, e2, fun ρ a w c => ?_⟩
          obtain ⟨o', h1, h2⟩ := H ρ _ z.cells (hv ρ a c) (hcz ρ)
          refine ⟨.agg o', ⟨o', rfl, h2.1, h2.2⟩, ?_⟩
          have hb : P.built t (ps.map fun x => (x.1, a.eval x.2)).toList = some o' := by rw [p3, zip_parts]; exact h1
          have := run_build (P := P) w t _ o' hb
          simp only [execOp, ho, Sem.run_bind, this, Result.andThen_ok]; rfl
      · cases e1
end
end Go.Am

namespace Go.Am
open Go

theorem encode_small {n : Nat} (h : n < 128) : (Utf8.encode (Int.ofNat n)).data.toList = [UInt8.ofNat n] := by
  unfold Utf8.encode
  have hv : Utf8.valid (Int.ofNat n) = true := by
    unfold Utf8.valid
    simp
    omega
  have hc : (Int.ofNat n).toNat < 128 := by simpa using h
  simp only [hv, if_true, hc]
  rfl
section
variable {P : Program} {N T : Nat} {o : Oper} {f : Call_ → Env → Fr → Hp → (AV → Hp → Out) → Out} {call : Call_} {env : Env} {fr : Fr} {h : Hp} {k : AV → Hp → Out} {r : AV} {hF : Hp}
def clsConv (U W : Option TypeDesc) : Nat := match U, W with
    | some .string, some (.slice _) => 2
    | some (.slice _), some .string => 1
    | some (.slice _), _ => 3
    | some (.pointer _), _ => 3
    | some .unsafePointer, _ => 3
    | _, _ => 0
theorem cls_convert {s d : Nat} {x : Operand} : clsOp P (.convert s d x) = clsConv (P.underlying s) (P.underlying d) := by
  show (match P.underlying s, P.underlying d with
    | some .string, some (.slice _) => 2
    | some (.slice _), some .string => 1
    | some (.slice _), _ => 3
    | some (.pointer _), _ => 3
    | some .unsafePointer, _ => 3
    | _, _ => 0) = _
  rfl
theorem intKind_of {t : Nat} {kd : IntKind} (h : P.underlying t = some (.int kd)) : P.intKind t = kd := by unfold Program.intKind; rw [h]
theorem ok_conv0 {s d : Nat} {x : Operand} (ho : o.op = .convert s d x) (hcl : clsOp P o.op = 0) (hf : opC P N o.op = .mk f) (e : f call env fr h k = .ok r hF) : ∃ v, k v h = .ok r hF ∧ Runs0 P o N env fr v := by
  rw [ho] at hf hcl
  obtain ⟨v, e1, hv⟩ := op1_ok (show op1 (opdC P N x) (convC P s d) = .mk f from hf) e
  have fin : ∀ u, k u h = .ok r hF → (∀ ρ x', VR ρ v x' → ∃ u', VR ρ u u' ∧ ∀ w, (convert s d x').run P w = .ok u' w) → ∃ v, k v h = .ok r hF ∧ Runs0 P o N env fr v := by
    intro u hu H
    refine ⟨u, hu, fun ρ a w c => ?_⟩
    obtain ⟨u', h1, h2⟩ := H ρ _ (hv ρ a c)
    refine ⟨u', h1, ?_⟩
    simp only [execOp, ho, Sem.run_bind, h2, Result.andThen_ok]; rfl
  unfold convC at e1
  obtain ⟨U, hu⟩ : ∃ U, P.underlying s = U := ⟨_, rfl⟩
  obtain ⟨W, hw⟩ : ∃ W, P.underlying d = W := ⟨_, rfl⟩
  rw [cls_convert, hu, hw] at hcl
  rw [hu, hw] at e1
  cases U with
  | none => cases e1
  | some U =>
    cases W with
    | none => cases U <;> cases e1
    | some W =>
      cases U with
      | int ks =>
        cases W with
        | int kd =>
          simp only at e1
          obtain ⟨kk, n, rfl, e2⟩ := asInt_ok e1
          have hrun : ∀ ρ x', VR ρ (.int kk n) x' → ∀ w, (convert s d x').run P w = .ok (.int kd (kd.wrap n)) w := by
            intro ρ x' hx w
            have hx : x' = .int kk n := hx
            subst hx
            have hik := intKind_of hw
            have := run_convert_int (P := P) w s d kk n (by rw [hu]; rfl) (by rw [hik]; exact hw)
            rw [hik] at this; exact this
          cases n with
          | ofNat m =>
            have e3 : fitN kd m (fun r => k (.int kd r) h) = .ok r hF := e2
            rw [fitN_eq] at e3
            exact fin _ e3 fun ρ x' hx => ⟨_, rfl, hrun ρ x' hx⟩
          | negSucc m => exact fin _ e2 fun ρ x' hx => ⟨_, rfl, hrun ρ x' hx⟩
        | string =>
          simp only at e1
          obtain ⟨kk, n, rfl, e2⟩ := natOf_ok e1
          have hrun : ∀ ρ x', VR ρ (.int kk (Int.ofNat n)) x' → ∀ w, (convert s d x').run P w = .ok (.string (Utf8.encode (Int.ofNat n))) w := by
            intro ρ x' hx w
            have hx : x' = .int kk (Int.ofNat n) := hx
            subst hx
            exact run_convert_int_string (P := P) w s d kk _ (by rw [hu]; rfl) hw
          cases hb : Nat.blt n 128 with
          | true =>
            rw [hb] at e2
            have hlt : n < 128 := by simpa [Nat.blt_eq] using hb
            refine fin (.str n 1) e2 fun ρ x' hx => ⟨_, ⟨_, rfl, ?_, ?_⟩, hrun ρ x' hx⟩
            · rw [encode_small hlt]
              show n = leNat [UInt8.ofNat n]
              rw [leNat_cons]
              have : (UInt8.ofNat n).toNat = n := by simp; omega
              rw [this]; rfl
            · rw [encode_small hlt]; rfl
          | false =>
            rw [hb] at e2
            exact fin _ e2 fun ρ x' hx => ⟨_, ⟨_, rfl, rfl, rfl⟩, hrun ρ x' hx⟩
        | _ => cases e1
      | string =>
        cases W with
        | string =>
          simp only at e1
          obtain ⟨n, l, rfl, e2⟩ := asStr_ok e1
          refine fin _ e2 fun ρ x' hx => ⟨x', hx, fun w => ?_⟩
          obtain ⟨bs, rfl, _⟩ := hx
          simp [convert, run_underlying hu, run_underlying hw]
        | slice _ => cases hcl
        | _ => cases e1
      | slice _ =>
        cases W with
        | string => cases hcl
        | slice _ => cases hcl
        | _ => cases e1
      | pointer _ => cases hcl
      | unsafePointer => cases hcl
      | _ => cases W <;> cases e1
theorem isByte_ok {e : Nat} (h : isByte P e = true) : P.underlying e = some (.int .u8) := by
  unfold isByte at h
  split at h
  · assumption
  · cases h
theorem srcBytes_ok {x : AV} {m : Nat} {K : Nat → Out} (e : srcBytes h x m K = .ok r hF) : (∃ n l, x = .str n l ∧ K (n % 256 ^ m) = .ok r hF) ∨
    (∃ g off l ep es F bs, x = .slc g off l ep es ∧ h.look g = some F ∧ (ep = F.ep ∨ off + m ≤ F.old) ∧ bs.length = m ∧ (m = 0 ∨ F.body.isMap = false) ∧ (∀ (j : Nat) x, bs[j]? = some x → F.body.cell? (off + j) = some (.int .u8 (Int.ofNat x.toNat))) ∧ K (leNat bs) = .ok r hF) ∨
    (x = .nsl ∧ K 0 = .ok r hF) := by
  cases x with
  | str n l =>
    have e' : natK (Nat.mod n (Nat.shiftLeft 1 (Nat.mul 8 m))) K = .ok r hF := e
    rw [natK_eq, shl8, Nat.one_mul] at e'
    exact .inl ⟨n, l, rfl, e'⟩
  | slc g off l ep es =>
    obtain ⟨F, h1, h2, h3⟩ := famK_ok (show famK h g ep off m (fun fam => fam.bodyK fun b => bytesK b m off K) = .ok r hF from e)
    rw [bodyK_eq] at h3
    obtain ⟨bs, b1, b2, b3, b4⟩ := bytesK_ok h3
    exact .inr (.inl ⟨g, off, l, ep, es, F, bs, rfl, h1, h2, b1, b2, b3, b4⟩)
  | nsl => exact .inr (.inr ⟨rfl, e⟩)
  | _ => cases e
/-- the bytes that a family says stand in the world -/
theorem Rel.bytes {ρ : Rho} {g : Pth → Option Fam} {w : World} (R : Rel ρ g w) {q : Pth} {F : Fam} (hF : g q = some F) {e off : Nat} {x : Nat × Nat × Nat} (hx : ρ q e = some x) {bs : List UInt8} (ho : e = F.ep ∨ off + bs.length ≤ F.old)
    (hm : bs.length = 0 ∨ F.body.isMap = false) (hc : ∀ (j : Nat) x, bs[j]? = some x → F.body.cell? (off + j) = some (.int .u8 (Int.ofNat x.toNat))) :
    ∀ j (hj : j < bs.length), w.cell? ((⟨x.1, x.2.1 + off, none⟩ : Addr).add j) = some (.int .u8 (bs[j].toNat : Int)) := by
  intro j hj
  have hm' : F.body.isMap = false := by rcases hm with h | h
                                        · omega
                                        · exact h
  obtain ⟨v', h1, h2, _⟩ := R.read hF hm' hx (hc j _ (List.getElem?_eq_getElem hj)) (ho.imp id fun h => by omega)
  have h2 : v' = .int .u8 (Int.ofNat bs[j].toNat) := h2
  subst h2
  rw [add_addr]
  show w.cell? ⟨x.1, x.2.1 + off + j, none⟩ = _
  rw [Nat.add_assoc]; exact h1
theorem ok_conv1 {s d : Nat} {x : Operand} (ho : o.op = .convert s d x) (hcl : clsOp P o.op = 1) (hf : opC P N o.op = .mk f) (e : f call env fr h k = .ok r hF) : ∃ v, k v h = .ok r hF ∧ Runs1 P o N env fr h v := by
  rw [ho] at hf hcl
  obtain ⟨v, e1, hv⟩ := op1_ok (show op1 (opdC P N x) (convC P s d) = .mk f from hf) e
  unfold convC at e1
  obtain ⟨U, hu⟩ : ∃ U, P.underlying s = U := ⟨_, rfl⟩
  obtain ⟨W, hw⟩ : ∃ W, P.underlying d = W := ⟨_, rfl⟩
  rw [cls_convert, hu, hw] at hcl
  rw [hu, hw] at e1
  cases U with
  | none => cases e1
  | some U =>
    cases W with
    | none => cases U <;> cases e1
    | some W =>
      cases U with
      | slice el =>
        cases W with
        | string =>
          simp only at e1
          cases hb : isByte P el with
          | false => rw [hb] at e1; cases e1
          | true =>
            rw [hb] at e1
            have he := isByte_ok hb
            have fin : ∀ u, (∀ ρ w x', VR ρ v x' → Rel ρ h.look w → ∃ u', VR ρ u u' ∧ (convert s d x').run P w = .ok u' w) → Runs1 P o N env fr h u := by
              intro u H ρ a w c R
              obtain ⟨u', h1, h2⟩ := H ρ w _ (hv ρ a c) R
              refine ⟨u', h1, ?_⟩
              simp only [execOp, ho, Sem.run_bind, h2, Result.andThen_ok]; rfl
            rcases lenS_ok e1 with ⟨g, off, l, ep, es, rfl, e2⟩ | ⟨rfl, e2⟩
            · rcases srcBytes_ok e2 with ⟨n', l', hx, e3⟩ | ⟨g', off', l', ep', es', F, bs, hx, h1, h2, h3, h4, h5, e3⟩ | ⟨hx, _⟩ <;> cases hx
              refine ⟨_, e3, fin _ fun ρ w x' hx R => ?_⟩
              obtain ⟨b, ba, cs, cap, hl, hx⟩ := hx
              subst h3
              rcases hx with ⟨rfl, _, _⟩ | ⟨h0, ad, rfl⟩
              · refine ⟨_, ⟨_, rfl, rfl, rfl⟩, run_convert_bytes_back w s d el _ cap bs hu he hw (R.bytes h1 hl h2 h4 h5)⟩
              · have : bs = [] := by simpa using h0
                subst this
                exact ⟨_, ⟨_, rfl, rfl, rfl⟩, run_convert_bytes_back w s d el _ 0 [] hu he hw (fun j hj => by simp at hj)⟩
            · rcases srcBytes_ok e2 with ⟨n', l', hx, e3⟩ | ⟨_, _, _, _, _, _, _, hx, _⟩ | ⟨hx, e3⟩ <;> cases hx
              refine ⟨_, e3, fin _ fun ρ w x' hx R => ?_⟩
              have hx : x' = .slice none 0 0 := hx
              subst hx
              exact ⟨_, ⟨ByteArray.empty, rfl, rfl, rfl⟩, run_convert_bytes_nil w s el hu he 0 0 d hw⟩
        | slice _ => cases hcl
        | _ => cases e1
      | int _ => cases W <;> first | cases hcl | cases e1
      | string => cases W <;> first | cases hcl | cases e1
      | pointer _ => cases hcl
      | unsafePointer => cases hcl
      | _ => cases W <;> cases e1
end
end Go.Am

namespace Go.Am
open Go

section
variable {P : Program} {N T : Nat} {o : Oper} {f : Call_ → Env → Fr → Hp → (AV → Hp → Out) → Out} {call : Call_} {env : Env} {fr : Fr} {h : Hp} {k : AV → Hp → Out} {r : AV} {hF : Hp}
abbrev MadeR (P : Program) (N : Nat) (o : Oper) (env : Env) (fr : Fr) (h : Hp) (k : AV → Hp → Out) (r : AV) (hF : Hp) : Prop := ∃ v el b, k v (grow h ⟨el, 0, big, b⟩) = .ok r hF ∧ RunsA P N o env fr h.nx el b v
theorem grow_of {e : Nat} {b : Body} {K : Pth → Hp → Out} (e1 : newFam h e b K = .ok r hF) : K h.nx (grow h ⟨e, 0, big, b⟩) = .ok r hF := newFam_ok e1
/-- a body of one row -/
theorem one_row {l z : List AV} {es : Nat} (hl : l.length = es) (hz : z.length = es) {ρ : Rho} {cs : Array Value} (hc : CellsR ρ l cs.toList) (el : Nat) : NewOk ρ (.cells cs el) es (el + 1) (.arr (.nd .lf (some l) .lf) es 1 z) := by
  have hlook : ∀ p, (PT.nd (.lf : PT (List AV)) (some l) .lf).look p = if p = .e then some l else none := by
    intro p; cases p with
    | e => rfl
    | l p => simp [PT.look, look_lf]
    | r p => simp [PT.look, look_lf]
  have hsz := hc.1.length
  refine ⟨⟨hz, fun p row hr => ?_⟩, .inr ⟨rfl, cs, el, (0, 0), rfl, .inl rfl, by simp at hsz; omega, fun i v hi => ?_⟩, fun k hk => by cases hk; exact ⟨_, _, rfl⟩⟩
  · rw [hlook] at hr
    split at hr
    · cases hr; exact hl
    · cases hr
  · have hlt : i < es := by
      simp only [Body.cell?] at hi
      split at hi
      · omega
      · cases hi
    rw [cell_arr_row (by omega)] at hi
    have h0 : i / es = 0 := Nat.div_eq_of_lt hlt
    have h1 : Pth.ofNat 0 = .e := rfl
    rw [h0, h1, hlook, if_pos rfl, Nat.mod_eq_of_lt hlt] at hi
    obtain ⟨v', a1, a2⟩ := hc.1.get hi
    exact ⟨v', by simpa using a1, a2, hc.2 v' (List.mem_of_getElem? a1)⟩
theorem ptr_new {ρ : Rho} {id : Pth} {b cs : Nat} : VR (upd1 ρ id 0 (b, 0, cs)) (.ptr id 0 0) (.pointer (some ⟨b, 0, none⟩)) := ⟨b, 0, cs, upd1_same _ _ _ _, rfl⟩
theorem boxC_ok {e : Nat} {v : AV} (e1 : boxC P e v h k = .ok r hF) : ∃ l z, lenOk0 P e = true ∧ k (.ptr h.nx 0 0) (grow h ⟨e + 1, 0, big, .arr (.nd .lf (some l) .lf) (P.cellsOf e) 1 z⟩) = .ok r hF ∧ ∀ ρ x, VR ρ v x → NewOk ρ (.cells x.cells e) (P.cellsOf e) (e + 1) (.arr (.nd .lf (some l) .lf) (P.cellsOf e) 1 z) := by
  unfold boxC at e1
  cases hz : lenOk0 P e with
  | false => rw [hz] at e1; cases e1
  | true =>
    rw [hz] at e1
    obtain ⟨l, e2, hl, hc⟩ := cellsOfC_ok e1
    obtain ⟨i, z, hi, _, hlen, _⟩ := zero_ok hz
    have hes : (zeroL P e).length = P.cellsOf e := by unfold Program.cellsOf; rw [hi]; exact hlen
    exact ⟨l, zeroL P e, rfl, grow_of e2, fun ρ x hx => one_row hl hes (hc ρ x hx) e⟩
theorem newVar_run (e : Nat) (x : Value) (w : World) : (newVar e x).run P w = .ok ⟨w.heap.size, 0, none⟩ (w.alloc (.cells x.cells e)) := by
  simp [newVar, newRow]
theorem made_box {e : Nat} {v : AV} (e1 : boxC P e v h k = .ok r hF) (H : ∀ ρ a, Cx P N ρ env fr a → ∃ x, VR ρ v x ∧ ∀ w, (execOp a.eval o).run P w = .ok (.value (.pointer (some ⟨w.heap.size, 0, none⟩))) (w.alloc (.cells x.cells e))) : MadeR P N o env fr h k r hF := by
  obtain ⟨l, z, _, e2, hn⟩ := boxC_ok e1
  refine ⟨_, _, _, e2, fun ρ a w c hnone => ?_⟩
  obtain ⟨x, h1, h2⟩ := H ρ a c
  exact ⟨_, _, w, _, h2 w, rfl, rfl, rfl, rfl, hn ρ x h1, ptr_new⟩
theorem ok_box {e : Nat} {x : Operand} (ho : o.op = .box e x) (hf : opC P N o.op = .mk f) (e0 : f call env fr h k = .ok r hF) : MadeR P N o env fr h k r hF := by
  rw [ho] at hf
  obtain ⟨v, e1, hv⟩ := op1_ok (show op1 (opdC P N x) (boxC P e) = .mk f from hf) e0
  refine made_box e1 fun ρ a c => ⟨a.eval x, hv ρ a c, fun w => ?_⟩
  simp only [execOp, ho, Instr.box, Sem.run_bind, newVar_run, Result.andThen_ok, Sem.run_pure]
theorem ok_alloc {e : Nat} (ho : o.op = .alloc e) (hf : opC P N o.op = .mk f) (e0 : f call env fr h k = .ok r hF) : MadeR P N o env fr h k r hF := by
  rw [ho] at hf
  have hf' : (match boxC P e, zeroOf P e with | g, some z => OpF.mk fun _ _ _ h k => g z h k | _, none => .no 81) = .mk f := hf
  cases hz : zeroOf P e with
  | none => rw [hz] at hf'; cases hf'; cases e0
  | some v =>
    rw [hz] at hf'; cases hf'
    unfold zeroOf at hz
    cases hi : P.info? e with
    | none => simp [hi] at hz
    | some i =>
      cases hzz : i.zero with
      | none => simp [hi, hzz] at hz
      | some z =>
        simp only [hi, Option.bind_some, hzz] at hz
        refine made_box e0 fun ρ a c => ⟨z, ofVal_ok hz, fun w => ?_⟩
        have hzr : (zeroValue e).run P w = .ok z w := by simp [zeroValue, typeInfo, hi, hzz]
        simp only [execOp, ho, Instr.alloc, Sem.run_bind, hzr, Result.andThen_ok, newVar_run, Sem.run_pure]
theorem map_new {ρ : Rho} : NewOk ρ (.map #[] 0) 0 0 (.map []) := ⟨trivial, .inl (.inl ⟨rfl, rfl⟩), fun k hk => by cases hk⟩
theorem ok_makeMap {t : Nat} {x : Option Operand} (ho : o.op = .makeMap t x) (hf : opC P N o.op = .mk f) (e0 : f call env fr h k = .ok r hF) : MadeR P N o env fr h k r hF := by
  rw [ho] at hf
  cases x with
  | none =>
    cases hf
    refine ⟨_, _, _, grow_of e0, fun ρ a w c _ => ⟨.map (some w.heap.size), .map #[] 0, w, 0, ?_, rfl, rfl, rfl, rfl, map_new, ⟨_, 0, 0, upd1_same _ _ _ _, rfl⟩⟩⟩
    simp [execOp, ho, Instr.makeMap, newObj]; rfl
  | some x =>
    have hf' : (match P.underlying t with | some (.map _ _) => op1 (opdC P N x) fun v h k => v.asInt fun _ _ => newFam h 0 (.map []) fun f h => k (.mp f) h | _ => .no 119) = .mk f := hf
    obtain ⟨ka, kb, hu⟩ : ∃ ka kb, P.underlying t = some (.map ka kb) := by
      split at hf'
      · exact ⟨_, _, by assumption⟩
      · cases hf'; cases e0
    rw [hu] at hf'
    obtain ⟨v, e1, hv⟩ := op1_ok hf' e0
    obtain ⟨kd, n, rfl, e2⟩ := asInt_ok e1
    refine ⟨_, _, _, grow_of e2, fun ρ a w c _ => ⟨.map (some w.heap.size), .map #[] 0, w, 0, ?_, rfl, rfl, rfl, rfl, map_new, ⟨_, 0, 0, upd1_same _ _ _ _, rfl⟩⟩⟩
    have hx : a.eval x = .int kd n := hv ρ a c
    simp [execOp, ho, Instr.makeMap, newObj, hx, run_underlying hu, asInt]; rfl
theorem ok_conv2 {s d : Nat} {x : Operand} (ho : o.op = .convert s d x) (hcl : clsOp P o.op = 2) (hf : opC P N o.op = .mk f) (e0 : f call env fr h k = .ok r hF) : MadeR P N o env fr h k r hF := by
  rw [ho] at hf hcl
  obtain ⟨v, e1, hv⟩ := op1_ok (show op1 (opdC P N x) (convC P s d) = .mk f from hf) e0
  unfold convC at e1
  obtain ⟨U, hu⟩ : ∃ U, P.underlying s = U := ⟨_, rfl⟩
  obtain ⟨W, hw⟩ : ∃ W, P.underlying d = W := ⟨_, rfl⟩
  rw [cls_convert, hu, hw] at hcl
  rw [hu, hw] at e1
  have : ∃ el, U = some .string ∧ W = some (.slice el) := by
    unfold clsConv at hcl
    split at hcl
    · exact ⟨_, rfl, rfl⟩
    · cases hcl
    · cases hcl
    · cases hcl
    · cases hcl
    · cases hcl
  obtain ⟨el, rfl, rfl⟩ := this
  simp only at e1
  cases hb : isByte P el with
  | false => rw [hb] at e1; cases e1
  | true =>
    rw [hb] at e1
    have he := isByte_ok hb
    obtain ⟨n, len, rfl, e2⟩ := asStr_ok e1
    refine ⟨_, _, _, grow_of e2, fun ρ a w c _ => ?_⟩
    obtain ⟨bs, hx, h1, h2⟩ := hv ρ a c
    have hrun := run_bytes_of_string (P := P) w s d el bs hu hw he
    have hcap := grownCap_ge w bs.size 0 el
    have hsz : bs.size = bs.data.toList.length := by show bs.data.size = _; rw [Array.length_toList]
    have hrow : (bytesRow bs (grownCap w bs.size 0 el)).size = grownCap w bs.size 0 el := by
      unfold bytesRow
      rw [Array.size_append, Array.size_map, Array.size_replicate]
      have : bs.data.size = bs.size := rfl
      omega
    refine ⟨.slice (some ⟨w.heap.size, 0, none⟩) bs.size (grownCap w bs.size 0 el), .cells (bytesRow bs (grownCap w bs.size 0 el)) el ((bytesRow bs (grownCap w bs.size 0 el)).size, (bytesRow bs (grownCap w bs.size 0 el)).size + 1), w.drew, (bytesRow bs (grownCap w bs.size 0 el)).size, ?_, rfl, rfl, rfl, rfl, ⟨?_, .inr ⟨rfl, _, _, _, rfl, .inr (Nat.le_refl _), rfl, fun i v hi => ?_⟩, fun k hk => by cases hk; exact ⟨_, _, rfl⟩⟩, ?_⟩
    · simp only [execOp, ho, hx, Sem.run_bind, hrun, Result.andThen_ok]; rfl
    · show n < 256 ^ len
      rw [h1, h2]; exact leNat_lt _
    · rw [h1, h2, cell_byt] at hi
      cases hg : bs.data.toList[i]? with
      | none => rw [hg] at hi; cases hi
      | some c =>
        rw [hg] at hi
        simp only [Option.map_some, Option.some.injEq] at hi
        subst hi
        have hlt : i < bs.data.toList.length := (List.getElem?_eq_some_iff.1 hg).1
        refine ⟨.int .u8 c.toNat, ?_, rfl, rfl⟩
        have hg' : bs.data[i]? = some c := by simpa using hg
        simp only [bytesRow]
        rw [Array.getElem?_append_left (by simpa using hlt)]
        simp [hg']
    · refine ⟨_, 0, _, grownCap w bs.size 0 el, upd1_same _ _ _ _, .inl ⟨by rw [h2, hsz], by omega, by rw [hrow]; omega⟩⟩
end
end Go.Am

namespace Go.Am
open Go

/-! ### Writes come to an end whether the body is in order or not -/
section
variable {r : AV} {hF : Hp}
theorem wrCell_k {b : Body} {off : Nat} {v : AV} {k : Body → Out} (e : wrCell b off v k = .ok r hF) : b.isMap = false ∧ ∃ b', b'.isMap = false ∧ k b' = .ok r hF := by
  cases b with
  | map l => cases e
  | lop _ _ _ => cases e
  | itr _ => cases e
  | byt n len =>
    obtain ⟨kd, c, rfl, e2⟩ := asInt_ok (show AV.asInt v _ = .ok r hF from e)
    cases c with
    | negSucc c => cases e2
    | ofNat c =>
      obtain ⟨h1, e3⟩ := bc_ok e2
      obtain ⟨h2, e4⟩ := bc_ok e3
      obtain ⟨h3, e5⟩ := bc_ok e4
      rw [natK_eq] at e5
      exact ⟨rfl, _, rfl, e5⟩
  | arr t es len z =>
    obtain ⟨h1, e2⟩ := bc_ok (show bc (Nat.blt off (Nat.mul es len)) (natK (Nat.div off es) fun i => rwGet t (Pth.ofNat i) (k (.arr (rwSet t (Pth.ofNat i) (some (setNth z (Nat.mod off es) v))) es len z)) (fun row => k (.arr (rwSet t (Pth.ofNat i) (some (setNth row (Nat.mod off es) v))) es len z))) (.no 41) = .ok r hF from e)
    rw [natK_eq, rwGet_eq] at e2
    split at e2 <;> exact ⟨rfl, _, rfl, e2⟩
theorem wrCells_k : ∀ {l : List AV} {b : Body} {off : Nat} {k : Body → Out}, b.isMap = false → wrCells l b off k = .ok r hF → ∃ b', b'.isMap = false ∧ k b' = .ok r hF := by
  intro l
  induction l with
  | nil => intro b off k hm e; exact ⟨b, hm, e⟩
  | cons v l ih =>
    intro b off k hm e
    obtain ⟨_, b1, m1, e1⟩ := wrCell_k (show wrCell b off v (fun b => wrCells l b (Nat.succ off) k) = .ok r hF from e)
    exact ih m1 e1
theorem wrRow_k {b : Body} {n off : Nat} {l : List AV} {k : Body → Out} (e : wrRow b n off l k = .ok r hF) : b.isMap = false ∧ ∃ b', b'.isMap = false ∧ k b' = .ok r hF := by
  cases b with
  | map l => cases e
  | lop _ _ _ => cases e
  | itr _ => cases e
  | byt m len => exact ⟨rfl, wrCells_k rfl (show wrCells l (.byt m len) off k = .ok r hF from e)⟩
  | arr t es len z =>
    refine ⟨rfl, ?_⟩
    have e' : Bool.rec (motive := fun _ => PT (List AV) → Nat → Nat → List AV → Nat → List AV → (Body → Out) → Out) (fun t es len z off l k => wrCells l (.arr t es len z) off k)
      (fun t es len z off l k => natK (Nat.div off es) fun i => bc (Nat.blt i len) (k (.arr (rwSet t (Pth.ofNat i) (some l)) es len z)) (.no 41))
      (Bool.rec (fun _ => false) (fun b => b) (Nat.beq n es) (Nat.beq (Nat.mod off es) 0)) t es len z off l k = .ok r hF := e
    cases hb : (Bool.rec (fun _ => false) (fun b => b) (Nat.beq n es) (Nat.beq (Nat.mod off es) 0) : Bool) with
    | false => rw [hb] at e'; exact wrCells_k rfl e'
    | true =>
      rw [hb] at e'
      have e2 : natK (Nat.div off es) (fun i => bc (Nat.blt i len) (k (.arr (rwSet t (Pth.ofNat i) (some l)) es len z)) (.no 41)) = .ok r hF := e'
      rw [natK_eq] at e2
      obtain ⟨_, e3⟩ := bc_ok e2
      exact ⟨_, rfl, e3⟩
theorem wrRows_k {es : Nat} : ∀ {rows : List (List AV)} {b : Body} {off : Nat} {k : Body → Out}, b.isMap = false → wrRows rows es b off k = .ok r hF → ∃ b', b'.isMap = false ∧ k b' = .ok r hF := by
  intro rows
  induction rows with
  | nil => intro b off k hm e; exact ⟨b, hm, e⟩
  | cons row rows ih =>
    intro b off k hm e
    obtain ⟨_, b1, m1, e1⟩ := wrRow_k (show wrRow b es off row (fun b => wrRows rows es b (Nat.add off es) k) = .ok r hF from e)
    exact ih m1 e1
theorem wrRow_if {b : Body} {n off : Nat} {l : List AV} (hl : l.length = n) {k : Body → Out} (e : wrRow b n off l k = .ok r hF) : b.isMap = false ∧ ∃ b', k b' = .ok r hF ∧ (BodyOk b → WrSpec b off l b') := by
  by_cases hb : BodyOk b
  · obtain ⟨hm, b', h1, h2⟩ := wrRow_ok hb hl e; exact ⟨hm, b', h2, fun _ => h1⟩
  · obtain ⟨hm, b', _, h2⟩ := wrRow_k e; exact ⟨hm, b', h2, fun h => absurd h hb⟩
theorem wrCell_if {b : Body} {off : Nat} {v : AV} {k : Body → Out} (e : wrCell b off v k = .ok r hF) : b.isMap = false ∧ ∃ b', k b' = .ok r hF ∧ (BodyOk b → WrSpec b off [v] b') := by
  by_cases hb : BodyOk b
  · obtain ⟨hm, b', h1, h2⟩ := wrCell_ok hb e; exact ⟨hm, b', h2, fun _ => h1⟩
  · obtain ⟨hm, b', _, h2⟩ := wrCell_k e; exact ⟨hm, b', h2, fun h => absurd h hb⟩
theorem wrRows_if {es : Nat} {rows : List (List AV)} {b : Body} {off : Nat} {k : Body → Out} (hm : b.isMap = false) (hl : ∀ row ∈ rows, row.length = es) (e : wrRows rows es b off k = .ok r hF) : ∃ b', k b' = .ok r hF ∧ (BodyOk b → WrSpec b off rows.flatten b') := by
  by_cases hb : BodyOk b
  · obtain ⟨b', h1, h2⟩ := wrRows_ok hb hm hl e; exact ⟨b', h2, fun _ => h1⟩
  · obtain ⟨b', _, h2⟩ := wrRows_k hm e; exact ⟨b', h2, fun h => absurd h hb⟩
theorem wrBytes_if {b : Body} {off : Nat} {xs : List UInt8} {k : Body → Out} (e : wrBytes b off xs.length (leNat xs) k = .ok r hF) : b.isMap = false ∧ ∃ b', k b' = .ok r hF ∧ (BodyOk b → WrSpecX b off (xs.map fun x => .int .u8 (Int.ofNat x.toNat)) b') := by
  by_cases hb : BodyOk b
  · obtain ⟨hm, b', h1, h2⟩ := wrBytes_ok hb e; exact ⟨hm, b', h2, fun _ => h1⟩
  · cases b with
    | map l => cases e
    | lop _ _ _ => cases e
    | itr _ => cases e
    | arr t es len z => cases e
    | byt n len =>
      have e' : bc (Nat.ble (Nat.add off xs.length) len) (natK (Nat.add (Nat.add (Nat.mod n (Nat.shiftLeft 1 (Nat.mul 8 off))) (Nat.shiftLeft (leNat xs) (Nat.mul 8 off))) (Nat.shiftLeft (Nat.shiftRight n (Nat.mul 8 (Nat.add off xs.length))) (Nat.mul 8 (Nat.add off xs.length)))) fun c => k (.byt c len))
        (bc (Nat.ble off len) (natK (Nat.add (Nat.mod n (Nat.shiftLeft 1 (Nat.mul 8 off))) (Nat.shiftLeft (leNat xs) (Nat.mul 8 off))) fun c => natK (Nat.add off xs.length) fun l => k (.byt c l)) (.no 41)) = .ok r hF := e
      rw [bc_eq] at e'
      split at e'
      · rw [natK_eq] at e'
        exact ⟨rfl, _, e', fun h => absurd h hb⟩
      · obtain ⟨_, e2⟩ := bc_ok e'
        rw [natK_eq, natK_eq] at e2
        exact ⟨rfl, _, e2, fun h => absurd h hb⟩
end
section
variable {P : Program} {N T : Nat} {o : Oper} {f : Call_ → Env → Fr → Hp → (AV → Hp → Out) → Out} {call : Call_} {env : Env} {fr : Fr} {h : Hp} {k : AV → Hp → Out} {r : AV} {hF : Hp}
abbrev GreatR (P : Program) (N T : Nat) (o : Oper) (env : Env) (fr : Fr) (h : Hp) (k : AV → Hp → Out) (r : AV) (hF : Hp) : Prop := ∃ v h', k v h' = .ok r hF ∧ h.nx.toNat ≤ h'.nx.toNat ∧ RunsG P N T o env fr h v h'
/-- cells over cells -/
theorem store_run {ρ : Rho} {w : World} (R : Rel ρ h.look w) {q : Pth} {F : Fam} (hq : h.look q = some F) (hwr : F.old ≤ big) (hm : F.body.isMap = false) {b ba cs : Nat} (hx : ρ q F.ep = some (b, ba, cs)) {off : Nat} {l : List AV} {b' : Body} (S : BodyOk F.body → WrSpec F.body off l b')
    {vs : List Value} (hv : CellsR ρ l vs) : (storeCells ⟨b, ba + off, none⟩ vs).run P w = .ok () (w.setCells b (ba + off) vs) ∧ Tr ρ h w ρ (putFam h q (some (F.wrote off b'))) (w.setCells b (ba + off) vs) := by
  obtain ⟨h1, h2, h3⟩ := R.write hq hwr hm hx (S (R.fam q F hq).bok) hv.1 hv.2
  exact ⟨run_storeCells_cells (P := P) b (ba + off) vs 0 w h1 h2 hv.2, h3⟩
theorem store_runX {ρ : Rho} {w : World} (R : Rel ρ h.look w) {q : Pth} {F : Fam} (hq : h.look q = some F) (hwr : F.old ≤ big) (hm : F.body.isMap = false) {b ba cs : Nat} (hx : ρ q F.ep = some (b, ba, cs)) {off : Nat} {l : List AV} {b' : Body} (S : BodyOk F.body → WrSpecX F.body off l b')
    {vs : List Value} (hv : CellsR ρ l vs) (hfit : ba + off + vs.length ≤ cs) : (storeCells ⟨b, ba + off, none⟩ vs).run P w = .ok () (w.setCells b (ba + off) vs) ∧ Tr ρ h w ρ (putFam h q (some (F.wrote off b'))) (w.setCells b (ba + off) vs) := by
  obtain ⟨c, elt, fz, c1, c2, c3⟩ := ((R.fam q F hq).arr hm _ _ hx).1
  have c2 : c.size = cs := c2
  obtain ⟨h1, h2, h3⟩ := R.writeX hq hwr hm hx (S (R.fam q F hq).bok) hv.1 hv.2 (fun j hj => by
    have c1 : w.heap[b]? = some (.cells c elt fz) := c1
    have hlt : ba + off + j < c.size := by omega
    refine ⟨c[ba + off + j], ?_⟩
    show w.cell? ⟨b, ba + off + j, none⟩ = _
    unfold World.cell?; rw [c1]; simp [hlt])
  exact ⟨run_storeCells_cells (P := P) b (ba + off) vs 0 w h1 h2 hv.2, h3⟩
theorem ok_store {t : Nat} {x y : Operand} (ho : o.op = .store t x y) (hf : opC P N o.op = .mk f) (e : f call env fr h k = .ok r hF) : GreatR P N T o env fr h k r hF := by
  rw [ho] at hf
  obtain ⟨u, v, e1, huv⟩ := op2_ok (show op2 (opdC P N x) (opdC P N y) (storeC P t) = .mk f from hf) e
  have fin : ∀ {l : List AV} {q off ep F b'}, u = .ptr q off ep → h.look q = some F → F.old ≤ big → ep = F.ep → F.body.isMap = false → l.length = P.cellsOf t → (∃ i, P.info? t = some i) → (∀ ρ z, VR ρ v z → CellsR ρ l z.cells.toList) → (BodyOk F.body → WrSpec F.body off l b') →
      k (.tup []) (putFam h q (some (F.wrote off b'))) = .ok r hF → GreatR P N T o env fr h k r hF := by
    intro l q off ep F b' hu hq hwr hep hm hl hi hc S e2
    refine ⟨_, _, e2, by rw [nx_put]; exact Nat.le_refl _, fun ρ a w next Q ha R _ hn => ?_⟩
    obtain ⟨h1, h2⟩ := huv ρ a ha.cx
    rw [hu] at h1
    obtain ⟨b, ba, cs, hx, hp⟩ := h1
    subst hep
    have hcell := hc ρ _ h2
    obtain ⟨h3, h4⟩ := store_run (P := P) R hq hwr hm hx S hcell
    obtain ⟨i, hi⟩ := hi
    have hsz : (a.eval y).cells.size = P.cellsOf t := by have := hcell.1.length; simp at this; omega
    refine skip_wp (w' := w.setCells b (ba + off) (a.eval y).cells.toList) ?_ (hn ρ undef _ ⟨#[], rfl, trivial⟩ h4)
    simp only [execOp, ho, hp, Instr.storeAt, Instr.sureAddr, storeVar, Sem.run_bind, Sem.run_pure, Result.andThen_ok, run_size hi, hsz, ne_eq, not_true, if_false, h3]
  unfold storeC at e1
  cases ha : isAgg P t with
  | true =>
    rw [ha] at e1
    simp only at e1
    obtain ⟨q, off, ep, rfl, e2⟩ := asPtr_ok e1
    obtain ⟨l, e3, hl, hc⟩ := cellsOfC_ok (a := true) e2
    obtain ⟨F, hq, hep, hwr, e4⟩ := famW_ok e3
    rw [bodyK_eq] at e4
    obtain ⟨hm, b', e5, S⟩ := wrRow_if hl e4
    have hi : ∃ i, P.info? t = some i := by
      unfold isAgg at ha
      obtain ⟨U, hu⟩ : ∃ U, P.underlying t = U := ⟨_, rfl⟩
      rw [hu] at ha
      cases U with
      | none => cases ha
      | some d => exact info_of hu
    exact fin rfl hq hwr hep hm hl hi hc S e5
  | false =>
    rw [ha] at e1
    cases hn : P.cellsOf t with
    | zero => rw [hn] at e1; cases e1
    | succ n =>
      cases n with
      | succ n => rw [hn] at e1; cases e1
      | zero =>
        rw [hn] at e1
        obtain ⟨q, off, ep, rfl, e2⟩ := asPtr_ok (show AV.asPtr u _ = .ok r hF from e1)
        obtain ⟨hfl, e3⟩ := bc_ok e2
        obtain ⟨F, hq, hep, hwr, e4⟩ := famW_ok e3
        rw [bodyK_eq] at e4
        obtain ⟨hm, b', e5, S⟩ := wrCell_if e4
        exact fin rfl hq hwr hep hm (by rw [hn]; rfl) (info_pos hn) (fun ρ z hz => cellsR_one hz hfl) S e5
theorem cell_freeze (w : World) (b n : Nat) (a : Addr) : (w.freeze ⟨b, n, none⟩ 1).cell? a = w.cell? a := by
  unfold World.freeze World.cell?
  rw [if_neg (by decide)]
  simp only [Array.getElem?_modify]
  by_cases hb : b = a.block
  · subst hb
    rw [if_pos rfl]
    cases w.heap[a.block]? with
    | none => rfl
    | some o => cases o <;> rfl
  · rw [if_neg hb]
theorem heap_freeze (w : World) (b n k : Nat) (h : k ≠ b) : (w.freeze ⟨b, n, none⟩ 1).heap[k]? = w.heap[k]? := by
  unfold World.freeze
  rw [if_neg (by decide)]
  simp only [Array.getElem?_modify]
  rw [if_neg (Ne.symm h)]
theorem el_freeze {w : World} (b n : Nat) {k el : Nat} (h : ∃ c fz, w.heap[k]? = some (.cells c el fz)) : ∃ c fz, (w.freeze ⟨b, n, none⟩ 1).heap[k]? = some (.cells c el fz) := by
  obtain ⟨c, fz, h1⟩ := h
  by_cases hk : k = b
  · subst hk
    obtain ⟨lo, hi⟩ := fz
    refine ⟨c, if lo == hi then (n, n + 1) else (min lo n, max hi (n + 1)), ?_⟩
    unfold World.freeze
    rw [if_neg (by decide)]
    simp only [Array.getElem?_modify, if_true, h1]; rfl
  · exact ⟨c, fz, by rw [heap_freeze _ _ _ _ hk]; exact h1⟩
theorem blk_freeze {w : World} {b n k cs : Nat} (hn : ∀ c el fz, w.heap[b]? = some (.cells c el fz) → n = c.size) (h : BlkOk w k cs) : BlkOk (w.freeze ⟨b, n, none⟩ 1) k cs := by
  obtain ⟨c, el, fz, h1, h2, h3⟩ := h
  by_cases hk : k = b
  · subst hk
    have hn := hn c el fz h1
    obtain ⟨lo, hi⟩ := fz
    refine ⟨c, el, if lo == hi then (n, n + 1) else (min lo n, max hi (n + 1)), ?_, h2, ?_⟩
    · unfold World.freeze
      rw [if_neg (by decide)]
      simp only [Array.getElem?_modify, if_true, h1]; rfl
    · right
      split
      · show cs ≤ n; omega
      · rename_i hne
        show cs ≤ min lo n
        rcases h3 with h3 | h3
        · simp at h3; simp [h3] at hne
        · simp at h3; omega
  · exact ⟨c, el, fz, by rw [heap_freeze _ _ _ _ hk]; exact h1, h2, h3⟩
theorem Rel.marked {ρ : Rho} {h : Hp} {w : World} (R : Rel ρ h.look w) {q : Pth} {F : Fam} (hq : h.look q = some F) (hwr : F.old ≤ big) {e : Nat} {x : Nat × Nat × Nat} (hx : ρ q e = some x) {c : Array Value} {el : Nat} {fz : Nat × Nat} (hb : w.heap[x.1]? = some (.cells c el fz)) :
    Tr ρ h w ρ h (w.freeze ⟨x.1, c.size, none⟩ 1) := by
  have hsz : (w.freeze ⟨x.1, c.size, none⟩ 1).heap.size = w.heap.size := by
    unfold World.freeze; rw [if_neg (by decide)]; simp
  have hn : ∀ c' el' fz', w.heap[x.1]? = some (.cells c' el' fz') → c.size = c'.size := by intro c' el' fz' h1; rw [hb] at h1; cases h1; rfl
  have hrest : (w.freeze ⟨x.1, c.size, none⟩ 1).os = w.os ∧ (w.freeze ⟨x.1, c.size, none⟩ 1).tape = w.tape ∧ (w.freeze ⟨x.1, c.size, none⟩ 1).output = w.output := by
    unfold World.freeze; rw [if_neg (by decide)]; exact ⟨rfl, rfl, rfl⟩
  refine ⟨⟨fun f G hG => ?_, R.sep, fun f e y hy => by rw [hsz]; exact R.lt f e y hy⟩, Le.refl ρ, fun f e y h1 h2 => (by rw [h1] at h2; cases h2), Nat.le_refl _, fun f G hG => .inl ⟨G, hG⟩, fun k hk hno => heap_freeze _ _ _ _ fun he => hno q F e x hq hwr hx he.symm, by rw [hsz]; exact Nat.le_refl _, hrest.1, hrest.2.1, hrest.2.2, fun f G hG hb => .inl ⟨G, hG, hb⟩⟩
  have FR := R.fam f G hG
  refine ⟨FR.bok, FR.cur, FR.le, fun l hl => ?_, fun hm e y hy => ?_, fun st p d hl => ?_, fun k hk hbg e y hy => ?_, fun m hm => ?_⟩
  rotate_right
  · obtain ⟨h0, y, mo, si, la, h1, h2, h3⟩ := FR.itr m hm
    refine ⟨h0, y, mo, si, la, h1, ?_, h3⟩
    by_cases hk : y.1 = x.1
    · rw [hk, hb] at h2; cases h2
    · rw [heap_freeze _ _ _ _ hk]; exact h2
  rotate_right
  · obtain ⟨h1, h2⟩ := FR.el k hk hbg e y hy
    exact ⟨h1, el_freeze _ _ h2⟩
  rotate_right
  · obtain ⟨h0, y, r, h1, h2, h3⟩ := FR.lop st p d hl
    refine ⟨h0, y, r, h1, ?_, h3⟩
    by_cases hk : y.1 = x.1
    · rw [hk, hb] at h2; cases h2
    · rw [heap_freeze _ _ _ _ hk]; exact h2
  · obtain ⟨h0, y, es, ck, h1, h2, h3⟩ := FR.map l hl
    refine ⟨h0, y, es, ck, h1, ?_, h3⟩
    by_cases hk : y.1 = x.1
    · rw [hk, hb] at h2; cases h2
    · rw [heap_freeze _ _ _ _ hk]; exact h2
  · obtain ⟨a1, a2⟩ := FR.arr hm e y hy
    refine ⟨blk_freeze hn a1, fun i v hi ho => ?_⟩
    obtain ⟨v', b1, b2, b3⟩ := a2 i v hi ho
    exact ⟨v', by rw [cell_freeze]; exact b1, b2, b3⟩
theorem mark_run {w : World} {t el : Nat} (ht : P.underlying t = some (.slice el)) (he : P.underlying el = some (.int .u8)) {b o : Nat} {len cap : Nat} {c : Array Value} {elt : Nat} {fz : Nat × Nat} (hb : w.heap[b]? = some (.cells c elt fz)) :
    (convert t t (.slice (some ⟨b, o, none⟩) len cap)).run P w = .ok (.slice (some ⟨b, o, none⟩) len cap) (w.freeze ⟨b, c.size, none⟩ 1) := by
  have hsh : w.shape? b = some (elt, c.size) := by unfold World.shape?; rw [hb]
  simp [convert, run_underlying ht, run_underlying he, markStringish, hsh]
theorem notMap_ok {b : Body} {K : Out} (e : b.notMap K = .ok r hF) : b.isMap = false ∧ K = .ok r hF := by
  cases b with
  | map l => cases e
  | lop _ _ _ => cases e
  | itr _ => cases e
  | _ => exact ⟨rfl, e⟩
theorem ok_conv3 {s d : Nat} {x : Operand} (ho : o.op = .convert s d x) (hcl : 3 ≤ clsOp P o.op) (hf : opC P N o.op = .mk f) (e : f call env fr h k = .ok r hF) : GreatR P N T o env fr h k r hF := by
  rw [ho] at hf hcl
  obtain ⟨v, e1, hv⟩ := op1_ok (show op1 (opdC P N x) (convC P s d) = .mk f from hf) e
  unfold convC at e1
  obtain ⟨U, hu⟩ : ∃ U, P.underlying s = U := ⟨_, rfl⟩
  obtain ⟨W, hw⟩ : ∃ W, P.underlying d = W := ⟨_, rfl⟩
  rw [cls_convert, hu, hw] at hcl
  rw [hu, hw] at e1
  by_cases hpu : (∃ t, U = some (.pointer t)) ∧ W = some .unsafePointer
  · obtain ⟨⟨t, rfl⟩, rfl⟩ := hpu
    simp only at e1
    cases hi : P.info? t with
    | none => rw [hi] at e1; cases e1
    | some i =>
      rw [hi] at e1
      simp only at e1
      cases hz : i.size with
      | zero => rw [hz] at e1; cases e1
      | succ s' =>
        rw [hz] at e1
        obtain ⟨q, off, ep, rfl, e2⟩ := asPtr_ok e1
        obtain ⟨F, hq, hep, e3⟩ := famK_ok e2
        rw [bodyK_eq] at e3
        obtain ⟨hm, cv, hc, e4⟩ := rdCell_ok e3
        refine ⟨_, _, e4, Nat.le_refl _, fun ρ a w next Q ha R _ hn => ?_⟩
        have hvv := hv ρ a ha.cx
        obtain ⟨b, ba, cs, hr, hx⟩ := hvv
        obtain ⟨u', hu', _, _⟩ := R.read hq hm hr hc (hep.imp id fun h => by omega)
        obtain ⟨c, elt, fz, c1, c2, c3⟩ := ((R.fam q F hq).arr hm ep _ hr).1
        have hlt : ba + off < c.size := by
          simp only [World.cell?, c1] at hu'
          simp at hu'
          exact (Array.getElem?_eq_some_iff.1 hu').1
        have hsh : w.shape? b = some (elt, c.size) := by unfold World.shape?; rw [c1]
        have hrun := Lib.run_to_unsafe (P := P) w (src := s) (dst := d) ⟨b, ba + off, none⟩ hu hw hi (by omega) hsh hlt
        refine value_wp (v := .pointer (some ⟨b, ba + off, none⟩)) ?_ (hn ρ _ _ ⟨b, ba, cs, hr, rfl⟩ (Tr.refl R))
        simp only [execOp, ho, hx, Sem.run_bind, hrun, Result.andThen_ok]; rfl
  by_cases hup : U = some .unsafePointer ∧ ∃ u, W = some (.pointer u)
  · obtain ⟨rfl, u, rfl⟩ := hup
    simp only at e1
    cases hi : P.info? u with
    | none => rw [hi] at e1; cases e1
    | some i =>
      rw [hi] at e1
      simp only at e1
      cases hz : i.size with
      | zero => rw [hz] at e1; cases e1
      | succ s' =>
        rw [hz] at e1
        obtain ⟨q, off, ep, rfl, e2⟩ := asPtr_ok e1
        obtain ⟨h0, e3⟩ := bc_ok e2
        obtain rfl : off = 0 := Nat.eq_of_beq_eq_true h0
        obtain ⟨F, hq, hep, hwr, e4⟩ := famW_ok e3
        obtain ⟨hel, e5⟩ := bc_ok (show bc (Nat.beq F.elem (Nat.succ u)) (F.bodyK fun b => rdCell b s' fun _ => k (.ptr q 0 ep) h) (.no 143) = .ok r hF from e4)
        have hel : F.elem = u + 1 := Nat.eq_of_beq_eq_true hel
        rw [bodyK_eq] at e5
        obtain ⟨hm, cv, hc, e6⟩ := rdCell_ok e5
        refine ⟨_, _, e6, Nat.le_refl _, fun ρ a w next Q ha R _ hn => ?_⟩
        have hvv := hv ρ a ha.cx
        obtain ⟨b, ba, cs, hr, hx⟩ := hvv
        obtain ⟨hba, c, fz, c1⟩ := (R.fam q F hq).el u hel hwr ep _ hr
        have hba : ba = 0 := hba
        subst hba
        obtain ⟨u', hu', _, _⟩ := R.read hq hm hr hc (.inl hep)
        have hlt : s' < c.size := by
          have hu' : w.cell? ⟨b, 0 + s', none⟩ = some u' := hu'
          have c1 : w.heap[b]? = some (.cells c u fz) := c1
          simp only [World.cell?, c1] at hu'
          simp at hu'
          have := (Array.getElem?_eq_some_iff.1 hu').1
          omega
        have hsh : w.shape? b = some (u, c.size) := by unfold World.shape?; rw [show w.heap[b]? = some (.cells c u fz) from c1]
        have hcu : P.cellsOf u = s' + 1 := by unfold Program.cellsOf; rw [hi]; simp [hz]
        have hlies : liesAt P P.depth u (c.size / P.cellsOf u) 0 u 1 = true := by
          have hd : P.depth = (2 * (P.types.size + Made.depth) + 1) + 1 := rfl
          rw [hd]
          simp only [liesAt, Bool.or_eq_true]
          left
          rw [hd]
          have h1 : 1 ≤ c.size / (s' + 1) := (Nat.le_div_iff_mul_le (by omega)).2 (by omega)
          simp [rowAt, hcu, sameLayout, h1]
        have hrun := Lib.run_from_unsafe (P := P) w (src := s) (dst := d) ⟨b, 0, none⟩ hu hw hi hsh hlies
        refine value_wp (v := .pointer (some ⟨b, 0, none⟩)) ?_ (hn ρ _ _ ⟨b, 0, cs, hr, rfl⟩ (Tr.refl R))
        have hx : a.eval x = .pointer (some ⟨b, 0, none⟩) := hx
        simp only [execOp, ho, hx, Sem.run_bind, hrun, Result.andThen_ok]; rfl
  have : ∃ el el', U = some (.slice el) ∧ W = some (.slice el') := by
    cases U with
    | none => cases e1
    | some U =>
      cases W with
      | none => cases U <;> cases e1
      | some W => cases U <;> cases W <;> first | exact ⟨_, _, rfl, rfl⟩ | cases e1 | (simp [clsConv] at hcl; done) | exact absurd ⟨⟨_, rfl⟩, rfl⟩ hpu | exact absurd ⟨rfl, _, rfl⟩ hup
  obtain ⟨el, el', rfl, rfl⟩ := this
  simp only at e1
  cases hb : (isByte P el && Nat.beq s d) with
  | false => rw [hb] at e1; cases e1
  | true =>
    rw [hb] at e1
    simp only [Bool.and_eq_true] at hb
    have he := isByte_ok hb.1
    have hsd := Nat.eq_of_beq_eq_true hb.2
    subst hsd
    obtain ⟨q, off, l, ep, es, rfl, e2⟩ := asSlc_ok e1
    obtain ⟨h1, e3⟩ := bc_ok e2
    obtain ⟨F, hq, _, e4⟩ := famK_ok e3
    obtain ⟨hwr, e4⟩ := bc_ok (show bc (Nat.ble F.old big) (F.bodyK fun b => b.notMap (k (.slc q off l ep es) h)) (.no 116) = .ok r hF from e4)
    have hwr : F.old ≤ big := Nat.le_of_ble_eq_true hwr
    rw [bodyK_eq] at e4
    obtain ⟨hm, e5⟩ := notMap_ok e4
    refine ⟨_, _, e5, Nat.le_refl _, fun ρ a w next Q ha R _ hn => ?_⟩
    have hl1 : 1 ≤ l := Nat.le_of_ble_eq_true h1
    have hvv := hv ρ a ha.cx
    obtain ⟨b, ba, cs, cap, hr, hx⟩ := hvv
    rcases hx with ⟨hx, h5, h6⟩ | ⟨h0, _⟩
    · obtain ⟨⟨c, elt, fz, c1, c2, c3⟩, _⟩ := (R.fam q F hq).arr hm ep _ hr
      have hrun := mark_run (P := P) hu he (o := ba + off) (len := l) (cap := cap) c1
      refine value_wp (v := .slice (some ⟨b, ba + off, none⟩) l cap) ?_ (hn ρ _ _ ⟨b, ba, cs, cap, hr, .inl ⟨rfl, h5, h6⟩⟩ (R.marked hq hwr hr c1))
      simp only [execOp, ho, hx, Sem.run_bind, hrun, Result.andThen_ok]; rfl
    · omega

/-! calls -/
theorem VRs.app {ρ : Rho} {a b : List AV} {v u : Array Value} (h : VRs ρ a v.toList) (k : VRs ρ b u.toList) : VRs ρ (a ++ b) (v ++ u).toList := by rw [Array.toList_append]; exact h.append k
theorem ok_call {c : Call} {x : Operand} (ho : o.op = .call c) (hcal : c.callee = .value x) (hf : opC P N o.op = .mk f) (hc : CallOk P call) (e : f call env fr h k = .ok r hF) : GreatR P N T o env fr h k r hF := by
  rw [ho] at hf
  have hf : callC P N c = .mk f := hf
  unfold callC at hf
  rw [hcal] at hf
  simp only at hf
  cases hx : opdC P N x with
  | mk X => cases hl : opdsC P N c.args.toList with
    | mk L =>
      rw [hx, hl] at hf; cases hf
      obtain ⟨v, e1, hv⟩ := opdC_ok hx e
      obtain ⟨as, e2, _, has⟩ := opdsC_ok hl e1
      obtain ⟨q, first, cap, rfl, e3⟩ := asFn_ok e2
      have e4 : call q (first ++ as ++ cap) h k = .ok r hF := by
        cases hfc : first ++ cap with
        | nil =>
          rw [hfc] at e3
          have h1 : first = [] := by cases first with
            | nil => rfl
            | cons _ _ => simp at hfc
          have h2 : cap = [] := by rw [h1] at hfc; exact hfc
          rw [h1, h2]; simpa using e3
        | cons _ _ => rw [hfc] at e3; exact e3
      by_cases hyl : ∃ q0, q = yid ∧ first = [.bad, .mp q0] ∧ cap = []
      · obtain ⟨q0, rfl, rfl, rfl⟩ := hyl
        rw [List.append_nil] at e4
        obtain ⟨w', h', e5, n5, H⟩ := hc.yl (show call yid (.bad :: .mp q0 :: as) h k = .ok r hF from e4)
        refine ⟨w', h', e5, n5, fun ρ a w next Q ha R K hn => ?_⟩
        have hargs' : VRs ρ as (c.args.map a.eval).toList := by rw [Array.toList_map]; exact has ρ a ha.cx
        rcases hv ρ a ha.cx with ⟨xs, ys, _, h1, _⟩ | ⟨_, _, q1, b, ba, cs, h1, h2, h3⟩
        · exfalso
          cases hl : xs.toList with
          | nil => rw [hl] at h1; exact h1.elim
          | cons x xs' => rw [hl] at h1; exact h1.1.elim
        · cases h1
          obtain ⟨fn, tmps, as', bd, g1, g2⟩ := H ρ w b ba cs _ hargs' h2 ha.cx.gl R K
          have hexec : (execOp a.eval o).run P w = .ok (.round b fn tmps as' bd) w := by
            simp only [execOp, ho, resolve, hcal, h3, Deferred.ofValue, Sem.run_bind, Sem.run_pure, Result.andThen_ok, invoke, Array.empty_append]
            exact g1
          rename_i ro
          refine ⟨fun _ _ => trivial, ?_⟩
          rw [semAt_next hexec (by simp) (by simp)]
          refine ⟨fun h => by simp [wideR, Fence.wide] at h, ?_⟩
          refine RoundIn.mono (R := Ret ρ h w w' h') g2 fun en w1 hr => ?_
          cases en with
          | returned v' => obtain ⟨ρ', a1, a2⟩ := hr; exact hn ρ' v' w1 a1 a2
          | panicked _ => exact hr.elim
          | outgrown => exact hr.elim
      obtain ⟨w', h', e5, n5, H⟩ := hc.fn e4
      refine ⟨w', h', e5, n5, fun ρ a w next Q ha R K hn => ?_⟩
      obtain ⟨xs, ys, hfx, hxs, hys⟩ : ∃ xs ys, a.eval x = .func (.func q) xs ys ∧ VRs ρ first xs.toList ∧ VRs ρ cap ys.toList := by
        rcases hv ρ a ha.cx with h1 | ⟨h1, h2, q1, _, _, _, h3, _⟩
        · exact h1
        · exact absurd ⟨q1, h1, h3, h2⟩ hyl
      have hargs := has ρ a ha.cx
      have hargs' : VRs ρ as (c.args.map a.eval).toList := by rw [Array.toList_map]; exact hargs
      have hexec : (execOp a.eval o).run P w = (callFunc q (xs ++ c.args.map a.eval ++ ys)).run P w := by
        simp only [execOp, ho, resolve, hcal, hfx, Deferred.ofValue, Sem.run_bind, Sem.run_pure, Result.andThen_ok, invoke]
      rcases H ρ w (xs ++ c.args.map a.eval ++ ys) ((hxs.app hargs').app hys) ha.cx.gl R K with ⟨v', w1, ρ', h1, h2, h3⟩ | ⟨h1, h2⟩
      · exact value_wp (by rw [hexec]; exact h1) (hn ρ' v' w1 h2 h3)
      · refine ⟨fun _ _ => trivial, ?_⟩
        rw [semAt_next (hexec.trans h1) (by simp) (by simp)]
        refine ⟨fun h => by simp [wideR, Fence.wide] at h, callsIn_wideR.2 (Calls.mono h2 fun en w1 hr => ?_)⟩
        cases en with
        | returned v' => obtain ⟨ρ', a1, a2⟩ := hr; exact hn ρ' v' w1 a1 a2
        | panicked _ => exact hr.elim
        | outgrown => exact hr.elim
end
end Go.Am

namespace Go.Am
open Go

theorem heap_freezeN (w : World) (b o n k : Nat) (h : k ≠ b) : (w.freeze ⟨b, o, none⟩ n).heap[k]? = w.heap[k]? := by
  unfold World.freeze
  split
  · rfl
  · simp only [Array.getElem?_modify]
    rw [if_neg (Ne.symm h)]
theorem freeze_rest (w : World) (a : Addr) (n : Nat) : (w.freeze a n).heap.size = w.heap.size ∧ (w.freeze a n).os = w.os ∧ (w.freeze a n).tape = w.tape ∧ (w.freeze a n).output = w.output := by
  unfold World.freeze
  split
  · exact ⟨rfl, rfl, rfl, rfl⟩
  · exact ⟨by simp, rfl, rfl, rfl⟩
/-- a family's block is frozen, and the family not seen again -/
theorem Rel.dropFreeze {ρ : Rho} {h : Hp} {w : World} (R : Rel ρ h.look w) {q : Pth} {F : Fam} (hq : h.look q = some F) (hwr : F.old ≤ big) {e : Nat} {x : Nat × Nat × Nat} (hx : ρ q e = some x) (o n : Nat) :
    Tr ρ h w ρ (putFam h q none) (w.freeze ⟨x.1, o, none⟩ n) := by
  have hlook : ∀ g, (putFam h q none).look g = if g = q then none else h.look g := look_put h q _
  obtain ⟨r0, r1, r2, r3⟩ := freeze_rest w ⟨x.1, o, none⟩ n
  have hl2 : ∀ g G, (putFam h q none).look g = some G → g ≠ q ∧ h.look g = some G := by
    intro g G hG
    rw [hlook] at hG
    split at hG
    · cases hG
    · exact ⟨‹_›, hG⟩
  refine ⟨⟨fun g G hG => ?_, fun f F e x f' F' e' x' h1 h2 h3 h4 h5 => R.sep f F e x f' F' e' x' (hl2 _ _ h1).2 (hl2 _ _ h2).2 h3 h4 h5, fun f e x hx => by rw [r0]; exact R.lt f e x hx⟩, Le.refl ρ, fun f e x h1 h2 => (by rw [h1] at h2; cases h2), by rw [nx_put]; exact Nat.le_refl _,
    fun g G hG => .inl ⟨G, (hl2 g G hG).2⟩, fun k hk hno => heap_freezeN _ _ _ _ _ fun he => hno q F e x hq hwr hx he.symm, by rw [r0]; exact Nat.le_refl _, r1, r2, r3, fun g G hG hb => .inl ⟨G, (hl2 g G hG).2, hb⟩⟩
  obtain ⟨hne, hg⟩ := hl2 g G hG
  exact (R.fam g G hg).mono (Le.refl ρ) (fun _ _ h => h) fun e' y hy => heap_freezeN _ _ _ _ _ fun he => hne (R.sep g G e' y q F e x hg hq hy hx he).1
section
variable {P : Program} {N T : Nat} {o : Oper} {f : Call_ → Env → Fr → Hp → (AV → Hp → Out) → Out} {call : Call_} {env : Env} {fr : Fr} {h : Hp} {k : AV → Hp → Out} {r : AV} {hF : Hp}
theorem ok_cap {t : Nat} {ts : List Nat} {x : Operand} {c : Call} (ho : o.op = .call c) (hc : c.callee = .builtin .cap) (ha : c.args.toList = [x]) (ht : c.argTypes.toList = t :: ts) (hf : opC P N o.op = .mk f) (e : f call env fr h k = .ok r hF) : GreatR P N T o env fr h k r hF := by
  rw [ho] at hf
  have hf : callC P N c = .mk f := hf
  unfold callC at hf
  rw [hc, ha, ht] at hf
  simp only at hf
  cases hu : P.underlying t with
  | none => rw [hu] at hf; cases hf; cases e
  | some U =>
    cases U with
    | slice el =>
      rw [hu] at hf
      obtain ⟨v, e1, hv⟩ := op1_ok hf e
      rcases nilSlc_ok e1 with ⟨rfl, e2⟩ | ⟨_, e2⟩
      · refine ⟨_, _, e2, Nat.le_refl _, fun ρ a w next Q har R _ hn => ?_⟩
        have hx : a.eval x = .slice none 0 0 := hv ρ a har.cx
        obtain ⟨cs, hrun⟩ := exec_builtin (P := P) a ho hc w
        have hargs : c.args.map a.eval = #[.slice none 0 0] := by
          apply Array.toList_inj.1; rw [Array.toList_map, ha]; simp [hx]
        refine value_wp (v := .int .i64 0) ?_ (hn ρ _ _ rfl (Tr.refl R))
        rw [hrun, hargs]
        simp [builtin, Builtin.cap_, arrC ht, run_underlying hu, goInt]
      · cases e2
    | _ => rw [hu] at hf; cases hf; cases e
theorem ok_sdata {x : Operand} {c : Call} (ho : o.op = .call c) (hc : c.callee = .builtin .unsafeSliceData) (ha : c.args.toList = [x]) (hf : opC P N o.op = .mk f) (e : f call env fr h k = .ok r hF) : GreatR P N T o env fr h k r hF := by
  rw [ho] at hf
  have hf : callC P N c = .mk f := hf
  unfold callC at hf
  rw [hc, ha] at hf
  simp only at hf
  obtain ⟨v, e1, hv⟩ := op1_ok hf e
  have hargs : ∀ a : Act, c.args.map a.eval = #[a.eval x] := fun a => by apply Array.toList_inj.1; rw [Array.toList_map, ha]; rfl
  rcases nilSlc_ok e1 with ⟨rfl, e2⟩ | ⟨_, e2⟩
  · refine ⟨_, _, e2, Nat.le_refl _, fun ρ a w next Q har R _ hn => ?_⟩
    have hx : a.eval x = .slice none 0 0 := hv ρ a har.cx
    obtain ⟨cs, hrun⟩ := exec_builtin (P := P) a ho hc w
    refine value_wp (v := .pointer none) ?_ (hn ρ _ _ rfl (Tr.refl R))
    rw [hrun, hargs, hx]
    simp only [builtin, Sem.run_bind, Lib.run_unsafeSliceData_nil, Result.andThen_ok]; rfl
  · obtain ⟨q, off, l, ep, es, rfl, e3⟩ := asSlc_ok (show v.asSlc (fun f o l ep _ => bc (Nat.ble 1 l) (k (.ptr f o ep) h) (.no 141)) = .ok r hF from e2)
    obtain ⟨h1, e4⟩ := bc_ok e3
    have h1 : 1 ≤ l := Nat.le_of_ble_eq_true h1
    refine ⟨_, _, e4, Nat.le_refl _, fun ρ a w next Q har R _ hn => ?_⟩
    have hvv := hv ρ a har.cx
    obtain ⟨b, ba, cs, cap, hr, hx⟩ := hvv
    rcases hx with ⟨hx, h5, h6⟩ | ⟨h0, _⟩
    · obtain ⟨cs', hrun⟩ := exec_builtin (P := P) a ho hc w
      refine value_wp (v := .pointer (some ⟨b, ba + off, none⟩)) ?_ (hn ρ _ _ ⟨b, ba, cs, hr, rfl⟩ (Tr.refl R))
      rw [hrun, hargs, hx]
      simp only [builtin, Sem.run_bind, Lib.run_unsafeSliceData_row w _ _ _ l cap (by omega), Result.andThen_ok]; rfl
    · omega
theorem ok_ustr {t u : Nat} {x y : Operand} {c : Call} (ho : o.op = .call c) (hc : c.callee = .builtin .unsafeString) (ha : c.args.toList = [x, y]) (ht : c.argTypes.toList = [t, u]) (hf : opC P N o.op = .mk f) (e : f call env fr h k = .ok r hF) : GreatR P N T o env fr h k r hF := by
  rw [ho] at hf
  have hf : callC P N c = .mk f := hf
  unfold callC at hf
  rw [hc, ha, ht] at hf
  simp only at hf
  have hat : c.argTypes = #[t, u] := by apply Array.toList_inj.1; rw [ht]
  cases hu : P.underlying t with
  | none => rw [hu] at hf; cases hf; cases e
  | some U =>
    cases U with
    | pointer el =>
      rw [hu] at hf
      simp only at hf
      cases hb : (isByte P el && Nat.beq (P.cellsOf el) 1) with
      | false => rw [hb] at hf; cases hf; cases e
      | true =>
        rw [hb] at hf
        simp only [Bool.and_eq_true] at hb
        have hc1 : P.cellsOf el = 1 := Nat.eq_of_beq_eq_true hb.2
        obtain ⟨v, n, e1, hv⟩ := op2_ok hf e
        have hargs : ∀ a : Act, c.args.map a.eval = #[a.eval x, a.eval y] := fun a => by apply Array.toList_inj.1; rw [Array.toList_map, ha]; rfl
        have hptr : (v = .nul ∨ ∃ f o p, v = .ptr f o p) ∧ n.asInt (fun kd m => bc (kEq kd .i64) (ustrK el v m h k) (.no 144)) = .ok r hF := by
          rcases nilPtr_ok e1 with ⟨h1, e2⟩ | ⟨h1, e2⟩
          · exact ⟨.inl h1, e2⟩
          · exact ⟨.inr h1, e2⟩
        obtain ⟨hp, e2⟩ := hptr
        obtain ⟨kd, m, rfl, e3⟩ := asInt_ok e2
        obtain ⟨hk, e4⟩ := bc_ok e3
        have hk := kEq_ok hk
        subst hk
        cases m with
        | negSucc m => cases e4
        | ofNat m =>
          cases m with
          | zero =>
            have e5 : k (.str 0 0) h = .ok r hF := e4
            refine ⟨_, _, e5, Nat.le_refl _, fun ρ a w next Q har R _ hn => ?_⟩
            obtain ⟨hx, hy⟩ := hv ρ a har.cx
            have hy : a.eval y = .int .i64 0 := hy
            have hx : ∃ p, a.eval x = .pointer p := by
              rcases hp with rfl | ⟨_, _, _, rfl⟩
              · exact ⟨none, hx⟩
              · obtain ⟨_, _, _, _, h⟩ := hx; exact ⟨_, h⟩
            obtain ⟨p, hx⟩ := hx
            obtain ⟨cs', hrun⟩ := exec_builtin (P := P) a ho hc w
            refine value_wp (v := .string .empty) ?_ (hn ρ _ _ ⟨_, rfl, rfl, rfl⟩ (Tr.refl R))
            rw [hrun, hargs, hx, hy, hat]
            simp only [builtin, Sem.run_bind, Lib.run_unsafeString_none, Result.andThen_ok]; rfl
          | succ m =>
            obtain ⟨h63, e5⟩ := bc_ok (show bc (Nat.ble (m + 1) 9223372036854775807) (v.asPtr fun f o ep => bc (Nat.beq o 0) (famW h f ep fun fam => fam.elemK fun el' => bc (Nat.beq el' (Nat.succ el)) (fam.bodyK fun b => bytesK b (m + 1) 0 fun c => k (.str c (m + 1)) (putFam h f none)) (.no 145)) (.no 145)) (.no 145) = .ok r hF from e4)
            have h63 := Nat.le_of_ble_eq_true h63
            obtain ⟨q, off, ep, rfl, e6⟩ := asPtr_ok e5
            obtain ⟨h0, e7⟩ := bc_ok e6
            obtain rfl : off = 0 := Nat.eq_of_beq_eq_true h0
            obtain ⟨F, hq, hep, hwr, e8⟩ := famW_ok e7
            obtain ⟨hel, e9⟩ := bc_ok (show bc (Nat.beq F.elem (Nat.succ el)) (F.bodyK fun b => bytesK b (m + 1) 0 fun c => k (.str c (m + 1)) (putFam h q none)) (.no 145) = .ok r hF from e8)
            have hel : F.elem = el + 1 := Nat.eq_of_beq_eq_true hel
            rw [bodyK_eq] at e9
            obtain ⟨bs, b1, b2, b3, e10⟩ := bytesK_ok e9
            refine ⟨_, _, e10, by rw [nx_put]; exact Nat.le_refl _, fun ρ a w next Q har R _ hn => ?_⟩
            obtain ⟨hx, hy⟩ := hv ρ a har.cx
            have hy : a.eval y = .int .i64 ((m + 1 : Nat) : Int) := hy
            obtain ⟨b, ba, cs, hr, hx⟩ := hx
            obtain ⟨hba, cc, fz, c1⟩ := (R.fam q F hq).el el hel hwr ep _ hr
            have hba : ba = 0 := hba
            subst hba
            have c1 : w.heap[b]? = some (.cells cc el fz) := c1
            have hx : a.eval x = .pointer (some ⟨b, 0, none⟩) := hx
            have hby := R.bytes hq hr (bs := bs) (off := 0) (.inl hep) (b2.imp (fun h => by omega) id) b3
            have hlen : bs.length ≤ cc.size := by
              have hlt := hby (bs.length - 1) (by omega)
              have hlt : (w.cell? ⟨b, 0 + 0 + (bs.length - 1), none⟩).isSome = true := by rw [← add_addr, hlt]; rfl
              obtain ⟨uu, hlt⟩ := Option.isSome_iff_exists.1 hlt
              simp only [World.cell?, c1] at hlt
              simp at hlt
              have := (Array.getElem?_eq_some_iff.1 hlt).1
              omega
            have hsh : w.shape? b = some (el, cc.size) := by unfold World.shape?; rw [c1]
            have hne : bs ≠ [] := by rintro rfl; simp at b1
            have hrow := Lib.run_unsafeString_row (P := P) w t u o.type el hu hc1 b cc.size hsh bs hne hlen (by omega) (fun j x hx => by
              have hj := (List.getElem?_eq_some_iff.1 hx).1
              have := hby j hj
              rw [(List.getElem?_eq_some_iff.1 hx).2] at this
              exact this)
            rw [b1] at hrow
            obtain ⟨cs', hrun⟩ := exec_builtin (P := P) a ho hc w
            refine value_wp (v := .string ⟨bs.toArray⟩) ?_ (hn ρ _ _ ⟨_, rfl, rfl, by simp [b1]⟩ (R.dropFreeze hq hwr hr 0 (m + 1)))
            rw [hrun, hargs, hx, hy, hat]
            simp only [builtin, Sem.run_bind, hrow, Result.andThen_ok]; rfl
    | _ => rw [hu] at hf; cases hf; cases e
end
end Go.Am

namespace Go.Am
open Go

/-! ### Slices made whole -/
structure RowsR (ρ : Rho) (t : PT (List AV)) (es len : Nat) (z : List AV) (cs : Array Value) : Prop where
  ok : BodyOk (.arr t es len z)
  size : cs.size = len * es
  cell : ∀ i v, (Body.arr t es len z).cell? i = some v → ∃ v', cs[i]? = some v' ∧ VR ρ v v' ∧ v'.oneCell' = true
theorem made_get {z : Array Value} {n i : Nat} (h : i < n) (hz : 0 < z.size) : (madeCells z n)[i]? = z[i % z.size]? := by
  have hlt : i % z.size < z.size := Nat.mod_lt _ hz
  simp [madeCells, h, hlt]
theorem zeros_ok {ρ : Rho} {z : List AV} {zc : Array Value} (hz : CellsR ρ z zc.toList) (h1 : 1 ≤ z.length) (len : Nat) : RowsR ρ .lf z.length len z (madeCells zc (len * z.length)) := by
  have hl : z.length = zc.size := by simpa using hz.1.length
  refine ⟨⟨rfl, fun p row h => by rw [look_lf] at h; cases h⟩, size_madeCells _ _, fun i v hi => ?_⟩
  have hlt : i < z.length * len := by
    simp only [Body.cell?] at hi
    split at hi
    · assumption
    · cases hi
  rw [cell_arr_row hlt, look_lf] at hi
  obtain ⟨v', a1, a2⟩ := hz.1.get (show z[i % z.length]? = some v from hi)
  rw [Array.getElem?_toList] at a1
  refine ⟨v', ?_, a2, hz.2 v' (by rw [Array.mem_toList_iff]; exact Array.mem_of_getElem? a1)⟩
  rw [made_get (by rw [Nat.mul_comm]; exact hlt) (by omega), ← hl]; exact a1
theorem div_iff {j i es : Nat} (h : 1 ≤ es) : j / es = i ↔ i * es ≤ j ∧ j < i * es + es := by
  constructor
  · rintro rfl
    have h1 := Nat.div_mul_le_self j es
    have h2 := Nat.lt_mul_div_succ j (show 0 < es by omega)
    refine ⟨h1, ?_⟩
    rw [Nat.mul_add, Nat.mul_one, Nat.mul_comm] at h2; exact h2
  · rintro ⟨h1, h2⟩
    have a : i ≤ j / es := (Nat.le_div_iff_mul_le (by omega)).2 h1
    have b : j / es < i + 1 := (Nat.div_lt_iff_lt_mul (by omega)).2 (by rw [Nat.add_mul, Nat.one_mul]; exact h2)
    omega
theorem row_ok {ρ : Rho} {t : PT (List AV)} {es len : Nat} {z : List AV} {cs : Array Value} (H : RowsR ρ t es len z cs) (h1 : 1 ≤ es) {l : List AV} {ns : List Value} (hl : l.length = es) (hn : CellsR ρ l ns) {i : Nat} (_hi : i < len) :
    RowsR ρ (t.upd (Pth.ofNat i) (some l)) es len z ((ns.zipIdx 0).foldl (fun cs (x : Value × Nat) => cs.setIfInBounds (i * es + x.2) x.1) cs) := by
  obtain ⟨g1, g2⟩ := Great.foldl_set (i * es) ns 0 cs
  have hnl := hn.1.length
  refine ⟨row_put H.ok hl _, by rw [g1, H.size], fun j v hj => ?_⟩
  have hlt : j < es * len := by
    simp only [Body.cell?] at hj
    split at hj
    · assumption
    · cases hj
  have hlt' : j < cs.size := by rw [H.size, Nat.mul_comm]; exact hlt
  rw [cell_arr_row hlt, look_upd] at hj
  rw [g2 j]
  by_cases hc : j / es = i
  · obtain ⟨c1, c2⟩ := (div_iff h1).1 hc
    rw [hc, if_pos rfl] at hj
    have hm : j % es = j - i * es := by
      have := Nat.div_add_mod j es; rw [hc, Nat.mul_comm] at this; omega
    rw [if_pos (by omega), Nat.add_zero]
    obtain ⟨v', a1, a2⟩ := hn.1.get (show l[j % es]? = some v from hj)
    rw [hm] at a1
    exact ⟨v', a1, a2, hn.2 v' (List.mem_of_getElem? a1)⟩
  · have hne : Pth.ofNat (j / es) ≠ Pth.ofNat i := fun he => hc (ofNat_inj he)
    rw [if_neg hne] at hj
    have hnc : ¬ (i * es ≤ j ∧ j < i * es + es) := fun h => hc ((div_iff h1).2 h)
    have hnc2 : ¬ (i * es + 0 ≤ j ∧ j < i * es + 0 + ns.length ∧ j < cs.size) := by omega
    rw [if_neg hnc2]
    exact H.cell j v (by rw [cell_arr_row hlt]; exact hj)
theorem rowsC_ok {a : Bool} {es len : Nat} (h1 : 1 ≤ es) {r : AV} {hF : Hp} : ∀ (idx : List Nat) {g : List AV → PT (List AV) → (PT (List AV) → Out) → Out}, rowsC a es idx = .mk g → (∀ i ∈ idx, i < len) → ∀ {vs : List AV} {t : PT (List AV)} {k : PT (List AV) → Out}, g vs t k = .ok r hF →
    ∃ t', k t' = .ok r hF ∧ ∀ ρ (vals : List Value) (z : List AV) (cs : Array Value), VRs ρ vs vals → RowsR ρ t es len z cs → ∃ o', Instr.fill (fun i => some (i * es, es)) cs (idx.zip vals) = some o' ∧ RowsR ρ t' es len z o' := by
  intro idx
  induction idx with
  | nil => intro g hg _ vs t k e; cases hg; exact ⟨t, e, fun ρ vals z cs _ h => ⟨cs, by simp [Instr.fill], h⟩⟩
  | cons i idx ih =>
    intro g hg hlt vs t k e
    cases hG : rowsC a es idx with
    | mk G =>
      have hg' : RowsF.rec (motive := fun _ => RowsF) (fun g => .mk fun vs t k => List.rec (motive := fun _ => PT (List AV) → (PT (List AV) → Out) → Out) (fun _ _ => .no 77) (fun v vs _ t k => cellsOfC a es v fun l => g vs (rwSet t (Pth.ofNat i) (some l)) k) vs t k) (rowsC a es idx) = RowsF.mk g := hg
      rw [hG] at hg'; cases hg'
      cases vs with
      | nil => cases e
      | cons v vs =>
        obtain ⟨l, e1, hl, hr⟩ := cellsOfC_ok (show cellsOfC a es v (fun l => G vs (rwSet t (Pth.ofNat i) (some l)) k) = .ok r hF from e)
        rw [rwSet_eq] at e1
        obtain ⟨t', e2, H⟩ := ih hG (fun j hj => hlt j (by simp [hj])) e1
        refine ⟨t', e2, fun ρ vals z cs hv hR => ?_⟩
        cases vals with
        | nil => exact hv.elim
        | cons u vals =>
          have hc := hr ρ u hv.1
          have hil := hlt i (by simp)
          obtain ⟨o', a1, a2⟩ := H ρ vals z _ hv.2 (row_ok hR h1 hl hc hil)
          refine ⟨o', ?_, a2⟩
          have hus : u.cells.size = es := by have := hc.1.length; simp at this; omega
          have hle : i * es + es ≤ cs.size := by
            rw [hR.size]
            have : (i + 1) * es ≤ len * es := Nat.mul_le_mul_right es hil
            rw [Nat.add_mul, Nat.one_mul] at this; exact this
          rw [List.zip_cons_cons]
          unfold Instr.fill
          simp only [hus]
          rw [if_neg (by simp; omega)]
          rw [← a1]
          congr 1
          rw [← Array.foldl_toList, Array.toList_zipIdx]
theorem len_ok {P : Program} {e : Nat} (h : lenOk P e = true) : ∃ i z, P.info? e = some i ∧ i.zero = some z ∧ P.cellsOf e = i.size ∧ (zeroL P e).length = i.size ∧ 1 ≤ i.size ∧ (∀ ρ, CellsR ρ (zeroL P e) z.cells.toList) ∧ (isByte P e = true → zeroL P e = [.int .u8 0]) := by
  obtain ⟨h0, h1⟩ := lenOk_0 h
  obtain ⟨i, z, a1, a2, a3, a4⟩ := zero_ok h0
  have hc : P.cellsOf e = i.size := by unfold Program.cellsOf; rw [a1]; rfl
  refine ⟨i, z, a1, a2, hc, a3, by omega, a4, fun hb => ?_⟩
  unfold lenOk at h
  rw [a1] at h
  simp only [Bool.and_eq_true] at h
  have h2 := h.2
  unfold byteZero at h2
  rw [hb] at h2
  simp only at h2
  split at h2
  · rename_i v hv
    rw [hv]
    cases v with
    | int kd n =>
      cases n with
      | negSucc m => cases h2
      | ofNat m =>
        have h2' : Bool.rec false (Nat.beq m 0) (kEq kd .u8) = true := h2
        cases hk : kEq kd .u8 with
        | false => rw [hk] at h2'; cases h2'
        | true =>
          rw [hk] at h2'
          have := kEq_ok hk
          have h3 : m = 0 := Nat.eq_of_beq_eq_true h2'
          subst this; subst h3; rfl
    | _ => cases h2
  · cases h2
/-- the zero bytes -/
theorem zero_bytes {ρ : Rho} {len cap : Nat} {zc : Array Value} (hz : CellsR ρ [.int .u8 0] zc.toList) (hle : len ≤ cap) (el : Nat) : NewOk ρ (.cells (madeCells zc cap) el) cap (el + 1) (.byt 0 len) := by
  have hl : zc.size = 1 := by have := hz.1.length; simp at this; omega
  refine ⟨Nat.pow_pos (by omega), .inr ⟨rfl, _, _, (0, 0), rfl, .inl rfl, size_madeCells _ _, fun i v hi => ?_⟩, fun k hk => by cases hk; exact ⟨_, _, rfl⟩⟩
  simp only [Body.cell?] at hi
  split at hi
  · rename_i hlt
    cases hi
    obtain ⟨v', a1, a2⟩ := hz.1.get (show ([AV.int .u8 0] : List AV)[0]? = some _ from rfl)
    rw [Array.getElem?_toList] at a1
    refine ⟨v', ?_, ?_, hz.2 v' (by rw [Array.mem_toList_iff]; exact Array.mem_of_getElem? a1)⟩
    · rw [made_get (by omega) (by omega), hl, Nat.mod_one]; exact a1
    · have : (0 : Nat) / 256 ^ i % 256 = 0 := by simp
      rw [this]; exact a2
  · cases hi
section
variable {P : Program} {N T : Nat} {o : Oper} {f : Call_ → Env → Fr → Hp → (AV → Hp → Out) → Out} {call : Call_} {env : Env} {fr : Fr} {h : Hp} {k : AV → Hp → Out} {r : AV} {hF : Hp}
theorem elemT_ok {t e : Nat} (h : elemT P t = some e) : P.underlying t = some (.slice e) := by
  unfold elemT at h
  split at h
  · cases h; assumption
  · cases h
theorem slc_new {ρ : Rho} {id : Pth} {b cs l cap es : Nat} (h1 : l ≤ cap) (h2 : cap * es ≤ cs) : VR (upd1 ρ id 0 (b, 0, cs)) (.slc id 0 l 0 es) (.slice (some ⟨b, 0, none⟩) l cap) := ⟨b, 0, cs, cap, upd1_same _ _ _ _, .inl ⟨rfl, h1, by omega⟩⟩
theorem ok_makeSlice {t : Nat} {x y : Operand} (ho : o.op = .makeSlice t x y) (hf : opC P N o.op = .mk f) (e0 : f call env fr h k = .ok r hF) : MadeR P N o env fr h k r hF := by
  rw [ho] at hf
  obtain ⟨u, v, e1, huv⟩ := op2_ok (show op2 (opdC P N x) (opdC P N y) (makeSliceC P t) = .mk f from hf) e0
  unfold makeSliceC at e1
  cases he : elemT P t with
  | none => rw [he] at e1; cases e1
  | some e =>
    rw [he] at e1
    cases hlo : lenOk P e with
    | false => simp only [hlo] at e1; cases e1
    | true =>
      obtain ⟨i, z, hi, hz, hcs, hzl, hpos, hcz, hby⟩ := len_ok hlo
      have ht := elemT_ok he
      simp only [hlo] at e1
      obtain ⟨kl, l, rfl, e2⟩ := natOf_ok e1
      obtain ⟨kc, c, rfl, e3⟩ := natOf_ok e2
      obtain ⟨h1, e4⟩ := bc_ok e3
      obtain ⟨h2, e5⟩ := bc_ok e4
      simp only [Bool.and_eq_true] at h2
      have hlc : l ≤ c := Nat.le_of_ble_eq_true h1
      have hc6 : c ≤ 1000000 := Nat.le_of_ble_eq_true h2.1
      have hbt : i.bytes * c ≤ 281474976710656 := by
        have := Nat.le_of_ble_eq_true h2.2
        unfold bytesT at this; rw [hi] at this; exact this
      refine ⟨_, _, _, grow_of e5, fun ρ a w cx _ => ?_⟩
      obtain ⟨hx, hy⟩ := huv ρ a cx
      have hx : a.eval x = .int kl (Int.ofNat l) := hx
      have hy : a.eval y = .int kc (Int.ofNat c) := hy
      have hbt' : (i.bytes : Int) * (c : Int) ≤ 281474976710656 := by
        have h9 : ((i.bytes * c : Nat) : Int) ≤ 281474976710656 := by omega
        rw [Int.natCast_mul] at h9; exact h9
      have hrun := run_make (P := P) w t e i z ht hi hz kl kc (l : Int) (c : Int) (by omega) (by omega) hbt' (by omega)
      have hrun' : (execOp a.eval o).run P w = .ok (.value (.slice (some ⟨w.heap.size, 0, none⟩) l c)) (w.alloc (.cells (madeCells z.cells (c * i.size)) e)) := by
        have h3 : (execOp a.eval o).run P w = ((Instr.makeSlice t (.int kl (l : Int)) (.int kc (c : Int))).run P w).andThen fun v w => .ok (.value v) w := by
          simp only [execOp, ho, hx, hy, Sem.run_bind]; rfl
        rw [h3, hrun, Result.andThen_ok]; rfl
      cases hb : isByte P e with
      | true =>
        have hz1 := hby hb
        have hs1 : i.size = 1 := by rw [← hzl, hz1]; rfl
        refine ⟨_, _, w, c, hrun', rfl, rfl, rfl, rfl, ?_, ?_⟩
        · rw [hs1, Nat.mul_one]
          exact zero_bytes (hz1 ▸ hcz ρ) hlc e
        · rw [hcs, hs1]; exact slc_new hlc (by omega)
      | false =>
        have R := zeros_ok (hcz ρ) (by omega) l
        refine ⟨_, _, w, c * i.size, hrun', rfl, rfl, rfl, rfl, ?_, ?_⟩
        · rw [hzl] at R
          rw [hcs]
          refine ⟨R.ok, .inr ⟨rfl, _, _, (0, 0), rfl, .inl rfl, size_madeCells _ _, fun j v hj => ?_⟩, fun k hk => by cases hk; exact ⟨_, _, rfl⟩⟩
          have hlt : j < i.size * l := by
            simp only [Body.cell?] at hj
            split at hj
            · assumption
            · cases hj
          obtain ⟨v', a1, a2, a3⟩ := R.cell j v hj
          refine ⟨v', ?_, a2, a3⟩
          have hzs : 0 < z.cells.size := by have : (zeroL P e).length = z.cells.size := by simpa using (hcz ρ).1.length
                                            omega
          rw [made_get (by rw [Nat.mul_comm]; exact hlt) hzs] at a1
          rw [made_get (by rw [Nat.mul_comm] at hlt; exact Nat.lt_of_lt_of_le hlt (Nat.mul_le_mul_right _ hlc)) hzs]; exact a1
        · rw [hcs]; exact slc_new hlc (Nat.le_refl _)

/-! slice literals -/
theorem bytesOf_ok : ∀ {vs : List AV} {K : Nat → Out}, bytesOf vs K = .ok r hF → ∃ bs : List UInt8, vs = bs.map (fun b => AV.int .u8 (Int.ofNat b.toNat)) ∧ K (leNat bs) = .ok r hF := by
  intro vs
  induction vs with
  | nil => intro K e; exact ⟨[], rfl, e⟩
  | cons v vs ih =>
    intro K e
    obtain ⟨kd, c, rfl, e1⟩ := asInt_ok (show v.asInt _ = .ok r hF from e)
    obtain ⟨hk, e2⟩ := bc_ok e1
    have := kEq_ok hk
    subst this
    cases c with
    | negSucc c => cases e2
    | ofNat c =>
      obtain ⟨hc, e3⟩ := bc_ok e2
      have hlt : c < 256 := by simpa [Nat.blt_eq] using hc
      obtain ⟨bs, rfl, e4⟩ := ih (show bytesOf vs (fun r => natK (Nat.add c (Nat.mul 256 r)) K) = .ok r hF from e3)
      rw [natK_eq] at e4
      have hb : (UInt8.ofNat c).toNat = c := by simp; omega
      refine ⟨UInt8.ofNat c :: bs, by simp [hb], ?_⟩
      rw [leNat_cons, hb]; exact e4
theorem zip_range : ∀ (vals : List Value) (s : Nat), (List.range' s vals.length).zip vals = (vals.zipIdx s).map fun x => (x.2, x.1) := by
  intro vals
  induction vals with
  | nil => intro s; rfl
  | cons v vals ih => intro s; simp [List.range'_succ, ih]
theorem vr_bytes {ρ : Rho} : ∀ {bs : List UInt8} {vals : List Value}, VRs ρ (bs.map fun b => AV.int .u8 (Int.ofNat b.toNat)) vals → vals = bs.map fun b => Value.int .u8 (Int.ofNat b.toNat) := by
  intro bs
  induction bs with
  | nil => intro vals h; cases vals with
    | nil => rfl
    | cons _ _ => exact h.elim
  | cons b bs ih => intro vals h; cases vals with
    | nil => exact h.elim
    | cons v vals =>
      have h1 : v = .int .u8 (Int.ofNat b.toNat) := h.1
      rw [List.map_cons, h1, ← ih h.2]
theorem run_buildSlice' (w : World) (t e : TypeId) (len : Nat) (parts : Array (Nat × Value)) (cells : Array Value) (ie : TypeInfo) (z : Value)
    (hu : P.underlying t = some (.slice e)) (hie : P.info? e = some ie) (hz : ie.zero = some z) (hsmall : ¬ len * ie.size > 2 ^ 24)
    (hf : Instr.fill (fun i => some (i * ie.size, ie.size)) (madeCells z.cells (len * ie.size)) parts.toList = some cells) :
    (Instr.buildSlice t len parts).run P w = .ok (.slice (some ⟨w.heap.size, 0, none⟩) len len) (w.alloc (.cells cells e)) := by
  by_cases hpos : len * ie.size = 0
  · have hm : madeCells z.cells (len * ie.size) = #[] := by rw [hpos]; simp [madeCells]
    rw [hm] at hf
    have h0 : Array.map (fun _ => (default : Value)) (Array.range 0) = #[] := by simp
    simp [Instr.buildSlice, run_underlying hu, sizeOf, typeInfo, hie, hpos, newRow, Array.range_zero', h0, hf]
  · exact run_buildSlice w t e len parts cells ie z hu hie hz hsmall hpos hf
theorem ok_buildSlice {t len : Nat} {ps : Array (Nat × Operand)} (ho : o.op = .buildSlice t len ps) (hf : opC P N o.op = .mk f) (e0 : f call env fr h k = .ok r hF) : MadeR P N o env fr h k r hF := by
  rw [ho] at hf
  obtain ⟨vs, e1, hv⟩ := opds_ok (l := ps.toList.map fun x : Nat × Operand => x.2) (G := fun vs h k => buildSliceC P t len (ps.toList.map fun x : Nat × Operand => x.1) vs h k) hf e0
  generalize hidx : (ps.toList.map fun x : Nat × Operand => x.1) = idx at e1
  unfold buildSliceC at e1
  cases he : elemT P t with
  | none => rw [he] at e1; cases e1
  | some e =>
    rw [he] at e1
    simp only at e1
    cases hc : (lenOk P e && incr 0 idx && idx.all (· < len) && decide (len * P.cellsOf e ≤ 16777216)) with
    | false => rw [hc] at e1; cases e1
    | true =>
      rw [hc] at e1
      simp only [Bool.and_eq_true, decide_eq_true_eq] at hc
      obtain ⟨⟨⟨hlo, _⟩, hall⟩, hsm⟩ := hc
      obtain ⟨i, z, hi, hz, hcs, hzl, hpos, hcz, hby⟩ := len_ok hlo
      have ht := elemT_ok he
      have hall' : ∀ j ∈ idx, j < len := fun j hj => by have := List.all_eq_true.1 hall j hj; simpa using this
      have hrun : ∀ (a : Act) (w : World) (cells : Array Value), Instr.fill (fun j => some (j * i.size, i.size)) (madeCells z.cells (len * i.size)) (idx.zip ((ps.toList.map fun x : Nat × Operand => x.2).map a.eval)) = some cells →
          (execOp a.eval o).run P w = .ok (.value (.slice (some ⟨w.heap.size, 0, none⟩) len len)) (w.alloc (.cells cells e)) := by
        intro a w cells hfill
        have h2 := run_buildSlice' (P := P) w t e len (ps.map fun x => (x.1, a.eval x.2)) cells i z ht hi hz (by rw [hcs] at hsm; omega) (by rw [zip_parts, hidx]; exact hfill)
        simp only [execOp, ho, Sem.run_bind, h2, Result.andThen_ok]; rfl
      cases hb : isByte P e with
      | false =>
        rw [hb] at e1
        cases hG : rowsC (isAgg P e) (P.cellsOf e) idx with
        | mk G =>
          simp only [hG] at e1
          obtain ⟨t', e2, H⟩ := rowsC_ok (len := len) (by omega) idx hG hall' e1
          refine ⟨_, _, _, grow_of e2, fun ρ a w cx _ => ?_⟩
          have R := zeros_ok (hcz ρ) (by omega) len
          rw [hzl, ← hcs] at R
          obtain ⟨o', a1, a2⟩ := H ρ _ (zeroL P e) _ (hv ρ a cx) R
          rw [hcs] at a1
          refine ⟨_, _, w, len * P.cellsOf e, hrun a w o' a1, rfl, rfl, rfl, rfl, ⟨a2.ok, .inr ⟨rfl, _, _, (0, 0), rfl, .inl rfl, a2.size, a2.cell⟩, fun k hk => by cases hk; exact ⟨_, _, rfl⟩⟩, slc_new (Nat.le_refl _) (Nat.le_refl _)⟩
      | true =>
        rw [hb] at e1
        simp only at e1
        have hz1 := hby hb
        have hs1 : i.size = 1 := by rw [← hzl, hz1]; rfl
        cases hd : (decide (idx = List.range len) || idx.isEmpty) with
        | false => rw [hd] at e1; cases e1
        | true =>
          rw [hd] at e1
          obtain ⟨bs, rfl, e2⟩ := bytesOf_ok e1
          refine ⟨_, _, _, grow_of e2, fun ρ a w cx _ => ?_⟩
          have hvals := vr_bytes (hv ρ a cx)
          have hlen2 : ((ps.toList.map fun x : Nat × Operand => x.2).map a.eval).length = idx.length := by rw [← hidx]; simp
          rw [hs1] at hrun
          by_cases hem : idx = []
          · have hbs : bs = [] := by
              rw [hvals, hem] at hlen2; simpa using hlen2
            subst hbs
            have hr := hrun a w (madeCells z.cells (len * 1)) (by rw [hem]; rfl)
            rw [Nat.mul_one] at hr
            exact ⟨_, _, w, len, hr, rfl, rfl, rfl, rfl, zero_bytes (hz1 ▸ hcz ρ) (Nat.le_refl _) e, slc_new (Nat.le_refl _) (by omega)⟩
          · have hir : idx = List.range len := by
              simp only [Bool.or_eq_true, decide_eq_true_eq, List.isEmpty_iff] at hd
              exact hd.resolve_right hem
            have hbl : bs.length = len := by
              rw [hvals, hir] at hlen2; simpa using hlen2
            have hfill : Instr.fill (fun j => some (j * 1, 1)) (madeCells z.cells (len * 1)) (idx.zip ((ps.toList.map fun x : Nat × Operand => x.2).map a.eval)) = some (bs.map fun b => Value.int .u8 (Int.ofNat b.toNat)).toArray := by
              rw [hvals, hir, List.range_eq_range']
              have := zip_range (bs.map fun b => Value.int .u8 (Int.ofNat b.toNat)) 0
              rw [List.length_map, hbl] at this
              rw [this]
              exact Great.fill_flat _ _ (fun v hv => by obtain ⟨b, _, rfl⟩ := List.mem_map.1 hv; rfl) (by rw [size_madeCells, List.length_map]; omega)
            refine ⟨_, _, w, len, hrun a w _ hfill, rfl, rfl, rfl, rfl, ⟨?_, .inr ⟨rfl, _, _, (0, 0), rfl, .inl rfl, by simp [hbl], fun j v hj => ?_⟩, fun k hk => by cases hk; exact ⟨_, _, rfl⟩⟩, slc_new (Nat.le_refl _) (by omega)⟩
            · show leNat bs < 256 ^ len
              rw [← hbl]; exact leNat_lt _
            · rw [← hbl, cell_byt] at hj
              cases hg : bs[j]? with
              | none => rw [hg] at hj; cases hj
              | some c =>
                rw [hg] at hj
                simp only [Option.map_some, Option.some.injEq] at hj
                subst hj
                exact ⟨.int .u8 (Int.ofNat c.toNat), by simp [hg], rfl, rfl⟩
end
end Go.Am

namespace Go.Am
open Go

/-! ### Maps -/
def keyKind (P : Program) (kt : Nat) (d : TypeDesc) : Prop := P.underlying kt = some d ∧ ((∃ k, d = .int k) ∨ d = .string)
theorem beq_bytes (a b : ByteArray) : (a == b) = (a.data.toList == b.data.toList) := by
  cases a with | mk x => cases b with | mk y =>
  show (x == y) = (x.toList == y.toList)
  rw [Bool.eq_iff_iff]
  simp only [beq_iff_eq]
  constructor
  · rintro rfl; rfl
  · intro h; cases x; cases y; simp at h; rw [h]
theorem keyOk_ok {P : Program} {kt : Nat} (h : keyOk P kt = true) : ∃ d, keyKind P kt d := by
  unfold keyOk at h
  split at h
  · exact ⟨_, by assumption, .inl ⟨_, rfl⟩⟩
  · exact ⟨_, by assumption, .inr rfl⟩
  · cases h
def look2 (kt el : Nat) (es : Array MapEntry) (key : Value) (c : Bool) : Sem Value := do
  Instr.checkKey es.isEmpty 10000 kt key
  let (v, ok) ← match ← Instr.findKey kt key es.toList with
    | some (_, v) => pure (v, true)
    | none => pure (← zeroValue el, false)
  pure (if c then .tuple #[v, .bool ok] else v)
section
variable {P : Program} {N T : Nat} {o : Oper} {f : Call_ → Env → Fr → Hp → (AV → Hp → Out) → Out} {call : Call_} {env : Env} {fr : Fr} {h : Hp} {k : AV → Hp → Out} {r : AV} {hF : Hp}
def SameOk (d : TypeDesc) (u v : AV) (b : Bool) : Prop := ∀ ρ u' v', VR ρ u u' → VR ρ v v' → Instr.sameNow d u' v' = some b
theorem keyEq_ok {kt : Nat} {u v : AV} {K : KB} (e : keyEqC P kt u v K = .ok r hF) : ∃ d b, keyKind P kt d ∧ K b = .ok r hF ∧ SameOk d u v b := by
  unfold keyEqC at e
  obtain ⟨U, hu⟩ : ∃ U, P.underlying kt = U := ⟨_, rfl⟩
  rw [hu] at e
  cases U with
  | none => cases e
  | some d =>
    cases d with
    | int kk =>
      obtain ⟨k1, a, rfl, e1⟩ := asInt_ok e
      obtain ⟨k2, b, rfl, e2⟩ := asInt_ok e1
      obtain ⟨hk, e3⟩ := bc_ok e2
      have := kEq_ok hk
      subst this
      rw [ieq_eq] at e3
      refine ⟨_, _, ⟨hu, .inl ⟨kk, rfl⟩⟩, e3, fun ρ u' v' h1 h2 => ?_⟩
      have h1 : u' = .int k1 a := h1
      have h2 : v' = .int k1 b := h2
      subst h1; subst h2
      simp [Instr.sameNow]
    | string =>
      obtain ⟨n, l, rfl, e1⟩ := asStr_ok e
      obtain ⟨n', l', rfl, e2⟩ := asStr_ok e1
      by_cases hs : isStr n l ∧ isStr n' l'
      · obtain ⟨⟨s, rfl, rfl⟩, ⟨s', rfl, rfl⟩⟩ := hs
        rw [strEq_eq] at e2
        refine ⟨_, _, ⟨hu, .inr rfl⟩, e2, fun ρ u' v' h1 h2 => ?_⟩
        rw [str_eq h1, str_eq h2]
        simp only [Instr.sameNow]
        rw [beq_bytes]
      · have : ∃ b, ∀ K : KB, strEq n l n' l' K = K b := by unfold strEq; cases Nat.beq l l' <;> exact ⟨_, fun _ => rfl⟩
        obtain ⟨b, hb⟩ := this
        rw [hb] at e2
        exact ⟨_, b, ⟨hu, .inr rfl⟩, e2, fun ρ u' v' h1 h2 => absurd ⟨str_of h1, str_of h2⟩ hs⟩
    | _ => cases e
/-- what a search finds -/
def FindR (ρ : Rho) (l : List (AV × AV)) (i : Nat) : Option (Nat × AV) → Option (Nat × Value) → Prop
  | none, none => True
  | some (j, v), some (j', v') => j = j' ∧ i ≤ j ∧ (∃ e, l[j - i]? = some e ∧ e.2 = v) ∧ VR ρ v v'
  | _, _ => False
theorem findK_ok {kt : Nat} {d : TypeDesc} (hd : P.underlying kt = some d) {key : AV} {k : Option (Nat × AV) → Out} : ∀ {l : List (AV × AV)} {i : Nat}, findK (keyEqC P kt) key l i k = .ok r hF →
    ∃ res, k res = .ok r hF ∧ (∀ j v, res = some (j, v) → ∃ e, i ≤ j ∧ l[j - i]? = some e ∧ SameOk d key e.1 true) ∧ ∀ ρ key' (es : List MapEntry), VR ρ key key' → EntR ρ l es → ∃ res', Instr.findNow d key' es i = some res' ∧ FindR ρ l i res res' := by
  intro l
  induction l with
  | nil =>
    intro i e
    refine ⟨none, e, (fun j v h => by cases h), fun ρ key' es _ he => ?_⟩
    cases es with
    | nil => exact ⟨none, rfl, trivial⟩
    | cons _ _ => exact he.1.elim
  | cons p l ih =>
    intro i e
    obtain ⟨a, b⟩ := p
    have e' : keyEqC P kt key a (fun rr => Bool.rec (motive := fun _ => AV → ((AV → AV → KB → Out) → AV → Nat → (Option (Nat × AV) → Out) → Out) → (AV → AV → KB → Out) → AV → Nat → (Option (Nat × AV) → Out) → Out) (fun _ ih eq key i k => ih eq key (Nat.succ i) k) (fun b _ _ _ i k => k (some (i, b))) rr b (fun eq key i k => findK eq key l i k) (keyEqC P kt) key i k) = .ok r hF := e
    obtain ⟨d', bb, hk, e1, hs⟩ := keyEq_ok e'
    have hdd : d' = d := by have := hk.1; rw [hd] at this; cases this; rfl
    subst hdd
    cases bb with
    | true =>
      refine ⟨some (i, b), e1, (fun j v h => by cases h; exact ⟨(a, b), Nat.le_refl _, by simp, hs⟩), fun ρ key' es hkey he => ?_⟩
      cases es with
      | nil => exact he.1.elim
      | cons x es =>
        refine ⟨some (i, x.val), ?_, rfl, Nat.le_refl _, ⟨(a, b), by simp, rfl⟩, he.2.1⟩
        unfold Instr.findNow
        rw [hs ρ key' x.key hkey he.1.1]
    | false =>
      obtain ⟨res, e2, hres, H⟩ := ih (show findK (keyEqC P kt) key l (i + 1) k = .ok r hF from e1)
      refine ⟨res, e2, fun j v h => ?_, fun ρ key' es hkey he => ?_⟩
      · obtain ⟨x, h1, h2, h3⟩ := hres j v h
        exact ⟨x, by omega, by rw [show j - i = (j - (i + 1)) + 1 by omega]; simpa using h2, h3⟩
      cases es with
      | nil => exact he.1.elim
      | cons x es =>
        obtain ⟨res', h1, h2⟩ := H ρ key' es hkey ⟨he.1.2, he.2.2⟩
        refine ⟨res', ?_, ?_⟩
        · unfold Instr.findNow
          rw [hs ρ key' x.key hkey he.1.1]; exact h1
        · cases res with
          | none => cases res' with
            | none => trivial
            | some _ => exact h2.elim
          | some p =>
            cases res' with
            | none => exact h2.elim
            | some p' =>
              obtain ⟨j, v⟩ := p; obtain ⟨j', v'⟩ := p'
              obtain ⟨h3, h4, ⟨x, h5, h6⟩, h7⟩ := h2
              exact ⟨h3, by omega, ⟨x, by rw [show j - i = (j - (i + 1)) + 1 by omega]; simpa using h5, h6⟩, h7⟩
theorem checkKey_run {kt : Nat} {d : TypeDesc} (hk : keyKind P kt d) (e : Bool) (v : Value) (w : World) : (Instr.checkKey e 10000 kt v).run P w = .ok () w := by
  have hc : Instr.checkKey e 10000 kt v = Instr.checkKey e (9999 + 1) kt v := rfl
  rw [hc]
  unfold Instr.checkKey
  rw [Sem.run_bind, under hk.1, Result.andThen_ok]
  rcases hk.2 with ⟨kk, rfl⟩ | rfl <;> cases v <;> rfl
theorem findKey_run {kt : Nat} {d : TypeDesc} (hd : P.underlying kt = some d) {key : Value} {es : List MapEntry} {res : Option (Nat × Value)} (h : Instr.findNow d key es 0 = some res) (w : World) : (Instr.findKey kt key es).run P w = .ok res w := by
  unfold Instr.findKey
  rw [Sem.run_bind, under hd, Result.andThen_ok, h]; rfl
theorem zeroOf_ok {e : Nat} {z : AV} (h : zeroOf P e = some z) : ∃ z', (∀ ρ, VR ρ z z') ∧ ∀ w, (zeroValue e).run P w = .ok z' w := by
  unfold zeroOf at h
  cases hi : P.info? e with
  | none => simp [hi] at h
  | some i =>
    cases hz : i.zero with
    | none => simp [hi, hz] at h
    | some z' =>
      simp only [hi, Option.bind_some, hz] at h
      exact ⟨z', fun ρ => ofVal_ok h, fun w => by simp [zeroValue, typeInfo, hi, hz]⟩
theorem look_end {c : Bool} {v : AV} {v' : Value} {ρ : Rho} {b : Bool} (h : VR ρ v v') : VR ρ (lookupC.bc3 c (.tup [v, .bool b]) v) (if c = true then .tuple #[v', .bool b] else v') := by
  cases c with
  | true => exact ⟨#[v', .bool b], rfl, h, rfl, trivial⟩
  | false => exact h
/-- the entries that a map has -/
theorem map_run {q : Pth} {F : Fam} {l : List (AV × AV)} {ρ : Rho} {g : Pth → Option Fam} {w : World} (R : Rel ρ g w) (hq : g q = some F) (hb : F.body = .map l) {x : Nat × Nat × Nat} (hx : ρ q 0 = some x) :
    ∃ es ck, w.heap[x.1]? = some (.map es ck) ∧ EntR ρ l es.toList := by
  obtain ⟨_, y, es, ck, h1, h2, h3⟩ := (R.fam q F hq).map l hb
  rw [hx] at h1; cases h1
  exact ⟨es, ck, h2, h3.1⟩
theorem map_run2 {q : Pth} {F : Fam} {l : List (AV × AV)} {ρ : Rho} {g : Pth → Option Fam} {w : World} (R : Rel ρ g w) (hq : g q = some F) (hb : F.body = .map l) {x : Nat × Nat × Nat} (hx : ρ q 0 = some x) :
    ∃ es ck, w.heap[x.1]? = some (.map es ck) ∧ EntR ρ l es.toList ∧ Born es ck := by
  obtain ⟨_, y, es, ck, h1, h2, h3⟩ := (R.fam q F hq).map l hb
  rw [hx] at h1; cases h1
  exact ⟨es, ck, h2, h3⟩
theorem ok_lookup {t : Nat} {x y : Operand} {c : Bool} (ho : o.op = .lookup t x y c) (hf : opC P N o.op = .mk f) (e : f call env fr h k = .ok r hF) : ∃ v, k v h = .ok r hF ∧ Runs1 P o N env fr h v := by
  rw [ho] at hf
  obtain ⟨u, v, e1, huv⟩ := op2_ok (show op2 (opdC P N x) (opdC P N y) (lookupC P t c) = .mk f from hf) e
  unfold lookupC at e1
  obtain ⟨U, hu⟩ : ∃ U, P.underlying t = U := ⟨_, rfl⟩
  rw [hu] at e1
  have : ∃ kt el, U = some (.map kt el) := by
    cases U with
    | none => cases e1
    | some d => cases d <;> first | exact ⟨_, _, rfl⟩ | cases e1
  obtain ⟨kt, el, rfl⟩ := this
  simp only at e1
  cases hko : keyOk P kt with
  | false => simp only [hko] at e1; cases e1
  | true =>
   obtain ⟨d, hk⟩ := keyOk_ok hko
   cases hz : zeroOf P el with
   | none => simp only [hko, hz] at e1; cases e1
   | some z =>
    simp only [hko, hz] at e1
    obtain ⟨z', hz1, hz2⟩ := zeroOf_ok hz
    have fin : ∀ (l : List (AV × AV)), (findK (keyEqC P kt) v l 0 fun rr => Option.rec (motive := fun _ => Out) (k (lookupC.bc3 c (.tup [z, .bool false]) z) h) (fun p => k (lookupC.bc3 c (.tup [p.2, .bool true]) p.2) h) rr) = .ok r hF →
        (∀ ρ a w, Cx P N ρ env fr a → Rel ρ h.look w → ∃ es : Array MapEntry, EntR ρ l es.toList ∧ (Instr.lookup t (a.eval x) (a.eval y) c).run P w = (look2 kt el es (a.eval y) c).run P w) → ∃ v, k v h = .ok r hF ∧ Runs1 P o N env fr h v := by
      intro l e2 H
      obtain ⟨res, e3, _, hres⟩ := findK_ok hk.1 e2
      cases res with
      | none =>
        refine ⟨_, e3, fun ρ a w cx R => ?_⟩
        obtain ⟨es, he, hr⟩ := H ρ a w cx R
        obtain ⟨res', h1, h2⟩ := hres ρ _ es.toList (huv ρ a cx).2 he
        cases res' with
        | some _ => exact h2.elim
        | none =>
          refine ⟨_, look_end (c := c) (b := false) (hz1 ρ), ?_⟩
          simp only [execOp, ho, Sem.run_bind, hr, look2, checkKey_run hk, Result.andThen_ok, findKey_run hk.1 h1, hz2, Sem.run_pure]
      | some p =>
        obtain ⟨j, pv⟩ := p
        refine ⟨_, e3, fun ρ a w cx R => ?_⟩
        obtain ⟨es, he, hr⟩ := H ρ a w cx R
        obtain ⟨res', h1, h2⟩ := hres ρ _ es.toList (huv ρ a cx).2 he
        cases res' with
        | none => exact h2.elim
        | some p' =>
          obtain ⟨j', v'⟩ := p'
          refine ⟨_, look_end (c := c) (b := true) h2.2.2.2, ?_⟩
          simp only [execOp, ho, Sem.run_bind, hr, look2, checkKey_run hk, Result.andThen_ok, findKey_run hk.1 h1, Sem.run_pure]
    rcases asMp_ok e1 with ⟨q, rfl, e2⟩ | ⟨rfl, e2⟩
    · obtain ⟨F, l, hq, hb, e3⟩ := famW_map e2
      refine fin l e3 fun ρ a w cx R => ?_
      obtain ⟨b, ba, cs, h1, h2⟩ := (huv ρ a cx).1
      obtain ⟨es, ck, h3, h4⟩ := map_run R hq hb h1
      refine ⟨es, h4, ?_⟩
      rw [h2]
      simp only [Instr.lookup, look2, Sem.run_bind, under hu, Result.andThen_ok, run_getMap h3, Sem.run_pure]; rfl
    · refine fin [] e2 fun ρ a w cx R => ⟨#[], ⟨trivial, trivial⟩, ?_⟩
      have h2 : a.eval x = .map none := (huv ρ a cx).1
      rw [h2]
      simp only [Instr.lookup, look2, Sem.run_bind, under hu, Result.andThen_ok, Sem.run_pure]; rfl
end
end Go.Am

namespace Go.Am
open Go

theorem Born.push {es : Array MapEntry} {ck : Nat} (h : Born es ck) {k v : Value} : Born (es.push { key := k, val := v, born := ck }) (ck + 1) := by
  refine ⟨fun x hx => ?_, ?_⟩
  · rw [Array.toList_push, List.mem_append, List.mem_singleton] at hx
    rcases hx with hx | rfl
    · have := h.1 x hx; omega
    · exact Nat.lt_succ_self _
  · rw [Array.toList_push, List.map_append, List.nodup_append]
    refine ⟨h.2, by simp, fun a ha b hb => ?_⟩
    obtain ⟨x, hx, rfl⟩ := List.mem_map.1 ha
    simp at hb
    have := h.1 x hx
    omega
theorem Born.turn {es es' : Array MapEntry} {ck j : Nat} (h : Born es ck) {me : MapEntry} {k v : Value} (he : es'.toList = es.toList.set j { me with key := k, val := v }) (hm : es[j]? = some me) : Born es' ck := by
  have hb : es'.toList.map (·.born) = es.toList.map (·.born) := by
    rw [he]
    apply List.ext_getElem?
    intro i
    rw [List.getElem?_map, List.getElem?_map, List.getElem?_set]
    by_cases hij : j = i
    · subst hij
      rw [← Array.getElem?_toList] at hm
      rw [if_pos rfl, hm]
      obtain ⟨hlt, _⟩ := List.getElem?_eq_some_iff.1 hm
      have hl2 : j < es.size := by simpa using hlt
      simp [hl2]
    · rw [if_neg hij]
  refine ⟨fun x hx => ?_, by rw [hb]; exact h.2⟩
  have : x.born ∈ es'.toList.map (·.born) := List.mem_map.2 ⟨x, hx, rfl⟩
  rw [hb] at this
  obtain ⟨y, hy, hyx⟩ := List.mem_map.1 this
  rw [← hyx]; exact h.1 y hy
theorem Rel.mapWrite {ρ : Rho} {h : Hp} {w : World} (R : Rel ρ h.look w) {q : Pth} {F : Fam} {l l' : List (AV × AV)} (hq : h.look q = some F) (hwr : F.old ≤ big) (hb : F.body = .map l) {x : Nat × Nat × Nat} (hx : ρ q 0 = some x) {es : Array MapEntry} {ck : Nat} (he : EntR ρ l' es.toList) (hbo : Born es ck) :
    Tr ρ h w ρ (putFam h q (some ⟨0, 0, big, .map l'⟩)) { w with heap := w.heap.setIfInBounds x.1 (.map es ck) } := by
  obtain ⟨hep, y, es0, ck0, h1, h2, _⟩ := (R.fam q F hq).map l hb
  rw [hx] at h1; cases h1
  have hlt : x.1 < w.heap.size := R.lt q 0 x hx
  have hlook : ∀ g, (putFam h q (some ⟨0, 0, big, .map l'⟩)).look g = if g = q then some ⟨0, 0, big, .map l'⟩ else h.look g := look_put h q _
  have hsame : (w.heap.setIfInBounds x.1 (.map es ck))[x.1]? = some (.map es ck) := by simp [hlt]
  have hoth : ∀ k, k ≠ x.1 → (w.heap.setIfInBounds x.1 (.map es ck))[k]? = w.heap[k]? := fun k hk => Array.getElem?_setIfInBounds_ne (Ne.symm hk)
  have hno : ∀ g G e y, h.look g = some G → g ≠ q → ρ g e = some y → y.1 ≠ x.1 := fun g G e y hg hne hy heq => hne (R.sep g G e y q F 0 x hg hq hy hx heq).1
  have hl2 : ∀ g G, (putFam h q (some ⟨0, 0, big, .map l'⟩)).look g = some G → ∃ G', h.look g = some G' := by
    intro g G hG
    rw [hlook] at hG
    split at hG
    · rename_i hgq; subst hgq; exact ⟨F, hq⟩
    · exact ⟨G, hG⟩
  refine ⟨⟨?_, ?_, ?_⟩, Le.refl ρ, fun g e y h1 h2 => (by rw [h1] at h2; cases h2), by rw [nx_put]; exact Nat.le_refl _, ?_, ?_, by simp, rfl, rfl, rfl, ?_⟩
  rotate_right
  · intro g G hG hb2
    rw [hlook] at hG
    split at hG
    · rename_i hgq; subst hgq; exact .inl ⟨F, hq, hwr⟩
    · exact .inl ⟨G, hG, hb2⟩
  · intro g G hG
    rw [hlook] at hG
    by_cases hgq : g = q
    · subst hgq
      rw [if_pos rfl] at hG; cases hG
      refine ⟨trivial, ⟨x, hx⟩, fun e y hy => by have := (R.fam g F hq).le e y hy; rw [hep] at this; exact this, fun l2 hl2 => ?_, (fun hm => by cases hm), (fun _ _ _ hl2 => by cases hl2), (fun k hk => by cases hk), fun _ hm => by cases hm⟩
      cases hl2
      exact ⟨rfl, x, es, ck, hx, hsame, he, hbo⟩
    · rw [if_neg hgq] at hG
      exact (R.fam g G hG).mono (Le.refl ρ) (fun _ _ h => h) fun e y hy => hoth _ (hno g G e y hG hgq hy)
  · intro g G e y g' G' e' y' h1 h2 h3 h4 h5
    obtain ⟨A, hA⟩ := hl2 g G h1
    obtain ⟨B, hB⟩ := hl2 g' G' h2
    exact R.sep g A e y g' B e' y' hA hB h3 h4 h5
  · intro g e y hy
    show y.1 < (w.heap.setIfInBounds x.1 _).size
    rw [Array.size_setIfInBounds]; exact R.lt g e y hy
  · intro g G hG; exact .inl (hl2 g G hG)
  · intro k hk hk2
    exact hoth k fun he => hk2 q F 0 x hq hwr hx he.symm
theorem setEnt_eq : ∀ (l : List (AV × AV)) (n : Nat) (e : AV × AV), setEnt l n e = l.set n e := by
  intro l
  induction l with
  | nil => intro n e; rfl
  | cons a l ih =>
    intro n e
    cases n with
    | zero => rfl
    | succ n => show a :: setEnt l n e = _; rw [ih]; rfl
theorem VRs.set {ρ : Rho} : ∀ {a : List AV} {v : List Value} {x : AV} {y : Value} (n : Nat), VRs ρ a v → VR ρ x y → VRs ρ (a.set n x) (v.set n y) := by
  intro a
  induction a with
  | nil => intro v x y n h _; cases v with
    | nil => trivial
    | cons _ _ => exact h.elim
  | cons b a ih => intro v x y n h hx; cases v with
    | nil => exact h.elim
    | cons u v => cases n with
      | zero => exact ⟨hx, h.2⟩
      | succ n => exact ⟨h.1, ih n h.2 hx⟩
theorem map_set' {α β : Type} (f : α → β) : ∀ (l : List α) (n : Nat) (a : α), (l.set n a).map f = (l.map f).set n (f a) := by
  intro l
  induction l with
  | nil => intro n a; rfl
  | cons b l ih => intro n a; cases n with
    | zero => rfl
    | succ n => simp [ih]
theorem sameBits_of {d : TypeDesc} (hd : (∃ k, d = .int k) ∨ d = .string) {a b : Value} (h : Instr.sameNow d a b = some true) : Instr.sameBits 10000 b a = true := by
  rcases hd with ⟨k, rfl⟩ | rfl
  · cases a <;> cases b <;> simp [Instr.sameNow] at h
    obtain ⟨h1, h2⟩ := h
    subst h1; subst h2; simp [Instr.sameBits]
  · cases a <;> cases b <;> simp only [Instr.sameNow, Option.some.injEq, reduceCtorEq] at h
    simp only [Instr.sameBits]
    rw [beq_bytes] at h ⊢
    rw [beq_iff_eq] at h ⊢; exact h.symm
section
variable {P : Program} {N T : Nat} {o : Oper} {f : Call_ → Env → Fr → Hp → (AV → Hp → Out) → Out} {call : Call_} {env : Env} {fr : Fr} {h : Hp} {k : AV → Hp → Out} {r : AV} {hF : Hp}
theorem run_setObj {w : World} {b : Nat} {es es' : Array MapEntry} {ck ck' : Nat} (h : w.heap[b]? = some (.map es ck)) : (setObj b (.map es' ck')).run P w = .ok () { w with heap := w.heap.setIfInBounds b (.map es' ck') } := by simp [setObj, Sem.run, h]
theorem ok_update {t : Nat} {x y z : Operand} (ho : o.op = .mapUpdate t x y z ∨ o.op = .insert t x y z) (hf : opC P N o.op = .mk f) (e : f call env fr h k = .ok r hF) : GreatR P N T o env fr h k r hF := by
  have hf1 : OpdF.rec (motive := fun _ => OpF) (fun m => OpdF.rec (motive := fun _ => OpF) (fun key => OpdF.rec (motive := fun _ => OpF) (fun x => (.mk fun _ env fr h k => m env fr fun m => key env fr fun key => x env fr fun x => updateC P t m key x h k)) (opdC P N z)) (opdC P N y)) (opdC P N x) = OpF.mk f := by
    rcases ho with ho | ho <;> (rw [ho] at hf; exact hf)
  have hex : ∀ (a : Act) (w : World), (execOp a.eval o).run P w = ((Instr.mapUpdate t (a.eval x) (a.eval y) (a.eval z)).run P w).andThen fun _ w => .ok .skip w := by
    intro a w; rcases ho with ho | ho <;> (simp only [execOp, ho, Sem.run_bind]; rfl)
  cases hx : opdC P N x with
  | mk X => cases hy : opdC P N y with
    | mk Y => cases hz : opdC P N z with
      | mk Z =>
        rw [hx, hy, hz] at hf1; cases hf1
        obtain ⟨u, e1, hu⟩ := opdC_ok hx e
        obtain ⟨key, e2, hkey⟩ := opdC_ok hy e1
        obtain ⟨v, e3, hv⟩ := opdC_ok hz e2
        unfold updateC at e3
        obtain ⟨U, hU⟩ : ∃ U, P.underlying t = U := ⟨_, rfl⟩
        rw [hU] at e3
        have : ∃ kt el, U = some (.map kt el) := by
          cases U with
          | none => cases e3
          | some d => cases d <;> first | exact ⟨_, _, rfl⟩ | cases e3
        obtain ⟨kt, el, rfl⟩ := this
        simp only at e3
        cases hko : keyOk P kt with
        | false => simp only [hko] at e3; cases e3
        | true =>
          obtain ⟨d, hk⟩ := keyOk_ok hko
          simp only [hko] at e3
          rcases asMp_ok e3 with ⟨q, rfl, e4⟩ | ⟨_, e4⟩
          · obtain ⟨F, l, hq, hwr, hb, e5⟩ := famW_mapW e4
            obtain ⟨res, e6, hres, H⟩ := findK_ok hk.1 e5
            have fin : ∀ l', k (.tup []) (putFam h q (some ⟨0, 0, big, .map l'⟩)) = .ok r hF → (∀ ρ key' v' w (es : Array MapEntry) ck b, VR ρ key key' → VR ρ v v' → EntR ρ l es.toList → Born es ck → w.heap[b]? = some (.map es ck) →
                ∃ es' ck', EntR ρ l' es'.toList ∧ Born es' ck' ∧ (Instr.mapUpdate t (.map (some b)) key' v').run P w = .ok () { w with heap := w.heap.setIfInBounds b (.map es' ck') }) → GreatR P N T o env fr h k r hF := by
              intro l' e7 H2
              refine ⟨_, _, e7, by rw [nx_put]; exact Nat.le_refl _, fun ρ a w next Q ha R _ hn => ?_⟩
              obtain ⟨b, ba, cs, a1, a2⟩ := hu ρ a ha.cx
              obtain ⟨es, ck, a3, a4, a7⟩ := map_run2 R hq hb a1
              obtain ⟨es', ck', a5, a8, a6⟩ := H2 ρ _ _ w es ck b (hkey ρ a ha.cx) (hv ρ a ha.cx) a4 a7 a3
              refine skip_wp (P := P) ?_ (hn ρ undef _ ⟨#[], rfl, trivial⟩ (R.mapWrite hq hwr hb a1 (ck := ck') a5 a8))
              rw [hex, a2, a6]; rfl
            cases res with
            | none =>
              refine fin _ e6 fun ρ key' v' w es ck b k1 k2 k3 kb k4 => ?_
              obtain ⟨res', h1, h2⟩ := H ρ key' es.toList k1 k3
              cases res' with
              | some _ => exact h2.elim
              | none =>
                refine ⟨es.push { key := key', val := v', born := ck }, ck + 1, ?_, kb.push, ?_⟩
                · show EntR ρ (l ++ [(key, v)]) _
                  rw [Array.toList_push]
                  refine ⟨?_, ?_⟩
                  · rw [List.map_append, List.map_append]; exact k3.1.append ⟨k1, trivial⟩
                  · rw [List.map_append, List.map_append]; exact k3.2.append ⟨k2, trivial⟩
                · simp only [Instr.mapUpdate, Sem.run_bind, under hU, Result.andThen_ok, run_getMap k4, checkKey_run hk, findKey_run hk.1 h1, run_setObj k4]
            | some p =>
              obtain ⟨j, pv⟩ := p
              obtain ⟨en, _, hen, hso⟩ := hres j pv rfl
              rw [Nat.sub_zero] at hen
              refine fin _ e6 fun ρ key' v' w es ck b k1 k2 k3 kb k4 => ?_
              obtain ⟨res', h1, h2⟩ := H ρ key' es.toList k1 k3
              cases res' with
              | none => exact h2.elim
              | some p' =>
                obtain ⟨j', pv'⟩ := p'
                obtain ⟨rfl, _⟩ := h2
                obtain ⟨ek, g1, g2⟩ := k3.1.get (show (l.map (·.1))[j]? = some en.1 by rw [List.getElem?_map, hen]; rfl)
                have hes : ∃ me : MapEntry, es[j]? = some me ∧ me.key = ek := by
                  rw [List.getElem?_map] at g1
                  cases hq2 : es.toList[j]? with
                  | none => rw [hq2] at g1; cases g1
                  | some me => rw [hq2] at g1; exact ⟨me, by simpa using hq2, by simpa using g1⟩
                obtain ⟨me, m1, m2⟩ := hes
                have hsb := sameBits_of hk.2 (hso ρ key' ek k1 g2)
                have hjs : j < es.size := (Array.getElem?_eq_some_iff.1 m1).1
                have hmod : (es.modify j fun e => { e with key := key', val := v' }).toList = es.toList.set j { me with key := key', val := v' } := by
                  apply List.ext_getElem?
                  intro i
                  rw [Array.getElem?_toList, Array.getElem?_modify, List.getElem?_set]
                  by_cases hij : j = i
                  · subst hij
                    have hb2 : es[j] = me := by rw [Array.getElem?_eq_getElem hjs] at m1; exact Option.some.inj m1
                    simp [hjs, hb2]
                  · simp [hij]
                refine ⟨es.modify j fun e => { e with key := key', val := v' }, ck, ?_, kb.turn hmod m1, ?_⟩
                · show EntR ρ (setEnt l j (key, v)) _
                  rw [setEnt_eq, hmod]
                  refine ⟨?_, ?_⟩
                  · rw [map_set', map_set']; exact VRs.set j k3.1 k1
                  · rw [map_set', map_set']; exact VRs.set j k3.2 k2
                · have hkts : (Instr.keyThatStays (((es[j]?).map (·.key)).getD key') key').run P w = .ok key' w := by
                    rw [m1]
                    simp only [Option.map_some, Option.getD_some, m2, Instr.keyThatStays, hsb, if_true, Sem.run_pure]
                  simp only [Instr.mapUpdate, Sem.run_bind, under hU, Result.andThen_ok, run_getMap k4, checkKey_run hk, findKey_run hk.1 h1, hkts, run_setObj k4]
          · cases e4
end
end Go.Am

namespace Go.Am
open Go

/-! ### A range over a map without entries -/
section
variable {P : Program} {N T : Nat} {o : Oper} {f : Call_ → Env → Fr → Hp → (AV → Hp → Out) → Out} {call : Call_} {env : Env} {fr : Fr} {h : Hp} {k : AV → Hp → Out} {r : AV} {hF : Hp}
theorem itrK_ok {q : Pth} {K : Option Pth → Out} (e : itrK h q K = .ok r hF) : ∃ F m, h.look q = some F ∧ F.body = .itr m ∧ K m = .ok r hF := by
  obtain ⟨F, h1, _, h2⟩ := famR_ok (show famR h q 0 _ = .ok r hF from e)
  rw [bodyK_eq] at h2
  cases hb : F.body with
  | byt _ _ => rw [hb] at h2; cases h2
  | arr _ _ _ _ => rw [hb] at h2; cases h2
  | map l => rw [hb] at h2; cases h2
  | lop _ _ _ => rw [hb] at h2; cases h2
  | itr m => rw [hb] at h2; exact ⟨F, m, h1, hb, h2⟩
theorem ok_range {t : Nat} {x : Operand} (ho : o.op = .range t x) (hf : opC P N o.op = .mk f) (e : f call env fr h k = .ok r hF) : GreatR P N T o env fr h k r hF := by
  rw [ho] at hf
  have hf : (match P.underlying t with | some (.map _ _) => op1 (opdC P N x) fun v h k => v.asMp fun o => Option.rec (motive := fun _ => Out) (newFam h 0 (.itr none) fun f h => k (.ptr f 0 0) h) (fun q => mapK h q fun _ => newFam h 0 (.itr (some q)) fun f h => k (.ptr f 0 0) h) o | _ => OpF.no 103) = .mk f := hf
  cases hu : P.underlying t with
  | none => rw [hu] at hf; cases hf; cases e
  | some U =>
    cases U with
    | map kt el =>
      rw [hu] at hf
      obtain ⟨v, e1, hv⟩ := op1_ok hf e
      have main : ∀ m : Option Pth, newFam h 0 (.itr m) (fun f h => k (.ptr f 0 0) h) = .ok r hF → (∀ ρ a w, Cx P N ρ env fr a → Rel ρ h.look w → ∃ mo since last, ItrR ρ m mo ∧ (Instr.range t (a.eval x)).run P w = .ok (.pointer (some ⟨w.heap.size, 0, none⟩)) (w.alloc (.mapIter mo since #[] last))) → GreatR P N T o env fr h k r hF := by
        intro m e2 H
        have e3 := newFam_ok e2
        refine ⟨_, _, e3, (by show _ ≤ (Pth.succ h.nx).toNat; rw [Pth.toNat_succ]; omega), fun ρ a w next Q har R K hn => ?_⟩
        obtain ⟨mo, si, la, h1, h2⟩ := H ρ a w har.cx R
        have hN : NewOk ρ (.mapIter mo si #[] la) 0 0 (.itr m) := ⟨trivial, .inl (.inr (.inr ⟨m, mo, si, la, rfl, rfl, h1⟩)), fun k hk => by cases hk⟩
        have hT := R.alloc (w0 := w) rfl rfl rfl rfl (el := 0) K hN
        refine value_wp (v := .pointer (some ⟨w.heap.size, 0, none⟩)) ?_ (hn _ _ _ ⟨w.heap.size, 0, 0, upd1_same _ _ _ _, rfl⟩ hT)
        simp only [execOp, ho, Sem.run_bind, h2, Result.andThen_ok]; rfl
      rcases asMp_ok e1 with ⟨q, rfl, e2⟩ | ⟨rfl, e2⟩
      · obtain ⟨F, l, hq, hb, e3⟩ := famW_map (show mapK h q (fun _ => newFam h 0 (.itr (some q)) fun f h => k (.ptr f 0 0) h) = .ok r hF from e2)
        refine main (some q) e3 fun ρ a w c R => ?_
        obtain ⟨b, ba, cs, hr, hx⟩ := hv ρ a c
        obtain ⟨es, ck, h1, _⟩ := map_run R hq hb hr
        refine ⟨some b, ck, ck, ⟨ba, cs, hr⟩, ?_⟩
        rw [hx]
        simp [Instr.range, run_underlying hu, getObj, Sem.run, show w.heap[b]? = some (.map es ck) from h1, Result.andThen]
      · refine main none e2 fun ρ a w c R => ⟨none, 0, 0, trivial, ?_⟩
        have hx : a.eval x = .map none := hv ρ a c
        rw [hx]
        simp [Instr.range, run_underlying hu]
    | _ => rw [hu] at hf; cases hf; cases e
theorem ok_next {x : Operand} (ho : o.op = .next x false) (hf : opC P N o.op = .mk f) (e : f call env fr h k = .ok r hF) : GreatR P N T o env fr h k r hF := by
  rw [ho] at hf
  obtain ⟨v, e1, hv⟩ := op1_ok (show op1 (opdC P N x) _ = .mk f from hf) e
  obtain ⟨q, off, ep, rfl, e2⟩ := asPtr_ok e1
  obtain ⟨h0, e3⟩ := bc_ok e2
  obtain ⟨h1, e4⟩ := bc_ok e3
  obtain rfl : off = 0 := Nat.eq_of_beq_eq_true h0
  obtain rfl : ep = 0 := Nat.eq_of_beq_eq_true h1
  obtain ⟨F, m, hq, hb, e5⟩ := itrK_ok e4
  have fin : k (.tup [.bool false]) h = .ok r hF → (∀ ρ w mo since last rr, Rel ρ h.look w → ItrR ρ m mo → w.heap[rr]? = some (.mapIter mo since #[] last) → (Instr.next (.pointer (some ⟨rr, 0, none⟩)) false o.type).run P w = .ok (.tuple #[.bool false]) w) → GreatR P N T o env fr h k r hF := by
    intro e6 H
    refine ⟨_, _, e6, Nat.le_refl _, fun ρ a w next Q har R K hn => ?_⟩
    obtain ⟨_, y, mo, si, la, h2, h3, h4, h5⟩ := (R.fam q F hq).itr m hb
    have hvv := hv ρ a har.cx
    obtain ⟨b, ba, cs, hr, hx⟩ := hvv
    rw [h2] at hr; cases hr
    have h5 : ba = 0 := h5
    subst h5
    have hx : a.eval x = .pointer (some ⟨b, 0, none⟩) := hx
    refine value_wp (v := .tuple #[.bool false]) ?_ (hn ρ _ _ ⟨_, rfl, rfl, trivial⟩ (Tr.refl R))
    simp only [execOp, ho, hx, Sem.run_bind, H ρ w mo si la b R h4 h3, Result.andThen_ok]; rfl
  cases m with
  | none =>
    refine fin e5 fun ρ w mo si la rr R h4 h3 => ?_
    cases mo with
    | some _ => exact h4.elim
    | none => simp [Instr.next, getObj, Sem.run, h3, Result.andThen]
  | some q2 =>
    obtain ⟨F2, l, hq2, hb2, e6⟩ := famW_map (show mapK h q2 (fun l => List.rec (motive := fun _ => Out) (k (.tup [.bool false]) h) (fun _ _ _ => .no 152) l) = .ok r hF from e5)
    cases l with
    | cons _ _ => cases e6
    | nil =>
      refine fin e6 fun ρ w mo si la rr R h4 h3 => ?_
      cases mo with
      | none => exact h4.elim
      | some b =>
        obtain ⟨ba, cs, hr⟩ := h4
        obtain ⟨es, ck, h6, h7⟩ := map_run R hq2 hb2 hr
        have hes : es = #[] := by
          have := h7.1.length
          simp at this
          exact Array.eq_empty_of_size_eq_zero this.symm
        subst hes
        have h6 : w.heap[b]? = some (.map #[] ck) := h6
        simp [Instr.next, getObj, Sem.run, h3, h6, Result.andThen, choose, Question.forced]
end
end Go.Am

namespace Go.Am
open Go

/-! ### What append and copy read -/
def atMost (x : AV) (m : Nat) : Prop := match x with
  | .str _ l => m ≤ l
  | .slc _ _ l _ _ => m ≤ l
  | .nsl => m = 0
  | _ => False
def SrcOk (P : Program) (h : Hp) (x : AV) (es m : Nat) (l : List AV) : Prop := ∀ ρ w x', VR ρ x x' → Rel ρ h.look w → ∃ vs, CellsR ρ l vs ∧ vs.length = m * es ∧ (Builtin.firstCells es m x').run P w = .ok vs.toArray w
section
variable {P : Program} {h : Hp} {r : AV} {hF : Hp}
theorem first_zero {es : Nat} {a : Addr} {n c : Nat} {w : World} : (Builtin.firstCells es 0 (.slice (some a) n c)).run P w = .ok #[] w := by
  have := run_firstCells_some (P := P) w es 0 a n c [] (by simp) (fun j v h => by simp at h)
  simpa using this
theorem bytes_vr {ρ : Rho} (bs : List UInt8) : CellsR ρ (bs.map fun b => AV.int .u8 (Int.ofNat b.toNat)) (bs.map fun b => Value.int .u8 (Int.ofNat b.toNat)) := by
  refine ⟨?_, fun u hu => ?_⟩
  · induction bs with
    | nil => trivial
    | cons b bs ih => exact ⟨rfl, ih⟩
  · obtain ⟨b, _, rfl⟩ := List.mem_map.1 hu; rfl
theorem srcBytes_src {x : AV} {m : Nat} {K : Nat → Out} (hm : atMost x m) (e : srcBytes h x m K = .ok r hF) : ∃ bs : List UInt8, bs.length = m ∧ K (leNat bs) = .ok r hF ∧ SrcOk P h x 1 m (bs.map fun b => AV.int .u8 (Int.ofNat b.toNat)) := by
  rcases srcBytes_ok e with ⟨n, l, rfl, e1⟩ | ⟨q, off, l, ep, es, F, bs, rfl, h1, h2, h3, h4, h5, e1⟩ | ⟨rfl, e1⟩
  · refine ⟨bytesLE n m, bytesLE_length _ _, by rw [leNat_bytesLE]; exact e1, fun ρ w x' hx _ => ?_⟩
    obtain ⟨s, rfl, hn, hl⟩ := hx
    have hml : m ≤ s.data.toList.length := by rw [← hl]; exact hm
    have hbs : bytesLE n m = s.data.toList.take m := by
      apply List.ext_getElem?
      intro i
      by_cases hi : i < m
      · rw [bytesLE_get _ _ _ hi, List.getElem?_take_of_lt hi, List.getElem?_eq_getElem (by omega), hn, leNat_byte _ i _ (List.getElem?_eq_getElem (by omega))]
        simp
      · rw [List.getElem?_eq_none (by rw [bytesLE_length]; omega), List.getElem?_eq_none (by simp; omega)]
    refine ⟨_, bytes_vr _, by rw [List.length_map, bytesLE_length, Nat.mul_one], ?_⟩
    simp only [Builtin.firstCells, Sem.run_pure]
    congr 1
    apply Array.ext'
    rw [hbs]
    simp [ByteArray.data_extract]
  · refine ⟨bs, h3, e1, fun ρ w x' hx R => ?_⟩
    obtain ⟨b, ba, cs, cap, hr, hx⟩ := hx
    refine ⟨_, bytes_vr bs, by rw [List.length_map, h3, Nat.mul_one], ?_⟩
    rcases hx with ⟨rfl, _, _⟩ | ⟨h0, ad, rfl⟩
    · refine run_firstCells_some (P := P) w 1 m _ l cap _ (by rw [List.length_map, h3, Nat.mul_one]) fun j v hj => ?_
      subst h3
      have hjl : j < bs.length := by have := (List.getElem?_eq_some_iff.1 hj).1; simpa using this
      rw [R.bytes h1 hr h2 h4 h5 j hjl]
      rw [List.getElem?_map, List.getElem?_eq_getElem hjl] at hj
      exact hj
    · have hm0 : m = 0 := by have : m ≤ l := hm; omega
      subst hm0
      have : bs = [] := by simpa using h3
      subst this
      exact first_zero
  · have hm0 : m = 0 := hm
    subst hm0
    refine ⟨[], rfl, e1, fun ρ w x' hx _ => ⟨[], ⟨trivial, fun u hu => by simp at hu⟩, by simp, ?_⟩⟩
    have hx : x' = .slice none 0 0 := hx
    subst hx
    exact run_firstCells_none (P := P) w 1 0 0 0
theorem flatten_get {es : Nat} (hes : 1 ≤ es) : ∀ {rows : List (List AV)}, (∀ row ∈ rows, row.length = es) → rows.flatten.length = rows.length * es ∧ ∀ (j : Nat) v, rows.flatten[j]? = some v → ∃ row, rows[j / es]? = some row ∧ row[j % es]? = some v := by
  intro rows
  induction rows with
  | nil => intro _; exact ⟨by simp, fun j v h => by simp at h⟩
  | cons row rows ih =>
    intro hl
    have h0 := hl row (by simp)
    obtain ⟨h1, h2⟩ := ih fun x hx => hl x (by simp [hx])
    refine ⟨by simp only [List.flatten_cons, List.length_append, h0, h1, List.length_cons, Nat.add_mul, Nat.one_mul]; omega, fun j v hj => ?_⟩
    rw [List.flatten_cons] at hj
    by_cases hjl : j < es
    · rw [List.getElem?_append_left (by omega)] at hj
      exact ⟨row, by rw [Nat.div_eq_of_lt hjl]; rfl, by rw [Nat.mod_eq_of_lt hjl]; exact hj⟩
    · rw [List.getElem?_append_right (by omega), h0] at hj
      obtain ⟨r2, a1, a2⟩ := h2 _ v hj
      obtain ⟨i, rfl⟩ : ∃ i, j = es + i := ⟨j - es, by omega⟩
      rw [Nat.add_sub_cancel_left] at a1 a2
      refine ⟨r2, ?_, ?_⟩
      · rw [Nat.add_div_left _ (by omega)]; simpa using a1
      · rw [Nat.add_mod_left]; exact a2
theorem srcRows_src {x : AV} {es m : Nat} (hes : 1 ≤ es) {K : List (List AV) → Out} (hm : atMost x m) (e : srcRows es h x m K = .ok r hF) : ∃ rows, K rows = .ok r hF ∧ (∀ ρ w x', VR ρ x x' → Rel ρ h.look w → rows.length = m ∧ ∀ row ∈ rows, row.length = es) ∧ SrcOk P h x es m rows.flatten := by
  obtain ⟨q, off, l, ep, es', rfl, e1⟩ := asSlc_ok (show x.asSlc _ = .ok r hF from e)
  obtain ⟨he, e2⟩ := bc_ok e1
  obtain ⟨F, h1, h2, e3⟩ := famK_ok e2
  rw [bodyK_eq] at e3
  obtain ⟨rows, e4, A⟩ := rowsK_if hes e3
  have hA : ∀ ρ w, Rel ρ h.look w → RowsAt F.body es m off rows := fun ρ w R => A (R.fam q F h1).bok
  have hlen : ∀ ρ w, Rel ρ h.look w → rows.length = m ∧ ∀ row ∈ rows, row.length = es := fun ρ w R => by
    obtain ⟨a1, _, a3⟩ := hA ρ w R
    refine ⟨a1, fun row hr => ?_⟩
    obtain ⟨i, hi⟩ := List.getElem?_of_mem hr
    exact (a3 i row hi).1
  refine ⟨rows, e4, fun ρ w x' _ R => hlen ρ w R, fun ρ w x' hx R => ?_⟩
  obtain ⟨a1, a2, a3⟩ := hA ρ w R
  obtain ⟨f1, f2⟩ := flatten_get hes (hlen ρ w R).2
  have hRow : RowAt F.body (m * es) off rows.flatten := by
    refine ⟨by rw [f1, a1], ?_, fun j v hj => ?_⟩
    · rcases a2 with h | h
      · exact .inl (by rw [h, Nat.zero_mul])
      · exact .inr h
    · obtain ⟨row, b1, b2⟩ := f2 j v hj
      have := (a3 _ row b1).2 _ v b2
      have hd := Nat.div_add_mod j es
      rw [show off + j / es * es + j % es = off + j by rw [Nat.mul_comm (j / es)]; omega] at this
      exact this
  obtain ⟨b, ba, cs, cap, hr, hx⟩ := hx
  obtain ⟨vs, c1, c2, c3⟩ := R.cells h1 hr hRow h2
  have hvl : vs.length = m * es := by have := c1.length; rw [f1, a1] at this; exact this.symm
  refine ⟨vs, ⟨c1, c2⟩, hvl, ?_⟩
  rcases hx with ⟨rfl, _, _⟩ | ⟨h0, ad, rfl⟩
  · exact run_firstCells_some (P := P) w es m _ l cap vs hvl fun j v hj => by rw [add_addr]; exact c3 j v hj
  · have hm0 : m = 0 := by have : m ≤ l := hm; omega
    subst hm0
    have : vs = [] := by simpa using hvl
    subst this
    exact first_zero
end
end Go.Am

namespace Go.Am
open Go

section
variable {P : Program} {N T : Nat} {o : Oper} {f : Call_ → Env → Fr → Hp → (AV → Hp → Out) → Out} {call : Call_} {env : Env} {fr : Fr} {h : Hp} {k : AV → Hp → Out} {r : AV} {hF : Hp}
/-- the length of a slice or a string -/
def lenAV : AV → Option Nat
  | .str _ l => some l
  | .slc _ _ l _ _ => some l
  | .nsl => some 0
  | _ => none
theorem lenK_len {v : AV} {K : Nat → Out} (e : v.lenK K = .ok r hF) : ∃ l, lenAV v = some l ∧ K l = .ok r hF := by
  rcases lenK_ok e with ⟨n, l, rfl, e1⟩ | ⟨_, _, l, _, _, rfl, e1⟩ | ⟨rfl, e1⟩ <;> exact ⟨_, rfl, e1⟩
theorem lenOf_run {v : AV} {l : Nat} (hl : lenAV v = some l) {ρ : Rho} {x : Value} (hx : VR ρ v x) (w : World) : (Builtin.lenOf x).run P w = .ok l w := by
  cases v <;> simp only [lenAV, Option.some.injEq, reduceCtorEq] at hl
  · subst hl; obtain ⟨s, rfl, _, rfl⟩ := hx
    simp only [Builtin.lenOf, Sem.run_pure]; rw [Array.length_toList]; rfl
  · subst hl
    obtain ⟨_, _, _, _, _, ⟨rfl, _⟩ | ⟨h0, _, rfl⟩⟩ := hx
    · rfl
    · rw [h0]; rfl
  · subst hl; have hx : x = .slice none 0 0 := hx; subst hx; rfl
theorem atMost_of {v : AV} {l m : Nat} (hl : lenAV v = some l) (hm : m ≤ l) : atMost v m := by
  cases v <;> simp only [lenAV, Option.some.injEq, reduceCtorEq] at hl <;> subst hl <;> first | exact hm | exact Nat.le_zero.1 hm
theorem first_none {v : AV} {l : Nat} (hl : lenAV v = some l) {ρ : Rho} {x : Value} (hx : VR ρ v x) (es : Nat) (w : World) : (Builtin.firstCells es 0 x).run P w = .ok #[] w := by
  cases v <;> simp only [lenAV, Option.some.injEq, reduceCtorEq] at hl
  · obtain ⟨s, rfl, _⟩ := hx
    simp only [Builtin.firstCells, Sem.run_pure]
    congr 1
    apply Array.ext'
    simp [ByteArray.data_extract]
  · obtain ⟨_, _, _, _, _, ⟨rfl, _⟩ | ⟨_, _, rfl⟩⟩ := hx <;> exact first_zero
  · have hx : x = .slice none 0 0 := hx; subst hx; exact run_firstCells_none (P := P) w es 0 0 0
theorem copy_run {ats : Array Nat} {t ty e : Nat} (ht : ats[0]? = some t) (hu : P.underlying t = some (.slice e)) (hi : ∃ i, P.info? e = some i) {base : Option Addr} {dl dc xl : Nat} {x : Value} {w w' : World} {vs : List Value}
    (h1 : (Builtin.lenOf x).run P w = .ok xl w) (h2 : (Builtin.firstCells (P.cellsOf e) (Nat.min xl dl) x).run P w = .ok vs.toArray w)
    (h3 : (match base with | some a => (storeCells a vs).run P w = .ok () w' | none => w' = w)) :
    (Builtin.copy_ ats ty #[.slice base dl dc, x]).run P w = .ok (goInt (Nat.min xl dl)) w' := by
  obtain ⟨i, hi⟩ := hi
  unfold Builtin.copy_
  simp only [ht, List.getElem?_toArray, List.getElem?_cons_zero, List.getElem?_cons_succ, Sem.run_bind, under hu, Result.andThen_ok, h1, run_size hi, h2]
  cases base with
  | none => simp only at h3; subst h3; rfl
  | some a => simp only at h3; simp only [h3, Sem.run_bind, Result.andThen_ok, Sem.run_pure]

theorem slice_of {d : AV} {l : Nat} (hd : (∃ q o l' ep es, d = .slc q o l' ep es ∧ l = l') ∨ (d = .nsl ∧ l = 0)) {ρ : Rho} {x : Value} (hx : VR ρ d x) : ∃ base dc, x = .slice base l dc := by
  rcases hd with ⟨q, o, l', ep, es, rfl, rfl⟩ | ⟨rfl, rfl⟩
  · obtain ⟨_, _, _, cap, _, ⟨rfl, _⟩ | ⟨h0, _, rfl⟩⟩ := hx
    · exact ⟨_, _, rfl⟩
    · rw [h0]; exact ⟨_, _, rfl⟩
  · have hx : x = .slice none 0 0 := hx
    subst hx; exact ⟨_, _, rfl⟩
theorem args2 {c : Call} {x y : Operand} (ha : c.args.toList = [x, y]) (a : Act) : c.args.map a.eval = #[a.eval x, a.eval y] := by rw [arr2 ha]; simp
theorem ok_copy {t : Nat} {ts : List Nat} {x y : Operand} {c : Call} (ho : o.op = .call c) (hc : c.callee = .builtin .copy) (ha : c.args.toList = [x, y]) (ht : c.argTypes.toList = t :: ts) (hf : opC P N o.op = .mk f) (e : f call env fr h k = .ok r hF) : GreatR P N T o env fr h k r hF := by
  rw [ho] at hf
  have hf1 : callC P N c = .mk f := hf
  unfold callC at hf1
  rw [hc] at hf1
  simp only [ha, ht] at hf1
  have hty := arrC ht
  cases hel : elemT P t with
  | none => simp only [hel] at hf1; cases hf1; cases e
  | some el =>
    simp only [hel] at hf1
    obtain ⟨d, s, e1, hds⟩ := op2_ok (show op2 (opdC P N x) (opdC P N y) (copyC P el) = .mk f from hf1) e
    have hu := elemT_ok hel
    have hrun : ∀ (a : Act) (w w' : World) (base : Option Addr) (dl dc m : Nat), a.eval x = .slice base dl dc → (Builtin.copy_ c.argTypes o.type #[.slice base dl dc, a.eval y]).run P w = .ok (goInt m) w' → (execOp a.eval o).run P w = .ok (.value (.int .i64 (Int.ofNat m))) w' := by
      intro a w w' base dl dc m hx hr
      obtain ⟨cs, he⟩ := exec_builtin (P := P) a ho hc w
      rw [he, args2 ha, hx]
      simp only [builtin, Sem.run_bind, hr, Result.andThen_ok, Sem.run_pure]; rfl
    unfold copyC at e1
    cases hlo : lenOk P el with
    | false => simp only [hlo] at e1; cases e1
    | true =>
      obtain ⟨i, z, hi, hz, hcs, hzl, hpos, hcz, hby⟩ := len_ok hlo
      -- nothing to copy
      have none_ : ∀ dl xl, ((∃ q o l' ep es, d = .slc q o l' ep es ∧ dl = l') ∨ (d = .nsl ∧ dl = 0)) → lenAV s = some xl → Nat.min xl dl = 0 → k (.int .i64 0) h = .ok r hF → GreatR P N T o env fr h k r hF := by
        intro dl xl hd hs hm e2
        refine ⟨_, _, e2, Nat.le_refl _, Runs1.toG fun ρ a w cx R => ?_⟩
        obtain ⟨h1, h2⟩ := hds ρ a cx
        obtain ⟨base, dc, hxe⟩ := slice_of hd h1
        have hcr := copy_run (P := P) (ats := c.argTypes) (ty := o.type) hty hu ⟨i, hi⟩ (base := base) (dl := dl) (dc := dc) (x := a.eval y) (w := w) (w' := w) (vs := []) (lenOf_run hs h2 w) (by rw [hm]; exact first_none hs h2 _ w) (by cases base <;> rfl)
        rw [hm] at hcr
        exact ⟨_, rfl, hrun a w w base dl dc 0 hxe hcr⟩
      have some_ : ∀ {m dl xl q off ep es F} {l : List AV} {b' : Body}, d = .slc q off dl ep es → lenAV s = some xl → m = Nat.min xl dl → h.look q = some F → F.old ≤ big → ep = F.ep → F.body.isMap = false → SrcOk P h s (P.cellsOf el) m l → (BodyOk F.body → WrSpecX F.body off l b') → ((BodyOk F.body → WrSpec F.body off l b') ∨ (es = 1 ∧ P.cellsOf el = 1)) → 0 < m →
          k (.int .i64 (Int.ofNat m)) (putFam h q (some (F.wrote off b'))) = .ok r hF → GreatR P N T o env fr h k r hF := by
        intro m dl xl q off ep es F l b' hd hs hm hq hwr hep hmap hsrc S hS hmp e2
        refine ⟨_, _, e2, by rw [nx_put]; exact Nat.le_refl _, fun ρ a w next Q har R _ hn => ?_⟩
        obtain ⟨h1, h2⟩ := hds ρ a har.cx
        obtain ⟨vs, v1, v2, v3⟩ := hsrc ρ w _ h2 R
        rw [hd] at h1
        obtain ⟨b, ba, cs, cap, hr, hxe⟩ := h1
        subst hep
        rcases hxe with ⟨hxe, hlc, hcc⟩ | ⟨h0, ad, hxe⟩
        · obtain ⟨s1, s2⟩ : (storeCells ⟨b, ba + off, none⟩ vs).run P w = .ok () (w.setCells b (ba + off) vs) ∧ Tr ρ h w ρ (putFam h q (some (F.wrote off b'))) (w.setCells b (ba + off) vs) := by
            rcases hS with hS | ⟨rfl, h1⟩
            · exact store_run (P := P) R hq hwr hmap hr hS v1
            · refine store_runX (P := P) R hq hwr hmap hr S v1 ?_
              have : m ≤ dl := by rw [hm]; exact Nat.min_le_right _ _
              rw [v2, h1]; omega
          have hcr := copy_run (P := P) (ats := c.argTypes) (ty := o.type) hty hu ⟨i, hi⟩ (base := some ⟨b, ba + off, none⟩) (dl := dl) (dc := cap) (x := a.eval y) (w := w) (w' := w.setCells b (ba + off) vs) (vs := vs) (lenOf_run hs h2 w) (by rw [← hm]; exact v3) s1
          rw [← hm] at hcr
          exact value_wp (hrun a w _ _ dl cap m hxe hcr) (hn ρ _ _ rfl s2)
        · have : Nat.min xl dl = 0 := by rw [h0]; exact Nat.min_zero _
          omega
      have two : ∀ {B : Nat → Out}, (d.lenS fun dl => s.lenK fun xl => natK (minN xl dl) B) = .ok r hF → (B 0 = .ok r hF → k (.int .i64 0) h = .ok r hF) →
          (∀ m dl xl, ((∃ q o l' ep es, d = .slc q o l' ep es ∧ dl = l') ∨ (d = .nsl ∧ dl = 0)) → lenAV s = some xl → m = Nat.min xl dl → 0 < m → B m = .ok r hF → GreatR P N T o env fr h k r hF) → GreatR P N T o env fr h k r hF := by
        intro B e2 B0 H
        have : ∃ dl, ((∃ q o l' ep es, d = .slc q o l' ep es ∧ dl = l') ∨ (d = .nsl ∧ dl = 0)) ∧ (s.lenK fun xl => natK (minN xl dl) B) = .ok r hF := by
          rcases lenS_ok e2 with ⟨q, o', l, p, es, hd, e3⟩ | ⟨hd, e3⟩
          · exact ⟨l, .inl ⟨q, o', l, p, es, hd, rfl⟩, e3⟩
          · exact ⟨0, .inr ⟨hd, rfl⟩, e3⟩
        obtain ⟨dl, hd, e3⟩ := this
        obtain ⟨xl, hs, e4⟩ := lenK_len e3
        rw [natK_eq, minN_eq] at e4
        cases hm : min xl dl with
        | zero => rw [hm] at e4; exact none_ dl xl hd hs hm (B0 e4)
        | succ m => rw [hm] at e4; exact H (m + 1) dl xl hd hs hm.symm (by omega) e4
      cases hb : isByte P el with
      | true =>
        simp only [hlo, hb] at e1
        have hs1 : P.cellsOf el = 1 := by rw [hcs, ← hzl, hby hb]; rfl
        refine two e1 (fun e => e) fun m dl xl hd hs hm hmp e2 => ?_
        obtain ⟨m, rfl⟩ : ∃ n, m = n + 1 := ⟨m - 1, by omega⟩
        have e2 : (srcBytes h s (m + 1) fun n => d.asSlc fun f o _ ep es => bc (Nat.beq es 1) (famW h f ep fun fam => fam.bodyK fun b => wrBytes b o (m + 1) n fun b => k (.int .i64 (Int.ofNat (m + 1))) (putFam h f (some (fam.wrote o b)))) (.no 68)) = .ok r hF := e2
        generalize m + 1 = m at *
        obtain ⟨bs, hbl, e3, hsrc⟩ := srcBytes_src (P := P) (atMost_of hs (by rw [hm]; exact Nat.min_le_left _ _)) e2
        obtain ⟨q, off, l', ep, es, hdd, e4⟩ := asSlc_ok e3
        obtain ⟨hes, e4⟩ := bc_ok e4
        have hes := Nat.eq_of_beq_eq_true hes
        obtain ⟨F, hq, hep, hwr, e5⟩ := famW_ok e4
        rw [bodyK_eq] at e5
        subst hbl
        obtain ⟨hmap, b', e6, S⟩ := wrBytes_if e5
        have hdl : dl = l' := by
          rcases hd with ⟨_, _, _, _, _, h1, h2⟩ | ⟨h1, _⟩
          · rw [hdd] at h1; cases h1; exact h2
          · rw [hdd] at h1; cases h1
        subst hdl
        exact some_ hdd hs hm hq hwr hep hmap (by rw [hs1]; exact hsrc) S (.inr ⟨hes, hs1⟩) hmp e6
      | false =>
        simp only [hlo, hb] at e1
        refine two e1 (fun e => e) fun m dl xl hd hs hm hmp e2 => ?_
        obtain ⟨m, rfl⟩ : ∃ n, m = n + 1 := ⟨m - 1, by omega⟩
        have e2 : (srcRows (P.cellsOf el) h s (m + 1) fun rows => d.asSlc fun f o _ ep es' => bc (Nat.beq (P.cellsOf el) es') (famW h f ep fun fam => fam.bodyK fun b => wrRows rows (P.cellsOf el) b o fun b => k (.int .i64 (Int.ofNat (m + 1))) (putFam h f (some (fam.wrote o b)))) (.no 68)) = .ok r hF := e2
        generalize m + 1 = m at *
        obtain ⟨rows, e3, hrl, hsrc⟩ := srcRows_src (P := P) (by omega) (atMost_of hs (by rw [hm]; exact Nat.min_le_left _ _)) e2
        obtain ⟨q, off, l', ep, es, hdd, e4⟩ := asSlc_ok e3
        obtain ⟨_, e4⟩ := bc_ok e4
        obtain ⟨F, hq, hep, hwr, e5⟩ := famW_ok e4
        rw [bodyK_eq] at e5
        have hdl : dl = l' := by
          rcases hd with ⟨_, _, _, _, _, h1, h2⟩ | ⟨h1, _⟩
          · rw [hdd] at h1; cases h1; exact h2
          · rw [hdd] at h1; cases h1
        subst hdl
        -- rows that are not of the right form stand in no world
        have vain : ∀ b', k (.int .i64 (Int.ofNat m)) (putFam h q (some (F.wrote off b'))) = .ok r hF → ¬ (rows.length = m ∧ ∀ row ∈ rows, row.length = P.cellsOf el) → GreatR P N T o env fr h k r hF := fun b' e6 hno =>
          ⟨_, _, e6, by rw [nx_put]; exact Nat.le_refl _, fun ρ a w next Q har R _ _ => absurd (hrl ρ w _ (hds ρ a har.cx).2 R) hno⟩
        cases hrows : rows with
        | nil => subst hrows; exact vain _ e5 (fun hh => by have := hh.1; simp at this; omega)
        | cons row rest =>
          have hmap : F.body.isMap = false := by
            rw [hrows] at e5
            exact (wrRow_k (show wrRow F.body (P.cellsOf el) off row (fun b => wrRows rest (P.cellsOf el) b (Nat.add off (P.cellsOf el)) fun b => k (.int .i64 (Int.ofNat m)) (putFam h q (some (F.wrote off b)))) = .ok r hF from e5)).1
          by_cases hl : ∀ row ∈ rows, row.length = P.cellsOf el
          · obtain ⟨b', e6, S⟩ := wrRows_if hmap hl e5
            exact some_ hdd hs hm hq hwr hep hmap hsrc (fun h => (S h).toX) (.inl S) hmp e6
          · obtain ⟨b', _, e6⟩ := wrRows_k hmap e5
            exact vain b' e6 fun hh => hl hh.2
end
end Go.Am

namespace Go.Am
open Go

/-! ### Append, as the model runs it -/
section
variable {P : Program}
theorem app_room {ats : Array Nat} {t u ty e : Nat} {U : TypeDesc} (ht : ats[0]? = some t) (hu0 : ats[1]? = some u) (hu : P.underlying t = some (.slice e)) (hU : P.underlying u = some U) (hUi : ∀ k, U ≠ .int k) {i : TypeInfo} (hi : P.info? e = some i)
    {base : Option Addr} {sl sc n : Nat} {x : Value} {w w' : World} {vs : List Value} (h1 : (Builtin.lenOf x).run P w = .ok n w) (hroom : sl + n ≤ sc) (h2 : (Builtin.firstCells (P.cellsOf e) n x).run P w = .ok vs.toArray w)
    (h3 : match base with | some a => (storeCells (a.add (sl * P.cellsOf e)) vs).run P w = .ok () w' | none => w' = w) :
    (Builtin.append_ ats ty #[.slice base sl sc, x]).run P w = .ok (.slice base (sl + n) sc) w' := by
  unfold Builtin.append_
  simp only [ht, hu0, List.getElem?_toArray, List.getElem?_cons_zero, List.getElem?_cons_succ]
  rw [Sem.run_bind, run_underlying hu, Result.andThen_ok]
  simp only
  rw [Sem.run_bind, run_size hi, Result.andThen_ok, Sem.run_bind, run_underlying hU, Result.andThen_ok, Sem.run_bind, Sem.run_pure, Result.andThen_ok]
  cases U <;> first | exact absurd rfl (hUi _) | skip
  all_goals
    simp only [Bool.false_eq_true, if_false, Bool.not_false, if_true]
    rw [Sem.run_bind, h1, Result.andThen_ok, if_pos hroom, Sem.run_bind, h2, Result.andThen_ok]
    cases base with
    | none => simp only at h3; subst h3; rfl
    | some a => simp only at h3; simp only [Sem.run_bind, h3, Result.andThen_ok, Sem.run_pure]
theorem app_grow {ats : Array Nat} {t u ty e : Nat} {U : TypeDesc} (ht : ats[0]? = some t) (hu0 : ats[1]? = some u) (hu : P.underlying t = some (.slice e)) (hU : P.underlying u = some U) (hUi : ∀ k, U ≠ .int k) {i : TypeInfo} (hi : P.info? e = some i) {z : Value} (hz : i.zero = some z)
    {base : Option Addr} {sl sc n : Nat} {x : Value} {w : World} {olds news : List Value} (h1 : (Builtin.lenOf x).run P w = .ok n w) (hg : sc < sl + n) (h63 : sl + n ≤ 9223372036854775807) (hfit : (sl + n) * i.bytes ≤ 140737488355328)
    (h2 : (Builtin.firstCells (P.cellsOf e) sl (.slice base sl sc)).run P w.drew = .ok olds.toArray w.drew) (h3 : (Builtin.firstCells (P.cellsOf e) n x).run P w.drew = .ok news.toArray w.drew) :
    (Builtin.append_ ats ty #[.slice base sl sc, x]).run P w = .ok (.slice (some ⟨w.heap.size, 0, none⟩) (sl + n) (grownCap w (sl + n) sc e)) (w.drew.alloc (.cells (olds.toArray ++ news.toArray ++ Builtin.zeroCells z.cells (grownCap w (sl + n) sc e - (sl + n))) e)) := by
  have hn : ¬ (sl + n ≤ sc) := by omega
  have hti : (typeInfo e).run P w = .ok i w := by simp [typeInfo, hi]
  have h48 : ¬ (Builtin.nextslicecap (sl + n) sc * i.bytes > 2 ^ 48) := by have := growslice_fits hg hfit; omega
  have h63' : ¬ (((sl + n : Nat) : Int) > IntKind.i64.max ∧ (False ∨ i.bytes = 0)) := by
    rintro ⟨h4, _⟩
    have h5 : IntKind.i64.max = 9223372036854775807 := by decide
    rw [h5] at h4; omega
  have hzr : (zeroValue e).run P w.drew = .ok z w.drew := by simp [zeroValue, typeInfo, hi, hz]
  unfold Builtin.append_
  simp only [ht, hu0, List.getElem?_toArray, List.getElem?_cons_zero, List.getElem?_cons_succ]
  rw [Sem.run_bind, run_underlying hu, Result.andThen_ok]
  simp only
  rw [Sem.run_bind, run_size hi, Result.andThen_ok, Sem.run_bind, run_underlying hU, Result.andThen_ok, Sem.run_bind, Sem.run_pure, Result.andThen_ok]
  cases U <;> first | exact absurd rfl (hUi _) | skip
  all_goals
    simp only [Bool.false_eq_true, if_false, Bool.not_false, if_true]
    rw [Sem.run_bind, h1, Result.andThen_ok, if_neg hn]
    rw [Sem.run_bind, hti, Result.andThen_ok, if_neg h63', Sem.run_bind, hti, Result.andThen_ok, if_neg h48]
    have htd : (typeInfo e).run P w.drew = .ok i w.drew := by simp [typeInfo, hi]
    have hch : (choose (Question.appendCap (sl + n) sc e)).run P w = .ok (grownCap w (sl + n) sc e) w.drew := by simp [grownCap, Question.forced]
    have hro : (askRoom (grownCap w (sl + n) sc e * i.bytes)).run P w.drew = .ok () w.drew := by simp
    rw [Sem.run_bind, hch, Result.andThen_ok, Sem.run_bind, htd, Result.andThen_ok, Sem.run_bind, hro, Result.andThen_ok, Sem.run_bind, h2, Result.andThen_ok, Sem.run_bind, h3, Result.andThen_ok, Sem.run_bind, hzr, Result.andThen_ok]
    simp [newRow]
end
end Go.Am

namespace Go.Am
open Go

/-- a family goes on at a new place, or further on at an old one -/
theorem Rel.epoch {ρ : Rho} {h : Hp} {w w' : World} (R : Rel ρ h.look w) {q : Pth} {F : Fam} (hq : h.look q = some F) (hwr : F.old ≤ big) {x : Nat × Nat × Nat} {b' : Body} {el old : Nat} (hok : BodyOk b') (hm' : b'.isMap = false)
    (hcell : ∀ i v, b'.cell? i = some v → CellR ρ w' x.1 (x.2.1 + i) v) (hblk : BlkOk w' x.1 x.2.2)
    (hold : ∀ e y, ρ q e = some y → BlkOk w' y.1 y.2.2 ∧ ∀ i v, b'.cell? i = some v → i < old → CellR ρ w' y.1 (y.2.1 + i) v)
    (hel : ∀ k, el = k + 1 → (∀ e y, ρ q e = some y → y.2.1 = 0 ∧ ∃ c fz, w'.heap[y.1]? = some (.cells c k fz)) ∧ x.2.1 = 0 ∧ ∃ c fz, w'.heap[x.1]? = some (.cells c k fz))
    (hoth : ∀ k, k < w.heap.size → k ≠ x.1 → w'.heap[k]? = w.heap[k]?)
    (hx : (w.heap.size ≤ x.1 ∧ x.1 < w'.heap.size) ∨ ∃ e y, ρ q e = some y ∧ y.1 = x.1 ∧ y.2.1 = x.2.1) (hsz : w.heap.size ≤ w'.heap.size) (hos : w'.os = w.os) (ht : w'.tape = w.tape) (hout : w'.output = w.output) :
    Tr ρ h w (upd1 ρ q (F.ep + 1) x) (putFam h q (some ⟨el, F.ep + 1, old, b'⟩)) w' := by
  have hnone : ρ q (F.ep + 1) = none := by
    cases hr : ρ q (F.ep + 1) with
    | none => rfl
    | some y => have := (R.fam q F hq).le _ y hr; omega
  have hle := upd1_le (x := x) hnone
  have hlook : ∀ g, (putFam h q (some ⟨el, F.ep + 1, old, b'⟩)).look g = if g = q then some ⟨el, F.ep + 1, old, b'⟩ else h.look g := look_put h q _
  have hl2 : ∀ g G, (putFam h q (some ⟨el, F.ep + 1, old, b'⟩)).look g = some G → ∃ G', h.look g = some G' := by
    intro g G hG
    rw [hlook] at hG
    split at hG
    · rename_i hgq; subst hgq; exact ⟨F, hq⟩
    · exact ⟨G, hG⟩
  have hxlt : x.1 < w'.heap.size := by
    rcases hx with h | ⟨e, y, h1, h2, _⟩
    · exact h.2
    · have := R.lt q e y h1; omega
  have hne : ∀ g G e y, h.look g = some G → g ≠ q → ρ g e = some y → y.1 ≠ x.1 := by
    intro g G e y hg hgq hy heq
    rcases hx with h | ⟨e2, y2, h1, h2, _⟩
    · have := R.lt g e y hy; omega
    · exact hgq (R.sep g G e y q F e2 y2 hg hq hy h1 (heq.trans h2.symm)).1
  refine ⟨⟨?_, ?_, ?_⟩, hle, ?_, by rw [nx_put]; exact Nat.le_refl _, ?_, ?_, hsz, hos, ht, hout, ?_⟩
  rotate_right
  · intro g G hG hb
    rw [hlook] at hG
    split at hG
    · rename_i hgq; subst hgq; exact .inl ⟨F, hq, hwr⟩
    · exact .inl ⟨G, hG, hb⟩
  · intro g G hG
    rw [hlook] at hG
    by_cases hgq : g = q
    · subst hgq
      rw [if_pos rfl] at hG; cases hG
      refine ⟨hok, ⟨x, upd1_same _ _ _ _⟩, fun e y hy => ?_, fun l hl => ?_, fun _ e y hy => ?_, fun st p d hl => ?_, fun k hk _ e y hy => ?_, fun m hm => ?_⟩
      rotate_right
      · have hm : b' = .itr m := hm
        rw [hm] at hm'; cases hm'
      rotate_right
      · obtain ⟨h1, h2⟩ := hel k hk
        rcases upd1_inv hy with ⟨_, _, h3⟩ | h3
        · subst h3; exact h2
        · exact h1 e y h3
      rotate_right
      · have hl : b' = .lop st p d := hl
        rw [hl] at hm'; cases hm'
      · rcases upd1_inv hy with ⟨_, h1, _⟩ | h1
        · rw [h1]; exact Nat.le_refl _
        · have := (R.fam g F hq).le e y h1; show e ≤ F.ep + 1; omega
      · have hl : b' = .map l := hl
        rw [hl] at hm'; cases hm'
      · rcases upd1_inv hy with ⟨_, h1, h2⟩ | h1
        · subst h2; exact ⟨hblk, fun i v hi _ => (hcell i v hi).mono hle rfl⟩
        · obtain ⟨a1, a2⟩ := hold e y h1
          refine ⟨a1, fun i v hi ho => (a2 i v hi ?_).mono hle rfl⟩
          rcases ho with ho | ho
          · have := (R.fam g F hq).le e y h1
            have ho : e = F.ep + 1 := ho
            omega
          · exact ho
    · rw [if_neg hgq] at hG
      refine (R.fam g G hG).mono hle (fun e y hy => ?_) fun e y hy => hoth _ (R.lt g e y hy) (hne g G e y hG hgq hy)
      rcases upd1_inv hy with ⟨h1, _⟩ | h1
      · exact absurd h1 hgq
      · exact h1
  · intro g G e y g' G' e' y' h1 h2 h3 h4 h5
    obtain ⟨A, hA⟩ := hl2 g G h1
    obtain ⟨B, hB⟩ := hl2 g' G' h2
    rcases upd1_inv h3 with ⟨a1, a2, a3⟩ | a <;> rcases upd1_inv h4 with ⟨b1, b2, b3⟩ | b
    · subst a3; subst b3; exact ⟨a1.trans b1.symm, rfl⟩
    · subst a3; subst a1
      rcases hx with hx | ⟨e2, y2, c1, c2, c3⟩
      · have := R.lt g' e' y' b; omega
      · obtain ⟨d1, d2⟩ := R.sep g A e2 y2 g' B e' y' hA hB c1 b (c2.trans h5)
        exact ⟨d1, c3.symm.trans d2⟩
    · subst b3; subst b1
      rcases hx with hx | ⟨e2, y2, c1, c2, c3⟩
      · have := R.lt g e y a; omega
      · obtain ⟨d1, d2⟩ := R.sep g A e y g' B e2 y2 hA hB a c1 (h5.trans c2.symm)
        exact ⟨d1, d2.trans c3⟩
    · exact R.sep g A e y g' B e' y' hA hB a b h5
  · intro g e y hy
    rcases upd1_inv hy with ⟨_, _, h1⟩ | h1
    · subst h1; exact hxlt
    · exact Nat.lt_of_lt_of_le (R.lt g e y h1) hsz
  · intro g e y h1 h2
    rcases upd1_inv h1 with ⟨a1, _, a3⟩ | h3
    · subst a1; subst a3
      refine ⟨.inr ⟨F, hq⟩, ?_⟩
      rcases hx with hx | ⟨e2, y2, c1, c2, _⟩
      · exact .inl hx.1
      · exact .inr ⟨g, F, e2, y2, ⟨hq, hwr⟩, c1, c2⟩
    · rw [h3] at h2; cases h2
  · intro g G hG; exact .inl (hl2 g G hG)
  · intro k hk hk2
    refine hoth k hk fun he => ?_
    rcases hx with hx | ⟨e2, y2, c1, c2, _⟩
    · omega
    · exact hk2 q F e2 y2 hq hwr c1 (c2.trans he.symm)
end Go.Am

namespace Go.Am
open Go

/-! ### What append does to a body -/
structure AppSpec (b : Body) (off : Nat) (l : List AV) (b' : Body) : Prop where
  ok : BodyOk b'
  map : b'.isMap = false
  cell : ∀ i v, b'.cell? i = some v → (i < off ∧ b.cell? i = some v) ∨ (off ≤ i ∧ l[i - off]? = some v)
  has : ∀ i, i < off → (b.cell? i).isSome = true
theorem rowsIn_eq : ∀ (rows : List (List AV)) (t : PT (List AV)) (i : Nat), rowsIn rows t i = match rows with | [] => t | r :: rows => rowsIn rows (t.upd (Pth.ofNat i) (some r)) (i + 1) := by
  intro rows t i
  cases rows with
  | nil => rfl
  | cons r rows => show rowsIn rows (rwSet t (Pth.ofNat i) (some r)) (i + 1) = _; rw [rwSet_eq]
theorem rowsIn_ok {es len : Nat} {z : List AV} : ∀ (rows : List (List AV)) (t : PT (List AV)) (i : Nat), BodyOk (.arr t es len z) → (∀ row ∈ rows, row.length = es) → BodyOk (.arr (rowsIn rows t i) es len z) := by
  intro rows
  induction rows with
  | nil => intro t i h _; exact h
  | cons r rows ih =>
    intro t i h hl
    rw [rowsIn_eq]
    exact ih _ _ (row_put h (hl r (by simp)) _) fun x hx => hl x (by simp [hx])
theorem rowsIn_look : ∀ (rows : List (List AV)) (t : PT (List AV)) (i j : Nat), (rowsIn rows t i).look (Pth.ofNat j) = if i ≤ j ∧ j < i + rows.length then rows[j - i]? else t.look (Pth.ofNat j) := by
  intro rows
  induction rows with
  | nil => intro t i j; rw [if_neg (by simp)]; rfl
  | cons r rows ih =>
    intro t i j
    rw [rowsIn_eq]
    simp only
    rw [ih, look_upd]
    by_cases h1 : j = i
    · subst h1
      rw [if_neg (by omega), if_pos rfl, if_pos ⟨Nat.le_refl _, by simp⟩, Nat.sub_self]; rfl
    · by_cases h2 : i + 1 ≤ j ∧ j < i + 1 + rows.length
      · rw [if_pos h2, if_pos ⟨by omega, by simp; omega⟩, show j - i = (j - (i + 1)) + 1 by omega, List.getElem?_cons_succ]
      · rw [if_neg h2, if_neg (fun h => h1 (ofNat_inj h)), if_neg (by simp; omega)]
theorem get_flatten {es : Nat} : ∀ {rows : List (List AV)}, (∀ row ∈ rows, row.length = es) → ∀ (q s : Nat) (row : List AV), rows[q]? = some row → s < es → rows.flatten[q * es + s]? = row[s]? := by
  intro rows
  induction rows with
  | nil => intro _ q s row h; simp at h
  | cons r rows ih =>
    intro hl q s row h hs
    have h0 := hl r (by simp)
    rw [List.flatten_cons]
    cases q with
    | zero =>
      rw [List.getElem?_cons_zero] at h; cases h
      rw [Nat.zero_mul, Nat.zero_add, List.getElem?_append_left (by omega)]
    | succ q =>
      rw [List.getElem?_cons_succ] at h
      rw [Nat.succ_mul, List.getElem?_append_right (by omega), h0, show q * es + es + s - es = q * es + s by omega]
      exact ih (fun x hx => hl x (by simp [hx])) q s row h hs
theorem app_arr {t : PT (List AV)} {es len : Nat} {z : List AV} (hb : BodyOk (.arr t es len z)) (hes : 1 ≤ es) {slen m : Nat} (hle : slen ≤ len) {rows : List (List AV)} (hm : rows.length = m) (hl : ∀ row ∈ rows, row.length = es) :
    AppSpec (.arr t es len z) (slen * es) rows.flatten (.arr (rowsIn rows t slen) es (slen + m) z) := by
  refine ⟨rowsIn_ok rows t slen (show BodyOk (.arr t es (slen + m) z) from hb) hl, rfl, fun i v hi => ?_, fun i hi => ?_⟩
  rotate_left
  · rw [cell_arr_row (Nat.lt_of_lt_of_le hi (by rw [Nat.mul_comm]; exact Nat.mul_le_mul_left es hle))]
    have hmod := Nat.mod_lt i (show 0 < es by omega)
    cases hk : t.look (Pth.ofNat (i / es)) with
    | none => simp [hb.1, hmod]
    | some row => simp [hb.2 _ _ hk, hmod]
  have hlt : i < es * (slen + m) := by
    simp only [Body.cell?] at hi
    split at hi
    · assumption
    · cases hi
  rw [cell_arr_row hlt, rowsIn_look] at hi
  have hd := Nat.div_add_mod i es
  have hmod := Nat.mod_lt i (show 0 < es by omega)
  by_cases h1 : slen ≤ i / es
  · have h2 : slen * es ≤ i := by
      have := Nat.mul_le_mul_left es h1
      rw [Nat.mul_comm slen]; omega
    have h3 : i / es < slen + m := by rw [Nat.div_lt_iff_lt_mul (by omega), Nat.mul_comm]; exact hlt
    rw [if_pos ⟨h1, by omega⟩] at hi
    refine .inr ⟨h2, ?_⟩
    have hg : rows[i / es - slen]? = some rows[i / es - slen] := List.getElem?_eq_getElem (by omega)
    rw [hg] at hi
    have := get_flatten hl (i / es - slen) (i % es) _ hg hmod
    rw [show i - slen * es = (i / es - slen) * es + i % es by rw [Nat.sub_mul, Nat.mul_comm (i / es)]; have := Nat.mul_le_mul_left es h1; rw [Nat.mul_comm slen]; omega, this]
    exact hi
  · rw [if_neg (by omega)] at hi
    have h2 : i < slen * es := by
      have : i / es < slen := by omega
      rw [Nat.div_lt_iff_lt_mul (by omega)] at this; exact this
    refine .inl ⟨h2, ?_⟩
    rw [cell_arr_row (Nat.lt_of_lt_of_le h2 (by rw [Nat.mul_comm]; exact Nat.mul_le_mul_left es hle))]
    exact hi
theorem app_byt (bs xs : List UInt8) {slen : Nat} (hle : slen ≤ bs.length) : AppSpec (.byt (leNat bs) bs.length) slen (xs.map fun x => AV.int .u8 (Int.ofNat x.toNat)) (.byt (leNat (bs.take slen ++ xs)) (slen + xs.length)) := by
  have hlen : (bs.take slen ++ xs).length = slen + xs.length := by simp; omega
  have hc := cell_byt (bs.take slen ++ xs)
  rw [hlen] at hc
  refine ⟨by have := leNat_lt (bs.take slen ++ xs); rw [hlen] at this; exact this, rfl, fun i v hi => ?_, fun i hi => by rw [cell_byt]; simp; omega⟩
  rw [hc] at hi
  by_cases h : i < slen
  · refine .inl ⟨h, ?_⟩
    rw [List.getElem?_append_left (by simp; omega), List.getElem?_take_of_lt h] at hi
    rw [cell_byt]; exact hi
  · refine .inr ⟨by omega, ?_⟩
    rw [List.getElem?_append_right (by simp; omega), List.length_take, Nat.min_eq_left hle] at hi
    rw [List.getElem?_map]; exact hi
theorem nb_bc {b : Bool} {x : Nat} {o : Out} {r : AV} {hF : Hp} (e : bc b (.no x) o = .ok r hF) : b = false ∧ o = .ok r hF := by
  cases b with
  | false => exact ⟨rfl, e⟩
  | true => cases e
/-- n: the new elements as bytes, or rows -/
theorem appBody_ok {byte : Bool} {es : Nat} {b : Body} {slen m n : Nat} {rows : List (List AV)} {old : Nat} {k : Body → Nat → Out} {r : AV} {hF : Hp} (hes : 1 ≤ es) (hby : byte = true → es = 1)
    (e : appBody byte es b slen m n rows old k = .ok r hF) {xs : List UInt8} (hn : byte = true → n = leNat xs ∧ xs.length = m) :
    b.isMap = false ∧ ∃ b', k b' (min old (slen * es)) = .ok r hF ∧ (BodyOk b → (byte = false → rows.length = m ∧ ∀ row ∈ rows, row.length = es) → AppSpec b (slen * es) (if byte then xs.map fun x => AV.int .u8 (Int.ofNat x.toNat) else rows.flatten) b') := by
  cases b with
  | map l => cases e
  | lop _ _ _ => cases e
  | itr _ => cases e
  | byt c len =>
    obtain ⟨hb, e1⟩ := bc_ok (show bc byte (bc (Nat.ble slen len) (natK (minN old slen) fun old => natK (Nat.add slen m) fun l => bc (Nat.beq len slen) (natK (Nat.add c (Nat.shiftLeft n (Nat.mul 8 slen))) fun c => k (.byt c l) old)
      (natK (Nat.add (Nat.mod c (Nat.shiftLeft 1 (Nat.mul 8 slen))) (Nat.shiftLeft n (Nat.mul 8 slen))) fun c => k (.byt c l) old)) (.no 69)) (.no 69) = .ok r hF from e)
    subst hb
    obtain ⟨h1, e2⟩ := bc_ok e1
    have hle : slen ≤ len := Nat.le_of_ble_eq_true h1
    have hs := hby rfl
    subst hs
    obtain ⟨rfl, rfl⟩ := hn rfl
    rw [natK_eq, natK_eq, minN_eq, natK_eq, natK_eq, shl8, shl8, Nat.one_mul, bc_eq] at e2
    rw [Nat.mul_one]
    have key : BodyOk (.byt c len) → AppSpec (.byt c len) slen (xs.map fun x => AV.int .u8 (Int.ofNat x.toNat)) (.byt (c % 256 ^ slen + leNat xs * 256 ^ slen) (slen + xs.length)) := by
      intro hb
      obtain ⟨bs, rfl, rfl⟩ := bytes_of hb
      have := app_byt bs xs hle
      rw [leNat_append, ← leNat_take, List.length_take, Nat.min_eq_left hle] at this
      exact this
    refine ⟨rfl, ?_⟩
    split at e2
    · rename_i hlen
      have hlen := Nat.eq_of_beq_eq_true hlen
      subst hlen
      refine ⟨_, e2, fun hb _ => ?_⟩
      have hk := key hb
      rw [Nat.mod_eq_of_lt (show c < 256 ^ len from hb)] at hk
      exact hk
    · exact ⟨_, e2, fun hb _ => key hb⟩
  | arr t es' len z =>
    obtain ⟨hb, e1⟩ := nb_bc (show bc byte (.no 69) (bc (Nat.beq es es') (bc (Nat.ble slen len) (natK (Nat.add slen m) fun l => natK (minN old (Nat.mul es slen)) fun old => k (.arr (rowsIn rows t slen) es' l z) old) (.no 69)) (.no 69)) = .ok r hF from e)
    subst hb
    obtain ⟨h1, e2⟩ := bc_ok e1
    obtain ⟨h2, e3⟩ := bc_ok e2
    have h1 := Nat.eq_of_beq_eq_true h1
    subst h1
    have hle : slen ≤ len := Nat.le_of_ble_eq_true h2
    rw [natK_eq, natK_eq, minN_eq] at e3
    refine ⟨rfl, _, (by rw [Nat.mul_comm slen]; exact e3), fun hb hr => ?_⟩
    obtain ⟨r1, r2⟩ := hr rfl
    exact app_arr hb hes hle r1 r2
end Go.Am
