/- Walks and laws, joined: part E. No condition. -/
import Derived.Test.YtkpikpaepgknnaaGreatDoorXkJD
import Derived.Test.YtkpikpaepgknnaaGreatDoorXkJB
import Derived.Lib.ConvBytes
import Derived.Deep.RegionHeld3
import Derived.Deep.DrawnRows
import Derived.BigQuiet
set_option linter.unusedSimpArgs false
set_option linter.unusedVariables false
/- The document's own Escape. No condition. -/
namespace Go.Proofs.YtkpikpaepgknnaaGreatDoor
open Go Go.RowKit Go.Wk Go.Xt
theorem escS_cons (l : List UInt8) (h : l ≠ []) : escS l = refP (Lib.decodeL l).1 (Lib.decodeL l).2 l ++ escS (l.drop (Lib.decodeL l).2) := by
  unfold escS
  rw [partsS_cons l h, List.flatMap_cons, piece l h]
theorem escS_nil : escS [] = [] := by unfold escS; rw [partsS_nil]; rfl
theorem step_of {o : ByteArray} {bs p : List UInt8} {k n : Nat} (h : o.data.toList ++ escS (bs.drop k) = escS bs) (hp : escS (bs.drop k) = p ++ escS ((bs.drop k).drop n)) (o' : ByteArray) (ho : o'.data.toList = o.data.toList ++ p) : o'.data.toList ++ escS (bs.drop (k + n)) = escS bs := by
  rw [ho, ← h, hp, List.drop_drop, List.append_assoc]
set_option maxHeartbeats 8000000 in
set_option maxRecDepth 100000 in
theorem ref_Escape {w : World} (S : ByteArray) (hl : S.size ≤ 500) (hT : Lib.Utf8Tabs 0 1 w) (h2 : 2 ≤ w.heap.size) :
    Calls Tryz.prog 31 #[.string S] w fun e w' => e = .returned (str (escS S.data.toList)) ∧ Below w.heap.size w w' := by
  have hlen : S.data.toList.length = S.size := Array.length_toList
  obtain ⟨bs, hbs⟩ : ∃ bs, bs = S.data.toList := ⟨_, rfl⟩
  rw [← hbs] at hlen ⊢
  have hfl := flat_len bs.length bs (Nat.le_refl _)
  have hsg := fun (w : World) (x : Int) => ref_sign (w := w) x
  replace hlen := Lib.hid hlen
  replace hbs := Lib.hid hbs
  replace hT := Lib.hid hT
  replace hfl := Lib.hid hfl
  go_enter Tryz.func31, Tryz.ntmps31
  go_wp2
  go_loopw [3, 4, 5, 6, 7] (fun s3 s4 _ _ _ wr => ∃ (k : Nat) (o : ByteArray), k ≤ S.size ∧ s4 = .int .i64 k ∧ s3 = .string o ∧ o.data.toList ++ escS (bs.drop k) = escS bs ∧ Below w.heap.size w wr) (fun _ s4 _ _ _ _ => S.size - (RowKit.intOf s4).toNat)
  case atStart => exact ⟨0, ⟨#[]⟩, Nat.zero_le _, rfl, rfl, by simp, Below.refl _ _⟩
  case round =>
    obtain ⟨k, o, hk, rfl, rfl, ho, hB⟩ := hrel
    by_cases hkm : k < S.size
    · have hne : bs.drop k ≠ [] := by intro e; have := congrArg List.length e; rw [List.length_drop, hlen.out] at this; simp at this; omega
      have hcons := escS_cons (bs.drop k) hne
      have hn1 := Lib.decodeL_width (bs.drop k)
      have hn2 := Lib.decodeL_le (bs.drop k) hne
      rw [List.length_drop, hlen.out] at hn2
      have hosz : o.size ≤ 6 * S.size := by
        have h1 := congrArg List.length ho
        rw [List.length_append] at h1
        have h3 := hfl.out
        have h4 : o.data.toList.length = o.size := Array.length_toList
        have h5 := hlen.out
        omega
      have hd : Calls Tryz.prog 65 #[.string (S.extract k S.size)] wr fun e w' => e = .returned (.tuple #[.int .i32 ((Lib.decodeL (bs.drop k)).1 : Int), .int .i64 ((Lib.decodeL (bs.drop k)).2 : Int)]) ∧ Below wr.heap.size wr w' := by
        have := Tryz.utf8_DecodeRuneInString (S.extract k S.size) wr (tabs_kept hT.out (hB.block 0 (by omega)) (hB.block 1 (by omega)))
        have e1 : (S.extract k S.size) = ⟨(bs.drop k).toArray⟩ := bytes_ext (by rw [bytes_cut, ← hbs.out, ← hlen.out, List.take_length])
        rw [e1, decode_str _ hne] at this
        rw [e1]; exact this
      obtain ⟨r, hr⟩ : ∃ r, r = (Lib.decodeL (bs.drop k)).1 := ⟨_, rfl⟩
      obtain ⟨n, hn⟩ : ∃ n, n = (Lib.decodeL (bs.drop k)).2 := ⟨_, rfl⟩
      rw [← hr, ← hn] at hd hcons
      rw [← hn] at hn1 hn2
      have hr0 : (0 : Int) ≤ (r : Int) := by omega
      have hsR := fun W => hsg W (r : Int)
      replace ho := Lib.hid ho
      replace hB := Lib.hid hB
      replace hr := Lib.hid hr
      replace hn := Lib.hid hn
      by_cases c60 : r = 60
      · have hp : refP r n (bs.drop k) = [38, 108, 116, 59] := by unfold refP; rw [if_pos c60]
        rw [hp] at hcons
        have T60 : ((r : Int) == 60) = true := by simp; omega
        have hst := step_of (n := n) ho.out hcons (o ++ ⟨#[38, 108, 116, 59]⟩) (by rw [bytes_app])
        clear c60 hp hcons hne hsR
        replace hst := Lib.hid hst
        replace hr := Lib.hid hr
        generalize (r : Int) = X at *
        go_wp2_with (go_at_call 65; (with_reducible refine hd.mono ?_); rintro e w1 ⟨rfl, b1⟩; replace b1 := Lib.hid b1)
        go_roundw
        case rel => exact ⟨k + n, _, by omega, by go_num, rfl, hst.out, bthen hB.out b1.out⟩
        case measure => simp [RowKit.intOf]; omega
      by_cases c62 : r = 62
      · have hp : refP r n (bs.drop k) = [38, 103, 116, 59] := by unfold refP; rw [if_neg c60, if_pos c62]
        rw [hp] at hcons
        have T60 : ((r : Int) == 60) = false := by simp; omega
        have T62 : ((r : Int) == 62) = true := by simp; omega
        have hst := step_of (n := n) ho.out hcons (o ++ ⟨#[38, 103, 116, 59]⟩) (by rw [bytes_app])
        clear c60 c62 hp hcons hne hsR
        replace hst := Lib.hid hst
        replace hr := Lib.hid hr
        generalize (r : Int) = X at *
        go_wp2_with (go_at_call 65; (with_reducible refine hd.mono ?_); rintro e w1 ⟨rfl, b1⟩; replace b1 := Lib.hid b1)
        go_roundw
        case rel => exact ⟨k + n, _, by omega, by go_num, rfl, hst.out, bthen hB.out b1.out⟩
        case measure => simp [RowKit.intOf]; omega
      by_cases c38 : r = 38
      · have hp : refP r n (bs.drop k) = [38, 97, 109, 112, 59] := by unfold refP; rw [if_neg c60, if_neg c62, if_pos c38]
        rw [hp] at hcons
        have T60 : ((r : Int) == 60) = false := by simp; omega
        have T62 : ((r : Int) == 62) = false := by simp; omega
        have T38 : ((r : Int) == 38) = true := by simp; omega
        have hst := step_of (n := n) ho.out hcons (o ++ ⟨#[38, 97, 109, 112, 59]⟩) (by rw [bytes_app])
        clear c60 c62 c38 hp hcons hne hsR
        replace hst := Lib.hid hst
        replace hr := Lib.hid hr
        generalize (r : Int) = X at *
        go_wp2_with (go_at_call 65; (with_reducible refine hd.mono ?_); rintro e w1 ⟨rfl, b1⟩; replace b1 := Lib.hid b1)
        go_roundw
        case rel => exact ⟨k + n, _, by omega, by go_num, rfl, hst.out, bthen hB.out b1.out⟩
        case measure => simp [RowKit.intOf]; omega
      by_cases c34 : r = 34
      · have hp : refP r n (bs.drop k) = [38, 113, 117, 111, 116, 59] := by unfold refP; rw [if_neg c60, if_neg c62, if_neg c38, if_pos c34]
        rw [hp] at hcons
        have T60 : ((r : Int) == 60) = false := by simp; omega
        have T62 : ((r : Int) == 62) = false := by simp; omega
        have T38 : ((r : Int) == 38) = false := by simp; omega
        have T34 : ((r : Int) == 34) = true := by simp; omega
        have hst := step_of (n := n) ho.out hcons (o ++ ⟨#[38, 113, 117, 111, 116, 59]⟩) (by rw [bytes_app])
        clear c60 c62 c38 c34 hp hcons hne hsR
        replace hst := Lib.hid hst
        replace hr := Lib.hid hr
        generalize (r : Int) = X at *
        go_wp2_with (go_at_call 65; (with_reducible refine hd.mono ?_); rintro e w1 ⟨rfl, b1⟩; replace b1 := Lib.hid b1)
        go_roundw
        case rel => exact ⟨k + n, _, by omega, by go_num, rfl, hst.out, bthen hB.out b1.out⟩
        case measure => simp [RowKit.intOf]; omega
      by_cases c39 : r = 39
      · have hp : refP r n (bs.drop k) = [38, 97, 112, 111, 115, 59] := by unfold refP; rw [if_neg c60, if_neg c62, if_neg c38, if_neg c34, if_pos c39]
        rw [hp] at hcons
        have T60 : ((r : Int) == 60) = false := by simp; omega
        have T62 : ((r : Int) == 62) = false := by simp; omega
        have T38 : ((r : Int) == 38) = false := by simp; omega
        have T34 : ((r : Int) == 34) = false := by simp; omega
        have T39 : ((r : Int) == 39) = true := by simp; omega
        have hst := step_of (n := n) ho.out hcons (o ++ ⟨#[38, 97, 112, 111, 115, 59]⟩) (by rw [bytes_app])
        clear c60 c62 c38 c34 c39 hp hcons hne hsR
        replace hst := Lib.hid hst
        replace hr := Lib.hid hr
        generalize (r : Int) = X at *
        go_wp2_with (go_at_call 65; (with_reducible refine hd.mono ?_); rintro e w1 ⟨rfl, b1⟩; replace b1 := Lib.hid b1)
        go_roundw
        case rel => exact ⟨k + n, _, by omega, by go_num, rfl, hst.out, bthen hB.out b1.out⟩
        case measure => simp [RowKit.intOf]; omega
      by_cases c13 : r = 13
      · have hp : refP r n (bs.drop k) = [38, 35, 49, 51, 59] := by unfold refP; rw [if_neg c60, if_neg c62, if_neg c38, if_neg c34, if_neg c39, if_pos c13]
        rw [hp] at hcons
        have T60 : ((r : Int) == 60) = false := by simp; omega
        have T62 : ((r : Int) == 62) = false := by simp; omega
        have T38 : ((r : Int) == 38) = false := by simp; omega
        have T34 : ((r : Int) == 34) = false := by simp; omega
        have T39 : ((r : Int) == 39) = false := by simp; omega
        have T13 : ((r : Int) == 13) = true := by simp; omega
        have hst := step_of (n := n) ho.out hcons (o ++ ⟨#[38, 35, 49, 51, 59]⟩) (by rw [bytes_app])
        clear c60 c62 c38 c34 c39 c13 hp hcons hne hsR
        replace hst := Lib.hid hst
        replace hr := Lib.hid hr
        generalize (r : Int) = X at *
        go_wp2_with (go_at_call 65; (with_reducible refine hd.mono ?_); rintro e w1 ⟨rfl, b1⟩; replace b1 := Lib.hid b1)
        go_roundw
        case rel => exact ⟨k + n, _, by omega, by go_num, rfl, hst.out, bthen hB.out b1.out⟩
        case measure => simp [RowKit.intOf]; omega
      by_cases r3 : r = 65533
      · by_cases n2 : n < 2
        · have hp : refP r n (bs.drop k) = List.replicate n 63 := by unfold refP; rw [if_neg c60, if_neg c62, if_neg c38, if_neg c34, if_neg c39, if_neg c13, if_pos (.inl ⟨r3, n2⟩)]
          rw [hp] at hcons
          have T60 : ((r : Int) == 60) = false := by simp; omega
          have T62 : ((r : Int) == 62) = false := by simp; omega
          have T38 : ((r : Int) == 38) = false := by simp; omega
          have T34 : ((r : Int) == 34) = false := by simp; omega
          have T39 : ((r : Int) == 39) = false := by simp; omega
          have T13 : ((r : Int) == 13) = false := by simp; omega
          have U1 : ((r : Int) == 65533) = true := by simp; omega
          have U2 : decide ((n : Int) < 2) = true := by simp; omega
          have hst := fun o' h => step_of (n := n) ho.out hcons o' h
          clear c60 c62 c38 c34 c39 c13 hp hcons hne
          replace hst := Lib.hid hst
          replace hr := Lib.hid hr
          generalize signB (r : Int) = B at *
          generalize (r : Int) = X at *
          go_wp2_with (first
            | (go_at_call 65; (with_reducible refine hd.mono ?_); rintro e w1 ⟨rfl, b1⟩; replace b1 := Lib.hid b1))
          go_loopw [3, 7] (fun s3 s7 wr2 => ∃ (j : Nat) (o2 : ByteArray), j ≤ n ∧ s7 = .int .i64 j ∧ s3 = .string o2 ∧ o2.data.toList = o.data.toList ++ List.replicate j 63 ∧ Below w.heap.size w wr2) (fun _ s7 _ => n - (RowKit.intOf s7).toNat)
          case atStart => exact ⟨0, o, Nat.zero_le _, rfl, rfl, by simp, bthen hB.out b1.out⟩
          case round =>
            obtain ⟨j, o2, hj, rfl, rfl, ho2, hB2⟩ := hrel
            have ho2s : o2.size = o.size + j := by
              have h1 := congrArg List.length ho2
              rw [List.length_append, List.length_replicate] at h1
              have h4 : o.data.toList.length = o.size := Array.length_toList
              have h5 : o2.data.toList.length = o2.size := Array.length_toList
              omega
            replace hB2 := Lib.hid hB2
            replace ho2 := Lib.hid ho2
            by_cases hjn : j < n
            · go_wp2
              go_roundw
              case rel => exact ⟨j + 1, _, by omega, by go_num, rfl, by rw [bytes_app, ho2.out, List.replicate_succ', List.append_assoc], hB2.out⟩
              case measure => simp [RowKit.intOf]; omega
            · obtain rfl : j = n := by omega
              go_wp2
              go_roundw
              case rel => exact ⟨k + j, _, by omega, by go_num, rfl, hst.out _ ho2.out, hB2.out⟩
              case measure => simp [RowKit.intOf]; omega
        · have hsb : signB (r : Int) = true := by rw [r3]; decide
          have hp : refP r n (bs.drop k) = (bs.drop k).take n := by unfold refP; rw [if_neg c60, if_neg c62, if_neg c38, if_neg c34, if_neg c39, if_neg c13, if_neg (by rw [hsb]; simp; omega)]
          rw [hp] at hcons
          have T60 : ((r : Int) == 60) = false := by simp; omega
          have T62 : ((r : Int) == 62) = false := by simp; omega
          have T38 : ((r : Int) == 38) = false := by simp; omega
          have T34 : ((r : Int) == 34) = false := by simp; omega
          have T39 : ((r : Int) == 39) = false := by simp; omega
          have T13 : ((r : Int) == 13) = false := by simp; omega
          have U1 : ((r : Int) == 65533) = true := by simp; omega
          have U2 : decide ((n : Int) < 2) = false := by simp; omega
          have hst := step_of (n := n) ho.out hcons (o ++ S.extract k (k + n)) (by rw [bytes_app, bytes_cut, ← hbs.out, List.drop_take, Nat.add_sub_cancel_left])
          have hxs : (S.extract k (k + n)).size = n := by rw [ByteArray.size_extract]; omega
          have hkn : k + n ≤ S.size := by omega
          obtain ⟨q, hq⟩ : ∃ q, q = k + n := ⟨_, rfl⟩
          have hqi : (k : Int) + (n : Int) = (q : Int) := by omega
          have hkq : k ≤ q := by omega
          have hqs : q ≤ S.size := by omega
          rw [← hq] at hst hxs hkn
          replace hq := Lib.hid hq
          clear c60 c62 c38 c34 c39 c13 hp hcons hne
          replace hst := Lib.hid hst
          replace hr := Lib.hid hr
          replace hxs := Lib.hid hxs
          generalize signB (r : Int) = B at *
          generalize (r : Int) = X at *
          go_wp2_with (first
            | (go_at_call 65; (with_reducible refine hd.mono ?_); rintro e w1 ⟨rfl, b1⟩; replace b1 := Lib.hid b1) | (go_at_call 47; (with_reducible refine (hsR _).mono ?_); rintro e w2 ⟨rfl, rfl⟩))
          go_roundw
          case rel => exact ⟨q, _, hqs, rfl, rfl, hst.out, bthen hB.out b1.out⟩
          case measure => (have := hq.out; simp [RowKit.intOf]; omega)
      · have U1 : ((r : Int) == 65533) = false := by simp; omega
        cases hsb : signB (r : Int) with
        | false =>
          have hp : refP r n (bs.drop k) = List.replicate n 63 := by unfold refP; rw [if_neg c60, if_neg c62, if_neg c38, if_neg c34, if_neg c39, if_neg c13, if_pos (.inr hsb)]
          rw [hp] at hcons
          have T60 : ((r : Int) == 60) = false := by simp; omega
          have T62 : ((r : Int) == 62) = false := by simp; omega
          have T38 : ((r : Int) == 38) = false := by simp; omega
          have T34 : ((r : Int) == 34) = false := by simp; omega
          have T39 : ((r : Int) == 39) = false := by simp; omega
          have T13 : ((r : Int) == 13) = false := by simp; omega
          have hst := fun o' h => step_of (n := n) ho.out hcons o' h
          clear c60 c62 c38 c34 c39 c13 hp hcons hne
          replace hst := Lib.hid hst
          replace hr := Lib.hid hr
          generalize signB (r : Int) = B at *
          generalize (r : Int) = X at *
          go_wp2_with (first
            | (go_at_call 65; (with_reducible refine hd.mono ?_); rintro e w1 ⟨rfl, b1⟩; replace b1 := Lib.hid b1) | (go_at_call 47; (with_reducible refine (hsR _).mono ?_); rintro e w2 ⟨rfl, rfl⟩))
          go_loopw [3, 7] (fun s3 s7 wr2 => ∃ (j : Nat) (o2 : ByteArray), j ≤ n ∧ s7 = .int .i64 j ∧ s3 = .string o2 ∧ o2.data.toList = o.data.toList ++ List.replicate j 63 ∧ Below w.heap.size w wr2) (fun _ s7 _ => n - (RowKit.intOf s7).toNat)
          case atStart => exact ⟨0, o, Nat.zero_le _, rfl, rfl, by simp, bthen hB.out b1.out⟩
          case round =>
            obtain ⟨j, o2, hj, rfl, rfl, ho2, hB2⟩ := hrel
            have ho2s : o2.size = o.size + j := by
              have h1 := congrArg List.length ho2
              rw [List.length_append, List.length_replicate] at h1
              have h4 : o.data.toList.length = o.size := Array.length_toList
              have h5 : o2.data.toList.length = o2.size := Array.length_toList
              omega
            replace hB2 := Lib.hid hB2
            replace ho2 := Lib.hid ho2
            by_cases hjn : j < n
            · go_wp2
              go_roundw
              case rel => exact ⟨j + 1, _, by omega, by go_num, rfl, by rw [bytes_app, ho2.out, List.replicate_succ', List.append_assoc], hB2.out⟩
              case measure => simp [RowKit.intOf]; omega
            · obtain rfl : j = n := by omega
              go_wp2
              go_roundw
              case rel => exact ⟨k + j, _, by omega, by go_num, rfl, hst.out _ ho2.out, hB2.out⟩
              case measure => simp [RowKit.intOf]; omega
        | true =>
          have hp : refP r n (bs.drop k) = (bs.drop k).take n := by unfold refP; rw [if_neg c60, if_neg c62, if_neg c38, if_neg c34, if_neg c39, if_neg c13, if_neg (by rw [hsb]; simp; omega)]
          rw [hp] at hcons
          have T60 : ((r : Int) == 60) = false := by simp; omega
          have T62 : ((r : Int) == 62) = false := by simp; omega
          have T38 : ((r : Int) == 38) = false := by simp; omega
          have T34 : ((r : Int) == 34) = false := by simp; omega
          have T39 : ((r : Int) == 39) = false := by simp; omega
          have T13 : ((r : Int) == 13) = false := by simp; omega
          have hst := step_of (n := n) ho.out hcons (o ++ S.extract k (k + n)) (by rw [bytes_app, bytes_cut, ← hbs.out, List.drop_take, Nat.add_sub_cancel_left])
          have hxs : (S.extract k (k + n)).size = n := by rw [ByteArray.size_extract]; omega
          have hkn : k + n ≤ S.size := by omega
          obtain ⟨q, hq⟩ : ∃ q, q = k + n := ⟨_, rfl⟩
          have hqi : (k : Int) + (n : Int) = (q : Int) := by omega
          have hkq : k ≤ q := by omega
          have hqs : q ≤ S.size := by omega
          rw [← hq] at hst hxs hkn
          replace hq := Lib.hid hq
          clear c60 c62 c38 c34 c39 c13 hp hcons hne
          replace hst := Lib.hid hst
          replace hr := Lib.hid hr
          replace hxs := Lib.hid hxs
          generalize signB (r : Int) = B at *
          generalize (r : Int) = X at *
          go_wp2_with (first
            | (go_at_call 65; (with_reducible refine hd.mono ?_); rintro e w1 ⟨rfl, b1⟩; replace b1 := Lib.hid b1) | (go_at_call 47; (with_reducible refine (hsR _).mono ?_); rintro e w2 ⟨rfl, rfl⟩))
          go_roundw
          case rel => exact ⟨q, _, hqs, rfl, rfl, hst.out, bthen hB.out b1.out⟩
          case measure => (have := hq.out; simp [RowKit.intOf]; omega)
    · obtain rfl : k = S.size := by omega
      have hd : bs.drop S.size = [] := by rw [← hlen.out]; exact List.drop_length
      rw [hd, escS_nil, List.append_nil] at ho
      have hr : Value.string o = str (escS bs) := by
        have : o = ⟨(escS bs).toArray⟩ := bytes_ext (by rw [ho])
        rw [this]; rfl
      replace ho := Lib.hid ho
      replace hB := Lib.hid hB
      replace hr := Lib.hid hr
      go_wp2
      go_ret
      exact ⟨congrArg Ending.returned hr.out, hB.out⟩
end Go.Proofs.YtkpikpaepgknnaaGreatDoor

/- What may stand in a space, in a language, in a name: by the program and by the document. No condition. -/
namespace Go.Xw
def spaceB (c : UInt8) : Bool := decide (33 ≤ c.toNat) && decide (c.toNat ≤ 126) && decide (Go.Lib.indexByte [60, 62, 38, 34, 39] c < 0)
def langB (c : UInt8) : Bool := (decide (97 ≤ c.toNat) && decide (c.toNat ≤ 122)) || (decide (65 ≤ c.toNat) && decide (c.toNat ≤ 90)) || (decide (48 ≤ c.toNat) && decide (c.toNat ≤ 57)) || c == 45
/-- is it a name? -/
def nameB : List UInt8 → Bool
  | [] => false
  | c :: r => Go.Xe.beginsB c && (c :: r).all Go.Xe.goesB
end Go.Xw
namespace Go.Proofs.YtkpikpaepgknnaaGreatDoor
open Go Go.RowKit Go.Wk Go.Xt Go.Xe Go.Xw
def spaceI (x : Int) : Bool := decide (33 ≤ x) && decide (x ≤ 126) && decide (Lib.indexByte [60, 62, 38, 34, 39] x.toNat.toUInt8 < 0)
def langI (x : Int) : Bool := (decide (97 ≤ x) && decide (x ≤ 122)) || (decide (65 ≤ x) && decide (x ≤ 90)) || (decide (48 ≤ x) && decide (x ≤ 57)) || (x == 45)
theorem space_u8 (c : UInt8) : spaceI (c.toNat : Int) = spaceB c := by
  unfold spaceI spaceB
  rw [← cast_le, ← cast_le]; simp
theorem lang_u8 (c : UInt8) : langI (c.toNat : Int) = langB c := by
  unfold langI langB
  rw [u8_eq c 45, ← cast_le, ← cast_le, ← cast_le, ← cast_le, ← cast_le, ← cast_le]; rfl
set_option maxHeartbeats 1000000 in
set_option maxRecDepth 100000 in
theorem xmp_inSpace {w : World} (x : Int) : Calls Tryz.prog 51 #[.int .u8 x] w fun e w' => e = .returned (.bool (spaceI x)) ∧ w = w' := by
  have ci := fun w => Tryz.strings_IndexByte ⟨#[60, 62, 38, 34, 39]⟩ x w
  have h : spaceI x = (decide (33 ≤ x) && decide (x ≤ 126) && decide (Lib.indexByte [60, 62, 38, 34, 39] x.toNat.toUInt8 < 0)) := rfl
  simp only at ci
  generalize Lib.indexByte [60, 62, 38, 34, 39] x.toNat.toUInt8 = j at h ci
  replace h := Lib.hid h
  generalize spaceI x = B at *
  go_enter Tryz.func51, Tryz.ntmps51
  go_wp2_with (go_at_call 80; (with_reducible refine (ci _).mono ?_); rintro e w1 ⟨rfl, rfl⟩)
  all_goals go_ret
  all_goals (refine ⟨congrArg (fun b => Ending.returned (.bool b)) ?_, rfl⟩; rw [h.out, Bool.eq_iff_iff]; first | (simp; done) | (simp; omega))
set_option maxHeartbeats 1000000 in
set_option maxRecDepth 100000 in
theorem xmp_inLang {w : World} (x : Int) : Calls Tryz.prog 85 #[.int .u8 x] w fun e w' => e = .returned (.bool (langI x)) ∧ w = w' := by
  have h : langI x = ((decide (97 ≤ x) && decide (x ≤ 122)) || (decide (65 ≤ x) && decide (x ≤ 90)) || (decide (48 ≤ x) && decide (x ≤ 57)) || (x == 45)) := rfl
  replace h := Lib.hid h
  generalize langI x = B at *
  go_enter Tryz.func85, Tryz.ntmps85
  go_wp2
  all_goals go_ret
  all_goals (refine ⟨congrArg (fun b => Ending.returned (.bool b)) ?_, rfl⟩; rw [h.out, Bool.eq_iff_iff]; first | (simp; done) | (simp; omega))
/-- a text, byte by byte -/
theorem all_step {f : UInt8 → Bool} {l : List UInt8} {i : Nat} (h : i < l.length) : (l.drop i).all f = (f l[i] && (l.drop (i + 1)).all f) := by
  rw [List.drop_eq_getElem_cons h, List.all_cons]
theorem get_at {S : ByteArray} {l : List UInt8} (hl : l = S.data.toList) {i : Nat} (h : i < S.size) (h' : i < l.length) : S[i] = l[i] := by
  subst hl; rfl
end Go.Proofs.YtkpikpaepgknnaaGreatDoor

/- A text that has none but some bytes. No condition. -/
namespace Go.Proofs.YtkpikpaepgknnaaGreatDoor
open Go Go.RowKit Go.Wk Go.Xt Go.Xe Go.Xw
set_option maxHeartbeats 2000000 in
set_option maxRecDepth 100000 in
theorem xmp_plain_space {w : World} (S : ByteArray) (hS : S.size ≤ 100000) : Calls Tryz.prog 50 #[.string S, .func (.func 51) #[] #[]] w fun e w' => e = .returned (.bool (S.data.toList.all spaceB)) ∧ Below w.heap.size w w' := by
  obtain ⟨bs, hbs⟩ : ∃ bs, bs = S.data.toList := ⟨_, rfl⟩
  have hlen : bs.length = S.size := by rw [hbs]; exact Array.length_toList
  have cf := fun (w : World) (x : Int) => xmp_inSpace (w := w) x
  rw [← hbs]
  obtain ⟨B, hB⟩ : ∃ B, B = bs.all spaceB := ⟨_, rfl⟩
  rw [← hB]
  replace hB := Lib.hid hB
  replace hbs := Lib.hid hbs
  replace hlen := Lib.hid hlen
  go_enter Tryz.func50, Tryz.ntmps50
  go_wp2
  go_loopw [8] (fun s8 wr => ∃ k : Nat, k ≤ S.size ∧ s8 = .int .i64 k ∧ (bs.drop k).all spaceB = B ∧ Below w.heap.size w wr) (fun s8 _ => S.size - (RowKit.intOf s8).toNat)
  case atStart => exact ⟨0, Nat.zero_le _, rfl, by rw [List.drop_zero]; exact hB.out.symm, Below.refl _ _⟩
  case round =>
    obtain ⟨k, hk, rfl, ha, hb⟩ := hrel
    by_cases hkm : k < S.size
    · have hl : k < bs.length := by rw [hlen.out]; exact hkm
      rw [all_step hl] at ha
      have hx := get_at hbs.out hkm hl
      obtain ⟨c, hc⟩ : ∃ c, c = bs[k] := ⟨_, rfl⟩
      rw [← hc] at ha hx
      have cf2 := cf wr (S[k]).toNat
      rw [hx, space_u8 c, ← hx] at cf2
      replace hb := Lib.hid hb
      replace hc := Lib.hid hc
      replace hx := Lib.hid hx
      cases hv : spaceB c with
      | true =>
        rw [show spaceB S[k] = true from by rw [hx.out]; exact hv] at cf2
        rw [hv] at ha
        rw [Bool.true_and] at ha
        replace ha := Lib.hid ha
        replace hv := Lib.hid hv
        clear cf
        go_wp2_with (go_at_call 51; (with_reducible refine cf2.mono ?_); rintro e w1 ⟨rfl, rfl⟩)
        go_roundw
        case rel => exact ⟨k + 1, by omega, by go_num, ha.out, hb.out⟩
        case measure => simp [RowKit.intOf]; omega
      | false =>
        rw [show spaceB S[k] = false from by rw [hx.out]; exact hv] at cf2
        rw [hv] at ha
        rw [Bool.false_and] at ha
        replace ha := Lib.hid ha
        replace hv := Lib.hid hv
        clear cf
        go_wp2_with (go_at_call 51; (with_reducible refine cf2.mono ?_); rintro e w1 ⟨rfl, rfl⟩)
        go_ret
        exact ⟨congrArg (fun b => Ending.returned (.bool b)) ha.out, hb.out⟩
    · have hd : bs.drop k = [] := List.drop_eq_nil_of_le (by rw [hlen.out]; omega)
      rw [hd] at ha
      replace ha := Lib.hid ha
      replace hb := Lib.hid hb
      clear cf
      go_wp2
      go_ret
      exact ⟨congrArg (fun b => Ending.returned (.bool b)) ha.out, hb.out⟩
set_option maxHeartbeats 2000000 in
set_option maxRecDepth 100000 in
theorem xmp_plain_lang {w : World} (S : ByteArray) (hS : S.size ≤ 100000) : Calls Tryz.prog 50 #[.string S, .func (.func 85) #[] #[]] w fun e w' => e = .returned (.bool (S.data.toList.all langB)) ∧ Below w.heap.size w w' := by
  obtain ⟨bs, hbs⟩ : ∃ bs, bs = S.data.toList := ⟨_, rfl⟩
  have hlen : bs.length = S.size := by rw [hbs]; exact Array.length_toList
  have cf := fun (w : World) (x : Int) => xmp_inLang (w := w) x
  rw [← hbs]
  obtain ⟨B, hB⟩ : ∃ B, B = bs.all langB := ⟨_, rfl⟩
  rw [← hB]
  replace hB := Lib.hid hB
  replace hbs := Lib.hid hbs
  replace hlen := Lib.hid hlen
  go_enter Tryz.func50, Tryz.ntmps50
  go_wp2
  go_loopw [8] (fun s8 wr => ∃ k : Nat, k ≤ S.size ∧ s8 = .int .i64 k ∧ (bs.drop k).all langB = B ∧ Below w.heap.size w wr) (fun s8 _ => S.size - (RowKit.intOf s8).toNat)
  case atStart => exact ⟨0, Nat.zero_le _, rfl, by rw [List.drop_zero]; exact hB.out.symm, Below.refl _ _⟩
  case round =>
    obtain ⟨k, hk, rfl, ha, hb⟩ := hrel
    by_cases hkm : k < S.size
    · have hl : k < bs.length := by rw [hlen.out]; exact hkm
      rw [all_step hl] at ha
      have hx := get_at hbs.out hkm hl
      obtain ⟨c, hc⟩ : ∃ c, c = bs[k] := ⟨_, rfl⟩
      rw [← hc] at ha hx
      have cf2 := cf wr (S[k]).toNat
      rw [hx, lang_u8 c, ← hx] at cf2
      replace hb := Lib.hid hb
      replace hc := Lib.hid hc
      replace hx := Lib.hid hx
      cases hv : langB c with
      | true =>
        rw [show langB S[k] = true from by rw [hx.out]; exact hv] at cf2
        rw [hv] at ha
        rw [Bool.true_and] at ha
        replace ha := Lib.hid ha
        replace hv := Lib.hid hv
        clear cf
        go_wp2_with (go_at_call 85; (with_reducible refine cf2.mono ?_); rintro e w1 ⟨rfl, rfl⟩)
        go_roundw
        case rel => exact ⟨k + 1, by omega, by go_num, ha.out, hb.out⟩
        case measure => simp [RowKit.intOf]; omega
      | false =>
        rw [show langB S[k] = false from by rw [hx.out]; exact hv] at cf2
        rw [hv] at ha
        rw [Bool.false_and] at ha
        replace ha := Lib.hid ha
        replace hv := Lib.hid hv
        clear cf
        go_wp2_with (go_at_call 85; (with_reducible refine cf2.mono ?_); rintro e w1 ⟨rfl, rfl⟩)
        go_ret
        exact ⟨congrArg (fun b => Ending.returned (.bool b)) ha.out, hb.out⟩
    · have hd : bs.drop k = [] := List.drop_eq_nil_of_le (by rw [hlen.out]; omega)
      rw [hd] at ha
      replace ha := Lib.hid ha
      replace hb := Lib.hid hb
      clear cf
      go_wp2
      go_ret
      exact ⟨congrArg (fun b => Ending.returned (.bool b)) ha.out, hb.out⟩
end Go.Proofs.YtkpikpaepgknnaaGreatDoor

/- Names, spaces, languages: the document's own, and the program's names. No condition. -/
namespace Go.Proofs.YtkpikpaepgknnaaGreatDoor
open Go Go.RowKit Go.Wk Go.Xt Go.Xe Go.Xw
set_option maxHeartbeats 1000000 in
set_option maxRecDepth 100000 in
theorem ref_nameByte {w : World} (x : Int) (first : Bool) : Calls Tryz.prog 91 #[.int .i64 x, .bool first] w fun e w' => e = .returned (.bool (if first then beginsI x else goesI x)) ∧ w = w' := by
  have hVV : beginsI x = ((decide (97 ≤ x) && decide (x ≤ 122)) || (decide (65 ≤ x) && decide (x ≤ 90)) || (x == 95) || decide (128 ≤ x)) := rfl
  have hGG : goesI x = (beginsI x || (decide (48 ≤ x) && decide (x ≤ 57)) || (x == 45) || (x == 46)) := rfl
  replace hVV := Lib.hid hVV
  replace hGG := Lib.hid hGG
  generalize goesI x = G at *
  generalize beginsI x = V at *
  cases first
  all_goals
    go_enter Tryz.func91, Tryz.ntmps91
    go_wp2
    all_goals go_ret
    all_goals (refine ⟨congrArg (fun b => Ending.returned (.bool b)) ?_, rfl⟩; (try simp only [if_true, if_false, Bool.false_eq_true]); (try rw [hGG.out]); rw [hVV.out, Bool.eq_iff_iff]; first | (simp; done) | (simp; omega) | (rename_i hh; simp at hh; simp; omega) | (rename_i hh; simp at hh; done) | (simp_all; done) | (simp_all; omega) | (rename_i h1 h2 h3; simp at h1 h2 h3; simp; omega))
theorem nameB_0 {bs : List UInt8} (h : 0 < bs.length) : nameB bs = (beginsB bs[0] && (goesB bs[0] && (bs.drop 1).all goesB)) := by
  cases bs with
  | nil => simp at h
  | cons c r => simp [nameB]
/-- what is still to be looked at -/
def nameAt (bs : List UInt8) (k : Nat) : Bool := if k = 0 then nameB bs else (bs.drop k).all goesB
theorem nameAt_step {bs : List UInt8} {k : Nat} (h : k < bs.length) : nameAt bs k = ((if k = 0 then beginsB bs[k] else true) && (goesB bs[k] && nameAt bs (k + 1))) := by
  unfold nameAt
  by_cases h0 : k = 0
  · subst h0
    simp only [if_true]
    rw [nameB_0 h]; rfl
  · rw [if_neg h0, if_neg h0, if_neg (by omega), all_step h]; rfl
theorem nameAt_end {bs : List UInt8} {k : Nat} (h : bs.length ≤ k) : nameAt bs k = decide (0 < k) := by
  unfold nameAt
  by_cases h0 : k = 0
  · subst h0
    have : bs = [] := List.eq_nil_of_length_eq_zero (by omega)
    subst this; rfl
  · rw [if_neg h0, List.drop_eq_nil_of_le h, decide_eq_true (by omega)]; rfl
theorem begins_goes {x : Int} (h : beginsI x = true) : goesI x = true := by unfold goesI; rw [h]; rfl
theorem space_lit (c : UInt8) : spaceB c = true ↔ (33 ≤ (c.toNat : Int) ∧ (c.toNat : Int) ≤ 126 ∧ (c.toNat : Int) ≠ 60 ∧ (c.toNat : Int) ≠ 62 ∧ (c.toNat : Int) ≠ 38 ∧ (c.toNat : Int) ≠ 34 ∧ (c.toNat : Int) ≠ 39) := by
  have h : ∀ c : Fin 256, spaceB (UInt8.ofNat c.val) = true ↔ (33 ≤ (c.val : Int) ∧ (c.val : Int) ≤ 126 ∧ (c.val : Int) ≠ 60 ∧ (c.val : Int) ≠ 62 ∧ (c.val : Int) ≠ 38 ∧ (c.val : Int) ≠ 34 ∧ (c.val : Int) ≠ 39) := by decide +kernel
  have := h ⟨c.toNat, c.toNat_lt⟩
  simpa using this
theorem lang_lit (c : UInt8) : langB c = true ↔ ((97 ≤ (c.toNat : Int) ∧ (c.toNat : Int) ≤ 122) ∨ (65 ≤ (c.toNat : Int) ∧ (c.toNat : Int) ≤ 90) ∨ (48 ≤ (c.toNat : Int) ∧ (c.toNat : Int) ≤ 57) ∨ (c.toNat : Int) = 45) := by
  rw [← lang_u8]; unfold langI; simp; omega
theorem ne_empty (S : ByteArray) : (!S.toList.isEmpty) = decide (0 < S.size) := by
  rw [ByteArray.toList_eq]
  have h : S.data.toList.length = S.size := Array.length_toList
  cases hl : S.data.toList with
  | nil => rw [hl] at h; rw [← h]; rfl
  | cons x r => rw [hl] at h; rw [← h]; rfl
def rdfL : List UInt8 := [104, 116, 116, 112, 58, 47, 47, 119, 119, 119, 46, 119, 51, 46, 111, 114, 103, 47, 49, 57, 57, 57, 47, 48, 50, 47, 50, 50, 45, 114, 100, 102, 45, 115, 121, 110, 116, 97, 120, 45, 110, 115, 35]
set_option maxHeartbeats 2000000 in
set_option maxRecDepth 100000 in
theorem xml_IsName {w : World} (S : ByteArray) (hS : S.size ≤ 100000) : Calls Tryz.prog 52 #[.string S] w fun e w' => e = .returned (.bool (nameB S.data.toList)) ∧ Below w.heap.size w w' := by
  obtain ⟨bs, hbs⟩ : ∃ bs, bs = S.data.toList := ⟨_, rfl⟩
  have hlen : bs.length = S.size := by rw [hbs]; exact Array.length_toList
  have cg := fun (w : World) (x : Int) => xml_goes (w := w) x
  have cb := fun (w : World) (x : Int) => xml_begins (w := w) x
  rw [← hbs]
  obtain ⟨B, hB⟩ : ∃ B, B = nameB bs := ⟨_, rfl⟩
  rw [← hB]
  replace hB := Lib.hid hB
  replace hbs := Lib.hid hbs
  replace hlen := Lib.hid hlen
  go_enter Tryz.func52, Tryz.ntmps52
  go_wp2
  go_loopw [7] (fun s7 wr => ∃ k : Nat, k ≤ S.size ∧ s7 = .int .i64 k ∧ nameAt bs k = B ∧ Below w.heap.size w wr) (fun s7 _ => S.size - (RowKit.intOf s7).toNat)
  case atStart => exact ⟨0, Nat.zero_le _, rfl, by rw [hB.out]; rfl, Below.refl _ _⟩
  case round =>
    obtain ⟨k, hk, rfl, ha, hb⟩ := hrel
    by_cases hkm : k < S.size
    · have hl : k < bs.length := by rw [hlen.out]; exact hkm
      rw [nameAt_step hl] at ha
      have hx := get_at hbs.out hkm hl
      have hxw : wrap64 ((S[k]).toNat : Int) = ((S[k]).toNat : Int) := by have := u8_lt (S[k]); unfold wrap64; omega
      have cg2 := cg wr (S[k]).toNat
      have cb2 := cb wr (S[k]).toNat
      have eg : goesI ((S[k]).toNat : Int) = goesB bs[k] := by rw [goes_u8, hx]
      have eb : beginsI ((S[k]).toNat : Int) = beginsB bs[k] := by rw [begins_u8, hx]
      rw [eg] at cg2
      rw [eb] at cb2
      generalize goesB bs[k] = G at ha cg2
      generalize beginsB bs[k] = V at ha cb2
      clear eg eb cg cb hx
      replace hb := Lib.hid hb
      cases G with
      | false =>
        have ha2 : false = B := by rw [← ha]; simp
        replace ha := Lib.hid ha2
        clear ha2 cb2
        go_wp2_with (go_at_call 81; (with_reducible refine cg2.mono ?_); rintro e w1 ⟨rfl, rfl⟩)
        go_ret
        exact ⟨congrArg (fun b => Ending.returned (.bool b)) ha.out, hb.out⟩
      | true =>
        by_cases h0 : k = 0
        · subst h0
          simp only [if_true] at ha
          cases V with
          | false =>
            have ha2 : false = B := by rw [← ha]; rfl
            replace ha := Lib.hid ha2
            clear ha2
            go_wp2_with (first
              | (go_at_call 81; (with_reducible refine cg2.mono ?_); rintro e w1 ⟨rfl, rfl⟩)
              | (go_at_call 82; (with_reducible refine cb2.mono ?_); rintro e w1 ⟨rfl, rfl⟩))
            go_ret
            exact ⟨congrArg (fun b => Ending.returned (.bool b)) ha.out, hb.out⟩
          | true =>
            have ha2 : nameAt bs 1 = B := by rw [← ha]; rfl
            replace ha := Lib.hid ha2
            clear ha2
            go_wp2_with (first
              | (go_at_call 81; (with_reducible refine cg2.mono ?_); rintro e w1 ⟨rfl, rfl⟩)
              | (go_at_call 82; (with_reducible refine cb2.mono ?_); rintro e w1 ⟨rfl, rfl⟩))
            go_roundw
            case rel => exact ⟨1, by omega, by go_num, ha.out, hb.out⟩
            case measure => simp [RowKit.intOf]; omega
        · have ha2 : nameAt bs (k + 1) = B := by rw [← ha, if_neg h0]; rfl
          replace ha := Lib.hid ha2
          have h1 : ((k : Nat) : Int) ≠ 0 := by omega
          clear ha2 cb2
          go_wp2_with (go_at_call 81; (with_reducible refine cg2.mono ?_); rintro e w1 ⟨rfl, rfl⟩)
          go_roundw
          case rel => exact ⟨k + 1, by omega, by go_num, ha.out, hb.out⟩
          case measure => simp [RowKit.intOf]; omega
    · rw [nameAt_end (by rw [hlen.out]; omega)] at ha
      have hk2 : k = S.size := by omega
      replace ha := Lib.hid ha
      replace hb := Lib.hid hb
      clear cg cb
      have hne : (!S.toList.isEmpty) = decide (0 < k) := by rw [hk2]; exact ne_empty S
      replace hne := Lib.hid hne
      replace hk2 := Lib.hid hk2
      go_wp2
      go_ret
      exact ⟨congrArg (fun b => Ending.returned (.bool b)) (by rw [← ha.out, ← hne.out]), hb.out⟩
set_option maxHeartbeats 2000000 in
set_option maxRecDepth 100000 in
theorem ref_IsName {w : World} (S : ByteArray) (hS : S.size ≤ 100000) : Calls Tryz.prog 62 #[.string S] w fun e w' => e = .returned (.bool (nameB S.data.toList)) ∧ Below w.heap.size w w' := by
  obtain ⟨bs, hbs⟩ : ∃ bs, bs = S.data.toList := ⟨_, rfl⟩
  have hlen : bs.length = S.size := by rw [hbs]; exact Array.length_toList
  have cn := fun (w : World) (x : Int) (f : Bool) => ref_nameByte (w := w) x f
  rw [← hbs]
  obtain ⟨B, hB⟩ : ∃ B, B = nameB bs := ⟨_, rfl⟩
  rw [← hB]
  replace hB := Lib.hid hB
  replace hbs := Lib.hid hbs
  replace hlen := Lib.hid hlen
  go_enter Tryz.func62, Tryz.ntmps62
  go_wp2
  go_loopw [3] (fun s3 wr => ∃ k : Nat, k ≤ S.size ∧ s3 = .int .i64 k ∧ nameAt bs k = B ∧ Below w.heap.size w wr) (fun s3 _ => S.size - (RowKit.intOf s3).toNat)
  case atStart => exact ⟨0, Nat.zero_le _, rfl, by rw [hB.out]; rfl, Below.refl _ _⟩
  case round =>
    obtain ⟨k, hk, rfl, ha, hb⟩ := hrel
    by_cases hkm : k < S.size
    · have hl : k < bs.length := by rw [hlen.out]; exact hkm
      rw [nameAt_step hl] at ha
      have hx := get_at hbs.out hkm hl
      have hxw : wrap64 ((S[k]).toNat : Int) = ((S[k]).toNat : Int) := by have := u8_lt (S[k]); unfold wrap64; omega
      have eg : goesI ((S[k]).toNat : Int) = goesB bs[k] := by rw [goes_u8, hx]
      have eb : beginsI ((S[k]).toNat : Int) = beginsB bs[k] := by rw [begins_u8, hx]
      have egb : beginsB bs[k] = true → goesB bs[k] = true := fun h => by rw [← eg]; rw [← eb] at h; exact begins_goes h
      have cn2 := cn wr (S[k]).toNat ((k : Int) == 0)
      rw [eg, eb] at cn2
      replace hb := Lib.hid hb
      generalize goesB bs[k] = G at ha cn2 egb
      generalize beginsB bs[k] = V at ha cn2 egb
      clear eg eb cn hx
      by_cases h0 : k = 0
      · subst h0
        simp only [if_true] at ha
        have cn3 : Calls Tryz.prog 91 #[.int .i64 ((S[0]).toNat : Int), .bool true] wr fun e w' => e = .returned (.bool V) ∧ wr = w' := cn2
        clear cn2
        cases V with
        | false =>
          have ha2 : false = B := by rw [← ha]; rfl
          replace ha := Lib.hid ha2
          clear ha2 egb
          go_wp2_with (go_at_call 91; (with_reducible refine cn3.mono ?_); rintro e w1 ⟨rfl, rfl⟩)
          go_ret
          exact ⟨congrArg (fun b => Ending.returned (.bool b)) ha.out, hb.out⟩
        | true =>
          have ha2 : nameAt bs 1 = B := by rw [← ha, egb rfl]; rfl
          replace ha := Lib.hid ha2
          clear ha2 egb
          go_wp2_with (go_at_call 91; (with_reducible refine cn3.mono ?_); rintro e w1 ⟨rfl, rfl⟩)
          go_roundw
          case rel => exact ⟨1, by omega, by go_num, ha.out, hb.out⟩
          case measure => simp [RowKit.intOf]; omega
      · have h1 : ((k : Nat) : Int) ≠ 0 := by omega
        rw [if_neg h0] at ha
        have h1b : ((k : Int) == 0) = false := by rw [beq_eq_false_iff_ne]; exact h1
        have cn3 : Calls Tryz.prog 91 #[.int .i64 ((S[k]).toNat : Int), .bool ((k : Int) == 0)] wr fun e w' => e = .returned (.bool G) ∧ wr = w' := by
          rw [h1b] at cn2 ⊢; exact cn2
        clear cn2 h1b
        cases G with
        | false =>
          have ha2 : false = B := by rw [← ha]; rfl
          replace ha := Lib.hid ha2
          clear ha2 egb
          go_wp2_with (go_at_call 91; (with_reducible refine cn3.mono ?_); rintro e w1 ⟨rfl, rfl⟩)
          go_ret
          exact ⟨congrArg (fun b => Ending.returned (.bool b)) ha.out, hb.out⟩
        | true =>
          have ha2 : nameAt bs (k + 1) = B := by rw [← ha]; rfl
          replace ha := Lib.hid ha2
          clear ha2 egb
          go_wp2_with (go_at_call 91; (with_reducible refine cn3.mono ?_); rintro e w1 ⟨rfl, rfl⟩)
          go_roundw
          case rel => exact ⟨k + 1, by omega, by go_num, ha.out, hb.out⟩
          case measure => simp [RowKit.intOf]; omega
    · rw [nameAt_end (by rw [hlen.out]; omega)] at ha
      have hk2 : k = S.size := by omega
      rw [hk2] at ha
      have ha2 : decide (0 < S.size) = B := ha
      replace ha := Lib.hid ha2
      replace hb := Lib.hid hb
      replace hk2 := Lib.hid hk2
      clear ha2 cn
      go_wp2
      go_ret
      exact ⟨congrArg (fun b => Ending.returned (.bool b)) ha.out, hb.out⟩
set_option maxHeartbeats 2000000 in
set_option maxRecDepth 100000 in
theorem ref_plainSpace {w : World} (S : ByteArray) (hS : S.size ≤ 100000) : Calls Tryz.prog 61 #[.string S] w fun e w' => e = .returned (.bool (S.data.toList.all spaceB && (!S.toList.isEmpty && !(S.toList == rdfL)))) ∧ Below w.heap.size w w' := by
  obtain ⟨bs, hbs⟩ : ∃ bs, bs = S.data.toList := ⟨_, rfl⟩
  have hlen : bs.length = S.size := by rw [hbs]; exact Array.length_toList
  obtain ⟨Z, hZ⟩ : ∃ Z, Z = (S.data.toList.all spaceB && (!S.toList.isEmpty && !(S.toList == rdfL))) := ⟨_, rfl⟩
  rw [← hZ]
  rw [← hbs] at hZ
  obtain ⟨B, hB⟩ : ∃ B, B = bs.all spaceB := ⟨_, rfl⟩
  rw [← hB] at hZ
  replace hB := Lib.hid hB
  replace hZ := Lib.hid hZ
  replace hbs := Lib.hid hbs
  replace hlen := Lib.hid hlen
  go_enter Tryz.func61, Tryz.ntmps61
  go_wp2
  go_loopw [3] (fun s3 wr => ∃ k : Nat, k ≤ S.size ∧ s3 = .int .i64 k ∧ (bs.drop k).all spaceB = B ∧ Below w.heap.size w wr) (fun s3 _ => S.size - (RowKit.intOf s3).toNat)
  case atStart => exact ⟨0, Nat.zero_le _, rfl, by rw [List.drop_zero]; exact hB.out.symm, Below.refl _ _⟩
  case round =>
    obtain ⟨k, hk, rfl, ha, hb⟩ := hrel
    by_cases hkm : k < S.size
    · have hl : k < bs.length := by rw [hlen.out]; exact hkm
      rw [all_step hl] at ha
      have hx := get_at hbs.out hkm hl
      have hxw : wrap64 ((S[k]).toNat : Int) = ((S[k]).toNat : Int) := by have := u8_lt (S[k]); unfold wrap64; omega
      obtain ⟨c, hc⟩ : ∃ c, c = bs[k] := ⟨_, rfl⟩
      rw [← hc] at ha hx
      have hlit := space_lit c
      replace hb := Lib.hid hb
      replace hc := Lib.hid hc
      replace hx := Lib.hid hx
      cases hv : spaceB c with
      | true =>
        rw [hv, Bool.true_and] at ha
        have hv2 := hlit.1 hv
        replace ha := Lib.hid ha
        clear hv hlit
        replace hv2 := Lib.hid hv2
        go_upto_region 5 with (fail)
        obtain ⟨x, hxx⟩ : ∃ x : Int, x = ((S[k]).toNat : Int) := ⟨_, rfl⟩
        have hy := hv2.out
        rw [← hx.out, ← hxx] at hy
        rw [← hxx]
        clear hxx
        obtain ⟨y1, y2, y3, y4, y5, y6, y7⟩ := hy
        have e1 : decide (x < 33) = false := decide_eq_false (by omega)
        have e2 : decide (126 < x) = false := decide_eq_false (by omega)
        have e3 : (x == 60) = false := beq_eq_false_iff_ne.2 y3
        have e4 : (x == 62) = false := beq_eq_false_iff_ne.2 y4
        have e5 : (x == 38) = false := beq_eq_false_iff_ne.2 y5
        have e6 : (x == 34) = false := beq_eq_false_iff_ne.2 y6
        have e7 : (x == 39) = false := beq_eq_false_iff_ne.2 y7
        clear y1 y2 y3 y4 y5 y6 y7
        go_wp2
        go_roundw
        case rel => exact ⟨k + 1, by omega, by go_num, ha.out, hb.out⟩
        case measure => simp [RowKit.intOf]; omega
      | false =>
        rw [hv, Bool.false_and] at ha
        have hv2 : ¬ (spaceB c = true) := by rw [hv]; decide
        rw [hlit] at hv2
        replace ha := Lib.hid ha
        clear hv hlit
        replace hv2 := Lib.hid hv2
        go_upto_region 5 with (fail)
        obtain ⟨x, hxx⟩ : ∃ x : Int, x = ((S[k]).toNat : Int) := ⟨_, rfl⟩
        have hy := hv2.out
        rw [← hx.out, ← hxx] at hy
        rw [← hxx]
        clear hxx
        replace hy := Lib.hid hy
        go_wp2
        all_goals first
          | (exfalso; have := hy.out; omega)
          | (exfalso; have := hy.out; rename_i hh; simp at hh; omega)
          | (exfalso; rename_i hh; simp at hh; done)
          | (exfalso; rename_i h1 h2 h3 h4; simp at h1 h2 h3 h4; have := hy.out; omega)
          | (go_ret; exact ⟨congrArg (fun b => Ending.returned (.bool b)) (by first | (rw [hZ.out, ← ha.out]; done) | (rw [hZ.out, ← ha.out]; simp)), hb.out⟩)
    · have hd : bs.drop k = [] := List.drop_eq_nil_of_le (by rw [hlen.out]; omega)
      rw [hd] at ha
      have ha2 : B = true := by rw [← ha]; rfl
      replace ha := Lib.hid ha2
      replace hb := Lib.hid hb
      clear ha2
      obtain ⟨n0, hn0⟩ : ∃ b, b = (!S.toList.isEmpty) := ⟨_, rfl⟩
      obtain ⟨n1, hn1⟩ : ∃ b, b = (!(S.toList == rdfL)) := ⟨_, rfl⟩
      have hz := hZ.out
      rw [ha.out, ← hn0, ← hn1, Bool.true_and] at hz
      replace hz := Lib.hid hz
      replace hn0 := Lib.hid hn0
      replace hn1 := Lib.hid hn1
      go_wp2
      all_goals go_ret
      all_goals (refine ⟨congrArg (fun b => Ending.returned (.bool b)) ?_, hb.out⟩; rw [hz.out, hn0.out, hn1.out]; simp_all [rdfL])
set_option maxHeartbeats 2000000 in
set_option maxRecDepth 100000 in
theorem ref_plainLang {w : World} (S : ByteArray) (hS : S.size ≤ 100000) : Calls Tryz.prog 64 #[.string S] w fun e w' => e = .returned (.bool (S.data.toList.all langB)) ∧ Below w.heap.size w w' := by
  obtain ⟨bs, hbs⟩ : ∃ bs, bs = S.data.toList := ⟨_, rfl⟩
  have hlen : bs.length = S.size := by rw [hbs]; exact Array.length_toList
  obtain ⟨Z, hZ⟩ : ∃ Z, Z = (S.data.toList.all langB) := ⟨_, rfl⟩
  rw [← hZ]
  rw [← hbs] at hZ
  obtain ⟨B, hB⟩ : ∃ B, B = bs.all langB := ⟨_, rfl⟩
  rw [← hB] at hZ
  replace hB := Lib.hid hB
  replace hZ := Lib.hid hZ
  replace hbs := Lib.hid hbs
  replace hlen := Lib.hid hlen
  go_enter Tryz.func64, Tryz.ntmps64
  go_wp2
  go_loopw [3] (fun s3 wr => ∃ k : Nat, k ≤ S.size ∧ s3 = .int .i64 k ∧ (bs.drop k).all langB = B ∧ Below w.heap.size w wr) (fun s3 _ => S.size - (RowKit.intOf s3).toNat)
  case atStart => exact ⟨0, Nat.zero_le _, rfl, by rw [List.drop_zero]; exact hB.out.symm, Below.refl _ _⟩
  case round =>
    obtain ⟨k, hk, rfl, ha, hb⟩ := hrel
    by_cases hkm : k < S.size
    · have hl : k < bs.length := by rw [hlen.out]; exact hkm
      rw [all_step hl] at ha
      have hx := get_at hbs.out hkm hl
      have hxw : wrap64 ((S[k]).toNat : Int) = ((S[k]).toNat : Int) := by have := u8_lt (S[k]); unfold wrap64; omega
      obtain ⟨c, hc⟩ : ∃ c, c = bs[k] := ⟨_, rfl⟩
      rw [← hc] at ha hx
      have hlit := lang_lit c
      replace hb := Lib.hid hb
      replace hc := Lib.hid hc
      replace hx := Lib.hid hx
      cases hv : langB c with
      | true =>
        rw [hv, Bool.true_and] at ha
        have hv2 := hlit.1 hv
        replace ha := Lib.hid ha
        clear hv hlit
        replace hv2 := Lib.hid hv2
        go_upto_region 5 with (fail)
        obtain ⟨x, hxx⟩ : ∃ x : Int, x = ((S[k]).toNat : Int) := ⟨_, rfl⟩
        have hy := hv2.out
        rw [← hx.out, ← hxx] at hy
        rw [← hxx]
        clear hxx
        replace hy := Lib.hid hy
        go_wp2
        all_goals first
          | (exfalso; have := hy.out; omega)
          | (exfalso; have := hy.out; rename_i hh; simp at hh; omega)
          | (exfalso; rename_i hh; simp at hh; done)
          | (exfalso; rename_i h1 h2 h3 h4; simp at h1 h2 h3 h4; have := hy.out; omega)
          | (go_roundw
             case rel => exact ⟨k + 1, by omega, by go_num, ha.out, hb.out⟩
             case measure => simp [RowKit.intOf]; omega)
      | false =>
        rw [hv, Bool.false_and] at ha
        have hv2 : ¬ (langB c = true) := by rw [hv]; decide
        rw [hlit] at hv2
        replace ha := Lib.hid ha
        clear hv hlit
        replace hv2 := Lib.hid hv2
        go_upto_region 5 with (fail)
        obtain ⟨x, hxx⟩ : ∃ x : Int, x = ((S[k]).toNat : Int) := ⟨_, rfl⟩
        have hy := hv2.out
        rw [← hx.out, ← hxx] at hy
        rw [← hxx]
        clear hxx
        replace hy := Lib.hid hy
        go_wp2
        all_goals first
          | (exfalso; have := hy.out; omega)
          | (exfalso; have := hy.out; rename_i hh; simp at hh; omega)
          | (exfalso; rename_i hh; simp at hh; done)
          | (exfalso; rename_i h1 h2 h3 h4; simp at h1 h2 h3 h4; have := hy.out; omega)
          | (go_ret; exact ⟨congrArg (fun b => Ending.returned (.bool b)) (by first | (rw [hZ.out, ← ha.out]; done) | (rw [hZ.out, ← ha.out]; simp)), hb.out⟩)
    · have hd : bs.drop k = [] := List.drop_eq_nil_of_le (by rw [hlen.out]; omega)
      rw [hd] at ha
      have ha2 : B = true := by rw [← ha]; rfl
      replace ha := Lib.hid ha2
      replace hb := Lib.hid hb
      clear ha2
      go_wp2
      go_ret
      exact ⟨congrArg (fun b => Ending.returned (.bool b)) (by rw [hZ.out, ha.out]), hb.out⟩
end Go.Proofs.YtkpikpaepgknnaaGreatDoor

/- The document's own Signs. No condition. -/
namespace Go.Proofs.YtkpikpaepgknnaaGreatDoor
open Go Go.RowKit Go.Wk Go.Xt Go.Xe Go.Xw
theorem ok_dec (l : List UInt8) (h : l ≠ []) : nextOk l = (signB ((Lib.decodeL l).1 : Int) && (decide ((Lib.decodeL l).1 ≠ 65533) || decide (1 < (Lib.decodeL l).2))) := by
  obtain ⟨x, t, rfl⟩ : ∃ x t, l = x :: t := by cases l with | nil => exact absurd rfl h | cons x t => exact ⟨x, t, rfl⟩
  obtain ⟨h1, h2, h3⟩ := dec_ok x t
  unfold nextOk
  rw [signV_dec _ h1 h2]
set_option maxHeartbeats 4000000 in
set_option maxRecDepth 100000 in
theorem ref_Signs {w : World} {A : Option Addr} {bs : List UInt8} (c : Nat) (hb : Byt w A bs) (hc : bs.length ≤ c) (hl : bs.length ≤ 100000) (hT : Lib.Utf8Tabs 0 1 w) (h2 : 2 ≤ w.heap.size) :
    Calls Tryz.prog 63 #[.slice A bs.length c] w fun e w' => e = .returned (.bool (signsB bs)) ∧ Below w.heap.size w w' := by
  obtain ⟨m, hm⟩ : ∃ m, m = bs.length := ⟨_, rfl⟩
  obtain ⟨B, hB⟩ : ∃ B, B = signsB bs := ⟨_, rfl⟩
  have hsg := fun (w : World) (x : Int) => ref_sign (w := w) x
  rw [← hm, ← hB]
  rw [← hm] at hc hl
  replace hm := Lib.hid hm
  replace hB := Lib.hid hB
  replace hT := Lib.hid hT
  replace hb := Lib.hid hb
  go_enter Tryz.func63, Tryz.ntmps63
  go_wp2
  go_loopw [3] (fun s3 wr => ∃ k : Nat, k ≤ m ∧ s3 = .int .i64 k ∧ (partsS (bs.drop k)).all (·.2) = B ∧ Below w.heap.size w wr) (fun s3 _ => m - (RowKit.intOf s3).toNat)
  case atStart => exact ⟨0, Nat.zero_le _, rfl, by rw [hB.out]; rfl, Below.refl _ _⟩
  case round =>
    obtain ⟨k, hk, rfl, ha, hB1⟩ := hrel
    by_cases hkm : k < m
    · have hne : bs.drop k ≠ [] := by intro e; have := congrArg List.length e; rw [List.length_drop, ← hm.out] at this; simp at this; omega
      rw [partsS_cons _ hne, List.all_cons] at ha
      have hn1 := Lib.decodeL_width (bs.drop k)
      have hn2 := Lib.decodeL_le (bs.drop k) hne
      rw [List.length_drop, ← hm.out] at hn2
      obtain ⟨g, o, rfl, hcs⟩ := hb.out.2 (by rw [← hm.out]; omega)
      have hd : Calls Tryz.prog 92 #[.slice (some ⟨g, o + k, none⟩) (m - k) (c - k)] wr fun e w' => e = .returned (.tuple #[.int .i32 ((Lib.decodeL (bs.drop k)).1 : Int), .int .i64 ((Lib.decodeL (bs.drop k)).2 : Int)]) ∧ Below wr.heap.size wr w' := by
        have hz : (⟨(bs.drop k).toArray⟩ : ByteArray).size = m - k := by show (bs.drop k).toArray.size = _; rw [List.size_toArray, List.length_drop, ← hm.out]
        have h9 := Tryz.utf8_DecodeRune ⟨(bs.drop k).toArray⟩ g (o + k) (c - k) wr (tabs_kept hT.out (hB1.block 0 (by omega)) (hB1.block 1 (by omega))) (fun j hj => by
          rw [hz] at hj
          have hj2 : k + j < bs.length := by rw [← hm.out]; omega
          have h5 := hcs (k + j) hj2
          have h6 := (hB1.cell (cell_lt h5)).trans h5
          rw [show o + k + j = o + (k + j) by omega, h6]
          have h7 : (ByteArray.mk (bs.drop k).toArray).get! j = bs[k + j] := by
            show (bs.drop k).toArray[j]! = _
            rw [getElem!_pos _ j (by rw [List.size_toArray, List.length_drop]; omega)]
            simp
          rw [h7])
        rw [hz, decode_str _ hne] at h9
        exact h9
      have hok := ok_dec _ hne
      rw [List.drop_drop] at ha
      obtain ⟨r, hr⟩ : ∃ r, r = (Lib.decodeL (bs.drop k)).1 := ⟨_, rfl⟩
      obtain ⟨n, hn⟩ : ∃ n, n = (Lib.decodeL (bs.drop k)).2 := ⟨_, rfl⟩
      rw [← hr, ← hn] at hd hok
      rw [← hn] at hn1 hn2 ha
      have hs := fun W => hsg W (r : Int)
      generalize signB (r : Int) = V at hok hs
      rw [hok] at ha
      have hck : ¬ (c = k) := by omega
      obtain ⟨x, hx⟩ : ∃ x : Int, x = (r : Int) := ⟨_, rfl⟩
      have hnr : decide (r ≠ 65533) = decide (x ≠ 65533) := by rw [hx]; apply decide_eq_decide.2; omega
      rw [hnr] at ha
      rw [← hx] at hd hs
      replace hB1 := Lib.hid hB1
      replace hr := Lib.hid hr
      replace hn := Lib.hid hn
      replace hx := Lib.hid hx
      clear hok hnr hcs hsg hne
      by_cases h1 : x = 65533
      · subst h1
        by_cases h3 : 1 < n
        · cases V with
          | true =>
            have ha2 : (partsS (bs.drop (k + n))).all (·.2) = B := by rw [← ha, decide_eq_true h3]; simp
            replace ha := Lib.hid ha2
            clear ha2
            have h4 : ¬ ((n : Int) < 2) := by omega
            go_wp2_with (first
              | (go_at_call 92; (with_reducible refine hd.mono ?_); rintro e w1 ⟨rfl, hb1⟩; replace hb1 := Lib.hid hb1)
              | (go_at_call 47; (with_reducible refine (hs _).mono ?_); rintro e w2 ⟨rfl, rfl⟩))
            go_roundw
            case rel => exact ⟨k + n, by omega, by go_num, ha.out, bthen hB1.out hb1.out⟩
            case measure => simp [RowKit.intOf]; omega
          | false =>
            have ha2 : false = B := by rw [← ha]; simp
            replace ha := Lib.hid ha2
            clear ha2
            have h4 : ¬ ((n : Int) < 2) := by omega
            go_wp2_with (first
              | (go_at_call 92; (with_reducible refine hd.mono ?_); rintro e w1 ⟨rfl, hb1⟩; replace hb1 := Lib.hid hb1)
              | (go_at_call 47; (with_reducible refine (hs _).mono ?_); rintro e w2 ⟨rfl, rfl⟩))
            go_ret
            exact ⟨congrArg (fun b => Ending.returned (.bool b)) ha.out, bthen hB1.out hb1.out⟩
        · have ha2 : false = B := by rw [← ha, decide_eq_false h3]; simp
          replace ha := Lib.hid ha2
          clear ha2
          have h4 : (n : Int) < 2 := by omega
          go_wp2_with (first
            | (go_at_call 92; (with_reducible refine hd.mono ?_); rintro e w1 ⟨rfl, hb1⟩; replace hb1 := Lib.hid hb1)
            | (go_at_call 47; (with_reducible refine (hs _).mono ?_); rintro e w2 ⟨rfl, rfl⟩))
          go_ret
          exact ⟨congrArg (fun b => Ending.returned (.bool b)) ha.out, bthen hB1.out hb1.out⟩
      · cases V with
        | true =>
          have ha2 : (partsS (bs.drop (k + n))).all (·.2) = B := by rw [← ha, decide_eq_true h1]; simp
          replace ha := Lib.hid ha2
          clear ha2
          go_wp2_with (first
            | (go_at_call 92; (with_reducible refine hd.mono ?_); rintro e w1 ⟨rfl, hb1⟩; replace hb1 := Lib.hid hb1)
            | (go_at_call 47; (with_reducible refine (hs _).mono ?_); rintro e w2 ⟨rfl, rfl⟩))
          go_roundw
          case rel => exact ⟨k + n, by omega, by go_num, ha.out, bthen hB1.out hb1.out⟩
          case measure => simp [RowKit.intOf]; omega
        | false =>
          have ha2 : false = B := by rw [← ha]; simp
          replace ha := Lib.hid ha2
          clear ha2
          go_wp2_with (first
            | (go_at_call 92; (with_reducible refine hd.mono ?_); rintro e w1 ⟨rfl, hb1⟩; replace hb1 := Lib.hid hb1)
            | (go_at_call 47; (with_reducible refine (hs _).mono ?_); rintro e w2 ⟨rfl, rfl⟩))
          go_ret
          exact ⟨congrArg (fun b => Ending.returned (.bool b)) ha.out, bthen hB1.out hb1.out⟩
    · have hd : bs.drop k = [] := List.drop_eq_nil_of_le (by rw [← hm.out]; omega)
      rw [hd, partsS_nil] at ha
      replace ha := Lib.hid ha
      replace hB1 := Lib.hid hB1
      clear hsg
      go_wp2
      go_ret
      exact ⟨congrArg (fun b => Ending.returned (.bool b)) ha.out, hB1.out⟩
end Go.Proofs.YtkpikpaepgknnaaGreatDoor

/- Entries: which may be written. No condition. -/
namespace Go.Xw
open Go Go.Wk Go.RowKit
/-- a property -/
structure Pr where
  sp : ByteArray
  nm : ByteArray
  kd : Int
  it : List (ByteArray × ByteArray)
/-- entries in memory -/
def EnsAt (w : World) (A : Option Addr) (it : List (ByteArray × ByteArray)) : Prop := 0 < it.length → ∃ g o, A = some ⟨g, o, none⟩ ∧ ∀ i (h : i < it.length), w.cell? ⟨g, o + i * 2, none⟩ = some (.string it[i].1) ∧ w.cell? ⟨g, o + i * 2 + 1, none⟩ = some (.string it[i].2)
theorem EnsAt.below {w w' : World} {A : Option Addr} {it : List (ByteArray × ByteArray)} (h : EnsAt w A it) (hb : Below w.heap.size w w') : EnsAt w' A it := fun h0 => by
  obtain ⟨g, o, e, hc⟩ := h h0
  exact ⟨g, o, e, fun i hi => ⟨(hb.cell (cell_lt (hc i hi).1)).trans (hc i hi).1, (hb.cell (cell_lt (hc i hi).2)).trans (hc i hi).2⟩⟩
/-- small enough -/
structure Small (p : Pr) : Prop where
  sp : p.sp.size ≤ 200
  nm : p.nm.size ≤ 200
  it : p.it.length ≤ 20
  en : ∀ e ∈ p.it, e.1.size ≤ 100 ∧ e.2.size ≤ 300
end Go.Xw
namespace Go.Proofs.YtkpikpaepgknnaaGreatDoor
open Go Go.RowKit Go.Wk Go.Xt Go.Xe Go.Xw
def entB (e : ByteArray × ByteArray) : Bool := e.1.data.toList.all langB && signsB e.2.data.toList
theorem conv_bytes (w : World) (s : ByteArray) (hs : s.size ≤ 1000000000) :
    ∃ c W', (convert 9 25 (.string s)).run Tryz.prog w = .ok (.slice (some ⟨w.heap.size, 0, none⟩) s.size c) W' ∧ Byt W' (some ⟨w.heap.size, 0, none⟩) s.data.toList ∧ Below w.heap.size w W' ∧ s.size ≤ c ∧ W'.heap.size = w.heap.size + 1 := by
  have hcv := Lib.run_convert_string_bytes (P := Tryz.prog) w 9 25 5 s (u := .string) Tryz.underlying9 Tryz.underlying25 Tryz.underlying5
  have hlen : s.data.toList.length = s.size := Array.length_toList
  refine ⟨_, _, hcv, ⟨?_, fun _ => ⟨_, 0, rfl, fun i hi => ?_⟩⟩, ⟨rfl, rfl, rfl, by rw [Lib.bytesWorld_size]; omega, fun k hk => Lib.bytesWorld_at_old _ _ _ _ hk⟩, ?_, Lib.bytesWorld_size _ _ _⟩
  · unfold maxLen; omega
  · have := Lib.bytesWorld_cell w 5 s i (by omega)
    rw [Nat.zero_add, this]
    rw [List.getD_eq_getElem?_getD, List.getElem?_eq_getElem hi]; rfl
  · exact grownCap_ge _ _ _ _
theorem tabs_below {w w' : World} (h : Lib.Utf8Tabs 0 1 w) (h2 : 2 ≤ w.heap.size) (hb : Below w.heap.size w w') : Lib.Utf8Tabs 0 1 w' := tabs_kept h (hb.block 0 (by omega)) (hb.block 1 (by omega))
/-- a text turned to bytes, and looked at -/
theorem signs_of {w : World} (S : ByteArray) (hS : S.size ≤ 100000) (hT : Lib.Utf8Tabs 0 1 w) (h2 : 2 ≤ w.heap.size) : ∃ c W', (convert 9 25 (.string S)).run Tryz.prog w = .ok (.slice (some ⟨w.heap.size, 0, none⟩) S.size c) W' ∧ Below w.heap.size w W' ∧
    (Calls Tryz.prog 53 #[.slice (some ⟨w.heap.size, 0, none⟩) S.size c] W' fun e w' => e = .returned (.bool (signsB S.data.toList)) ∧ Below W'.heap.size W' w') ∧
    (Calls Tryz.prog 63 #[.slice (some ⟨w.heap.size, 0, none⟩) S.size c] W' fun e w' => e = .returned (.bool (signsB S.data.toList)) ∧ Below W'.heap.size W' w') := by
  obtain ⟨c, W', hcv, hby, hb, hc, hz⟩ := conv_bytes w S (by omega)
  have hlen : S.data.toList.length = S.size := Array.length_toList
  have hT2 := tabs_below hT h2 hb
  have c1 := xml_Signs c hby (by omega) hT2 (by omega)
  have c2 := ref_Signs c hby (by omega) (by omega) hT2 (by omega)
  rw [hlen] at c1 c2
  exact ⟨c, W', hcv, hb, c1, c2⟩
set_option maxHeartbeats 2000000 in
set_option maxRecDepth 100000 in
theorem ent_may {w : World} (L T : ByteArray) (hL : L.size ≤ 100000) (hTs : T.size ≤ 100000) (hT : Lib.Utf8Tabs 0 1 w) (h2 : 2 ≤ w.heap.size) : Calls Tryz.prog 56 #[.agg #[.string L, .string T]] w fun e w' => e = .returned (.bool (entB (L, T))) ∧ Below w.heap.size w w' := by
  obtain ⟨W1, hW1⟩ : ∃ W, W = w.alloc (.cells #[.string L, .string T] 55) := ⟨_, rfl⟩
  have hb1 : Below w.heap.size w W1 := by rw [hW1]; exact (Below.refl _ _).alloc (Nat.le_refl _) _
  have hR : Blk W1 w.heap.size 55 #[.string L, .string T] := by rw [hW1]; exact Blk.new w 55 _
  have cp := xmp_plain_lang (w := W1) L hL
  have sg := fun W (hW : Below w.heap.size w W) => signs_of (w := W) T hTs (tabs_below hT h2 hW) (by have := hW.size; omega)
  have e : entB (L, T) = (L.data.toList.all langB && signsB T.data.toList) := rfl
  obtain ⟨B, hB⟩ : ∃ B, B = entB (L, T) := ⟨_, rfl⟩
  rw [← hB] at e ⊢
  generalize L.data.toList.all langB = p at e cp
  generalize signsB T.data.toList = q at e sg
  have r0 := hR.cell 0
  replace e := Lib.hid e
  replace sg := Lib.hid sg
  replace hb1 := Lib.hid hb1
  replace hR := Lib.hid hR
  clear hB
  cases p with
  | false =>
    go_enter Tryz.func56, Tryz.ntmps56
    go_upto_region 1 with (fail)
    rw [← hW1]
    replace hW1 := Lib.hid hW1
    go_wp2_with (go_at_call 50; (with_reducible refine cp.mono ?_); rintro e' w2 ⟨rfl, hb2⟩; replace hb2 := Lib.hid hb2)
    go_ret
    exact ⟨congrArg (fun b => Ending.returned (.bool b)) e.out.symm, bthen hb1.out hb2.out⟩
  | true =>
    go_enter Tryz.func56, Tryz.ntmps56
    go_upto_region 1 with (fail)
    rw [← hW1]
    replace hW1 := Lib.hid hW1
    go_wp2_with (first
      | (go_at_call 50; (with_reducible refine cp.mono ?_); rintro e' w2 ⟨rfl, hb2⟩; have r1 := (hR.out.below hb2 hR.out.lt).cell 1; obtain ⟨c3, w3, hcv, hb3, c53, _⟩ := sg.out w2 (bthen hb1.out hb2); have hb23 := bthen hb2 hb3; replace hb23 := Lib.hid hb23; replace hb2 := Lib.hid hb2; replace hb3 := Lib.hid hb3)
      | (go_at_call 53; (with_reducible refine c53.mono ?_); rintro e' w4 ⟨rfl, hb4⟩; replace hb4 := Lib.hid hb4))
    go_ret
    exact ⟨congrArg (fun b => Ending.returned (.bool b)) e.out.symm, bthen hb1.out (bthen hb23.out hb4.out)⟩
set_option maxHeartbeats 2000000 in
set_option maxRecDepth 100000 in
theorem ent_not {w : World} (L T : ByteArray) (hL : L.size ≤ 100000) (hTs : T.size ≤ 100000) (hT : Lib.Utf8Tabs 0 1 w) (h2 : 2 ≤ w.heap.size) : Calls Tryz.prog 55 #[.agg #[.string L, .string T]] w fun e w' => e = .returned (.bool (!entB (L, T))) ∧ Below w.heap.size w w' := by
  obtain ⟨W1, hW1⟩ : ∃ W, W = w.alloc (.cells #[.string L, .string T] 55) := ⟨_, rfl⟩
  have hb1 : Below w.heap.size w W1 := by rw [hW1]; exact (Below.refl _ _).alloc (Nat.le_refl _) _
  have hR : Blk W1 w.heap.size 55 #[.string L, .string T] := by rw [hW1]; exact Blk.new w 55 _
  have ce := ent_may (w := W1) L T hL hTs (tabs_below hT h2 hb1) (by have := hb1.size; omega)
  generalize entB (L, T) = B at ce ⊢
  have r0 := hR.cell 0
  have r1 := hR.cell 1
  replace hb1 := Lib.hid hb1
  clear hR hT
  go_enter Tryz.func55, Tryz.ntmps55
  go_upto_region 1 with (fail)
  rw [← hW1]
  replace hW1 := Lib.hid hW1
  go_wp2_with (go_at_call 56; (with_reducible refine ce.mono ?_); rintro e' w2 ⟨rfl, hb2⟩; replace hb2 := Lib.hid hb2)
  go_ret
  exact ⟨rfl, bthen hb1.out hb2.out⟩
set_option maxHeartbeats 4000000 in
set_option maxRecDepth 100000 in
theorem idx_ents {w : World} (A : Option Addr) (c : Nat) (it : List (ByteArray × ByteArray)) (h : EnsAt w A it) (hs : ∀ e ∈ it, e.1.size ≤ 100 ∧ e.2.size ≤ 300) (hn : it.length ≤ 20) (hT : Lib.Utf8Tabs 0 1 w) (h2 : 2 ≤ w.heap.size) :
    Calls Tryz.prog 84 #[.slice A it.length c, .func (.func 55) #[] #[]] w fun e w' => ∃ j : Int, e = .returned (.int .i64 j) ∧ decide (0 ≤ j) = it.any (fun e => !entB e) ∧ Below w.heap.size w w' := by
  obtain ⟨n, hnn⟩ : ∃ n, n = it.length := ⟨_, rfl⟩
  have call : ∀ i (hi : i < it.length) W, Below w.heap.size w W → Calls Tryz.prog 55 #[.agg #[.string it[i].1, .string it[i].2]] W fun e w' => e = .returned (.bool (!entB it[i])) ∧ Below W.heap.size W w' := fun i hi W hW => by
    have := hs it[i] (List.getElem_mem hi)
    exact ent_not it[i].1 it[i].2 (by omega) (by omega) (tabs_below hT h2 hW) (by have := hW.size; omega)
  obtain ⟨Z, hZ⟩ : ∃ Z, Z = it.any (fun e => !entB e) := ⟨_, rfl⟩
  rw [← hnn, ← hZ]
  rw [← hnn] at hn
  replace call := Lib.hid call
  replace h := Lib.hid h
  replace hnn := Lib.hid hnn
  replace hZ := Lib.hid hZ
  clear hT hs
  go_enter Tryz.func84, Tryz.ntmps84
  go_wp2
  go_loopw [5, 8] (fun _ s8 wr => ∃ k : Nat, k ≤ n ∧ s8 = .int .i64 k ∧ (it.drop k).any (fun e => !entB e) = Z ∧ Below w.heap.size w wr) (fun _ s8 _ => n - (RowKit.intOf s8).toNat)
  case atStart => exact ⟨0, by omega, rfl, by rw [List.drop_zero]; exact hZ.out.symm, Below.refl _ _⟩
  case round =>
    obtain ⟨k, hk, rfl, hP, hB⟩ := hrel
    by_cases hkn : k < n
    · have hkl : k < it.length := by rw [← hnn.out]; exact hkn
      obtain ⟨g, o, rfl, hcs⟩ := h.out (by omega)
      have cl := call.out k hkl wr hB
      obtain ⟨w0, w1⟩ := hcs k hkl
      have x0 := (hB.cell (cell_lt w0)).trans w0
      have x1 := (hB.cell (cell_lt w1)).trans w1
      rw [List.drop_eq_getElem_cons hkl, List.any_cons] at hP
      generalize it[k] = e at cl x0 x1 hP
      obtain ⟨L, T⟩ := e
      simp only at cl x0 x1
      replace hB := Lib.hid hB
      clear hcs w0 w1
      cases hp : entB (L, T) with
      | true =>
        rw [hp] at cl hP
        have hP2 : (it.drop (k + 1)).any (fun e => !entB e) = Z := by rw [← hP]; rfl
        replace hP := Lib.hid hP2
        clear hp hP2
        go_wp2_with (go_at_call 55; (with_reducible refine cl.mono ?_); rintro e w1 ⟨rfl, hB1⟩; replace hB1 := Lib.hid hB1)
        go_roundw
        case rel => exact ⟨k + 1, by omega, by go_num, hP.out, bthen hB.out hB1.out⟩
        case measure => simp [RowKit.intOf]; omega
      | false =>
        rw [hp] at cl hP
        have hP2 : true = Z := by rw [← hP]; rfl
        replace hP := Lib.hid hP2
        clear hp hP2
        go_wp2_with (go_at_call 55; (with_reducible refine cl.mono ?_); rintro e w1 ⟨rfl, hB1⟩; replace hB1 := Lib.hid hB1)
        go_ret
        exact ⟨k, rfl, by rw [← hP.out]; simp, bthen hB.out hB1.out⟩
    · have hd : it.drop k = [] := List.drop_eq_nil_of_le (by rw [← hnn.out]; omega)
      rw [hd] at hP
      replace hP := Lib.hid hP
      replace hB := Lib.hid hB
      go_wp2
      go_ret
      exact ⟨-1, rfl, by rw [← hP.out]; rfl, hB.out⟩
set_option maxHeartbeats 2000000 in
theorem cnt_ents {w : World} (A : Option Addr) (c : Nat) (it : List (ByteArray × ByteArray)) (h : EnsAt w A it) (hs : ∀ e ∈ it, e.1.size ≤ 100 ∧ e.2.size ≤ 300) (hn : it.length ≤ 20) (hT : Lib.Utf8Tabs 0 1 w) (h2 : 2 ≤ w.heap.size) :
    Calls Tryz.prog 54 #[.slice A it.length c, .func (.func 55) #[] #[]] w fun e w' => e = .returned (.bool (it.any (fun e => !entB e))) ∧ Below w.heap.size w w' := by
  have ci := idx_ents A c it h hs hn hT h2
  obtain ⟨n, hnn⟩ : ∃ n, n = it.length := ⟨_, rfl⟩
  rw [← hnn] at ci ⊢
  generalize it.any (fun e => !entB e) = z at ci ⊢
  clear h hs hn hT h2 hnn
  go_enter Tryz.func54, Tryz.ntmps54
  go_wp2_with (go_at_call 84; (with_reducible refine ci.mono ?_); rintro e w1 ⟨j, rfl, hj, hB1⟩; replace hB1 := Lib.hid hB1; replace hj := Lib.hid hj)
  all_goals go_ret
  all_goals refine ⟨?_, hB1.out⟩
  all_goals (rw [← hj.out]; simp_all)
end Go.Proofs.YtkpikpaepgknnaaGreatDoor

/- Properties in their order, plain. No condition. -/
namespace Go.Xw
open Go Go.Wk
abbrev Bs := List UInt8
abbrev lt (a b : Bs) : Bool := Op.bytesLess a b
theorem u8_tri (a b : UInt8) : a < b ∨ a = b ∨ b < a := by
  rcases Nat.lt_trichotomy a.toNat b.toNat with h | h | h
  · exact .inl (UInt8.lt_iff_toNat_lt.2 h)
  · exact .inr (.inl (UInt8.toNat_inj.1 h))
  · exact .inr (.inr (UInt8.lt_iff_toNat_lt.2 h))
theorem lt_irr : ∀ a : Bs, lt a a = false
  | [] => rfl
  | x :: a => by
    have := lt_irr a
    unfold lt at this ⊢
    unfold Op.bytesLess
    have h : ¬ x < x := by rw [UInt8.lt_iff_toNat_lt]; omega
    rw [this, decide_eq_false h]; simp
theorem lt_cons {x y : UInt8} {a b : Bs} : lt (x :: a) (y :: b) = true ↔ x < y ∨ (x = y ∧ lt a b = true) := by
  show (decide (x < y) || (x == y && Op.bytesLess a b)) = true ↔ _
  simp
theorem lt_trans : ∀ {a b c : Bs}, lt a b = true → lt b c = true → lt a c = true
  | [], [], _, h, _ => by simp [lt, Op.bytesLess] at h
  | _ :: _, [], _, h, _ => by simp [lt, Op.bytesLess] at h
  | [], _ :: _, [], _, h => by simp [lt, Op.bytesLess] at h
  | [], _ :: _, _ :: _, _, _ => rfl
  | _ :: _, _ :: _, [], _, h => by simp [lt, Op.bytesLess] at h
  | x :: a, y :: b, z :: c, h1, h2 => by
    rw [lt_cons] at h1 h2 ⊢
    rcases h1 with h1 | ⟨rfl, h1⟩
    · rcases h2 with h2 | ⟨rfl, h2⟩
      · left; rw [UInt8.lt_iff_toNat_lt] at *; omega
      · exact .inl h1
    · rcases h2 with h2 | ⟨rfl, h2⟩
      · exact .inl h2
      · exact .inr ⟨rfl, lt_trans h1 h2⟩
theorem lt_tri : ∀ a b : Bs, lt a b = true ∨ a = b ∨ lt b a = true
  | [], [] => .inr (.inl rfl)
  | [], _ :: _ => .inl rfl
  | _ :: _, [] => .inr (.inr rfl)
  | x :: a, y :: b => by
    rw [lt_cons, lt_cons]
    rcases u8_tri x y with h | rfl | h
    · exact .inl (.inl h)
    · rcases lt_tri a b with h | rfl | h
      · exact .inl (.inr ⟨rfl, h⟩)
      · exact .inr (.inl rfl)
      · exact .inr (.inr (.inr ⟨rfl, h⟩))
    · exact .inr (.inr (.inl h))
theorem lt_asym {a b : Bs} (h : lt a b = true) : lt b a = false := by
  cases h2 : lt b a with
  | false => rfl
  | true => have := lt_trans h h2; rw [lt_irr] at this; cases this
/-- -1, 0 or 1 -/
def cmpI (a b : Bs) : Int := if lt a b then -1 else if lt b a then 1 else 0
theorem cmp_zero {a b : Bs} : cmpI a b = 0 ↔ a = b := by
  unfold cmpI
  rcases lt_tri a b with h | rfl | h
  · rw [if_pos h]
    constructor
    · intro h; omega
    · rintro rfl; rw [lt_irr] at h; cases h
  · rw [lt_irr]; simp
  · have h2 := lt_asym h
    rw [if_neg (by rw [h2]; decide), if_pos h]
    constructor
    · intro h; omega
    · rintro rfl; rw [lt_irr] at h; cases h
theorem cmp_neg {a b : Bs} : cmpI a b < 0 ↔ lt a b = true := by
  unfold cmpI
  cases h : lt a b with
  | true => simp
  | false =>
    rw [if_neg (by decide)]
    split <;> simp
def Pr.s (p : Pr) : Bs := p.sp.toList
def Pr.n (p : Pr) : Bs := p.nm.toList
def ordI (p q : Pr) : Int := if cmpI p.s q.s ≠ 0 then cmpI p.s q.s else cmpI p.n q.n
/-- which stands ahead -/
def ltP (p q : Pr) : Bool := lt p.s q.s || (p.s == q.s && lt p.n q.n)
def eqP (p q : Pr) : Bool := p.s == q.s && p.n == q.n
theorem ord_neg {p q : Pr} : ordI p q < 0 ↔ ltP p q = true := by
  unfold ordI ltP
  by_cases h : cmpI p.s q.s = 0
  · rw [if_neg (by simpa using h), cmp_neg]
    have h2 := cmp_zero.1 h
    rw [h2, lt_irr]; simp
  · rw [if_pos h, cmp_neg]
    have h2 : ¬ p.s = q.s := fun e => h (cmp_zero.2 e)
    have h3 : (p.s == q.s) = false := beq_eq_false_iff_ne.2 h2
    rw [h3]; simp
theorem ord_zero {p q : Pr} : ordI p q = 0 ↔ eqP p q = true := by
  unfold ordI eqP
  by_cases h : cmpI p.s q.s = 0
  · rw [if_neg (by simpa using h), cmp_zero]
    have h2 := cmp_zero.1 h
    rw [h2]; simp
  · rw [if_pos h]
    have h2 : ¬ p.s = q.s := fun e => h (cmp_zero.2 e)
    have h3 : (p.s == q.s) = false := beq_eq_false_iff_ne.2 h2
    rw [h3]; simp [h]
theorem ltP_trans {p q r : Pr} (h1 : ltP p q = true) (h2 : ltP q r = true) : ltP p r = true := by
  unfold ltP at *
  simp only [Bool.or_eq_true, Bool.and_eq_true, beq_iff_eq] at *
  rcases h1 with h1 | ⟨e1, h1⟩
  · rcases h2 with h2 | ⟨e2, h2⟩
    · exact .inl (lt_trans h1 h2)
    · left; rw [← e2]; exact h1
  · rcases h2 with h2 | ⟨e2, h2⟩
    · left; rw [e1]; exact h2
    · exact .inr ⟨e1.trans e2, lt_trans h1 h2⟩
theorem ltP_tri (p q : Pr) : ltP p q = true ∨ eqP p q = true ∨ ltP q p = true := by
  unfold ltP eqP
  simp only [Bool.or_eq_true, Bool.and_eq_true, beq_iff_eq]
  rcases lt_tri p.s q.s with h | h | h
  · exact .inl (.inl h)
  · rcases lt_tri p.n q.n with h2 | h2 | h2
    · exact .inl (.inr ⟨h, h2⟩)
    · exact .inr (.inl ⟨h, h2⟩)
    · exact .inr (.inr (.inr ⟨h.symm, h2⟩))
  · exact .inr (.inr (.inl h))
theorem ltP_irr (p : Pr) : ltP p p = false := by unfold ltP; rw [lt_irr, lt_irr]; simp
theorem ltP_not {p q : Pr} (h : ltP p q = true) : ltP q p = false ∧ eqP p q = false ∧ eqP q p = false := by
  refine ⟨?_, ?_, ?_⟩
  · cases h2 : ltP q p with
    | false => rfl
    | true => have := ltP_trans h h2; rw [ltP_irr] at this; cases this
  · cases h2 : eqP p q with
    | false => rfl
    | true =>
      unfold eqP at h2; unfold ltP at h
      simp only [Bool.and_eq_true, beq_iff_eq] at h2
      rw [h2.1, h2.2, lt_irr, lt_irr] at h; simp at h
  · cases h2 : eqP q p with
    | false => rfl
    | true =>
      unfold eqP at h2; unfold ltP at h
      simp only [Bool.and_eq_true, beq_iff_eq] at h2
      rw [h2.1, h2.2, lt_irr, lt_irr] at h; simp at h
theorem eqP_sym (p q : Pr) : eqP p q = eqP q p := by
  unfold eqP; rw [Bool.eq_iff_iff]; simp only [Bool.and_eq_true, beq_iff_eq]
  exact ⟨fun h => ⟨h.1.symm, h.2.symm⟩, fun h => ⟨h.1.symm, h.2.symm⟩⟩
theorem eq_lt {p q r : Pr} (h : eqP q r = true) : ltP p q = ltP p r := by
  unfold eqP at h; unfold ltP
  simp only [Bool.and_eq_true, beq_iff_eq] at h
  rw [h.1, h.2]
/-- in their order -/
def Sorted (l : List Pr) : Prop := l.Pairwise fun p q => ltP p q = true
/-- where it stands, or would stand -/
def posP (p : Pr) (l : List Pr) : Nat := (l.takeWhile (fun q => ltP q p)).length
def insP (p : Pr) (l : List Pr) : List Pr := l.take (posP p l) ++ p :: l.drop (posP p l)
def hasP (p : Pr) (l : List Pr) : Bool := l.any (fun q => eqP q p)
theorem pos_le (p : Pr) (l : List Pr) : posP p l ≤ l.length := (List.takeWhile_sublist _).length_le
theorem pos_lt {p : Pr} : ∀ {l : List Pr} (i : Nat) (h : i < posP p l), ∃ hi : i < l.length, ltP l[i] p = true
  | [], i, h => by simp [posP] at h
  | q :: l, i, h => by
    unfold posP at h
    rw [List.takeWhile_cons] at h
    split at h
    · rename_i hq
      cases i with
      | zero => exact ⟨by simp, hq⟩
      | succ i =>
        obtain ⟨hi, h2⟩ := pos_lt (p := p) (l := l) i (by simpa [posP] using h)
        exact ⟨by simpa using hi, by simpa using h2⟩
    · simp at h
theorem pos_at {p : Pr} : ∀ {l : List Pr} (h : posP p l < l.length), ltP l[posP p l] p = false
  | [], h => by simp at h
  | q :: l, h => by
    cases hq : ltP q p with
    | true =>
      have e : posP p (q :: l) = posP p l + 1 := by unfold posP; rw [List.takeWhile_cons, if_pos hq]; rfl
      have h2 : posP p l < l.length := by rw [e] at h; simpa using h
      have := pos_at (p := p) h2
      simp only [e, List.getElem_cons_succ]
      exact this
    | false =>
      have e : posP p (q :: l) = 0 := by unfold posP; rw [List.takeWhile_cons, if_neg (by rw [hq]; decide)]; rfl
      simp only [e, List.getElem_cons_zero]
      exact hq
theorem sorted_at {l : List Pr} (hs : Sorted l) {i j : Nat} (hij : i < j) (hj : j < l.length) : ltP l[i] l[j] = true := List.pairwise_iff_getElem.1 hs i j (by omega) hj hij
/-- behind its place all stand behind -/
theorem pos_ge {p : Pr} {l : List Pr} (hs : Sorted l) {i : Nat} (h : posP p l ≤ i) (hi : i < l.length) : ltP l[i] p = false := by
  have h0 := pos_at (p := p) (l := l) (by omega)
  rcases Nat.eq_or_lt_of_le h with e | h1
  · simp only [← e]; exact h0
  · have h2 := sorted_at hs h1 hi
    cases h3 : ltP l[i] p with
    | false => rfl
    | true => have := ltP_trans h2 h3; rw [h0] at this; cases this
theorem pos_of {p : Pr} {l : List Pr} {i : Nat} (h : i ≤ l.length) (h1 : ∀ j (hj : j < i), ltP (l[j]'(by omega)) p = true) (h2 : (hi : i < l.length) → ltP l[i] p = false) : posP p l = i := by
  rcases Nat.lt_trichotomy (posP p l) i with h3 | h3 | h3
  · have h4 := pos_at (p := p) (l := l) (by omega)
    have h5 := h1 _ h3
    rw [h4] at h5; cases h5
  · exact h3
  · obtain ⟨hi, h4⟩ := pos_lt i h3
    have := h2 hi
    rw [h4] at this; cases this
/-- it is there just if it stands at its place -/
theorem has_at {p : Pr} {l : List Pr} (hs : Sorted l) : hasP p l = true ↔ ∃ h : posP p l < l.length, eqP l[posP p l] p = true := by
  unfold hasP
  rw [List.any_eq_true]
  constructor
  · rintro ⟨q, hq, he⟩
    obtain ⟨i, hi, rfl⟩ := List.getElem_of_mem hq
    have h1 : posP p l = i := by
      refine pos_of (by omega) (fun j hj => ?_) fun _ => ?_
      · have := sorted_at hs hj hi
        rw [eq_lt he] at this; exact this
      · cases h3 : ltP l[i] p with
        | false => rfl
        | true => have := (ltP_not h3).2.1; rw [he] at this; cases this
    subst h1
    exact ⟨hi, he⟩
  · rintro ⟨h, he⟩
    exact ⟨_, List.getElem_mem h, he⟩
theorem sorted_ins {p : Pr} {l : List Pr} (hs : Sorted l) (hn : hasP p l = false) : Sorted (insP p l) := by
  have hb : ∀ i (hi : i < l.length), posP p l ≤ i → ltP p l[i] = true := fun i hi h => by
    have h1 := pos_ge hs h hi
    rcases ltP_tri p l[i] with h2 | h2 | h2
    · exact h2
    · have : hasP p l = true := by unfold hasP; rw [List.any_eq_true]; exact ⟨_, List.getElem_mem hi, by rw [eqP_sym]; exact h2⟩
      rw [hn] at this; cases this
    · rw [h1] at h2; cases h2
  unfold Sorted insP
  have hp := List.pairwise_append.1 (show ((l.take (posP p l)) ++ l.drop (posP p l)).Pairwise (fun p q => ltP p q = true) by rw [List.take_append_drop]; exact hs)
  refine List.pairwise_append.2 ⟨hp.1, List.pairwise_cons.2 ⟨fun q hq => ?_, hp.2.1⟩, fun a ha b hb' => ?_⟩
  · obtain ⟨i, hi, rfl⟩ := List.getElem_of_mem hq
    rw [List.getElem_drop]
    rw [List.length_drop] at hi
    exact hb _ (by omega) (by omega)
  · obtain ⟨i, hi, rfl⟩ := List.getElem_of_mem ha
    rw [List.getElem_take]
    rw [List.length_take] at hi
    obtain ⟨hi2, h1⟩ := pos_lt (p := p) (l := l) i (by omega)
    rcases List.mem_cons.1 hb' with rfl | hb'
    · exact h1
    · exact hp.2.2 _ (by rw [← List.getElem_take (h := by rw [List.length_take]; omega)]; exact List.getElem_mem _) _ hb'
def addP (l : List Pr) (p : Pr) : Option (List Pr) := if hasP p l || p.s == [104, 116, 116, 112, 58, 47, 47, 119, 119, 119, 46, 119, 51, 46, 111, 114, 103, 47, 49, 57, 57, 57, 47, 48, 50, 47, 50, 50, 45, 114, 100, 102, 45, 115, 121, 110, 116, 97, 120, 45, 110, 115, 35] then none else some (insP p l)
end Go.Xw

/- Properties: which may be written. No condition. -/
namespace Go.Proofs.YtkpikpaepgknnaaGreatDoor
open Go Go.RowKit Go.Wk Go.Xt Go.Xe Go.Xw
def kindB (k : Int) (n : Nat) : Bool := decide (0 ≤ k) && (decide (k ≤ 3) && (k != 0 || n == 1))
/-- may it be written? -/
def mayB (p : Pr) : Bool := (!p.sp.toList.isEmpty && (p.sp.data.toList.all spaceB && (nameB p.nm.data.toList && signsB p.nm.data.toList))) && (kindB p.kd p.it.length && !(p.it.any (fun e => !entB e)))
theorem blk4 {w : World} {g t : Nat} {v0 v1 v2 v3 : Value} (h : Blk w g t #[v0, v1, v2, v3]) : w.cell? ⟨g, 0, none⟩ = some v0 ∧ w.cell? ⟨g, 1, none⟩ = some v1 ∧ w.cell? ⟨g, 2, none⟩ = some v2 ∧ w.cell? ⟨g, 3, none⟩ = some v3 :=
  ⟨h.cell 0, h.cell 1, h.cell 2, h.cell 3⟩
set_option maxHeartbeats 8000000 in
set_option maxRecDepth 100000 in
theorem xmp_may {w : World} (p : Pr) (A : Option Addr) (c : Nat) (h : EnsAt w A p.it) (hs : Xw.Small p) (hT : Lib.Utf8Tabs 0 1 w) (h2 : 2 ≤ w.heap.size) :
    Calls Tryz.prog 25 #[.agg #[.string p.sp, .string p.nm, .int .i64 p.kd, .slice A p.it.length c]] w fun e w' => e = .returned (.bool (mayB p)) ∧ Below w.heap.size w w' := by
  obtain ⟨W1, hW1⟩ : ∃ W, W = w.alloc (.cells #[.string p.sp, .string p.nm, .int .i64 p.kd, .slice A p.it.length c] 38) := ⟨_, rfl⟩
  have hb1 : Below w.heap.size w W1 := by rw [hW1]; exact (Below.refl _ _).alloc (Nat.le_refl _) _
  have hR : Blk W1 w.heap.size 38 #[.string p.sp, .string p.nm, .int .i64 p.kd, .slice A p.it.length c] := by rw [hW1]; exact Blk.new w 38 _
  have c1 := fun W => xmp_plain_space (w := W) p.sp (by have := hs.sp; omega)
  have c2 := fun W => xml_IsName (w := W) p.nm (by have := hs.nm; omega)
  have sg := fun W (hW : Below w.heap.size w W) => signs_of (w := W) p.nm (by have := hs.nm; omega) (tabs_below hT h2 hW) (by have := hW.size; omega)
  have cn := fun W (hW : Below w.heap.size w W) => cnt_ents (w := W) A c p.it (h.below hW) hs.en hs.it (tabs_below hT h2 hW) (by have := hW.size; omega)
  have e : mayB p = ((!p.sp.toList.isEmpty && (p.sp.data.toList.all spaceB && (nameB p.nm.data.toList && signsB p.nm.data.toList))) && (kindB p.kd p.it.length && !(p.it.any (fun e => !entB e)))) := rfl
  obtain ⟨B, hB⟩ : ∃ B, B = mayB p := ⟨_, rfl⟩
  rw [← hB] at e ⊢
  obtain ⟨sp, hsp⟩ : ∃ s, s = p.sp := ⟨_, rfl⟩
  obtain ⟨nm, hnm⟩ : ∃ s, s = p.nm := ⟨_, rfl⟩
  obtain ⟨kd, hkd⟩ : ∃ s, s = p.kd := ⟨_, rfl⟩
  obtain ⟨n, hn⟩ : ∃ s, s = p.it.length := ⟨_, rfl⟩
  rw [← hsp] at c1 e hW1 hR ⊢
  rw [← hnm] at c2 sg e hW1 hR ⊢
  rw [← hkd] at e hW1 hR ⊢
  rw [← hn] at e cn hW1 hR ⊢
  generalize sp.data.toList.all spaceB = b1 at e c1
  generalize nameB nm.data.toList = b2 at e c2
  generalize signsB nm.data.toList = b3 at e sg
  generalize p.it.any (fun e => !entB e) = z at e cn
  obtain ⟨b0, hb0⟩ : ∃ b, b = (!sp.toList.isEmpty) := ⟨_, rfl⟩
  rw [← hb0] at e
  unfold kindB at e
  obtain ⟨r0, r1, r2, r3⟩ := blk4 hR
  have hW := hb1
  replace e := Lib.hid e
  replace sg := Lib.hid sg
  replace cn := Lib.hid cn
  replace hb1 := Lib.hid hb1
  replace hW := Lib.hid hW
  replace hR := Lib.hid hR
  clear hB hsp hnm hkd hn h hs hT h2
  go_enter Tryz.func25, Tryz.ntmps25
  go_upto_region 1 with (fail)
  rw [← hW1]
  replace hW1 := Lib.hid hW1
  cases b0 with
  | false =>
    have hm : sp.toList.isEmpty = true := by simpa using hb0.symm
    clear hb0
    go_upto_region 2 with (fail)
    go_wp2
    all_goals go_ret
    all_goals exact ⟨congrArg (fun b => Ending.returned (.bool b)) (by rw [e.out]; simp), hW.out⟩
  | true =>
    have hm : sp.toList.isEmpty = false := by simpa using hb0.symm
    clear hb0
    cases b1 with
    | false =>
      go_upto_region 2 with (go_at_call 50; (with_reducible refine (c1 _).mono ?_); rintro e' w2 ⟨rfl, hb2⟩; have hR2 := hR.out.below hb2 hR.out.lt; obtain ⟨q0, q1, q2, q3⟩ := blk4 hR2; replace hW := Lib.hid (bthen hW.out hb2); clear hb2)
      go_wp2
      all_goals go_ret
      all_goals exact ⟨congrArg (fun b => Ending.returned (.bool b)) (by rw [e.out]; simp), hW.out⟩
    | true =>
      cases b2 with
      | false =>
        go_upto_region 2 with (first
          | (go_at_call 50; (with_reducible refine (c1 _).mono ?_); rintro e' w2 ⟨rfl, hb2⟩; have hR2 := hR.out.below hb2 hR.out.lt; obtain ⟨q0, q1, q2, q3⟩ := blk4 hR2; replace hR := Lib.hid hR2; replace hW := Lib.hid (bthen hW.out hb2); clear hb2 hR2)
          | (go_at_call 52; (with_reducible refine (c2 _).mono ?_); rintro e' w3 ⟨rfl, hb3⟩; have hR3 := hR.out.below hb3 hR.out.lt; obtain ⟨s0, s1, s2, s3⟩ := blk4 hR3; replace hW := Lib.hid (bthen hW.out hb3); clear hb3))
        go_wp2
        all_goals go_ret
        all_goals exact ⟨congrArg (fun b => Ending.returned (.bool b)) (by rw [e.out]; simp), hW.out⟩
      | true =>
        cases b3 with
        | false =>
          go_upto_region 2 with (first
            | (go_at_call 50; (with_reducible refine (c1 _).mono ?_); rintro e' w2 ⟨rfl, hb2⟩; have hR2 := hR.out.below hb2 hR.out.lt; obtain ⟨q0, q1, q2, q3⟩ := blk4 hR2; replace hR := Lib.hid hR2; replace hW := Lib.hid (bthen hW.out hb2); clear hb2 hR2)
            | (go_at_call 52; (with_reducible refine (c2 _).mono ?_); rintro e' w3 ⟨rfl, hb3⟩; have hR3 := hR.out.below hb3 hR.out.lt; obtain ⟨s0, s1, s2, s3⟩ := blk4 hR3; replace hW := Lib.hid (bthen hW.out hb3); replace hR := Lib.hid hR3; obtain ⟨cc, w4, hcv, hb4, c53, _⟩ := sg.out w3 hW.out; have hR4 := hR.out.below hb4 hR.out.lt; replace hR := Lib.hid hR4; replace hW := Lib.hid (bthen hW.out hb4); clear hb3 hR3 hR4; replace hb4 := Lib.hid hb4)
            | (go_at_call 53; (with_reducible refine c53.mono ?_); rintro e' w5 ⟨rfl, hb5⟩; have hR5 := hR.out.below hb5 hR.out.lt; obtain ⟨t0, t1, t2, t3⟩ := blk4 hR5; replace hW := Lib.hid (bthen hW.out hb5); clear hb5))
          go_wp2
          all_goals go_ret
          all_goals exact ⟨congrArg (fun b => Ending.returned (.bool b)) (by rw [e.out]; simp), hW.out⟩
        | true =>
          go_upto_region 2 with (first
            | (go_at_call 50; (with_reducible refine (c1 _).mono ?_); rintro e' w2 ⟨rfl, hb2⟩; have hR2 := hR.out.below hb2 hR.out.lt; obtain ⟨q0, q1, q2, q3⟩ := blk4 hR2; replace hR := Lib.hid hR2; replace hW := Lib.hid (bthen hW.out hb2); clear hb2 hR2)
            | (go_at_call 52; (with_reducible refine (c2 _).mono ?_); rintro e' w3 ⟨rfl, hb3⟩; have hR3 := hR.out.below hb3 hR.out.lt; obtain ⟨s0, s1, s2, s3⟩ := blk4 hR3; replace hW := Lib.hid (bthen hW.out hb3); replace hR := Lib.hid hR3; obtain ⟨cc, w4, hcv, hb4, c53, _⟩ := sg.out w3 hW.out; have hR4 := hR.out.below hb4 hR.out.lt; replace hR := Lib.hid hR4; replace hW := Lib.hid (bthen hW.out hb4); clear hb3 hR3 hR4; replace hb4 := Lib.hid hb4)
            | (go_at_call 53; (with_reducible refine c53.mono ?_); rintro e' w5 ⟨rfl, hb5⟩; have hR5 := hR.out.below hb5 hR.out.lt; obtain ⟨t0, t1, t2, t3⟩ := blk4 hR5; replace hW := Lib.hid (bthen hW.out hb5); have cn5 := cn.out w5 hW.out; clear hb5))
          cases hk : (decide (0 ≤ kd) && (decide (kd ≤ 3) && (kd != 0 || n == 1))) with
          | false =>
            have e2 := e.out
            rw [hk] at e2
            have hk2 : ¬ (0 ≤ kd ∧ kd ≤ 3 ∧ (kd = 0 → n = 1)) := by
              intro hh
              have : (decide (0 ≤ kd) && (decide (kd ≤ 3) && (kd != 0 || n == 1))) = true := by
                simp only [Bool.and_eq_true, decide_eq_true_eq, Bool.or_eq_true, bne_iff_ne, beq_iff_eq]
                refine ⟨hh.1, hh.2.1, ?_⟩
                by_cases h0 : kd = 0
                · exact .inr (hh.2.2 h0)
                · exact .inl h0
              rw [hk] at this; cases this
            replace e := Lib.hid e2
            replace hk2 := Lib.hid hk2
            clear hk e2 sg cn
            go_wp2
            all_goals first
              | (go_ret; exact ⟨congrArg (fun b => Ending.returned (.bool b)) (by rw [e.out]; simp), hW.out⟩)
              | (exfalso; have := hk2.out; omega)
              | (exfalso; have := hk2.out; rename_i hh; simp at hh; omega)
              | (exfalso; have := hk2.out; rename_i h1 h2 h3; simp at h1 h2 h3; omega)
              | (exfalso; have := hk2.out; simp_all; omega)
          | true =>
            have e2 := e.out
            rw [hk] at e2
            simp only [Bool.and_eq_true, decide_eq_true_eq, Bool.or_eq_true, bne_iff_ne, beq_iff_eq] at hk
            obtain ⟨k1, k2, k3⟩ := hk
            have e3 : B = !z := by rw [e2]; simp
            replace e := Lib.hid e3
            clear e2 sg cn e3
            by_cases h0 : kd = 0
            · subst h0
              have h1 : n = 1 := k3.elim (fun h => absurd rfl h) id
              clear k1 k2 k3
              subst h1
              go_wp2_with (go_at_call 54; (with_reducible refine cn5.mono ?_); rintro e' w6 ⟨rfl, hb6⟩; replace hW := Lib.hid (bthen hW.out hb6); clear hb6)
              go_ret
              exact ⟨congrArg (fun b => Ending.returned (.bool b)) e.out.symm, hW.out⟩
            · clear k3
              go_wp2_with (go_at_call 54; (with_reducible refine cn5.mono ?_); rintro e' w6 ⟨rfl, hb6⟩; replace hW := Lib.hid (bthen hW.out hb6); clear hb6)
              go_ret
              exact ⟨congrArg (fun b => Ending.returned (.bool b)) e.out.symm, hW.out⟩
end Go.Proofs.YtkpikpaepgknnaaGreatDoor

/- Properties: which may be written, by the document. No condition. -/
namespace Go.Proofs.YtkpikpaepgknnaaGreatDoor
open Go Go.RowKit Go.Wk Go.Xt Go.Xe Go.Xw
def mayR (p : Pr) : Bool := mayB p && !(p.sp.toList == rdfL)
theorem mayR_eq (p : Pr) : mayR p = (((p.sp.data.toList.all spaceB && (!p.sp.toList.isEmpty && !(p.sp.toList == rdfL))) && (nameB p.nm.data.toList && signsB p.nm.data.toList)) && (kindB p.kd p.it.length && p.it.all entB)) := by
  unfold mayR mayB
  have h9 : (!(p.it.any (fun e => !entB e))) = p.it.all entB := by rw [List.not_any_eq_all_not]; simp
  rw [h9]
  generalize p.sp.data.toList.all spaceB = b1
  generalize p.sp.toList.isEmpty = b0
  generalize (p.sp.toList == rdfL) = b4
  generalize nameB p.nm.data.toList = b2
  generalize signsB p.nm.data.toList = b3
  generalize kindB p.kd p.it.length = k
  generalize p.it.all entB = z
  cases b0 <;> cases b1 <;> cases b4 <;> simp
set_option maxHeartbeats 16000000 in
set_option maxRecDepth 100000 in
theorem ref_may {w : World} (p : Pr) (A : Option Addr) (c : Nat) (h : EnsAt w A p.it) (hs : Xw.Small p) (hT : Lib.Utf8Tabs 0 1 w) (h2 : 2 ≤ w.heap.size) :
    Calls Tryz.prog 28 #[.agg #[.string p.sp, .string p.nm, .int .i64 p.kd, .slice A p.it.length c]] w fun e w' => e = .returned (.bool (mayR p)) ∧ Below w.heap.size w w' := by
  have e := mayR_eq p
  obtain ⟨B, hB⟩ : ∃ B, B = mayR p := ⟨_, rfl⟩
  rw [← hB] at e ⊢
  clear hB
  obtain ⟨i1, i2, i3, i4⟩ := hs
  obtain ⟨sp, nm, kd, it⟩ := p
  simp only at e h i1 i2 i3 i4 ⊢
  obtain ⟨W1, hW1⟩ : ∃ W, W = w.alloc (.cells #[.string sp, .string nm, .int .i64 kd, .slice A it.length c] 43) := ⟨_, rfl⟩
  have hb1 : Below w.heap.size w W1 := by rw [hW1]; exact (Below.refl _ _).alloc (Nat.le_refl _) _
  have hR : Blk W1 w.heap.size 43 #[.string sp, .string nm, .int .i64 kd, .slice A it.length c] := by rw [hW1]; exact Blk.new w 43 _
  have c1 := fun W => ref_plainSpace (w := W) sp (by omega)
  have c2 := fun W => ref_IsName (w := W) nm (by omega)
  have sg := fun W (hW : Below w.heap.size w W) => signs_of (w := W) nm (by omega) (tabs_below hT h2 hW) (by have := hW.size; omega)
  have el := fun i (hi : i < it.length) => fun W => ref_plainLang (w := W) it[i].1 (by have := (i4 _ (List.getElem_mem hi)).1; omega)
  have es := fun i (hi : i < it.length) => fun W (hW : Below w.heap.size w W) => signs_of (w := W) it[i].2 (by have := (i4 _ (List.getElem_mem hi)).2; omega) (tabs_below hT h2 hW) (by have := hW.size; omega)
  obtain ⟨n, hn⟩ : ∃ s, s = it.length := ⟨_, rfl⟩
  rw [← hn] at e hW1 hR i3 ⊢
  generalize (sp.data.toList.all spaceB && (!sp.toList.isEmpty && !(sp.toList == rdfL))) = b1 at e c1
  generalize nameB nm.data.toList = b2 at e c2
  generalize signsB nm.data.toList = b3 at e sg
  unfold kindB at e
  obtain ⟨r0, r1, r2, r3⟩ := blk4 hR
  have hW := hb1
  replace e := Lib.hid e
  replace sg := Lib.hid sg
  replace hb1 := Lib.hid hb1
  replace hW := Lib.hid hW
  replace hR := Lib.hid hR
  replace h := Lib.hid h
  replace el := Lib.hid el
  replace es := Lib.hid es
  replace hn := Lib.hid hn
  clear hT h2 i1 i2 i4
  go_enter Tryz.func28, Tryz.ntmps28
  go_upto_region 1 with (fail)
  rw [← hW1]
  replace hW1 := Lib.hid hW1
  cases b1 with
  | false =>
    go_wp2_with (go_at_call 61; (with_reducible refine (c1 _).mono ?_); rintro e' w2 ⟨rfl, hb2⟩; replace hW := Lib.hid (bthen hW.out hb2); clear hb2)
    go_ret
    exact ⟨congrArg (fun b => Ending.returned (.bool b)) (by rw [e.out]; simp), hW.out⟩
  | true =>
    cases b2 with
    | false =>
      go_wp2_with (first
              | (go_at_call 61; (with_reducible refine (c1 _).mono ?_); rintro e' w2 ⟨rfl, hb2⟩; have hR2 := hR.out.below hb2 hR.out.lt; obtain ⟨q0, q1, q2, q3⟩ := blk4 hR2; replace hR := Lib.hid hR2; replace hW := Lib.hid (bthen hW.out hb2); clear hb2 hR2)
              | (go_at_call 62; (with_reducible refine (c2 _).mono ?_); rintro e' w3 ⟨rfl, hb3⟩; replace hW := Lib.hid (bthen hW.out hb3); clear hb3))
      go_ret
      exact ⟨congrArg (fun b => Ending.returned (.bool b)) (by rw [e.out]; simp), hW.out⟩
    | true =>
      cases b3 with
      | false =>
        go_wp2_with (first
              | (go_at_call 61; (with_reducible refine (c1 _).mono ?_); rintro e' w2 ⟨rfl, hb2⟩; have hR2 := hR.out.below hb2 hR.out.lt; obtain ⟨q0, q1, q2, q3⟩ := blk4 hR2; replace hR := Lib.hid hR2; replace hW := Lib.hid (bthen hW.out hb2); clear hb2 hR2)
              | (go_at_call 62; (with_reducible refine (c2 _).mono ?_); rintro e' w3 ⟨rfl, hb3⟩; have hR3 := hR.out.below hb3 hR.out.lt; obtain ⟨s0, s1, s2, s3⟩ := blk4 hR3; replace hW := Lib.hid (bthen hW.out hb3); replace hR := Lib.hid hR3; obtain ⟨cc, w4, hcv, hb4, _, c63⟩ := sg.out w3 hW.out; have hR4 := hR.out.below hb4 hR.out.lt; replace hR := Lib.hid hR4; replace hW := Lib.hid (bthen hW.out hb4); clear hb3 hR3 hR4; replace hb4 := Lib.hid hb4)
              | (go_at_call 63; (with_reducible refine c63.mono ?_); rintro e' w5 ⟨rfl, hb5⟩; have hR5 := hR.out.below hb5 hR.out.lt; obtain ⟨t0, t1, t2, t3⟩ := blk4 hR5; replace hR := Lib.hid hR5; replace hW := Lib.hid (bthen hW.out hb5); clear hb5 hR5))
        go_ret
        exact ⟨congrArg (fun b => Ending.returned (.bool b)) (by rw [e.out]; simp), hW.out⟩
      | true =>
        cases hk : (decide (0 ≤ kd) && (decide (kd ≤ 3) && (kd != 0 || n == 1))) with
        | false =>
          have e2 := e.out
          rw [hk] at e2
          have hk2 : ¬ (0 ≤ kd ∧ kd ≤ 3 ∧ (kd = 0 → n = 1)) := by
            intro hh
            have : (decide (0 ≤ kd) && (decide (kd ≤ 3) && (kd != 0 || n == 1))) = true := by
              simp only [Bool.and_eq_true, decide_eq_true_eq, Bool.or_eq_true, bne_iff_ne, beq_iff_eq]
              refine ⟨hh.1, hh.2.1, ?_⟩
              by_cases h0 : kd = 0
              · exact .inr (hh.2.2 h0)
              · exact .inl h0
            rw [hk] at this; cases this
          replace e := Lib.hid e2
          replace hk2 := Lib.hid hk2
          clear hk e2
          by_cases k1 : kd < 0
          · go_wp2_with (first
              | (go_at_call 61; (with_reducible refine (c1 _).mono ?_); rintro e' w2 ⟨rfl, hb2⟩; have hR2 := hR.out.below hb2 hR.out.lt; obtain ⟨q0, q1, q2, q3⟩ := blk4 hR2; replace hR := Lib.hid hR2; replace hW := Lib.hid (bthen hW.out hb2); clear hb2 hR2)
              | (go_at_call 62; (with_reducible refine (c2 _).mono ?_); rintro e' w3 ⟨rfl, hb3⟩; have hR3 := hR.out.below hb3 hR.out.lt; obtain ⟨s0, s1, s2, s3⟩ := blk4 hR3; replace hW := Lib.hid (bthen hW.out hb3); replace hR := Lib.hid hR3; obtain ⟨cc, w4, hcv, hb4, _, c63⟩ := sg.out w3 hW.out; have hR4 := hR.out.below hb4 hR.out.lt; replace hR := Lib.hid hR4; replace hW := Lib.hid (bthen hW.out hb4); clear hb3 hR3 hR4; replace hb4 := Lib.hid hb4)
              | (go_at_call 63; (with_reducible refine c63.mono ?_); rintro e' w5 ⟨rfl, hb5⟩; have hR5 := hR.out.below hb5 hR.out.lt; obtain ⟨t0, t1, t2, t3⟩ := blk4 hR5; replace hR := Lib.hid hR5; replace hW := Lib.hid (bthen hW.out hb5); clear hb5 hR5))
            go_ret
            exact ⟨congrArg (fun b => Ending.returned (.bool b)) (by rw [e.out]; simp), hW.out⟩
          · by_cases k2 : 3 < kd
            · go_wp2_with (first
              | (go_at_call 61; (with_reducible refine (c1 _).mono ?_); rintro e' w2 ⟨rfl, hb2⟩; have hR2 := hR.out.below hb2 hR.out.lt; obtain ⟨q0, q1, q2, q3⟩ := blk4 hR2; replace hR := Lib.hid hR2; replace hW := Lib.hid (bthen hW.out hb2); clear hb2 hR2)
              | (go_at_call 62; (with_reducible refine (c2 _).mono ?_); rintro e' w3 ⟨rfl, hb3⟩; have hR3 := hR.out.below hb3 hR.out.lt; obtain ⟨s0, s1, s2, s3⟩ := blk4 hR3; replace hW := Lib.hid (bthen hW.out hb3); replace hR := Lib.hid hR3; obtain ⟨cc, w4, hcv, hb4, _, c63⟩ := sg.out w3 hW.out; have hR4 := hR.out.below hb4 hR.out.lt; replace hR := Lib.hid hR4; replace hW := Lib.hid (bthen hW.out hb4); clear hb3 hR3 hR4; replace hb4 := Lib.hid hb4)
              | (go_at_call 63; (with_reducible refine c63.mono ?_); rintro e' w5 ⟨rfl, hb5⟩; have hR5 := hR.out.below hb5 hR.out.lt; obtain ⟨t0, t1, t2, t3⟩ := blk4 hR5; replace hR := Lib.hid hR5; replace hW := Lib.hid (bthen hW.out hb5); clear hb5 hR5))
              go_ret
              exact ⟨congrArg (fun b => Ending.returned (.bool b)) (by rw [e.out]; simp), hW.out⟩
            · have k3 : kd = 0 := by
                rcases Int.lt_trichotomy kd 0 with h1 | h1 | h1
                · exact absurd h1 k1
                · exact h1
                · exact absurd ⟨by omega, by omega, fun h => by omega⟩ hk2.out
              have k4 : (n : Int) ≠ 1 := fun h => hk2.out ⟨by omega, by omega, fun _ => by omega⟩
              subst k3
              clear k1 k2
              go_wp2_with (first
              | (go_at_call 61; (with_reducible refine (c1 _).mono ?_); rintro e' w2 ⟨rfl, hb2⟩; have hR2 := hR.out.below hb2 hR.out.lt; obtain ⟨q0, q1, q2, q3⟩ := blk4 hR2; replace hR := Lib.hid hR2; replace hW := Lib.hid (bthen hW.out hb2); clear hb2 hR2)
              | (go_at_call 62; (with_reducible refine (c2 _).mono ?_); rintro e' w3 ⟨rfl, hb3⟩; have hR3 := hR.out.below hb3 hR.out.lt; obtain ⟨s0, s1, s2, s3⟩ := blk4 hR3; replace hW := Lib.hid (bthen hW.out hb3); replace hR := Lib.hid hR3; obtain ⟨cc, w4, hcv, hb4, _, c63⟩ := sg.out w3 hW.out; have hR4 := hR.out.below hb4 hR.out.lt; replace hR := Lib.hid hR4; replace hW := Lib.hid (bthen hW.out hb4); clear hb3 hR3 hR4; replace hb4 := Lib.hid hb4)
              | (go_at_call 63; (with_reducible refine c63.mono ?_); rintro e' w5 ⟨rfl, hb5⟩; have hR5 := hR.out.below hb5 hR.out.lt; obtain ⟨t0, t1, t2, t3⟩ := blk4 hR5; replace hR := Lib.hid hR5; replace hW := Lib.hid (bthen hW.out hb5); clear hb5 hR5))
              go_ret
              exact ⟨congrArg (fun b => Ending.returned (.bool b)) (by rw [e.out]; simp), hW.out⟩
        | true =>
          have e2 := e.out
          rw [hk] at e2
          simp only [Bool.and_eq_true, decide_eq_true_eq, Bool.or_eq_true, bne_iff_ne, beq_iff_eq] at hk
          obtain ⟨k1, k2, k3⟩ := hk
          have e3 : B = it.all entB := by rw [e2]; simp
          replace e := Lib.hid e3
          clear e2 e3
          by_cases h0 : kd = 0
          · have h1n : n = 1 := k3.elim (fun h => absurd h0 h) id
            clear k1 k2 k3
            subst h0
            have h1 : (n : Int) = 1 := by omega
            replace h1n := Lib.hid h1n
            go_wp2_with (first
              | (go_at_call 61; (with_reducible refine (c1 _).mono ?_); rintro e' w2 ⟨rfl, hb2⟩; have hR2 := hR.out.below hb2 hR.out.lt; obtain ⟨q0, q1, q2, q3⟩ := blk4 hR2; replace hR := Lib.hid hR2; replace hW := Lib.hid (bthen hW.out hb2); clear hb2 hR2)
              | (go_at_call 62; (with_reducible refine (c2 _).mono ?_); rintro e' w3 ⟨rfl, hb3⟩; have hR3 := hR.out.below hb3 hR.out.lt; obtain ⟨s0, s1, s2, s3⟩ := blk4 hR3; replace hW := Lib.hid (bthen hW.out hb3); replace hR := Lib.hid hR3; obtain ⟨cc, w4, hcv, hb4, _, c63⟩ := sg.out w3 hW.out; have hR4 := hR.out.below hb4 hR.out.lt; replace hR := Lib.hid hR4; replace hW := Lib.hid (bthen hW.out hb4); clear hb3 hR3 hR4; replace hb4 := Lib.hid hb4)
              | (go_at_call 63; (with_reducible refine c63.mono ?_); rintro e' w5 ⟨rfl, hb5⟩; have hR5 := hR.out.below hb5 hR.out.lt; obtain ⟨t0, t1, t2, t3⟩ := blk4 hR5; replace hR := Lib.hid hR5; replace hW := Lib.hid (bthen hW.out hb5); clear hb5 hR5))
            go_loopw [3] (fun s3 wr => ∃ i : Nat, i ≤ n ∧ s3 = .int .i64 i ∧ (it.drop i).all entB = B ∧ Blk wr w.heap.size 43 #[.string sp, .string nm, .int .i64 0, .slice A n c] ∧ Below w.heap.size w wr) (fun s3 _ => n - (RowKit.intOf s3).toNat)
            case atStart => exact ⟨0, by omega, rfl, by rw [List.drop_zero]; exact e.out.symm, hR.out, hW.out⟩
            case round =>
              obtain ⟨i, hi, rfl, ha, hRr, hWr⟩ := hrel
              obtain ⟨x0, x1, x2, x3⟩ := blk4 hRr
              by_cases hin : i < n
              · have hil : i < it.length := by rw [← hn.out]; exact hin
                obtain ⟨g, o, rfl, hcs⟩ := h.out (by omega)
                obtain ⟨w0, w1⟩ := hcs i hil
                have z0 := (hWr.cell (cell_lt w0)).trans w0
                have z1 := (hWr.cell (cell_lt w1)).trans w1
                have cl := el.out i hil wr
                have cs := es.out i hil
                rw [List.drop_eq_getElem_cons hil, List.all_cons] at ha
                unfold entB at ha
                generalize it[i] = en at cl cs z0 z1 ha
                obtain ⟨L, T⟩ := en
                simp only at cl cs z0 z1 ha
                generalize L.data.toList.all langB = bl at cl ha
                generalize signsB T.data.toList = bt at cs ha
                have hall : (it.drop (i + 1)).all (fun e => e.1.data.toList.all langB && signsB e.2.data.toList) = (it.drop (i + 1)).all entB := rfl
                rw [hall] at ha
                have z1' := fun W (hb : Below wr.heap.size wr W) => (hb.cell (cell_lt z1)).trans z1
                replace z1' := Lib.hid z1'
                replace cs := Lib.hid cs
                replace hRr := Lib.hid hRr
                replace hWr := Lib.hid hWr
                clear hcs w0 w1 hall z1
                cases bl with
                | false =>
                  have ha2 : false = B := by rw [← ha]; simp
                  replace ha := Lib.hid ha2
                  clear ha2
                  go_wp2_with (go_at_call 64; (with_reducible refine cl.mono ?_); rintro e' w6 ⟨rfl, hb6⟩; replace hWr := Lib.hid (bthen hWr.out hb6); clear hb6)
                  go_ret
                  exact ⟨congrArg (fun b => Ending.returned (.bool b)) ha.out, hWr.out⟩
                | true =>
                  cases bt with
                  | false =>
                    have ha2 : false = B := by rw [← ha]; simp
                    replace ha := Lib.hid ha2
                    clear ha2
                    go_wp2_with (first
                      | (go_at_call 64; (with_reducible refine cl.mono ?_); rintro e' w6 ⟨rfl, hb6⟩; have z2 := z1'.out w6 hb6; have hR6 := hRr.out.below hb6 hRr.out.lt; obtain ⟨y0, y1, y2, y3⟩ := blk4 hR6; replace hRr := Lib.hid hR6; replace hWr := Lib.hid (bthen hWr.out hb6); obtain ⟨cc, w7, hcv, hb7, _, c63⟩ := cs.out w6 hWr.out; replace hWr := Lib.hid (bthen hWr.out hb7); clear hb6 hR6; replace hb7 := Lib.hid hb7)
                      | (go_at_call 63; (with_reducible refine c63.mono ?_); rintro e' w8 ⟨rfl, hb8⟩; replace hWr := Lib.hid (bthen hWr.out hb8); clear hb8))
                    go_ret
                    exact ⟨congrArg (fun b => Ending.returned (.bool b)) ha.out, hWr.out⟩
                  | true =>
                    have ha2 : (it.drop (i + 1)).all entB = B := by rw [← ha]; simp
                    replace ha := Lib.hid ha2
                    clear ha2
                    go_wp2_with (first
                      | (go_at_call 64; (with_reducible refine cl.mono ?_); rintro e' w6 ⟨rfl, hb6⟩; have z2 := z1'.out w6 hb6; have hR6 := hRr.out.below hb6 hRr.out.lt; obtain ⟨y0, y1, y2, y3⟩ := blk4 hR6; replace hRr := Lib.hid hR6; replace hWr := Lib.hid (bthen hWr.out hb6); obtain ⟨cc, w7, hcv, hb7, _, c63⟩ := cs.out w6 hWr.out; have hR7 := hRr.out.below hb7 hRr.out.lt; replace hRr := Lib.hid hR7; replace hWr := Lib.hid (bthen hWr.out hb7); clear hb6 hR6 hR7; replace hb7 := Lib.hid hb7)
                      | (go_at_call 63; (with_reducible refine c63.mono ?_); rintro e' w8 ⟨rfl, hb8⟩; have hR8 := hRr.out.below hb8 hRr.out.lt; replace hRr := Lib.hid hR8; replace hWr := Lib.hid (bthen hWr.out hb8); clear hb8 hR8))
                    go_roundw
                    case rel => exact ⟨i + 1, by omega, by go_num, ha.out, hRr.out, hWr.out⟩
                    case measure => simp [RowKit.intOf]; omega
              · have hd : it.drop i = [] := List.drop_eq_nil_of_le (by rw [← hn.out]; omega)
                rw [hd] at ha
                replace ha := Lib.hid ha
                replace hRr := Lib.hid hRr
                replace hWr := Lib.hid hWr
                go_wp2
                go_ret
                exact ⟨congrArg (fun b => Ending.returned (.bool b)) ha.out, hWr.out⟩
          · clear k3
            go_wp2_with (first
              | (go_at_call 61; (with_reducible refine (c1 _).mono ?_); rintro e' w2 ⟨rfl, hb2⟩; have hR2 := hR.out.below hb2 hR.out.lt; obtain ⟨q0, q1, q2, q3⟩ := blk4 hR2; replace hR := Lib.hid hR2; replace hW := Lib.hid (bthen hW.out hb2); clear hb2 hR2)
              | (go_at_call 62; (with_reducible refine (c2 _).mono ?_); rintro e' w3 ⟨rfl, hb3⟩; have hR3 := hR.out.below hb3 hR.out.lt; obtain ⟨s0, s1, s2, s3⟩ := blk4 hR3; replace hW := Lib.hid (bthen hW.out hb3); replace hR := Lib.hid hR3; obtain ⟨cc, w4, hcv, hb4, _, c63⟩ := sg.out w3 hW.out; have hR4 := hR.out.below hb4 hR.out.lt; replace hR := Lib.hid hR4; replace hW := Lib.hid (bthen hW.out hb4); clear hb3 hR3 hR4; replace hb4 := Lib.hid hb4)
              | (go_at_call 63; (with_reducible refine c63.mono ?_); rintro e' w5 ⟨rfl, hb5⟩; have hR5 := hR.out.below hb5 hR.out.lt; obtain ⟨t0, t1, t2, t3⟩ := blk4 hR5; replace hR := Lib.hid hR5; replace hW := Lib.hid (bthen hW.out hb5); clear hb5 hR5))
            go_loopw [3] (fun s3 wr => ∃ i : Nat, i ≤ n ∧ s3 = .int .i64 i ∧ (it.drop i).all entB = B ∧ Blk wr w.heap.size 43 #[.string sp, .string nm, .int .i64 kd, .slice A n c] ∧ Below w.heap.size w wr) (fun s3 _ => n - (RowKit.intOf s3).toNat)
            case atStart => exact ⟨0, by omega, rfl, by rw [List.drop_zero]; exact e.out.symm, hR.out, hW.out⟩
            case round =>
              obtain ⟨i, hi, rfl, ha, hRr, hWr⟩ := hrel
              obtain ⟨x0, x1, x2, x3⟩ := blk4 hRr
              by_cases hin : i < n
              · have hil : i < it.length := by rw [← hn.out]; exact hin
                obtain ⟨g, o, rfl, hcs⟩ := h.out (by omega)
                obtain ⟨w0, w1⟩ := hcs i hil
                have z0 := (hWr.cell (cell_lt w0)).trans w0
                have z1 := (hWr.cell (cell_lt w1)).trans w1
                have cl := el.out i hil wr
                have cs := es.out i hil
                rw [List.drop_eq_getElem_cons hil, List.all_cons] at ha
                unfold entB at ha
                generalize it[i] = en at cl cs z0 z1 ha
                obtain ⟨L, T⟩ := en
                simp only at cl cs z0 z1 ha
                generalize L.data.toList.all langB = bl at cl ha
                generalize signsB T.data.toList = bt at cs ha
                have hall : (it.drop (i + 1)).all (fun e => e.1.data.toList.all langB && signsB e.2.data.toList) = (it.drop (i + 1)).all entB := rfl
                rw [hall] at ha
                have z1' := fun W (hb : Below wr.heap.size wr W) => (hb.cell (cell_lt z1)).trans z1
                replace z1' := Lib.hid z1'
                replace cs := Lib.hid cs
                replace hRr := Lib.hid hRr
                replace hWr := Lib.hid hWr
                clear hcs w0 w1 hall z1
                cases bl with
                | false =>
                  have ha2 : false = B := by rw [← ha]; simp
                  replace ha := Lib.hid ha2
                  clear ha2
                  go_wp2_with (go_at_call 64; (with_reducible refine cl.mono ?_); rintro e' w6 ⟨rfl, hb6⟩; replace hWr := Lib.hid (bthen hWr.out hb6); clear hb6)
                  go_ret
                  exact ⟨congrArg (fun b => Ending.returned (.bool b)) ha.out, hWr.out⟩
                | true =>
                  cases bt with
                  | false =>
                    have ha2 : false = B := by rw [← ha]; simp
                    replace ha := Lib.hid ha2
                    clear ha2
                    go_wp2_with (first
                      | (go_at_call 64; (with_reducible refine cl.mono ?_); rintro e' w6 ⟨rfl, hb6⟩; have z2 := z1'.out w6 hb6; have hR6 := hRr.out.below hb6 hRr.out.lt; obtain ⟨y0, y1, y2, y3⟩ := blk4 hR6; replace hRr := Lib.hid hR6; replace hWr := Lib.hid (bthen hWr.out hb6); obtain ⟨cc, w7, hcv, hb7, _, c63⟩ := cs.out w6 hWr.out; replace hWr := Lib.hid (bthen hWr.out hb7); clear hb6 hR6; replace hb7 := Lib.hid hb7)
                      | (go_at_call 63; (with_reducible refine c63.mono ?_); rintro e' w8 ⟨rfl, hb8⟩; replace hWr := Lib.hid (bthen hWr.out hb8); clear hb8))
                    go_ret
                    exact ⟨congrArg (fun b => Ending.returned (.bool b)) ha.out, hWr.out⟩
                  | true =>
                    have ha2 : (it.drop (i + 1)).all entB = B := by rw [← ha]; simp
                    replace ha := Lib.hid ha2
                    clear ha2
                    go_wp2_with (first
                      | (go_at_call 64; (with_reducible refine cl.mono ?_); rintro e' w6 ⟨rfl, hb6⟩; have z2 := z1'.out w6 hb6; have hR6 := hRr.out.below hb6 hRr.out.lt; obtain ⟨y0, y1, y2, y3⟩ := blk4 hR6; replace hRr := Lib.hid hR6; replace hWr := Lib.hid (bthen hWr.out hb6); obtain ⟨cc, w7, hcv, hb7, _, c63⟩ := cs.out w6 hWr.out; have hR7 := hRr.out.below hb7 hRr.out.lt; replace hRr := Lib.hid hR7; replace hWr := Lib.hid (bthen hWr.out hb7); clear hb6 hR6 hR7; replace hb7 := Lib.hid hb7)
                      | (go_at_call 63; (with_reducible refine c63.mono ?_); rintro e' w8 ⟨rfl, hb8⟩; have hR8 := hRr.out.below hb8 hRr.out.lt; replace hRr := Lib.hid hR8; replace hWr := Lib.hid (bthen hWr.out hb8); clear hb8 hR8))
                    go_roundw
                    case rel => exact ⟨i + 1, by omega, by go_num, ha.out, hRr.out, hWr.out⟩
                    case measure => simp [RowKit.intOf]; omega
              · have hd : it.drop i = [] := List.drop_eq_nil_of_le (by rw [← hn.out]; omega)
                rw [hd] at ha
                replace ha := Lib.hid ha
                replace hRr := Lib.hid hRr
                replace hWr := Lib.hid hWr
                go_wp2
                go_ret
                exact ⟨congrArg (fun b => Ending.returned (.bool b)) ha.out, hWr.out⟩
end Go.Proofs.YtkpikpaepgknnaaGreatDoor

/- Properties compared. No condition. -/
namespace Go.Proofs.YtkpikpaepgknnaaGreatDoor
open Go Go.RowKit Go.Wk Go.Xt Go.Xe Go.Xw
attribute [local go_sem ↓] Go.wp_at_zero Go.wp_at_succ
set_option maxHeartbeats 1000000 in
theorem cmp_isNaN {w : World} (S : ByteArray) : Calls Tryz.prog 111 #[.string S] w fun e w' => e = .returned (.bool false) ∧ w = w' := by
  have h : (S.toList == S.toList) = true := by simp
  go_enter Tryz.func111, Tryz.ntmps111
  go_wp2
  go_ret
  exact ⟨by simp, rfl⟩
set_option maxHeartbeats 1000000 in
theorem cmp_Compare {w : World} (S T : ByteArray) : Calls Tryz.prog 87 #[.string S, .string T] w fun e w' => e = .returned (.int .i64 (cmpI S.toList T.toList)) ∧ w = w' := by
  have c1 := cmp_isNaN (w := w) S
  have c2 := cmp_isNaN (w := w) T
  obtain ⟨Z, hZ⟩ : ∃ Z, Z = cmpI S.toList T.toList := ⟨_, rfl⟩
  rw [← hZ]
  unfold cmpI at hZ
  cases h1 : Op.bytesLess S.toList T.toList with
  | true =>
    rw [show lt S.toList T.toList = true from h1, if_pos rfl] at hZ
    replace hZ := Lib.hid hZ
    go_enter Tryz.func87, Tryz.ntmps87
    go_wp2_with (first | (go_at_call 111; (with_reducible refine c1.mono ?_); rintro e w1 ⟨rfl, rfl⟩) | (go_at_call 111; (with_reducible refine c2.mono ?_); rintro e w1 ⟨rfl, rfl⟩))
    go_ret
    exact ⟨congrArg (fun z => Ending.returned (.int .i64 z)) hZ.out.symm, rfl⟩
  | false =>
    rw [show lt S.toList T.toList = false from h1, if_neg (by decide)] at hZ
    cases h2 : Op.bytesLess T.toList S.toList with
    | true =>
      rw [show lt T.toList S.toList = true from h2, if_pos rfl] at hZ
      replace hZ := Lib.hid hZ
      have h3 : (S.toList == T.toList) = false := by
        rw [beq_eq_false_iff_ne]; intro e
        rw [e] at h2; have := lt_irr T.toList; unfold lt at this; rw [this] at h2; cases h2
      go_enter Tryz.func87, Tryz.ntmps87
      go_wp2_with (first | (go_at_call 111; (with_reducible refine c1.mono ?_); rintro e w1 ⟨rfl, rfl⟩) | (go_at_call 111; (with_reducible refine c2.mono ?_); rintro e w1 ⟨rfl, rfl⟩))
      go_ret
      exact ⟨congrArg (fun z => Ending.returned (.int .i64 z)) hZ.out.symm, rfl⟩
    | false =>
      rw [show lt T.toList S.toList = false from h2, if_neg (by decide)] at hZ
      replace hZ := Lib.hid hZ
      have h3 : (S.toList == T.toList) = true := by
        rw [beq_iff_eq]
        rcases lt_tri S.toList T.toList with h | h | h
        · unfold lt at h; rw [h1] at h; cases h
        · exact h
        · unfold lt at h; rw [h2] at h; cases h
      go_enter Tryz.func87, Tryz.ntmps87
      go_wp2_with (first | (go_at_call 111; (with_reducible refine c1.mono ?_); rintro e w1 ⟨rfl, rfl⟩) | (go_at_call 111; (with_reducible refine c2.mono ?_); rintro e w1 ⟨rfl, rfl⟩))
      go_ret
      exact ⟨congrArg (fun z => Ending.returned (.int .i64 z)) hZ.out.symm, rfl⟩
set_option maxHeartbeats 2000000 in
theorem cmp_Or {w : World} (g : Nat) (a b : Int) (h0 : w.cell? ⟨g, 0, none⟩ = some (.int .i64 a)) (h1 : w.cell? ⟨g, 1, none⟩ = some (.int .i64 b)) :
    Calls Tryz.prog 86 #[.slice (some ⟨g, 0, none⟩) 2 2] w fun e w' => e = .returned (.int .i64 (if a ≠ 0 then a else b)) ∧ w = w' := by
  by_cases ha : a = 0
  · subst ha
    by_cases hb : b = 0
    · subst hb
      go_enter Tryz.func86, Tryz.ntmps86
      go_wp2
      refine wp_loop_rounds 3 ?_; rw [rounds_succ]
      go_wp2
      rw [rounds_succ]
      go_wp2
      rw [rounds_succ]
      go_wp2
      go_ret
      exact ⟨rfl, rfl⟩
    · go_enter Tryz.func86, Tryz.ntmps86
      go_wp2
      refine wp_loop_rounds 3 ?_; rw [rounds_succ]
      go_wp2
      rw [rounds_succ]
      go_wp2
      go_ret
      exact ⟨by simp, rfl⟩
  · go_enter Tryz.func86, Tryz.ntmps86
    go_wp2
    refine wp_loop_rounds 3 ?_; rw [rounds_succ]
    go_wp2
    go_ret
    exact ⟨rfl, rfl⟩
def prV (p : Pr) (v : Value) : Value := .agg #[.string p.sp, .string p.nm, .int .i64 p.kd, v]
set_option maxHeartbeats 4000000 in
set_option maxRecDepth 100000 in
theorem xmp_order {w : World} (p q : Pr) (A C : Option Addr) (n c m d : Nat) : Calls Tryz.prog 58 #[prV p (.slice A n c), prV q (.slice C m d)] w fun e w' => e = .returned (.int .i64 (ordI p q)) ∧ Below w.heap.size w w' := by
  obtain ⟨sp, nm, kd, it⟩ := p
  obtain ⟨sq, nq, kq, iq⟩ := q
  unfold prV
  simp only
  obtain ⟨W1, hW1⟩ : ∃ W, W = w.alloc (.cells #[.string sp, .string nm, .int .i64 kd, .slice A n c] 38) := ⟨_, rfl⟩
  obtain ⟨W2, hW2⟩ : ∃ W, W = W1.alloc (.cells #[.string sq, .string nq, .int .i64 kq, .slice C m d] 38) := ⟨_, rfl⟩
  have hb1 : Below w.heap.size w W1 := by rw [hW1]; exact (Below.refl _ _).alloc (Nat.le_refl _) _
  have hb2 : Below W1.heap.size W1 W2 := by rw [hW2]; exact (Below.refl _ _).alloc (Nat.le_refl _) _
  have hR1 : Blk W2 w.heap.size 38 #[.string sp, .string nm, .int .i64 kd, .slice A n c] := by
    have h : Blk W1 w.heap.size 38 #[.string sp, .string nm, .int .i64 kd, .slice A n c] := by rw [hW1]; exact Blk.new w 38 _
    exact h.below hb2 h.lt
  have hR2 : Blk W2 W1.heap.size 38 #[.string sq, .string nq, .int .i64 kq, .slice C m d] := by rw [hW2]; exact Blk.new W1 38 _
  have e : ordI ⟨sp, nm, kd, it⟩ ⟨sq, nq, kq, iq⟩ = (if cmpI sp.toList sq.toList ≠ 0 then cmpI sp.toList sq.toList else cmpI nm.toList nq.toList) := rfl
  have c1 := fun W => cmp_Compare (w := W) sp sq
  have c2 := fun W => cmp_Compare (w := W) nm nq
  rw [e]
  generalize cmpI sp.toList sq.toList = a at c1 ⊢
  generalize cmpI nm.toList nq.toList = b at c2 ⊢
  have co := fun W g h0 h1 => cmp_Or (w := W) g a b h0 h1
  generalize (if a ≠ 0 then a else b) = r at co ⊢
  obtain ⟨r0, r1, _, _⟩ := blk4 hR1
  have z1 : W1.heap.size = w.heap.size + 1 := by rw [hW1, World.size_alloc]
  rw [z1] at hR2
  obtain ⟨q0, q1, _, _⟩ := blk4 hR2
  have hbb := bthen hb1 hb2
  replace hbb := Lib.hid hbb
  replace co := Lib.hid co
  clear e hb1 hb2 hR1 hR2
  go_enter Tryz.func58, Tryz.ntmps58
  go_upto_region 1 with (fail)
  rw [← hW1, ← hW2]
  replace hW1 := Lib.hid hW1
  replace hW2 := Lib.hid hW2
  go_region_held (fun w' => w'.cell? ⟨w.heap.size, 0, none⟩ = some (.string sp) ∧ w'.cell? ⟨w.heap.size, 1, none⟩ = some (.string nm) ∧ w'.cell? ⟨w.heap.size + 1, 0, none⟩ = some (.string sq) ∧ w'.cell? ⟨w.heap.size + 1, 1, none⟩ = some (.string nq))
    (go_keep) (first
      | (go_at_call 87; (with_reducible refine (c1 _).mono ?_); rintro e w1 ⟨rfl, rfl⟩)
      | (go_at_call 87; (with_reducible refine (c2 _).mono ?_); rintro e w1 ⟨rfl, rfl⟩)
      | (go_at_call 86; (with_reducible refine (co.out _ _ (by simp) (by simp)).mono ?_); rintro e w1 ⟨rfl, rfl⟩))
  go_wp2
  go_ret
  exact ⟨rfl, bthen hbb.out ((Below.refl _ _).drew.alloc (Nat.le_refl _) _)⟩
end Go.Proofs.YtkpikpaepgknnaaGreatDoor
