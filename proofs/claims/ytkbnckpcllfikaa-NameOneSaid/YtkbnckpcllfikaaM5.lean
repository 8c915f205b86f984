/- Walks of package name: letter, small, May, Fold. -/
import Derived.Test.YtkbnckpcllfikaaM4
import Derived.Lib.OthersKept
namespace Go.Proofs.Ytkbnckpcllfikaa.Nam
open Go.RowKit Go.Proofs.YtkbnckpcllfikaaW.PrintWords Go.Proofs.YtkbnckpcllfikaaW.PrintLast Go.Proofs.YtkbnckpcllfikaaW.PrintMore Go.Proofs.Ytkbnckpcllfikaa.Num Go.Proofs.Ytkbnckpcllfikaa.Prt
set_option linter.unusedVariables false
set_option linter.unusedSimpArgs false

theorem letter_fn (c : Int) : name_letter.f 2 c = some (letR c) := by
  unfold name_letter.f letR plainC
  simp only [name_letter.j0, name_letter.j1]
  repeat' split
  all_goals first | contradiction | (congr 1; rw [Bool.eq_iff_iff]; simp at *; omega) | skip
theorem letter_calls (c : Int) (w : World) : Calls Try.prog 22 #[.int .i32 c] w fun e w' => e = .returned (.bool (letR c)) ∧ Drawn0 w w' := name_letter.calls 2 c _ w (letter_fn c)
theorem small_fn (c : Int) : name_small.f 3 c = some (smallR c) := by
  have hj : ∀ b, name_small.j0 3 c c b = some (if b = true then 45 else if c = 201 then 233 else if c = 216 then 248 else if c = 923 then 955 else if letR c then c else if 65 ≤ c ∧ c ≤ 90 then c + 32 else 65533) := by
    intro b
    rw [name_small.j0, letter_fn]
    simp only [Option.bind_some]
    repeat' split
    all_goals first | rfl | (exfalso; omega) | (congr 1; unfold wrap32; omega) | contradiction
  unfold name_small.f smallR
  simp only [hj]
  by_cases g1 : c = 32
  · subst g1; rfl
  · rw [if_neg g1]
    by_cases g2 : c = 46
    · subst g2; rfl
    · rw [if_neg g2]
      by_cases g3 : c = 47
      · subst g3; rfl
      · have e : (c == 47) = false := beq_eq_false_iff_ne.mpr g3
        rw [e, if_neg (by decide), if_neg (show ¬ (c = 32 ∨ c = 46 ∨ c = 47) by omega)]
theorem small_calls (c : Int) (w : World) : Calls Try.prog 24 #[.int .i32 c] w fun e w' => e = .returned (.int .i32 (smallR c)) ∧ Drawn0 w w' := name_small.calls 3 c _ w (small_fn c)

theorem may_calls (s : ByteArray) (w : World) (hs : s.size ≤ 4611686018427387904) :
    Calls Try.prog 13 #[.string s] w fun e w' => e = .returned (.bool (mayL (bytesOf s))) ∧ Below w.heap.size w w' := by
  have hlen : (bytesOf s).length = s.size := bytes_length s
  by_cases h0 : s.size = 0
  · have e : mayL (bytesOf s) = false := by unfold mayL; rw [hlen, decide_eq_false (by omega)]; rfl
    have hb : ((s.size : Int) == 0) = true := beq_iff_eq.mpr (by omega)
    rw [e]
    go_enter Try.func13, Try.ntmps13
    go_wp2
    go_ret
    exact ⟨rfl, Below.refl _ _⟩
  · by_cases h24 : 24 < s.size
    · have e : mayL (bytesOf s) = false := by unfold mayL; rw [hlen, decide_eq_false (by omega)]; rfl
      have hb : ((s.size : Int) == 0) = false := beq_eq_false_iff_ne.mpr (by omega)
      have hb2 : decide ((24 : Int) < (s.size : Int)) = true := decide_eq_true (by omega)
      rw [e]
      go_enter Try.func13, Try.ntmps13
      go_wp2
      go_ret
      exact ⟨rfl, Below.refl _ _⟩
    · have hb : ((s.size : Int) == 0) = false := beq_eq_false_iff_ne.mpr (by omega)
      have hb2 : decide ((24 : Int) < (s.size : Int)) = false := decide_eq_false (by omega)
      have HE : Aside0 (mayL (bytesOf s) = (!notFirst ((bytesOf s).getD 0 0) && lettersOnly (bytesOf s))) := ⟨by unfold mayL; rw [hlen, decide_eq_true (by omega)]; rfl⟩
      obtain ⟨b, hbr⟩ : ∃ b, mayL (bytesOf s) = b := ⟨_, rfl⟩
      rw [hbr]
      rw [hbr] at HE
      clear hbr
      go_enter Try.func13, Try.ntmps13
      go_wp2_with fail
      go_loopw [] (fun wr => ∃ pos : Nat, wr.heap[w.heap.size]? = some (.stringIter s pos) ∧ Aside0 (Below w.heap.size w wr) ∧ Aside0 (lettersOnly (bytesOf s) = lettersOnly ((bytesOf s).drop pos)) ∧ Aside0 (0 < pos → notFirst ((bytesOf s).getD 0 0) = false)) (fun wr => s.size - wr.iterPos w.heap.size)
      case atStart =>
        refine ⟨0, ?_, ⟨(Below.refl _ w).alloc (Nat.le_refl _) _⟩, ⟨by rw [List.drop_zero]⟩, ⟨fun h => by omega⟩⟩
        have := World.iter_heap w s 0
        simpa using this
      case round =>
        obtain ⟨pos, hit, HB, HL, HF⟩ := hrel
        by_cases hp : pos < s.size
        · have hnx := fun ty => Lib.run_next_any_at (P := Try.prog) wr w.heap.size s pos ty hit hp
          obtain ⟨r, hr⟩ : ∃ r : Int, r = ((Utf8.decode s pos).1 : Int) := ⟨_, rfl⟩
          obtain ⟨n, hn⟩ : ∃ n : Nat, n = (Utf8.decode s pos).2 := ⟨_, rfl⟩
          obtain ⟨hw1, hw2, hcase⟩ := rune_cases s pos hp _ rfl r n hr hn
          simp only [← hr, ← hn] at hnx
          have HIT := Aside0.mk (Lib.iterAt_heap wr w.heap.size s pos (pos + n) hit)
          have HB2 := Aside0.mk (Lib.below_iterAt HB.out (k := w.heap.size) (Nat.le_refl _) s (pos + n))
          have hlet := letter_calls r
          have hne : (bytesOf s).drop pos ≠ [] := fun e => by have := congrArg List.length e; rw [List.length_drop, hlen] at this; simp at this; omega
          clear hr hn
          rcases hcase with ⟨a1, a2, a3, _, _, _, a7⟩ | ⟨b1, b2, _⟩
          · rw [a3] at hlet
            have HSTEP : Aside0 (lettersOnly (bytesOf s) = lettersOnly ((bytesOf s).drop (pos + n))) := ⟨by rw [HL.out, lettersOnly_step (by omega), List.drop_drop, a2]⟩
            clear a1 a2 hne
            by_cases hz : pos = 0
            · have hz1 : ((pos : Int) == 0) = true := beq_iff_eq.mpr (by omega)
              rw [hz, List.drop_zero] at a7
              clear hz
              by_cases h57 : r ≤ 57
              · have hd : decide (r ≤ 57) = true := decide_eq_true h57
                have hb' : b = false := by rw [HE.out, a7.1 h57]; rfl
                subst hb'
                clear a7 a3
                go_wp2_with (go_at_call 22; refine (hlet _).mono ?_; rintro e w3 ⟨rfl, ⟨m1, rfl⟩⟩)
                go_ret
                exact ⟨rfl, (by repeat (first | (with_reducible first | exact HB2.out | apply below_alloc | apply pw_below_drewN | apply below_drew1) | exact HB2.out))⟩
              · have hd : decide (r ≤ 57) = false := decide_eq_false h57
                have hnf : notFirst ((bytesOf s).getD 0 0) = false := by
                  cases h : notFirst ((bytesOf s).getD 0 0) with
                  | false => rfl
                  | true => exact absurd (a7.2 h) h57
                clear a7 a3
                go_wp2_with (go_at_call 22; refine (hlet _).mono ?_; rintro e w3 ⟨rfl, ⟨m1, rfl⟩⟩)
                go_roundw
                case rel => exact ⟨pos + n, HIT.out, ⟨(by repeat (first | (with_reducible first | exact HB2.out | apply below_alloc | apply pw_below_drewN | apply below_drew1) | exact HB2.out))⟩, HSTEP, ⟨fun _ => hnf⟩⟩
                case measure =>
                  simp only [World.iterPos, World.drewN, World.drew, HIT.out, hit]
                  omega
            · have hz1 : ((pos : Int) == 0) = false := beq_eq_false_iff_ne.mpr (by omega)
              have hnf := HF.out (by omega)
              clear a7 a3 hz
              go_wp2_with (go_at_call 22; refine (hlet _).mono ?_; rintro e w3 ⟨rfl, ⟨m1, rfl⟩⟩)
              go_roundw
              case rel => exact ⟨pos + n, HIT.out, ⟨(by repeat (first | (with_reducible first | exact HB2.out | apply below_alloc | apply pw_below_drewN | apply below_drew1) | exact HB2.out))⟩, HSTEP, ⟨fun _ => hnf⟩⟩
              case measure =>
                simp only [World.iterPos, World.drewN, World.drew, HIT.out, hit]
                omega
          · rw [b2] at hlet
            have hb' : b = false := by rw [HE.out, HL.out, lettersOnly_bad b1 hne, Bool.and_false]
            subst hb'
            go_wp2_with (go_at_call 22; refine (hlet _).mono ?_; rintro e w3 ⟨rfl, ⟨m1, rfl⟩⟩)
            go_ret
            exact ⟨rfl, (by repeat (first | (with_reducible first | exact HB2.out | apply below_alloc | apply pw_below_drewN | apply below_drew1) | exact HB2.out))⟩
        · have hnx := fun ty => Lib.run_next_end_at (P := Try.prog) wr w.heap.size s pos ty hit hp
          have hd : (bytesOf s).drop pos = [] := List.drop_eq_nil_of_le (by omega)
          have hb' : b = true := by rw [HE.out, HL.out, hd, lettersOnly_nil, HF.out (by omega)]; rfl
          subst hb'
          go_wp2_with fail
          go_ret
          exact ⟨rfl, HB.out⟩
theorem Bld.iter {N B k : Nat} {l : List Int} {w : World} (h : Bld N B l w) (hk : k < N) (hne : k ≠ B) (s : ByteArray) (pos : Nat) : Bld N B l (w.iterAt k s pos) := by
  obtain ⟨p, v, h1, h2, h3, h4, h5⟩ := h
  refine ⟨p, v, (Lib.iterAt_other w k B s pos (Ne.symm hne)).trans h1, h2, R_off h3 hk ⟨by rw [Lib.iterAt_size]; exact Nat.le_refl _, fun i _ hi _ => Lib.iterAt_other w k i s pos hi⟩, h4, by rw [Lib.iterAt_size]; exact h5⟩
theorem Bld.drewN {N B : Nat} {l : List Int} {w : World} (h : Bld N B l w) (m : Nat) : Bld N B l (w.drewN m) := by
  obtain ⟨p, v, h1, h2, h3, h4, h5⟩ := h
  exact ⟨p, v, h1, h2, Kd.R_drewN h3 m, h4, h5⟩
theorem Bld.drew {N B : Nat} {l : List Int} {w : World} (h : Bld N B l w) : Bld N B l w.drew := by
  obtain ⟨p, v, h1, h2, h3, h4, h5⟩ := h
  exact ⟨p, v, h1, h2, Kd.R_drew h3, h4, h5⟩
theorem encR_bytes {q : Int} (h : (0 ≤ q ∧ q ≤ 127) ∨ q = 233 ∨ q = 248 ∨ q = 223 ∨ q = 955) : isBytes (encR q) := by
  unfold encR
  intro c hc
  split at hc
  · simp at hc; omega
  · simp at hc; omega
theorem step_cases (s : ByteArray) (i : Nat) (hi : i < s.size) (L : List Int) (hL : L = (bytesOf s).drop i) (r : Int) (w : Nat) (hr : r = ((Utf8.decode s i).1 : Int)) (hw : w = (Utf8.decode s i).2) :
    1 ≤ w ∧ i + w ≤ s.size ∧ ((smallR r = 65533 ∧ foldL L = foldL (L.drop w)) ∨ (smallR r ≠ 65533 ∧ ((0 ≤ smallR r ∧ smallR r ≤ 127) ∨ smallR r = 233 ∨ smallR r = 248 ∨ smallR r = 223 ∨ smallR r = 955) ∧ foldL L = encR (smallR r) ++ foldL (L.drop w) ∧ (encR (smallR r)).length ≤ w)) := by
  obtain ⟨h1, h2, h3⟩ := rune_cases s i hi L hL r w hr hw
  have hne : L ≠ [] := fun e => by have := congrArg List.length (hL.symm.trans e); rw [List.length_drop, bytes_length] at this; simp at this; omega
  refine ⟨h1, h2, ?_⟩
  rcases h3 with ⟨a1, a2, a3, a4, a5, a6, _⟩ | ⟨b1, b2, ⟨b3, b4, b5, b6⟩ | ⟨b3, b4⟩⟩
  · right
    rw [a5]
    refine ⟨by omega, a6, ?_, ?_⟩
    · rw [foldL_step hne, a4, a2]
      have e : stepL L = (L.take (letD L), letD L) := by unfold stepL; simp only; rw [if_pos a1]
      rw [e]
    · rw [a4, List.length_take]; omega
  · right
    refine ⟨b3, b6, ?_, ?_⟩
    · rw [foldL_step hne, b4, b5]
    · rw [b4, b5]; exact (stepL_len hne).2.2
  · left
    exact ⟨b3, b4⟩
theorem low_below {N B : Nat} {w0 a b : World} (h : Below B w0 a) (k : Low N B a b) (hN : w0.heap.size ≤ N) (hB : B < N) : Below B w0 b :=
  ⟨k.os.trans h.os, k.tape.trans h.tape, k.output.trans h.output, Nat.le_trans hN k.size, fun i hi => (k.block i (by omega) (by omega)).trans (h.block i hi)⟩
theorem fold_calls (s : ByteArray) (w : World) (hs : s.size ≤ 1000000) :
    Calls Try.prog 15 #[.string s] w fun e w' => e = .returned (.string (strOfNums (foldL (bytesOf s)))) ∧ Below w.heap.size w w' := by
  have hlen : (bytesOf s).length = s.size := bytes_length s
  obtain ⟨F, hF⟩ : ∃ F, foldL (bytesOf s) = F := ⟨_, rfl⟩
  rw [hF]
  have HF := Aside0.mk hF
  clear hF
  have hu := Try.underlying39
  go_enter Try.func15, Try.ntmps15
  go_wp2_with fail
  go_loopw [] (fun wr => ∃ (pos : Nat) (acc : List Int), Bld (w.heap.size + 2) w.heap.size acc wr ∧ wr.heap[w.heap.size + 1]? = some (.stringIter s pos) ∧ Aside0 (Below w.heap.size w wr) ∧ Aside0 (acc ++ foldL ((bytesOf s).drop pos) = F) ∧ Aside0 (acc.length ≤ pos ∧ pos ≤ s.size) ∧ Aside0 (isBytes acc)) (fun wr => s.size - wr.iterPos (w.heap.size + 1))
  case atStart =>
    refine ⟨0, [], ⟨.pointer none, .slice none 0 0, ?_, .inl rfl, Kd.R_nil _ _ _ _ _, by omega, ?_⟩, ?_, ⟨((Below.refl _ w).alloc (Nat.le_refl _) _).alloc (by simp) _⟩, ⟨by rw [List.drop_zero, HF.out]; rfl⟩, ⟨by simp⟩, ⟨fun c hc => by simp at hc⟩⟩
    · exact (Lib.alloc_old (w.alloc (.cells #[.pointer none, .slice none 0 0] 39)) _ _ (by simp)).trans (blk_new w _)
    · show w.heap.size + 2 ≤ ((w.heap.push _).push _).size
      rw [Array.size_push, Array.size_push]; exact Nat.le_refl _
    · have := World.iter_heap (w.alloc (.cells #[.pointer none, .slice none 0 0] 39)) s 0
      simpa using this
  case round =>
    obtain ⟨pos, acc, hB, hit, HB, HF2, HL, HBY⟩ := hrel
    have HBD := Aside0.mk hB
    have hbs : w.heap.size + 2 ≤ wr.heap.size := by obtain ⟨_, _, _, _, _, _, h⟩ := hB; exact h
    clear hB
    have hlen2 := HL.out
    by_cases hp : pos < s.size
    · have hnx := fun ty => Lib.run_next_any_at (P := Try.prog) wr (w.heap.size + 1) s pos ty hit hp
      obtain ⟨r, hr⟩ : ∃ r : Int, r = ((Utf8.decode s pos).1 : Int) := ⟨_, rfl⟩
      obtain ⟨n, hn⟩ : ∃ n : Nat, n = (Utf8.decode s pos).2 := ⟨_, rfl⟩
      obtain ⟨hw1, hw2, hcase⟩ := step_cases s pos hp _ rfl r n hr hn
      simp only [← hr, ← hn] at hnx
      have HIT := Aside0.mk (Lib.iterAt_heap wr (w.heap.size + 1) s pos (pos + n) hit)
      have HB2 := Aside0.mk (Lib.below_iterAt HB.out (k := w.heap.size + 1) (by omega) s (pos + n))
      have HBD2 := Aside0.mk (HBD.out.iter (k := w.heap.size + 1) (by omega) (by omega) s (pos + n))
      have hsm := small_calls r
      clear hr hn
      rcases hcase with ⟨c1, c2⟩ | ⟨c1, c2, c3, c4⟩
      · rw [c1] at hsm
        have HSTEP : Aside0 (acc ++ foldL ((bytesOf s).drop (pos + n)) = F) := ⟨by rw [← HF2.out, c2, List.drop_drop]⟩
        clear c1 c2
        go_wp2_with (go_at_call 24; refine (hsm _).mono ?_; rintro e w3 ⟨rfl, ⟨m1, rfl⟩⟩)
        go_roundw
        case rel => exact ⟨pos + n, acc, (by repeat (first | exact HBD2.out | (with_reducible first | refine Bld.drewN ?_ _ | refine Bld.drew ?_))), HIT.out, ⟨(by repeat (first | (with_reducible first | exact HB2.out | apply below_alloc | apply pw_below_drewN | apply below_drew1) | exact HB2.out))⟩, HSTEP, ⟨by omega⟩, HBY⟩
        case measure =>
          simp only [World.iterPos, World.drewN, World.drew, HIT.out, hit]
          omega
      · obtain ⟨q, hq⟩ : ∃ q, smallR r = q := ⟨_, rfl⟩
        rw [hq] at c1 c2 c3 c4 hsm
        have HSTEP : Aside0 ((acc ++ encR q) ++ foldL ((bytesOf s).drop (pos + n)) = F) := ⟨by rw [← HF2.out, c3, List.drop_drop, List.append_assoc]⟩
        have HBY2 : Aside0 (isBytes (acc ++ encR q)) := ⟨isBytes_append.2 ⟨HBY.out, encR_bytes c2⟩⟩
        have HQ := Aside0.mk c2
        have HQL : Aside0 ((acc ++ encR q).length ≤ pos + n) := ⟨by rw [List.length_append]; omega⟩
        have hne65 : (q == 65533) = false := beq_eq_false_iff_ne.mpr c1
        clear c1 c2 c3 c4 hq
        go_wp2_with (first
          | (go_at_call 24; refine (hsm _).mono ?_; rintro e w3 ⟨rfl, ⟨m1, rfl⟩⟩)
          | (go_at_call 25; refine (writeRune_calls (w.heap.size + 2) w.heap.size acc q _ HQ.out (by omega) (by repeat (first | exact HBD2.out | (with_reducible first | refine Bld.drewN ?_ _ | refine Bld.drew ?_)))).mono ?_; rintro e w4 ⟨⟨n4, rfl⟩, hb4, low4⟩; have HB4 := Aside0.mk hb4; have HL4 := Aside0.mk low4; clear hb4 low4))
        have hit4 : w4.heap[w.heap.size + 1]? = some (.stringIter s (pos + n)) := (HL4.out.block (w.heap.size + 1) (by omega) (by omega)).trans HIT.out
        go_roundw
        case rel => exact ⟨pos + n, acc ++ encR q, HB4.out, hit4, ⟨low_below (by repeat (first | (with_reducible first | exact HB2.out | apply below_alloc | apply pw_below_drewN | apply below_drew1) | exact HB2.out)) HL4.out (by omega) (by omega)⟩, HSTEP, ⟨⟨HQL.out, by omega⟩⟩, HBY2⟩
        case measure =>
          simp only [World.iterPos, hit4, hit]
          omega
    · have hnx := fun ty => Lib.run_next_end_at (P := Try.prog) wr (w.heap.size + 1) s pos ty hit hp
      have hd : (bytesOf s).drop pos = [] := List.drop_eq_nil_of_le (by omega)
      have hacc : acc = F := by rw [← HF2.out, hd, foldL_nil, List.append_nil]
      subst hacc
      go_wp2_with (first
        | (go_at_call 26; refine (string_calls (w.heap.size + 2) w.heap.size acc _ HBY.out HBD.out).mono ?_; rintro e w3 ⟨rfl, h3⟩; have H3 := Aside0.mk h3; clear h3))
      go_ret
      exact ⟨rfl, HB.out.trans H3.out⟩
end Go.Proofs.Ytkbnckpcllfikaa.Nam
