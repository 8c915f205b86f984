/- strings.Builder: WriteRune, String. -/
import Derived.Test.YtkbnckpcllfikaaM2
namespace Go.Proofs.Ytkbnckpcllfikaa.Nam
open Go.RowKit Go.Proofs.YtkbnckpcllfikaaW.PrintWords Go.Proofs.YtkbnckpcllfikaaW.PrintLast Go.Proofs.YtkbnckpcllfikaaW.PrintMore Go.Proofs.Ytkbnckpcllfikaa.Num Go.Proofs.Ytkbnckpcllfikaa.Prt
set_option linter.unusedVariables false
set_option linter.unusedSimpArgs false

/-- A world with its first blocks alone. -/
def cutW (w : World) (N : Nat) : World := { w with heap := w.heap.extract 0 N }
theorem cutW_size {w : World} {N : Nat} (h : N ≤ w.heap.size) : (cutW w N).heap.size = N := by unfold cutW; simp; omega
theorem cutW_block (w : World) (N k : Nat) (hk : k < N) (h : N ≤ w.heap.size) : (cutW w N).heap[k]? = w.heap[k]? := by
  unfold cutW
  simp only
  rw [Array.getElem?_extract, if_pos (by omega), Nat.zero_add]
theorem below_cutW {w : World} {N : Nat} (h : N ≤ w.heap.size) : Below (cutW w N).heap.size (cutW w N) w :=
  ⟨rfl, rfl, rfl, by rw [cutW_size h]; exact h, fun k hk => by rw [cutW_size h] at hk; exact (cutW_block w N k hk h).symm⟩
/-- What a builder at block B of N blocks leaves of the blocks below N. -/
structure Low (N B : Nat) (w w' : World) : Prop where
  os : w'.os = w.os
  tape : w'.tape = w.tape
  output : w'.output = w.output
  size : N ≤ w'.heap.size
  block : ∀ k, k < N → k ≠ B → w'.heap[k]? = w.heap[k]?
theorem Low.trans {N B : Nat} {a b c : World} (h : Low N B a b) (k : Low N B b c) : Low N B a c :=
  ⟨k.os.trans h.os, k.tape.trans h.tape, k.output.trans h.output, k.size, fun i hi hb => (k.block i hi hb).trans (h.block i hi hb)⟩
def Bld (N B : Nat) (l : List Int) (w : World) : Prop :=
  ∃ p v, w.heap[B]? = some (.cells #[p, v] 39 (0, 0)) ∧ (p = .pointer none ∨ p = .pointer (some ⟨B, 0, none⟩)) ∧ Kd.R (Kd.int .u8) 5 w N (fun _ => True) v l ∧ B < N ∧ N ≤ w.heap.size
theorem R_off {N B : Nat} {w w' : World} {v : Value} {l : List Int} (h : Kd.R (Kd.int .u8) 5 w N (fun _ => True) v l) (hB : B < N) (hk : KeepBut w w' B none) : Kd.R (Kd.int .u8) 5 w' N (fun _ => True) v l :=
  Kd.R_mono (Kd.R_oldK (Kd.R_mono (ok' := fun k => True ∧ k ≠ B) (Kd.R_bound h) (fun k hk => ⟨trivial, by have := hk.2.1; omega⟩)) hk) (fun _ _ => trivial)

theorem writeRune_calls (N B : Nat) (l : List Int) (r : Int) (w : World) (hr : (0 ≤ r ∧ r ≤ 127) ∨ r = 233 ∨ r = 248 ∨ r = 223 ∨ r = 955) (hl : l.length ≤ 1000000) (hb : Bld N B l w) :
    Calls Try.prog 25 #[.pointer (some ⟨B, 0, none⟩), .int .i32 r] w fun e w' => (∃ n, e = .returned (.tuple #[.int .i64 n, .nilIface])) ∧ Bld N B (l ++ encR r) w' ∧ Low N B w w' := by
  obtain ⟨p, v, hblk, hp, hR, hBN, hN⟩ := hb
  have hu := Try.underlying39
  obtain ⟨A, c, rfl, hc, hC⟩ := Kd.R_reads hR
  have HR0 := Aside0.mk hR
  have HP := Aside0.mk hp
  have HK0 := Aside0.mk hblk
  have HH := Aside0.mk hr
  clear hC hc hR hp hblk hr
  go_enter Try.func25, Try.ntmps25
  go_wp2_with fail
  refine (copyCheck_calls B _ p w HK0.out HP.out).mono ?_
  rintro e w1 ⟨rfl, h1, h2, h3⟩
  have hc1 : w1.cell? ⟨B, 1, none⟩ = some (.slice A l.length c) := blk_cell h1 1
  have HK1 := Aside0.mk h1
  have HR1 := Aside0.mk (R_off HR0.out hBN h2)
  have HKB := Aside0.mk h2
  have HBE := Aside0.mk h3
  have hN1 : N ≤ w1.heap.size := Nat.le_trans hN h2.1
  clear h1 h2 h3
  go_wp2_with fail
  refine (appendRune_calls r _ l (cutW w1 N) _ HH.out hl (below_cutW hN1) (by rw [cutW_size hN1]; exact HR1.out)).mono ?_
  rintro e w2 ⟨v2, rfl, ho2, hb2⟩
  rw [cutW_size hN1] at ho2 hb2
  have hK2 : w2.heap[B]? = some (.cells #[.pointer (some ⟨B, 0, none⟩), .slice A l.length c] 39 (0, 0)) := ((hb2.block B hBN).trans (cutW_block w1 N B hBN hN1)).trans HK1.out
  have hN2 : N ≤ w2.heap.size := by have := hb2.size; rwa [cutW_size hN1] at this
  have LOW2 : Aside0 (Low N B w w2) := ⟨⟨hb2.os.trans HBE.out.os, hb2.tape.trans HBE.out.tape, hb2.output.trans HBE.out.output, hN2, fun k hk hne => ((hb2.block k hk).trans (cutW_block w1 N k hk hN1)).trans (HKB.out.2 k (by omega) hne (by simp))⟩⟩
  obtain ⟨A2, c2, rfl, hc2, hC2⟩ := Kd.R_reads ho2
  have HR2 := Aside0.mk ho2
  have hf1 := blk_frozen hK2 1
  have hcz : w2.cell? ⟨B, 1, none⟩ = some (.slice A l.length c) := blk_cell hK2 1
  have HK2 := Aside0.mk hK2
  have hl2 : (l ++ encR r).length ≤ 1000002 := by
    have : (encR r).length ≤ 2 := by unfold encR; split <;> simp
    rw [List.length_append]; omega
  clear ho2 hb2 hc2 hC2 HKB HBE HK1 HR1 HK0 HR0 hK2
  go_wp2
  go_ret2
  have hs := blk_set HK2.out 1 (.slice A2 (l ++ encR r).length c2)
  refine ⟨⟨_, rfl⟩, ⟨_, _, by simpa using hs, .inr rfl, R_off HR2.out hBN ((KeepBut.refl w2 B none).set_ 1 _), hBN, by simpa [World.setCell] using hN2⟩, LOW2.out.os, LOW2.out.tape, LOW2.out.output, by simpa [World.setCell] using hN2, fun k hk hne => (((KeepBut.refl w2 B none).set_ 1 _).2 k (by omega) hne (by simp)).trans (LOW2.out.block k hk hne)⟩
theorem byteCells_nums (l : List Int) (h : isBytes l) : Lib.byteCells (l.map fun n => UInt8.ofNat n.toNat) = l.map fun n => Value.int .u8 n := by
  unfold Lib.byteCells
  rw [List.map_map]
  apply List.map_congr_left
  intro c hc
  have := h c hc
  simp only [Function.comp, UInt8.toNat_ofNat']
  congr 1; omega
theorem inner_of (l : List Int) (inner : List Value) (Q : Int → List Value → Prop) (hQ : ∀ x c, Q x c → c = [.int .u8 x]) (h : Reps Q 1 l inner) : inner = l.map fun n => Value.int .u8 n := by
  obtain ⟨h1, h2⟩ := h
  apply List.ext_getElem?
  intro j
  rw [List.getElem?_map]
  rcases Nat.lt_or_ge j l.length with hj | hj
  · have h3 := hQ _ _ (h2 j l[j] (List.getElem?_eq_getElem hj))
    have h4 := congrArg (fun c : List Value => c[0]?) h3
    simp only [List.getElem?_take, List.getElem?_drop, Nat.mul_one, Nat.add_zero] at h4
    rw [List.getElem?_eq_getElem hj]
    simpa using h4
  · rw [List.getElem?_eq_none (by omega), List.getElem?_eq_none hj]; rfl
theorem string_calls (N B : Nat) (l : List Int) (w : World) (hl : isBytes l) (hb : Bld N B l w) :
    Calls Try.prog 26 #[.pointer (some ⟨B, 0, none⟩)] w fun e w' => e = .returned (.string (strOfNums l)) ∧ Below B w w' := by
  obtain ⟨p, v, hblk, hp, hR, hBN, hN⟩ := hb
  have hown : w.ownsRow B 5 1 v (l.map fun n => Value.int .u8 n).length (l.map fun n => Value.int .u8 n) := by
    obtain ⟨_, inner, ho, hreps⟩ := hR
    have e := inner_of l inner _ (fun x c h => h) hreps
    subst e
    rw [List.length_map]
    obtain ⟨g1, g2⟩ := ho
    refine ⟨g1, ?_⟩
    rcases g2 with g2 | ⟨g, cap, cur, e1, e2, e3⟩
    · exact .inl g2
    · exact .inr ⟨g, cap, cur, e1, by omega, e3⟩
  have hne : v.ownBlock ≠ some B := fun e => by have := Kd.R_base hR B e; omega
  have hI : Lib.IsBuilderF 39 5 B B (Lib.byteCells (l.map fun n => UInt8.ofNat n.toNat)) w := by
    apply Lib.IsBuilderF.of
    rw [byteCells_nums l hl]
    rcases hp with rfl | rfl
    · exact .inl ⟨Nat.le_refl _, v, hblk, hown, hne⟩
    · exact .inr ⟨Nat.le_refl _, v, hblk, hown, hne⟩
  refine (Try.Builder_String_any_k B B _ w hI (by omega)).mono ?_
  rintro e w1 ⟨rfl, _, h2, _⟩
  exact ⟨rfl, h2⟩
end Go.Proofs.Ytkbnckpcllfikaa.Nam
