/- script.Print: its walk. The reference's queries: what is wrong with one, and texts as bytes: in closed form. Functions of the program, told as plain functions, with their walks: written by a program of this claim's out of the translation. The reference's queries as bytes, and whether two are the same: in closed form. Whether two rows of steps are the same: registrarref22.Same. registrarlaw22.few: its walk. registrarlaw22.shown: its walk. What the laws of scripts call, on rows that are read. Arguments of any shape, opened: what reads as data lies in memory as a list, a struct, a text .. Arguments that are texts and numbers, opened. Arguments that are events, opened. Arguments that are queries and projections, opened. Arguments that are steps, opened. Steps that came in: their sizes. The law ScriptApart: its walk. -/
import Derived.BigQuiet
import Derived.ChangeArms
import Derived.OpenShut
import Derived.DataReads
import Derived.Deep.Slices
import Derived.Test.YtocpcnmnhckcpaaYScriptApart1
import Derived.Test.YtocpcnmnhckcpaaYScriptApart2
import Derived.Test.YtocpcnmnhckcpaaYScriptApart3
import Derived.Test.YtocpcnmnhckcpaaYScriptApart4
namespace Go.Proofs.Ytocpcnmnhckcpaa.Prt
open Go.RowKit Go.Proofs.YtocpcnmnhckcpaaW.PrintWords Go.Proofs.YtocpcnmnhckcpaaW.PrintLast Go.Proofs.YtocpcnmnhckcpaaW.PrintMore Go.Proofs.Ytocpcnmnhckcpaa.Num Go.Proofs.Ytocpcnmnhckcpaa.Nam
set_option linter.unusedVariables false
set_option linter.unusedSimpArgs false
/-- Steps that may be printed without too much. -/
def FitP (l : List S36) : Prop := ∀ t ∈ l, FitS t ∧ t.f4.size ≤ 100000
theorem drop_rdS (l : List S36) (i : Nat) (h : i < l.length) : l.drop i = rd_T36 l (i : Int) :: l.drop (i + 1) := by
  rw [List.drop_eq_getElem_cons h]
  congr 1
  unfold rd_T36
  rw [Int.toNat_natCast, List.getD_eq_getElem?_getD, List.getElem?_eq_getElem h]; rfl
theorem rdS_mem {l : List S36} {i : Nat} (h : i < l.length) : rd_T36 l (i : Int) ∈ l := getD_mem' h _
theorem takeS_snoc (l : List S36) (i : Nat) (h : i < l.length) : l.take (i + 1) = l.take i ++ [rd_T36 l (i : Int)] := by
  rw [List.take_succ_eq_append_getElem h]
  congr 2
  unfold rd_T36
  rw [Int.toNat_natCast, List.getD_eq_getElem?_getD, List.getElem?_eq_getElem h]; rfl
theorem printL_snoc (a : List S36) (t : S36) : printL (a ++ [t]) = printL a ++ lineT t := by unfold printL; simp
theorem FitS.ok {t : S36} (h : FitS t) (h2 : (putS t).2 = 0) : OkS t := ⟨h.k0, h.k1, h.k2, h.k3, by have := h.k4; omega, (putS_inv h2).1, (putS_inv h2).2.1⟩
theorem printL_bound : ∀ (l : List S36), (∀ t ∈ l, OkS t ∧ t.f4.size ≤ 100000) → (printL l).length ≤ 206200 * l.length
  | [], _ => Nat.le_refl _
  | t :: m, h => by
    have h1 := printL_bound m (fun x hx => h x (by simp [hx]))
    have h2 := lineT_len t
    have h3 := encS_size (h t (by simp)).1
    have h4 := (h t (by simp)).2
    rw [show printL (t :: m) = lineT t ++ printL m from rfl, List.length_append, List.length_cons]
    omega
theorem firstS_yes {l : List S36} {i : Nat} (h : i < l.length) (h0 : (putS (rd_T36 l (i : Int))).2 = 0) : firstS (l.drop i) = firstS (l.drop (i + 1)) := by rw [drop_rdS l i h, firstS, if_pos h0]
theorem firstS_no {l : List S36} {i : Nat} (h : i < l.length) (h0 : (putS (rd_T36 l (i : Int))).2 ≠ 0) : firstS (l.drop i) = (putS (rd_T36 l (i : Int))).2 := by rw [drop_rdS l i h, firstS, if_neg h0]
theorem bytes_line (t : S36) : bytesOf (strOfNums (hexL (encS t)) ++ (⟨#[10]⟩ : ByteArray)) = lineT t := by
  have e : strOfNums (hexL (encS t)) ++ (⟨#[10]⟩ : ByteArray) = strOfNums (lineT t) := by
    unfold lineT
    rw [str_append]; rfl
  rw [e, bytesOf_strOfNums (lineT_bytes t)]
theorem Low.far {N B M : Nat} {a b c : World} (h : Low N B a b) (k : Below M b c) (hM : N ≤ M) : Low N B a c :=
  ⟨k.os.trans h.os, k.tape.trans h.tape, k.output.trans h.output, Nat.le_trans h.size k.size, fun i hi hb => (k.block i (by omega)).trans (h.block i hi hb)⟩
theorem Bld.far {N B T t : Nat} {l : List Int} {cells : Array Value} {w w' : World} (h : Bld N B l w) (hb : w.heap[T]? = some (.cells cells t (0, 0))) (ht : ∀ q, q ∈ 5 :: (Kd.int .u8).E → q ≠ t) (hk : KeepBut w w' T none) (hT : N ≤ T) : Bld N B l w' := by
  obtain ⟨p, v, h1, h2, h3, h4, h5⟩ := h
  exact ⟨p, v, hk.blk h1 (by omega) (by simp), h2, R_turnT h3 hb ht hk, h4, Nat.le_trans h5 hk.1⟩
set_option maxRecDepth 100000 in
set_option maxHeartbeats 4000000 in
theorem print_calls22 (A : Option Addr) (c : Nat) (l : List S36) (w : World) (hC : Kd.C k36 w A l.length l) (hc : l.length ≤ c) (hf : FitP l) (r : List Int) (re : Int) (h : printS l = (r, re)) :
    Calls Try.prog 9 #[.slice A l.length c] w fun e w' => e = .returned (.tuple #[.string (strOfNums r), .int .i64 re]) ∧ Below w.heap.size w w' := by
  have hmx := Kd.C_max hC
  have HC := Aside0.mk hC
  have HF := Aside0.mk hf
  have HH := Aside0.mk h
  clear hC hc hf h
  have hu36 := Try.underlying36
  have hu := Try.underlying50
  by_cases hbig : 2048 < l.length
  · have hd : decide ((2048 : Int) < (l.length : Int)) = true := decide_eq_true (by omega)
    have HR := HH.out
    unfold printS at HR
    rw [if_pos hbig] at HR
    obtain ⟨rfl, rfl⟩ := Prod.mk.inj HR
    clear HR HH HC HF
    go_enter Try.func9, Try.ntmps9
    go_wp2
    go_ret2
    exact ⟨rfl, Below.refl _ _⟩
  have hd : decide ((2048 : Int) < (l.length : Int)) = false := decide_eq_false (by omega)
  have HS : Aside0 ((if firstS (l.drop 0) ≠ 0 then ([], firstS (l.drop 0)) else (printL l, (0 : Int))) = (r, re)) := ⟨by rw [← HH.out]; unfold printS; rw [if_neg hbig]; rfl⟩
  clear HH
  go_enter Try.func9, Try.ntmps9
  go_upto_region 5 with (first | ((with_reducible refine gate_dst (N := 4) rfl ?_); (try (refine gate_guard (by rfl) ?_; dsimp only)); refine box_event ?hg (N := 4) ?hd (cs := #[.pointer none, .slice none 0 0]) (t := 50) ?hr ?_; (case hd => rfl); (case hg => rfl); (case hr => first | (go_simp; done) | (go_simp; rfl)); intro B hg_ w1 hbox_ hb_; have HX := Aside0.mk hbox_; have HXN := Aside0.mk hg_; have HXB := Aside0.mk hb_; clear hbox_ hg_ hb_))
  obtain ⟨N, hN⟩ : ∃ N, N = w1.heap.size := ⟨_, rfl⟩
  have HB1 := Aside0.mk (Bld.start HX.out hN)
  have HNB := Aside0.mk (show w.heap.size ≤ N ∧ w.heap.size ≤ B ∧ B < N by have := HXN.out; have := HXB.out.size; have := blk_lt HX.out; omega)
  clear HX hN HXN
  go_loopg [14] l.length (fun gk v14 w' => ∃ i : Nat, v14 = .int .i64 (i : Int) ∧ Aside0 (i + gk = l.length) ∧ Aside0 ((if firstS (l.drop i) ≠ 0 then ([], firstS (l.drop i)) else (printL l, (0 : Int))) = (r, re)) ∧ Aside0 (∀ t ∈ l.take i, OkS t ∧ t.f4.size ≤ 100000) ∧ Aside0 (Bld N B (printL (l.take i)) w') ∧ Aside0 (Low N B w1 w'))
  case atStart => exact ⟨0, rfl, ⟨by omega⟩, HS, ⟨fun t ht => by simp at ht⟩, HB1, ⟨Low.refl⟩⟩
  case round =>
    clear HB1 HS
    obtain ⟨i, rfl, HE, HS, HOK, HB, HL⟩ := hrel
    have HBW := Aside0.mk (HXB.out.trans (HL.out.below HNB.out.1 HNB.out.2.1))
    have hil : i ≤ l.length := by have := HE.out; omega
    have hpl := printL_bound _ HOK.out
    rw [List.length_take] at hpl
    by_cases hlt : i < l.length
    · have hb1 : decide ((i : Int) < (l.length : Int)) = true := decide_eq_true (by omega)
      obtain ⟨ad, A7, c7, A8, c8, A9, c9, e_, hx0, hx1, hx2, hx3, hx4, hx5, hx6, hx7, hx8, hx9, l7, g7, l8, g8, l9, g9⟩ := at_T36 (Kd.C_below HC.out HBW.out) (i : Int) (by omega) (by omega)
      cases e_
      rw [Int.toNat_natCast] at hx0 hx1 hx2 hx3 hx4 hx5 hx6 hx7 hx8 hx9
      have hsn := takeS_snoc l i hlt
      have hfit := HF.out _ (rdS_mem hlt)
      have hy := firstS_yes (l := l) hlt
      have hn := firstS_no (l := l) hlt
      obtain ⟨t, ht⟩ : ∃ t, t = rd_T36 l (i : Int) := ⟨_, rfl⟩
      rw [← ht] at hx0 hx1 hx2 hx3 hx4 hx5 hx6 hx7 hx8 hx9 l7 g7 l8 g8 l9 g9 hsn hfit hy hn
      have HSC := Aside0.mk (StC.mk (w := wr) (t := t) g7 l7 g8 l8 g9 l9)
      have HSN := Aside0.mk hsn
      have HFT := Aside0.mk hfit
      have HY := Aside0.mk hy
      have HNO := Aside0.mk hn
      have hib : (i : Int) * 10 ≤ 20480 := by omega
      clear ht hsn hfit hy hn g7 l7 g8 l8 g9 l9
      go_upto_region 7 with (first | ((with_reducible refine gate_dst (N := 6) rfl ?_); (try (refine gate_guard (by rfl) ?_; dsimp only)); refine box_event ?hg (N := 6) ?hd (cs := #[.int .i64 0, .int .i64 0, .int .i64 0, .int .i64 0, .string ⟨#[]⟩, .string ⟨#[]⟩, .string ⟨#[]⟩, .slice none 0 0, .slice none 0 0, .slice none 0 0]) (t := 36) ?hr ?_; (case hd => rfl); (case hg => rfl); (case hr => first | (go_simp; done) | (go_simp; rfl)); intro T hg_ w3 hbox_ hb_; have HX := Aside0.mk hbox_; have HXN := Aside0.mk hg_; have HXB3 := Aside0.mk hb_; clear hbox_ hg_ hb_; have hz0 := blk_cell HX.out 0; have hf0 := blk_frozen HX.out 0; have hz1 := blk_cell HX.out 1; have hf1 := blk_frozen HX.out 1; have hz2 := blk_cell HX.out 2; have hf2 := blk_frozen HX.out 2; have hz3 := blk_cell HX.out 3; have hf3 := blk_frozen HX.out 3; have hz4 := blk_cell HX.out 4; have hf4 := blk_frozen HX.out 4; have hz5 := blk_cell HX.out 5; have hf5 := blk_frozen HX.out 5; have hz6 := blk_cell HX.out 6; have hf6 := blk_frozen HX.out 6; have hz7 := blk_cell HX.out 7; have hf7 := blk_frozen HX.out 7; have hz8 := blk_cell HX.out 8; have hf8 := blk_frozen HX.out 8; have hz9 := blk_cell HX.out 9; have hf9 := blk_frozen HX.out 9))
      have HTW := Aside0.mk (show wr.heap.size ≤ T ∧ N ≤ T by
        have h1 := HXN.out
        obtain ⟨_, _, _, _, _, _, h2⟩ := HB.out
        omega)
      have n0_ := Aside0.mk (((((((((((Below.refl T w3).setCell (p := ⟨T, 0, none⟩) (Nat.le_refl T) (.int .i64 t.f0)).setCell (p := ⟨T, 1, none⟩) (Nat.le_refl T) (.int .i64 t.f1)).setCell (p := ⟨T, 2, none⟩) (Nat.le_refl T) (.int .i64 t.f2)).setCell (p := ⟨T, 3, none⟩) (Nat.le_refl T) (.int .i64 t.f3)).setCell (p := ⟨T, 4, none⟩) (Nat.le_refl T) (.string t.f4)).setCell (p := ⟨T, 5, none⟩) (Nat.le_refl T) (.string t.f5.f0)).setCell (p := ⟨T, 6, none⟩) (Nat.le_refl T) (.string t.f5.f1)).setCell (p := ⟨T, 7, none⟩) (Nat.le_refl T) (.slice A7 t.f5.f2.length c7)).setCell (p := ⟨T, 8, none⟩) (Nat.le_refl T) (.slice A8 t.f5.f3.length c8)).setCell (p := ⟨T, 9, none⟩) (Nat.le_refl T) (.slice A9 t.f6.f0.length c9))
      have n1_ := Aside0.mk (blk_put (cs' := #[.int .i64 t.f0, .int .i64 t.f1, .int .i64 t.f2, .int .i64 t.f3, .string t.f4, .string t.f5.f0, .string t.f5.f1, .slice A7 t.f5.f2.length c7, .slice A8 t.f5.f3.length c8, .slice A9 t.f6.f0.length c9]) (blk_put (cs' := #[.int .i64 t.f0, .int .i64 t.f1, .int .i64 t.f2, .int .i64 t.f3, .string t.f4, .string t.f5.f0, .string t.f5.f1, .slice A7 t.f5.f2.length c7, .slice A8 t.f5.f3.length c8, .slice none 0 0]) (blk_put (cs' := #[.int .i64 t.f0, .int .i64 t.f1, .int .i64 t.f2, .int .i64 t.f3, .string t.f4, .string t.f5.f0, .string t.f5.f1, .slice A7 t.f5.f2.length c7, .slice none 0 0, .slice none 0 0]) (blk_put (cs' := #[.int .i64 t.f0, .int .i64 t.f1, .int .i64 t.f2, .int .i64 t.f3, .string t.f4, .string t.f5.f0, .string t.f5.f1, .slice none 0 0, .slice none 0 0, .slice none 0 0]) (blk_put (cs' := #[.int .i64 t.f0, .int .i64 t.f1, .int .i64 t.f2, .int .i64 t.f3, .string t.f4, .string t.f5.f0, .string ⟨#[]⟩, .slice none 0 0, .slice none 0 0, .slice none 0 0]) (blk_put (cs' := #[.int .i64 t.f0, .int .i64 t.f1, .int .i64 t.f2, .int .i64 t.f3, .string t.f4, .string ⟨#[]⟩, .string ⟨#[]⟩, .slice none 0 0, .slice none 0 0, .slice none 0 0]) (blk_put (cs' := #[.int .i64 t.f0, .int .i64 t.f1, .int .i64 t.f2, .int .i64 t.f3, .string ⟨#[]⟩, .string ⟨#[]⟩, .string ⟨#[]⟩, .slice none 0 0, .slice none 0 0, .slice none 0 0]) (blk_put (cs' := #[.int .i64 t.f0, .int .i64 t.f1, .int .i64 t.f2, .int .i64 0, .string ⟨#[]⟩, .string ⟨#[]⟩, .string ⟨#[]⟩, .slice none 0 0, .slice none 0 0, .slice none 0 0]) (blk_put (cs' := #[.int .i64 t.f0, .int .i64 t.f1, .int .i64 0, .int .i64 0, .string ⟨#[]⟩, .string ⟨#[]⟩, .string ⟨#[]⟩, .slice none 0 0, .slice none 0 0, .slice none 0 0]) (blk_put (cs' := #[.int .i64 t.f0, .int .i64 0, .int .i64 0, .int .i64 0, .string ⟨#[]⟩, .string ⟨#[]⟩, .string ⟨#[]⟩, .slice none 0 0, .slice none 0 0, .slice none 0 0]) HX.out 0 (.int .i64 t.f0) rfl) 1 (.int .i64 t.f1) rfl) 2 (.int .i64 t.f2) rfl) 3 (.int .i64 t.f3) rfl) 4 (.string t.f4) rfl) 5 (.string t.f5.f0) rfl) 6 (.string t.f5.f1) rfl) 7 (.slice A7 t.f5.f2.length c7) rfl) 8 (.slice A8 t.f5.f3.length c8) rfl) 9 (.slice A9 t.f6.f0.length c9) rfl)
      have n2_ := Aside0.mk (((((((((((KeepBut.refl w3 T none).set_ 0 (.int .i64 t.f0)).set_ 1 (.int .i64 t.f1)).set_ 2 (.int .i64 t.f2)).set_ 3 (.int .i64 t.f3)).set_ 4 (.string t.f4)).set_ 5 (.string t.f5.f0)).set_ 6 (.string t.f5.f1)).set_ 7 (.slice A7 t.f5.f2.length c7)).set_ 8 (.slice A8 t.f5.f3.length c8)).set_ 9 (.slice A9 t.f6.f0.length c9))
      have n3_ := Aside0.mk ((((((((((HXB3.out.setCell (p := ⟨T, 0, none⟩) HTW.out.1 (.int .i64 t.f0)).setCell (p := ⟨T, 1, none⟩) HTW.out.1 (.int .i64 t.f1)).setCell (p := ⟨T, 2, none⟩) HTW.out.1 (.int .i64 t.f2)).setCell (p := ⟨T, 3, none⟩) HTW.out.1 (.int .i64 t.f3)).setCell (p := ⟨T, 4, none⟩) HTW.out.1 (.string t.f4)).setCell (p := ⟨T, 5, none⟩) HTW.out.1 (.string t.f5.f0)).setCell (p := ⟨T, 6, none⟩) HTW.out.1 (.string t.f5.f1)).setCell (p := ⟨T, 7, none⟩) HTW.out.1 (.slice A7 t.f5.f2.length c7)).setCell (p := ⟨T, 8, none⟩) HTW.out.1 (.slice A8 t.f5.f3.length c8)).setCell (p := ⟨T, 9, none⟩) HTW.out.1 (.slice A9 t.f6.f0.length c9))
      have HB3 := Aside0.mk (HB.out.up HXB3.out)
      have HX3 := HX
      obtain ⟨_, _, _, _, _, _, hNw⟩ := HB.out
      have HNW := Aside0.mk hNw
      clear HX HXN hNw hx0 hx1 hx2 hx3 hx4 hx5 hx6 hx7 hx8 hx9 hz0 hz1 hz2 hz3 hz4 hz5 hz6 hz7 hz8 hz9 hf0 hf1 hf2 hf3 hf4 hf5 hf6 hf7 hf8 hf9
      generalize ((((((((((w3.setCell ⟨T, 0, none⟩ (.int .i64 t.f0)).setCell ⟨T, 1, none⟩ (.int .i64 t.f1)).setCell ⟨T, 2, none⟩ (.int .i64 t.f2)).setCell ⟨T, 3, none⟩ (.int .i64 t.f3)).setCell ⟨T, 4, none⟩ (.string t.f4)).setCell ⟨T, 5, none⟩ (.string t.f5.f0)).setCell ⟨T, 6, none⟩ (.string t.f5.f1)).setCell ⟨T, 7, none⟩ (.slice A7 t.f5.f2.length c7)).setCell ⟨T, 8, none⟩ (.slice A8 t.f5.f3.length c8)).setCell ⟨T, 9, none⟩ (.slice A9 t.f6.f0.length c9)) = w4 at n0_ n1_ n2_ n3_ ⊢
      have HB4 := Aside0.mk (HB3.out.far HX3.out (by decide) n2_.out HTW.out.2)
      have HL4 := Aside0.mk ((HL.out.up HNW.out HXB3.out).far n0_.out HTW.out.2)
      obtain ⟨⟨p, pe⟩, hp⟩ : ∃ q, putS t = q := ⟨_, rfl⟩
      have HPT := Aside0.mk (put_calls22 t A7 c7 A8 c8 A9 c9 w4 ⟨Kd.C_below HSC.out.h7 n3_.out, HSC.out.l7, Kd.C_below HSC.out.h8 n3_.out, HSC.out.l8, Kd.C_below HSC.out.h9 n3_.out, HSC.out.l9⟩ HFT.out.1 p pe hp)
      unfold stV at HPT
      have HP := Aside0.mk hp
      clear hp HB HL HB3 HX3 HXB3 n0_ n2_ HBW HSC HNW n3_
      have hx0 := blk_cell n1_.out 0
      have hx1 := blk_cell n1_.out 1
      have hx2 := blk_cell n1_.out 2
      have hx3 := blk_cell n1_.out 3
      have hx4 := blk_cell n1_.out 4
      have hx5 := blk_cell n1_.out 5
      have hx6 := blk_cell n1_.out 6
      have hx7 := blk_cell n1_.out 7
      have hx8 := blk_cell n1_.out 8
      have hx9 := blk_cell n1_.out 9
      go_wp2_with fail
      refine HPT.out.mono ?_
      rintro e w5 ⟨v5, rfl, ho, hb⟩
      obtain ⟨A5, c5, e5⟩ := Kd.R_slice ho
      subst e5
      obtain ⟨-, hc5, hC5⟩ := Kd.R_reads' ho
      have HB5 := Aside0.mk (HB4.out.up hb)
      have hN4 : N ≤ w4.heap.size := by obtain ⟨_, _, _, _, _, _, h2⟩ := HB4.out; exact h2
      have HL5 := Aside0.mk (HL4.out.up hN4 hb)
      have hN5 : N ≤ w5.heap.size := by obtain ⟨_, _, _, _, _, _, h2⟩ := HB5.out; exact h2
      clear hx0 hx1 hx2 hx3 hx4 hx5 hx6 hx7 hx8 hx9 HPT HB4 HL4 ho hb n1_ hN4
      by_cases h0 : pe = 0
      · subst h0
        have hok : (putS t).2 = 0 := by rw [HP.out]
        have hpe : p = encS t := by have := (putS_inv hok).2.2; rw [HP.out] at this; exact (Prod.mk.inj this).1
        have HO := Aside0.mk (HFT.out.1.ok hok)
        have HS2 := HS.out
        rw [HY.out hok] at HS2
        have HS3 := Aside0.mk HS2
        subst hpe
        have hez := encS_size HO.out
        have hf4 := HFT.out.2
        have HW := Aside0.mk (written_calls A5 c5 (encS t) w5 hC5 hc5 (encS_bytes t) (by omega))
        have hst : ¬ 9223372036854775807 < (strOfNums (hexL (encS t))).size + 1 := by
          rw [← bytes_length, bytesOf_strOfNums (hexL_bytes (encS_bytes t)), hexL_len]; omega
        have hss : (strOfNums (hexL (encS t)) ++ (⟨#[10]⟩ : ByteArray)).size = 2 * (encS t).length + 1 := by
          rw [← bytes_length, bytes_line, lineT_len]
        clear hok HS2 HS hc5 hC5 HP HY HNO
        go_wp2_with fail
        refine HW.out.mono ?_
        rintro e w6 ⟨rfl, hb⟩
        have HB6 := Aside0.mk (HB5.out.up hb)
        have HL6 := Aside0.mk (HL5.out.up hN5 hb)
        have hN6 : N ≤ w6.heap.size := Nat.le_trans hN5 hb.size
        clear HW HB5 HL5 hb
        go_wp2_with fail
        refine (writeString_calls N B _ _ w6 (by rw [hss]; omega) HB6.out).mono ?_
        rintro e w7 ⟨⟨v7, rfl⟩, hb, hl⟩
        rw [bytes_line] at hb
        have HB7 : Aside0 (Bld N B (printL (l.take (i + 1))) w7) := ⟨by rw [HSN.out, printL_snoc]; exact hb⟩
        have HL7 := Aside0.mk (HL6.out.trans hl)
        have HOK2 : Aside0 (∀ t ∈ l.take (i + 1), OkS t ∧ t.f4.size ≤ 100000) := ⟨fun x hx => by
          rw [HSN.out] at hx
          rcases List.mem_append.1 hx with hx | hx
          · exact HOK.out x hx
          · rw [List.mem_singleton.1 hx]; exact ⟨HO.out, HFT.out.2⟩⟩
        clear HB6 HL6 hb hl hss hst
        go_wp2_with fail
        go_roundg (l.length - (i + 1))
        case measure => have := HE.out; omega
        case rel => exact ⟨i + 1, by go_num, ⟨by have := HE.out; omega⟩, HS3, HOK2, HB7, HL7⟩
      · have hbn : (pe != 0) = true := bne_iff_ne.mpr h0
        have HS2 := HS.out
        have hne : (putS t).2 ≠ 0 := by rw [HP.out]; exact h0
        rw [HNO.out hne, if_pos hne, HP.out] at HS2
        obtain ⟨rfl, rfl⟩ := Prod.mk.inj HS2
        have HBF := Aside0.mk (HXB.out.trans (HL5.out.below HNB.out.1 HNB.out.2.1))
        clear HS2 HS hne HP HNO HY hc5 hC5
        go_wp2_with fail
        go_ret2
        exact ⟨rfl, HBF.out⟩
    · have hb1 : decide ((i : Int) < (l.length : Int)) = false := decide_eq_false (by omega)
      have HS2 := HS.out
      rw [List.drop_eq_nil_of_le (by omega)] at HS2
      obtain ⟨rfl, rfl⟩ := Prod.mk.inj ((if_neg (by simp [firstS])).symm.trans HS2)
      have HB2 : Aside0 (Bld N B (printL l) wr) := ⟨by have := HB.out; rwa [List.take_of_length_le (by omega)] at this⟩
      clear HB HS HS2
      go_wp2_with fail
      refine (string_calls N B _ wr (printL_bytes l) HB2.out).mono ?_
      rintro e w2 ⟨rfl, hb2⟩
      have HB3 := Aside0.mk (HBW.out.trans (hb2.mono HNB.out.2.1))
      clear hb2
      go_wp2
      go_ret2
      exact ⟨rfl, HB3.out⟩
end Go.Proofs.Ytocpcnmnhckcpaa.Prt
namespace Go.Proofs.Ytocpcnmnhckcpaa.Prt
open Go.RowKit Go.Proofs.YtocpcnmnhckcpaaW.PrintWords Go.Proofs.YtocpcnmnhckcpaaW.PrintLast Go.Proofs.YtocpcnmnhckcpaaW.PrintMore Go.Proofs.Ytocpcnmnhckcpaa.Num Go.Proofs.Ytocpcnmnhckcpaa.Nam
set_option linter.unusedVariables false
set_option linter.unusedSimpArgs false

theorem drop_rdC (l : List S92) (i : Nat) (h : i < l.length) : l.drop i = rd_T92 l (i : Int) :: l.drop (i + 1) := by
  rw [List.drop_eq_getElem_cons h]
  unfold rd_T92
  rw [Int.toNat_natCast, List.getD_eq_getElem?_getD, List.getElem?_eq_getElem h]; rfl
theorem rdC_mem {l : List S92} {i : Nat} (h : i < l.length) : rd_T92 l (i : Int) ∈ l := getD_mem' h _
end Go.Proofs.Ytocpcnmnhckcpaa.Prt
namespace Go.Proofs.Ytocpcnmnhckcpaa.Prt
open Go.RowKit Go.Proofs.YtocpcnmnhckcpaaW.PrintWords Go.Proofs.YtocpcnmnhckcpaaW.PrintLast Go.Proofs.YtocpcnmnhckcpaaW.PrintMore
attribute [local go_sem] max2_int min2_int max_two min_two max_three min_three max_four min_four   -- for this text's walks alone
set_option linter.unusedVariables false
set_option linter.unusedSimpArgs false

def registrarref06_Same.l0 : Nat → Int → List (S92) → List (S92) → Option (Bool)
  | 0, _, _, _ => none
  | k + 1, x5, x164000, x165000 => if x5 < (x164000.length : Int) then (if 0 ≤ x5 then (if x5 < (x165000.length : Int) then ((registrarref04_TextsG.f ((rd_T92 x164000 x5).f0) ((rd_T92 x165000 x5).f0)).bind fun t167 => ((registrarref04_TextsG.f ((rd_T92 x164000 x5).f1) ((rd_T92 x165000 x5).f1)).bind fun t170 => (if t167 = true then (if t170 = true then (registrarref06_Same.l0 k (wrap64 (x5 + 1)) x164000 x165000) else (some false)) else (some false)))) else (none)) else (none)) else (some true)
def registrarref06_Same.f (k : Nat) (l0_0 : List (S92)) (l1_0 : List (S92)) : Option (Bool) := if (l0_0.length : Int) = (l1_0.length : Int) then (registrarref06_Same.l0 k 0 l0_0 l1_0) else (some false)
set_option maxHeartbeats 8000000 in
set_option maxRecDepth 100000 in
theorem registrarref06_Same.calls (k : Nat) (A0_0 : Option Addr) (c0_0 : Nat) (l0_0 : List (S92)) (A1_0 : Option Addr) (c1_0 : Nat) (l1_0 : List (S92)) (r : Bool) (w : World) (hr0_0 : Kd.C k92 w A0_0 l0_0.length l0_0) (hc0_0 : l0_0.length ≤ c0_0) (hr1_0 : Kd.C k92 w A1_0 l1_0.length l1_0) (hc1_0 : l1_0.length ≤ c1_0) (h : registrarref06_Same.f k l0_0 l1_0 = some r) :
    Calls Try.prog 21 #[.agg #[.slice A0_0 l0_0.length c0_0], .agg #[.slice A1_0 l1_0.length c1_0]] w fun e w' => e = .returned (.bool r) ∧ Below w.heap.size w w' := by
  have hu34 := Try.underlying34
  have HR0_0 := Aside0.mk hr0_0
  have HC0_0 := Aside0.mk hc0_0
  clear hr0_0 hc0_0
  have HR1_0 := Aside0.mk hr1_0
  have HC1_0 := Aside0.mk hc1_0
  clear hr1_0 hc1_0
  have HB := Aside0.mk (Below.refl w.heap.size w)
  have H : (if (l0_0.length : Int) = (l1_0.length : Int) then (registrarref06_Same.l0 k 0 l0_0 l1_0) else (some false)) = some r := h
  clear h
  by_cases c3 : (l0_0.length : Int) = (l1_0.length : Int)
  · rw [if_pos c3] at H
    have c3b0 : ((l0_0.length : Int) == (l1_0.length : Int)) = true := beq_iff_eq.mpr c3
    have c3b1 : ((l0_0.length : Int) != (l1_0.length : Int)) = false := bne_eq_false_iff_eq.mpr c3
    have c3b2 : (l0_0.length == l1_0.length) = true := by first | simpa using c3 | (simp at c3 ⊢; omega)
    clear c3
    have H' := Aside0.mk H
    clear H
    go_enter Try.func21, Try.ntmps21
    go_wp2_with (first | ((with_reducible refine gate_dst (N := 2) rfl ?_); refine box_event ?hg (N := 2) ?hd (cs := #[.slice A0_0 l0_0.length c0_0]) (t := 34) ?hr ?_; (case hd => rfl); (case hg => rfl); (case hr => first | (go_simp; done) | (go_simp; rfl)); intro gb163 hg w4 hbox hb; have n0_ := Aside0.mk (below_step (by repeat (first | (with_reducible first | exact HB.out | apply below_alloc | apply pw_below_drewN | apply below_drew1) | exact HB.out)) hb); have n1_ := Aside0.mk (hbox); have n2_ := Aside0.mk ((by rw [hg]; exact (below_size (by repeat (first | (with_reducible first | exact HB.out | apply below_alloc | apply pw_below_drewN | apply below_drew1) | exact HB.out))) : w.heap.size ≤ gb163)); have n3_ := Aside0.mk ((by rw [hg]; exact (below_size (by repeat (first | (with_reducible first | exact HB.out | apply below_alloc | apply pw_below_drewN | apply below_drew1) | exact HB.out))) : w.heap.size ≤ gb163)); clear HB; have HB := n0_; have BK163 := n1_; have GW163 := n2_; have GE163 := n3_; clear n0_ n1_ n2_ n3_; clear hb hbox hg) | ((with_reducible refine gate_dst (N := 3) rfl ?_); refine box_event ?hg (N := 3) ?hd (cs := #[.slice A1_0 l1_0.length c1_0]) (t := 34) ?hr ?_; (case hd => rfl); (case hg => rfl); (case hr => first | (go_simp; done) | (go_simp; rfl)); intro gb164 hg w5 hbox hb; have n0_ := Aside0.mk (blk_below (g := gb163) (o := .cells #[.slice A0_0 l0_0.length c0_0] 34 (0, 0)) (by (with_reducible repeat (first | refine blk_drewN ?_ _ | refine blk_drew ?_ | refine blk_alloc ?_ _)); exact BK163.out) hb); have n1_ := Aside0.mk (below_step (by repeat (first | (with_reducible first | exact HB.out | apply below_alloc | apply pw_below_drewN | apply below_drew1 | refine below_set ?_ GE163.out) | exact HB.out)) hb); have n2_ := Aside0.mk (hbox); have n3_ := Aside0.mk ((by rw [hg]; exact (below_size (by repeat (first | (with_reducible first | exact HB.out | apply below_alloc | apply pw_below_drewN | apply below_drew1 | refine below_set ?_ GE163.out) | exact HB.out))) : w.heap.size ≤ gb164)); have n4_ := Aside0.mk ((by rw [hg]; exact (below_size (by repeat (first | (with_reducible first | exact HB.out | apply below_alloc | apply pw_below_drewN | apply below_drew1 | refine below_set ?_ GE163.out) | exact HB.out))) : w.heap.size ≤ gb164)); have n5_ := Aside0.mk ((by rw [hg]; exact Nat.ne_of_lt (blk_lt (g := gb163) (o := .cells #[.slice A0_0 l0_0.length c0_0] 34 (0, 0)) (by (with_reducible repeat (first | refine blk_drewN ?_ _ | refine blk_drew ?_ | refine blk_alloc ?_ _)); exact BK163.out)) : gb163 ≠ gb164)); have n6_ := Aside0.mk ((by rw [hg]; exact Nat.ne_of_gt (blk_lt (g := gb163) (o := .cells #[.slice A0_0 l0_0.length c0_0] 34 (0, 0)) (by (with_reducible repeat (first | refine blk_drewN ?_ _ | refine blk_drew ?_ | refine blk_alloc ?_ _)); exact BK163.out)) : gb164 ≠ gb163)); clear BK163; clear HB; have BK163 := n0_; have HB := n1_; have BK164 := n2_; have GW164 := n3_; have GE164 := n4_; have NB163_164 := n5_; have NB164_163 := n6_; clear n0_ n1_ n2_ n3_ n4_ n5_ n6_; clear hb hbox hg; have hnb6 := NB163_164.out; have hnc6 := NB164_163.out; have hcz7_0 : w5.cell? ⟨gb163, 0, none⟩ = some (.slice A0_0 l0_0.length c0_0) := (blk_cell BK163.out 0).trans rfl; have hfz7_0 := blk_frozen BK163.out 0; have hcz8_0 : w5.cell? ⟨gb164, 0, none⟩ = some (.slice A1_0 l1_0.length c1_0) := (blk_cell BK164.out 0).trans rfl; have hfz8_0 := blk_frozen BK164.out 0))
    repeat (go_quiet (first | ((with_reducible refine gate_dst (N := 2) rfl ?_); refine box_event ?hg (N := 2) ?hd (cs := #[.slice A0_0 l0_0.length c0_0]) (t := 34) ?hr ?_; (case hd => rfl); (case hg => rfl); (case hr => first | (go_simp; done) | (go_simp; rfl)); intro gb163 hg w4 hbox hb; have n0_ := Aside0.mk (below_step (by repeat (first | (with_reducible first | exact HB.out | apply below_alloc | apply pw_below_drewN | apply below_drew1) | exact HB.out)) hb); have n1_ := Aside0.mk (hbox); have n2_ := Aside0.mk ((by rw [hg]; exact (below_size (by repeat (first | (with_reducible first | exact HB.out | apply below_alloc | apply pw_below_drewN | apply below_drew1) | exact HB.out))) : w.heap.size ≤ gb163)); have n3_ := Aside0.mk ((by rw [hg]; exact (below_size (by repeat (first | (with_reducible first | exact HB.out | apply below_alloc | apply pw_below_drewN | apply below_drew1) | exact HB.out))) : w.heap.size ≤ gb163)); clear HB; have HB := n0_; have BK163 := n1_; have GW163 := n2_; have GE163 := n3_; clear n0_ n1_ n2_ n3_; clear hb hbox hg) | ((with_reducible refine gate_dst (N := 3) rfl ?_); refine box_event ?hg (N := 3) ?hd (cs := #[.slice A1_0 l1_0.length c1_0]) (t := 34) ?hr ?_; (case hd => rfl); (case hg => rfl); (case hr => first | (go_simp; done) | (go_simp; rfl)); intro gb164 hg w5 hbox hb; have n0_ := Aside0.mk (blk_below (g := gb163) (o := .cells #[.slice A0_0 l0_0.length c0_0] 34 (0, 0)) (by (with_reducible repeat (first | refine blk_drewN ?_ _ | refine blk_drew ?_ | refine blk_alloc ?_ _)); exact BK163.out) hb); have n1_ := Aside0.mk (below_step (by repeat (first | (with_reducible first | exact HB.out | apply below_alloc | apply pw_below_drewN | apply below_drew1 | refine below_set ?_ GE163.out) | exact HB.out)) hb); have n2_ := Aside0.mk (hbox); have n3_ := Aside0.mk ((by rw [hg]; exact (below_size (by repeat (first | (with_reducible first | exact HB.out | apply below_alloc | apply pw_below_drewN | apply below_drew1 | refine below_set ?_ GE163.out) | exact HB.out))) : w.heap.size ≤ gb164)); have n4_ := Aside0.mk ((by rw [hg]; exact (below_size (by repeat (first | (with_reducible first | exact HB.out | apply below_alloc | apply pw_below_drewN | apply below_drew1 | refine below_set ?_ GE163.out) | exact HB.out))) : w.heap.size ≤ gb164)); have n5_ := Aside0.mk ((by rw [hg]; exact Nat.ne_of_lt (blk_lt (g := gb163) (o := .cells #[.slice A0_0 l0_0.length c0_0] 34 (0, 0)) (by (with_reducible repeat (first | refine blk_drewN ?_ _ | refine blk_drew ?_ | refine blk_alloc ?_ _)); exact BK163.out)) : gb163 ≠ gb164)); have n6_ := Aside0.mk ((by rw [hg]; exact Nat.ne_of_gt (blk_lt (g := gb163) (o := .cells #[.slice A0_0 l0_0.length c0_0] 34 (0, 0)) (by (with_reducible repeat (first | refine blk_drewN ?_ _ | refine blk_drew ?_ | refine blk_alloc ?_ _)); exact BK163.out)) : gb164 ≠ gb163)); clear BK163; clear HB; have BK163 := n0_; have HB := n1_; have BK164 := n2_; have GW164 := n3_; have GE164 := n4_; have NB163_164 := n5_; have NB164_163 := n6_; clear n0_ n1_ n2_ n3_ n4_ n5_ n6_; clear hb hbox hg; have hnb6 := NB163_164.out; have hnc6 := NB164_163.out; have hcz7_0 : w5.cell? ⟨gb163, 0, none⟩ = some (.slice A0_0 l0_0.length c0_0) := (blk_cell BK163.out 0).trans rfl; have hfz7_0 := blk_frozen BK163.out 0; have hcz8_0 : w5.cell? ⟨gb164, 0, none⟩ = some (.slice A1_0 l1_0.length c1_0) := (blk_cell BK164.out 0).trans rfl; have hfz8_0 := blk_frozen BK164.out 0)); try go_wp2_with (first | ((with_reducible refine gate_dst (N := 2) rfl ?_); refine box_event ?hg (N := 2) ?hd (cs := #[.slice A0_0 l0_0.length c0_0]) (t := 34) ?hr ?_; (case hd => rfl); (case hg => rfl); (case hr => first | (go_simp; done) | (go_simp; rfl)); intro gb163 hg w4 hbox hb; have n0_ := Aside0.mk (below_step (by repeat (first | (with_reducible first | exact HB.out | apply below_alloc | apply pw_below_drewN | apply below_drew1) | exact HB.out)) hb); have n1_ := Aside0.mk (hbox); have n2_ := Aside0.mk ((by rw [hg]; exact (below_size (by repeat (first | (with_reducible first | exact HB.out | apply below_alloc | apply pw_below_drewN | apply below_drew1) | exact HB.out))) : w.heap.size ≤ gb163)); have n3_ := Aside0.mk ((by rw [hg]; exact (below_size (by repeat (first | (with_reducible first | exact HB.out | apply below_alloc | apply pw_below_drewN | apply below_drew1) | exact HB.out))) : w.heap.size ≤ gb163)); clear HB; have HB := n0_; have BK163 := n1_; have GW163 := n2_; have GE163 := n3_; clear n0_ n1_ n2_ n3_; clear hb hbox hg) | ((with_reducible refine gate_dst (N := 3) rfl ?_); refine box_event ?hg (N := 3) ?hd (cs := #[.slice A1_0 l1_0.length c1_0]) (t := 34) ?hr ?_; (case hd => rfl); (case hg => rfl); (case hr => first | (go_simp; done) | (go_simp; rfl)); intro gb164 hg w5 hbox hb; have n0_ := Aside0.mk (blk_below (g := gb163) (o := .cells #[.slice A0_0 l0_0.length c0_0] 34 (0, 0)) (by (with_reducible repeat (first | refine blk_drewN ?_ _ | refine blk_drew ?_ | refine blk_alloc ?_ _)); exact BK163.out) hb); have n1_ := Aside0.mk (below_step (by repeat (first | (with_reducible first | exact HB.out | apply below_alloc | apply pw_below_drewN | apply below_drew1 | refine below_set ?_ GE163.out) | exact HB.out)) hb); have n2_ := Aside0.mk (hbox); have n3_ := Aside0.mk ((by rw [hg]; exact (below_size (by repeat (first | (with_reducible first | exact HB.out | apply below_alloc | apply pw_below_drewN | apply below_drew1 | refine below_set ?_ GE163.out) | exact HB.out))) : w.heap.size ≤ gb164)); have n4_ := Aside0.mk ((by rw [hg]; exact (below_size (by repeat (first | (with_reducible first | exact HB.out | apply below_alloc | apply pw_below_drewN | apply below_drew1 | refine below_set ?_ GE163.out) | exact HB.out))) : w.heap.size ≤ gb164)); have n5_ := Aside0.mk ((by rw [hg]; exact Nat.ne_of_lt (blk_lt (g := gb163) (o := .cells #[.slice A0_0 l0_0.length c0_0] 34 (0, 0)) (by (with_reducible repeat (first | refine blk_drewN ?_ _ | refine blk_drew ?_ | refine blk_alloc ?_ _)); exact BK163.out)) : gb163 ≠ gb164)); have n6_ := Aside0.mk ((by rw [hg]; exact Nat.ne_of_gt (blk_lt (g := gb163) (o := .cells #[.slice A0_0 l0_0.length c0_0] 34 (0, 0)) (by (with_reducible repeat (first | refine blk_drewN ?_ _ | refine blk_drew ?_ | refine blk_alloc ?_ _)); exact BK163.out)) : gb164 ≠ gb163)); clear BK163; clear HB; have BK163 := n0_; have HB := n1_; have BK164 := n2_; have GW164 := n3_; have GE164 := n4_; have NB163_164 := n5_; have NB164_163 := n6_; clear n0_ n1_ n2_ n3_ n4_ n5_ n6_; clear hb hbox hg; have hnb6 := NB163_164.out; have hnc6 := NB164_163.out; have hcz7_0 : w5.cell? ⟨gb163, 0, none⟩ = some (.slice A0_0 l0_0.length c0_0) := (blk_cell BK163.out 0).trans rfl; have hfz7_0 := blk_frozen BK163.out 0; have hcz8_0 : w5.cell? ⟨gb164, 0, none⟩ = some (.slice A1_0 l1_0.length c1_0) := (blk_cell BK164.out 0).trans rfl; have hfz8_0 := blk_frozen BK164.out 0)))
    go_loopg [5] k (fun kq v5 w' => ∃ (x5_1 : Int), v5 = .int .i64 x5_1 ∧ Aside0 (registrarref06_Same.l0 kq x5_1 l0_0 l1_0 = some r) ∧ Aside0 (kq ≤ k) ∧ Aside0 (w'.heap[gb163]? = some (.cells #[(.slice A0_0 l0_0.length c0_0)] 34 (0, 0))) ∧ Aside0 (w'.heap[gb164]? = some (.cells #[(.slice A1_0 l1_0.length c1_0)] 34 (0, 0))) ∧ Aside0 (Below w.heap.size w w'))
    case atStart => exact ⟨(0), (by first | rfl | (simp; done) | (simp [*]; done)), H', ⟨Nat.le_refl _⟩, ⟨by (with_reducible repeat (first | refine blk_drewN ?_ _ | refine blk_drew ?_ | refine blk_alloc ?_ _)); exact BK163.out⟩, ⟨by (with_reducible repeat (first | refine blk_drewN ?_ _ | refine blk_drew ?_ | refine blk_alloc ?_ _)); exact BK164.out⟩, ⟨by repeat (first | (with_reducible first | exact HB.out | apply below_alloc | apply pw_below_drewN | apply below_drew1 | refine below_set ?_ GE163.out | refine below_set ?_ GE164.out) | exact HB.out)⟩⟩
    case round =>
      clear H'
      try clear c1
      try clear c2
      try clear p2
      try clear c3
      try clear c3b0
      try clear c3b1
      try clear c3b2
      try clear c6
      try clear hcz7_0
      try clear hcz8_0
      try clear hfz7_0
      try clear hfz8_0
      obtain ⟨x5_1, rfl, HA, HK1, BK163, BK164, HB⟩ := hrel
      cases gk with
      | zero => exact absurd HA.out (by simp [registrarref06_Same.l0])
      | succ k1 =>
        have H := HA.out
        clear HA
        simp only [registrarref06_Same.l0] at H
        by_cases c9 : x5_1 < (l0_0.length : Int)
        · rw [if_pos c9] at H
          have c9b0 : decide (x5_1 < (l0_0.length : Int)) = true := decide_eq_true c9
          clear c9
          by_cases c10 : 0 ≤ x5_1
          · rw [if_pos c10] at H
            have c10b0 : decide (0 ≤ x5_1) = true := decide_eq_true c10
            clear c10
            by_cases c11 : x5_1 < (l1_0.length : Int)
            · rw [if_pos c11] at H
              have c11b0 : decide (x5_1 < (l1_0.length : Int)) = true := decide_eq_true c11
              clear c11
              replace H := Option.bind_eq_some_iff.mp H
              obtain ⟨t167, A120, H⟩ := H
              replace H : ((registrarref04_TextsG.f ((rd_T92 l0_0 x5_1).f1) ((rd_T92 l1_0 x5_1).f1)).bind fun t170 => (if t167 = true then (if t170 = true then (registrarref06_Same.l0 k1 (wrap64 (x5_1 + 1)) l0_0 l1_0) else (some false)) else (some false))) = some r := H
              have A12 := Aside0.mk A120
              clear A120
              replace H := Option.bind_eq_some_iff.mp H
              obtain ⟨t170, A130, H⟩ := H
              replace H : (if t167 = true then (if t170 = true then (registrarref06_Same.l0 k1 (wrap64 (x5_1 + 1)) l0_0 l1_0) else (some false)) else (some false)) = some r := H
              have A13 := Aside0.mk A130
              clear A130
              by_cases c14 : t167 = true
              · subst c14
                have H1 : (if t170 = true then (registrarref06_Same.l0 k1 (wrap64 (x5_1 + 1)) l0_0 l1_0) else (some false)) = some r := by rw [if_pos rfl] at H; exact H
                clear H
                have H := H1
                clear H1
                by_cases c15 : t170 = true
                · subst c15
                  have H1 : (registrarref06_Same.l0 k1 (wrap64 (x5_1 + 1)) l0_0 l1_0) = some r := by rw [if_pos rfl] at H; exact H
                  clear H
                  have H := H1
                  clear H1
                  have H' := Aside0.mk H
                  clear H
                  have hnb16 := NB163_164.out
                  have hnc16 := NB164_163.out
                  have hcz17_0 : wr.cell? ⟨gb163, 0, none⟩ = some (.slice A0_0 l0_0.length c0_0) := (blk_cell BK163.out 0).trans rfl
                  have hfz17_0 := blk_frozen BK163.out 0
                  have p165 : 0 ≤ (x5_1 : Int) := of_decide_eq_true (by first | (with_reducible assumption) | assumption)
                  have q165 : x5_1 < (l0_0.length : Int) := of_decide_eq_true (by first | (with_reducible assumption) | assumption)
                  obtain ⟨ad165, A165_0, c165_0, A165_1, c165_1, e165, hx165_0, hx165_1, hl165_0, hi165_0, hl165_1, hi165_1⟩ := at_T92 HR0_0.out x5_1 p165 q165
                  cases e165
                  replace hx165_0 := (HB.out.cell (World.block_lt_of_cell? w _ hx165_0)).trans hx165_0
                  replace hx165_1 := (HB.out.cell (World.block_lt_of_cell? w _ hx165_1)).trans hx165_1
                  have HR165_0 := Aside0.mk hi165_0
                  have HC165_0 := Aside0.mk hl165_0
                  clear hi165_0 hl165_0
                  have HR165_1 := Aside0.mk hi165_1
                  have HC165_1 := Aside0.mk hl165_1
                  clear hi165_1 hl165_1
                  replace p165 := eq_true p165
                  replace q165 := eq_true q165
                  have hcz18_0 : wr.cell? ⟨gb164, 0, none⟩ = some (.slice A1_0 l1_0.length c1_0) := (blk_cell BK164.out 0).trans rfl
                  have hfz18_0 := blk_frozen BK164.out 0
                  have p166 : 0 ≤ (x5_1 : Int) := of_decide_eq_true (by first | (with_reducible assumption) | assumption)
                  have q166 : x5_1 < (l1_0.length : Int) := of_decide_eq_true (by first | (with_reducible assumption) | assumption)
                  obtain ⟨ad166, A166_0, c166_0, A166_1, c166_1, e166, hx166_0, hx166_1, hl166_0, hi166_0, hl166_1, hi166_1⟩ := at_T92 HR1_0.out x5_1 p166 q166
                  cases e166
                  replace hx166_0 := (HB.out.cell (World.block_lt_of_cell? w _ hx166_0)).trans hx166_0
                  replace hx166_1 := (HB.out.cell (World.block_lt_of_cell? w _ hx166_1)).trans hx166_1
                  have HR166_0 := Aside0.mk hi166_0
                  have HC166_0 := Aside0.mk hl166_0
                  clear hi166_0 hl166_0
                  have HR166_1 := Aside0.mk hi166_1
                  have HC166_1 := Aside0.mk hl166_1
                  clear hi166_1 hl166_1
                  replace p166 := eq_true p166
                  replace q166 := eq_true q166
                  go_wp2_with (first | (go_at_call 44; (with_reducible refine (registrarref04_TextsG.calls _ _ ((rd_T92 l0_0 x5_1).f0) _ _ ((rd_T92 l1_0 x5_1).f0) true _ ?side1 ?side2 ?side3 ?side4 A12.out).mono ?_); (case side1 => repeat (first | exact (Kd.C_below HR165_0.out HB.out) | (with_reducible refine Kd.C_alloc ?_ _) | (with_reducible refine Kd.C_drewN ?_ _) | (with_reducible refine Kd.C_drew ?_))); (case side2 => exact HC165_0.out); (case side3 => repeat (first | exact (Kd.C_below HR166_0.out HB.out) | (with_reducible refine Kd.C_alloc ?_ _) | (with_reducible refine Kd.C_drewN ?_ _) | (with_reducible refine Kd.C_drew ?_))); (case side4 => exact HC166_0.out); rintro e w' ⟨rfl, ⟨nd, rfl⟩⟩; (try first | exact ⟨rfl, _, World.drewN_drewN _ _ _⟩ | exact ⟨rfl, _, Eq.trans (World.drewN_drewN _ _ _) (congrArg (World.drewN _) (Nat.add_assoc _ _ _))⟩); have p168 : 0 ≤ (x5_1 : Int) := of_decide_eq_true (by first | (with_reducible assumption) | assumption); have q168 : x5_1 < (l0_0.length : Int) := of_decide_eq_true (by first | (with_reducible assumption) | assumption); obtain ⟨ad168, A168_0, c168_0, A168_1, c168_1, e168, hx168_0, hx168_1, hl168_0, hi168_0, hl168_1, hi168_1⟩ := at_T92 HR0_0.out x5_1 p168 q168; obtain rfl : ad165 = ad168 := (by injection e168); replace hx168_0 := (HB.out.cell (World.block_lt_of_cell? w _ hx168_0)).trans hx168_0; replace hx168_1 := (HB.out.cell (World.block_lt_of_cell? w _ hx168_1)).trans hx168_1; have HR168_0 := Aside0.mk hi168_0; have HC168_0 := Aside0.mk hl168_0; clear hi168_0 hl168_0; have HR168_1 := Aside0.mk hi168_1; have HC168_1 := Aside0.mk hl168_1; clear hi168_1 hl168_1; replace p168 := eq_true p168; replace q168 := eq_true q168; have ea_ := Option.some.inj (hx165_0.symm.trans hx168_0); injection ea_ with ea_ en_ ec_; subst ea_; subst ec_; clear en_; have ea_ := Option.some.inj (hx165_1.symm.trans hx168_1); injection ea_ with ea_ en_ ec_; subst ea_; subst ec_; clear en_; have p169 : 0 ≤ (x5_1 : Int) := of_decide_eq_true (by first | (with_reducible assumption) | assumption); have q169 : x5_1 < (l1_0.length : Int) := of_decide_eq_true (by first | (with_reducible assumption) | assumption); obtain ⟨ad169, A169_0, c169_0, A169_1, c169_1, e169, hx169_0, hx169_1, hl169_0, hi169_0, hl169_1, hi169_1⟩ := at_T92 HR1_0.out x5_1 p169 q169; obtain rfl : ad166 = ad169 := (by injection e169); replace hx169_0 := (HB.out.cell (World.block_lt_of_cell? w _ hx169_0)).trans hx169_0; replace hx169_1 := (HB.out.cell (World.block_lt_of_cell? w _ hx169_1)).trans hx169_1; have HR169_0 := Aside0.mk hi169_0; have HC169_0 := Aside0.mk hl169_0; clear hi169_0 hl169_0; have HR169_1 := Aside0.mk hi169_1; have HC169_1 := Aside0.mk hl169_1; clear hi169_1 hl169_1; replace p169 := eq_true p169; replace q169 := eq_true q169; have ea_ := Option.some.inj (hx166_0.symm.trans hx169_0); injection ea_ with ea_ en_ ec_; subst ea_; subst ec_; clear en_; have ea_ := Option.some.inj (hx166_1.symm.trans hx169_1); injection ea_ with ea_ en_ ec_; subst ea_; subst ec_; clear en_) | (go_at_call 44; (with_reducible refine (registrarref04_TextsG.calls _ _ ((rd_T92 l0_0 x5_1).f1) _ _ ((rd_T92 l1_0 x5_1).f1) true _ ?side1 ?side2 ?side3 ?side4 A13.out).mono ?_); (case side1 => repeat (first | exact (Kd.C_below HR168_1.out (by repeat (first | (with_reducible first | exact HB.out | apply below_alloc | apply pw_below_drewN | apply below_drew1 | refine below_set ?_ GE163.out | refine below_set ?_ GE164.out) | exact HB.out))) | (with_reducible refine Kd.C_alloc ?_ _) | (with_reducible refine Kd.C_drewN ?_ _) | (with_reducible refine Kd.C_drew ?_))); (case side2 => exact HC168_1.out); (case side3 => repeat (first | exact (Kd.C_below HR169_1.out (by repeat (first | (with_reducible first | exact HB.out | apply below_alloc | apply pw_below_drewN | apply below_drew1 | refine below_set ?_ GE163.out | refine below_set ?_ GE164.out) | exact HB.out))) | (with_reducible refine Kd.C_alloc ?_ _) | (with_reducible refine Kd.C_drewN ?_ _) | (with_reducible refine Kd.C_drew ?_))); (case side4 => exact HC169_1.out); rintro e w' ⟨rfl, ⟨nd, rfl⟩⟩; (try first | exact ⟨rfl, _, World.drewN_drewN _ _ _⟩ | exact ⟨rfl, _, Eq.trans (World.drewN_drewN _ _ _) (congrArg (World.drewN _) (Nat.add_assoc _ _ _))⟩)))
                  repeat (go_quiet (first | (go_at_call 44; (with_reducible refine (registrarref04_TextsG.calls _ _ ((rd_T92 l0_0 x5_1).f0) _ _ ((rd_T92 l1_0 x5_1).f0) true _ ?side1 ?side2 ?side3 ?side4 A12.out).mono ?_); (case side1 => repeat (first | exact (Kd.C_below HR165_0.out HB.out) | (with_reducible refine Kd.C_alloc ?_ _) | (with_reducible refine Kd.C_drewN ?_ _) | (with_reducible refine Kd.C_drew ?_))); (case side2 => exact HC165_0.out); (case side3 => repeat (first | exact (Kd.C_below HR166_0.out HB.out) | (with_reducible refine Kd.C_alloc ?_ _) | (with_reducible refine Kd.C_drewN ?_ _) | (with_reducible refine Kd.C_drew ?_))); (case side4 => exact HC166_0.out); rintro e w' ⟨rfl, ⟨nd, rfl⟩⟩; (try first | exact ⟨rfl, _, World.drewN_drewN _ _ _⟩ | exact ⟨rfl, _, Eq.trans (World.drewN_drewN _ _ _) (congrArg (World.drewN _) (Nat.add_assoc _ _ _))⟩); have p168 : 0 ≤ (x5_1 : Int) := of_decide_eq_true (by first | (with_reducible assumption) | assumption); have q168 : x5_1 < (l0_0.length : Int) := of_decide_eq_true (by first | (with_reducible assumption) | assumption); obtain ⟨ad168, A168_0, c168_0, A168_1, c168_1, e168, hx168_0, hx168_1, hl168_0, hi168_0, hl168_1, hi168_1⟩ := at_T92 HR0_0.out x5_1 p168 q168; obtain rfl : ad165 = ad168 := (by injection e168); replace hx168_0 := (HB.out.cell (World.block_lt_of_cell? w _ hx168_0)).trans hx168_0; replace hx168_1 := (HB.out.cell (World.block_lt_of_cell? w _ hx168_1)).trans hx168_1; have HR168_0 := Aside0.mk hi168_0; have HC168_0 := Aside0.mk hl168_0; clear hi168_0 hl168_0; have HR168_1 := Aside0.mk hi168_1; have HC168_1 := Aside0.mk hl168_1; clear hi168_1 hl168_1; replace p168 := eq_true p168; replace q168 := eq_true q168; have ea_ := Option.some.inj (hx165_0.symm.trans hx168_0); injection ea_ with ea_ en_ ec_; subst ea_; subst ec_; clear en_; have ea_ := Option.some.inj (hx165_1.symm.trans hx168_1); injection ea_ with ea_ en_ ec_; subst ea_; subst ec_; clear en_; have p169 : 0 ≤ (x5_1 : Int) := of_decide_eq_true (by first | (with_reducible assumption) | assumption); have q169 : x5_1 < (l1_0.length : Int) := of_decide_eq_true (by first | (with_reducible assumption) | assumption); obtain ⟨ad169, A169_0, c169_0, A169_1, c169_1, e169, hx169_0, hx169_1, hl169_0, hi169_0, hl169_1, hi169_1⟩ := at_T92 HR1_0.out x5_1 p169 q169; obtain rfl : ad166 = ad169 := (by injection e169); replace hx169_0 := (HB.out.cell (World.block_lt_of_cell? w _ hx169_0)).trans hx169_0; replace hx169_1 := (HB.out.cell (World.block_lt_of_cell? w _ hx169_1)).trans hx169_1; have HR169_0 := Aside0.mk hi169_0; have HC169_0 := Aside0.mk hl169_0; clear hi169_0 hl169_0; have HR169_1 := Aside0.mk hi169_1; have HC169_1 := Aside0.mk hl169_1; clear hi169_1 hl169_1; replace p169 := eq_true p169; replace q169 := eq_true q169; have ea_ := Option.some.inj (hx166_0.symm.trans hx169_0); injection ea_ with ea_ en_ ec_; subst ea_; subst ec_; clear en_; have ea_ := Option.some.inj (hx166_1.symm.trans hx169_1); injection ea_ with ea_ en_ ec_; subst ea_; subst ec_; clear en_) | (go_at_call 44; (with_reducible refine (registrarref04_TextsG.calls _ _ ((rd_T92 l0_0 x5_1).f1) _ _ ((rd_T92 l1_0 x5_1).f1) true _ ?side1 ?side2 ?side3 ?side4 A13.out).mono ?_); (case side1 => repeat (first | exact (Kd.C_below HR168_1.out (by repeat (first | (with_reducible first | exact HB.out | apply below_alloc | apply pw_below_drewN | apply below_drew1 | refine below_set ?_ GE163.out | refine below_set ?_ GE164.out) | exact HB.out))) | (with_reducible refine Kd.C_alloc ?_ _) | (with_reducible refine Kd.C_drewN ?_ _) | (with_reducible refine Kd.C_drew ?_))); (case side2 => exact HC168_1.out); (case side3 => repeat (first | exact (Kd.C_below HR169_1.out (by repeat (first | (with_reducible first | exact HB.out | apply below_alloc | apply pw_below_drewN | apply below_drew1 | refine below_set ?_ GE163.out | refine below_set ?_ GE164.out) | exact HB.out))) | (with_reducible refine Kd.C_alloc ?_ _) | (with_reducible refine Kd.C_drewN ?_ _) | (with_reducible refine Kd.C_drew ?_))); (case side4 => exact HC169_1.out); rintro e w' ⟨rfl, ⟨nd, rfl⟩⟩; (try first | exact ⟨rfl, _, World.drewN_drewN _ _ _⟩ | exact ⟨rfl, _, Eq.trans (World.drewN_drewN _ _ _) (congrArg (World.drewN _) (Nat.add_assoc _ _ _))⟩))); try go_wp2_with (first | (go_at_call 44; (with_reducible refine (registrarref04_TextsG.calls _ _ ((rd_T92 l0_0 x5_1).f0) _ _ ((rd_T92 l1_0 x5_1).f0) true _ ?side1 ?side2 ?side3 ?side4 A12.out).mono ?_); (case side1 => repeat (first | exact (Kd.C_below HR165_0.out HB.out) | (with_reducible refine Kd.C_alloc ?_ _) | (with_reducible refine Kd.C_drewN ?_ _) | (with_reducible refine Kd.C_drew ?_))); (case side2 => exact HC165_0.out); (case side3 => repeat (first | exact (Kd.C_below HR166_0.out HB.out) | (with_reducible refine Kd.C_alloc ?_ _) | (with_reducible refine Kd.C_drewN ?_ _) | (with_reducible refine Kd.C_drew ?_))); (case side4 => exact HC166_0.out); rintro e w' ⟨rfl, ⟨nd, rfl⟩⟩; (try first | exact ⟨rfl, _, World.drewN_drewN _ _ _⟩ | exact ⟨rfl, _, Eq.trans (World.drewN_drewN _ _ _) (congrArg (World.drewN _) (Nat.add_assoc _ _ _))⟩); have p168 : 0 ≤ (x5_1 : Int) := of_decide_eq_true (by first | (with_reducible assumption) | assumption); have q168 : x5_1 < (l0_0.length : Int) := of_decide_eq_true (by first | (with_reducible assumption) | assumption); obtain ⟨ad168, A168_0, c168_0, A168_1, c168_1, e168, hx168_0, hx168_1, hl168_0, hi168_0, hl168_1, hi168_1⟩ := at_T92 HR0_0.out x5_1 p168 q168; obtain rfl : ad165 = ad168 := (by injection e168); replace hx168_0 := (HB.out.cell (World.block_lt_of_cell? w _ hx168_0)).trans hx168_0; replace hx168_1 := (HB.out.cell (World.block_lt_of_cell? w _ hx168_1)).trans hx168_1; have HR168_0 := Aside0.mk hi168_0; have HC168_0 := Aside0.mk hl168_0; clear hi168_0 hl168_0; have HR168_1 := Aside0.mk hi168_1; have HC168_1 := Aside0.mk hl168_1; clear hi168_1 hl168_1; replace p168 := eq_true p168; replace q168 := eq_true q168; have ea_ := Option.some.inj (hx165_0.symm.trans hx168_0); injection ea_ with ea_ en_ ec_; subst ea_; subst ec_; clear en_; have ea_ := Option.some.inj (hx165_1.symm.trans hx168_1); injection ea_ with ea_ en_ ec_; subst ea_; subst ec_; clear en_; have p169 : 0 ≤ (x5_1 : Int) := of_decide_eq_true (by first | (with_reducible assumption) | assumption); have q169 : x5_1 < (l1_0.length : Int) := of_decide_eq_true (by first | (with_reducible assumption) | assumption); obtain ⟨ad169, A169_0, c169_0, A169_1, c169_1, e169, hx169_0, hx169_1, hl169_0, hi169_0, hl169_1, hi169_1⟩ := at_T92 HR1_0.out x5_1 p169 q169; obtain rfl : ad166 = ad169 := (by injection e169); replace hx169_0 := (HB.out.cell (World.block_lt_of_cell? w _ hx169_0)).trans hx169_0; replace hx169_1 := (HB.out.cell (World.block_lt_of_cell? w _ hx169_1)).trans hx169_1; have HR169_0 := Aside0.mk hi169_0; have HC169_0 := Aside0.mk hl169_0; clear hi169_0 hl169_0; have HR169_1 := Aside0.mk hi169_1; have HC169_1 := Aside0.mk hl169_1; clear hi169_1 hl169_1; replace p169 := eq_true p169; replace q169 := eq_true q169; have ea_ := Option.some.inj (hx166_0.symm.trans hx169_0); injection ea_ with ea_ en_ ec_; subst ea_; subst ec_; clear en_; have ea_ := Option.some.inj (hx166_1.symm.trans hx169_1); injection ea_ with ea_ en_ ec_; subst ea_; subst ec_; clear en_) | (go_at_call 44; (with_reducible refine (registrarref04_TextsG.calls _ _ ((rd_T92 l0_0 x5_1).f1) _ _ ((rd_T92 l1_0 x5_1).f1) true _ ?side1 ?side2 ?side3 ?side4 A13.out).mono ?_); (case side1 => repeat (first | exact (Kd.C_below HR168_1.out (by repeat (first | (with_reducible first | exact HB.out | apply below_alloc | apply pw_below_drewN | apply below_drew1 | refine below_set ?_ GE163.out | refine below_set ?_ GE164.out) | exact HB.out))) | (with_reducible refine Kd.C_alloc ?_ _) | (with_reducible refine Kd.C_drewN ?_ _) | (with_reducible refine Kd.C_drew ?_))); (case side2 => exact HC168_1.out); (case side3 => repeat (first | exact (Kd.C_below HR169_1.out (by repeat (first | (with_reducible first | exact HB.out | apply below_alloc | apply pw_below_drewN | apply below_drew1 | refine below_set ?_ GE163.out | refine below_set ?_ GE164.out) | exact HB.out))) | (with_reducible refine Kd.C_alloc ?_ _) | (with_reducible refine Kd.C_drewN ?_ _) | (with_reducible refine Kd.C_drew ?_))); (case side4 => exact HC169_1.out); rintro e w' ⟨rfl, ⟨nd, rfl⟩⟩; (try first | exact ⟨rfl, _, World.drewN_drewN _ _ _⟩ | exact ⟨rfl, _, Eq.trans (World.drewN_drewN _ _ _) (congrArg (World.drewN _) (Nat.add_assoc _ _ _))⟩))))
                  go_roundg k1
                  case measure => have := HK1.out; omega
                  case rel => exact ⟨(wrap64 (x5_1 + 1)), (by first | rfl | (simp; done) | (simp [*]; done)), H', ⟨by have := HK1.out; omega⟩, ⟨by (with_reducible repeat (first | refine blk_drewN ?_ _ | refine blk_drew ?_ | refine blk_alloc ?_ _)); exact BK163.out⟩, ⟨by (with_reducible repeat (first | refine blk_drewN ?_ _ | refine blk_drew ?_ | refine blk_alloc ?_ _)); exact BK164.out⟩, ⟨by repeat (first | (with_reducible first | exact HB.out | apply below_alloc | apply pw_below_drewN | apply below_drew1 | refine below_set ?_ GE163.out | refine below_set ?_ GE164.out) | exact HB.out)⟩⟩
                · replace c15 := Bool.eq_false_iff.mpr c15
                  subst c15
                  have H1 : (some false) = some r := by rw [if_neg (show ¬ (false = true) by decide)] at H; exact H
                  clear H
                  have H := H1
                  clear H1
                  obtain rfl := Option.some.inj H
                  have hnb19 := NB163_164.out
                  have hnc19 := NB164_163.out
                  have hcz20_0 : wr.cell? ⟨gb163, 0, none⟩ = some (.slice A0_0 l0_0.length c0_0) := (blk_cell BK163.out 0).trans rfl
                  have hfz20_0 := blk_frozen BK163.out 0
                  have p165 : 0 ≤ (x5_1 : Int) := of_decide_eq_true (by first | (with_reducible assumption) | assumption)
                  have q165 : x5_1 < (l0_0.length : Int) := of_decide_eq_true (by first | (with_reducible assumption) | assumption)
                  obtain ⟨ad165, A165_0, c165_0, A165_1, c165_1, e165, hx165_0, hx165_1, hl165_0, hi165_0, hl165_1, hi165_1⟩ := at_T92 HR0_0.out x5_1 p165 q165
                  cases e165
                  replace hx165_0 := (HB.out.cell (World.block_lt_of_cell? w _ hx165_0)).trans hx165_0
                  replace hx165_1 := (HB.out.cell (World.block_lt_of_cell? w _ hx165_1)).trans hx165_1
                  have HR165_0 := Aside0.mk hi165_0
                  have HC165_0 := Aside0.mk hl165_0
                  clear hi165_0 hl165_0
                  have HR165_1 := Aside0.mk hi165_1
                  have HC165_1 := Aside0.mk hl165_1
                  clear hi165_1 hl165_1
                  replace p165 := eq_true p165
                  replace q165 := eq_true q165
                  have hcz21_0 : wr.cell? ⟨gb164, 0, none⟩ = some (.slice A1_0 l1_0.length c1_0) := (blk_cell BK164.out 0).trans rfl
                  have hfz21_0 := blk_frozen BK164.out 0
                  have p166 : 0 ≤ (x5_1 : Int) := of_decide_eq_true (by first | (with_reducible assumption) | assumption)
                  have q166 : x5_1 < (l1_0.length : Int) := of_decide_eq_true (by first | (with_reducible assumption) | assumption)
                  obtain ⟨ad166, A166_0, c166_0, A166_1, c166_1, e166, hx166_0, hx166_1, hl166_0, hi166_0, hl166_1, hi166_1⟩ := at_T92 HR1_0.out x5_1 p166 q166
                  cases e166
                  replace hx166_0 := (HB.out.cell (World.block_lt_of_cell? w _ hx166_0)).trans hx166_0
                  replace hx166_1 := (HB.out.cell (World.block_lt_of_cell? w _ hx166_1)).trans hx166_1
                  have HR166_0 := Aside0.mk hi166_0
                  have HC166_0 := Aside0.mk hl166_0
                  clear hi166_0 hl166_0
                  have HR166_1 := Aside0.mk hi166_1
                  have HC166_1 := Aside0.mk hl166_1
                  clear hi166_1 hl166_1
                  replace p166 := eq_true p166
                  replace q166 := eq_true q166
                  go_wp2_with (first | (go_at_call 44; (with_reducible refine (registrarref04_TextsG.calls _ _ ((rd_T92 l0_0 x5_1).f0) _ _ ((rd_T92 l1_0 x5_1).f0) true _ ?side1 ?side2 ?side3 ?side4 A12.out).mono ?_); (case side1 => repeat (first | exact (Kd.C_below HR165_0.out HB.out) | (with_reducible refine Kd.C_alloc ?_ _) | (with_reducible refine Kd.C_drewN ?_ _) | (with_reducible refine Kd.C_drew ?_))); (case side2 => exact HC165_0.out); (case side3 => repeat (first | exact (Kd.C_below HR166_0.out HB.out) | (with_reducible refine Kd.C_alloc ?_ _) | (with_reducible refine Kd.C_drewN ?_ _) | (with_reducible refine Kd.C_drew ?_))); (case side4 => exact HC166_0.out); rintro e w' ⟨rfl, ⟨nd, rfl⟩⟩; (try first | exact ⟨rfl, _, World.drewN_drewN _ _ _⟩ | exact ⟨rfl, _, Eq.trans (World.drewN_drewN _ _ _) (congrArg (World.drewN _) (Nat.add_assoc _ _ _))⟩); have p168 : 0 ≤ (x5_1 : Int) := of_decide_eq_true (by first | (with_reducible assumption) | assumption); have q168 : x5_1 < (l0_0.length : Int) := of_decide_eq_true (by first | (with_reducible assumption) | assumption); obtain ⟨ad168, A168_0, c168_0, A168_1, c168_1, e168, hx168_0, hx168_1, hl168_0, hi168_0, hl168_1, hi168_1⟩ := at_T92 HR0_0.out x5_1 p168 q168; obtain rfl : ad165 = ad168 := (by injection e168); replace hx168_0 := (HB.out.cell (World.block_lt_of_cell? w _ hx168_0)).trans hx168_0; replace hx168_1 := (HB.out.cell (World.block_lt_of_cell? w _ hx168_1)).trans hx168_1; have HR168_0 := Aside0.mk hi168_0; have HC168_0 := Aside0.mk hl168_0; clear hi168_0 hl168_0; have HR168_1 := Aside0.mk hi168_1; have HC168_1 := Aside0.mk hl168_1; clear hi168_1 hl168_1; replace p168 := eq_true p168; replace q168 := eq_true q168; have ea_ := Option.some.inj (hx165_0.symm.trans hx168_0); injection ea_ with ea_ en_ ec_; subst ea_; subst ec_; clear en_; have ea_ := Option.some.inj (hx165_1.symm.trans hx168_1); injection ea_ with ea_ en_ ec_; subst ea_; subst ec_; clear en_; have p169 : 0 ≤ (x5_1 : Int) := of_decide_eq_true (by first | (with_reducible assumption) | assumption); have q169 : x5_1 < (l1_0.length : Int) := of_decide_eq_true (by first | (with_reducible assumption) | assumption); obtain ⟨ad169, A169_0, c169_0, A169_1, c169_1, e169, hx169_0, hx169_1, hl169_0, hi169_0, hl169_1, hi169_1⟩ := at_T92 HR1_0.out x5_1 p169 q169; obtain rfl : ad166 = ad169 := (by injection e169); replace hx169_0 := (HB.out.cell (World.block_lt_of_cell? w _ hx169_0)).trans hx169_0; replace hx169_1 := (HB.out.cell (World.block_lt_of_cell? w _ hx169_1)).trans hx169_1; have HR169_0 := Aside0.mk hi169_0; have HC169_0 := Aside0.mk hl169_0; clear hi169_0 hl169_0; have HR169_1 := Aside0.mk hi169_1; have HC169_1 := Aside0.mk hl169_1; clear hi169_1 hl169_1; replace p169 := eq_true p169; replace q169 := eq_true q169; have ea_ := Option.some.inj (hx166_0.symm.trans hx169_0); injection ea_ with ea_ en_ ec_; subst ea_; subst ec_; clear en_; have ea_ := Option.some.inj (hx166_1.symm.trans hx169_1); injection ea_ with ea_ en_ ec_; subst ea_; subst ec_; clear en_) | (go_at_call 44; (with_reducible refine (registrarref04_TextsG.calls _ _ ((rd_T92 l0_0 x5_1).f1) _ _ ((rd_T92 l1_0 x5_1).f1) false _ ?side1 ?side2 ?side3 ?side4 A13.out).mono ?_); (case side1 => repeat (first | exact (Kd.C_below HR168_1.out (by repeat (first | (with_reducible first | exact HB.out | apply below_alloc | apply pw_below_drewN | apply below_drew1 | refine below_set ?_ GE163.out | refine below_set ?_ GE164.out) | exact HB.out))) | (with_reducible refine Kd.C_alloc ?_ _) | (with_reducible refine Kd.C_drewN ?_ _) | (with_reducible refine Kd.C_drew ?_))); (case side2 => exact HC168_1.out); (case side3 => repeat (first | exact (Kd.C_below HR169_1.out (by repeat (first | (with_reducible first | exact HB.out | apply below_alloc | apply pw_below_drewN | apply below_drew1 | refine below_set ?_ GE163.out | refine below_set ?_ GE164.out) | exact HB.out))) | (with_reducible refine Kd.C_alloc ?_ _) | (with_reducible refine Kd.C_drewN ?_ _) | (with_reducible refine Kd.C_drew ?_))); (case side4 => exact HC169_1.out); rintro e w' ⟨rfl, ⟨nd, rfl⟩⟩; (try first | exact ⟨rfl, _, World.drewN_drewN _ _ _⟩ | exact ⟨rfl, _, Eq.trans (World.drewN_drewN _ _ _) (congrArg (World.drewN _) (Nat.add_assoc _ _ _))⟩)))
                  repeat (go_quiet (first | (go_at_call 44; (with_reducible refine (registrarref04_TextsG.calls _ _ ((rd_T92 l0_0 x5_1).f0) _ _ ((rd_T92 l1_0 x5_1).f0) true _ ?side1 ?side2 ?side3 ?side4 A12.out).mono ?_); (case side1 => repeat (first | exact (Kd.C_below HR165_0.out HB.out) | (with_reducible refine Kd.C_alloc ?_ _) | (with_reducible refine Kd.C_drewN ?_ _) | (with_reducible refine Kd.C_drew ?_))); (case side2 => exact HC165_0.out); (case side3 => repeat (first | exact (Kd.C_below HR166_0.out HB.out) | (with_reducible refine Kd.C_alloc ?_ _) | (with_reducible refine Kd.C_drewN ?_ _) | (with_reducible refine Kd.C_drew ?_))); (case side4 => exact HC166_0.out); rintro e w' ⟨rfl, ⟨nd, rfl⟩⟩; (try first | exact ⟨rfl, _, World.drewN_drewN _ _ _⟩ | exact ⟨rfl, _, Eq.trans (World.drewN_drewN _ _ _) (congrArg (World.drewN _) (Nat.add_assoc _ _ _))⟩); have p168 : 0 ≤ (x5_1 : Int) := of_decide_eq_true (by first | (with_reducible assumption) | assumption); have q168 : x5_1 < (l0_0.length : Int) := of_decide_eq_true (by first | (with_reducible assumption) | assumption); obtain ⟨ad168, A168_0, c168_0, A168_1, c168_1, e168, hx168_0, hx168_1, hl168_0, hi168_0, hl168_1, hi168_1⟩ := at_T92 HR0_0.out x5_1 p168 q168; obtain rfl : ad165 = ad168 := (by injection e168); replace hx168_0 := (HB.out.cell (World.block_lt_of_cell? w _ hx168_0)).trans hx168_0; replace hx168_1 := (HB.out.cell (World.block_lt_of_cell? w _ hx168_1)).trans hx168_1; have HR168_0 := Aside0.mk hi168_0; have HC168_0 := Aside0.mk hl168_0; clear hi168_0 hl168_0; have HR168_1 := Aside0.mk hi168_1; have HC168_1 := Aside0.mk hl168_1; clear hi168_1 hl168_1; replace p168 := eq_true p168; replace q168 := eq_true q168; have ea_ := Option.some.inj (hx165_0.symm.trans hx168_0); injection ea_ with ea_ en_ ec_; subst ea_; subst ec_; clear en_; have ea_ := Option.some.inj (hx165_1.symm.trans hx168_1); injection ea_ with ea_ en_ ec_; subst ea_; subst ec_; clear en_; have p169 : 0 ≤ (x5_1 : Int) := of_decide_eq_true (by first | (with_reducible assumption) | assumption); have q169 : x5_1 < (l1_0.length : Int) := of_decide_eq_true (by first | (with_reducible assumption) | assumption); obtain ⟨ad169, A169_0, c169_0, A169_1, c169_1, e169, hx169_0, hx169_1, hl169_0, hi169_0, hl169_1, hi169_1⟩ := at_T92 HR1_0.out x5_1 p169 q169; obtain rfl : ad166 = ad169 := (by injection e169); replace hx169_0 := (HB.out.cell (World.block_lt_of_cell? w _ hx169_0)).trans hx169_0; replace hx169_1 := (HB.out.cell (World.block_lt_of_cell? w _ hx169_1)).trans hx169_1; have HR169_0 := Aside0.mk hi169_0; have HC169_0 := Aside0.mk hl169_0; clear hi169_0 hl169_0; have HR169_1 := Aside0.mk hi169_1; have HC169_1 := Aside0.mk hl169_1; clear hi169_1 hl169_1; replace p169 := eq_true p169; replace q169 := eq_true q169; have ea_ := Option.some.inj (hx166_0.symm.trans hx169_0); injection ea_ with ea_ en_ ec_; subst ea_; subst ec_; clear en_; have ea_ := Option.some.inj (hx166_1.symm.trans hx169_1); injection ea_ with ea_ en_ ec_; subst ea_; subst ec_; clear en_) | (go_at_call 44; (with_reducible refine (registrarref04_TextsG.calls _ _ ((rd_T92 l0_0 x5_1).f1) _ _ ((rd_T92 l1_0 x5_1).f1) false _ ?side1 ?side2 ?side3 ?side4 A13.out).mono ?_); (case side1 => repeat (first | exact (Kd.C_below HR168_1.out (by repeat (first | (with_reducible first | exact HB.out | apply below_alloc | apply pw_below_drewN | apply below_drew1 | refine below_set ?_ GE163.out | refine below_set ?_ GE164.out) | exact HB.out))) | (with_reducible refine Kd.C_alloc ?_ _) | (with_reducible refine Kd.C_drewN ?_ _) | (with_reducible refine Kd.C_drew ?_))); (case side2 => exact HC168_1.out); (case side3 => repeat (first | exact (Kd.C_below HR169_1.out (by repeat (first | (with_reducible first | exact HB.out | apply below_alloc | apply pw_below_drewN | apply below_drew1 | refine below_set ?_ GE163.out | refine below_set ?_ GE164.out) | exact HB.out))) | (with_reducible refine Kd.C_alloc ?_ _) | (with_reducible refine Kd.C_drewN ?_ _) | (with_reducible refine Kd.C_drew ?_))); (case side4 => exact HC169_1.out); rintro e w' ⟨rfl, ⟨nd, rfl⟩⟩; (try first | exact ⟨rfl, _, World.drewN_drewN _ _ _⟩ | exact ⟨rfl, _, Eq.trans (World.drewN_drewN _ _ _) (congrArg (World.drewN _) (Nat.add_assoc _ _ _))⟩))); try go_wp2_with (first | (go_at_call 44; (with_reducible refine (registrarref04_TextsG.calls _ _ ((rd_T92 l0_0 x5_1).f0) _ _ ((rd_T92 l1_0 x5_1).f0) true _ ?side1 ?side2 ?side3 ?side4 A12.out).mono ?_); (case side1 => repeat (first | exact (Kd.C_below HR165_0.out HB.out) | (with_reducible refine Kd.C_alloc ?_ _) | (with_reducible refine Kd.C_drewN ?_ _) | (with_reducible refine Kd.C_drew ?_))); (case side2 => exact HC165_0.out); (case side3 => repeat (first | exact (Kd.C_below HR166_0.out HB.out) | (with_reducible refine Kd.C_alloc ?_ _) | (with_reducible refine Kd.C_drewN ?_ _) | (with_reducible refine Kd.C_drew ?_))); (case side4 => exact HC166_0.out); rintro e w' ⟨rfl, ⟨nd, rfl⟩⟩; (try first | exact ⟨rfl, _, World.drewN_drewN _ _ _⟩ | exact ⟨rfl, _, Eq.trans (World.drewN_drewN _ _ _) (congrArg (World.drewN _) (Nat.add_assoc _ _ _))⟩); have p168 : 0 ≤ (x5_1 : Int) := of_decide_eq_true (by first | (with_reducible assumption) | assumption); have q168 : x5_1 < (l0_0.length : Int) := of_decide_eq_true (by first | (with_reducible assumption) | assumption); obtain ⟨ad168, A168_0, c168_0, A168_1, c168_1, e168, hx168_0, hx168_1, hl168_0, hi168_0, hl168_1, hi168_1⟩ := at_T92 HR0_0.out x5_1 p168 q168; obtain rfl : ad165 = ad168 := (by injection e168); replace hx168_0 := (HB.out.cell (World.block_lt_of_cell? w _ hx168_0)).trans hx168_0; replace hx168_1 := (HB.out.cell (World.block_lt_of_cell? w _ hx168_1)).trans hx168_1; have HR168_0 := Aside0.mk hi168_0; have HC168_0 := Aside0.mk hl168_0; clear hi168_0 hl168_0; have HR168_1 := Aside0.mk hi168_1; have HC168_1 := Aside0.mk hl168_1; clear hi168_1 hl168_1; replace p168 := eq_true p168; replace q168 := eq_true q168; have ea_ := Option.some.inj (hx165_0.symm.trans hx168_0); injection ea_ with ea_ en_ ec_; subst ea_; subst ec_; clear en_; have ea_ := Option.some.inj (hx165_1.symm.trans hx168_1); injection ea_ with ea_ en_ ec_; subst ea_; subst ec_; clear en_; have p169 : 0 ≤ (x5_1 : Int) := of_decide_eq_true (by first | (with_reducible assumption) | assumption); have q169 : x5_1 < (l1_0.length : Int) := of_decide_eq_true (by first | (with_reducible assumption) | assumption); obtain ⟨ad169, A169_0, c169_0, A169_1, c169_1, e169, hx169_0, hx169_1, hl169_0, hi169_0, hl169_1, hi169_1⟩ := at_T92 HR1_0.out x5_1 p169 q169; obtain rfl : ad166 = ad169 := (by injection e169); replace hx169_0 := (HB.out.cell (World.block_lt_of_cell? w _ hx169_0)).trans hx169_0; replace hx169_1 := (HB.out.cell (World.block_lt_of_cell? w _ hx169_1)).trans hx169_1; have HR169_0 := Aside0.mk hi169_0; have HC169_0 := Aside0.mk hl169_0; clear hi169_0 hl169_0; have HR169_1 := Aside0.mk hi169_1; have HC169_1 := Aside0.mk hl169_1; clear hi169_1 hl169_1; replace p169 := eq_true p169; replace q169 := eq_true q169; have ea_ := Option.some.inj (hx166_0.symm.trans hx169_0); injection ea_ with ea_ en_ ec_; subst ea_; subst ec_; clear en_; have ea_ := Option.some.inj (hx166_1.symm.trans hx169_1); injection ea_ with ea_ en_ ec_; subst ea_; subst ec_; clear en_) | (go_at_call 44; (with_reducible refine (registrarref04_TextsG.calls _ _ ((rd_T92 l0_0 x5_1).f1) _ _ ((rd_T92 l1_0 x5_1).f1) false _ ?side1 ?side2 ?side3 ?side4 A13.out).mono ?_); (case side1 => repeat (first | exact (Kd.C_below HR168_1.out (by repeat (first | (with_reducible first | exact HB.out | apply below_alloc | apply pw_below_drewN | apply below_drew1 | refine below_set ?_ GE163.out | refine below_set ?_ GE164.out) | exact HB.out))) | (with_reducible refine Kd.C_alloc ?_ _) | (with_reducible refine Kd.C_drewN ?_ _) | (with_reducible refine Kd.C_drew ?_))); (case side2 => exact HC168_1.out); (case side3 => repeat (first | exact (Kd.C_below HR169_1.out (by repeat (first | (with_reducible first | exact HB.out | apply below_alloc | apply pw_below_drewN | apply below_drew1 | refine below_set ?_ GE163.out | refine below_set ?_ GE164.out) | exact HB.out))) | (with_reducible refine Kd.C_alloc ?_ _) | (with_reducible refine Kd.C_drewN ?_ _) | (with_reducible refine Kd.C_drew ?_))); (case side4 => exact HC169_1.out); rintro e w' ⟨rfl, ⟨nd, rfl⟩⟩; (try first | exact ⟨rfl, _, World.drewN_drewN _ _ _⟩ | exact ⟨rfl, _, Eq.trans (World.drewN_drewN _ _ _) (congrArg (World.drewN _) (Nat.add_assoc _ _ _))⟩))))
                  go_ret
                  exact ⟨by first | rfl | (simp [errW_none, errW_some] <;> rfl) | (simp [*, errW_none, errW_some] <;> rfl), by repeat (first | (with_reducible first | exact HB.out | apply below_alloc | apply pw_below_drewN | apply below_drew1 | refine below_set ?_ GE163.out | refine below_set ?_ GE164.out) | exact HB.out)⟩
              · replace c14 := Bool.eq_false_iff.mpr c14
                subst c14
                have H1 : (some false) = some r := by rw [if_neg (show ¬ (false = true) by decide)] at H; exact H
                clear H
                have H := H1
                clear H1
                obtain rfl := Option.some.inj H
                have hnb22 := NB163_164.out
                have hnc22 := NB164_163.out
                have hcz23_0 : wr.cell? ⟨gb163, 0, none⟩ = some (.slice A0_0 l0_0.length c0_0) := (blk_cell BK163.out 0).trans rfl
                have hfz23_0 := blk_frozen BK163.out 0
                have p165 : 0 ≤ (x5_1 : Int) := of_decide_eq_true (by first | (with_reducible assumption) | assumption)
                have q165 : x5_1 < (l0_0.length : Int) := of_decide_eq_true (by first | (with_reducible assumption) | assumption)
                obtain ⟨ad165, A165_0, c165_0, A165_1, c165_1, e165, hx165_0, hx165_1, hl165_0, hi165_0, hl165_1, hi165_1⟩ := at_T92 HR0_0.out x5_1 p165 q165
                cases e165
                replace hx165_0 := (HB.out.cell (World.block_lt_of_cell? w _ hx165_0)).trans hx165_0
                replace hx165_1 := (HB.out.cell (World.block_lt_of_cell? w _ hx165_1)).trans hx165_1
                have HR165_0 := Aside0.mk hi165_0
                have HC165_0 := Aside0.mk hl165_0
                clear hi165_0 hl165_0
                have HR165_1 := Aside0.mk hi165_1
                have HC165_1 := Aside0.mk hl165_1
                clear hi165_1 hl165_1
                replace p165 := eq_true p165
                replace q165 := eq_true q165
                have hcz24_0 : wr.cell? ⟨gb164, 0, none⟩ = some (.slice A1_0 l1_0.length c1_0) := (blk_cell BK164.out 0).trans rfl
                have hfz24_0 := blk_frozen BK164.out 0
                have p166 : 0 ≤ (x5_1 : Int) := of_decide_eq_true (by first | (with_reducible assumption) | assumption)
                have q166 : x5_1 < (l1_0.length : Int) := of_decide_eq_true (by first | (with_reducible assumption) | assumption)
                obtain ⟨ad166, A166_0, c166_0, A166_1, c166_1, e166, hx166_0, hx166_1, hl166_0, hi166_0, hl166_1, hi166_1⟩ := at_T92 HR1_0.out x5_1 p166 q166
                cases e166
                replace hx166_0 := (HB.out.cell (World.block_lt_of_cell? w _ hx166_0)).trans hx166_0
                replace hx166_1 := (HB.out.cell (World.block_lt_of_cell? w _ hx166_1)).trans hx166_1
                have HR166_0 := Aside0.mk hi166_0
                have HC166_0 := Aside0.mk hl166_0
                clear hi166_0 hl166_0
                have HR166_1 := Aside0.mk hi166_1
                have HC166_1 := Aside0.mk hl166_1
                clear hi166_1 hl166_1
                replace p166 := eq_true p166
                replace q166 := eq_true q166
                go_wp2_with (first | (go_at_call 44; (with_reducible refine (registrarref04_TextsG.calls _ _ ((rd_T92 l0_0 x5_1).f0) _ _ ((rd_T92 l1_0 x5_1).f0) false _ ?side1 ?side2 ?side3 ?side4 A12.out).mono ?_); (case side1 => repeat (first | exact (Kd.C_below HR165_0.out HB.out) | (with_reducible refine Kd.C_alloc ?_ _) | (with_reducible refine Kd.C_drewN ?_ _) | (with_reducible refine Kd.C_drew ?_))); (case side2 => exact HC165_0.out); (case side3 => repeat (first | exact (Kd.C_below HR166_0.out HB.out) | (with_reducible refine Kd.C_alloc ?_ _) | (with_reducible refine Kd.C_drewN ?_ _) | (with_reducible refine Kd.C_drew ?_))); (case side4 => exact HC166_0.out); rintro e w' ⟨rfl, ⟨nd, rfl⟩⟩; (try first | exact ⟨rfl, _, World.drewN_drewN _ _ _⟩ | exact ⟨rfl, _, Eq.trans (World.drewN_drewN _ _ _) (congrArg (World.drewN _) (Nat.add_assoc _ _ _))⟩); have p168 : 0 ≤ (x5_1 : Int) := of_decide_eq_true (by first | (with_reducible assumption) | assumption); have q168 : x5_1 < (l0_0.length : Int) := of_decide_eq_true (by first | (with_reducible assumption) | assumption); obtain ⟨ad168, A168_0, c168_0, A168_1, c168_1, e168, hx168_0, hx168_1, hl168_0, hi168_0, hl168_1, hi168_1⟩ := at_T92 HR0_0.out x5_1 p168 q168; obtain rfl : ad165 = ad168 := (by injection e168); replace hx168_0 := (HB.out.cell (World.block_lt_of_cell? w _ hx168_0)).trans hx168_0; replace hx168_1 := (HB.out.cell (World.block_lt_of_cell? w _ hx168_1)).trans hx168_1; have HR168_0 := Aside0.mk hi168_0; have HC168_0 := Aside0.mk hl168_0; clear hi168_0 hl168_0; have HR168_1 := Aside0.mk hi168_1; have HC168_1 := Aside0.mk hl168_1; clear hi168_1 hl168_1; replace p168 := eq_true p168; replace q168 := eq_true q168; have ea_ := Option.some.inj (hx165_0.symm.trans hx168_0); injection ea_ with ea_ en_ ec_; subst ea_; subst ec_; clear en_; have ea_ := Option.some.inj (hx165_1.symm.trans hx168_1); injection ea_ with ea_ en_ ec_; subst ea_; subst ec_; clear en_; have p169 : 0 ≤ (x5_1 : Int) := of_decide_eq_true (by first | (with_reducible assumption) | assumption); have q169 : x5_1 < (l1_0.length : Int) := of_decide_eq_true (by first | (with_reducible assumption) | assumption); obtain ⟨ad169, A169_0, c169_0, A169_1, c169_1, e169, hx169_0, hx169_1, hl169_0, hi169_0, hl169_1, hi169_1⟩ := at_T92 HR1_0.out x5_1 p169 q169; obtain rfl : ad166 = ad169 := (by injection e169); replace hx169_0 := (HB.out.cell (World.block_lt_of_cell? w _ hx169_0)).trans hx169_0; replace hx169_1 := (HB.out.cell (World.block_lt_of_cell? w _ hx169_1)).trans hx169_1; have HR169_0 := Aside0.mk hi169_0; have HC169_0 := Aside0.mk hl169_0; clear hi169_0 hl169_0; have HR169_1 := Aside0.mk hi169_1; have HC169_1 := Aside0.mk hl169_1; clear hi169_1 hl169_1; replace p169 := eq_true p169; replace q169 := eq_true q169; have ea_ := Option.some.inj (hx166_0.symm.trans hx169_0); injection ea_ with ea_ en_ ec_; subst ea_; subst ec_; clear en_; have ea_ := Option.some.inj (hx166_1.symm.trans hx169_1); injection ea_ with ea_ en_ ec_; subst ea_; subst ec_; clear en_) | (go_at_call 44; (with_reducible refine (registrarref04_TextsG.calls _ _ ((rd_T92 l0_0 x5_1).f1) _ _ ((rd_T92 l1_0 x5_1).f1) t170 _ ?side1 ?side2 ?side3 ?side4 A13.out).mono ?_); (case side1 => repeat (first | exact (Kd.C_below HR168_1.out (by repeat (first | (with_reducible first | exact HB.out | apply below_alloc | apply pw_below_drewN | apply below_drew1 | refine below_set ?_ GE163.out | refine below_set ?_ GE164.out) | exact HB.out))) | (with_reducible refine Kd.C_alloc ?_ _) | (with_reducible refine Kd.C_drewN ?_ _) | (with_reducible refine Kd.C_drew ?_))); (case side2 => exact HC168_1.out); (case side3 => repeat (first | exact (Kd.C_below HR169_1.out (by repeat (first | (with_reducible first | exact HB.out | apply below_alloc | apply pw_below_drewN | apply below_drew1 | refine below_set ?_ GE163.out | refine below_set ?_ GE164.out) | exact HB.out))) | (with_reducible refine Kd.C_alloc ?_ _) | (with_reducible refine Kd.C_drewN ?_ _) | (with_reducible refine Kd.C_drew ?_))); (case side4 => exact HC169_1.out); rintro e w' ⟨rfl, ⟨nd, rfl⟩⟩; (try first | exact ⟨rfl, _, World.drewN_drewN _ _ _⟩ | exact ⟨rfl, _, Eq.trans (World.drewN_drewN _ _ _) (congrArg (World.drewN _) (Nat.add_assoc _ _ _))⟩)))
                repeat (go_quiet (first | (go_at_call 44; (with_reducible refine (registrarref04_TextsG.calls _ _ ((rd_T92 l0_0 x5_1).f0) _ _ ((rd_T92 l1_0 x5_1).f0) false _ ?side1 ?side2 ?side3 ?side4 A12.out).mono ?_); (case side1 => repeat (first | exact (Kd.C_below HR165_0.out HB.out) | (with_reducible refine Kd.C_alloc ?_ _) | (with_reducible refine Kd.C_drewN ?_ _) | (with_reducible refine Kd.C_drew ?_))); (case side2 => exact HC165_0.out); (case side3 => repeat (first | exact (Kd.C_below HR166_0.out HB.out) | (with_reducible refine Kd.C_alloc ?_ _) | (with_reducible refine Kd.C_drewN ?_ _) | (with_reducible refine Kd.C_drew ?_))); (case side4 => exact HC166_0.out); rintro e w' ⟨rfl, ⟨nd, rfl⟩⟩; (try first | exact ⟨rfl, _, World.drewN_drewN _ _ _⟩ | exact ⟨rfl, _, Eq.trans (World.drewN_drewN _ _ _) (congrArg (World.drewN _) (Nat.add_assoc _ _ _))⟩); have p168 : 0 ≤ (x5_1 : Int) := of_decide_eq_true (by first | (with_reducible assumption) | assumption); have q168 : x5_1 < (l0_0.length : Int) := of_decide_eq_true (by first | (with_reducible assumption) | assumption); obtain ⟨ad168, A168_0, c168_0, A168_1, c168_1, e168, hx168_0, hx168_1, hl168_0, hi168_0, hl168_1, hi168_1⟩ := at_T92 HR0_0.out x5_1 p168 q168; obtain rfl : ad165 = ad168 := (by injection e168); replace hx168_0 := (HB.out.cell (World.block_lt_of_cell? w _ hx168_0)).trans hx168_0; replace hx168_1 := (HB.out.cell (World.block_lt_of_cell? w _ hx168_1)).trans hx168_1; have HR168_0 := Aside0.mk hi168_0; have HC168_0 := Aside0.mk hl168_0; clear hi168_0 hl168_0; have HR168_1 := Aside0.mk hi168_1; have HC168_1 := Aside0.mk hl168_1; clear hi168_1 hl168_1; replace p168 := eq_true p168; replace q168 := eq_true q168; have ea_ := Option.some.inj (hx165_0.symm.trans hx168_0); injection ea_ with ea_ en_ ec_; subst ea_; subst ec_; clear en_; have ea_ := Option.some.inj (hx165_1.symm.trans hx168_1); injection ea_ with ea_ en_ ec_; subst ea_; subst ec_; clear en_; have p169 : 0 ≤ (x5_1 : Int) := of_decide_eq_true (by first | (with_reducible assumption) | assumption); have q169 : x5_1 < (l1_0.length : Int) := of_decide_eq_true (by first | (with_reducible assumption) | assumption); obtain ⟨ad169, A169_0, c169_0, A169_1, c169_1, e169, hx169_0, hx169_1, hl169_0, hi169_0, hl169_1, hi169_1⟩ := at_T92 HR1_0.out x5_1 p169 q169; obtain rfl : ad166 = ad169 := (by injection e169); replace hx169_0 := (HB.out.cell (World.block_lt_of_cell? w _ hx169_0)).trans hx169_0; replace hx169_1 := (HB.out.cell (World.block_lt_of_cell? w _ hx169_1)).trans hx169_1; have HR169_0 := Aside0.mk hi169_0; have HC169_0 := Aside0.mk hl169_0; clear hi169_0 hl169_0; have HR169_1 := Aside0.mk hi169_1; have HC169_1 := Aside0.mk hl169_1; clear hi169_1 hl169_1; replace p169 := eq_true p169; replace q169 := eq_true q169; have ea_ := Option.some.inj (hx166_0.symm.trans hx169_0); injection ea_ with ea_ en_ ec_; subst ea_; subst ec_; clear en_; have ea_ := Option.some.inj (hx166_1.symm.trans hx169_1); injection ea_ with ea_ en_ ec_; subst ea_; subst ec_; clear en_) | (go_at_call 44; (with_reducible refine (registrarref04_TextsG.calls _ _ ((rd_T92 l0_0 x5_1).f1) _ _ ((rd_T92 l1_0 x5_1).f1) t170 _ ?side1 ?side2 ?side3 ?side4 A13.out).mono ?_); (case side1 => repeat (first | exact (Kd.C_below HR168_1.out (by repeat (first | (with_reducible first | exact HB.out | apply below_alloc | apply pw_below_drewN | apply below_drew1 | refine below_set ?_ GE163.out | refine below_set ?_ GE164.out) | exact HB.out))) | (with_reducible refine Kd.C_alloc ?_ _) | (with_reducible refine Kd.C_drewN ?_ _) | (with_reducible refine Kd.C_drew ?_))); (case side2 => exact HC168_1.out); (case side3 => repeat (first | exact (Kd.C_below HR169_1.out (by repeat (first | (with_reducible first | exact HB.out | apply below_alloc | apply pw_below_drewN | apply below_drew1 | refine below_set ?_ GE163.out | refine below_set ?_ GE164.out) | exact HB.out))) | (with_reducible refine Kd.C_alloc ?_ _) | (with_reducible refine Kd.C_drewN ?_ _) | (with_reducible refine Kd.C_drew ?_))); (case side4 => exact HC169_1.out); rintro e w' ⟨rfl, ⟨nd, rfl⟩⟩; (try first | exact ⟨rfl, _, World.drewN_drewN _ _ _⟩ | exact ⟨rfl, _, Eq.trans (World.drewN_drewN _ _ _) (congrArg (World.drewN _) (Nat.add_assoc _ _ _))⟩))); try go_wp2_with (first | (go_at_call 44; (with_reducible refine (registrarref04_TextsG.calls _ _ ((rd_T92 l0_0 x5_1).f0) _ _ ((rd_T92 l1_0 x5_1).f0) false _ ?side1 ?side2 ?side3 ?side4 A12.out).mono ?_); (case side1 => repeat (first | exact (Kd.C_below HR165_0.out HB.out) | (with_reducible refine Kd.C_alloc ?_ _) | (with_reducible refine Kd.C_drewN ?_ _) | (with_reducible refine Kd.C_drew ?_))); (case side2 => exact HC165_0.out); (case side3 => repeat (first | exact (Kd.C_below HR166_0.out HB.out) | (with_reducible refine Kd.C_alloc ?_ _) | (with_reducible refine Kd.C_drewN ?_ _) | (with_reducible refine Kd.C_drew ?_))); (case side4 => exact HC166_0.out); rintro e w' ⟨rfl, ⟨nd, rfl⟩⟩; (try first | exact ⟨rfl, _, World.drewN_drewN _ _ _⟩ | exact ⟨rfl, _, Eq.trans (World.drewN_drewN _ _ _) (congrArg (World.drewN _) (Nat.add_assoc _ _ _))⟩); have p168 : 0 ≤ (x5_1 : Int) := of_decide_eq_true (by first | (with_reducible assumption) | assumption); have q168 : x5_1 < (l0_0.length : Int) := of_decide_eq_true (by first | (with_reducible assumption) | assumption); obtain ⟨ad168, A168_0, c168_0, A168_1, c168_1, e168, hx168_0, hx168_1, hl168_0, hi168_0, hl168_1, hi168_1⟩ := at_T92 HR0_0.out x5_1 p168 q168; obtain rfl : ad165 = ad168 := (by injection e168); replace hx168_0 := (HB.out.cell (World.block_lt_of_cell? w _ hx168_0)).trans hx168_0; replace hx168_1 := (HB.out.cell (World.block_lt_of_cell? w _ hx168_1)).trans hx168_1; have HR168_0 := Aside0.mk hi168_0; have HC168_0 := Aside0.mk hl168_0; clear hi168_0 hl168_0; have HR168_1 := Aside0.mk hi168_1; have HC168_1 := Aside0.mk hl168_1; clear hi168_1 hl168_1; replace p168 := eq_true p168; replace q168 := eq_true q168; have ea_ := Option.some.inj (hx165_0.symm.trans hx168_0); injection ea_ with ea_ en_ ec_; subst ea_; subst ec_; clear en_; have ea_ := Option.some.inj (hx165_1.symm.trans hx168_1); injection ea_ with ea_ en_ ec_; subst ea_; subst ec_; clear en_; have p169 : 0 ≤ (x5_1 : Int) := of_decide_eq_true (by first | (with_reducible assumption) | assumption); have q169 : x5_1 < (l1_0.length : Int) := of_decide_eq_true (by first | (with_reducible assumption) | assumption); obtain ⟨ad169, A169_0, c169_0, A169_1, c169_1, e169, hx169_0, hx169_1, hl169_0, hi169_0, hl169_1, hi169_1⟩ := at_T92 HR1_0.out x5_1 p169 q169; obtain rfl : ad166 = ad169 := (by injection e169); replace hx169_0 := (HB.out.cell (World.block_lt_of_cell? w _ hx169_0)).trans hx169_0; replace hx169_1 := (HB.out.cell (World.block_lt_of_cell? w _ hx169_1)).trans hx169_1; have HR169_0 := Aside0.mk hi169_0; have HC169_0 := Aside0.mk hl169_0; clear hi169_0 hl169_0; have HR169_1 := Aside0.mk hi169_1; have HC169_1 := Aside0.mk hl169_1; clear hi169_1 hl169_1; replace p169 := eq_true p169; replace q169 := eq_true q169; have ea_ := Option.some.inj (hx166_0.symm.trans hx169_0); injection ea_ with ea_ en_ ec_; subst ea_; subst ec_; clear en_; have ea_ := Option.some.inj (hx166_1.symm.trans hx169_1); injection ea_ with ea_ en_ ec_; subst ea_; subst ec_; clear en_) | (go_at_call 44; (with_reducible refine (registrarref04_TextsG.calls _ _ ((rd_T92 l0_0 x5_1).f1) _ _ ((rd_T92 l1_0 x5_1).f1) t170 _ ?side1 ?side2 ?side3 ?side4 A13.out).mono ?_); (case side1 => repeat (first | exact (Kd.C_below HR168_1.out (by repeat (first | (with_reducible first | exact HB.out | apply below_alloc | apply pw_below_drewN | apply below_drew1 | refine below_set ?_ GE163.out | refine below_set ?_ GE164.out) | exact HB.out))) | (with_reducible refine Kd.C_alloc ?_ _) | (with_reducible refine Kd.C_drewN ?_ _) | (with_reducible refine Kd.C_drew ?_))); (case side2 => exact HC168_1.out); (case side3 => repeat (first | exact (Kd.C_below HR169_1.out (by repeat (first | (with_reducible first | exact HB.out | apply below_alloc | apply pw_below_drewN | apply below_drew1 | refine below_set ?_ GE163.out | refine below_set ?_ GE164.out) | exact HB.out))) | (with_reducible refine Kd.C_alloc ?_ _) | (with_reducible refine Kd.C_drewN ?_ _) | (with_reducible refine Kd.C_drew ?_))); (case side4 => exact HC169_1.out); rintro e w' ⟨rfl, ⟨nd, rfl⟩⟩; (try first | exact ⟨rfl, _, World.drewN_drewN _ _ _⟩ | exact ⟨rfl, _, Eq.trans (World.drewN_drewN _ _ _) (congrArg (World.drewN _) (Nat.add_assoc _ _ _))⟩))))
                go_ret
                exact ⟨by first | rfl | (simp [errW_none, errW_some] <;> rfl) | (simp [*, errW_none, errW_some] <;> rfl), by repeat (first | (with_reducible first | exact HB.out | apply below_alloc | apply pw_below_drewN | apply below_drew1 | refine below_set ?_ GE163.out | refine below_set ?_ GE164.out) | exact HB.out)⟩
            · rw [if_neg c11] at H
              exact absurd H (by simp)
          · rw [if_neg c10] at H
            exact absurd H (by simp)
        · rw [if_neg c9] at H
          have c9b0 : decide (x5_1 < (l0_0.length : Int)) = false := decide_eq_false c9
          clear c9
          obtain rfl := Option.some.inj H
          have hnb25 := NB163_164.out
          have hnc25 := NB164_163.out
          have hcz26_0 : wr.cell? ⟨gb163, 0, none⟩ = some (.slice A0_0 l0_0.length c0_0) := (blk_cell BK163.out 0).trans rfl
          have hfz26_0 := blk_frozen BK163.out 0
          go_wp2
          repeat (go_quiet (fail); try go_wp2)
          go_ret
          exact ⟨by first | rfl | (simp [errW_none, errW_some] <;> rfl) | (simp [*, errW_none, errW_some] <;> rfl), by repeat (first | (with_reducible first | exact HB.out | apply below_alloc | apply pw_below_drewN | apply below_drew1 | refine below_set ?_ GE163.out | refine below_set ?_ GE164.out) | exact HB.out)⟩
  · rw [if_neg c3] at H
    have c3b0 : ((l0_0.length : Int) == (l1_0.length : Int)) = false := beq_eq_false_iff_ne.mpr c3
    have c3b1 : ((l0_0.length : Int) != (l1_0.length : Int)) = true := bne_iff_ne.mpr c3
    have c3b2 : (l0_0.length == l1_0.length) = false := by first | simpa using c3 | (simp at c3 ⊢; omega)
    obtain rfl := Option.some.inj H
    go_enter Try.func21, Try.ntmps21
    go_wp2_with (first | ((with_reducible refine gate_dst (N := 2) rfl ?_); refine box_event ?hg (N := 2) ?hd (cs := #[.slice A0_0 l0_0.length c0_0]) (t := 34) ?hr ?_; (case hd => rfl); (case hg => rfl); (case hr => first | (go_simp; done) | (go_simp; rfl)); intro gb163 hg w27 hbox hb; have n0_ := Aside0.mk (below_step (by repeat (first | (with_reducible first | exact HB.out | apply below_alloc | apply pw_below_drewN | apply below_drew1) | exact HB.out)) hb); have n1_ := Aside0.mk (hbox); have n2_ := Aside0.mk ((by rw [hg]; exact (below_size (by repeat (first | (with_reducible first | exact HB.out | apply below_alloc | apply pw_below_drewN | apply below_drew1) | exact HB.out))) : w.heap.size ≤ gb163)); have n3_ := Aside0.mk ((by rw [hg]; exact (below_size (by repeat (first | (with_reducible first | exact HB.out | apply below_alloc | apply pw_below_drewN | apply below_drew1) | exact HB.out))) : w.heap.size ≤ gb163)); clear HB; have HB := n0_; have BK163 := n1_; have GW163 := n2_; have GE163 := n3_; clear n0_ n1_ n2_ n3_; clear hb hbox hg) | ((with_reducible refine gate_dst (N := 3) rfl ?_); refine box_event ?hg (N := 3) ?hd (cs := #[.slice A1_0 l1_0.length c1_0]) (t := 34) ?hr ?_; (case hd => rfl); (case hg => rfl); (case hr => first | (go_simp; done) | (go_simp; rfl)); intro gb164 hg w28 hbox hb; have n0_ := Aside0.mk (blk_below (g := gb163) (o := .cells #[.slice A0_0 l0_0.length c0_0] 34 (0, 0)) (by (with_reducible repeat (first | refine blk_drewN ?_ _ | refine blk_drew ?_ | refine blk_alloc ?_ _)); exact BK163.out) hb); have n1_ := Aside0.mk (below_step (by repeat (first | (with_reducible first | exact HB.out | apply below_alloc | apply pw_below_drewN | apply below_drew1 | refine below_set ?_ GE163.out) | exact HB.out)) hb); have n2_ := Aside0.mk (hbox); have n3_ := Aside0.mk ((by rw [hg]; exact (below_size (by repeat (first | (with_reducible first | exact HB.out | apply below_alloc | apply pw_below_drewN | apply below_drew1 | refine below_set ?_ GE163.out) | exact HB.out))) : w.heap.size ≤ gb164)); have n4_ := Aside0.mk ((by rw [hg]; exact (below_size (by repeat (first | (with_reducible first | exact HB.out | apply below_alloc | apply pw_below_drewN | apply below_drew1 | refine below_set ?_ GE163.out) | exact HB.out))) : w.heap.size ≤ gb164)); have n5_ := Aside0.mk ((by rw [hg]; exact Nat.ne_of_lt (blk_lt (g := gb163) (o := .cells #[.slice A0_0 l0_0.length c0_0] 34 (0, 0)) (by (with_reducible repeat (first | refine blk_drewN ?_ _ | refine blk_drew ?_ | refine blk_alloc ?_ _)); exact BK163.out)) : gb163 ≠ gb164)); have n6_ := Aside0.mk ((by rw [hg]; exact Nat.ne_of_gt (blk_lt (g := gb163) (o := .cells #[.slice A0_0 l0_0.length c0_0] 34 (0, 0)) (by (with_reducible repeat (first | refine blk_drewN ?_ _ | refine blk_drew ?_ | refine blk_alloc ?_ _)); exact BK163.out)) : gb164 ≠ gb163)); clear BK163; clear HB; have BK163 := n0_; have HB := n1_; have BK164 := n2_; have GW164 := n3_; have GE164 := n4_; have NB163_164 := n5_; have NB164_163 := n6_; clear n0_ n1_ n2_ n3_ n4_ n5_ n6_; clear hb hbox hg; have hnb29 := NB163_164.out; have hnc29 := NB164_163.out; have hcz30_0 : w28.cell? ⟨gb163, 0, none⟩ = some (.slice A0_0 l0_0.length c0_0) := (blk_cell BK163.out 0).trans rfl; have hfz30_0 := blk_frozen BK163.out 0; have hcz31_0 : w28.cell? ⟨gb164, 0, none⟩ = some (.slice A1_0 l1_0.length c1_0) := (blk_cell BK164.out 0).trans rfl; have hfz31_0 := blk_frozen BK164.out 0))
    repeat (go_quiet (first | ((with_reducible refine gate_dst (N := 2) rfl ?_); refine box_event ?hg (N := 2) ?hd (cs := #[.slice A0_0 l0_0.length c0_0]) (t := 34) ?hr ?_; (case hd => rfl); (case hg => rfl); (case hr => first | (go_simp; done) | (go_simp; rfl)); intro gb163 hg w27 hbox hb; have n0_ := Aside0.mk (below_step (by repeat (first | (with_reducible first | exact HB.out | apply below_alloc | apply pw_below_drewN | apply below_drew1) | exact HB.out)) hb); have n1_ := Aside0.mk (hbox); have n2_ := Aside0.mk ((by rw [hg]; exact (below_size (by repeat (first | (with_reducible first | exact HB.out | apply below_alloc | apply pw_below_drewN | apply below_drew1) | exact HB.out))) : w.heap.size ≤ gb163)); have n3_ := Aside0.mk ((by rw [hg]; exact (below_size (by repeat (first | (with_reducible first | exact HB.out | apply below_alloc | apply pw_below_drewN | apply below_drew1) | exact HB.out))) : w.heap.size ≤ gb163)); clear HB; have HB := n0_; have BK163 := n1_; have GW163 := n2_; have GE163 := n3_; clear n0_ n1_ n2_ n3_; clear hb hbox hg) | ((with_reducible refine gate_dst (N := 3) rfl ?_); refine box_event ?hg (N := 3) ?hd (cs := #[.slice A1_0 l1_0.length c1_0]) (t := 34) ?hr ?_; (case hd => rfl); (case hg => rfl); (case hr => first | (go_simp; done) | (go_simp; rfl)); intro gb164 hg w28 hbox hb; have n0_ := Aside0.mk (blk_below (g := gb163) (o := .cells #[.slice A0_0 l0_0.length c0_0] 34 (0, 0)) (by (with_reducible repeat (first | refine blk_drewN ?_ _ | refine blk_drew ?_ | refine blk_alloc ?_ _)); exact BK163.out) hb); have n1_ := Aside0.mk (below_step (by repeat (first | (with_reducible first | exact HB.out | apply below_alloc | apply pw_below_drewN | apply below_drew1 | refine below_set ?_ GE163.out) | exact HB.out)) hb); have n2_ := Aside0.mk (hbox); have n3_ := Aside0.mk ((by rw [hg]; exact (below_size (by repeat (first | (with_reducible first | exact HB.out | apply below_alloc | apply pw_below_drewN | apply below_drew1 | refine below_set ?_ GE163.out) | exact HB.out))) : w.heap.size ≤ gb164)); have n4_ := Aside0.mk ((by rw [hg]; exact (below_size (by repeat (first | (with_reducible first | exact HB.out | apply below_alloc | apply pw_below_drewN | apply below_drew1 | refine below_set ?_ GE163.out) | exact HB.out))) : w.heap.size ≤ gb164)); have n5_ := Aside0.mk ((by rw [hg]; exact Nat.ne_of_lt (blk_lt (g := gb163) (o := .cells #[.slice A0_0 l0_0.length c0_0] 34 (0, 0)) (by (with_reducible repeat (first | refine blk_drewN ?_ _ | refine blk_drew ?_ | refine blk_alloc ?_ _)); exact BK163.out)) : gb163 ≠ gb164)); have n6_ := Aside0.mk ((by rw [hg]; exact Nat.ne_of_gt (blk_lt (g := gb163) (o := .cells #[.slice A0_0 l0_0.length c0_0] 34 (0, 0)) (by (with_reducible repeat (first | refine blk_drewN ?_ _ | refine blk_drew ?_ | refine blk_alloc ?_ _)); exact BK163.out)) : gb164 ≠ gb163)); clear BK163; clear HB; have BK163 := n0_; have HB := n1_; have BK164 := n2_; have GW164 := n3_; have GE164 := n4_; have NB163_164 := n5_; have NB164_163 := n6_; clear n0_ n1_ n2_ n3_ n4_ n5_ n6_; clear hb hbox hg; have hnb29 := NB163_164.out; have hnc29 := NB164_163.out; have hcz30_0 : w28.cell? ⟨gb163, 0, none⟩ = some (.slice A0_0 l0_0.length c0_0) := (blk_cell BK163.out 0).trans rfl; have hfz30_0 := blk_frozen BK163.out 0; have hcz31_0 : w28.cell? ⟨gb164, 0, none⟩ = some (.slice A1_0 l1_0.length c1_0) := (blk_cell BK164.out 0).trans rfl; have hfz31_0 := blk_frozen BK164.out 0)); try go_wp2_with (first | ((with_reducible refine gate_dst (N := 2) rfl ?_); refine box_event ?hg (N := 2) ?hd (cs := #[.slice A0_0 l0_0.length c0_0]) (t := 34) ?hr ?_; (case hd => rfl); (case hg => rfl); (case hr => first | (go_simp; done) | (go_simp; rfl)); intro gb163 hg w27 hbox hb; have n0_ := Aside0.mk (below_step (by repeat (first | (with_reducible first | exact HB.out | apply below_alloc | apply pw_below_drewN | apply below_drew1) | exact HB.out)) hb); have n1_ := Aside0.mk (hbox); have n2_ := Aside0.mk ((by rw [hg]; exact (below_size (by repeat (first | (with_reducible first | exact HB.out | apply below_alloc | apply pw_below_drewN | apply below_drew1) | exact HB.out))) : w.heap.size ≤ gb163)); have n3_ := Aside0.mk ((by rw [hg]; exact (below_size (by repeat (first | (with_reducible first | exact HB.out | apply below_alloc | apply pw_below_drewN | apply below_drew1) | exact HB.out))) : w.heap.size ≤ gb163)); clear HB; have HB := n0_; have BK163 := n1_; have GW163 := n2_; have GE163 := n3_; clear n0_ n1_ n2_ n3_; clear hb hbox hg) | ((with_reducible refine gate_dst (N := 3) rfl ?_); refine box_event ?hg (N := 3) ?hd (cs := #[.slice A1_0 l1_0.length c1_0]) (t := 34) ?hr ?_; (case hd => rfl); (case hg => rfl); (case hr => first | (go_simp; done) | (go_simp; rfl)); intro gb164 hg w28 hbox hb; have n0_ := Aside0.mk (blk_below (g := gb163) (o := .cells #[.slice A0_0 l0_0.length c0_0] 34 (0, 0)) (by (with_reducible repeat (first | refine blk_drewN ?_ _ | refine blk_drew ?_ | refine blk_alloc ?_ _)); exact BK163.out) hb); have n1_ := Aside0.mk (below_step (by repeat (first | (with_reducible first | exact HB.out | apply below_alloc | apply pw_below_drewN | apply below_drew1 | refine below_set ?_ GE163.out) | exact HB.out)) hb); have n2_ := Aside0.mk (hbox); have n3_ := Aside0.mk ((by rw [hg]; exact (below_size (by repeat (first | (with_reducible first | exact HB.out | apply below_alloc | apply pw_below_drewN | apply below_drew1 | refine below_set ?_ GE163.out) | exact HB.out))) : w.heap.size ≤ gb164)); have n4_ := Aside0.mk ((by rw [hg]; exact (below_size (by repeat (first | (with_reducible first | exact HB.out | apply below_alloc | apply pw_below_drewN | apply below_drew1 | refine below_set ?_ GE163.out) | exact HB.out))) : w.heap.size ≤ gb164)); have n5_ := Aside0.mk ((by rw [hg]; exact Nat.ne_of_lt (blk_lt (g := gb163) (o := .cells #[.slice A0_0 l0_0.length c0_0] 34 (0, 0)) (by (with_reducible repeat (first | refine blk_drewN ?_ _ | refine blk_drew ?_ | refine blk_alloc ?_ _)); exact BK163.out)) : gb163 ≠ gb164)); have n6_ := Aside0.mk ((by rw [hg]; exact Nat.ne_of_gt (blk_lt (g := gb163) (o := .cells #[.slice A0_0 l0_0.length c0_0] 34 (0, 0)) (by (with_reducible repeat (first | refine blk_drewN ?_ _ | refine blk_drew ?_ | refine blk_alloc ?_ _)); exact BK163.out)) : gb164 ≠ gb163)); clear BK163; clear HB; have BK163 := n0_; have HB := n1_; have BK164 := n2_; have GW164 := n3_; have GE164 := n4_; have NB163_164 := n5_; have NB164_163 := n6_; clear n0_ n1_ n2_ n3_ n4_ n5_ n6_; clear hb hbox hg; have hnb29 := NB163_164.out; have hnc29 := NB164_163.out; have hcz30_0 : w28.cell? ⟨gb163, 0, none⟩ = some (.slice A0_0 l0_0.length c0_0) := (blk_cell BK163.out 0).trans rfl; have hfz30_0 := blk_frozen BK163.out 0; have hcz31_0 : w28.cell? ⟨gb164, 0, none⟩ = some (.slice A1_0 l1_0.length c1_0) := (blk_cell BK164.out 0).trans rfl; have hfz31_0 := blk_frozen BK164.out 0)))
    go_ret
    exact ⟨by first | rfl | (simp [errW_none, errW_some] <;> rfl) | (simp [*, errW_none, errW_some] <;> rfl), by repeat (first | (with_reducible first | exact HB.out | apply below_alloc | apply pw_below_drewN | apply below_drew1 | refine below_set ?_ GE163.out | refine below_set ?_ GE164.out) | exact HB.out)⟩

end Go.Proofs.Ytocpcnmnhckcpaa.Prt
namespace Go.Proofs.Ytocpcnmnhckcpaa.Prt
open Go.RowKit Go.Proofs.YtocpcnmnhckcpaaW.PrintWords Go.Proofs.YtocpcnmnhckcpaaW.PrintLast Go.Proofs.YtocpcnmnhckcpaaW.PrintMore Go.Proofs.Ytocpcnmnhckcpaa.Num Go.Proofs.Ytocpcnmnhckcpaa.Nam
set_option linter.unusedVariables false
set_option linter.unusedSimpArgs false

def eqC (x y : S92) : Bool := eqL eqS x.f0 y.f0 && eqL eqS x.f1 y.f1
theorem eqC_iff (x y : S92) : eqC x y = true ↔ x = y := by
  unfold eqC
  rw [Bool.and_eq_true, eqL_iff eqS_iff, eqL_iff eqS_iff]
  cases x; cases y; simp
def lenC (x : S92) : Bool := decide (x.f0.length ≤ 9223372036854775807) && decide (x.f1.length ≤ 9223372036854775807)
theorem same06_loop (a b : List S92) (hl : a.length ≤ 9223372036854775807) (hab : a.length = b.length) (hla : a.all lenC = true) : ∀ (n i k : Nat), i + n = a.length → n < k → registrarref06_Same.l0 k (i : Int) a b = some (eqL eqC (a.drop i) (b.drop i)) := by
  intro n
  induction n with
  | zero =>
    intro i k hi hk
    obtain ⟨k, rfl⟩ : ∃ m, k = m + 1 := ⟨k - 1, by omega⟩
    rw [registrarref06_Same.l0, if_neg (by omega), List.drop_eq_nil_of_le (by omega), List.drop_eq_nil_of_le (by omega)]; rfl
  | succ n ih =>
    intro i k hi hk
    obtain ⟨k, rfl⟩ : ∃ m, k = m + 1 := ⟨k - 1, by omega⟩
    have hx := List.all_eq_true.1 hla _ (rdC_mem (l := a) (i := i) (by omega))
    unfold lenC at hx
    rw [Bool.and_eq_true, decide_eq_true_iff, decide_eq_true_iff] at hx
    have m1 : registrarref04_TextsG.f (rd_T92 a (i : Int)).f0 (rd_T92 b (i : Int)).f0 = some (eqL eqS (rd_T92 a (i : Int)).f0 (rd_T92 b (i : Int)).f0) := if_pos hx.1
    have m2 : registrarref04_TextsG.f (rd_T92 a (i : Int)).f1 (rd_T92 b (i : Int)).f1 = some (eqL eqS (rd_T92 a (i : Int)).f1 (rd_T92 b (i : Int)).f1) := if_pos hx.2
    rw [registrarref06_Same.l0, if_pos (by omega), if_pos (by omega), if_pos (by omega), m1, m2, drop_rdC a i (by omega), drop_rdC b i (by omega), eqL]
    simp only [Option.bind_some]
    unfold eqC
    cases eqL eqS (rd_T92 a (i : Int)).f0 (rd_T92 b (i : Int)).f0 with
    | true =>
      cases eqL eqS (rd_T92 a (i : Int)).f1 (rd_T92 b (i : Int)).f1 with
      | true => rw [if_pos rfl, if_pos rfl, succW i (by omega), ih (i + 1) k (by omega) (by omega)]; rfl
      | false => rfl
    | false => rfl
def registrarref06_SameG.f (l0_0 : List (S92)) (l1_0 : List (S92)) : Option (Bool) := if l0_0.length ≤ 9223372036854775807 ∧ l0_0.all lenC = true then some (eqL eqC l0_0 l1_0) else none
theorem registrarref06_SameG.val {l0_0 l1_0 : List (S92)} {r : Bool} (h : registrarref06_SameG.f l0_0 l1_0 = some r) : ∃ k, registrarref06_Same.f k l0_0 l1_0 = some r := by
  unfold registrarref06_SameG.f at h
  by_cases hc : l0_0.length ≤ 9223372036854775807 ∧ l0_0.all lenC = true
  · rw [if_pos hc] at h
    rw [← h]
    refine ⟨l0_0.length + 1, ?_⟩
    unfold registrarref06_Same.f
    by_cases hl : l0_0.length = l1_0.length
    · rw [if_pos (by omega)]
      exact same06_loop l0_0 l1_0 hc.1 hl hc.2 l0_0.length 0 (l0_0.length + 1) (by omega) (by omega)
    · rw [if_neg (by omega), eqL_len _ _ hl]
  · rw [if_neg hc] at h; cases h
theorem registrarref06_SameG.calls (A0_0 : Option Addr) (c0_0 : Nat) (l0_0 : List (S92)) (A1_0 : Option Addr) (c1_0 : Nat) (l1_0 : List (S92)) (r : Bool) (w : World) (hr0_0 : Kd.C k92 w A0_0 l0_0.length l0_0) (hc0_0 : l0_0.length ≤ c0_0) (hr1_0 : Kd.C k92 w A1_0 l1_0.length l1_0) (hc1_0 : l1_0.length ≤ c1_0) (h : registrarref06_SameG.f l0_0 l1_0 = some r) :
    Calls Try.prog 21 #[.agg #[.slice A0_0 l0_0.length c0_0], .agg #[.slice A1_0 l1_0.length c1_0]] w fun e w' => e = .returned (.bool r) ∧ Below w.heap.size w w' := by
  obtain ⟨k, hk⟩ := registrarref06_SameG.val h
  exact registrarref06_Same.calls k A0_0 c0_0 l0_0 A1_0 c1_0 l1_0 r w hr0_0 hc0_0 hr1_0 hc1_0 hk
end Go.Proofs.Ytocpcnmnhckcpaa.Prt
namespace Go.Proofs.Ytocpcnmnhckcpaa.Prt
open Go.RowKit Go.Proofs.YtocpcnmnhckcpaaW.PrintWords Go.Proofs.YtocpcnmnhckcpaaW.PrintLast Go.Proofs.YtocpcnmnhckcpaaW.PrintMore Go.Proofs.Ytocpcnmnhckcpaa.Num Go.Proofs.Ytocpcnmnhckcpaa.Nam
set_option linter.unusedVariables false
set_option linter.unusedSimpArgs false
/-- The worlds in which what lay below lies as it did. -/
def Wc (w0 : World) : Type := {W : World // Below w0.heap.size w0 W}
instance wcNonempty (w0 : World) : Nonempty (Wc w0) := ⟨⟨w0, Below.refl _ _⟩⟩
theorem region_class {P : Program} {w0 : World} {id : Nat} {Q : Exit → Act → World → Prop} {a : Act} {w : World} {l : List Oper} (hm : P.follows .mixedOrders = true) (hB : Region.lexB .any l.toArray = true) (hw : Below w0.heap.size w0 w)
    (h : wpQuiet P l.toArray (fun W => ∃ n : Wc w0, W = n.1) (fun a' => ∀ w', (∃ n : Wc w0, w' = n.1) → Q .normal a' w') l a) : (Code.region id l.toArray true).wp P Q a w :=
  wp_region_quiet (C := fun W => ∃ n : Wc w0, W = n.1) hm hB ⟨⟨_, hw.drew⟩, rfl⟩ (by simpa using h)
def eqT (x y : S36) : Bool := decide (x.f0 = y.f0) && (decide (x.f1 = y.f1) && (decide (x.f2 = y.f2) && (decide (x.f3 = y.f3) && (decide (x.f4 = y.f4) && (eqE x.f5 y.f5 && eqL eqC x.f6.f0 y.f6.f0)))))
theorem eqT_iff (x y : S36) : eqT x y = true ↔ x = y := by
  unfold eqT
  simp only [Bool.and_eq_true, decide_eq_true_iff]
  rw [eqE_iff, eqL_iff eqC_iff]
  obtain ⟨x0, x1, x2, x3, x4, x5, ⟨x6⟩⟩ := x
  obtain ⟨y0, y1, y2, y3, y4, y5, ⟨y6⟩⟩ := y
  simp
theorem str_same (s : ByteArray) : (s.toList == s.toList) = true := by simp
theorem str_ne {s t : ByteArray} (h : s ≠ t) : (s.toList == t.toList) = false := by rw [str_beq']; exact decide_eq_false h
theorem str_nb {s t : ByteArray} (h : s ≠ t) : (s.toList != t.toList) = true := by unfold bne; rw [str_ne h]; rfl
theorem eqT_step {x y : S36} : ∀ {a b : List S36}, eqL eqT (x :: a) (y :: b) = (eqT x y && eqL eqT a b) := rfl
/-- What the comparison asks of a step's size. -/
def LenS (t : S36) : Prop := t.f5.f2.length ≤ 1000000 ∧ t.f5.f3.length ≤ 1000000 ∧ t.f6.f0.length ≤ 1000000 ∧ t.f6.f0.all lenC = true
set_option maxRecDepth 100000 in
set_option maxHeartbeats 8000000 in
theorem same_calls22 (A : Option Addr) (c : Nat) (l : List S36) (A' : Option Addr) (c' : Nat) (l' : List S36) (w : World) (hC : Kd.C k36 w A l.length l) (hc : l.length ≤ c) (hC' : Kd.C k36 w A' l'.length l') (hc' : l'.length ≤ c') (hl : ∀ t ∈ l, LenS t) (r : Bool) (hr : eqL eqT l l' = r) :
    Calls Try.prog 11 #[.slice A l.length c, .slice A' l'.length c'] w fun e w' => e = .returned (.bool r) ∧ Below w.heap.size w w' := by
  have hm1 := Kd.C_max hC
  have hm2 := Kd.C_max hC'
  have HC := Aside0.mk hC
  have HD := Aside0.mk hC'
  have HL := Aside0.mk hl
  have HR := Aside0.mk hr
  clear hC hc hC' hc' hl hr
  have hu36 := Try.underlying36
  have hu31 := Try.underlying31
  have hu34 := Try.underlying34
  by_cases hln : l.length = l'.length
  case neg =>
    have hd : decide ((l.length : Int) = (l'.length : Int)) = false := decide_eq_false (by omega)
    have hr := HR.out
    rw [eqL_len l l' hln] at hr
    subst hr
    clear HR HC HD HL
    go_enter Try.func11, Try.ntmps11
    go_wp2
    go_ret
    exact ⟨rfl, Below.refl _ _⟩
  have hd : decide ((l.length : Int) = (l'.length : Int)) = true := decide_eq_true (by omega)
  have HLN := Aside0.mk hln
  go_enter Try.func11, Try.ntmps11
  go_upto_region 4 with (fail)
  clear hd hln
  go_loopg [5] l.length (fun gk v5 w' => ∃ i : Nat, v5 = .int .i64 (i : Int) ∧ Aside0 (i + gk = l.length) ∧ Aside0 (eqL eqT (l.drop i) (l'.drop i) = r) ∧ Aside0 (Below w.heap.size w w'))
  case atStart => exact ⟨0, rfl, ⟨by omega⟩, HR, ⟨Below.refl _ _⟩⟩
  case round =>
    clear HR
    obtain ⟨i, rfl, HE, HR, HB⟩ := hrel
    by_cases hlt : i < l.length
    · have hb1 : decide ((i : Int) < (l.length : Int)) = true := decide_eq_true (by omega)
      have hlt' : i < l'.length := by have := HLN.out; omega
      obtain ⟨ad, A7, c7, A8, c8, A9, c9, e_, hx0, hx1, hx2, hx3, hx4, hx5, hx6, hx7, hx8, hx9, l7, g7, l8, g8, l9, g9⟩ := at_T36 HC.out (i : Int) (by omega) (by omega)
      obtain ⟨bd, B7, d7, B8, d8, B9, d9, f_, hy0, hy1, hy2, hy3, hy4, hy5, hy6, hy7, hy8, hy9, m7, j7, m8, j8, m9, j9⟩ := at_T36 HD.out (i : Int) (by omega) (by omega)
      cases e_
      cases f_
      rw [Int.toNat_natCast] at hx0 hx1 hx2 hx3 hx4 hx5 hx6 hx7 hx8 hx9 hy0 hy1 hy2 hy3 hy4 hy5 hy6 hy7 hy8 hy9
      have hdr := HR.out
      rw [drop_rdS l i hlt, drop_rdS l' i hlt', eqT_step] at hdr
      have hls := HL.out _ (rdS_mem hlt)
      obtain ⟨x, hxd⟩ : ∃ x, x = rd_T36 l (i : Int) := ⟨_, rfl⟩
      obtain ⟨y, hyd⟩ : ∃ y, y = rd_T36 l' (i : Int) := ⟨_, rfl⟩
      rw [← hxd] at hx0 hx1 hx2 hx3 hx4 hx5 hx6 hx7 hx8 hx9 l7 g7 l8 g8 l9 g9 hdr hls
      rw [← hyd] at hy0 hy1 hy2 hy3 hy4 hy5 hy6 hy7 hy8 hy9 m7 j7 m8 j8 m9 j9 hdr
      clear hxd hyd HR
      obtain ⟨x0, x1, x2, x3, x4, ⟨xs, xt, xg, xf⟩, ⟨xq⟩⟩ := x
      obtain ⟨y0, y1, y2, y3, y4, ⟨ys, yt, yg, yf⟩, ⟨yq⟩⟩ := y
      simp only at hx0 hx1 hx2 hx3 hx4 hx5 hx6 hx7 hx8 hx9 hy0 hy1 hy2 hy3 hy4 hy5 hy6 hy7 hy8 hy9 l7 g7 l8 g8 l9 g9 m7 j7 m8 j8 m9 j9
      have HSC := Aside0.mk (And.intro (And.intro g7 (And.intro l7 (And.intro g8 (And.intro l8 (And.intro g9 l9))))) (And.intro j7 (And.intro m7 (And.intro j8 (And.intro m8 (And.intro j9 m9))))))
      obtain ⟨v, hv⟩ : ∃ v, eqE ⟨xs, xt, xg, xf⟩ ⟨ys, yt, yg, yf⟩ = v := ⟨_, rfl⟩
      obtain ⟨q, hq⟩ : ∃ q, eqL eqC xq yq = q := ⟨_, rfl⟩
      have HV := Aside0.mk (show registrarref04_SameG.f xs xt xg xf ys yt yg yf = some v by
        obtain ⟨z1, z2, z3, z4⟩ := hls
        simp only at z1 z2
        rw [← hv]
        exact if_pos ⟨by omega, by omega⟩)
      have HQ := Aside0.mk (show registrarref06_SameG.f xq yq = some q by
        obtain ⟨z1, z2, z3, z4⟩ := hls
        simp only at z3 z4
        rw [← hq]
        exact if_pos ⟨by omega, z4⟩)
      have HDR : Aside0 (((decide (x0 = y0) && (decide (x1 = y1) && (decide (x2 = y2) && (decide (x3 = y3) && (decide (x4 = y4) && (v && q)))))) && eqL eqT (l.drop (i + 1)) (l'.drop (i + 1))) = r) := ⟨by rw [← hdr, ← hv, ← hq]; rfl⟩
      clear hdr hls hv hq l7 g7 l8 g8 l9 g9 m7 j7 m8 j8 m9 j9
      have hib : (i : Int) * 10 ≤ 92233720368547758070 := by omega
      have cx0 : ∀ n : Wc w, n.1.cell? _ = _ := fun n => pw_cell_below n.2 hx0
      have cx1 : ∀ n : Wc w, n.1.cell? _ = _ := fun n => pw_cell_below n.2 hx1
      have cx2 : ∀ n : Wc w, n.1.cell? _ = _ := fun n => pw_cell_below n.2 hx2
      have cx3 : ∀ n : Wc w, n.1.cell? _ = _ := fun n => pw_cell_below n.2 hx3
      have cx4 : ∀ n : Wc w, n.1.cell? _ = _ := fun n => pw_cell_below n.2 hx4
      have cx5 : ∀ n : Wc w, n.1.cell? _ = _ := fun n => pw_cell_below n.2 hx5
      have cx6 : ∀ n : Wc w, n.1.cell? _ = _ := fun n => pw_cell_below n.2 hx6
      have cx7 : ∀ n : Wc w, n.1.cell? _ = _ := fun n => pw_cell_below n.2 hx7
      have cx8 : ∀ n : Wc w, n.1.cell? _ = _ := fun n => pw_cell_below n.2 hx8
      have cx9 : ∀ n : Wc w, n.1.cell? _ = _ := fun n => pw_cell_below n.2 hx9
      have cy0 : ∀ n : Wc w, n.1.cell? _ = _ := fun n => pw_cell_below n.2 hy0
      have cy1 : ∀ n : Wc w, n.1.cell? _ = _ := fun n => pw_cell_below n.2 hy1
      have cy2 : ∀ n : Wc w, n.1.cell? _ = _ := fun n => pw_cell_below n.2 hy2
      have cy3 : ∀ n : Wc w, n.1.cell? _ = _ := fun n => pw_cell_below n.2 hy3
      have cy4 : ∀ n : Wc w, n.1.cell? _ = _ := fun n => pw_cell_below n.2 hy4
      have cy5 : ∀ n : Wc w, n.1.cell? _ = _ := fun n => pw_cell_below n.2 hy5
      have cy6 : ∀ n : Wc w, n.1.cell? _ = _ := fun n => pw_cell_below n.2 hy6
      have cy7 : ∀ n : Wc w, n.1.cell? _ = _ := fun n => pw_cell_below n.2 hy7
      have cy8 : ∀ n : Wc w, n.1.cell? _ = _ := fun n => pw_cell_below n.2 hy8
      have cy9 : ∀ n : Wc w, n.1.cell? _ = _ := fun n => pw_cell_below n.2 hy9
      clear hx0 hx1 hx2 hx3 hx4 hx5 hx6 hx7 hx8 hx9 hy0 hy1 hy2 hy3 hy4 hy5 hy6 hy7 hy8 hy9
      have HQV : Aside0 (∀ n : Wc w, Calls Try.prog 20 #[.agg #[.string xs, .string xt, .slice A7 xg.length c7, .slice A8 xf.length c8], .agg #[.string ys, .string yt, .slice B7 yg.length d7, .slice B8 yf.length d8]] n.1 fun e w'' => e = .returned (.bool v) ∧ ∃ m : Wc w, w'' = m.1) := ⟨fun n => by
        obtain ⟨⟨g7, l7, g8, l8, g9, l9⟩, ⟨j7, m7, j8, m8, j9, m9⟩⟩ := HSC.out
        refine (registrarref04_SameG.calls xs xt A7 c7 xg A8 c8 xf ys yt B7 d7 yg B8 d8 yf v n.1 (Kd.C_below g7 n.2) l7 (Kd.C_below g8 n.2) l8 (Kd.C_below j7 n.2) m7 (Kd.C_below j8 n.2) m8 HV.out).mono ?_
        rintro e w' ⟨rfl, hb⟩
        exact ⟨rfl, ⟨w', below_step n.2 hb⟩, rfl⟩⟩
      have HQQ : Aside0 (∀ n : Wc w, Calls Try.prog 21 #[.agg #[.slice A9 xq.length c9], .agg #[.slice B9 yq.length d9]] n.1 fun e w'' => e = .returned (.bool q) ∧ ∃ m : Wc w, w'' = m.1) := ⟨fun n => by
        obtain ⟨⟨g7, l7, g8, l8, g9, l9⟩, ⟨j7, m7, j8, m8, j9, m9⟩⟩ := HSC.out
        refine (registrarref06_SameG.calls A9 c9 xq B9 d9 yq q n.1 (Kd.C_below g9 n.2) l9 (Kd.C_below j9 n.2) m9 HQ.out).mono ?_
        rintro e w' ⟨rfl, hb⟩
        exact ⟨rfl, ⟨w', below_step n.2 hb⟩, rfl⟩⟩
      clear HSC HV HQ
      go_upto_region 6 with (fail)
      refine region_class (w0 := w) (by kernel_rfl) (by kernel_rfl) HB.out ?_
      repeat (go_big_quiet_step (exact HQV.out _))
      refine wpQuiet_nil ?_
      rintro w2 ⟨n1, hw2⟩
      have HB2 := Aside0.mk (show Below w.heap.size w w2 by rw [hw2]; exact n1.2)
      clear hw2 n1 HQV HB
      go_upto_region 7 with (fail)
      refine region_class (w0 := w) (by kernel_rfl) (by kernel_rfl) HB2.out ?_
      repeat (go_big_quiet_step (exact HQQ.out _))
      refine wpQuiet_nil ?_
      rintro w3 ⟨n2, hw3⟩
      have HB3 := Aside0.mk (show Below w.heap.size w w3 by rw [hw3]; exact n2.2)
      clear hw3 n2 HQQ HB2
      go_upto_region 8 with (fail)
      by_cases e0 : x0 = y0
      case neg =>
        have hd0 : (x0 != y0) = true := bne_iff_ne.mpr e0
        refine region_class (w0 := w) (by kernel_rfl) (by kernel_rfl) HB3.out ?_
        simp only [List.cons_append, List.nil_append, List.append_eq]
        repeat (go_big_quiet_step (fail))
        refine wpQuiet_nil ?_
        rintro w4 ⟨n3, hw4⟩
        have HB4 := Aside0.mk (show Below w.heap.size w w4 by rw [hw4]; exact n3.2)
        clear hw4 n3 HB3
        obtain rfl : false = r := by rw [← HDR.out]; simp [e0]
        clear HDR
        go_wp2_with fail
        go_ret
        exact ⟨rfl, HB4.out⟩
      subst e0
      by_cases e1 : x1 = y1
      case neg =>
        have hd1 : (x1 != y1) = true := bne_iff_ne.mpr e1
        refine region_class (w0 := w) (by kernel_rfl) (by kernel_rfl) HB3.out ?_
        simp only [List.cons_append, List.nil_append, List.append_eq]
        repeat (go_big_quiet_step (fail))
        refine wpQuiet_nil ?_
        rintro w4 ⟨n3, hw4⟩
        have HB4 := Aside0.mk (show Below w.heap.size w w4 by rw [hw4]; exact n3.2)
        clear hw4 n3 HB3
        obtain rfl : false = r := by rw [← HDR.out]; simp [e1]
        clear HDR
        go_wp2_with fail
        go_ret
        exact ⟨rfl, HB4.out⟩
      subst e1
      by_cases e2 : x2 = y2
      case neg =>
        have hd2 : (x2 != y2) = true := bne_iff_ne.mpr e2
        refine region_class (w0 := w) (by kernel_rfl) (by kernel_rfl) HB3.out ?_
        simp only [List.cons_append, List.nil_append, List.append_eq]
        repeat (go_big_quiet_step (fail))
        refine wpQuiet_nil ?_
        rintro w4 ⟨n3, hw4⟩
        have HB4 := Aside0.mk (show Below w.heap.size w w4 by rw [hw4]; exact n3.2)
        clear hw4 n3 HB3
        obtain rfl : false = r := by rw [← HDR.out]; simp [e2]
        clear HDR
        go_wp2_with fail
        go_ret
        exact ⟨rfl, HB4.out⟩
      subst e2
      by_cases e3 : x3 = y3
      case neg =>
        have hd3 : (x3 != y3) = true := bne_iff_ne.mpr e3
        refine region_class (w0 := w) (by kernel_rfl) (by kernel_rfl) HB3.out ?_
        simp only [List.cons_append, List.nil_append, List.append_eq]
        repeat (go_big_quiet_step (fail))
        refine wpQuiet_nil ?_
        rintro w4 ⟨n3, hw4⟩
        have HB4 := Aside0.mk (show Below w.heap.size w w4 by rw [hw4]; exact n3.2)
        clear hw4 n3 HB3
        obtain rfl : false = r := by rw [← HDR.out]; simp [e3]
        clear HDR
        go_wp2_with fail
        go_ret
        exact ⟨rfl, HB4.out⟩
      subst e3
      by_cases e4 : x4 = y4
      case neg =>
        have hd4 := str_ne e4
        have he4 := str_nb e4
        refine region_class (w0 := w) (by kernel_rfl) (by kernel_rfl) HB3.out ?_
        simp only [List.cons_append, List.nil_append, List.append_eq]
        repeat (go_big_quiet_step (fail))
        refine wpQuiet_nil ?_
        rintro w4 ⟨n3, hw4⟩
        have HB4 := Aside0.mk (show Below w.heap.size w w4 by rw [hw4]; exact n3.2)
        clear hw4 n3 HB3
        obtain rfl : false = r := by rw [← HDR.out]; simp [e4]
        clear HDR
        go_wp2_with fail
        go_ret
        exact ⟨rfl, HB4.out⟩
      subst e4
      have hd4 := str_same x4
      have he4 : (x4.toList != x4.toList) = false := by unfold bne; rw [hd4]; rfl
      cases v with
      | false =>
        refine region_class (w0 := w) (by kernel_rfl) (by kernel_rfl) HB3.out ?_
        simp only [List.cons_append, List.nil_append, List.append_eq]
        repeat (go_big_quiet_step (fail))
        refine wpQuiet_nil ?_
        rintro w4 ⟨n3, hw4⟩
        have HB4 := Aside0.mk (show Below w.heap.size w w4 by rw [hw4]; exact n3.2)
        clear hw4 n3 HB3
        obtain rfl : false = r := by rw [← HDR.out]; simp
        clear HDR
        go_wp2_with fail
        go_ret
        exact ⟨rfl, HB4.out⟩
      | true =>
        cases q with
        | false =>
          refine region_class (w0 := w) (by kernel_rfl) (by kernel_rfl) HB3.out ?_
          simp only [List.cons_append, List.nil_append, List.append_eq]
          repeat (go_big_quiet_step (fail))
          refine wpQuiet_nil ?_
          rintro w4 ⟨n3, hw4⟩
          have HB4 := Aside0.mk (show Below w.heap.size w w4 by rw [hw4]; exact n3.2)
          clear hw4 n3 HB3
          obtain rfl : false = r := by rw [← HDR.out]; simp
          clear HDR
          go_wp2_with fail
          go_ret
          exact ⟨rfl, HB4.out⟩
        | true =>
          refine region_class (w0 := w) (by kernel_rfl) (by kernel_rfl) HB3.out ?_
          simp only [List.cons_append, List.nil_append, List.append_eq]
          repeat (go_big_quiet_step (fail))
          refine wpQuiet_nil ?_
          rintro w4 ⟨n3, hw4⟩
          have HB4 := Aside0.mk (show Below w.heap.size w w4 by rw [hw4]; exact n3.2)
          clear hw4 n3 HB3
          have HR2 : Aside0 (eqL eqT (l.drop (i + 1)) (l'.drop (i + 1)) = r) := ⟨by have := HDR.out; simpa using this⟩
          clear HDR
          go_wp2_with fail
          go_roundg (l.length - (i + 1))
          case measure => have := HE.out; omega
          case rel => exact ⟨i + 1, by go_num, ⟨by have := HE.out; omega⟩, HR2, HB4⟩
    · have hb1 : decide ((i : Int) < (l.length : Int)) = false := decide_eq_false (by omega)
      have hr := HR.out
      rw [List.drop_eq_nil_of_le (by omega), List.drop_eq_nil_of_le (by have := HLN.out; omega)] at hr
      obtain rfl : true = r := hr
      clear HR
      go_wp2_with fail
      go_ret
      exact ⟨rfl, HB.out⟩
end Go.Proofs.Ytocpcnmnhckcpaa.Prt
namespace Go.Proofs.Ytocpcnmnhckcpaa.Prt
open Go.RowKit Go.Proofs.YtocpcnmnhckcpaaW.PrintWords Go.Proofs.YtocpcnmnhckcpaaW.PrintLast Go.Proofs.YtocpcnmnhckcpaaW.PrintMore Go.Proofs.Ytocpcnmnhckcpaa.Num Go.Proofs.Ytocpcnmnhckcpaa.Nam
set_option linter.unusedVariables false
set_option linter.unusedSimpArgs false
theorem info_step : (Try.prog.info? 36).map (fun i => (i.zero, i.size, i.bytes)) = some (some (.agg #[.int .i64 0, .int .i64 0, .int .i64 0, .int .i64 0, .string ⟨#[]⟩, .string ⟨#[]⟩, .string ⟨#[]⟩, .slice none 0 0, .slice none 0 0, .slice none 0 0]), 10, 152) := by kernel_rfl
theorem heap_field : Kd.Heap k90 := Kd.heap_iso _ (Kd.heap_pair Kd.heap_string (Kd.heap_int .i64))
theorem heap_clause : Kd.Heap k92 := Kd.heap_iso _ (Kd.heap_pair (Kd.heap_slice 9 Kd.heap_string) (Kd.heap_slice 9 Kd.heap_string))
/-- A step cut. -/
def fewS (t : S36) : S36 := ⟨t.f0, t.f1, t.f2, t.f3, t.f4.extract 0 (min 100 t.f4.size), ⟨t.f5.f0, t.f5.f1, t.f5.f2.take 10, t.f5.f3.take 10⟩, ⟨t.f6.f0.take 8⟩⟩
def fewL (l : List S36) : List S36 := (l.take 30).map fewS
/-- A step's cells, read: what they lead to lies in what lay there. -/
theorem FK_step36 {w W : World} {t : S36} {A7 : Option Addr} {c7 : Nat} {A8 : Option Addr} {c8 : Nat} {A9 : Option Addr} {c9 : Nat} (h : StC w t A7 c7 A8 c8 A9 c9) (hb : Below w.heap.size w W) : Kd.FK k36 W (fun k => k < w.heap.size) t [.int .i64 t.f0, .int .i64 t.f1, .int .i64 t.f2, .int .i64 t.f3, .string t.f4, .string t.f5.f0, .string t.f5.f1, .slice A7 t.f5.f2.length c7, .slice A8 t.f5.f3.length c8, .slice A9 t.f6.f0.length c9] := by
  have f7 := Kd.F_step (W1 := W) (Kd.C_F Kd.heap_string h.h7) (fun k hk _ => hb.block k hk)
  have f8 := Kd.F_step (W1 := W) (Kd.C_F heap_field h.h8) (fun k hk _ => hb.block k hk)
  have f9 := Kd.F_step (W1 := W) (Kd.C_F heap_clause h.h9) (fun k hk _ => hb.block k hk)
  exact fun W' hW => k36_mk W' t h.l7 (f7 W' hW) h.l8 (f8 W' hW) h.l9 (f9 W' hW)
theorem StC.few {w : World} {t : S36} {A7 : Option Addr} {c7 : Nat} {A8 : Option Addr} {c8 : Nat} {A9 : Option Addr} {c9 : Nat} (h : StC w t A7 c7 A8 c8 A9 c9) : StC w (fewS t) A7 c7 A8 c8 A9 c9 := by
  have l7 := h.l7
  have l8 := h.l8
  have l9 := h.l9
  refine ⟨?_, by show (t.f5.f2.take 10).length ≤ c7; rw [List.length_take]; omega, ?_, by show (t.f5.f3.take 10).length ≤ c8; rw [List.length_take]; omega, ?_, by show (t.f6.f0.take 8).length ≤ c9; rw [List.length_take]; omega⟩
  · show Kd.string.C w A7 (t.f5.f2.take 10).length (t.f5.f2.take 10)
    by_cases hc : 10 ≤ t.f5.f2.length
    · exact Kd.C_take h.h7 hc
    · rw [List.take_of_length_le (by omega)]; exact h.h7
  · show k90.C w A8 (t.f5.f3.take 10).length (t.f5.f3.take 10)
    by_cases hc : 10 ≤ t.f5.f3.length
    · exact Kd.C_take h.h8 hc
    · rw [List.take_of_length_le (by omega)]; exact h.h8
  · show k92.C w A9 (t.f6.f0.take 8).length (t.f6.f0.take 8)
    by_cases hc : 8 ≤ t.f6.f0.length
    · exact Kd.C_take h.h9 hc
    · rw [List.take_of_length_le (by omega)]; exact h.h9
theorem few_snoc (l : List S36) (i : Nat) (h : i < l.length) : (l.take (i + 1)).map fewS = (l.take i).map fewS ++ [fewS (rd_T36 l (i : Int))] := by
  rw [takeS_snoc l i h, List.map_append]; rfl
set_option maxRecDepth 100000 in
set_option maxHeartbeats 8000000 in
theorem few_calls22 (A : Option Addr) (c : Nat) (l : List S36) (w : World) (hC : Kd.C k36 w A l.length l) (hc : l.length ≤ c) :
    Calls Try.prog 8 #[.slice A l.length c] w fun e w' => ∃ A' c', e = .returned (.slice A' (fewL l).length c') ∧ (fewL l).length ≤ c' ∧ Kd.C k36 w' A' (fewL l).length (fewL l) ∧ Below w.heap.size w w' := by
  have hm := Kd.C_max hC
  have HC := Aside0.mk hC
  have HB := Aside0.mk (Below.refl w.heap.size w)
  clear hC hc
  have hu36 := Try.underlying36
  have hu31 := Try.underlying31
  have hu34 := Try.underlying34
  go_enter Try.func8, Try.ntmps8
  go_upto_region 3 with (first | ((with_reducible refine gate_dst (N := 6) rfl ?_); refine Kd.R_lit k36 (w0 := w) w.heap.size 36 ?hg (N := 6) ?hd (xs := []) (inner := []) (ok := fun _ => True) (okp := fun _ => True) ?hr ?hp (fun _ hk => hk) trivial ?hB ?hS (by simp) ?_; (case hd => rfl); (case hg => rfl); (case hr => first | (go_simp; done) | (go_simp; rfl)); (case hp => exact (Reps.none _ _)); (case hB => exact (by repeat (first | (with_reducible first | exact HB.out | apply below_alloc | apply pw_below_drewN | apply below_drew1) | exact HB.out))); (case hS => exact (below_size (by repeat (first | (with_reducible first | exact HB.out | apply below_alloc | apply pw_below_drewN | apply below_drew1) | exact HB.out)))); intro v3 w3 ho hb hg hat; have n0_ := Aside0.mk (hb); have n1_ := Aside0.mk (ho); clear HB; have HB := n0_; have HO3 := n1_; clear n0_ n1_; clear ho hb hg hat))
  go_loopg [3, 4] l.length (fun gk v3 v4 w' => ∃ i : Nat, v4 = .int .i64 (i : Int) ∧ Aside0 (i + gk = l.length) ∧ Aside0 (i ≤ 30) ∧ Aside0 (Kd.N k36 36 w' w.heap.size (fun _ => True) v3 ((l.take i).map fewS)) ∧ Aside0 (Below w.heap.size w w'))
  case atStart => exact ⟨0, rfl, ⟨by omega⟩, ⟨by omega⟩, ⟨Kd.R_N HO3.out⟩, HB⟩
  case round =>
    clear HO3 HB
    obtain ⟨i, rfl, HE, H30, HN, HB⟩ := hrel
    have hi30 := H30.out
    by_cases hlt : i < l.length
    case neg =>
      have hb1 : decide ((i : Int) < (l.length : Int)) = false := decide_eq_false (by omega)
      obtain ⟨A3, c3, e3, hc3, hC3⟩ := Kd.N_reads HN.out
      subst e3
      have hfl : fewL l = (l.take i).map fewS := by
        unfold fewL
        rw [List.take_of_length_le (by omega), List.take_of_length_le (by omega)]
      have H3 := Aside0.mk (And.intro hc3 hC3)
      rw [← hfl] at H3 ⊢
      clear hc3 hC3 hfl HN
      go_wp2_with fail
      go_ret
      exact ⟨_, _, rfl, H3.out.1, H3.out.2, HB.out⟩
    have hb1 : decide ((i : Int) < (l.length : Int)) = true := decide_eq_true (by omega)
    by_cases hl2 : i < 30
    case neg =>
      have hb2 : decide ((i : Int) < 30) = false := decide_eq_false (by omega)
      obtain ⟨A3, c3, e3, hc3, hC3⟩ := Kd.N_reads HN.out
      subst e3
      have hfl : fewL l = (l.take i).map fewS := by
        unfold fewL
        rw [show i = 30 by omega]
      have H3 := Aside0.mk (And.intro hc3 hC3)
      rw [← hfl] at H3 ⊢
      clear hc3 hC3 hfl HN
      go_wp2_with fail
      go_ret
      exact ⟨_, _, rfl, H3.out.1, H3.out.2, HB.out⟩
    have hb2 : decide ((i : Int) < 30) = true := decide_eq_true (by omega)
    obtain ⟨ad, A7, c7, A8, c8, A9, c9, e_, hx0, hx1, hx2, hx3, hx4, hx5, hx6, hx7, hx8, hx9, l7, g7, l8, g8, l9, g9⟩ := at_T36 HC.out (i : Int) (by omega) (by omega)
    cases e_
    rw [Int.toNat_natCast] at hx0 hx1 hx2 hx3 hx4 hx5 hx6 hx7 hx8 hx9
    have hfs := few_snoc l i hlt
    obtain ⟨t, ht⟩ : ∃ t, t = rd_T36 l (i : Int) := ⟨_, rfl⟩
    rw [← ht] at hx0 hx1 hx2 hx3 hx4 hx5 hx6 hx7 hx8 hx9 l7 g7 l8 g8 l9 g9 hfs
    have HSC := Aside0.mk (StC.mk (w := w) (t := t) g7 l7 g8 l8 g9 l9)
    have HFS := Aside0.mk hfs
    obtain ⟨acc, hacc⟩ : ∃ acc, acc = (l.take i).map fewS := ⟨_, rfl⟩
    have hal : acc.length ≤ 30 := by rw [hacc, List.length_map, List.length_take]; omega
    rw [← hacc] at HN HFS
    obtain ⟨A3, c3, e3⟩ := Kd.N_slice HN.out
    subst e3
    clear hacc
    obtain ⟨x0, x1, x2, x3, st, ⟨xs, xt, tg, fl⟩, ⟨q⟩⟩ := t
    simp only at hx0 hx1 hx2 hx3 hx4 hx5 hx6 hx7 hx8 hx9 l7 l8 l9
    have hib : (i : Int) * 10 ≤ 300 := by omega
    clear ht hfs g7 g8 g9
    replace hx0 := pw_cell_below HB.out hx0
    replace hx1 := pw_cell_below HB.out hx1
    replace hx2 := pw_cell_below HB.out hx2
    replace hx3 := pw_cell_below HB.out hx3
    replace hx4 := pw_cell_below HB.out hx4
    replace hx5 := pw_cell_below HB.out hx5
    replace hx6 := pw_cell_below HB.out hx6
    replace hx7 := pw_cell_below HB.out hx7
    replace hx8 := pw_cell_below HB.out hx8
    replace hx9 := pw_cell_below HB.out hx9
    go_upto_region 6 with (first | ((with_reducible refine gate_dst (N := 5) rfl ?_); (try (refine gate_guard (by rfl) ?_; dsimp only)); refine box_event ?hg (N := 5) ?hd (cs := #[.int .i64 0, .int .i64 0, .int .i64 0, .int .i64 0, .string ⟨#[]⟩, .string ⟨#[]⟩, .string ⟨#[]⟩, .slice none 0 0, .slice none 0 0, .slice none 0 0]) (t := 36) ?hr ?_; (case hd => rfl); (case hg => rfl); (case hr => first | (go_simp; done) | (go_simp; rfl)); intro T hg_ w3 hbox_ hb_; have HX := Aside0.mk hbox_; have HXN := Aside0.mk hg_; have HXB3 := Aside0.mk hb_; clear hbox_ hg_ hb_; have hz0 := blk_cell HX.out 0; have hf0 := blk_frozen HX.out 0; have hz1 := blk_cell HX.out 1; have hf1 := blk_frozen HX.out 1; have hz2 := blk_cell HX.out 2; have hf2 := blk_frozen HX.out 2; have hz3 := blk_cell HX.out 3; have hf3 := blk_frozen HX.out 3; have hz4 := blk_cell HX.out 4; have hf4 := blk_frozen HX.out 4; have hz5 := blk_cell HX.out 5; have hf5 := blk_frozen HX.out 5; have hz6 := blk_cell HX.out 6; have hf6 := blk_frozen HX.out 6; have hz7 := blk_cell HX.out 7; have hf7 := blk_frozen HX.out 7; have hz8 := blk_cell HX.out 8; have hf8 := blk_frozen HX.out 8; have hz9 := blk_cell HX.out 9; have hf9 := blk_frozen HX.out 9))
    have HTW := Aside0.mk (show wr.heap.size ≤ T by rw [HXN.out]; exact Nat.le_refl _)
    have n1_ := Aside0.mk (blk_put (cs' := #[.int .i64 x0, .int .i64 x1, .int .i64 x2, .int .i64 x3, .string st, .string xs, .string xt, .slice A7 tg.length c7, .slice A8 fl.length c8, .slice A9 q.length c9]) (blk_put (cs' := #[.int .i64 x0, .int .i64 x1, .int .i64 x2, .int .i64 x3, .string st, .string xs, .string xt, .slice A7 tg.length c7, .slice A8 fl.length c8, .slice none 0 0]) (blk_put (cs' := #[.int .i64 x0, .int .i64 x1, .int .i64 x2, .int .i64 x3, .string st, .string xs, .string xt, .slice A7 tg.length c7, .slice none 0 0, .slice none 0 0]) (blk_put (cs' := #[.int .i64 x0, .int .i64 x1, .int .i64 x2, .int .i64 x3, .string st, .string xs, .string xt, .slice none 0 0, .slice none 0 0, .slice none 0 0]) (blk_put (cs' := #[.int .i64 x0, .int .i64 x1, .int .i64 x2, .int .i64 x3, .string st, .string xs, .string ⟨#[]⟩, .slice none 0 0, .slice none 0 0, .slice none 0 0]) (blk_put (cs' := #[.int .i64 x0, .int .i64 x1, .int .i64 x2, .int .i64 x3, .string st, .string ⟨#[]⟩, .string ⟨#[]⟩, .slice none 0 0, .slice none 0 0, .slice none 0 0]) (blk_put (cs' := #[.int .i64 x0, .int .i64 x1, .int .i64 x2, .int .i64 x3, .string ⟨#[]⟩, .string ⟨#[]⟩, .string ⟨#[]⟩, .slice none 0 0, .slice none 0 0, .slice none 0 0]) (blk_put (cs' := #[.int .i64 x0, .int .i64 x1, .int .i64 x2, .int .i64 0, .string ⟨#[]⟩, .string ⟨#[]⟩, .string ⟨#[]⟩, .slice none 0 0, .slice none 0 0, .slice none 0 0]) (blk_put (cs' := #[.int .i64 x0, .int .i64 x1, .int .i64 0, .int .i64 0, .string ⟨#[]⟩, .string ⟨#[]⟩, .string ⟨#[]⟩, .slice none 0 0, .slice none 0 0, .slice none 0 0]) (blk_put (cs' := #[.int .i64 x0, .int .i64 0, .int .i64 0, .int .i64 0, .string ⟨#[]⟩, .string ⟨#[]⟩, .string ⟨#[]⟩, .slice none 0 0, .slice none 0 0, .slice none 0 0]) HX.out 0 (.int .i64 x0) rfl) 1 (.int .i64 x1) rfl) 2 (.int .i64 x2) rfl) 3 (.int .i64 x3) rfl) 4 (.string st) rfl) 5 (.string xs) rfl) 6 (.string xt) rfl) 7 (.slice A7 tg.length c7) rfl) 8 (.slice A8 fl.length c8) rfl) 9 (.slice A9 q.length c9) rfl)
    have n3_ := Aside0.mk ((((((((((HXB3.out.setCell (p := ⟨T, 0, none⟩) HTW.out (.int .i64 x0)).setCell (p := ⟨T, 1, none⟩) HTW.out (.int .i64 x1)).setCell (p := ⟨T, 2, none⟩) HTW.out (.int .i64 x2)).setCell (p := ⟨T, 3, none⟩) HTW.out (.int .i64 x3)).setCell (p := ⟨T, 4, none⟩) HTW.out (.string st)).setCell (p := ⟨T, 5, none⟩) HTW.out (.string xs)).setCell (p := ⟨T, 6, none⟩) HTW.out (.string xt)).setCell (p := ⟨T, 7, none⟩) HTW.out (.slice A7 tg.length c7)).setCell (p := ⟨T, 8, none⟩) HTW.out (.slice A8 fl.length c8)).setCell (p := ⟨T, 9, none⟩) HTW.out (.slice A9 q.length c9))
    clear HX HXN HXB3 hx0 hx1 hx2 hx3 hx4 hx5 hx6 hx7 hx8 hx9 hz0 hz1 hz2 hz3 hz4 hz5 hz6 hz7 hz8 hz9 hf0 hf1 hf2 hf3 hf4 hf5 hf6 hf7 hf8 hf9
    generalize ((((((((((w3.setCell ⟨T, 0, none⟩ (.int .i64 x0)).setCell ⟨T, 1, none⟩ (.int .i64 x1)).setCell ⟨T, 2, none⟩ (.int .i64 x2)).setCell ⟨T, 3, none⟩ (.int .i64 x3)).setCell ⟨T, 4, none⟩ (.string st)).setCell ⟨T, 5, none⟩ (.string xs)).setCell ⟨T, 6, none⟩ (.string xt)).setCell ⟨T, 7, none⟩ (.slice A7 tg.length c7)).setCell ⟨T, 8, none⟩ (.slice A8 fl.length c8)).setCell ⟨T, 9, none⟩ (.slice A9 q.length c9)) = w4 at n1_ n3_ ⊢
    have hc_ := blk_cell n1_.out 7
    have hf_ := blk_frozen n1_.out 7
    go_upto_if 25 with (fail)
    obtain ⟨n7, hn7⟩ : ∃ n, n = min 10 tg.length := ⟨_, rfl⟩
    go_cut [] (fun wc => Aside0 (wc.heap[T]? = some (.cells #[.int .i64 x0, .int .i64 x1, .int .i64 x2, .int .i64 x3, .string st, .string xs, .string xt, .slice A7 n7 c7, .slice A8 fl.length c8, .slice A9 q.length c9] 36 (0, 0))) ∧ Aside0 (Below wr.heap.size wr wc))
    case first =>
      by_cases hb_ : 10 < tg.length
      · have e : n7 = 10 := by omega
        clear hn7
        subst e
        have hcap : 10 ≤ c7 := by omega
        go_wp2
        go_meet
        case rel => exact ⟨⟨blk_put (cs' := #[.int .i64 x0, .int .i64 x1, .int .i64 x2, .int .i64 x3, .string st, .string xs, .string xt, .slice A7 10 c7, .slice A8 fl.length c8, .slice A9 q.length c9]) n1_.out 7 (.slice A7 10 c7) rfl⟩, ⟨n3_.out.setCell (p := ⟨T, 7, none⟩) HTW.out (.slice A7 10 c7)⟩⟩
      · have e : n7 = tg.length := by omega
        clear hn7
        subst e
        go_wp2
        go_meet
        case rel => exact ⟨n1_, n3_⟩
    case rest =>
    obtain ⟨r1_, r3_⟩ := hcut
    clear n1_ n3_ hc_ hf_
    have n1_ := r1_
    have n3_ := r3_
    clear r1_ r3_
    have hc_ := blk_cell n1_.out 8
    have hf_ := blk_frozen n1_.out 8
    go_upto_if 36 with (fail)
    obtain ⟨n8, hn8⟩ : ∃ n, n = min 10 fl.length := ⟨_, rfl⟩
    go_cut [] (fun wc => Aside0 (wc.heap[T]? = some (.cells #[.int .i64 x0, .int .i64 x1, .int .i64 x2, .int .i64 x3, .string st, .string xs, .string xt, .slice A7 n7 c7, .slice A8 n8 c8, .slice A9 q.length c9] 36 (0, 0))) ∧ Aside0 (Below wr.heap.size wr wc))
    case first =>
      by_cases hb_ : 10 < fl.length
      · have e : n8 = 10 := by omega
        clear hn8
        subst e
        have hcap : 10 ≤ c8 := by omega
        go_wp2
        go_meet
        case rel => exact ⟨⟨blk_put (cs' := #[.int .i64 x0, .int .i64 x1, .int .i64 x2, .int .i64 x3, .string st, .string xs, .string xt, .slice A7 n7 c7, .slice A8 10 c8, .slice A9 q.length c9]) n1_.out 8 (.slice A8 10 c8) rfl⟩, ⟨n3_.out.setCell (p := ⟨T, 8, none⟩) HTW.out (.slice A8 10 c8)⟩⟩
      · have e : n8 = fl.length := by omega
        clear hn8
        subst e
        go_wp2
        go_meet
        case rel => exact ⟨n1_, n3_⟩
    case rest =>
    obtain ⟨r1_, r3_⟩ := hcut
    clear n1_ n3_ hc_ hf_
    have n1_ := r1_
    have n3_ := r3_
    clear r1_ r3_
    have hc_ := blk_cell n1_.out 9
    have hf_ := blk_frozen n1_.out 9
    go_upto_if 47 with (fail)
    obtain ⟨n9, hn9⟩ : ∃ n, n = min 8 q.length := ⟨_, rfl⟩
    go_cut [] (fun wc => Aside0 (wc.heap[T]? = some (.cells #[.int .i64 x0, .int .i64 x1, .int .i64 x2, .int .i64 x3, .string st, .string xs, .string xt, .slice A7 n7 c7, .slice A8 n8 c8, .slice A9 n9 c9] 36 (0, 0))) ∧ Aside0 (Below wr.heap.size wr wc))
    case first =>
      by_cases hb_ : 8 < q.length
      · have e : n9 = 8 := by omega
        clear hn9
        subst e
        have hcap : 8 ≤ c9 := by omega
        go_wp2
        go_meet
        case rel => exact ⟨⟨blk_put (cs' := #[.int .i64 x0, .int .i64 x1, .int .i64 x2, .int .i64 x3, .string st, .string xs, .string xt, .slice A7 n7 c7, .slice A8 n8 c8, .slice A9 8 c9]) n1_.out 9 (.slice A9 8 c9) rfl⟩, ⟨n3_.out.setCell (p := ⟨T, 9, none⟩) HTW.out (.slice A9 8 c9)⟩⟩
      · have e : n9 = q.length := by omega
        clear hn9
        subst e
        go_wp2
        go_meet
        case rel => exact ⟨n1_, n3_⟩
    case rest =>
    obtain ⟨r1_, r3_⟩ := hcut
    clear n1_ n3_ hc_ hf_
    have n1_ := r1_
    have n3_ := r3_
    clear r1_ r3_
    have hc_ := blk_cell n1_.out 4
    have hf_ := blk_frozen n1_.out 4
    go_upto_if 57 with (fail)
    obtain ⟨s2, hs2⟩ : ∃ n, n = st.extract 0 (min 100 st.size) := ⟨_, rfl⟩
    go_cut [] (fun wc => Aside0 (wc.heap[T]? = some (.cells #[.int .i64 x0, .int .i64 x1, .int .i64 x2, .int .i64 x3, .string s2, .string xs, .string xt, .slice A7 n7 c7, .slice A8 n8 c8, .slice A9 n9 c9] 36 (0, 0))) ∧ Aside0 (Below wr.heap.size wr wc))
    case first =>
      by_cases hb_ : 100 < st.size
      · rw [Nat.min_eq_left (by omega)] at hs2
        have HT := Aside0.mk hs2
        clear hs2
        go_wp2
        go_meet
        case rel => exact ⟨⟨by rw [HT.out]; exact blk_put (cs' := #[.int .i64 x0, .int .i64 x1, .int .i64 x2, .int .i64 x3, .string (st.extract 0 100), .string xs, .string xt, .slice A7 n7 c7, .slice A8 n8 c8, .slice A9 n9 c9]) n1_.out 4 (.string (st.extract 0 100)) rfl⟩, ⟨n3_.out.setCell (p := ⟨T, 4, none⟩) HTW.out (.string (st.extract 0 100))⟩⟩
      · rw [Nat.min_eq_right (by omega), ByteArray.extract_zero_size] at hs2
        subst hs2
        go_wp2
        go_meet
        case rel => exact ⟨n1_, n3_⟩
    case rest =>
    obtain ⟨r1_, r3_⟩ := hcut
    clear n1_ n3_ hc_ hf_
    have n1_ := r1_
    have n3_ := r3_
    clear r1_ r3_
    have HBC := Aside0.mk (HB.out.trans (n3_.out.mono HB.out.size))
    have HNC := Aside0.mk (Kd.N_below HN.out n3_.out)
    have HFK := Aside0.mk (FK_step36 HSC.out.few HBC.out)
    simp only [fewS, List.length_take] at HFK
    rw [← hn7, ← hn8, ← hn9, ← hs2] at HFK
    have HFS2 : Aside0 ((l.take (i + 1)).map fewS = acc ++ [⟨x0, x1, x2, x3, s2, ⟨xs, xt, tg.take 10, fl.take 10⟩, ⟨q.take 8⟩⟩]) := ⟨by rw [hs2]; exact HFS.out⟩
    have HOK : Aside0 (∀ k, k < w.heap.size → True ∧ some k ≠ (Value.slice A3 acc.length c3).ownBlock) := ⟨fun k hk => ⟨trivial, fun e_ => by have := Kd.N_base HN.out k e_.symm; omega⟩⟩
    have HSZ := Aside0.mk HBC.out.size
    clear HN HFS HSC HB n3_ hn7 hn8 hn9 hs2
    have hx0 := blk_cell n1_.out 0
    have hx1 := blk_cell n1_.out 1
    have hx2 := blk_cell n1_.out 2
    have hx3 := blk_cell n1_.out 3
    have hx4 := blk_cell n1_.out 4
    have hx5 := blk_cell n1_.out 5
    have hx6 := blk_cell n1_.out 6
    have hx7 := blk_cell n1_.out 7
    have hx8 := blk_cell n1_.out 8
    have hx9 := blk_cell n1_.out 9
    clear n1_
    go_wp2_with (first | ((with_reducible refine gate_builtin (b := .append) (xs := #[.tmp 62, .tmp 64]) rfl ?_); at_builtin; refine Kd.N_append k36 (w0 := w) w.heap.size rfl (.tmp 62) (.tmp 64) 22 36 (.agg #[.int .i64 0, .int .i64 0, .int .i64 0, .int .i64 0, .string ⟨#[]⟩, .string ⟨#[]⟩, .string ⟨#[]⟩, .slice none 0 0, .slice none 0 0, .slice none 0 0]) 152 rfl Try.underlying22 info_step rfl (by decide) (by decide) (.slice A3 acc.length c3) acc ⟨x0, x1, x2, x3, s2, ⟨xs, xt, tg.take 10, fl.take 10⟩, ⟨q.take 8⟩⟩ [.int .i64 x0, .int .i64 x1, .int .i64 x2, .int .i64 x3, .string s2, .string xs, .string xt, .slice A7 n7 c7, .slice A8 n8 c8, .slice A9 n9 c9] (fun _ => True) (fun k => k < w.heap.size) rfl rfl HFK.out HOK.out (fun _ _ => trivial) HNC.out HBC.out HSZ.out (by omega) ?_; intro v6_ w6_ ho hb hg hat; have HN6 := Aside0.mk ho; have HB6 := Aside0.mk hb; clear ho hb hg hat))
    rw [← HFS2.out] at HN6
    clear HNC HBC HFK HOK HSZ HFS2 hx0 hx1 hx2 hx3 hx4 hx5 hx6 hx7 hx8 hx9
    go_wp2_with fail
    go_roundg (l.length - (i + 1))
    case measure => have := HE.out; omega
    case rel => exact ⟨i + 1, by go_num, ⟨by have := HE.out; omega⟩, ⟨by omega⟩, HN6, HB6⟩
end Go.Proofs.Ytocpcnmnhckcpaa.Prt
namespace Go.Proofs.Ytocpcnmnhckcpaa.Prt
open Go.RowKit Go.Proofs.YtocpcnmnhckcpaaW.PrintWords Go.Proofs.YtocpcnmnhckcpaaW.PrintLast Go.Proofs.YtocpcnmnhckcpaaW.PrintMore Go.Proofs.Ytocpcnmnhckcpaa.Num Go.Proofs.Ytocpcnmnhckcpaa.Nam
set_option linter.unusedVariables false
set_option linter.unusedSimpArgs false
def stepOne (k s : Int) : S36 := ⟨k, s, 0, 0, ⟨#[]⟩, z31, ⟨[]⟩⟩
theorem enc_small {x : Int} (h0 : 0 ≤ x) (h1 : x < 64) : enc x = [2 * x] := by
  unfold enc
  have hz : zz x = (2 * x).toNat := by unfold zz; rw [if_neg (by omega)]
  rw [hz, encN_lt (by omega)]
  congr 1; omega
theorem encS_one {k s : Int} (hk0 : 0 ≤ k) (hk : k < 64) (hs0 : 0 ≤ s) (hs : s < 64) : encS (stepOne k s) = [2 * k, 2 * s, 0, 0, 0, 0, 0] := by
  have hv : encV (stepOne k s).f5 = enc 0 := by unfold encV; rw [if_pos ((noV_iff (stepOne k s).f5).2 rfl)]
  have hw : encW (stepOne k s).f6.f0 = enc 0 := rfl
  have h0 : enc 0 = [0] := by rw [enc_small (by decide) (by decide)]; rfl
  have ht : encT (bytesOf (stepOne k s).f4) = [0] := by
    show enc ((bytesOf (⟨#[]⟩ : ByteArray)).length : Int) ++ bytesOf (⟨#[]⟩ : ByteArray) = [0]
    have e : bytesOf (⟨#[]⟩ : ByteArray) = [] := rfl
    rw [e]; show enc 0 ++ [] = [0]; rw [h0]; rfl
  unfold encS encK
  rw [hv, hw, ht]
  show enc k ++ (enc s ++ (enc 0 ++ (enc 0 ++ [0]))) ++ (enc 0 ++ enc 0) = _
  rw [h0, enc_small hk0 hk, enc_small hs0 hs]
  rfl
theorem i64_zero : i64 0 := ⟨by decide, by decide⟩
theorem okS_one {k s : Int} (hk : i64 k) (hs : i64 s) : OkS (stepOne k s) := ⟨hk, hs, i64_zero, i64_zero, Nat.zero_le _, mayV_zero, rfl⟩
theorem fitS_one {k s : Int} (hk : i64 k) (hs : i64 s) : FitS (stepOne k s) := ⟨hk, hs, i64_zero, i64_zero, Nat.zero_le _, Nat.zero_le _, rfl, rfl⟩
theorem print_one : printS [stepOne 1 1] = ([48, 50, 48, 50, 48, 48, 48, 48, 48, 48, 48, 48, 48, 48, 10], 0) := by
  have hok := okS_one (k := 1) (s := 1) ⟨by decide, by decide⟩ ⟨by decide, by decide⟩
  have hf : firstS [stepOne 1 1] = 0 := firstS_zero.2 (fun t ht => by rw [List.mem_singleton.1 ht, putS_ok hok.hv hok.hq])
  unfold printS
  rw [if_neg (by decide), if_neg (fun h => h hf)]
  congr 1
  unfold printL lineT
  rw [List.flatMap_cons, encS_one (by decide) (by decide) (by decide) (by decide)]
  rfl
theorem FK_one {w : World} {k s : Int} : Kd.FK k36 w (fun _ => False) (stepOne k s) [.int .i64 k, .int .i64 s, .int .i64 0, .int .i64 0, .string ⟨#[]⟩, .string ⟨#[]⟩, .string ⟨#[]⟩, .slice none 0 0, .slice none 0 0, .slice none 0 0] :=
  fun W' hW => k36_mk W' (stepOne k s) (A7 := none) (c7 := 0) (Nat.zero_le _) (Kd.C_nil _ _) (A8 := none) (c8 := 0) (Nat.zero_le _) (Kd.C_nil _ _) (A9 := none) (c9 := 0) (Nat.zero_le _) (Kd.C_nil _ _)
set_option maxRecDepth 100000 in
theorem shown_calls22 (w : World) : Calls Try.prog 7 #[] w fun e w' => e = .returned (.bool true) ∧ Below w.heap.size w w' := by
  have hu36 := Try.underlying36
  go_enter Try.func7, Try.ntmps7
  go_wp2_with (first | ((with_reducible refine gate_dst (N := 5) rfl ?_); refine Kd.N_lit k36 (w0 := w) w.heap.size 36 ?hg (N' := 5) ?hd (xs := [stepOne 1 1]) (inner := [.int .i64 1, .int .i64 1, .int .i64 0, .int .i64 0, .string ⟨#[]⟩, .string ⟨#[]⟩, .string ⟨#[]⟩, .slice none 0 0, .slice none 0 0, .slice none 0 0]) (ok := fun _ => True) (okp := fun _ => False) ?hr ?hp (fun _ hk => hk.elim) trivial (Below.refl _ _) (Nat.le_refl _) (by simp) ?_; (case hd => rfl); (case hg => rfl); (case hr => first | (go_simp; done) | (go_simp; rfl)); (case hp => exact Reps.snoc (Reps.none _ _) FK_one rfl); intro v5 w5 ho hb hg hat; obtain ⟨A5, c5, e5, hc5, hC5⟩ := Kd.N_reads ho; subst e5; have HC5 := Aside0.mk (And.intro hc5 hC5); have HB5 := Aside0.mk hb; clear ho hb hg hat hc5 hC5))
  have HPC := Aside0.mk (print_calls22 A5 c5 [stepOne 1 1] w5 HC5.out.2 HC5.out.1 (fun t ht => by rw [List.mem_singleton.1 ht]; exact ⟨fitS_one ⟨by decide, by decide⟩ ⟨by decide, by decide⟩, Nat.zero_le _⟩) _ _ print_one)
  refine HPC.out.mono ?_
  rintro e w6 ⟨rfl, hb⟩
  have HB6 := Aside0.mk (below_step HB5.out hb)
  clear hb HPC HC5
  have hs : (strOfNums [48, 50, 48, 50, 48, 48, 48, 48, 48, 48, 48, 48, 48, 48, 10]).toList = [48, 50, 48, 50, 48, 48, 48, 48, 48, 48, 48, 48, 48, 48, 10] := by rw [strOfNums_toList]; rfl
  go_wp2
  go_ret
  exact ⟨rfl, HB6.out⟩
end Go.Proofs.Ytocpcnmnhckcpaa.Prt
namespace Go.Proofs.Ytocpcnmnhckcpaa.Prt
open Go.RowKit Go.Proofs.YtocpcnmnhckcpaaW.PrintWords Go.Proofs.YtocpcnmnhckcpaaW.PrintLast Go.Proofs.YtocpcnmnhckcpaaW.PrintMore Go.Proofs.Ytocpcnmnhckcpaa.Num Go.Proofs.Ytocpcnmnhckcpaa.Nam
set_option linter.unusedVariables false
set_option linter.unusedSimpArgs false
/-- A step that came in. -/
structure InS (t : S36) : Prop where
  k0 : i64 t.f0
  k1 : i64 t.f1
  k2 : i64 t.f2
  k3 : i64 t.f3
  e0 : t.f5.f0.size ≤ 9223372036854775807
  e1 : t.f5.f1.size ≤ 9223372036854775807
  e2 : ∀ x ∈ t.f5.f2, x.size ≤ 9223372036854775807
  e3 : ∀ x ∈ t.f5.f3, x.f0.size ≤ 9223372036854775807
  q : ∀ x ∈ t.f6.f0, (∀ s ∈ x.f0, s.size ≤ 9223372036854775807) ∧ (∀ s ∈ x.f1, s.size ≤ 9223372036854775807)
theorem lenC_of_C {w : World} {A : Option Addr} {q : List S92} (h : Kd.C k92 w A q.length q) : q.all lenC = true := List.all_eq_true.2 fun x hx => by
  obtain ⟨i, hi, rfl⟩ := List.getElem_of_mem hx
  obtain ⟨ad, c, e, _, hK, hc0⟩ := Kd.C_get h z92 (i : Int) (by omega) (by omega)
  rw [Int.toNat_natCast, List.getD_eq_getElem?_getD, List.getElem?_eq_getElem hi] at hK
  obtain ⟨A0, c0, A1, c1, _, _, g0, _, g1⟩ := k92_open hK
  unfold lenC
  rw [Bool.and_eq_true, decide_eq_true_iff, decide_eq_true_iff]
  exact ⟨Kd.C_max g0, Kd.C_max g1⟩
theorem fewS_fit {t : S36} (h : InS t) : FitS (fewS t) ∧ (fewS t).f4.size ≤ 100 := by
  have hs : (fewS t).f4.size ≤ 100 := by
    show (t.f4.extract 0 (min 100 t.f4.size)).size ≤ 100
    rw [ByteArray.size_extract]; omega
  refine ⟨⟨h.k0, h.k1, h.k2, h.k3, by omega, ?_, fitE_iff.2 ⟨h.e0, h.e1, fun x hx => h.e2 x (List.mem_of_mem_take hx), fun x hx => h.e3 x (List.mem_of_mem_take hx), ?_⟩, List.all_eq_true.2 fun x hx => fitC_iff.2 (h.q x (List.mem_of_mem_take hx))⟩, hs⟩
  · show (t.f5.f2.take 10).length ≤ 1000000
    rw [List.length_take]; omega
  · show (t.f5.f3.take 10).length < 8796093022208
    rw [List.length_take]; omega
theorem fewS_len {w : World} {t : S36} {A9 : Option Addr} (h : Kd.C k92 w A9 (fewS t).f6.f0.length (fewS t).f6.f0) : LenS (fewS t) := by
  refine ⟨?_, ?_, ?_, lenC_of_C h⟩
  · show (t.f5.f2.take 10).length ≤ 1000000
    rw [List.length_take]; omega
  · show (t.f5.f3.take 10).length ≤ 1000000
    rw [List.length_take]; omega
  · show (t.f6.f0.take 8).length ≤ 1000000
    rw [List.length_take]; omega
theorem put_C22 (t : S36) (A7 : Option Addr) (c7 : Nat) (A8 : Option Addr) (c8 : Nat) (A9 : Option Addr) (c9 : Nat) (w : World) (h : StC w t A7 c7 A8 c8 A9 c9) (hf : FitS t) (p : List Int) (pe : Int) (hp : putS t = (p, pe)) :
    Calls Try.prog 12 #[.agg #[.int .i64 t.f0, .int .i64 t.f1, .int .i64 t.f2, .int .i64 t.f3, .string t.f4, .string t.f5.f0, .string t.f5.f1, .slice A7 t.f5.f2.length c7, .slice A8 t.f5.f3.length c8, .slice A9 t.f6.f0.length c9]] w fun e w' => ∃ A' c', e = .returned (.tuple #[.slice A' p.length c', .int .i64 pe]) ∧ p.length ≤ c' ∧ Kd.C (Kd.int .u8) w' A' p.length p ∧ Below w.heap.size w w' :=
  (put_calls22 t A7 c7 A8 c8 A9 c9 w h hf p pe hp).mono (by
    rintro e w' ⟨v, rfl, hN, hb⟩
    obtain ⟨A', c', rfl, h1, h2⟩ := Kd.R_reads hN
    exact ⟨A', c', rfl, h1, h2, hb⟩)
theorem takeBad_C (A : Option Addr) (c : Nat) (l : List Int) (w : World) (hC : Kd.C (Kd.int .u8) w A l.length l) (hc : l.length ≤ c) (hb : isBytes l) (hl : l.length ≤ 1000000000) (h : takeS l = (z36, 240)) :
    Calls Try.prog 13 #[.slice A l.length c] w fun e w' => ∃ A7 c7 A8 c8 A9 c9, e = .returned (.tuple #[.agg #[.int .i64 0, .int .i64 0, .int .i64 0, .int .i64 0, .string ⟨#[]⟩, .string ⟨#[]⟩, .string ⟨#[]⟩, .slice A7 0 c7, .slice A8 0 c8, .slice A9 0 c9], .int .i64 240]) ∧ Below w.heap.size w w' :=
  (take_calls22 A c l w hC hc hb hl _ _ h).mono (by
    rintro e w' ⟨v7, v8, v9, rfl, h7, h8, h9, hb⟩
    obtain ⟨A7, c7, rfl⟩ := Kd.R_slice h7
    obtain ⟨A8, c8, rfl⟩ := Kd.R_slice h8
    obtain ⟨A9, c9, rfl⟩ := Kd.S_slice h9
    exact ⟨A7, c7, A8, c8, A9, c9, rfl, hb⟩)
theorem eqT_self (l : List S36) : eqL eqT l l = true := (eqL_iff eqT_iff l l).2 rfl
theorem encS_eqT {a b : S36} (ha : OkS a) (hb : OkS b) : decide (encS a = encS b) = eqL eqT [a] [b] := by
  cases hq : eqL eqT [a] [b] with
  | true =>
    have := (eqL_iff eqT_iff [a] [b]).1 hq
    simp only [List.cons.injEq, and_true] at this
    rw [this]
    exact decide_eq_true rfl
  | false =>
    refine decide_eq_false fun e => ?_
    have := (encS_part ha hb (r := []) (r' := []) (by rw [e])).1
    rw [this, eqT_self] at hq
    cases hq
end Go.Proofs.Ytocpcnmnhckcpaa.Prt
namespace Go.Proofs.Ytocpcnmnhckcpaa.Gen
open Go.RowKit Go.Proofs.YtocpcnmnhckcpaaW.PrintWords Go.Proofs.YtocpcnmnhckcpaaW.PrintLast Go.Proofs.YtocpcnmnhckcpaaW.PrintMore
set_option linter.unusedVariables false
set_option linter.unusedSimpArgs false

theorem list_of {α : Type} {p : Nat → α → Prop} : ∀ n : Nat, (∀ i, i < n → ∃ x, p i x) → ∃ xs : List α, xs.length = n ∧ ∀ i x, xs[i]? = some x → p i x := by
  intro n
  induction n with
  | zero => exact fun _ => ⟨[], rfl, fun i x h => by simp at h⟩
  | succ n ih =>
    intro h
    obtain ⟨xs, h1, h2⟩ := ih (fun i hi => h i (by omega))
    obtain ⟨y, hy⟩ := h n (by omega)
    refine ⟨xs ++ [y], by simp [h1], fun i x hx => ?_⟩
    rcases Nat.lt_or_ge i xs.length with hi | hi
    · rw [List.getElem?_append_left hi] at hx; exact h2 i x hx
    · have hl := (List.getElem?_eq_some_iff.1 hx).1
      rw [List.length_append, List.length_singleton] at hl
      obtain rfl : i = xs.length := by omega
      rw [List.getElem?_append_right hi] at hx
      simp at hx
      subst hx
      rw [h1]; exact hy
/-- Whatever reads as data of type t stands as an x of kind k that is ok. -/
def Opens {α : Type} (P : Program) (t : TypeId) (k : Kd α) (ok : α → Prop) : Prop :=
  ∀ {H : Type} (enc : TypeId × Value → H) (w : World) (base : Nat) (spare : Nat → Bool) (held : Bool) (fuel : Nat) (cs : List Value) (y : DataW H × List MemPlace), DataW.trod enc P w base spare held fuel t cs = some y → ∃ x, k.K w x cs ∧ ok x
section
variable {P : Program} {t e : TypeId}
theorem opens_int {k : IntKind} (ht : P.underlying t = some (.int k)) : Opens P t (Kd.int k) (fun n => (Lit.int k n).wf = true) := by
  intro H enc w base spare held fuel cs y h
  obtain ⟨n, rfl, _, h2⟩ := DataW.trod_int ht h
  exact ⟨n, rfl, h2⟩
theorem opens_string (ht : P.underlying t = some .string) : Opens P t Kd.string (fun s => s.size ≤ maxLen) := by
  intro H enc w base spare held fuel cs y h
  obtain ⟨s, rfl, _, h2⟩ := DataW.trod_string ht h
  exact ⟨s, rfl, h2⟩
theorem opens_slice {α : Type} {k : Kd α} {ok : α → Prop} (ht : P.underlying t = some (.slice e)) (hc : P.cellsOf e = k.sz) (he : Opens P e k ok) : Opens P t (Kd.slice e k) (fun xs => ∀ x ∈ xs, ok x) := by
  intro H enc w base spare held fuel cs y h
  rcases DataW.trod_slice ht h with ⟨rfl, _⟩ | ⟨a, len, cap, elems, rest, n, _, rfl, _, hb, hl, hm, hlen, hel, _, _⟩
  · exact ⟨[], ⟨none, 0, rfl, Nat.le_refl _, Kd.C_nil _ _⟩, fun x hx => by simp at hx⟩
  · have key : ∀ i, i < len → ∃ x, (∃ c, c.length = k.sz ∧ k.K w x c ∧ ∀ j u, c[j]? = some u → w.cell? (a.add (i * k.sz + j)) = some u) ∧ ok x := by
      intro i hi
      have h1 := hel i hi
      have h2 : elems[i]? = some elems[i] := List.getElem?_eq_getElem (by omega)
      rw [h2] at h1
      obtain ⟨c, hcells, htrod⟩ := Option.bind_eq_some_iff.1 h1
      obtain ⟨x, hx, hok⟩ := he enc w base spare held n c _ htrod
      obtain ⟨_, hcl, hcc⟩ := World.cells?_some hcells
      refine ⟨x, ⟨c, by rw [hcl, hc], hx, fun j u hj => ?_⟩, hok⟩
      have hjl : j < P.cellsOf e := by rw [← hcl]; exact (List.getElem?_eq_some_iff.1 hj).1
      have h3 := hcc j hjl
      rw [hj, hc] at h3
      rw [← h3]
      congr 1
      exact (Go.Deep.add_add a (i * k.sz) j).symm
    obtain ⟨xs, hxl, hx⟩ := list_of len key
    refine ⟨xs, ⟨some a, cap, by rw [hxl], by rw [hxl]; exact hl, hxl ▸ rfl, by rw [hxl]; simp only [maxLen] at hm; omega, fun _ => ⟨a, rfl, fun j p hp => (hx j p hp).1⟩⟩, fun x hxm => ?_⟩
    obtain ⟨j, hj⟩ := List.mem_iff_getElem?.1 hxm
    exact (hx j x hj).2
end
end Go.Proofs.Ytocpcnmnhckcpaa.Gen
namespace Go.Proofs.Ytocpcnmnhckcpaa.Gen
open Go.RowKit Go.Proofs.YtocpcnmnhckcpaaW.PrintWords Go.Proofs.YtocpcnmnhckcpaaW.PrintLast Go.Proofs.YtocpcnmnhckcpaaW.PrintMore Go.Proofs.Ytocpcnmnhckcpaa.Prt
set_option linter.unusedVariables false
set_option linter.unusedSimpArgs false
theorem opens_str : Opens Try.prog 9 Kd.string (fun s => s.size ≤ maxLen) := opens_string Try.underlying9
theorem opens_i64 : Opens Try.prog 3 (Kd.int .i64) (fun n => (Lit.int .i64 n).wf = true) := opens_int Try.underlying3
theorem opens_strs : Opens Try.prog 28 (Kd.slice 9 Kd.string) (fun xs => ∀ x ∈ xs, x.size ≤ maxLen) := opens_slice Try.underlying28 (by kernel_rfl) opens_str
end Go.Proofs.Ytocpcnmnhckcpaa.Gen
namespace Go.Proofs.Ytocpcnmnhckcpaa.Gen
open Go.RowKit Go.Proofs.YtocpcnmnhckcpaaW.PrintWords Go.Proofs.YtocpcnmnhckcpaaW.PrintLast Go.Proofs.YtocpcnmnhckcpaaW.PrintMore Go.Proofs.Ytocpcnmnhckcpaa.Prt
set_option linter.unusedVariables false
set_option linter.unusedSimpArgs false
theorem opens_field : Opens Try.prog 90 k90 (fun x => x.f0.size ≤ maxLen ∧ (Lit.int .i64 x.f1).wf = true) := by
  intro H enc w base spare held fuel cs y h
  obtain ⟨xs, n, _, _, hl, hlen, hf⟩ := DataW.trod_struct Try.underlying90 h
  rw [show Try.prog.cellsOf 90 = 2 from by kernel_rfl] at hl
  have hlen' : xs.length = 2 := hlen
  have h0 := hf 0 _ rfl
  rw [List.getElem?_eq_getElem (l := xs) (i := 0) (by omega)] at h0
  replace h0 : DataW.trod enc Try.prog w base spare held n 9 ((cs.drop 0).take (Try.prog.cellsOf 9)) = some xs[0] := h0
  rw [show Try.prog.cellsOf 9 = 1 from by kernel_rfl] at h0
  obtain ⟨x0, K0, o0⟩ := opens_str enc w base spare held n _ _ h0
  have h1 := hf 1 _ rfl
  rw [List.getElem?_eq_getElem (l := xs) (i := 1) (by omega)] at h1
  replace h1 : DataW.trod enc Try.prog w base spare held n 3 ((cs.drop 1).take (Try.prog.cellsOf 3)) = some xs[1] := h1
  rw [show Try.prog.cellsOf 3 = 1 from by kernel_rfl] at h1
  obtain ⟨x1, K1, o1⟩ := opens_i64 enc w base spare held n _ _ h1
  have e : cs = (cs.drop 0).take 1 ++ ((cs.drop 1).take 1) := by
    have g0 : cs.drop 0 = (cs.drop 0).take 1 ++ cs.drop 1 := by rw [show cs.drop 1 = (cs.drop 0).drop 1 from by rw [List.drop_drop], List.take_append_drop]
    have g1 : cs.drop 1 = (cs.drop 1).take 1 ++ cs.drop 2 := by rw [show cs.drop 2 = (cs.drop 1).drop 1 from by rw [List.drop_drop], List.take_append_drop]
    have z : cs.drop 2 = [] := List.drop_eq_nil_of_le (by omega)
    rw [z, List.append_nil] at g1
    calc cs = cs.drop 0 := rfl
      _ = (cs.drop 0).take 1 ++ ((cs.drop 1).take 1) := by rw [← g1]; exact g0
  refine ⟨⟨x0, x1⟩, ?_, o0, o1⟩
  rw [e]
  exact ⟨_, _, rfl, K0, K1⟩
theorem opens_fields : Opens Try.prog 29 (Kd.slice 90 k90) (fun xs => ∀ x ∈ xs, x.f0.size ≤ maxLen ∧ (Lit.int .i64 x.f1).wf = true) := opens_slice Try.underlying29 (by kernel_rfl) opens_field
theorem opens_event : Opens Try.prog 31 k31 (fun x => x.f0.size ≤ maxLen ∧ x.f1.size ≤ maxLen ∧ (∀ z ∈ x.f2, z.size ≤ maxLen) ∧ (∀ z ∈ x.f3, z.f0.size ≤ maxLen ∧ (Lit.int .i64 z.f1).wf = true)) := by
  intro H enc w base spare held fuel cs y h
  obtain ⟨xs, n, _, _, hl, hlen, hf⟩ := DataW.trod_struct Try.underlying31 h
  rw [show Try.prog.cellsOf 31 = 4 from by kernel_rfl] at hl
  have hlen' : xs.length = 4 := hlen
  have h0 := hf 0 _ rfl
  rw [List.getElem?_eq_getElem (l := xs) (i := 0) (by omega)] at h0
  replace h0 : DataW.trod enc Try.prog w base spare held n 9 ((cs.drop 0).take (Try.prog.cellsOf 9)) = some xs[0] := h0
  rw [show Try.prog.cellsOf 9 = 1 from by kernel_rfl] at h0
  obtain ⟨x0, K0, o0⟩ := opens_str enc w base spare held n _ _ h0
  have h1 := hf 1 _ rfl
  rw [List.getElem?_eq_getElem (l := xs) (i := 1) (by omega)] at h1
  replace h1 : DataW.trod enc Try.prog w base spare held n 9 ((cs.drop 1).take (Try.prog.cellsOf 9)) = some xs[1] := h1
  rw [show Try.prog.cellsOf 9 = 1 from by kernel_rfl] at h1
  obtain ⟨x1, K1, o1⟩ := opens_str enc w base spare held n _ _ h1
  have h2 := hf 2 _ rfl
  rw [List.getElem?_eq_getElem (l := xs) (i := 2) (by omega)] at h2
  replace h2 : DataW.trod enc Try.prog w base spare held n 28 ((cs.drop 2).take (Try.prog.cellsOf 28)) = some xs[2] := h2
  rw [show Try.prog.cellsOf 28 = 1 from by kernel_rfl] at h2
  obtain ⟨x2, K2, o2⟩ := opens_strs enc w base spare held n _ _ h2
  have h3 := hf 3 _ rfl
  rw [List.getElem?_eq_getElem (l := xs) (i := 3) (by omega)] at h3
  replace h3 : DataW.trod enc Try.prog w base spare held n 29 ((cs.drop 3).take (Try.prog.cellsOf 29)) = some xs[3] := h3
  rw [show Try.prog.cellsOf 29 = 1 from by kernel_rfl] at h3
  obtain ⟨x3, K3, o3⟩ := opens_fields enc w base spare held n _ _ h3
  have e : cs = (cs.drop 0).take 1 ++ ((cs.drop 1).take 1 ++ ((cs.drop 2).take 1 ++ ((cs.drop 3).take 1))) := by
    have g0 : cs.drop 0 = (cs.drop 0).take 1 ++ cs.drop 1 := by rw [show cs.drop 1 = (cs.drop 0).drop 1 from by rw [List.drop_drop], List.take_append_drop]
    have g1 : cs.drop 1 = (cs.drop 1).take 1 ++ cs.drop 2 := by rw [show cs.drop 2 = (cs.drop 1).drop 1 from by rw [List.drop_drop], List.take_append_drop]
    have g2 : cs.drop 2 = (cs.drop 2).take 1 ++ cs.drop 3 := by rw [show cs.drop 3 = (cs.drop 2).drop 1 from by rw [List.drop_drop], List.take_append_drop]
    have g3 : cs.drop 3 = (cs.drop 3).take 1 ++ cs.drop 4 := by rw [show cs.drop 4 = (cs.drop 3).drop 1 from by rw [List.drop_drop], List.take_append_drop]
    have z : cs.drop 4 = [] := List.drop_eq_nil_of_le (by omega)
    rw [z, List.append_nil] at g3
    calc cs = cs.drop 0 := rfl
      _ = (cs.drop 0).take 1 ++ ((cs.drop 1).take 1 ++ ((cs.drop 2).take 1 ++ ((cs.drop 3).take 1))) := by rw [← g3, ← g2, ← g1]; exact g0
  refine ⟨⟨x0, x1, x2, x3⟩, ?_, o0, o1, o2, o3⟩
  rw [e]
  exact ⟨_, _, rfl, K0, ⟨_, _, rfl, K1, ⟨_, _, rfl, K2, K3⟩⟩⟩
end Go.Proofs.Ytocpcnmnhckcpaa.Gen
namespace Go.Proofs.Ytocpcnmnhckcpaa.Gen
open Go.RowKit Go.Proofs.YtocpcnmnhckcpaaW.PrintWords Go.Proofs.YtocpcnmnhckcpaaW.PrintLast Go.Proofs.YtocpcnmnhckcpaaW.PrintMore Go.Proofs.Ytocpcnmnhckcpaa.Prt
set_option linter.unusedVariables false
set_option linter.unusedSimpArgs false
/-- Clauses that came in. -/
def OkInQ (l : List S92) : Prop := ∀ x ∈ l, (∀ s ∈ x.f0, s.size ≤ maxLen) ∧ (∀ s ∈ x.f1, s.size ≤ maxLen)
theorem opens_clause : Opens Try.prog 92 k92 (fun x => (∀ z ∈ x.f0, z.size ≤ maxLen) ∧ (∀ z ∈ x.f1, z.size ≤ maxLen)) := by
  intro H enc w base spare held fuel cs y h
  obtain ⟨xs, n, _, _, hl, hlen, hf⟩ := DataW.trod_struct Try.underlying92 h
  rw [show Try.prog.cellsOf 92 = 2 from by kernel_rfl] at hl
  have hlen' : xs.length = 2 := hlen
  have h0 := hf 0 _ rfl
  rw [List.getElem?_eq_getElem (l := xs) (i := 0) (by omega)] at h0
  replace h0 : DataW.trod enc Try.prog w base spare held n 28 ((cs.drop 0).take (Try.prog.cellsOf 28)) = some xs[0] := h0
  rw [show Try.prog.cellsOf 28 = 1 from by kernel_rfl] at h0
  obtain ⟨x0, K0, o0⟩ := opens_strs enc w base spare held n _ _ h0
  have h1 := hf 1 _ rfl
  rw [List.getElem?_eq_getElem (l := xs) (i := 1) (by omega)] at h1
  replace h1 : DataW.trod enc Try.prog w base spare held n 28 ((cs.drop 1).take (Try.prog.cellsOf 28)) = some xs[1] := h1
  rw [show Try.prog.cellsOf 28 = 1 from by kernel_rfl] at h1
  obtain ⟨x1, K1, o1⟩ := opens_strs enc w base spare held n _ _ h1
  have e : cs = (cs.drop 0).take 1 ++ ((cs.drop 1).take 1) := by
    have g0 : cs.drop 0 = (cs.drop 0).take 1 ++ cs.drop 1 := by rw [show cs.drop 1 = (cs.drop 0).drop 1 from by rw [List.drop_drop], List.take_append_drop]
    have g1 : cs.drop 1 = (cs.drop 1).take 1 ++ cs.drop 2 := by rw [show cs.drop 2 = (cs.drop 1).drop 1 from by rw [List.drop_drop], List.take_append_drop]
    have z : cs.drop 2 = [] := List.drop_eq_nil_of_le (by omega)
    rw [z, List.append_nil] at g1
    calc cs = cs.drop 0 := rfl
      _ = (cs.drop 0).take 1 ++ ((cs.drop 1).take 1) := by rw [← g1]; exact g0
  refine ⟨⟨x0, x1⟩, ?_, o0, o1⟩
  rw [e]
  exact ⟨_, _, rfl, K0, K1⟩
theorem opens_clauses : Opens Try.prog 32 (Kd.slice 92 k92) (fun l => OkInQ l) := opens_slice Try.underlying32 (by kernel_rfl) opens_clause
theorem opens_query : Opens Try.prog 34 k34 (fun x => OkInQ x.f0) := by
  intro H enc w base spare held fuel cs y h
  obtain ⟨xs, n, _, _, hl, hlen, hf⟩ := DataW.trod_struct Try.underlying34 h
  rw [show Try.prog.cellsOf 34 = 1 from by kernel_rfl] at hl
  have hlen' : xs.length = 1 := hlen
  have h0 := hf 0 _ rfl
  rw [List.getElem?_eq_getElem (l := xs) (i := 0) (by omega)] at h0
  replace h0 : DataW.trod enc Try.prog w base spare held n 32 ((cs.drop 0).take (Try.prog.cellsOf 32)) = some xs[0] := h0
  rw [show Try.prog.cellsOf 32 = 1 from by kernel_rfl] at h0
  obtain ⟨x0, K0, o0⟩ := opens_clauses enc w base spare held n _ _ h0
  have e : cs = (cs.drop 0).take 1 := by
    have g0 : cs.drop 0 = (cs.drop 0).take 1 ++ cs.drop 1 := by rw [show cs.drop 1 = (cs.drop 0).drop 1 from by rw [List.drop_drop], List.take_append_drop]
    have z : cs.drop 1 = [] := List.drop_eq_nil_of_le (by omega)
    rw [z, List.append_nil] at g0
    calc cs = cs.drop 0 := rfl
      _ = (cs.drop 0).take 1 := g0
  refine ⟨⟨x0⟩, ?_, o0⟩
  rw [e]
  exact K0
end Go.Proofs.Ytocpcnmnhckcpaa.Gen
namespace Go.Proofs.Ytocpcnmnhckcpaa.Gen
open Go.RowKit Go.Proofs.YtocpcnmnhckcpaaW.PrintWords Go.Proofs.YtocpcnmnhckcpaaW.PrintLast Go.Proofs.YtocpcnmnhckcpaaW.PrintMore Go.Proofs.Ytocpcnmnhckcpaa.Prt
set_option linter.unusedVariables false
set_option linter.unusedSimpArgs false
/-- A step that came in. -/
def OkInS (x : S36) : Prop := (Lit.int .i64 x.f0).wf = true ∧ (Lit.int .i64 x.f1).wf = true ∧ (Lit.int .i64 x.f2).wf = true ∧ (Lit.int .i64 x.f3).wf = true ∧ x.f4.size ≤ maxLen ∧ (x.f5.f0.size ≤ maxLen ∧ x.f5.f1.size ≤ maxLen ∧ (∀ z ∈ x.f5.f2, z.size ≤ maxLen) ∧ (∀ z ∈ x.f5.f3, z.f0.size ≤ maxLen ∧ (Lit.int .i64 z.f1).wf = true)) ∧ OkInQ x.f6.f0
theorem opens_step0 : Opens Try.prog 36 k36 (fun x => (Lit.int .i64 x.f0).wf = true ∧ (Lit.int .i64 x.f1).wf = true ∧ (Lit.int .i64 x.f2).wf = true ∧ (Lit.int .i64 x.f3).wf = true ∧ x.f4.size ≤ maxLen ∧ (x.f5.f0.size ≤ maxLen ∧ x.f5.f1.size ≤ maxLen ∧ (∀ z ∈ x.f5.f2, z.size ≤ maxLen) ∧ (∀ z ∈ x.f5.f3, z.f0.size ≤ maxLen ∧ (Lit.int .i64 z.f1).wf = true)) ∧ OkInQ x.f6.f0) := by
  intro H enc w base spare held fuel cs y h
  obtain ⟨xs, n, _, _, hl, hlen, hf⟩ := DataW.trod_struct Try.underlying36 h
  rw [show Try.prog.cellsOf 36 = 10 from by kernel_rfl] at hl
  have hlen' : xs.length = 7 := hlen
  have h0 := hf 0 _ rfl
  rw [List.getElem?_eq_getElem (l := xs) (i := 0) (by omega)] at h0
  replace h0 : DataW.trod enc Try.prog w base spare held n 3 ((cs.drop 0).take (Try.prog.cellsOf 3)) = some xs[0] := h0
  rw [show Try.prog.cellsOf 3 = 1 from by kernel_rfl] at h0
  obtain ⟨x0, K0, o0⟩ := opens_i64 enc w base spare held n _ _ h0
  have h1 := hf 1 _ rfl
  rw [List.getElem?_eq_getElem (l := xs) (i := 1) (by omega)] at h1
  replace h1 : DataW.trod enc Try.prog w base spare held n 3 ((cs.drop 1).take (Try.prog.cellsOf 3)) = some xs[1] := h1
  rw [show Try.prog.cellsOf 3 = 1 from by kernel_rfl] at h1
  obtain ⟨x1, K1, o1⟩ := opens_i64 enc w base spare held n _ _ h1
  have h2 := hf 2 _ rfl
  rw [List.getElem?_eq_getElem (l := xs) (i := 2) (by omega)] at h2
  replace h2 : DataW.trod enc Try.prog w base spare held n 3 ((cs.drop 2).take (Try.prog.cellsOf 3)) = some xs[2] := h2
  rw [show Try.prog.cellsOf 3 = 1 from by kernel_rfl] at h2
  obtain ⟨x2, K2, o2⟩ := opens_i64 enc w base spare held n _ _ h2
  have h3 := hf 3 _ rfl
  rw [List.getElem?_eq_getElem (l := xs) (i := 3) (by omega)] at h3
  replace h3 : DataW.trod enc Try.prog w base spare held n 3 ((cs.drop 3).take (Try.prog.cellsOf 3)) = some xs[3] := h3
  rw [show Try.prog.cellsOf 3 = 1 from by kernel_rfl] at h3
  obtain ⟨x3, K3, o3⟩ := opens_i64 enc w base spare held n _ _ h3
  have h4 := hf 4 _ rfl
  rw [List.getElem?_eq_getElem (l := xs) (i := 4) (by omega)] at h4
  replace h4 : DataW.trod enc Try.prog w base spare held n 9 ((cs.drop 4).take (Try.prog.cellsOf 9)) = some xs[4] := h4
  rw [show Try.prog.cellsOf 9 = 1 from by kernel_rfl] at h4
  obtain ⟨x4, K4, o4⟩ := opens_str enc w base spare held n _ _ h4
  have h5 := hf 5 _ rfl
  rw [List.getElem?_eq_getElem (l := xs) (i := 5) (by omega)] at h5
  replace h5 : DataW.trod enc Try.prog w base spare held n 31 ((cs.drop 5).take (Try.prog.cellsOf 31)) = some xs[5] := h5
  rw [show Try.prog.cellsOf 31 = 4 from by kernel_rfl] at h5
  obtain ⟨x5, K5, o5⟩ := opens_event enc w base spare held n _ _ h5
  have h6 := hf 6 _ rfl
  rw [List.getElem?_eq_getElem (l := xs) (i := 6) (by omega)] at h6
  replace h6 : DataW.trod enc Try.prog w base spare held n 34 ((cs.drop 9).take (Try.prog.cellsOf 34)) = some xs[6] := h6
  rw [show Try.prog.cellsOf 34 = 1 from by kernel_rfl] at h6
  obtain ⟨x6, K6, o6⟩ := opens_query enc w base spare held n _ _ h6
  have e : cs = (cs.drop 0).take 1 ++ ((cs.drop 1).take 1 ++ ((cs.drop 2).take 1 ++ ((cs.drop 3).take 1 ++ ((cs.drop 4).take 1 ++ ((cs.drop 5).take 4 ++ ((cs.drop 9).take 1)))))) := by
    have g0 : cs.drop 0 = (cs.drop 0).take 1 ++ cs.drop 1 := by rw [show cs.drop 1 = (cs.drop 0).drop 1 from by rw [List.drop_drop], List.take_append_drop]
    have g1 : cs.drop 1 = (cs.drop 1).take 1 ++ cs.drop 2 := by rw [show cs.drop 2 = (cs.drop 1).drop 1 from by rw [List.drop_drop], List.take_append_drop]
    have g2 : cs.drop 2 = (cs.drop 2).take 1 ++ cs.drop 3 := by rw [show cs.drop 3 = (cs.drop 2).drop 1 from by rw [List.drop_drop], List.take_append_drop]
    have g3 : cs.drop 3 = (cs.drop 3).take 1 ++ cs.drop 4 := by rw [show cs.drop 4 = (cs.drop 3).drop 1 from by rw [List.drop_drop], List.take_append_drop]
    have g4 : cs.drop 4 = (cs.drop 4).take 1 ++ cs.drop 5 := by rw [show cs.drop 5 = (cs.drop 4).drop 1 from by rw [List.drop_drop], List.take_append_drop]
    have g5 : cs.drop 5 = (cs.drop 5).take 4 ++ cs.drop 9 := by rw [show cs.drop 9 = (cs.drop 5).drop 4 from by rw [List.drop_drop], List.take_append_drop]
    have g6 : cs.drop 9 = (cs.drop 9).take 1 ++ cs.drop 10 := by rw [show cs.drop 10 = (cs.drop 9).drop 1 from by rw [List.drop_drop], List.take_append_drop]
    have z : cs.drop 10 = [] := List.drop_eq_nil_of_le (by omega)
    rw [z, List.append_nil] at g6
    calc cs = cs.drop 0 := rfl
      _ = (cs.drop 0).take 1 ++ ((cs.drop 1).take 1 ++ ((cs.drop 2).take 1 ++ ((cs.drop 3).take 1 ++ ((cs.drop 4).take 1 ++ ((cs.drop 5).take 4 ++ ((cs.drop 9).take 1)))))) := by rw [← g6, ← g5, ← g4, ← g3, ← g2, ← g1]; exact g0
  refine ⟨⟨x0, x1, x2, x3, x4, x5, x6⟩, ?_, o0, o1, o2, o3, o4, o5, o6⟩
  rw [e]
  exact ⟨_, _, rfl, K0, ⟨_, _, rfl, K1, ⟨_, _, rfl, K2, ⟨_, _, rfl, K3, ⟨_, _, rfl, K4, ⟨_, _, rfl, K5, K6⟩⟩⟩⟩⟩⟩
theorem opens_step : Opens Try.prog 36 k36 OkInS := opens_step0
end Go.Proofs.Ytocpcnmnhckcpaa.Gen
namespace Go.Proofs.Ytocpcnmnhckcpaa.Prt
open Go.RowKit Go.Proofs.YtocpcnmnhckcpaaW.PrintWords Go.Proofs.YtocpcnmnhckcpaaW.PrintLast Go.Proofs.YtocpcnmnhckcpaaW.PrintMore Go.Proofs.Ytocpcnmnhckcpaa.Num Go.Proofs.Ytocpcnmnhckcpaa.Nam
set_option linter.unusedVariables false
set_option linter.unusedSimpArgs false
theorem i64_wf {x : Int} (h : (Lit.int .i64 x).wf = true) : i64 x := by
  show -9223372036854775808 ≤ x ∧ x ≤ 9223372036854775807
  simp [Lit.wf, IntKind.min, IntKind.max, IntKind.bits, IntKind.signed] at h
  omega
/-- nil before: what is laid is the number alone. -/
theorem inS_of {x : S36} (h : Gen.OkInS x) : InS x := by
  obtain ⟨h0, h1, h2, h3, h4, ⟨e0, e1, e2, e3⟩, hq⟩ := h
  exact ⟨i64_wf h0, i64_wf h1, i64_wf h2, i64_wf h3, e0, e1, e2, fun z hz => (e3 z hz).1, hq⟩
end Go.Proofs.Ytocpcnmnhckcpaa.Prt
namespace Go.Proofs.Ytocpcnmnhckcpaa.Prt
open Go.RowKit Go.Proofs.YtocpcnmnhckcpaaW.PrintWords Go.Proofs.YtocpcnmnhckcpaaW.PrintLast Go.Proofs.YtocpcnmnhckcpaaW.PrintMore Go.Proofs.Ytocpcnmnhckcpaa.Num Go.Proofs.Ytocpcnmnhckcpaa.Nam
set_option linter.unusedVariables false
set_option linter.unusedSimpArgs false
set_option maxRecDepth 100000 in
set_option maxHeartbeats 8000000 in
theorem scriptApart_walk (a b : S36) (at_ : Int) (A7 : Option Addr) (c7 : Nat) (A8 : Option Addr) (c8 : Nat) (A9 : Option Addr) (c9 : Nat) (B7 : Option Addr) (d7 : Nat) (B8 : Option Addr) (d8 : Nat) (B9 : Option Addr) (d9 : Nat) (w : World) (ha : StC w a A7 c7 A8 c8 A9 c9) (hb : StC w b B7 d7 B8 d8 B9 d9) (ia : InS a) (ib : InS b) (hat : i64 at_) :
    Calls Try.prog 5 #[.agg #[.int .i64 a.f0, .int .i64 a.f1, .int .i64 a.f2, .int .i64 a.f3, .string a.f4, .string a.f5.f0, .string a.f5.f1, .slice A7 a.f5.f2.length c7, .slice A8 a.f5.f3.length c8, .slice A9 a.f6.f0.length c9], .agg #[.int .i64 b.f0, .int .i64 b.f1, .int .i64 b.f2, .int .i64 b.f3, .string b.f4, .string b.f5.f0, .string b.f5.f1, .slice B7 b.f5.f2.length d7, .slice B8 b.f5.f3.length d8, .slice B9 b.f6.f0.length d9], .int .i64 at_] w fun e w' => e = .returned (.bool true) ∧ Below w.heap.size w w' := by
  have HA := Aside0.mk ha
  have HBB := Aside0.mk hb
  have HIA := Aside0.mk (fewS_fit ia)
  have HIB := Aside0.mk (fewS_fit ib)
  obtain ⟨ht1, ht2⟩ := hat
  have hu36 := Try.underlying36
  have hu31 := Try.underlying31
  have hu34 := Try.underlying34
  clear ha hb ia ib
  go_enter Try.func5, Try.ntmps5
  go_upto_region 1 with (first | ((with_reducible refine gate_dst (N := 3) rfl ?_); (try (refine gate_guard (by rfl) ?_; dsimp only)); refine box_event ?hg (N := 3) ?hd (cs := #[.int .i64 a.f0, .int .i64 a.f1, .int .i64 a.f2, .int .i64 a.f3, .string a.f4, .string a.f5.f0, .string a.f5.f1, .slice A7 a.f5.f2.length c7, .slice A8 a.f5.f3.length c8, .slice A9 a.f6.f0.length c9]) (t := 36) ?hr ?_; (case hd => rfl); (case hg => rfl); (case hr => first | (go_simp; done) | (go_simp; rfl)); intro X hg_ w1 hbox_ hb_; have HX := Aside0.mk hbox_; have HXN := Aside0.mk hg_; have HXB := Aside0.mk hb_; clear hbox_ hg_ hb_) | ((with_reducible refine gate_dst (N := 4) rfl ?_); (try (refine gate_guard (by rfl) ?_; dsimp only)); refine box_event ?hg (N := 4) ?hd (cs := #[.int .i64 b.f0, .int .i64 b.f1, .int .i64 b.f2, .int .i64 b.f3, .string b.f4, .string b.f5.f0, .string b.f5.f1, .slice B7 b.f5.f2.length d7, .slice B8 b.f5.f3.length d8, .slice B9 b.f6.f0.length d9]) (t := 36) ?hr ?_; (case hd => rfl); (case hg => rfl); (case hr => first | (go_simp; done) | (go_simp; rfl)); intro Y hg_ w2 hbox_ hb_; have HY := Aside0.mk hbox_; have HYN := Aside0.mk hg_; have HYB := Aside0.mk hb_; clear hbox_ hg_ hb_))
  have HX2 := Aside0.mk (blk_below HX.out HYB.out)
  have HB2 := Aside0.mk (below_step HXB.out HYB.out)
  clear HX HXN HXB HYN HYB
  go_wp2_with fail
  refine (shown_calls22 w2).mono ?_
  rintro e w3 ⟨rfl, hb⟩
  have HX3 := Aside0.mk (blk_below HX2.out hb)
  have HY3 := Aside0.mk (blk_below HY.out hb)
  have HB3 := Aside0.mk (below_step HB2.out hb)
  clear HX2 HY HB2 hb
  have hx0 := blk_cell HX3.out 0
  have hy0 := blk_cell HY3.out 0
  have hx1 := blk_cell HX3.out 1
  have hy1 := blk_cell HY3.out 1
  have hx2 := blk_cell HX3.out 2
  have hy2 := blk_cell HY3.out 2
  have hx3 := blk_cell HX3.out 3
  have hy3 := blk_cell HY3.out 3
  have hx4 := blk_cell HX3.out 4
  have hy4 := blk_cell HY3.out 4
  have hx5 := blk_cell HX3.out 5
  have hy5 := blk_cell HY3.out 5
  have hx6 := blk_cell HX3.out 6
  have hy6 := blk_cell HY3.out 6
  have hx7 := blk_cell HX3.out 7
  have hy7 := blk_cell HY3.out 7
  have hx8 := blk_cell HX3.out 8
  have hy8 := blk_cell HY3.out 8
  have hx9 := blk_cell HX3.out 9
  have hy9 := blk_cell HY3.out 9
  have HFA := Aside0.mk (FK_step36 HA.out HB3.out)
  have HFB := Aside0.mk (FK_step36 HBB.out HB3.out)
  have HSZ := Aside0.mk HB3.out.size
  go_wp2_with (first | ((with_reducible refine gate_dst (N := 21) rfl ?_); refine Kd.N_lit k36 (w0 := w3) w3.heap.size 36 ?hg (N' := 21) ?hd (xs := [a, b]) (inner := [.int .i64 a.f0, .int .i64 a.f1, .int .i64 a.f2, .int .i64 a.f3, .string a.f4, .string a.f5.f0, .string a.f5.f1, .slice A7 a.f5.f2.length c7, .slice A8 a.f5.f3.length c8, .slice A9 a.f6.f0.length c9, .int .i64 b.f0, .int .i64 b.f1, .int .i64 b.f2, .int .i64 b.f3, .string b.f4, .string b.f5.f0, .string b.f5.f1, .slice B7 b.f5.f2.length d7, .slice B8 b.f5.f3.length d8, .slice B9 b.f6.f0.length d9]) (ok := fun _ => True) (okp := fun k => k < w.heap.size) ?hr ?hp (fun _ _ => trivial) trivial (Below.refl _ _) (Nat.le_refl _) (by simp) ?_; (case hd => rfl); (case hg => rfl); (case hr => first | (go_simp; done) | (go_simp; rfl)); (case hp => exact Reps.snoc (Reps.snoc (Reps.none _ _) HFA.out rfl) HFB.out rfl); intro v21 w4 ho hb hg hat; obtain ⟨A21, c21, e21, hc21, hC21⟩ := Kd.N_reads ho; subst e21; have HC21 := Aside0.mk (And.intro hc21 hC21); have HB4 := Aside0.mk (below_step HB3.out hb); clear ho hb hg hat hc21 hC21))
  clear HFA HFB HSZ HX3 HY3 HB3 hx0 hx1 hx2 hx3 hx4 hx5 hx6 hx7 hx8 hx9 hy0 hy1 hy2 hy3 hy4 hy5 hy6 hy7 hy8 hy9 HA HBB
  refine (few_calls22 A21 c21 [a, b] w4 HC21.out.2 HC21.out.1).mono ?_
  rintro e w5 ⟨A', c', rfl, hc', hC', hb⟩
  have HB5 := Aside0.mk (below_step HB4.out hb)
  obtain ⟨fa, hfa⟩ : ∃ fa, fa = fewS a := ⟨_, rfl⟩
  obtain ⟨fb, hfb⟩ : ∃ fb, fb = fewS b := ⟨_, rfl⟩
  have hfl : fewL [a, b] = [fa, fb] := by rw [hfa, hfb]; rfl
  obtain ⟨L, hL⟩ : ∃ L, L = fewL [a, b] := ⟨_, rfl⟩
  have hll : L.length = 2 := by rw [hL]; rfl
  rw [← hL] at hc' hC' ⊢
  rw [← hfa] at HIA
  rw [← hfb] at HIB
  have HC5 := Aside0.mk (And.intro hc' hC')
  have HFE := Aside0.mk hfa
  have HL := Aside0.mk (show L = [fa, fb] by rw [hL, hfl])
  have HLL := Aside0.mk hll
  clear HC21 HB4 hb hc' hC' hfa hfb hfl hL
  obtain ⟨ad, A7, c7, A8, c8, A9, c9, e_, hx0, hx1, hx2, hx3, hx4, hx5, hx6, hx7, hx8, hx9, l7, g7, l8, g8, l9, g9⟩ := at_T36 HC5.out.2 (0 : Int) (by omega) (by omega)
  obtain ⟨ad2, B7, d7, B8, d8, B9, d9, f_, hy0, hy1, hy2, hy3, hy4, hy5, hy6, hy7, hy8, hy9, m7, j7, m8, j8, m9, j9⟩ := at_T36 HC5.out.2 (1 : Int) (by omega) (by omega)
  cases e_
  cases f_
  have hr0 : rd_T36 L (0 : Int) = fa := by rw [HL.out]; rfl
  have hr1 : rd_T36 L (1 : Int) = fb := by rw [HL.out]; rfl
  rw [hr0] at hx0 hx1 hx2 hx3 hx4 hx5 hx6 hx7 hx8 hx9 l7 g7 l8 g8 l9 g9
  rw [hr1] at hy0 hy1 hy2 hy3 hy4 hy5 hy6 hy7 hy8 hy9 m7 j7 m8 j8 m9 j9
  have HSA := Aside0.mk (StC.mk (w := w5) (t := fa) g7 l7 g8 l8 g9 l9)
  have HSB := Aside0.mk (StC.mk (w := w5) (t := fb) j7 m7 j8 m8 j9 m9)
  have HLA : Aside0 (∀ t ∈ [fa], LenS t) := ⟨fun t ht => by
    rw [List.mem_singleton.1 ht]
    rw [HFE.out]; exact fewS_len (t := a) (A9 := A9) (by rw [← HFE.out]; exact HSA.out.h9)⟩
  clear hr0 hr1 l7 g7 l8 g8 l9 g9 m7 j7 m8 j8 m9 j9 hll
  simp only [Int.toNat_zero, Nat.zero_mul, Int.toNat_one, Nat.one_mul] at hx0 hx1 hx2 hx3 hx4 hx5 hx6 hx7 hx8 hx9 hy0 hy1 hy2 hy3 hy4 hy5 hy6 hy7 hy8 hy9
  replace hx0 : w5.cell? ad = _ := hx0
  replace hx1 : w5.cell? ⟨ad.block, ad.off + 1, none⟩ = _ := hx1
  replace hx2 : w5.cell? ⟨ad.block, ad.off + 2, none⟩ = _ := hx2
  replace hx3 : w5.cell? ⟨ad.block, ad.off + 3, none⟩ = _ := hx3
  replace hx4 : w5.cell? ⟨ad.block, ad.off + 4, none⟩ = _ := hx4
  replace hx5 : w5.cell? ⟨ad.block, ad.off + 5, none⟩ = _ := hx5
  replace hx6 : w5.cell? ⟨ad.block, ad.off + 6, none⟩ = _ := hx6
  replace hx7 : w5.cell? ⟨ad.block, ad.off + 7, none⟩ = _ := hx7
  replace hx8 : w5.cell? ⟨ad.block, ad.off + 8, none⟩ = _ := hx8
  replace hx9 : w5.cell? ⟨ad.block, ad.off + 9, none⟩ = _ := hx9
  replace hy0 : w5.cell? ⟨ad.block, ad.off + 10, none⟩ = _ := hy0
  replace hy1 : w5.cell? ⟨ad.block, ad.off + 10 + 1, none⟩ = _ := hy1
  replace hy2 : w5.cell? ⟨ad.block, ad.off + 10 + 2, none⟩ = _ := hy2
  replace hy3 : w5.cell? ⟨ad.block, ad.off + 10 + 3, none⟩ = _ := hy3
  replace hy4 : w5.cell? ⟨ad.block, ad.off + 10 + 4, none⟩ = _ := hy4
  replace hy5 : w5.cell? ⟨ad.block, ad.off + 10 + 5, none⟩ = _ := hy5
  replace hy6 : w5.cell? ⟨ad.block, ad.off + 10 + 6, none⟩ = _ := hy6
  replace hy7 : w5.cell? ⟨ad.block, ad.off + 10 + 7, none⟩ = _ := hy7
  replace hy8 : w5.cell? ⟨ad.block, ad.off + 10 + 8, none⟩ = _ := hy8
  replace hy9 : w5.cell? ⟨ad.block, ad.off + 10 + 9, none⟩ = _ := hy9
  have hl2 : (2 : Nat) ≤ L.length := by have := HLL.out; omega
  obtain ⟨⟨pa, ea⟩, hpa⟩ : ∃ q, putS fa = q := ⟨_, rfl⟩
  obtain ⟨⟨pb, eb⟩, hpb⟩ : ∃ q, putS fb = q := ⟨_, rfl⟩
  have HPA := Aside0.mk hpa
  have HPB := Aside0.mk hpb
  clear hpa hpb
  go_wp2_with fail
  refine (put_C22 fa A7 c7 A8 c8 A9 c9 w5 HSA.out HIA.out.1 pa ea HPA.out).mono ?_
  rintro e w6 ⟨P, cp, rfl, hp1, hp2, hb⟩
  replace hy0 := pw_cell_below hb hy0
  replace hy1 := pw_cell_below hb hy1
  replace hy2 := pw_cell_below hb hy2
  replace hy3 := pw_cell_below hb hy3
  replace hy4 := pw_cell_below hb hy4
  replace hy5 := pw_cell_below hb hy5
  replace hy6 := pw_cell_below hb hy6
  replace hy7 := pw_cell_below hb hy7
  replace hy8 := pw_cell_below hb hy8
  replace hy9 := pw_cell_below hb hy9
  have HC6 := Aside0.mk (And.intro HC5.out.1 (Kd.C_below HC5.out.2 hb))
  have HP6 := Aside0.mk (And.intro hp1 hp2)
  have HB6 := Aside0.mk (below_step HB5.out hb)
  have HSB6 := Aside0.mk (StC.mk (w := w6) (t := fb) (Kd.C_below HSB.out.h7 hb) HSB.out.l7 (Kd.C_below HSB.out.h8 hb) HSB.out.l8 (Kd.C_below HSB.out.h9 hb) HSB.out.l9)
  clear hx0 hx1 hx2 hx3 hx4 hx5 hx6 hx7 hx8 hx9 HC5 HB5 HSA HSB hp1 hp2 hb
  go_wp2_with fail
  refine (put_C22 fb B7 d7 B8 d8 B9 d9 w6 HSB6.out HIB.out.1 pb eb HPB.out).mono ?_
  rintro e w7 ⟨Q, cq, rfl, hp1, hp2, hb⟩
  have HC7 := Aside0.mk (And.intro HC6.out.1 (Kd.C_below HC6.out.2 hb))
  have HP7 := Aside0.mk (And.intro HP6.out.1 (Kd.C_below HP6.out.2 hb))
  have HQ7 := Aside0.mk (And.intro hp1 hp2)
  have HB7 := Aside0.mk (below_step HB6.out hb)
  clear hy0 hy1 hy2 hy3 hy4 hy5 hy6 hy7 hy8 hy9 HC6 HP6 HB6 HSB6 hp1 hp2 hb
  by_cases h1 : ea = 0
  case neg =>
    have hd : (ea != 0) = true := bne_iff_ne.mpr h1
    clear h1
    go_wp2_with fail
    go_ret
    exact ⟨rfl, HB7.out⟩
  by_cases h2 : eb = 0
  case neg =>
    subst h1
    have hd : (eb != 0) = true := bne_iff_ne.mpr h2
    clear h2
    go_wp2_with fail
    go_ret
    exact ⟨rfl, HB7.out⟩
  subst h1
  subst h2
  have HOA := Aside0.mk (HIA.out.1.ok (by rw [HPA.out]))
  have HOB := Aside0.mk (HIB.out.1.ok (by rw [HPB.out]))
  have hpa : pa = encS fa := by have := HPA.out; rw [putS_ok HOA.out.hv HOA.out.hq] at this; exact (Prod.mk.inj this).1.symm
  have hpb : pb = encS fb := by have := HPB.out; rw [putS_ok HOB.out.hv HOB.out.hq] at this; exact (Prod.mk.inj this).1.symm
  have HZA : Aside0 ((encS fa).length ≤ 100000) := ⟨by have := encS_size HOA.out; have := HIA.out.2; omega⟩
  have HZB : Aside0 ((encS fb).length ≤ 100000) := ⟨by have := encS_size HOB.out; have := HIB.out.2; omega⟩
  have HEA := Aside0.mk hpa
  have HEB := Aside0.mk hpb
  rw [← HEA.out] at HZA
  rw [← HEB.out] at HZB
  clear hpa hpb HPA HPB HIA HIB
  go_upto_region 7 with (fail)
  obtain ⟨sm, hsm⟩ : ∃ sm, eqL eqT [fa] [fb] = sm := ⟨_, rfl⟩
  have HSM := Aside0.mk hsm
  clear hsm
  have hcz : (1 : Nat) ≤ c' := by have := HC7.out.1; omega
  have hcz2 : L.length ≤ c' := HC7.out.1
  have HSS : Aside0 (∀ n : Wc w7, Calls Try.prog 11 #[.slice (some ad) 1 c', .slice (some (ad.add 10)) (L.length - 1) (c' - 1)] n.1 fun e w'' => e = .returned (.bool sm) ∧ ∃ m : Wc w7, w'' = m.1) := ⟨fun n => by
    have hC := HC7.out
    have e1 : L.length - 1 = 1 := by have := HLL.out; omega
    rw [e1]
    rw [HL.out] at hC
    have hT : Kd.C k36 w7 (some ad) [fa].length [fa] := Kd.C_take hC.2 (m := 1) (by simp)
    have hD := Kd.C_drop hC.2 (m := 1) (c := c') (by simp) hC.1
    rw [if_neg (by have := hC.1; simp only [List.length_cons, List.length_nil] at this; omega)] at hD
    have hD2 : Kd.C k36 w7 (some (ad.add 10)) [fb].length [fb] := hD
    refine (same_calls22 (some ad) c' [fa] (some (ad.add 10)) (c' - 1) [fb] n.1 (Kd.C_below hT n.2) (by simp only [List.length_cons, List.length_nil]; omega) (Kd.C_below hD2 n.2) (by have := hC.1; simp only [List.length_cons, List.length_nil] at this ⊢; omega) HLA.out sm HSM.out).mono ?_
    rintro e w' ⟨rfl, hb⟩
    exact ⟨rfl, ⟨w', below_step n.2 hb⟩, rfl⟩⟩
  refine region_class (w0 := w7) (by kernel_rfl) (by kernel_rfl) (Below.refl _ _) ?_
  repeat (go_big_quiet_step (exact HSS.out _))
  refine wpQuiet_nil ?_
  rintro w8 ⟨n1, hw8⟩
  have hb8 : Below w7.heap.size w7 w8 := by rw [hw8]; exact n1.2
  have HB8 := Aside0.mk (below_step HB7.out hb8)
  have HP8 := Aside0.mk (Kd.C_below HP7.out.2 hb8)
  have HQ8 := Aside0.mk (Kd.C_below HQ7.out.2 hb8)
  have HPL := Aside0.mk HP7.out.1
  have HEQ := Aside0.mk (encS_eqT HOA.out HOB.out)
  rw [HSM.out, ← HEA.out, ← HEB.out] at HEQ
  have HYA := Aside0.mk (show isBytes pa by rw [HEA.out]; exact encS_bytes _)
  have HYB := Aside0.mk (show isBytes pb by rw [HEB.out]; exact encS_bytes _)
  have HMORE := Aside0.mk (takeS_more HOA.out (by rw [← HEA.out]; have := HZA.out; omega))
  have HCUT := Aside0.mk (takeS_cut HOA.out (by rw [← HEA.out]; have := HZA.out; omega))
  rw [← HEA.out] at HMORE HCUT
  have hza := HZA.out
  clear hb8 hw8 n1 HSS HC7 HP7 HQ7 HB7 HSM HEA HEB HL HLL HFE HLA HOA HOB HZB hl2 hcz hcz2
  have HBq := Aside0.mk (Below.refl w8.heap.size w8)
  go_wp2_with (first
    | ((with_reducible refine gate_dst (N := 50) rfl ?_); refine Kd.R_lit (Kd.int .u8) (w0 := w8) w8.heap.size 5 ?hg (N := 50) ?hd (xs := []) (inner := []) (ok := fun _ => True) (okp := fun _ => True) ?hr ?hp (fun _ hk => hk) trivial ?hB ?hS (by simp) ?_; (case hd => rfl); (case hg => rfl); (case hr => first | (go_simp; done) | (go_simp; rfl)); (case hp => exact (Reps.none _ _)); (case hB => exact (by repeat (first | (with_reducible first | exact HBq.out | apply below_alloc | apply pw_below_drewN | apply below_drew1) | exact HBq.out))); (case hS => exact (below_size (by repeat (first | (with_reducible first | exact HBq.out | apply below_alloc | apply pw_below_drewN | apply below_drew1) | exact HBq.out)))); intro v50 w50 ho hb hg hat; have n0_ := Aside0.mk (hb); have n1_ := Aside0.mk (ho); clear HBq; have HBq := n0_; have HO50 := n1_; clear n0_ n1_; clear ho hb hg hat)
    | ((with_reducible refine gate_builtin (b := .append) (xs := #[.tmp 50, .tmp 51]) rfl ?_); at_builtin; refine Kd.R_append_rows (Kd.int .u8) (w0 := w8) w8.heap.size rfl (.tmp 50) (.tmp 51) 41 5 (.int .u8 0) 1 rfl Try.underlying41 info_u8 rfl (by decide) (by omega) v50 [] pa _ _ _ (fun _ => True) (fun _ => False) rfl rfl ?aO ?aR (fun _ _ h => h) (fun _ h => h.elim) ?aF ?aB ?aS ?aL ?_; (case aR => exact (by repeat (first | exact (Kd.C_below HP8.out HBq.out) | (with_reducible refine Kd.C_alloc ?_ _) | (with_reducible refine Kd.C_drewN ?_ _) | (with_reducible refine Kd.C_drew ?_)))); (case aB => exact (by repeat (first | (with_reducible first | exact HBq.out | apply below_alloc | apply pw_below_drewN | apply below_drew1) | exact HBq.out))); (case aF => exact (fun _ _ => trivial)); (case aO => exact (by (with_reducible repeat (first | apply Kd.R_alloc | apply Kd.R_drewN | apply Kd.R_drew)); exact HO50.out)); (case aS => exact (below_size (by repeat (first | (with_reducible first | exact HBq.out | apply below_alloc | apply pw_below_drewN | apply below_drew1) | exact HBq.out)))); (case aL => simp only [List.length_nil]; omega); intro v52 w52 ho hb hg hat; have n0_ := Aside0.mk (hb); have n1_ := Aside0.mk (ho); clear HBq; clear HO50; have HBq := n0_; have HO52 := n1_; clear n0_ n1_; clear ho hb hg hat)
    | (((with_reducible refine gate_builtin (b := .append) (xs := #[.tmp 52, .tmp 53]) rfl ?_); at_builtin; refine Kd.R_append (Kd.int .u8) (w0 := w8) w8.heap.size rfl (.tmp 52) (.tmp 53) 41 5 (.int .u8 0) 1 rfl Try.underlying41 info_u8 rfl (by decide) (by omega) v52 ([] ++ pa) (0) [(.int .u8 (0))] (fun _ => True) (fun _ => False) rfl rfl ?aP (fun _ hk => hk.elim) ?aF ?aO ?aB ?aS ?aL ?_; (case aP => exact rfl); (case aB => exact (by repeat (first | (with_reducible first | exact HBq.out | apply below_alloc | apply pw_below_drewN | apply below_drew1) | exact HBq.out))); (case aF => exact (fun _ _ => trivial)); (case aO => exact (by (with_reducible repeat (first | apply Kd.R_alloc | apply Kd.R_drewN | apply Kd.R_drew)); exact HO52.out)); (case aS => exact (below_size (by repeat (first | (with_reducible first | exact HBq.out | apply below_alloc | apply pw_below_drewN | apply below_drew1) | exact HBq.out)))); (case aL => simp only [List.length_append, List.length_nil]; omega); intro v54 w54 ho hb hg hat; have n0_ := Aside0.mk (hb); have n1_ := Aside0.mk (ho); clear HBq; clear HO52; have HBq := n0_; have HO54 := n1_; clear n0_ n1_; clear ho hb hg hat); obtain ⟨px, hpx⟩ : ∃ px, px = ([] ++ pa) ++ [0] := ⟨_, rfl⟩; rw [← hpx] at HO54; have HPX := Aside0.mk hpx; clear hpx; obtain ⟨A54, c54, e54, hc54, hC54⟩ := Kd.R_reads HO54.out; subst e54; have HC54 := Aside0.mk (And.intro hc54 hC54); clear hc54 hC54))
  have hpx : px = pa ++ [0] := HPX.out
  have HTB := Aside0.mk (takeBad_C A54 c54 px w54 HC54.out.2 HC54.out.1 (by rw [hpx]; exact isBytes_append.2 ⟨HYA.out, fun c hc => by rw [List.mem_singleton.1 hc]; omega⟩) (by rw [hpx, List.length_append, List.length_singleton]; omega) (by rw [hpx]; exact HMORE.out))
  clear hpx HPX HMORE HC54 HO54
  refine HTB.out.mono ?_
  rintro e w9 ⟨E7, g7, E8, g8, E9, g9, rfl, hb⟩
  have HBr := Aside0.mk (below_step HBq.out hb)
  clear HBq HTB hb
  go_upto_region 9 with (first | ((with_reducible refine gate_dst (N := 14) rfl ?_); (try (refine gate_guard (by rfl) ?_; dsimp only)); refine box_event ?hg (N := 14) ?hd (cs := #[.int .i64 0, .int .i64 0, .int .i64 0, .int .i64 0, .string ⟨#[]⟩, .string ⟨#[]⟩, .string ⟨#[]⟩, .slice none 0 0, .slice none 0 0, .slice none 0 0]) (t := 36) ?hr ?_; (case hd => rfl); (case hg => rfl); (case hr => first | (go_simp; done) | (go_simp; rfl)); intro T hg_ w10 hbox_ hb_; have HX := Aside0.mk hbox_; have HXN := Aside0.mk hg_; have HXB := Aside0.mk hb_; clear hbox_ hg_ hb_; have hz0 := blk_cell HX.out 0; have hf0 := blk_frozen HX.out 0; have hz1 := blk_cell HX.out 1; have hf1 := blk_frozen HX.out 1; have hz2 := blk_cell HX.out 2; have hf2 := blk_frozen HX.out 2; have hz3 := blk_cell HX.out 3; have hf3 := blk_frozen HX.out 3; have hz4 := blk_cell HX.out 4; have hf4 := blk_frozen HX.out 4; have hz5 := blk_cell HX.out 5; have hf5 := blk_frozen HX.out 5; have hz6 := blk_cell HX.out 6; have hf6 := blk_frozen HX.out 6; have hz7 := blk_cell HX.out 7; have hf7 := blk_frozen HX.out 7; have hz8 := blk_cell HX.out 8; have hf8 := blk_frozen HX.out 8; have hz9 := blk_cell HX.out 9; have hf9 := blk_frozen HX.out 9))
  have HTW := Aside0.mk (show w8.heap.size ≤ T by rw [HXN.out]; exact HBr.out.size)
  have n3_ := Aside0.mk (((((((((((below_step HBr.out HXB.out).setCell (p := ⟨T, 0, none⟩) HTW.out (.int .i64 0)).setCell (p := ⟨T, 1, none⟩) HTW.out (.int .i64 0)).setCell (p := ⟨T, 2, none⟩) HTW.out (.int .i64 0)).setCell (p := ⟨T, 3, none⟩) HTW.out (.int .i64 0)).setCell (p := ⟨T, 4, none⟩) HTW.out (.string ⟨#[]⟩)).setCell (p := ⟨T, 5, none⟩) HTW.out (.string ⟨#[]⟩)).setCell (p := ⟨T, 6, none⟩) HTW.out (.string ⟨#[]⟩)).setCell (p := ⟨T, 7, none⟩) HTW.out (.slice E7 0 g7)).setCell (p := ⟨T, 8, none⟩) HTW.out (.slice E8 0 g8)).setCell (p := ⟨T, 9, none⟩) HTW.out (.slice E9 0 g9))
  clear HX HXN HXB HBr HTW hz0 hz1 hz2 hz3 hz4 hz5 hz6 hz7 hz8 hz9 hf0 hf1 hf2 hf3 hf4 hf5 hf6 hf7 hf8 hf9
  generalize ((((((((((w10.setCell ⟨T, 0, none⟩ (.int .i64 0)).setCell ⟨T, 1, none⟩ (.int .i64 0)).setCell ⟨T, 2, none⟩ (.int .i64 0)).setCell ⟨T, 3, none⟩ (.int .i64 0)).setCell ⟨T, 4, none⟩ (.string ⟨#[]⟩)).setCell ⟨T, 5, none⟩ (.string ⟨#[]⟩)).setCell ⟨T, 6, none⟩ (.string ⟨#[]⟩)).setCell ⟨T, 7, none⟩ (.slice E7 0 g7)).setCell ⟨T, 8, none⟩ (.slice E8 0 g8)).setCell ⟨T, 9, none⟩ (.slice E9 0 g9)) = w11 at n3_ ⊢
  have HP11 := Aside0.mk (Kd.C_below HP8.out n3_.out)
  have HQ11 := Aside0.mk (Kd.C_below HQ8.out n3_.out)
  have HB11 := Aside0.mk (below_step HB8.out n3_.out)
  clear n3_ HP8 HQ8 HB8
  have CV1 := Kd.C_string (P := Try.prog) (c := cp) Try.underlying41 Try.underlying5 Try.underlying9 HP11.out
  have CV2 := Kd.C_string (P := Try.prog) (c := cq) Try.underlying41 Try.underlying5 Try.underlying9 HQ11.out
  have hse : ((strOfNums pa).toList == (strOfNums pb).toList) = sm := by rw [str_beq HYA.out HYB.out]; exact HEQ.out
  have hsm : (sm != sm) = false := bne_self_eq_false sm
  by_cases ha0 : at_ < 0
  case pos =>
    have hd1 : decide (at_ < 0) = true := decide_eq_true ha0
    go_wp2_with fail
    go_ret
    exact ⟨rfl, HB11.out⟩
  by_cases ha1 : (pa.length : Int) ≤ at_
  case pos =>
    have hd1 : decide (at_ < 0) = false := decide_eq_false ha0
    have hd2 : decide ((pa.length : Int) ≤ at_) = true := decide_eq_true ha1
    go_wp2_with fail
    go_ret
    exact ⟨rfl, HB11.out⟩
  obtain ⟨n, rfl⟩ := Int.eq_ofNat_of_zero_le (Int.not_lt.1 ha0)
  have hnl : n < pa.length := by omega
  have hncp : n ≤ cp := by have := HPL.out; omega
  obtain ⟨lt, hlt⟩ : ∃ lt, lt = pa.take n := ⟨_, rfl⟩
  have hll : lt.length = n := by rw [hlt, List.length_take]; omega
  have HTB := Aside0.mk (takeBad_C P cp lt w11 (by rw [hlt]; exact Kd.C_take HP11.out (by omega)) (by omega) (by rw [hlt]; exact isBytes_take HYA.out n) (by omega) (by rw [hlt]; exact HCUT.out n hnl))
  subst hll
  clear hlt HCUT
  go_wp2_with fail
  refine HTB.out.mono ?_
  rintro e w12 ⟨E7, g7, E8, g8, E9, g9, rfl, hb⟩
  have HB12 := Aside0.mk (below_step HB11.out hb)
  clear HB11 HTB hb HP11 HQ11 CV1 CV2
  go_upto_region 14 with (first | ((with_reducible refine gate_dst (N := 16) rfl ?_); (try (refine gate_guard (by rfl) ?_; dsimp only)); refine box_event ?hg (N := 16) ?hd (cs := #[.int .i64 0, .int .i64 0, .int .i64 0, .int .i64 0, .string ⟨#[]⟩, .string ⟨#[]⟩, .string ⟨#[]⟩, .slice none 0 0, .slice none 0 0, .slice none 0 0]) (t := 36) ?hr ?_; (case hd => rfl); (case hg => rfl); (case hr => first | (go_simp; done) | (go_simp; rfl)); intro T2 hg_ w13 hbox_ hb_; have HX := Aside0.mk hbox_; have HXN := Aside0.mk hg_; have HXB := Aside0.mk hb_; clear hbox_ hg_ hb_; have hz0 := blk_cell HX.out 0; have hf0 := blk_frozen HX.out 0; have hz1 := blk_cell HX.out 1; have hf1 := blk_frozen HX.out 1; have hz2 := blk_cell HX.out 2; have hf2 := blk_frozen HX.out 2; have hz3 := blk_cell HX.out 3; have hf3 := blk_frozen HX.out 3; have hz4 := blk_cell HX.out 4; have hf4 := blk_frozen HX.out 4; have hz5 := blk_cell HX.out 5; have hf5 := blk_frozen HX.out 5; have hz6 := blk_cell HX.out 6; have hf6 := blk_frozen HX.out 6; have hz7 := blk_cell HX.out 7; have hf7 := blk_frozen HX.out 7; have hz8 := blk_cell HX.out 8; have hf8 := blk_frozen HX.out 8; have hz9 := blk_cell HX.out 9; have hf9 := blk_frozen HX.out 9))
  have HTW := Aside0.mk (show w.heap.size ≤ T2 by rw [HXN.out]; exact HB12.out.size)
  have n3_ := Aside0.mk (((((((((((below_step HB12.out HXB.out).setCell (p := ⟨T2, 0, none⟩) HTW.out (.int .i64 0)).setCell (p := ⟨T2, 1, none⟩) HTW.out (.int .i64 0)).setCell (p := ⟨T2, 2, none⟩) HTW.out (.int .i64 0)).setCell (p := ⟨T2, 3, none⟩) HTW.out (.int .i64 0)).setCell (p := ⟨T2, 4, none⟩) HTW.out (.string ⟨#[]⟩)).setCell (p := ⟨T2, 5, none⟩) HTW.out (.string ⟨#[]⟩)).setCell (p := ⟨T2, 6, none⟩) HTW.out (.string ⟨#[]⟩)).setCell (p := ⟨T2, 7, none⟩) HTW.out (.slice E7 0 g7)).setCell (p := ⟨T2, 8, none⟩) HTW.out (.slice E8 0 g8)).setCell (p := ⟨T2, 9, none⟩) HTW.out (.slice E9 0 g9))
  clear HX HXN HXB HB12 HTW hz0 hz1 hz2 hz3 hz4 hz5 hz6 hz7 hz8 hz9 hf0 hf1 hf2 hf3 hf4 hf5 hf6 hf7 hf8 hf9
  generalize ((((((((((w13.setCell ⟨T2, 0, none⟩ (.int .i64 0)).setCell ⟨T2, 1, none⟩ (.int .i64 0)).setCell ⟨T2, 2, none⟩ (.int .i64 0)).setCell ⟨T2, 3, none⟩ (.int .i64 0)).setCell ⟨T2, 4, none⟩ (.string ⟨#[]⟩)).setCell ⟨T2, 5, none⟩ (.string ⟨#[]⟩)).setCell ⟨T2, 6, none⟩ (.string ⟨#[]⟩)).setCell ⟨T2, 7, none⟩ (.slice E7 0 g7)).setCell ⟨T2, 8, none⟩ (.slice E8 0 g8)).setCell ⟨T2, 9, none⟩ (.slice E9 0 g9)) = w14 at n3_ ⊢
  go_wp2_with fail
  go_ret
  exact ⟨rfl, n3_.out⟩
theorem scriptApart_law (cs : Array Value) (x : S36) (cs' : Array Value) (x' : S36) (at_ : Int) (w : World) (y : k36.K w x cs.toList) (hx : Gen.OkInS x) (y' : k36.K w x' cs'.toList) (hx' : Gen.OkInS x') (wi : (Lit.int .i64 at_).wf = true) :
    Calls Try.prog 5 #[.agg cs, .agg cs', .int .i64 at_] w fun e w' => e = .returned (.bool true) ∧ Below w.heap.size w w' := by
  obtain ⟨A7, c7, A8, c8, A9, c9, e, l7, g7, l8, g8, l9, g9⟩ := k36_open y
  obtain rfl : cs = #[.int .i64 x.f0, .int .i64 x.f1, .int .i64 x.f2, .int .i64 x.f3, .string x.f4, .string x.f5.f0, .string x.f5.f1, .slice A7 x.f5.f2.length c7, .slice A8 x.f5.f3.length c8, .slice A9 x.f6.f0.length c9] := by cases cs; simp_all
  obtain ⟨B7, d7, B8, d8, B9, d9, e', m7, j7, m8, j8, m9, j9⟩ := k36_open y'
  obtain rfl : cs' = #[.int .i64 x'.f0, .int .i64 x'.f1, .int .i64 x'.f2, .int .i64 x'.f3, .string x'.f4, .string x'.f5.f0, .string x'.f5.f1, .slice B7 x'.f5.f2.length d7, .slice B8 x'.f5.f3.length d8, .slice B9 x'.f6.f0.length d9] := by cases cs'; simp_all
  exact scriptApart_walk x x' at_ A7 c7 A8 c8 A9 c9 B7 d7 B8 d8 B9 d9 w ⟨g7, l7, g8, l8, g9, l9⟩ ⟨j7, m7, j8, m8, j9, m9⟩ (inS_of hx) (inS_of hx') (i64_wf wi)
end Go.Proofs.Ytocpcnmnhckcpaa.Prt
