/- script.Take: its walk. script.Print: its walk. The reference's queries: what is wrong with one, and texts as bytes: in closed form. Functions of the program, told as plain functions, with their walks: written by a program of this claim's out of the translation. The reference's queries as bytes, and whether two are the same: in closed form. Whether two rows of steps are the same: registrarref22.Same. A region that draws its order, in a round: one walk in a class of worlds. slices.Chunk: its walk. slices.Chunk's iterator, by twos: its contract. registrarlaw22.few: its walk. registrarlaw22.shown: its walk. What the laws of scripts call, on rows that are read. script.line: its walk. -/
import Derived.Laws.EntriesVeiled
import Derived.BigQuiet
import Derived.RangeFuncNested
import Derived.RangeFuncBound
import Derived.RangeFuncCalls
import Derived.RangeFuncLeaves
import Derived.Shelf.Abstract
import Derived.Shelf.RegionOpen
import Derived.WalkKit
import Derived.OwnWalkIn
import Derived.TacticsInMore
import Derived.LoopNIn
import Derived.LoopIn
import Derived.Test.YtocpcnmnhckcpaaYScriptJoins1
import Derived.Test.YtocpcnmnhckcpaaYScriptJoins2
import Derived.Test.YtocpcnmnhckcpaaYScriptJoins3
import Derived.Test.YtocpcnmnhckcpaaYScriptJoins4
namespace Go.Proofs.Ytocpcnmnhckcpaa.Prt
open Go.RowKit Go.Proofs.YtocpcnmnhckcpaaW.PrintWords Go.Proofs.YtocpcnmnhckcpaaW.PrintLast Go.Proofs.YtocpcnmnhckcpaaW.PrintMore Go.Proofs.Ytocpcnmnhckcpaa.Num Go.Proofs.Ytocpcnmnhckcpaa.Nam
set_option linter.unusedVariables false
set_option linter.unusedSimpArgs false
theorem ite_yes {α : Type} {c : Prop} [Decidable c] {x y z : α} (h : (if c then x else y) = z) (hc : c) : x = z := (if_pos hc).symm.trans h
theorem ite_no {α : Type} {c : Prop} [Decidable c] {x y z : α} (h : (if c then x else y) = z) (hc : ¬ c) : y = z := (if_neg hc).symm.trans h
def NN (l : List Int) (i : Nat) : Int := numOf (stl l i)
set_option maxRecDepth 100000 in
set_option maxHeartbeats 4000000 in
theorem take_calls22 (A0 : Option Addr) (c0 : Nat) (l0 : List Int) (w : World) (hr0 : Kd.C (Kd.int .u8) w A0 l0.length l0) (hc0 : l0.length ≤ c0) (hby : isBytes l0) (hlen : l0.length ≤ 1000000000) (r : S36) (re : Int) (h : takeS l0 = (r, re)) :
    Calls Try.prog 13 #[.slice A0 l0.length c0] w fun e w' => ∃ v7 v8 v9, e = .returned (.tuple #[.agg #[.int .i64 r.f0, .int .i64 r.f1, .int .i64 r.f2, .int .i64 r.f3, .string r.f4, .string r.f5.f0, .string r.f5.f1, v7, v8, v9], .int .i64 re]) ∧ Kd.string.R 9 w' w.heap.size (fun _ => True) v7 r.f5.f2 ∧ k90.R 90 w' w.heap.size (fun _ => True) v8 r.f5.f3 ∧ Kd.S k92 92 w' w.heap.size (fun _ => True) v9 r.f6.f0 ∧ Below w.heap.size w w' := by
  have HTM := Aside0.mk (takeT_may hby hlen)
  have HST := Aside0.mk ((takeS_eq hby hlen).symm.trans h)
  have HR0 := Aside0.mk hr0
  have HC0 := Aside0.mk hc0
  have HBY := Aside0.mk hby
  have HLN := Aside0.mk hlen
  clear hr0 hc0 hby hlen h
  have hu36 := Try.underlying36
  have hu31 := Try.underlying31
  have hu34 := Try.underlying34
  go_enter Try.func13, Try.ntmps13
  go_upto_region 1 with (first | ((with_reducible refine gate_dst (N := 2) rfl ?_); (try (refine gate_guard (by rfl) ?_; dsimp only)); refine box_event ?hg (N := 2) ?hd (cs := #[.int .i64 0, .int .i64 0, .int .i64 0, .int .i64 0, .string ⟨#[]⟩, .string ⟨#[]⟩, .string ⟨#[]⟩, .slice none 0 0, .slice none 0 0, .slice none 0 0]) (t := 36) ?hr ?_; (case hd => rfl); (case hg => rfl); (case hr => first | (go_simp; done) | (go_simp; rfl)); intro Z hg_ wz hbox_ hb_; have HZ := Aside0.mk hbox_; have HZN := Aside0.mk hg_; have HZB := Aside0.mk hb_; clear hbox_ hg_ hb_))
  go_wp2_with fail
  refine (newReader_calls A0 c0 l0 wz (Kd.C_below HR0.out HZB.out) HC0.out).mono ?_
  rintro e w1 ⟨g, rfl, hI, hb, hg⟩
  have HI1 := Aside0.mk hI
  have HB1 := Aside0.mk hb
  have HG := Aside0.mk hg
  clear hI hb hg
  go_upto_region 3 with (first | ((with_reducible refine gate_dst (N := 5) rfl ?_); (try (refine gate_guard (by rfl) ?_; dsimp only)); refine box_event ?hg (N := 5) ?hd (cs := #[.int .i64 0, .int .i64 0, .int .i64 0, .int .i64 0, .string ⟨#[]⟩, .string ⟨#[]⟩, .string ⟨#[]⟩, .slice none 0 0, .slice none 0 0, .slice none 0 0]) (t := 36) ?hr ?_; (case hd => rfl); (case hg => rfl); (case hr => first | (go_simp; done) | (go_simp; rfl)); intro X hg_ w2 hbox_ hb_; have HX := Aside0.mk hbox_; have HXN := Aside0.mk hg_; have HXB := Aside0.mk hb_; clear hbox_ hg_ hb_))
  have HT2 : Aside0 (Tw w w1 w2 (fun k => k < wz.heap.size) g Z X l0.length (l0, false) #[.int .i64 0, .int .i64 0, .int .i64 0, .int .i64 0, .string ⟨#[]⟩, .string ⟨#[]⟩, .string ⟨#[]⟩, .slice none 0 0, .slice none 0 0, .slice none 0 0]) := ⟨by
    have h1 := HZN.out
    have h2 := blk_lt HZ.out
    have h3 := HXN.out
    have h4 := HI1.out.lt
    have h5 := HB1.out.size
    have h6 := HZB.out.size
    have h7 := HG.out
    exact ⟨⟨HI1.out.below HXB.out, HBY.out, Nat.le_refl _, HXB.out.mono (Nat.le_of_lt h4), KeepBut.of_below HXB.out g none⟩, blk_below (blk_below HZ.out HB1.out) HXB.out, HX.out, below_step (below_then HZB.out HZB.out.size HB1.out) HXB.out, by omega, by omega, by omega, by omega, by omega, h4, fun k hk => by omega, by omega⟩⟩
  have HGZ := Aside0.mk HZB.out.size
  clear HI1 HB1 HG HX HXN HXB HZ HZN HZB
  go_upto_region 4 with (fail)
  obtain ⟨Y, hY⟩ : ∃ Y, Y = w2.heap.size := ⟨_, rfl⟩
  have hyb := heap_alloc_new w2 (.cells #[.pointer (some ⟨X, 0, none⟩), .pointer (some ⟨X, 1, none⟩), .pointer (some ⟨X, 2, none⟩), .pointer (some ⟨X, 3, none⟩)] 72)
  have hyB := below_alloc (Below.refl w2.heap.size w2) (.cells #[.pointer (some ⟨X, 0, none⟩), .pointer (some ⟨X, 1, none⟩), .pointer (some ⟨X, 2, none⟩), .pointer (some ⟨X, 3, none⟩)] 72)
  rw [← hY] at hyb ⊢
  have HY3 := Aside0.mk hyb
  have HT3 := Aside0.mk (HT2.out.up hyB)
  have HYX := Aside0.mk (show Y ≠ X ∧ Y ≠ g by
    have h1 := blk_lt HT2.out.hX
    have h2 := HT2.out.hL.rd.lt
    omega)
  clear hyb hyB hY HT2
  generalize w2.alloc (.cells #[.pointer (some ⟨X, 0, none⟩), .pointer (some ⟨X, 1, none⟩), .pointer (some ⟨X, 2, none⟩), .pointer (some ⟨X, 3, none⟩)] 72) = w3 at HY3 HT3 ⊢
  go_loopg [20] 4 (fun gk v20 w' => ∃ i : Nat, v20 = .int .i64 (i : Int) ∧ Aside0 (i + gk = 4) ∧ Aside0 (Tw w w1 w' (fun k => k < wz.heap.size) g Z X l0.length (stl l0 i, stb l0 i) (csN l0 i)) ∧ Aside0 (w'.heap[Y]? = some (.cells #[.pointer (some ⟨X, 0, none⟩), .pointer (some ⟨X, 1, none⟩), .pointer (some ⟨X, 2, none⟩), .pointer (some ⟨X, 3, none⟩)] 72 (0, 0))))
  case atStart => exact ⟨0, rfl, ⟨rfl⟩, HT3, HY3⟩
  case round =>
    clear HT3 HY3
    obtain ⟨i, rfl, HE, HT, HY⟩ := hrel
    have hi : i = 0 ∨ i = 1 ∨ i = 2 ∨ i = 3 ∨ i = 4 := by have := HE.out; omega
    rcases hi with rfl | rfl | rfl | rfl | rfl
    · obtain rfl : gk = 4 := by have := HE.out; omega
      have hy := blk_cell HY.out 0
      obtain ⟨x, hx⟩ : ∃ x, numOf (stl l0 0) = x := ⟨_, rfl⟩
      have HN := Aside0.mk (numLv _ wr g (stl l0 0) (stb l0 0) HT.out.hL.rd HT.out.hL.by_ x hx)
      have HXX := Aside0.mk hx
      clear hx
      go_wp2_with fail
      refine HN.out.mono ?_
      rintro e w4 ⟨rfl, hl⟩
      have HT4 := Aside0.mk (HT.out.read hl HT.out.hL.len)
      have HY4 := Aside0.mk (hl.keep.blk HY.out HYX.out.2 (by simp))
      have hf := blk_frozen HT4.out.hX 0
      have hc := blk_cell HT4.out.hX 0
      clear HT HY HN hl hy
      go_upto_region 7 with (fail)
      have n1_ := Aside0.mk (HT4.out.set 0 (.int .i64 x) (cs' := csN l0 1) (by rw [← HXX.out]; rfl))
      have n2_ := Aside0.mk (blk_far HY4.out (p := ⟨X, 0, none⟩) HYX.out.1 (.int .i64 x))
      clear HT4 HY4 hf hc
      generalize w4.setCell ⟨X, 0, none⟩ (.int .i64 x) = w5 at n1_ n2_ ⊢
      go_wp2_with fail
      go_roundg 3
      case measure => omega
      case rel => exact ⟨1, by go_num, ⟨rfl⟩, n1_, n2_⟩
    · obtain rfl : gk = 3 := by have := HE.out; omega
      have hy := blk_cell HY.out 1
      obtain ⟨x, hx⟩ : ∃ x, numOf (stl l0 1) = x := ⟨_, rfl⟩
      have HN := Aside0.mk (numLv _ wr g (stl l0 1) (stb l0 1) HT.out.hL.rd HT.out.hL.by_ x hx)
      have HXX := Aside0.mk hx
      clear hx
      go_wp2_with fail
      refine HN.out.mono ?_
      rintro e w4 ⟨rfl, hl⟩
      have HT4 := Aside0.mk (HT.out.read hl HT.out.hL.len)
      have HY4 := Aside0.mk (hl.keep.blk HY.out HYX.out.2 (by simp))
      have hf := blk_frozen HT4.out.hX 1
      have hc := blk_cell HT4.out.hX 1
      clear HT HY HN hl hy
      go_upto_region 7 with (fail)
      have n1_ := Aside0.mk (HT4.out.set 1 (.int .i64 x) (cs' := csN l0 2) (by rw [← HXX.out]; rfl))
      have n2_ := Aside0.mk (blk_far HY4.out (p := ⟨X, 1, none⟩) HYX.out.1 (.int .i64 x))
      clear HT4 HY4 hf hc
      generalize w4.setCell ⟨X, 1, none⟩ (.int .i64 x) = w5 at n1_ n2_ ⊢
      go_wp2_with fail
      go_roundg 2
      case measure => omega
      case rel => exact ⟨2, by go_num, ⟨rfl⟩, n1_, n2_⟩
    · obtain rfl : gk = 2 := by have := HE.out; omega
      have hy := blk_cell HY.out 2
      obtain ⟨x, hx⟩ : ∃ x, numOf (stl l0 2) = x := ⟨_, rfl⟩
      have HN := Aside0.mk (numLv _ wr g (stl l0 2) (stb l0 2) HT.out.hL.rd HT.out.hL.by_ x hx)
      have HXX := Aside0.mk hx
      clear hx
      go_wp2_with fail
      refine HN.out.mono ?_
      rintro e w4 ⟨rfl, hl⟩
      have HT4 := Aside0.mk (HT.out.read hl HT.out.hL.len)
      have HY4 := Aside0.mk (hl.keep.blk HY.out HYX.out.2 (by simp))
      have hf := blk_frozen HT4.out.hX 2
      have hc := blk_cell HT4.out.hX 2
      clear HT HY HN hl hy
      go_upto_region 7 with (fail)
      have n1_ := Aside0.mk (HT4.out.set 2 (.int .i64 x) (cs' := csN l0 3) (by rw [← HXX.out]; rfl))
      have n2_ := Aside0.mk (blk_far HY4.out (p := ⟨X, 2, none⟩) HYX.out.1 (.int .i64 x))
      clear HT4 HY4 hf hc
      generalize w4.setCell ⟨X, 2, none⟩ (.int .i64 x) = w5 at n1_ n2_ ⊢
      go_wp2_with fail
      go_roundg 1
      case measure => omega
      case rel => exact ⟨3, by go_num, ⟨rfl⟩, n1_, n2_⟩
    · obtain rfl : gk = 1 := by have := HE.out; omega
      have hy := blk_cell HY.out 3
      obtain ⟨x, hx⟩ : ∃ x, numOf (stl l0 3) = x := ⟨_, rfl⟩
      have HN := Aside0.mk (numLv _ wr g (stl l0 3) (stb l0 3) HT.out.hL.rd HT.out.hL.by_ x hx)
      have HXX := Aside0.mk hx
      clear hx
      go_wp2_with fail
      refine HN.out.mono ?_
      rintro e w4 ⟨rfl, hl⟩
      have HT4 := Aside0.mk (HT.out.read hl HT.out.hL.len)
      have HY4 := Aside0.mk (hl.keep.blk HY.out HYX.out.2 (by simp))
      have hf := blk_frozen HT4.out.hX 3
      have hc := blk_cell HT4.out.hX 3
      clear HT HY HN hl hy
      go_upto_region 7 with (fail)
      have n1_ := Aside0.mk (HT4.out.set 3 (.int .i64 x) (cs' := csN l0 4) (by rw [← HXX.out]; rfl))
      have n2_ := Aside0.mk (blk_far HY4.out (p := ⟨X, 3, none⟩) HYX.out.1 (.int .i64 x))
      clear HT4 HY4 hf hc
      generalize w4.setCell ⟨X, 3, none⟩ (.int .i64 x) = w5 at n1_ n2_ ⊢
      go_wp2_with fail
      go_roundg 0
      case measure => omega
      case rel => exact ⟨4, by go_num, ⟨rfl⟩, n1_, n2_⟩
    · clear HE HY HYX
      have hb1 : decide (((4 : Nat) : Int) < 4) = false := rfl
      go_wp2_with fail
      refine (textLv _ wr g (stl l0 4) (stb l0 4) HT.out.hL.rd HT.out.hL.by_).mono ?_
      rintro e w4 ⟨rfl, hl⟩
      have HT4 := Aside0.mk (HT.out.read hl HT.out.hL.len)
      have hf := blk_frozen HT4.out.hX 4
      have hc := blk_cell HT4.out.hX 4
      obtain ⟨st, hst⟩ : ∃ st, st = textOf (stl l0 4) := ⟨_, rfl⟩
      rw [← hst]
      have HSS := Aside0.mk hst
      clear HT hl hst
      go_upto_region 9 with (fail)
      have n1_ := Aside0.mk (HT4.out.set 4 (.string st) (cs' := #[.int .i64 (NN l0 0), .int .i64 (NN l0 1), .int .i64 (NN l0 2), .int .i64 (NN l0 3), .string st, .string ⟨#[]⟩, .string ⟨#[]⟩, .slice none 0 0, .slice none 0 0, .slice none 0 0]) rfl)
      clear HT4 hf hc
      generalize w4.setCell ⟨X, 4, none⟩ (.string st) = w5 at n1_ ⊢
      obtain ⟨n0, h0⟩ : ∃ n0, n0 = NN l0 0 := ⟨_, rfl⟩
      obtain ⟨n1, h1⟩ : ∃ n1, n1 = NN l0 1 := ⟨_, rfl⟩
      obtain ⟨n2, h2⟩ : ∃ n2, n2 = NN l0 2 := ⟨_, rfl⟩
      obtain ⟨n3, h3⟩ : ∃ n3, n3 = NN l0 3 := ⟨_, rfl⟩
      rw [← h0, ← h1, ← h2, ← h3] at n1_
      have HNS := Aside0.mk (And.intro h0 (And.intro h1 (And.intro h2 h3)))
      clear h0 h1 h2 h3
      obtain ⟨lh, hlh⟩ : ∃ lh, lh = headA l0 := ⟨_, rfl⟩
      obtain ⟨bh, hbh⟩ : ∃ bh, bh = headB l0 := ⟨_, rfl⟩
      have n2_ : Aside0 (Tw w w1 w5 (fun k => k < wz.heap.size) g Z X l0.length (lh, bh) #[.int .i64 n0, .int .i64 n1, .int .i64 n2, .int .i64 n3, .string st, .string ⟨#[]⟩, .string ⟨#[]⟩, .slice none 0 0, .slice none 0 0, .slice none 0 0]) := ⟨by rw [hlh, hbh]; exact n1_.out⟩
      have HLH := Aside0.mk (And.intro hlh hbh)
      clear n1_ hlh hbh
      have HT5 := n2_
      clear n2_
      obtain ⟨x, hx⟩ : ∃ x, numOf lh = x := ⟨_, rfl⟩
      have HN := Aside0.mk (numLv _ w5 g lh bh HT5.out.hL.rd HT5.out.hL.by_ x hx)
      go_wp2_with fail
      refine HN.out.mono ?_
      rintro e w6 ⟨rfl, hl⟩
      have HT6 := Aside0.mk (HT5.out.read hl HT5.out.hL.len)
      have HXX := Aside0.mk hx
      clear HT5 hl HN hx
      go_upto_if 34 with (fail)
      go_cut [8] (fun v8_ wc => ∃ (e : Int) (V : S31) (v7 v8 : Value) (l1 : List Int) (b1 : Bool), v8_ = .int .i64 e ∧ Aside0 (takeV lh bh = (V, e, l1, b1)) ∧ Aside0 (Tw w w1 wc (fun k => k < wz.heap.size) g Z X l0.length (l1, b1) #[.int .i64 n0, .int .i64 n1, .int .i64 n2, .int .i64 n3, .string st, .string V.f0, .string V.f1, v7, v8, .slice none 0 0]) ∧ Aside0 (Kd.string.R 9 wc w.heap.size (fun _ => True) v7 V.f2) ∧ Aside0 (k90.R 90 wc w.heap.size (fun _ => True) v8 V.f3))
      case first =>
        by_cases hx1 : x = 1
        · subst hx1
          obtain ⟨⟨V, e, l1, b1⟩, hq⟩ : ∃ q, takeE (aft lh) (badOf lh bh) = q := ⟨_, rfl⟩
          have HQ := Aside0.mk hq
          have HTV := Aside0.mk (show takeV lh bh = (V, e, l1, b1) by unfold takeV; rw [if_pos HXX.out]; exact hq)
          clear hq
          go_wp2_with fail
          refine (eventLv _ w6 g (aft lh) (badOf lh bh) HT6.out.hL.rd HT6.out.hL.by_ HT6.out.hP _ HQ.out).mono ?_
          rintro e_ w7 ⟨v7, v8, rfl, h7, h8, hl⟩
          have HT7 := Aside0.mk (HT6.out.read hl HT6.out.hL.len)
          have H7 := Aside0.mk (Kd.R_lower h7 HT6.out.lo)
          have H8 := Aside0.mk (Kd.R_lower h8 HT6.out.lo)
          obtain ⟨A7, c7, e7⟩ := Kd.R_slice h7
          obtain ⟨A8, c8, e8⟩ := Kd.R_slice h8
          subst e7
          subst e8
          have hf5 := blk_frozen HT7.out.hX 5
          have hf6 := blk_frozen HT7.out.hX 6
          have hf7 := blk_frozen HT7.out.hX 7
          have hf8 := blk_frozen HT7.out.hX 8
          have hc5 := blk_cell HT7.out.hX 5
          have hc6 := blk_cell HT7.out.hX 6
          have hc7 := blk_cell HT7.out.hX 7
          have hc8 := blk_cell HT7.out.hX 8
          clear HT6 h7 h8 hl HQ
          go_wp2
          go_meet
          case rel =>
            refine ⟨e, V, .slice A7 V.f2.length c7, .slice A8 V.f3.length c8, l1, b1, rfl, HTV, ⟨((((HT7.out.set 5 (.string V.f0) rfl).set 6 (.string V.f1) rfl).set 7 (.slice A7 V.f2.length c7) rfl).set 8 (.slice A8 V.f3.length c8) rfl)⟩, ⟨?_⟩, ⟨?_⟩⟩
            · exact (R_setA (R_setA (R_setA (R_setA H7.out ⟨_, HT7.out.hX⟩ (by decide) 5 (.string V.f0)).1 (R_setA H7.out ⟨_, HT7.out.hX⟩ (by decide) 5 (.string V.f0)).2 (by decide) 6 (.string V.f1)).1 (R_setA (R_setA H7.out ⟨_, HT7.out.hX⟩ (by decide) 5 (.string V.f0)).1 (R_setA H7.out ⟨_, HT7.out.hX⟩ (by decide) 5 (.string V.f0)).2 (by decide) 6 (.string V.f1)).2 (by decide) 7 (.slice A7 V.f2.length c7)).1 (R_setA (R_setA (R_setA H7.out ⟨_, HT7.out.hX⟩ (by decide) 5 (.string V.f0)).1 (R_setA H7.out ⟨_, HT7.out.hX⟩ (by decide) 5 (.string V.f0)).2 (by decide) 6 (.string V.f1)).1 (R_setA (R_setA H7.out ⟨_, HT7.out.hX⟩ (by decide) 5 (.string V.f0)).1 (R_setA H7.out ⟨_, HT7.out.hX⟩ (by decide) 5 (.string V.f0)).2 (by decide) 6 (.string V.f1)).2 (by decide) 7 (.slice A7 V.f2.length c7)).2 (by decide) 8 (.slice A8 V.f3.length c8)).1
            · exact (R_setA (R_setA (R_setA (R_setA H8.out ⟨_, HT7.out.hX⟩ (by decide) 5 (.string V.f0)).1 (R_setA H8.out ⟨_, HT7.out.hX⟩ (by decide) 5 (.string V.f0)).2 (by decide) 6 (.string V.f1)).1 (R_setA (R_setA H8.out ⟨_, HT7.out.hX⟩ (by decide) 5 (.string V.f0)).1 (R_setA H8.out ⟨_, HT7.out.hX⟩ (by decide) 5 (.string V.f0)).2 (by decide) 6 (.string V.f1)).2 (by decide) 7 (.slice A7 V.f2.length c7)).1 (R_setA (R_setA (R_setA H8.out ⟨_, HT7.out.hX⟩ (by decide) 5 (.string V.f0)).1 (R_setA H8.out ⟨_, HT7.out.hX⟩ (by decide) 5 (.string V.f0)).2 (by decide) 6 (.string V.f1)).1 (R_setA (R_setA H8.out ⟨_, HT7.out.hX⟩ (by decide) 5 (.string V.f0)).1 (R_setA H8.out ⟨_, HT7.out.hX⟩ (by decide) 5 (.string V.f0)).2 (by decide) 6 (.string V.f1)).2 (by decide) 7 (.slice A7 V.f2.length c7)).2 (by decide) 8 (.slice A8 V.f3.length c8)).1
        · have hd : decide (x = 1) = false := decide_eq_false hx1
          have HTV := Aside0.mk (show takeV lh bh = (z31, 0, aft lh, badOf lh bh) by unfold takeV; rw [if_neg (by rw [HXX.out]; exact hx1)])
          go_wp2
          go_meet
          case rel => exact ⟨0, z31, .slice none 0 0, .slice none 0 0, _, _, rfl, HTV, HT6, ⟨Kd.R_nil _ _ _ _ _⟩, ⟨Kd.R_nil _ _ _ _ _⟩⟩
      case rest =>

      obtain ⟨e, V, v7, v8, l1, b1, rfl, HTV, HT7, H7, H8⟩ := hcut
      clear HT6 HXX
      obtain ⟨y, hy⟩ : ∃ y, numOf l1 = y := ⟨_, rfl⟩
      have HN := Aside0.mk (numLv _ wc g l1 b1 HT7.out.hL.rd HT7.out.hL.by_ y hy)
      have HYY := Aside0.mk hy
      clear hy
      go_wp2_with fail
      refine HN.out.mono ?_
      rintro e_ w8 ⟨rfl, hl⟩
      have HT8 := Aside0.mk (HT7.out.read hl HT7.out.hL.len)
      have H72 := Aside0.mk (HT7.out.turnR H7.out hl (by decide))
      have H82 := Aside0.mk (HT7.out.turnR H8.out hl (by decide))
      clear HT7 H7 H8 hl HN
      go_upto_if 43 with (fail)
      go_cut [9] (fun v9_ wc => ∃ (f : Int) (Q : List S92) (v9 : Value) (l2 : List Int) (b2 : Bool), v9_ = .int .i64 f ∧ Aside0 (takeW l1 b1 = (Q, f, l2, b2)) ∧ Aside0 (Tw w w1 wc (fun k => k < wz.heap.size) g Z X l0.length (l2, b2) #[.int .i64 n0, .int .i64 n1, .int .i64 n2, .int .i64 n3, .string st, .string V.f0, .string V.f1, v7, v8, v9]) ∧ Aside0 (Kd.string.R 9 wc w.heap.size (fun _ => True) v7 V.f2) ∧ Aside0 (k90.R 90 wc w.heap.size (fun _ => True) v8 V.f3) ∧ Aside0 (Kd.S k92 92 wc w.heap.size (fun _ => True) v9 Q))
      case first =>
        by_cases hy1 : y = 1
        · subst hy1
          obtain ⟨⟨Q, f, l2, b2⟩, hq⟩ : ∃ q, takeQ (aft l1) (badOf l1 b1) = q := ⟨_, rfl⟩
          have HQ := Aside0.mk hq
          have HTW := Aside0.mk (show takeW l1 b1 = (Q, f, l2, b2) by unfold takeW; rw [if_pos HYY.out]; exact hq)
          clear hq
          go_wp2_with fail
          refine (takeQ_calls _ w8 g (aft l1) (badOf l1 b1) HT8.out.hL.rd HT8.out.hL.by_ HT8.out.hP _ HQ.out).mono ?_
          rintro e_ w9 ⟨v9, rfl, h9, hl⟩
          have HT9 := Aside0.mk (HT8.out.read hl HT8.out.hL.len)
          have H73 := Aside0.mk (HT8.out.turnR H72.out hl (by decide))
          have H83 := Aside0.mk (HT8.out.turnR H82.out hl (by decide))
          have H9 := Aside0.mk (Kd.S_lower h9 HT8.out.lo)
          obtain ⟨A9, c9, e9⟩ := Kd.S_slice h9
          subst e9
          have hf9 := blk_frozen HT9.out.hX 9
          have hc9 := blk_cell HT9.out.hX 9
          clear HT8 H72 H82 h9 hl HQ
          go_wp2
          go_meet
          case rel => exact ⟨f, Q, .slice A9 Q.length c9, l2, b2, rfl, HTW, ⟨HT9.out.set 9 (.slice A9 Q.length c9) rfl⟩, ⟨R_set H73.out HT9.out.hX (by decide) 9 _⟩, ⟨R_set H83.out HT9.out.hX (by decide) 9 _⟩, ⟨S_set H9.out HT9.out.hX (by decide) 9 _⟩⟩
        · have hd : decide (y = 1) = false := decide_eq_false hy1
          have HTW := Aside0.mk (show takeW l1 b1 = ([], 0, aft l1, badOf l1 b1) by unfold takeW; rw [if_neg (by rw [HYY.out]; exact hy1)])
          go_wp2
          go_meet
          case rel => exact ⟨0, [], .slice none 0 0, _, _, rfl, HTW, HT8, H72, H82, ⟨Kd.S_nil _ _ _ _ _⟩⟩
      case rest =>
      obtain ⟨f, Q, v9, l2, b2, rfl, HTW, HT9, H7, H8, H9⟩ := hcut
      clear HT8 HYY H72 H82
      obtain ⟨A7, c7, e7⟩ := Kd.R_slice H7.out
      subst e7
      obtain ⟨A8, c8, e8⟩ := Kd.R_slice H8.out
      subst e8
      obtain ⟨A9, c9, e9⟩ := Kd.S_slice H9.out
      subst e9
      have hTT : takeT l0 = (⟨n0, n1, n2, n3, st, V, ⟨Q⟩⟩, e, f, l2, b2) := by
        have h0 := HLH.out
        have h1 := HNS.out
        have h2 := HSS.out
        unfold takeT stepOf
        rw [← h0.1, ← h0.2, HTV.out]
        simp only
        rw [HTW.out, h1.1, h1.2.1, h1.2.2.1, h1.2.2.2, h2]
        rfl
      have htm := HTM.out
      have hst := HST.out
      rw [hTT] at htm hst
      simp only at htm hst
      obtain ⟨hok, hsz, he, hf⟩ := htm
      have HFIT : FitS ⟨n0, n1, n2, n3, st, V, ⟨Q⟩⟩ := ⟨hok.k0, hok.k1, hok.k2, hok.k3, hsz, by have := (mayV_fit hok.hv).2; simp only at this ⊢; omega, (mayV_fit hok.hv).1, mayW_fit hok.hq⟩
      have HSC : StC wc ⟨n0, n1, n2, n3, st, V, ⟨Q⟩⟩ A7 c7 A8 c8 A9 c9 := by
        obtain ⟨-, a1, a2⟩ := Kd.R_reads' H7.out
        obtain ⟨-, a3, a4⟩ := Kd.R_reads' H8.out
        obtain ⟨-, a5, a6⟩ := Kd.S_reads' H9.out
        exact ⟨a2, a1, a4, a3, a6, a5⟩
      obtain ⟨pp, hpp⟩ : ∃ pp, pp = encS ⟨n0, n1, n2, n3, st, V, ⟨Q⟩⟩ := ⟨_, rfl⟩
      have HPB : Aside0 (isBytes pp) := ⟨by rw [hpp]; exact encS_bytes _⟩
      have HP := Aside0.mk (show Calls Try.prog 12 #[.agg #[.int .i64 n0, .int .i64 n1, .int .i64 n2, .int .i64 n3, .string st, .string V.f0, .string V.f1, .slice A7 V.f2.length c7, .slice A8 V.f3.length c8, .slice A9 Q.length c9]] wc fun e w' => ∃ v, e = .returned (.tuple #[v, .int .i64 0]) ∧ Kd.R (Kd.int .u8) 5 w' wc.heap.size (fun _ => True) v pp ∧ Below wc.heap.size wc w' from put_calls22 ⟨n0, n1, n2, n3, st, V, ⟨Q⟩⟩ A7 c7 A8 c8 A9 c9 wc HSC HFIT pp 0 (by rw [hpp]; exact putS_ok hok.hv hok.hq))
      rw [← hpp] at hst
      have HST2 := Aside0.mk hst
      have HE := Aside0.mk he
      have HF := Aside0.mk hf
      clear HTM HST HTV HTW HNS HSS HLH hTT hst hok hsz he hf HFIT HSC hpp
      have hx0 := blk_cell HT9.out.hX 0
      have hx1 := blk_cell HT9.out.hX 1
      have hx2 := blk_cell HT9.out.hX 2
      have hx3 := blk_cell HT9.out.hX 3
      have hx4 := blk_cell HT9.out.hX 4
      have hx5 := blk_cell HT9.out.hX 5
      have hx6 := blk_cell HT9.out.hX 6
      have hx7 := blk_cell HT9.out.hX 7
      have hx8 := blk_cell HT9.out.hX 8
      have hx9 := blk_cell HT9.out.hX 9
      go_wp2_with fail
      refine HP.out.mono ?_
      rintro e_ w10 ⟨vp, rfl, ho, hb⟩
      have HT10 := Aside0.mk (HT9.out.up hb)
      have H7b := Aside0.mk (Kd.R_below H7.out hb)
      have H8b := Aside0.mk (Kd.R_below H8.out hb)
      have H9b := Aside0.mk (Kd.S_below H9.out hb)
      obtain ⟨Ap, cp, ep⟩ := Kd.R_slice ho
      subst ep
      obtain ⟨-, hcp, hCp⟩ := Kd.R_reads' ho
      have HPC := Aside0.mk (And.intro hcp hCp)
      clear HP HT9 H7 H8 H9 ho hb hcp hCp hx0 hx1 hx2 hx3 hx4 hx5 hx6 hx7 hx8 hx9
      go_wp2_with fail
      refine (bad_calls _ w10 g l2 b2 HT10.out.hL.rd).mono ?_
      rintro e_ w11 ⟨rfl, rfl⟩
      cases b2 with
      | true =>
        have HS2 := Aside0.mk (ite_yes HST2.out (.inl rfl))
        clear HST2
        have hz0 := blk_cell HT10.out.hZ 0
        have hf0 := blk_frozen HT10.out.hZ 0
        have hz1 := blk_cell HT10.out.hZ 1
        have hf1 := blk_frozen HT10.out.hZ 1
        have hz2 := blk_cell HT10.out.hZ 2
        have hf2 := blk_frozen HT10.out.hZ 2
        have hz3 := blk_cell HT10.out.hZ 3
        have hf3 := blk_frozen HT10.out.hZ 3
        have hz4 := blk_cell HT10.out.hZ 4
        have hf4 := blk_frozen HT10.out.hZ 4
        have hz5 := blk_cell HT10.out.hZ 5
        have hf5 := blk_frozen HT10.out.hZ 5
        have hz6 := blk_cell HT10.out.hZ 6
        have hf6 := blk_frozen HT10.out.hZ 6
        have hz7 := blk_cell HT10.out.hZ 7
        have hf7 := blk_frozen HT10.out.hZ 7
        have hz8 := blk_cell HT10.out.hZ 8
        have hf8 := blk_frozen HT10.out.hZ 8
        have hz9 := blk_cell HT10.out.hZ 9
        have hf9 := blk_frozen HT10.out.hZ 9
        go_wp2_with fail
        have HE9 := (blk_put (cs' := #[.int .i64 0, .int .i64 0, .int .i64 0, .int .i64 0, .string ⟨#[]⟩, .string ⟨#[]⟩, .string ⟨#[]⟩, .slice none 0 0, .slice none 0 0, .slice none 0 0]) (blk_put (cs' := #[.int .i64 0, .int .i64 0, .int .i64 0, .int .i64 0, .string ⟨#[]⟩, .string ⟨#[]⟩, .string ⟨#[]⟩, .slice none 0 0, .slice none 0 0, .slice none 0 0]) (blk_put (cs' := #[.int .i64 0, .int .i64 0, .int .i64 0, .int .i64 0, .string ⟨#[]⟩, .string ⟨#[]⟩, .string ⟨#[]⟩, .slice none 0 0, .slice none 0 0, .slice none 0 0]) (blk_put (cs' := #[.int .i64 0, .int .i64 0, .int .i64 0, .int .i64 0, .string ⟨#[]⟩, .string ⟨#[]⟩, .string ⟨#[]⟩, .slice none 0 0, .slice none 0 0, .slice none 0 0]) (blk_put (cs' := #[.int .i64 0, .int .i64 0, .int .i64 0, .int .i64 0, .string ⟨#[]⟩, .string ⟨#[]⟩, .string ⟨#[]⟩, .slice none 0 0, .slice none 0 0, .slice none 0 0]) (blk_put (cs' := #[.int .i64 0, .int .i64 0, .int .i64 0, .int .i64 0, .string ⟨#[]⟩, .string ⟨#[]⟩, .string ⟨#[]⟩, .slice none 0 0, .slice none 0 0, .slice none 0 0]) (blk_put (cs' := #[.int .i64 0, .int .i64 0, .int .i64 0, .int .i64 0, .string ⟨#[]⟩, .string ⟨#[]⟩, .string ⟨#[]⟩, .slice none 0 0, .slice none 0 0, .slice none 0 0]) (blk_put (cs' := #[.int .i64 0, .int .i64 0, .int .i64 0, .int .i64 0, .string ⟨#[]⟩, .string ⟨#[]⟩, .string ⟨#[]⟩, .slice none 0 0, .slice none 0 0, .slice none 0 0]) (blk_put (cs' := #[.int .i64 0, .int .i64 0, .int .i64 0, .int .i64 0, .string ⟨#[]⟩, .string ⟨#[]⟩, .string ⟨#[]⟩, .slice none 0 0, .slice none 0 0, .slice none 0 0]) (blk_put (cs' := #[.int .i64 0, .int .i64 0, .int .i64 0, .int .i64 0, .string ⟨#[]⟩, .string ⟨#[]⟩, .string ⟨#[]⟩, .slice none 0 0, .slice none 0 0, .slice none 0 0]) HT10.out.hZ 0 (.int .i64 0) rfl) 1 (.int .i64 0) rfl) 2 (.int .i64 0) rfl) 3 (.int .i64 0) rfl) 4 (.string ⟨#[]⟩) rfl) 5 (.string ⟨#[]⟩) rfl) 6 (.string ⟨#[]⟩) rfl) 7 (.slice none 0 0) rfl) 8 (.slice none 0 0) rfl) 9 (.slice none 0 0) rfl)
        refine bodyPost_ret (results_ct rfl _ _ Z 36 _ (0, 0) _ rfl HE9 Try.underlying36 rfl (by kernel_rfl)) rfl ?_
        obtain ⟨rfl, rfl⟩ := Prod.mk.inj HS2.out
        exact ⟨.slice none 0 0, .slice none 0 0, .slice none 0 0, rfl, Kd.R_nil _ _ _ _ _, Kd.R_nil _ _ _ _ _, Kd.S_nil _ _ _ _ _, ((((((((((HT10.out.hB.setCell (p := ⟨Z, 0, none⟩) HT10.out.z1 (.int .i64 0)).setCell (p := ⟨Z, 1, none⟩) HT10.out.z1 (.int .i64 0)).setCell (p := ⟨Z, 2, none⟩) HT10.out.z1 (.int .i64 0)).setCell (p := ⟨Z, 3, none⟩) HT10.out.z1 (.int .i64 0)).setCell (p := ⟨Z, 4, none⟩) HT10.out.z1 (.string ⟨#[]⟩)).setCell (p := ⟨Z, 5, none⟩) HT10.out.z1 (.string ⟨#[]⟩)).setCell (p := ⟨Z, 6, none⟩) HT10.out.z1 (.string ⟨#[]⟩)).setCell (p := ⟨Z, 7, none⟩) HT10.out.z1 (.slice none 0 0)).setCell (p := ⟨Z, 8, none⟩) HT10.out.z1 (.slice none 0 0)).setCell (p := ⟨Z, 9, none⟩) HT10.out.z1 (.slice none 0 0))⟩
      | false =>
        have he := HE.out
        have hf := HF.out
        rcases he with rfl | rfl <;> rcases hf with rfl | rfl
        · go_wp2_with fail
          refine (equal_calls Ap cp pp A0 c0 l0 w10 HPC.out.2 HPC.out.1 (Kd.C_below HR0.out HT10.out.hB) HC0.out HPB.out HBY.out).mono ?_
          rintro e_ w12 ⟨rfl, rfl⟩
          by_cases hpl : pp = l0
          · have b4 : decide (pp = l0) = true := decide_eq_true hpl
            rw [b4]
            have HS2 := Aside0.mk (ite_no HST2.out (by rw [not_or, not_or, not_or]; exact ⟨by simp, by simp, by simp, fun h => h hpl⟩))
            clear b4 hpl HST2
            have hz0 := blk_cell HT10.out.hZ 0
            have hf0 := blk_frozen HT10.out.hZ 0
            have hx0 := blk_cell HT10.out.hX 0
            have hz1 := blk_cell HT10.out.hZ 1
            have hf1 := blk_frozen HT10.out.hZ 1
            have hx1 := blk_cell HT10.out.hX 1
            have hz2 := blk_cell HT10.out.hZ 2
            have hf2 := blk_frozen HT10.out.hZ 2
            have hx2 := blk_cell HT10.out.hX 2
            have hz3 := blk_cell HT10.out.hZ 3
            have hf3 := blk_frozen HT10.out.hZ 3
            have hx3 := blk_cell HT10.out.hX 3
            have hz4 := blk_cell HT10.out.hZ 4
            have hf4 := blk_frozen HT10.out.hZ 4
            have hx4 := blk_cell HT10.out.hX 4
            have hz5 := blk_cell HT10.out.hZ 5
            have hf5 := blk_frozen HT10.out.hZ 5
            have hx5 := blk_cell HT10.out.hX 5
            have hz6 := blk_cell HT10.out.hZ 6
            have hf6 := blk_frozen HT10.out.hZ 6
            have hx6 := blk_cell HT10.out.hX 6
            have hz7 := blk_cell HT10.out.hZ 7
            have hf7 := blk_frozen HT10.out.hZ 7
            have hx7 := blk_cell HT10.out.hX 7
            have hz8 := blk_cell HT10.out.hZ 8
            have hf8 := blk_frozen HT10.out.hZ 8
            have hx8 := blk_cell HT10.out.hX 8
            have hz9 := blk_cell HT10.out.hZ 9
            have hf9 := blk_frozen HT10.out.hZ 9
            have hx9 := blk_cell HT10.out.hX 9
            go_wp2_with fail
            have HE9 := (blk_put (cs' := #[.int .i64 n0, .int .i64 n1, .int .i64 n2, .int .i64 n3, .string st, .string V.f0, .string V.f1, .slice A7 V.f2.length c7, .slice A8 V.f3.length c8, .slice A9 Q.length c9]) (blk_put (cs' := #[.int .i64 n0, .int .i64 n1, .int .i64 n2, .int .i64 n3, .string st, .string V.f0, .string V.f1, .slice A7 V.f2.length c7, .slice A8 V.f3.length c8, .slice none 0 0]) (blk_put (cs' := #[.int .i64 n0, .int .i64 n1, .int .i64 n2, .int .i64 n3, .string st, .string V.f0, .string V.f1, .slice A7 V.f2.length c7, .slice none 0 0, .slice none 0 0]) (blk_put (cs' := #[.int .i64 n0, .int .i64 n1, .int .i64 n2, .int .i64 n3, .string st, .string V.f0, .string V.f1, .slice none 0 0, .slice none 0 0, .slice none 0 0]) (blk_put (cs' := #[.int .i64 n0, .int .i64 n1, .int .i64 n2, .int .i64 n3, .string st, .string V.f0, .string ⟨#[]⟩, .slice none 0 0, .slice none 0 0, .slice none 0 0]) (blk_put (cs' := #[.int .i64 n0, .int .i64 n1, .int .i64 n2, .int .i64 n3, .string st, .string ⟨#[]⟩, .string ⟨#[]⟩, .slice none 0 0, .slice none 0 0, .slice none 0 0]) (blk_put (cs' := #[.int .i64 n0, .int .i64 n1, .int .i64 n2, .int .i64 n3, .string ⟨#[]⟩, .string ⟨#[]⟩, .string ⟨#[]⟩, .slice none 0 0, .slice none 0 0, .slice none 0 0]) (blk_put (cs' := #[.int .i64 n0, .int .i64 n1, .int .i64 n2, .int .i64 0, .string ⟨#[]⟩, .string ⟨#[]⟩, .string ⟨#[]⟩, .slice none 0 0, .slice none 0 0, .slice none 0 0]) (blk_put (cs' := #[.int .i64 n0, .int .i64 n1, .int .i64 0, .int .i64 0, .string ⟨#[]⟩, .string ⟨#[]⟩, .string ⟨#[]⟩, .slice none 0 0, .slice none 0 0, .slice none 0 0]) (blk_put (cs' := #[.int .i64 n0, .int .i64 0, .int .i64 0, .int .i64 0, .string ⟨#[]⟩, .string ⟨#[]⟩, .string ⟨#[]⟩, .slice none 0 0, .slice none 0 0, .slice none 0 0]) HT10.out.hZ 0 (.int .i64 n0) rfl) 1 (.int .i64 n1) rfl) 2 (.int .i64 n2) rfl) 3 (.int .i64 n3) rfl) 4 (.string st) rfl) 5 (.string V.f0) rfl) 6 (.string V.f1) rfl) 7 (.slice A7 V.f2.length c7) rfl) 8 (.slice A8 V.f3.length c8) rfl) 9 (.slice A9 Q.length c9) rfl)
            refine bodyPost_ret (results_ct rfl _ _ Z 36 _ (0, 0) _ rfl HE9 Try.underlying36 rfl (by kernel_rfl)) rfl ?_
            obtain ⟨rfl, rfl⟩ := Prod.mk.inj HS2.out
            have HKB := (((((((((((KeepBut.refl w10 Z none).set_ 0 (.int .i64 n0)).set_ 1 (.int .i64 n1)).set_ 2 (.int .i64 n2)).set_ 3 (.int .i64 n3)).set_ 4 (.string st)).set_ 5 (.string V.f0)).set_ 6 (.string V.f1)).set_ 7 (.slice A7 V.f2.length c7)).set_ 8 (.slice A8 V.f3.length c8)).set_ 9 (.slice A9 Q.length c9))
            exact ⟨.slice A7 V.f2.length c7, .slice A8 V.f3.length c8, .slice A9 Q.length c9, rfl, R_turnT H7b.out HT10.out.hZ (by decide) HKB, R_turnT H8b.out HT10.out.hZ (by decide) HKB, S_turnT H9b.out HT10.out.hZ (by decide) HKB, ((((((((((HT10.out.hB.setCell (p := ⟨Z, 0, none⟩) HT10.out.z1 (.int .i64 n0)).setCell (p := ⟨Z, 1, none⟩) HT10.out.z1 (.int .i64 n1)).setCell (p := ⟨Z, 2, none⟩) HT10.out.z1 (.int .i64 n2)).setCell (p := ⟨Z, 3, none⟩) HT10.out.z1 (.int .i64 n3)).setCell (p := ⟨Z, 4, none⟩) HT10.out.z1 (.string st)).setCell (p := ⟨Z, 5, none⟩) HT10.out.z1 (.string V.f0)).setCell (p := ⟨Z, 6, none⟩) HT10.out.z1 (.string V.f1)).setCell (p := ⟨Z, 7, none⟩) HT10.out.z1 (.slice A7 V.f2.length c7)).setCell (p := ⟨Z, 8, none⟩) HT10.out.z1 (.slice A8 V.f3.length c8)).setCell (p := ⟨Z, 9, none⟩) HT10.out.z1 (.slice A9 Q.length c9))⟩
          · have b4 : decide (pp = l0) = false := decide_eq_false hpl
            rw [b4]
            clear b4
            have HS2 := Aside0.mk (ite_yes HST2.out (.inr (.inr (.inr hpl))))
            clear HST2
            have hz0 := blk_cell HT10.out.hZ 0
            have hf0 := blk_frozen HT10.out.hZ 0
            have hz1 := blk_cell HT10.out.hZ 1
            have hf1 := blk_frozen HT10.out.hZ 1
            have hz2 := blk_cell HT10.out.hZ 2
            have hf2 := blk_frozen HT10.out.hZ 2
            have hz3 := blk_cell HT10.out.hZ 3
            have hf3 := blk_frozen HT10.out.hZ 3
            have hz4 := blk_cell HT10.out.hZ 4
            have hf4 := blk_frozen HT10.out.hZ 4
            have hz5 := blk_cell HT10.out.hZ 5
            have hf5 := blk_frozen HT10.out.hZ 5
            have hz6 := blk_cell HT10.out.hZ 6
            have hf6 := blk_frozen HT10.out.hZ 6
            have hz7 := blk_cell HT10.out.hZ 7
            have hf7 := blk_frozen HT10.out.hZ 7
            have hz8 := blk_cell HT10.out.hZ 8
            have hf8 := blk_frozen HT10.out.hZ 8
            have hz9 := blk_cell HT10.out.hZ 9
            have hf9 := blk_frozen HT10.out.hZ 9
            go_wp2_with fail
            have HE9 := (blk_put (cs' := #[.int .i64 0, .int .i64 0, .int .i64 0, .int .i64 0, .string ⟨#[]⟩, .string ⟨#[]⟩, .string ⟨#[]⟩, .slice none 0 0, .slice none 0 0, .slice none 0 0]) (blk_put (cs' := #[.int .i64 0, .int .i64 0, .int .i64 0, .int .i64 0, .string ⟨#[]⟩, .string ⟨#[]⟩, .string ⟨#[]⟩, .slice none 0 0, .slice none 0 0, .slice none 0 0]) (blk_put (cs' := #[.int .i64 0, .int .i64 0, .int .i64 0, .int .i64 0, .string ⟨#[]⟩, .string ⟨#[]⟩, .string ⟨#[]⟩, .slice none 0 0, .slice none 0 0, .slice none 0 0]) (blk_put (cs' := #[.int .i64 0, .int .i64 0, .int .i64 0, .int .i64 0, .string ⟨#[]⟩, .string ⟨#[]⟩, .string ⟨#[]⟩, .slice none 0 0, .slice none 0 0, .slice none 0 0]) (blk_put (cs' := #[.int .i64 0, .int .i64 0, .int .i64 0, .int .i64 0, .string ⟨#[]⟩, .string ⟨#[]⟩, .string ⟨#[]⟩, .slice none 0 0, .slice none 0 0, .slice none 0 0]) (blk_put (cs' := #[.int .i64 0, .int .i64 0, .int .i64 0, .int .i64 0, .string ⟨#[]⟩, .string ⟨#[]⟩, .string ⟨#[]⟩, .slice none 0 0, .slice none 0 0, .slice none 0 0]) (blk_put (cs' := #[.int .i64 0, .int .i64 0, .int .i64 0, .int .i64 0, .string ⟨#[]⟩, .string ⟨#[]⟩, .string ⟨#[]⟩, .slice none 0 0, .slice none 0 0, .slice none 0 0]) (blk_put (cs' := #[.int .i64 0, .int .i64 0, .int .i64 0, .int .i64 0, .string ⟨#[]⟩, .string ⟨#[]⟩, .string ⟨#[]⟩, .slice none 0 0, .slice none 0 0, .slice none 0 0]) (blk_put (cs' := #[.int .i64 0, .int .i64 0, .int .i64 0, .int .i64 0, .string ⟨#[]⟩, .string ⟨#[]⟩, .string ⟨#[]⟩, .slice none 0 0, .slice none 0 0, .slice none 0 0]) (blk_put (cs' := #[.int .i64 0, .int .i64 0, .int .i64 0, .int .i64 0, .string ⟨#[]⟩, .string ⟨#[]⟩, .string ⟨#[]⟩, .slice none 0 0, .slice none 0 0, .slice none 0 0]) HT10.out.hZ 0 (.int .i64 0) rfl) 1 (.int .i64 0) rfl) 2 (.int .i64 0) rfl) 3 (.int .i64 0) rfl) 4 (.string ⟨#[]⟩) rfl) 5 (.string ⟨#[]⟩) rfl) 6 (.string ⟨#[]⟩) rfl) 7 (.slice none 0 0) rfl) 8 (.slice none 0 0) rfl) 9 (.slice none 0 0) rfl)
            refine bodyPost_ret (results_ct rfl _ _ Z 36 _ (0, 0) _ rfl HE9 Try.underlying36 rfl (by kernel_rfl)) rfl ?_
            obtain ⟨rfl, rfl⟩ := Prod.mk.inj HS2.out
            exact ⟨.slice none 0 0, .slice none 0 0, .slice none 0 0, rfl, Kd.R_nil _ _ _ _ _, Kd.R_nil _ _ _ _ _, Kd.S_nil _ _ _ _ _, ((((((((((HT10.out.hB.setCell (p := ⟨Z, 0, none⟩) HT10.out.z1 (.int .i64 0)).setCell (p := ⟨Z, 1, none⟩) HT10.out.z1 (.int .i64 0)).setCell (p := ⟨Z, 2, none⟩) HT10.out.z1 (.int .i64 0)).setCell (p := ⟨Z, 3, none⟩) HT10.out.z1 (.int .i64 0)).setCell (p := ⟨Z, 4, none⟩) HT10.out.z1 (.string ⟨#[]⟩)).setCell (p := ⟨Z, 5, none⟩) HT10.out.z1 (.string ⟨#[]⟩)).setCell (p := ⟨Z, 6, none⟩) HT10.out.z1 (.string ⟨#[]⟩)).setCell (p := ⟨Z, 7, none⟩) HT10.out.z1 (.slice none 0 0)).setCell (p := ⟨Z, 8, none⟩) HT10.out.z1 (.slice none 0 0)).setCell (p := ⟨Z, 9, none⟩) HT10.out.z1 (.slice none 0 0))⟩
        · skip
          have HS2 := Aside0.mk (ite_yes HST2.out (.inr (.inr (.inl (by decide)))))
          clear HST2
          have hz0 := blk_cell HT10.out.hZ 0
          have hf0 := blk_frozen HT10.out.hZ 0
          have hz1 := blk_cell HT10.out.hZ 1
          have hf1 := blk_frozen HT10.out.hZ 1
          have hz2 := blk_cell HT10.out.hZ 2
          have hf2 := blk_frozen HT10.out.hZ 2
          have hz3 := blk_cell HT10.out.hZ 3
          have hf3 := blk_frozen HT10.out.hZ 3
          have hz4 := blk_cell HT10.out.hZ 4
          have hf4 := blk_frozen HT10.out.hZ 4
          have hz5 := blk_cell HT10.out.hZ 5
          have hf5 := blk_frozen HT10.out.hZ 5
          have hz6 := blk_cell HT10.out.hZ 6
          have hf6 := blk_frozen HT10.out.hZ 6
          have hz7 := blk_cell HT10.out.hZ 7
          have hf7 := blk_frozen HT10.out.hZ 7
          have hz8 := blk_cell HT10.out.hZ 8
          have hf8 := blk_frozen HT10.out.hZ 8
          have hz9 := blk_cell HT10.out.hZ 9
          have hf9 := blk_frozen HT10.out.hZ 9
          go_wp2_with fail
          have HE9 := (blk_put (cs' := #[.int .i64 0, .int .i64 0, .int .i64 0, .int .i64 0, .string ⟨#[]⟩, .string ⟨#[]⟩, .string ⟨#[]⟩, .slice none 0 0, .slice none 0 0, .slice none 0 0]) (blk_put (cs' := #[.int .i64 0, .int .i64 0, .int .i64 0, .int .i64 0, .string ⟨#[]⟩, .string ⟨#[]⟩, .string ⟨#[]⟩, .slice none 0 0, .slice none 0 0, .slice none 0 0]) (blk_put (cs' := #[.int .i64 0, .int .i64 0, .int .i64 0, .int .i64 0, .string ⟨#[]⟩, .string ⟨#[]⟩, .string ⟨#[]⟩, .slice none 0 0, .slice none 0 0, .slice none 0 0]) (blk_put (cs' := #[.int .i64 0, .int .i64 0, .int .i64 0, .int .i64 0, .string ⟨#[]⟩, .string ⟨#[]⟩, .string ⟨#[]⟩, .slice none 0 0, .slice none 0 0, .slice none 0 0]) (blk_put (cs' := #[.int .i64 0, .int .i64 0, .int .i64 0, .int .i64 0, .string ⟨#[]⟩, .string ⟨#[]⟩, .string ⟨#[]⟩, .slice none 0 0, .slice none 0 0, .slice none 0 0]) (blk_put (cs' := #[.int .i64 0, .int .i64 0, .int .i64 0, .int .i64 0, .string ⟨#[]⟩, .string ⟨#[]⟩, .string ⟨#[]⟩, .slice none 0 0, .slice none 0 0, .slice none 0 0]) (blk_put (cs' := #[.int .i64 0, .int .i64 0, .int .i64 0, .int .i64 0, .string ⟨#[]⟩, .string ⟨#[]⟩, .string ⟨#[]⟩, .slice none 0 0, .slice none 0 0, .slice none 0 0]) (blk_put (cs' := #[.int .i64 0, .int .i64 0, .int .i64 0, .int .i64 0, .string ⟨#[]⟩, .string ⟨#[]⟩, .string ⟨#[]⟩, .slice none 0 0, .slice none 0 0, .slice none 0 0]) (blk_put (cs' := #[.int .i64 0, .int .i64 0, .int .i64 0, .int .i64 0, .string ⟨#[]⟩, .string ⟨#[]⟩, .string ⟨#[]⟩, .slice none 0 0, .slice none 0 0, .slice none 0 0]) (blk_put (cs' := #[.int .i64 0, .int .i64 0, .int .i64 0, .int .i64 0, .string ⟨#[]⟩, .string ⟨#[]⟩, .string ⟨#[]⟩, .slice none 0 0, .slice none 0 0, .slice none 0 0]) HT10.out.hZ 0 (.int .i64 0) rfl) 1 (.int .i64 0) rfl) 2 (.int .i64 0) rfl) 3 (.int .i64 0) rfl) 4 (.string ⟨#[]⟩) rfl) 5 (.string ⟨#[]⟩) rfl) 6 (.string ⟨#[]⟩) rfl) 7 (.slice none 0 0) rfl) 8 (.slice none 0 0) rfl) 9 (.slice none 0 0) rfl)
          refine bodyPost_ret (results_ct rfl _ _ Z 36 _ (0, 0) _ rfl HE9 Try.underlying36 rfl (by kernel_rfl)) rfl ?_
          obtain ⟨rfl, rfl⟩ := Prod.mk.inj HS2.out
          exact ⟨.slice none 0 0, .slice none 0 0, .slice none 0 0, rfl, Kd.R_nil _ _ _ _ _, Kd.R_nil _ _ _ _ _, Kd.S_nil _ _ _ _ _, ((((((((((HT10.out.hB.setCell (p := ⟨Z, 0, none⟩) HT10.out.z1 (.int .i64 0)).setCell (p := ⟨Z, 1, none⟩) HT10.out.z1 (.int .i64 0)).setCell (p := ⟨Z, 2, none⟩) HT10.out.z1 (.int .i64 0)).setCell (p := ⟨Z, 3, none⟩) HT10.out.z1 (.int .i64 0)).setCell (p := ⟨Z, 4, none⟩) HT10.out.z1 (.string ⟨#[]⟩)).setCell (p := ⟨Z, 5, none⟩) HT10.out.z1 (.string ⟨#[]⟩)).setCell (p := ⟨Z, 6, none⟩) HT10.out.z1 (.string ⟨#[]⟩)).setCell (p := ⟨Z, 7, none⟩) HT10.out.z1 (.slice none 0 0)).setCell (p := ⟨Z, 8, none⟩) HT10.out.z1 (.slice none 0 0)).setCell (p := ⟨Z, 9, none⟩) HT10.out.z1 (.slice none 0 0))⟩
        · skip
          have HS2 := Aside0.mk (ite_yes HST2.out (.inr (.inl (by decide))))
          clear HST2
          have hz0 := blk_cell HT10.out.hZ 0
          have hf0 := blk_frozen HT10.out.hZ 0
          have hz1 := blk_cell HT10.out.hZ 1
          have hf1 := blk_frozen HT10.out.hZ 1
          have hz2 := blk_cell HT10.out.hZ 2
          have hf2 := blk_frozen HT10.out.hZ 2
          have hz3 := blk_cell HT10.out.hZ 3
          have hf3 := blk_frozen HT10.out.hZ 3
          have hz4 := blk_cell HT10.out.hZ 4
          have hf4 := blk_frozen HT10.out.hZ 4
          have hz5 := blk_cell HT10.out.hZ 5
          have hf5 := blk_frozen HT10.out.hZ 5
          have hz6 := blk_cell HT10.out.hZ 6
          have hf6 := blk_frozen HT10.out.hZ 6
          have hz7 := blk_cell HT10.out.hZ 7
          have hf7 := blk_frozen HT10.out.hZ 7
          have hz8 := blk_cell HT10.out.hZ 8
          have hf8 := blk_frozen HT10.out.hZ 8
          have hz9 := blk_cell HT10.out.hZ 9
          have hf9 := blk_frozen HT10.out.hZ 9
          go_wp2_with fail
          have HE9 := (blk_put (cs' := #[.int .i64 0, .int .i64 0, .int .i64 0, .int .i64 0, .string ⟨#[]⟩, .string ⟨#[]⟩, .string ⟨#[]⟩, .slice none 0 0, .slice none 0 0, .slice none 0 0]) (blk_put (cs' := #[.int .i64 0, .int .i64 0, .int .i64 0, .int .i64 0, .string ⟨#[]⟩, .string ⟨#[]⟩, .string ⟨#[]⟩, .slice none 0 0, .slice none 0 0, .slice none 0 0]) (blk_put (cs' := #[.int .i64 0, .int .i64 0, .int .i64 0, .int .i64 0, .string ⟨#[]⟩, .string ⟨#[]⟩, .string ⟨#[]⟩, .slice none 0 0, .slice none 0 0, .slice none 0 0]) (blk_put (cs' := #[.int .i64 0, .int .i64 0, .int .i64 0, .int .i64 0, .string ⟨#[]⟩, .string ⟨#[]⟩, .string ⟨#[]⟩, .slice none 0 0, .slice none 0 0, .slice none 0 0]) (blk_put (cs' := #[.int .i64 0, .int .i64 0, .int .i64 0, .int .i64 0, .string ⟨#[]⟩, .string ⟨#[]⟩, .string ⟨#[]⟩, .slice none 0 0, .slice none 0 0, .slice none 0 0]) (blk_put (cs' := #[.int .i64 0, .int .i64 0, .int .i64 0, .int .i64 0, .string ⟨#[]⟩, .string ⟨#[]⟩, .string ⟨#[]⟩, .slice none 0 0, .slice none 0 0, .slice none 0 0]) (blk_put (cs' := #[.int .i64 0, .int .i64 0, .int .i64 0, .int .i64 0, .string ⟨#[]⟩, .string ⟨#[]⟩, .string ⟨#[]⟩, .slice none 0 0, .slice none 0 0, .slice none 0 0]) (blk_put (cs' := #[.int .i64 0, .int .i64 0, .int .i64 0, .int .i64 0, .string ⟨#[]⟩, .string ⟨#[]⟩, .string ⟨#[]⟩, .slice none 0 0, .slice none 0 0, .slice none 0 0]) (blk_put (cs' := #[.int .i64 0, .int .i64 0, .int .i64 0, .int .i64 0, .string ⟨#[]⟩, .string ⟨#[]⟩, .string ⟨#[]⟩, .slice none 0 0, .slice none 0 0, .slice none 0 0]) (blk_put (cs' := #[.int .i64 0, .int .i64 0, .int .i64 0, .int .i64 0, .string ⟨#[]⟩, .string ⟨#[]⟩, .string ⟨#[]⟩, .slice none 0 0, .slice none 0 0, .slice none 0 0]) HT10.out.hZ 0 (.int .i64 0) rfl) 1 (.int .i64 0) rfl) 2 (.int .i64 0) rfl) 3 (.int .i64 0) rfl) 4 (.string ⟨#[]⟩) rfl) 5 (.string ⟨#[]⟩) rfl) 6 (.string ⟨#[]⟩) rfl) 7 (.slice none 0 0) rfl) 8 (.slice none 0 0) rfl) 9 (.slice none 0 0) rfl)
          refine bodyPost_ret (results_ct rfl _ _ Z 36 _ (0, 0) _ rfl HE9 Try.underlying36 rfl (by kernel_rfl)) rfl ?_
          obtain ⟨rfl, rfl⟩ := Prod.mk.inj HS2.out
          exact ⟨.slice none 0 0, .slice none 0 0, .slice none 0 0, rfl, Kd.R_nil _ _ _ _ _, Kd.R_nil _ _ _ _ _, Kd.S_nil _ _ _ _ _, ((((((((((HT10.out.hB.setCell (p := ⟨Z, 0, none⟩) HT10.out.z1 (.int .i64 0)).setCell (p := ⟨Z, 1, none⟩) HT10.out.z1 (.int .i64 0)).setCell (p := ⟨Z, 2, none⟩) HT10.out.z1 (.int .i64 0)).setCell (p := ⟨Z, 3, none⟩) HT10.out.z1 (.int .i64 0)).setCell (p := ⟨Z, 4, none⟩) HT10.out.z1 (.string ⟨#[]⟩)).setCell (p := ⟨Z, 5, none⟩) HT10.out.z1 (.string ⟨#[]⟩)).setCell (p := ⟨Z, 6, none⟩) HT10.out.z1 (.string ⟨#[]⟩)).setCell (p := ⟨Z, 7, none⟩) HT10.out.z1 (.slice none 0 0)).setCell (p := ⟨Z, 8, none⟩) HT10.out.z1 (.slice none 0 0)).setCell (p := ⟨Z, 9, none⟩) HT10.out.z1 (.slice none 0 0))⟩
        · skip
          have HS2 := Aside0.mk (ite_yes HST2.out (.inr (.inl (by decide))))
          clear HST2
          have hz0 := blk_cell HT10.out.hZ 0
          have hf0 := blk_frozen HT10.out.hZ 0
          have hz1 := blk_cell HT10.out.hZ 1
          have hf1 := blk_frozen HT10.out.hZ 1
          have hz2 := blk_cell HT10.out.hZ 2
          have hf2 := blk_frozen HT10.out.hZ 2
          have hz3 := blk_cell HT10.out.hZ 3
          have hf3 := blk_frozen HT10.out.hZ 3
          have hz4 := blk_cell HT10.out.hZ 4
          have hf4 := blk_frozen HT10.out.hZ 4
          have hz5 := blk_cell HT10.out.hZ 5
          have hf5 := blk_frozen HT10.out.hZ 5
          have hz6 := blk_cell HT10.out.hZ 6
          have hf6 := blk_frozen HT10.out.hZ 6
          have hz7 := blk_cell HT10.out.hZ 7
          have hf7 := blk_frozen HT10.out.hZ 7
          have hz8 := blk_cell HT10.out.hZ 8
          have hf8 := blk_frozen HT10.out.hZ 8
          have hz9 := blk_cell HT10.out.hZ 9
          have hf9 := blk_frozen HT10.out.hZ 9
          go_wp2_with fail
          have HE9 := (blk_put (cs' := #[.int .i64 0, .int .i64 0, .int .i64 0, .int .i64 0, .string ⟨#[]⟩, .string ⟨#[]⟩, .string ⟨#[]⟩, .slice none 0 0, .slice none 0 0, .slice none 0 0]) (blk_put (cs' := #[.int .i64 0, .int .i64 0, .int .i64 0, .int .i64 0, .string ⟨#[]⟩, .string ⟨#[]⟩, .string ⟨#[]⟩, .slice none 0 0, .slice none 0 0, .slice none 0 0]) (blk_put (cs' := #[.int .i64 0, .int .i64 0, .int .i64 0, .int .i64 0, .string ⟨#[]⟩, .string ⟨#[]⟩, .string ⟨#[]⟩, .slice none 0 0, .slice none 0 0, .slice none 0 0]) (blk_put (cs' := #[.int .i64 0, .int .i64 0, .int .i64 0, .int .i64 0, .string ⟨#[]⟩, .string ⟨#[]⟩, .string ⟨#[]⟩, .slice none 0 0, .slice none 0 0, .slice none 0 0]) (blk_put (cs' := #[.int .i64 0, .int .i64 0, .int .i64 0, .int .i64 0, .string ⟨#[]⟩, .string ⟨#[]⟩, .string ⟨#[]⟩, .slice none 0 0, .slice none 0 0, .slice none 0 0]) (blk_put (cs' := #[.int .i64 0, .int .i64 0, .int .i64 0, .int .i64 0, .string ⟨#[]⟩, .string ⟨#[]⟩, .string ⟨#[]⟩, .slice none 0 0, .slice none 0 0, .slice none 0 0]) (blk_put (cs' := #[.int .i64 0, .int .i64 0, .int .i64 0, .int .i64 0, .string ⟨#[]⟩, .string ⟨#[]⟩, .string ⟨#[]⟩, .slice none 0 0, .slice none 0 0, .slice none 0 0]) (blk_put (cs' := #[.int .i64 0, .int .i64 0, .int .i64 0, .int .i64 0, .string ⟨#[]⟩, .string ⟨#[]⟩, .string ⟨#[]⟩, .slice none 0 0, .slice none 0 0, .slice none 0 0]) (blk_put (cs' := #[.int .i64 0, .int .i64 0, .int .i64 0, .int .i64 0, .string ⟨#[]⟩, .string ⟨#[]⟩, .string ⟨#[]⟩, .slice none 0 0, .slice none 0 0, .slice none 0 0]) (blk_put (cs' := #[.int .i64 0, .int .i64 0, .int .i64 0, .int .i64 0, .string ⟨#[]⟩, .string ⟨#[]⟩, .string ⟨#[]⟩, .slice none 0 0, .slice none 0 0, .slice none 0 0]) HT10.out.hZ 0 (.int .i64 0) rfl) 1 (.int .i64 0) rfl) 2 (.int .i64 0) rfl) 3 (.int .i64 0) rfl) 4 (.string ⟨#[]⟩) rfl) 5 (.string ⟨#[]⟩) rfl) 6 (.string ⟨#[]⟩) rfl) 7 (.slice none 0 0) rfl) 8 (.slice none 0 0) rfl) 9 (.slice none 0 0) rfl)
          refine bodyPost_ret (results_ct rfl _ _ Z 36 _ (0, 0) _ rfl HE9 Try.underlying36 rfl (by kernel_rfl)) rfl ?_
          obtain ⟨rfl, rfl⟩ := Prod.mk.inj HS2.out
          exact ⟨.slice none 0 0, .slice none 0 0, .slice none 0 0, rfl, Kd.R_nil _ _ _ _ _, Kd.R_nil _ _ _ _ _, Kd.S_nil _ _ _ _ _, ((((((((((HT10.out.hB.setCell (p := ⟨Z, 0, none⟩) HT10.out.z1 (.int .i64 0)).setCell (p := ⟨Z, 1, none⟩) HT10.out.z1 (.int .i64 0)).setCell (p := ⟨Z, 2, none⟩) HT10.out.z1 (.int .i64 0)).setCell (p := ⟨Z, 3, none⟩) HT10.out.z1 (.int .i64 0)).setCell (p := ⟨Z, 4, none⟩) HT10.out.z1 (.string ⟨#[]⟩)).setCell (p := ⟨Z, 5, none⟩) HT10.out.z1 (.string ⟨#[]⟩)).setCell (p := ⟨Z, 6, none⟩) HT10.out.z1 (.string ⟨#[]⟩)).setCell (p := ⟨Z, 7, none⟩) HT10.out.z1 (.slice none 0 0)).setCell (p := ⟨Z, 8, none⟩) HT10.out.z1 (.slice none 0 0)).setCell (p := ⟨Z, 9, none⟩) HT10.out.z1 (.slice none 0 0))⟩
end Go.Proofs.Ytocpcnmnhckcpaa.Prt
namespace Go.Proofs.Ytocpcnmnhckcpaa.Prt
open Go.RowKit Go.Proofs.YtocpcnmnhckcpaaW.PrintWords Go.Proofs.YtocpcnmnhckcpaaW.PrintLast Go.Proofs.YtocpcnmnhckcpaaW.PrintMore Go.Proofs.Ytocpcnmnhckcpaa.Num Go.Proofs.Ytocpcnmnhckcpaa.Nam
set_option linter.unusedVariables false
set_option linter.unusedSimpArgs false
/-- Steps that may be printed without too much. -/
def FitP (l : List S36) : Prop := ∀ t ∈ l, FitS t ∧ t.f4.size ≤ 100000
theorem drop_rdS (l : List S36) (i : Nat) (h : i < l.length) : l.drop i = rd_T36 l (i : Int) :: l.drop (i + 1) := by
  rw [List.drop_eq_getElem_cons h]
  congr 1
  unfold rd_T36
  rw [Int.toNat_natCast, List.getD_eq_getElem?_getD, List.getElem?_eq_getElem h]; rfl
theorem rdS_mem {l : List S36} {i : Nat} (h : i < l.length) : rd_T36 l (i : Int) ∈ l := getD_mem' h _
theorem takeS_snoc (l : List S36) (i : Nat) (h : i < l.length) : l.take (i + 1) = l.take i ++ [rd_T36 l (i : Int)] := by
  rw [List.take_succ_eq_append_getElem h]
  congr 2
  unfold rd_T36
  rw [Int.toNat_natCast, List.getD_eq_getElem?_getD, List.getElem?_eq_getElem h]; rfl
theorem printL_snoc (a : List S36) (t : S36) : printL (a ++ [t]) = printL a ++ lineT t := by unfold printL; simp
theorem FitS.ok {t : S36} (h : FitS t) (h2 : (putS t).2 = 0) : OkS t := ⟨h.k0, h.k1, h.k2, h.k3, by have := h.k4; omega, (putS_inv h2).1, (putS_inv h2).2.1⟩
theorem printL_bound : ∀ (l : List S36), (∀ t ∈ l, OkS t ∧ t.f4.size ≤ 100000) → (printL l).length ≤ 206200 * l.length
  | [], _ => Nat.le_refl _
  | t :: m, h => by
    have h1 := printL_bound m (fun x hx => h x (by simp [hx]))
    have h2 := lineT_len t
    have h3 := encS_size (h t (by simp)).1
    have h4 := (h t (by simp)).2
    rw [show printL (t :: m) = lineT t ++ printL m from rfl, List.length_append, List.length_cons]
    omega
theorem firstS_yes {l : List S36} {i : Nat} (h : i < l.length) (h0 : (putS (rd_T36 l (i : Int))).2 = 0) : firstS (l.drop i) = firstS (l.drop (i + 1)) := by rw [drop_rdS l i h, firstS, if_pos h0]
theorem firstS_no {l : List S36} {i : Nat} (h : i < l.length) (h0 : (putS (rd_T36 l (i : Int))).2 ≠ 0) : firstS (l.drop i) = (putS (rd_T36 l (i : Int))).2 := by rw [drop_rdS l i h, firstS, if_neg h0]
theorem bytes_line (t : S36) : bytesOf (strOfNums (hexL (encS t)) ++ (⟨#[10]⟩ : ByteArray)) = lineT t := by
  have e : strOfNums (hexL (encS t)) ++ (⟨#[10]⟩ : ByteArray) = strOfNums (lineT t) := by
    unfold lineT
    rw [str_append]; rfl
  rw [e, bytesOf_strOfNums (lineT_bytes t)]
theorem Low.far {N B M : Nat} {a b c : World} (h : Low N B a b) (k : Below M b c) (hM : N ≤ M) : Low N B a c :=
  ⟨k.os.trans h.os, k.tape.trans h.tape, k.output.trans h.output, Nat.le_trans h.size k.size, fun i hi hb => (k.block i (by omega)).trans (h.block i hi hb)⟩
theorem Bld.far {N B T t : Nat} {l : List Int} {cells : Array Value} {w w' : World} (h : Bld N B l w) (hb : w.heap[T]? = some (.cells cells t (0, 0))) (ht : ∀ q, q ∈ 5 :: (Kd.int .u8).E → q ≠ t) (hk : KeepBut w w' T none) (hT : N ≤ T) : Bld N B l w' := by
  obtain ⟨p, v, h1, h2, h3, h4, h5⟩ := h
  exact ⟨p, v, hk.blk h1 (by omega) (by simp), h2, R_turnT h3 hb ht hk, h4, Nat.le_trans h5 hk.1⟩
set_option maxRecDepth 100000 in
set_option maxHeartbeats 4000000 in
theorem print_calls22 (A : Option Addr) (c : Nat) (l : List S36) (w : World) (hC : Kd.C k36 w A l.length l) (hc : l.length ≤ c) (hf : FitP l) (r : List Int) (re : Int) (h : printS l = (r, re)) :
    Calls Try.prog 9 #[.slice A l.length c] w fun e w' => e = .returned (.tuple #[.string (strOfNums r), .int .i64 re]) ∧ Below w.heap.size w w' := by
  have hmx := Kd.C_max hC
  have HC := Aside0.mk hC
  have HF := Aside0.mk hf
  have HH := Aside0.mk h
  clear hC hc hf h
  have hu36 := Try.underlying36
  have hu := Try.underlying50
  by_cases hbig : 2048 < l.length
  · have hd : decide ((2048 : Int) < (l.length : Int)) = true := decide_eq_true (by omega)
    have HR := HH.out
    unfold printS at HR
    rw [if_pos hbig] at HR
    obtain ⟨rfl, rfl⟩ := Prod.mk.inj HR
    clear HR HH HC HF
    go_enter Try.func9, Try.ntmps9
    go_wp2
    go_ret2
    exact ⟨rfl, Below.refl _ _⟩
  have hd : decide ((2048 : Int) < (l.length : Int)) = false := decide_eq_false (by omega)
  have HS : Aside0 ((if firstS (l.drop 0) ≠ 0 then ([], firstS (l.drop 0)) else (printL l, (0 : Int))) = (r, re)) := ⟨by rw [← HH.out]; unfold printS; rw [if_neg hbig]; rfl⟩
  clear HH
  go_enter Try.func9, Try.ntmps9
  go_upto_region 5 with (first | ((with_reducible refine gate_dst (N := 4) rfl ?_); (try (refine gate_guard (by rfl) ?_; dsimp only)); refine box_event ?hg (N := 4) ?hd (cs := #[.pointer none, .slice none 0 0]) (t := 50) ?hr ?_; (case hd => rfl); (case hg => rfl); (case hr => first | (go_simp; done) | (go_simp; rfl)); intro B hg_ w1 hbox_ hb_; have HX := Aside0.mk hbox_; have HXN := Aside0.mk hg_; have HXB := Aside0.mk hb_; clear hbox_ hg_ hb_))
  obtain ⟨N, hN⟩ : ∃ N, N = w1.heap.size := ⟨_, rfl⟩
  have HB1 := Aside0.mk (Bld.start HX.out hN)
  have HNB := Aside0.mk (show w.heap.size ≤ N ∧ w.heap.size ≤ B ∧ B < N by have := HXN.out; have := HXB.out.size; have := blk_lt HX.out; omega)
  clear HX hN HXN
  go_loopg [14] l.length (fun gk v14 w' => ∃ i : Nat, v14 = .int .i64 (i : Int) ∧ Aside0 (i + gk = l.length) ∧ Aside0 ((if firstS (l.drop i) ≠ 0 then ([], firstS (l.drop i)) else (printL l, (0 : Int))) = (r, re)) ∧ Aside0 (∀ t ∈ l.take i, OkS t ∧ t.f4.size ≤ 100000) ∧ Aside0 (Bld N B (printL (l.take i)) w') ∧ Aside0 (Low N B w1 w'))
  case atStart => exact ⟨0, rfl, ⟨by omega⟩, HS, ⟨fun t ht => by simp at ht⟩, HB1, ⟨Low.refl⟩⟩
  case round =>
    clear HB1 HS
    obtain ⟨i, rfl, HE, HS, HOK, HB, HL⟩ := hrel
    have HBW := Aside0.mk (HXB.out.trans (HL.out.below HNB.out.1 HNB.out.2.1))
    have hil : i ≤ l.length := by have := HE.out; omega
    have hpl := printL_bound _ HOK.out
    rw [List.length_take] at hpl
    by_cases hlt : i < l.length
    · have hb1 : decide ((i : Int) < (l.length : Int)) = true := decide_eq_true (by omega)
      obtain ⟨ad, A7, c7, A8, c8, A9, c9, e_, hx0, hx1, hx2, hx3, hx4, hx5, hx6, hx7, hx8, hx9, l7, g7, l8, g8, l9, g9⟩ := at_T36 (Kd.C_below HC.out HBW.out) (i : Int) (by omega) (by omega)
      cases e_
      rw [Int.toNat_natCast] at hx0 hx1 hx2 hx3 hx4 hx5 hx6 hx7 hx8 hx9
      have hsn := takeS_snoc l i hlt
      have hfit := HF.out _ (rdS_mem hlt)
      have hy := firstS_yes (l := l) hlt
      have hn := firstS_no (l := l) hlt
      obtain ⟨t, ht⟩ : ∃ t, t = rd_T36 l (i : Int) := ⟨_, rfl⟩
      rw [← ht] at hx0 hx1 hx2 hx3 hx4 hx5 hx6 hx7 hx8 hx9 l7 g7 l8 g8 l9 g9 hsn hfit hy hn
      have HSC := Aside0.mk (StC.mk (w := wr) (t := t) g7 l7 g8 l8 g9 l9)
      have HSN := Aside0.mk hsn
      have HFT := Aside0.mk hfit
      have HY := Aside0.mk hy
      have HNO := Aside0.mk hn
      have hib : (i : Int) * 10 ≤ 20480 := by omega
      clear ht hsn hfit hy hn g7 l7 g8 l8 g9 l9
      go_upto_region 7 with (first | ((with_reducible refine gate_dst (N := 6) rfl ?_); (try (refine gate_guard (by rfl) ?_; dsimp only)); refine box_event ?hg (N := 6) ?hd (cs := #[.int .i64 0, .int .i64 0, .int .i64 0, .int .i64 0, .string ⟨#[]⟩, .string ⟨#[]⟩, .string ⟨#[]⟩, .slice none 0 0, .slice none 0 0, .slice none 0 0]) (t := 36) ?hr ?_; (case hd => rfl); (case hg => rfl); (case hr => first | (go_simp; done) | (go_simp; rfl)); intro T hg_ w3 hbox_ hb_; have HX := Aside0.mk hbox_; have HXN := Aside0.mk hg_; have HXB3 := Aside0.mk hb_; clear hbox_ hg_ hb_; have hz0 := blk_cell HX.out 0; have hf0 := blk_frozen HX.out 0; have hz1 := blk_cell HX.out 1; have hf1 := blk_frozen HX.out 1; have hz2 := blk_cell HX.out 2; have hf2 := blk_frozen HX.out 2; have hz3 := blk_cell HX.out 3; have hf3 := blk_frozen HX.out 3; have hz4 := blk_cell HX.out 4; have hf4 := blk_frozen HX.out 4; have hz5 := blk_cell HX.out 5; have hf5 := blk_frozen HX.out 5; have hz6 := blk_cell HX.out 6; have hf6 := blk_frozen HX.out 6; have hz7 := blk_cell HX.out 7; have hf7 := blk_frozen HX.out 7; have hz8 := blk_cell HX.out 8; have hf8 := blk_frozen HX.out 8; have hz9 := blk_cell HX.out 9; have hf9 := blk_frozen HX.out 9))
      have HTW := Aside0.mk (show wr.heap.size ≤ T ∧ N ≤ T by
        have h1 := HXN.out
        obtain ⟨_, _, _, _, _, _, h2⟩ := HB.out
        omega)
      have n0_ := Aside0.mk (((((((((((Below.refl T w3).setCell (p := ⟨T, 0, none⟩) (Nat.le_refl T) (.int .i64 t.f0)).setCell (p := ⟨T, 1, none⟩) (Nat.le_refl T) (.int .i64 t.f1)).setCell (p := ⟨T, 2, none⟩) (Nat.le_refl T) (.int .i64 t.f2)).setCell (p := ⟨T, 3, none⟩) (Nat.le_refl T) (.int .i64 t.f3)).setCell (p := ⟨T, 4, none⟩) (Nat.le_refl T) (.string t.f4)).setCell (p := ⟨T, 5, none⟩) (Nat.le_refl T) (.string t.f5.f0)).setCell (p := ⟨T, 6, none⟩) (Nat.le_refl T) (.string t.f5.f1)).setCell (p := ⟨T, 7, none⟩) (Nat.le_refl T) (.slice A7 t.f5.f2.length c7)).setCell (p := ⟨T, 8, none⟩) (Nat.le_refl T) (.slice A8 t.f5.f3.length c8)).setCell (p := ⟨T, 9, none⟩) (Nat.le_refl T) (.slice A9 t.f6.f0.length c9))
      have n1_ := Aside0.mk (blk_put (cs' := #[.int .i64 t.f0, .int .i64 t.f1, .int .i64 t.f2, .int .i64 t.f3, .string t.f4, .string t.f5.f0, .string t.f5.f1, .slice A7 t.f5.f2.length c7, .slice A8 t.f5.f3.length c8, .slice A9 t.f6.f0.length c9]) (blk_put (cs' := #[.int .i64 t.f0, .int .i64 t.f1, .int .i64 t.f2, .int .i64 t.f3, .string t.f4, .string t.f5.f0, .string t.f5.f1, .slice A7 t.f5.f2.length c7, .slice A8 t.f5.f3.length c8, .slice none 0 0]) (blk_put (cs' := #[.int .i64 t.f0, .int .i64 t.f1, .int .i64 t.f2, .int .i64 t.f3, .string t.f4, .string t.f5.f0, .string t.f5.f1, .slice A7 t.f5.f2.length c7, .slice none 0 0, .slice none 0 0]) (blk_put (cs' := #[.int .i64 t.f0, .int .i64 t.f1, .int .i64 t.f2, .int .i64 t.f3, .string t.f4, .string t.f5.f0, .string t.f5.f1, .slice none 0 0, .slice none 0 0, .slice none 0 0]) (blk_put (cs' := #[.int .i64 t.f0, .int .i64 t.f1, .int .i64 t.f2, .int .i64 t.f3, .string t.f4, .string t.f5.f0, .string ⟨#[]⟩, .slice none 0 0, .slice none 0 0, .slice none 0 0]) (blk_put (cs' := #[.int .i64 t.f0, .int .i64 t.f1, .int .i64 t.f2, .int .i64 t.f3, .string t.f4, .string ⟨#[]⟩, .string ⟨#[]⟩, .slice none 0 0, .slice none 0 0, .slice none 0 0]) (blk_put (cs' := #[.int .i64 t.f0, .int .i64 t.f1, .int .i64 t.f2, .int .i64 t.f3, .string ⟨#[]⟩, .string ⟨#[]⟩, .string ⟨#[]⟩, .slice none 0 0, .slice none 0 0, .slice none 0 0]) (blk_put (cs' := #[.int .i64 t.f0, .int .i64 t.f1, .int .i64 t.f2, .int .i64 0, .string ⟨#[]⟩, .string ⟨#[]⟩, .string ⟨#[]⟩, .slice none 0 0, .slice none 0 0, .slice none 0 0]) (blk_put (cs' := #[.int .i64 t.f0, .int .i64 t.f1, .int .i64 0, .int .i64 0, .string ⟨#[]⟩, .string ⟨#[]⟩, .string ⟨#[]⟩, .slice none 0 0, .slice none 0 0, .slice none 0 0]) (blk_put (cs' := #[.int .i64 t.f0, .int .i64 0, .int .i64 0, .int .i64 0, .string ⟨#[]⟩, .string ⟨#[]⟩, .string ⟨#[]⟩, .slice none 0 0, .slice none 0 0, .slice none 0 0]) HX.out 0 (.int .i64 t.f0) rfl) 1 (.int .i64 t.f1) rfl) 2 (.int .i64 t.f2) rfl) 3 (.int .i64 t.f3) rfl) 4 (.string t.f4) rfl) 5 (.string t.f5.f0) rfl) 6 (.string t.f5.f1) rfl) 7 (.slice A7 t.f5.f2.length c7) rfl) 8 (.slice A8 t.f5.f3.length c8) rfl) 9 (.slice A9 t.f6.f0.length c9) rfl)
      have n2_ := Aside0.mk (((((((((((KeepBut.refl w3 T none).set_ 0 (.int .i64 t.f0)).set_ 1 (.int .i64 t.f1)).set_ 2 (.int .i64 t.f2)).set_ 3 (.int .i64 t.f3)).set_ 4 (.string t.f4)).set_ 5 (.string t.f5.f0)).set_ 6 (.string t.f5.f1)).set_ 7 (.slice A7 t.f5.f2.length c7)).set_ 8 (.slice A8 t.f5.f3.length c8)).set_ 9 (.slice A9 t.f6.f0.length c9))
      have n3_ := Aside0.mk ((((((((((HXB3.out.setCell (p := ⟨T, 0, none⟩) HTW.out.1 (.int .i64 t.f0)).setCell (p := ⟨T, 1, none⟩) HTW.out.1 (.int .i64 t.f1)).setCell (p := ⟨T, 2, none⟩) HTW.out.1 (.int .i64 t.f2)).setCell (p := ⟨T, 3, none⟩) HTW.out.1 (.int .i64 t.f3)).setCell (p := ⟨T, 4, none⟩) HTW.out.1 (.string t.f4)).setCell (p := ⟨T, 5, none⟩) HTW.out.1 (.string t.f5.f0)).setCell (p := ⟨T, 6, none⟩) HTW.out.1 (.string t.f5.f1)).setCell (p := ⟨T, 7, none⟩) HTW.out.1 (.slice A7 t.f5.f2.length c7)).setCell (p := ⟨T, 8, none⟩) HTW.out.1 (.slice A8 t.f5.f3.length c8)).setCell (p := ⟨T, 9, none⟩) HTW.out.1 (.slice A9 t.f6.f0.length c9))
      have HB3 := Aside0.mk (HB.out.up HXB3.out)
      have HX3 := HX
      obtain ⟨_, _, _, _, _, _, hNw⟩ := HB.out
      have HNW := Aside0.mk hNw
      clear HX HXN hNw hx0 hx1 hx2 hx3 hx4 hx5 hx6 hx7 hx8 hx9 hz0 hz1 hz2 hz3 hz4 hz5 hz6 hz7 hz8 hz9 hf0 hf1 hf2 hf3 hf4 hf5 hf6 hf7 hf8 hf9
      generalize ((((((((((w3.setCell ⟨T, 0, none⟩ (.int .i64 t.f0)).setCell ⟨T, 1, none⟩ (.int .i64 t.f1)).setCell ⟨T, 2, none⟩ (.int .i64 t.f2)).setCell ⟨T, 3, none⟩ (.int .i64 t.f3)).setCell ⟨T, 4, none⟩ (.string t.f4)).setCell ⟨T, 5, none⟩ (.string t.f5.f0)).setCell ⟨T, 6, none⟩ (.string t.f5.f1)).setCell ⟨T, 7, none⟩ (.slice A7 t.f5.f2.length c7)).setCell ⟨T, 8, none⟩ (.slice A8 t.f5.f3.length c8)).setCell ⟨T, 9, none⟩ (.slice A9 t.f6.f0.length c9)) = w4 at n0_ n1_ n2_ n3_ ⊢
      have HB4 := Aside0.mk (HB3.out.far HX3.out (by decide) n2_.out HTW.out.2)
      have HL4 := Aside0.mk ((HL.out.up HNW.out HXB3.out).far n0_.out HTW.out.2)
      obtain ⟨⟨p, pe⟩, hp⟩ : ∃ q, putS t = q := ⟨_, rfl⟩
      have HPT := Aside0.mk (put_calls22 t A7 c7 A8 c8 A9 c9 w4 ⟨Kd.C_below HSC.out.h7 n3_.out, HSC.out.l7, Kd.C_below HSC.out.h8 n3_.out, HSC.out.l8, Kd.C_below HSC.out.h9 n3_.out, HSC.out.l9⟩ HFT.out.1 p pe hp)
      unfold stV at HPT
      have HP := Aside0.mk hp
      clear hp HB HL HB3 HX3 HXB3 n0_ n2_ HBW HSC HNW n3_
      have hx0 := blk_cell n1_.out 0
      have hx1 := blk_cell n1_.out 1
      have hx2 := blk_cell n1_.out 2
      have hx3 := blk_cell n1_.out 3
      have hx4 := blk_cell n1_.out 4
      have hx5 := blk_cell n1_.out 5
      have hx6 := blk_cell n1_.out 6
      have hx7 := blk_cell n1_.out 7
      have hx8 := blk_cell n1_.out 8
      have hx9 := blk_cell n1_.out 9
      go_wp2_with fail
      refine HPT.out.mono ?_
      rintro e w5 ⟨v5, rfl, ho, hb⟩
      obtain ⟨A5, c5, e5⟩ := Kd.R_slice ho
      subst e5
      obtain ⟨-, hc5, hC5⟩ := Kd.R_reads' ho
      have HB5 := Aside0.mk (HB4.out.up hb)
      have hN4 : N ≤ w4.heap.size := by obtain ⟨_, _, _, _, _, _, h2⟩ := HB4.out; exact h2
      have HL5 := Aside0.mk (HL4.out.up hN4 hb)
      have hN5 : N ≤ w5.heap.size := by obtain ⟨_, _, _, _, _, _, h2⟩ := HB5.out; exact h2
      clear hx0 hx1 hx2 hx3 hx4 hx5 hx6 hx7 hx8 hx9 HPT HB4 HL4 ho hb n1_ hN4
      by_cases h0 : pe = 0
      · subst h0
        have hok : (putS t).2 = 0 := by rw [HP.out]
        have hpe : p = encS t := by have := (putS_inv hok).2.2; rw [HP.out] at this; exact (Prod.mk.inj this).1
        have HO := Aside0.mk (HFT.out.1.ok hok)
        have HS2 := HS.out
        rw [HY.out hok] at HS2
        have HS3 := Aside0.mk HS2
        subst hpe
        have hez := encS_size HO.out
        have hf4 := HFT.out.2
        have HW := Aside0.mk (written_calls A5 c5 (encS t) w5 hC5 hc5 (encS_bytes t) (by omega))
        have hst : ¬ 9223372036854775807 < (strOfNums (hexL (encS t))).size + 1 := by
          rw [← bytes_length, bytesOf_strOfNums (hexL_bytes (encS_bytes t)), hexL_len]; omega
        have hss : (strOfNums (hexL (encS t)) ++ (⟨#[10]⟩ : ByteArray)).size = 2 * (encS t).length + 1 := by
          rw [← bytes_length, bytes_line, lineT_len]
        clear hok HS2 HS hc5 hC5 HP HY HNO
        go_wp2_with fail
        refine HW.out.mono ?_
        rintro e w6 ⟨rfl, hb⟩
        have HB6 := Aside0.mk (HB5.out.up hb)
        have HL6 := Aside0.mk (HL5.out.up hN5 hb)
        have hN6 : N ≤ w6.heap.size := Nat.le_trans hN5 hb.size
        clear HW HB5 HL5 hb
        go_wp2_with fail
        refine (writeString_calls N B _ _ w6 (by rw [hss]; omega) HB6.out).mono ?_
        rintro e w7 ⟨⟨v7, rfl⟩, hb, hl⟩
        rw [bytes_line] at hb
        have HB7 : Aside0 (Bld N B (printL (l.take (i + 1))) w7) := ⟨by rw [HSN.out, printL_snoc]; exact hb⟩
        have HL7 := Aside0.mk (HL6.out.trans hl)
        have HOK2 : Aside0 (∀ t ∈ l.take (i + 1), OkS t ∧ t.f4.size ≤ 100000) := ⟨fun x hx => by
          rw [HSN.out] at hx
          rcases List.mem_append.1 hx with hx | hx
          · exact HOK.out x hx
          · rw [List.mem_singleton.1 hx]; exact ⟨HO.out, HFT.out.2⟩⟩
        clear HB6 HL6 hb hl hss hst
        go_wp2_with fail
        go_roundg (l.length - (i + 1))
        case measure => have := HE.out; omega
        case rel => exact ⟨i + 1, by go_num, ⟨by have := HE.out; omega⟩, HS3, HOK2, HB7, HL7⟩
      · have hbn : (pe != 0) = true := bne_iff_ne.mpr h0
        have HS2 := HS.out
        have hne : (putS t).2 ≠ 0 := by rw [HP.out]; exact h0
        rw [HNO.out hne, if_pos hne, HP.out] at HS2
        obtain ⟨rfl, rfl⟩ := Prod.mk.inj HS2
        have HBF := Aside0.mk (HXB.out.trans (HL5.out.below HNB.out.1 HNB.out.2.1))
        clear HS2 HS hne HP HNO HY hc5 hC5
        go_wp2_with fail
        go_ret2
        exact ⟨rfl, HBF.out⟩
    · have hb1 : decide ((i : Int) < (l.length : Int)) = false := decide_eq_false (by omega)
      have HS2 := HS.out
      rw [List.drop_eq_nil_of_le (by omega)] at HS2
      obtain ⟨rfl, rfl⟩ := Prod.mk.inj ((if_neg (by simp [firstS])).symm.trans HS2)
      have HB2 : Aside0 (Bld N B (printL l) wr) := ⟨by have := HB.out; rwa [List.take_of_length_le (by omega)] at this⟩
      clear HB HS HS2
      go_wp2_with fail
      refine (string_calls N B _ wr (printL_bytes l) HB2.out).mono ?_
      rintro e w2 ⟨rfl, hb2⟩
      have HB3 := Aside0.mk (HBW.out.trans (hb2.mono HNB.out.2.1))
      clear hb2
      go_wp2
      go_ret2
      exact ⟨rfl, HB3.out⟩
end Go.Proofs.Ytocpcnmnhckcpaa.Prt
namespace Go.Proofs.Ytocpcnmnhckcpaa.Prt
open Go.RowKit Go.Proofs.YtocpcnmnhckcpaaW.PrintWords Go.Proofs.YtocpcnmnhckcpaaW.PrintLast Go.Proofs.YtocpcnmnhckcpaaW.PrintMore Go.Proofs.Ytocpcnmnhckcpaa.Num Go.Proofs.Ytocpcnmnhckcpaa.Nam
set_option linter.unusedVariables false
set_option linter.unusedSimpArgs false

theorem drop_rdC (l : List S92) (i : Nat) (h : i < l.length) : l.drop i = rd_T92 l (i : Int) :: l.drop (i + 1) := by
  rw [List.drop_eq_getElem_cons h]
  unfold rd_T92
  rw [Int.toNat_natCast, List.getD_eq_getElem?_getD, List.getElem?_eq_getElem h]; rfl
theorem rdC_mem {l : List S92} {i : Nat} (h : i < l.length) : rd_T92 l (i : Int) ∈ l := getD_mem' h _
end Go.Proofs.Ytocpcnmnhckcpaa.Prt
namespace Go.Proofs.Ytocpcnmnhckcpaa.Prt
open Go.RowKit Go.Proofs.YtocpcnmnhckcpaaW.PrintWords Go.Proofs.YtocpcnmnhckcpaaW.PrintLast Go.Proofs.YtocpcnmnhckcpaaW.PrintMore
attribute [local go_sem] max2_int min2_int max_two min_two max_three min_three max_four min_four   -- for this text's walks alone
set_option linter.unusedVariables false
set_option linter.unusedSimpArgs false

def registrarref06_Same.l0 : Nat → Int → List (S92) → List (S92) → Option (Bool)
  | 0, _, _, _ => none
  | k + 1, x5, x164000, x165000 => if x5 < (x164000.length : Int) then (if 0 ≤ x5 then (if x5 < (x165000.length : Int) then ((registrarref04_TextsG.f ((rd_T92 x164000 x5).f0) ((rd_T92 x165000 x5).f0)).bind fun t167 => ((registrarref04_TextsG.f ((rd_T92 x164000 x5).f1) ((rd_T92 x165000 x5).f1)).bind fun t170 => (if t167 = true then (if t170 = true then (registrarref06_Same.l0 k (wrap64 (x5 + 1)) x164000 x165000) else (some false)) else (some false)))) else (none)) else (none)) else (some true)
def registrarref06_Same.f (k : Nat) (l0_0 : List (S92)) (l1_0 : List (S92)) : Option (Bool) := if (l0_0.length : Int) = (l1_0.length : Int) then (registrarref06_Same.l0 k 0 l0_0 l1_0) else (some false)
set_option maxHeartbeats 8000000 in
set_option maxRecDepth 100000 in
theorem registrarref06_Same.calls (k : Nat) (A0_0 : Option Addr) (c0_0 : Nat) (l0_0 : List (S92)) (A1_0 : Option Addr) (c1_0 : Nat) (l1_0 : List (S92)) (r : Bool) (w : World) (hr0_0 : Kd.C k92 w A0_0 l0_0.length l0_0) (hc0_0 : l0_0.length ≤ c0_0) (hr1_0 : Kd.C k92 w A1_0 l1_0.length l1_0) (hc1_0 : l1_0.length ≤ c1_0) (h : registrarref06_Same.f k l0_0 l1_0 = some r) :
    Calls Try.prog 21 #[.agg #[.slice A0_0 l0_0.length c0_0], .agg #[.slice A1_0 l1_0.length c1_0]] w fun e w' => e = .returned (.bool r) ∧ Below w.heap.size w w' := by
  have hu34 := Try.underlying34
  have HR0_0 := Aside0.mk hr0_0
  have HC0_0 := Aside0.mk hc0_0
  clear hr0_0 hc0_0
  have HR1_0 := Aside0.mk hr1_0
  have HC1_0 := Aside0.mk hc1_0
  clear hr1_0 hc1_0
  have HB := Aside0.mk (Below.refl w.heap.size w)
  have H : (if (l0_0.length : Int) = (l1_0.length : Int) then (registrarref06_Same.l0 k 0 l0_0 l1_0) else (some false)) = some r := h
  clear h
  by_cases c3 : (l0_0.length : Int) = (l1_0.length : Int)
  · rw [if_pos c3] at H
    have c3b0 : ((l0_0.length : Int) == (l1_0.length : Int)) = true := beq_iff_eq.mpr c3
    have c3b1 : ((l0_0.length : Int) != (l1_0.length : Int)) = false := bne_eq_false_iff_eq.mpr c3
    have c3b2 : (l0_0.length == l1_0.length) = true := by first | simpa using c3 | (simp at c3 ⊢; omega)
    clear c3
    have H' := Aside0.mk H
    clear H
    go_enter Try.func21, Try.ntmps21
    go_wp2_with (first | ((with_reducible refine gate_dst (N := 2) rfl ?_); refine box_event ?hg (N := 2) ?hd (cs := #[.slice A0_0 l0_0.length c0_0]) (t := 34) ?hr ?_; (case hd => rfl); (case hg => rfl); (case hr => first | (go_simp; done) | (go_simp; rfl)); intro gb163 hg w4 hbox hb; have n0_ := Aside0.mk (below_step (by repeat (first | (with_reducible first | exact HB.out | apply below_alloc | apply pw_below_drewN | apply below_drew1) | exact HB.out)) hb); have n1_ := Aside0.mk (hbox); have n2_ := Aside0.mk ((by rw [hg]; exact (below_size (by repeat (first | (with_reducible first | exact HB.out | apply below_alloc | apply pw_below_drewN | apply below_drew1) | exact HB.out))) : w.heap.size ≤ gb163)); have n3_ := Aside0.mk ((by rw [hg]; exact (below_size (by repeat (first | (with_reducible first | exact HB.out | apply below_alloc | apply pw_below_drewN | apply below_drew1) | exact HB.out))) : w.heap.size ≤ gb163)); clear HB; have HB := n0_; have BK163 := n1_; have GW163 := n2_; have GE163 := n3_; clear n0_ n1_ n2_ n3_; clear hb hbox hg) | ((with_reducible refine gate_dst (N := 3) rfl ?_); refine box_event ?hg (N := 3) ?hd (cs := #[.slice A1_0 l1_0.length c1_0]) (t := 34) ?hr ?_; (case hd => rfl); (case hg => rfl); (case hr => first | (go_simp; done) | (go_simp; rfl)); intro gb164 hg w5 hbox hb; have n0_ := Aside0.mk (blk_below (g := gb163) (o := .cells #[.slice A0_0 l0_0.length c0_0] 34 (0, 0)) (by (with_reducible repeat (first | refine blk_drewN ?_ _ | refine blk_drew ?_ | refine blk_alloc ?_ _)); exact BK163.out) hb); have n1_ := Aside0.mk (below_step (by repeat (first | (with_reducible first | exact HB.out | apply below_alloc | apply pw_below_drewN | apply below_drew1 | refine below_set ?_ GE163.out) | exact HB.out)) hb); have n2_ := Aside0.mk (hbox); have n3_ := Aside0.mk ((by rw [hg]; exact (below_size (by repeat (first | (with_reducible first | exact HB.out | apply below_alloc | apply pw_below_drewN | apply below_drew1 | refine below_set ?_ GE163.out) | exact HB.out))) : w.heap.size ≤ gb164)); have n4_ := Aside0.mk ((by rw [hg]; exact (below_size (by repeat (first | (with_reducible first | exact HB.out | apply below_alloc | apply pw_below_drewN | apply below_drew1 | refine below_set ?_ GE163.out) | exact HB.out))) : w.heap.size ≤ gb164)); have n5_ := Aside0.mk ((by rw [hg]; exact Nat.ne_of_lt (blk_lt (g := gb163) (o := .cells #[.slice A0_0 l0_0.length c0_0] 34 (0, 0)) (by (with_reducible repeat (first | refine blk_drewN ?_ _ | refine blk_drew ?_ | refine blk_alloc ?_ _)); exact BK163.out)) : gb163 ≠ gb164)); have n6_ := Aside0.mk ((by rw [hg]; exact Nat.ne_of_gt (blk_lt (g := gb163) (o := .cells #[.slice A0_0 l0_0.length c0_0] 34 (0, 0)) (by (with_reducible repeat (first | refine blk_drewN ?_ _ | refine blk_drew ?_ | refine blk_alloc ?_ _)); exact BK163.out)) : gb164 ≠ gb163)); clear BK163; clear HB; have BK163 := n0_; have HB := n1_; have BK164 := n2_; have GW164 := n3_; have GE164 := n4_; have NB163_164 := n5_; have NB164_163 := n6_; clear n0_ n1_ n2_ n3_ n4_ n5_ n6_; clear hb hbox hg; have hnb6 := NB163_164.out; have hnc6 := NB164_163.out; have hcz7_0 : w5.cell? ⟨gb163, 0, none⟩ = some (.slice A0_0 l0_0.length c0_0) := (blk_cell BK163.out 0).trans rfl; have hfz7_0 := blk_frozen BK163.out 0; have hcz8_0 : w5.cell? ⟨gb164, 0, none⟩ = some (.slice A1_0 l1_0.length c1_0) := (blk_cell BK164.out 0).trans rfl; have hfz8_0 := blk_frozen BK164.out 0))
    repeat (go_quiet (first | ((with_reducible refine gate_dst (N := 2) rfl ?_); refine box_event ?hg (N := 2) ?hd (cs := #[.slice A0_0 l0_0.length c0_0]) (t := 34) ?hr ?_; (case hd => rfl); (case hg => rfl); (case hr => first | (go_simp; done) | (go_simp; rfl)); intro gb163 hg w4 hbox hb; have n0_ := Aside0.mk (below_step (by repeat (first | (with_reducible first | exact HB.out | apply below_alloc | apply pw_below_drewN | apply below_drew1) | exact HB.out)) hb); have n1_ := Aside0.mk (hbox); have n2_ := Aside0.mk ((by rw [hg]; exact (below_size (by repeat (first | (with_reducible first | exact HB.out | apply below_alloc | apply pw_below_drewN | apply below_drew1) | exact HB.out))) : w.heap.size ≤ gb163)); have n3_ := Aside0.mk ((by rw [hg]; exact (below_size (by repeat (first | (with_reducible first | exact HB.out | apply below_alloc | apply pw_below_drewN | apply below_drew1) | exact HB.out))) : w.heap.size ≤ gb163)); clear HB; have HB := n0_; have BK163 := n1_; have GW163 := n2_; have GE163 := n3_; clear n0_ n1_ n2_ n3_; clear hb hbox hg) | ((with_reducible refine gate_dst (N := 3) rfl ?_); refine box_event ?hg (N := 3) ?hd (cs := #[.slice A1_0 l1_0.length c1_0]) (t := 34) ?hr ?_; (case hd => rfl); (case hg => rfl); (case hr => first | (go_simp; done) | (go_simp; rfl)); intro gb164 hg w5 hbox hb; have n0_ := Aside0.mk (blk_below (g := gb163) (o := .cells #[.slice A0_0 l0_0.length c0_0] 34 (0, 0)) (by (with_reducible repeat (first | refine blk_drewN ?_ _ | refine blk_drew ?_ | refine blk_alloc ?_ _)); exact BK163.out) hb); have n1_ := Aside0.mk (below_step (by repeat (first | (with_reducible first | exact HB.out | apply below_alloc | apply pw_below_drewN | apply below_drew1 | refine below_set ?_ GE163.out) | exact HB.out)) hb); have n2_ := Aside0.mk (hbox); have n3_ := Aside0.mk ((by rw [hg]; exact (below_size (by repeat (first | (with_reducible first | exact HB.out | apply below_alloc | apply pw_below_drewN | apply below_drew1 | refine below_set ?_ GE163.out) | exact HB.out))) : w.heap.size ≤ gb164)); have n4_ := Aside0.mk ((by rw [hg]; exact (below_size (by repeat (first | (with_reducible first | exact HB.out | apply below_alloc | apply pw_below_drewN | apply below_drew1 | refine below_set ?_ GE163.out) | exact HB.out))) : w.heap.size ≤ gb164)); have n5_ := Aside0.mk ((by rw [hg]; exact Nat.ne_of_lt (blk_lt (g := gb163) (o := .cells #[.slice A0_0 l0_0.length c0_0] 34 (0, 0)) (by (with_reducible repeat (first | refine blk_drewN ?_ _ | refine blk_drew ?_ | refine blk_alloc ?_ _)); exact BK163.out)) : gb163 ≠ gb164)); have n6_ := Aside0.mk ((by rw [hg]; exact Nat.ne_of_gt (blk_lt (g := gb163) (o := .cells #[.slice A0_0 l0_0.length c0_0] 34 (0, 0)) (by (with_reducible repeat (first | refine blk_drewN ?_ _ | refine blk_drew ?_ | refine blk_alloc ?_ _)); exact BK163.out)) : gb164 ≠ gb163)); clear BK163; clear HB; have BK163 := n0_; have HB := n1_; have BK164 := n2_; have GW164 := n3_; have GE164 := n4_; have NB163_164 := n5_; have NB164_163 := n6_; clear n0_ n1_ n2_ n3_ n4_ n5_ n6_; clear hb hbox hg; have hnb6 := NB163_164.out; have hnc6 := NB164_163.out; have hcz7_0 : w5.cell? ⟨gb163, 0, none⟩ = some (.slice A0_0 l0_0.length c0_0) := (blk_cell BK163.out 0).trans rfl; have hfz7_0 := blk_frozen BK163.out 0; have hcz8_0 : w5.cell? ⟨gb164, 0, none⟩ = some (.slice A1_0 l1_0.length c1_0) := (blk_cell BK164.out 0).trans rfl; have hfz8_0 := blk_frozen BK164.out 0)); try go_wp2_with (first | ((with_reducible refine gate_dst (N := 2) rfl ?_); refine box_event ?hg (N := 2) ?hd (cs := #[.slice A0_0 l0_0.length c0_0]) (t := 34) ?hr ?_; (case hd => rfl); (case hg => rfl); (case hr => first | (go_simp; done) | (go_simp; rfl)); intro gb163 hg w4 hbox hb; have n0_ := Aside0.mk (below_step (by repeat (first | (with_reducible first | exact HB.out | apply below_alloc | apply pw_below_drewN | apply below_drew1) | exact HB.out)) hb); have n1_ := Aside0.mk (hbox); have n2_ := Aside0.mk ((by rw [hg]; exact (below_size (by repeat (first | (with_reducible first | exact HB.out | apply below_alloc | apply pw_below_drewN | apply below_drew1) | exact HB.out))) : w.heap.size ≤ gb163)); have n3_ := Aside0.mk ((by rw [hg]; exact (below_size (by repeat (first | (with_reducible first | exact HB.out | apply below_alloc | apply pw_below_drewN | apply below_drew1) | exact HB.out))) : w.heap.size ≤ gb163)); clear HB; have HB := n0_; have BK163 := n1_; have GW163 := n2_; have GE163 := n3_; clear n0_ n1_ n2_ n3_; clear hb hbox hg) | ((with_reducible refine gate_dst (N := 3) rfl ?_); refine box_event ?hg (N := 3) ?hd (cs := #[.slice A1_0 l1_0.length c1_0]) (t := 34) ?hr ?_; (case hd => rfl); (case hg => rfl); (case hr => first | (go_simp; done) | (go_simp; rfl)); intro gb164 hg w5 hbox hb; have n0_ := Aside0.mk (blk_below (g := gb163) (o := .cells #[.slice A0_0 l0_0.length c0_0] 34 (0, 0)) (by (with_reducible repeat (first | refine blk_drewN ?_ _ | refine blk_drew ?_ | refine blk_alloc ?_ _)); exact BK163.out) hb); have n1_ := Aside0.mk (below_step (by repeat (first | (with_reducible first | exact HB.out | apply below_alloc | apply pw_below_drewN | apply below_drew1 | refine below_set ?_ GE163.out) | exact HB.out)) hb); have n2_ := Aside0.mk (hbox); have n3_ := Aside0.mk ((by rw [hg]; exact (below_size (by repeat (first | (with_reducible first | exact HB.out | apply below_alloc | apply pw_below_drewN | apply below_drew1 | refine below_set ?_ GE163.out) | exact HB.out))) : w.heap.size ≤ gb164)); have n4_ := Aside0.mk ((by rw [hg]; exact (below_size (by repeat (first | (with_reducible first | exact HB.out | apply below_alloc | apply pw_below_drewN | apply below_drew1 | refine below_set ?_ GE163.out) | exact HB.out))) : w.heap.size ≤ gb164)); have n5_ := Aside0.mk ((by rw [hg]; exact Nat.ne_of_lt (blk_lt (g := gb163) (o := .cells #[.slice A0_0 l0_0.length c0_0] 34 (0, 0)) (by (with_reducible repeat (first | refine blk_drewN ?_ _ | refine blk_drew ?_ | refine blk_alloc ?_ _)); exact BK163.out)) : gb163 ≠ gb164)); have n6_ := Aside0.mk ((by rw [hg]; exact Nat.ne_of_gt (blk_lt (g := gb163) (o := .cells #[.slice A0_0 l0_0.length c0_0] 34 (0, 0)) (by (with_reducible repeat (first | refine blk_drewN ?_ _ | refine blk_drew ?_ | refine blk_alloc ?_ _)); exact BK163.out)) : gb164 ≠ gb163)); clear BK163; clear HB; have BK163 := n0_; have HB := n1_; have BK164 := n2_; have GW164 := n3_; have GE164 := n4_; have NB163_164 := n5_; have NB164_163 := n6_; clear n0_ n1_ n2_ n3_ n4_ n5_ n6_; clear hb hbox hg; have hnb6 := NB163_164.out; have hnc6 := NB164_163.out; have hcz7_0 : w5.cell? ⟨gb163, 0, none⟩ = some (.slice A0_0 l0_0.length c0_0) := (blk_cell BK163.out 0).trans rfl; have hfz7_0 := blk_frozen BK163.out 0; have hcz8_0 : w5.cell? ⟨gb164, 0, none⟩ = some (.slice A1_0 l1_0.length c1_0) := (blk_cell BK164.out 0).trans rfl; have hfz8_0 := blk_frozen BK164.out 0)))
    go_loopg [5] k (fun kq v5 w' => ∃ (x5_1 : Int), v5 = .int .i64 x5_1 ∧ Aside0 (registrarref06_Same.l0 kq x5_1 l0_0 l1_0 = some r) ∧ Aside0 (kq ≤ k) ∧ Aside0 (w'.heap[gb163]? = some (.cells #[(.slice A0_0 l0_0.length c0_0)] 34 (0, 0))) ∧ Aside0 (w'.heap[gb164]? = some (.cells #[(.slice A1_0 l1_0.length c1_0)] 34 (0, 0))) ∧ Aside0 (Below w.heap.size w w'))
    case atStart => exact ⟨(0), (by first | rfl | (simp; done) | (simp [*]; done)), H', ⟨Nat.le_refl _⟩, ⟨by (with_reducible repeat (first | refine blk_drewN ?_ _ | refine blk_drew ?_ | refine blk_alloc ?_ _)); exact BK163.out⟩, ⟨by (with_reducible repeat (first | refine blk_drewN ?_ _ | refine blk_drew ?_ | refine blk_alloc ?_ _)); exact BK164.out⟩, ⟨by repeat (first | (with_reducible first | exact HB.out | apply below_alloc | apply pw_below_drewN | apply below_drew1 | refine below_set ?_ GE163.out | refine below_set ?_ GE164.out) | exact HB.out)⟩⟩
    case round =>
      clear H'
      try clear c1
      try clear c2
      try clear p2
      try clear c3
      try clear c3b0
      try clear c3b1
      try clear c3b2
      try clear c6
      try clear hcz7_0
      try clear hcz8_0
      try clear hfz7_0
      try clear hfz8_0
      obtain ⟨x5_1, rfl, HA, HK1, BK163, BK164, HB⟩ := hrel
      cases gk with
      | zero => exact absurd HA.out (by simp [registrarref06_Same.l0])
      | succ k1 =>
        have H := HA.out
        clear HA
        simp only [registrarref06_Same.l0] at H
        by_cases c9 : x5_1 < (l0_0.length : Int)
        · rw [if_pos c9] at H
          have c9b0 : decide (x5_1 < (l0_0.length : Int)) = true := decide_eq_true c9
          clear c9
          by_cases c10 : 0 ≤ x5_1
          · rw [if_pos c10] at H
            have c10b0 : decide (0 ≤ x5_1) = true := decide_eq_true c10
            clear c10
            by_cases c11 : x5_1 < (l1_0.length : Int)
            · rw [if_pos c11] at H
              have c11b0 : decide (x5_1 < (l1_0.length : Int)) = true := decide_eq_true c11
              clear c11
              replace H := Option.bind_eq_some_iff.mp H
              obtain ⟨t167, A120, H⟩ := H
              replace H : ((registrarref04_TextsG.f ((rd_T92 l0_0 x5_1).f1) ((rd_T92 l1_0 x5_1).f1)).bind fun t170 => (if t167 = true then (if t170 = true then (registrarref06_Same.l0 k1 (wrap64 (x5_1 + 1)) l0_0 l1_0) else (some false)) else (some false))) = some r := H
              have A12 := Aside0.mk A120
              clear A120
              replace H := Option.bind_eq_some_iff.mp H
              obtain ⟨t170, A130, H⟩ := H
              replace H : (if t167 = true then (if t170 = true then (registrarref06_Same.l0 k1 (wrap64 (x5_1 + 1)) l0_0 l1_0) else (some false)) else (some false)) = some r := H
              have A13 := Aside0.mk A130
              clear A130
              by_cases c14 : t167 = true
              · subst c14
                have H1 : (if t170 = true then (registrarref06_Same.l0 k1 (wrap64 (x5_1 + 1)) l0_0 l1_0) else (some false)) = some r := by rw [if_pos rfl] at H; exact H
                clear H
                have H := H1
                clear H1
                by_cases c15 : t170 = true
                · subst c15
                  have H1 : (registrarref06_Same.l0 k1 (wrap64 (x5_1 + 1)) l0_0 l1_0) = some r := by rw [if_pos rfl] at H; exact H
                  clear H
                  have H := H1
                  clear H1
                  have H' := Aside0.mk H
                  clear H
                  have hnb16 := NB163_164.out
                  have hnc16 := NB164_163.out
                  have hcz17_0 : wr.cell? ⟨gb163, 0, none⟩ = some (.slice A0_0 l0_0.length c0_0) := (blk_cell BK163.out 0).trans rfl
                  have hfz17_0 := blk_frozen BK163.out 0
                  have p165 : 0 ≤ (x5_1 : Int) := of_decide_eq_true (by first | (with_reducible assumption) | assumption)
                  have q165 : x5_1 < (l0_0.length : Int) := of_decide_eq_true (by first | (with_reducible assumption) | assumption)
                  obtain ⟨ad165, A165_0, c165_0, A165_1, c165_1, e165, hx165_0, hx165_1, hl165_0, hi165_0, hl165_1, hi165_1⟩ := at_T92 HR0_0.out x5_1 p165 q165
                  cases e165
                  replace hx165_0 := (HB.out.cell (World.block_lt_of_cell? w _ hx165_0)).trans hx165_0
                  replace hx165_1 := (HB.out.cell (World.block_lt_of_cell? w _ hx165_1)).trans hx165_1
                  have HR165_0 := Aside0.mk hi165_0
                  have HC165_0 := Aside0.mk hl165_0
                  clear hi165_0 hl165_0
                  have HR165_1 := Aside0.mk hi165_1
                  have HC165_1 := Aside0.mk hl165_1
                  clear hi165_1 hl165_1
                  replace p165 := eq_true p165
                  replace q165 := eq_true q165
                  have hcz18_0 : wr.cell? ⟨gb164, 0, none⟩ = some (.slice A1_0 l1_0.length c1_0) := (blk_cell BK164.out 0).trans rfl
                  have hfz18_0 := blk_frozen BK164.out 0
                  have p166 : 0 ≤ (x5_1 : Int) := of_decide_eq_true (by first | (with_reducible assumption) | assumption)
                  have q166 : x5_1 < (l1_0.length : Int) := of_decide_eq_true (by first | (with_reducible assumption) | assumption)
                  obtain ⟨ad166, A166_0, c166_0, A166_1, c166_1, e166, hx166_0, hx166_1, hl166_0, hi166_0, hl166_1, hi166_1⟩ := at_T92 HR1_0.out x5_1 p166 q166
                  cases e166
                  replace hx166_0 := (HB.out.cell (World.block_lt_of_cell? w _ hx166_0)).trans hx166_0
                  replace hx166_1 := (HB.out.cell (World.block_lt_of_cell? w _ hx166_1)).trans hx166_1
                  have HR166_0 := Aside0.mk hi166_0
                  have HC166_0 := Aside0.mk hl166_0
                  clear hi166_0 hl166_0
                  have HR166_1 := Aside0.mk hi166_1
                  have HC166_1 := Aside0.mk hl166_1
                  clear hi166_1 hl166_1
                  replace p166 := eq_true p166
                  replace q166 := eq_true q166
                  go_wp2_with (first | (go_at_call 44; (with_reducible refine (registrarref04_TextsG.calls _ _ ((rd_T92 l0_0 x5_1).f0) _ _ ((rd_T92 l1_0 x5_1).f0) true _ ?side1 ?side2 ?side3 ?side4 A12.out).mono ?_); (case side1 => repeat (first | exact (Kd.C_below HR165_0.out HB.out) | (with_reducible refine Kd.C_alloc ?_ _) | (with_reducible refine Kd.C_drewN ?_ _) | (with_reducible refine Kd.C_drew ?_))); (case side2 => exact HC165_0.out); (case side3 => repeat (first | exact (Kd.C_below HR166_0.out HB.out) | (with_reducible refine Kd.C_alloc ?_ _) | (with_reducible refine Kd.C_drewN ?_ _) | (with_reducible refine Kd.C_drew ?_))); (case side4 => exact HC166_0.out); rintro e w' ⟨rfl, ⟨nd, rfl⟩⟩; (try first | exact ⟨rfl, _, World.drewN_drewN _ _ _⟩ | exact ⟨rfl, _, Eq.trans (World.drewN_drewN _ _ _) (congrArg (World.drewN _) (Nat.add_assoc _ _ _))⟩); have p168 : 0 ≤ (x5_1 : Int) := of_decide_eq_true (by first | (with_reducible assumption) | assumption); have q168 : x5_1 < (l0_0.length : Int) := of_decide_eq_true (by first | (with_reducible assumption) | assumption); obtain ⟨ad168, A168_0, c168_0, A168_1, c168_1, e168, hx168_0, hx168_1, hl168_0, hi168_0, hl168_1, hi168_1⟩ := at_T92 HR0_0.out x5_1 p168 q168; obtain rfl : ad165 = ad168 := (by injection e168); replace hx168_0 := (HB.out.cell (World.block_lt_of_cell? w _ hx168_0)).trans hx168_0; replace hx168_1 := (HB.out.cell (World.block_lt_of_cell? w _ hx168_1)).trans hx168_1; have HR168_0 := Aside0.mk hi168_0; have HC168_0 := Aside0.mk hl168_0; clear hi168_0 hl168_0; have HR168_1 := Aside0.mk hi168_1; have HC168_1 := Aside0.mk hl168_1; clear hi168_1 hl168_1; replace p168 := eq_true p168; replace q168 := eq_true q168; have ea_ := Option.some.inj (hx165_0.symm.trans hx168_0); injection ea_ with ea_ en_ ec_; subst ea_; subst ec_; clear en_; have ea_ := Option.some.inj (hx165_1.symm.trans hx168_1); injection ea_ with ea_ en_ ec_; subst ea_; subst ec_; clear en_; have p169 : 0 ≤ (x5_1 : Int) := of_decide_eq_true (by first | (with_reducible assumption) | assumption); have q169 : x5_1 < (l1_0.length : Int) := of_decide_eq_true (by first | (with_reducible assumption) | assumption); obtain ⟨ad169, A169_0, c169_0, A169_1, c169_1, e169, hx169_0, hx169_1, hl169_0, hi169_0, hl169_1, hi169_1⟩ := at_T92 HR1_0.out x5_1 p169 q169; obtain rfl : ad166 = ad169 := (by injection e169); replace hx169_0 := (HB.out.cell (World.block_lt_of_cell? w _ hx169_0)).trans hx169_0; replace hx169_1 := (HB.out.cell (World.block_lt_of_cell? w _ hx169_1)).trans hx169_1; have HR169_0 := Aside0.mk hi169_0; have HC169_0 := Aside0.mk hl169_0; clear hi169_0 hl169_0; have HR169_1 := Aside0.mk hi169_1; have HC169_1 := Aside0.mk hl169_1; clear hi169_1 hl169_1; replace p169 := eq_true p169; replace q169 := eq_true q169; have ea_ := Option.some.inj (hx166_0.symm.trans hx169_0); injection ea_ with ea_ en_ ec_; subst ea_; subst ec_; clear en_; have ea_ := Option.some.inj (hx166_1.symm.trans hx169_1); injection ea_ with ea_ en_ ec_; subst ea_; subst ec_; clear en_) | (go_at_call 44; (with_reducible refine (registrarref04_TextsG.calls _ _ ((rd_T92 l0_0 x5_1).f1) _ _ ((rd_T92 l1_0 x5_1).f1) true _ ?side1 ?side2 ?side3 ?side4 A13.out).mono ?_); (case side1 => repeat (first | exact (Kd.C_below HR168_1.out (by repeat (first | (with_reducible first | exact HB.out | apply below_alloc | apply pw_below_drewN | apply below_drew1 | refine below_set ?_ GE163.out | refine below_set ?_ GE164.out) | exact HB.out))) | (with_reducible refine Kd.C_alloc ?_ _) | (with_reducible refine Kd.C_drewN ?_ _) | (with_reducible refine Kd.C_drew ?_))); (case side2 => exact HC168_1.out); (case side3 => repeat (first | exact (Kd.C_below HR169_1.out (by repeat (first | (with_reducible first | exact HB.out | apply below_alloc | apply pw_below_drewN | apply below_drew1 | refine below_set ?_ GE163.out | refine below_set ?_ GE164.out) | exact HB.out))) | (with_reducible refine Kd.C_alloc ?_ _) | (with_reducible refine Kd.C_drewN ?_ _) | (with_reducible refine Kd.C_drew ?_))); (case side4 => exact HC169_1.out); rintro e w' ⟨rfl, ⟨nd, rfl⟩⟩; (try first | exact ⟨rfl, _, World.drewN_drewN _ _ _⟩ | exact ⟨rfl, _, Eq.trans (World.drewN_drewN _ _ _) (congrArg (World.drewN _) (Nat.add_assoc _ _ _))⟩)))
                  repeat (go_quiet (first | (go_at_call 44; (with_reducible refine (registrarref04_TextsG.calls _ _ ((rd_T92 l0_0 x5_1).f0) _ _ ((rd_T92 l1_0 x5_1).f0) true _ ?side1 ?side2 ?side3 ?side4 A12.out).mono ?_); (case side1 => repeat (first | exact (Kd.C_below HR165_0.out HB.out) | (with_reducible refine Kd.C_alloc ?_ _) | (with_reducible refine Kd.C_drewN ?_ _) | (with_reducible refine Kd.C_drew ?_))); (case side2 => exact HC165_0.out); (case side3 => repeat (first | exact (Kd.C_below HR166_0.out HB.out) | (with_reducible refine Kd.C_alloc ?_ _) | (with_reducible refine Kd.C_drewN ?_ _) | (with_reducible refine Kd.C_drew ?_))); (case side4 => exact HC166_0.out); rintro e w' ⟨rfl, ⟨nd, rfl⟩⟩; (try first | exact ⟨rfl, _, World.drewN_drewN _ _ _⟩ | exact ⟨rfl, _, Eq.trans (World.drewN_drewN _ _ _) (congrArg (World.drewN _) (Nat.add_assoc _ _ _))⟩); have p168 : 0 ≤ (x5_1 : Int) := of_decide_eq_true (by first | (with_reducible assumption) | assumption); have q168 : x5_1 < (l0_0.length : Int) := of_decide_eq_true (by first | (with_reducible assumption) | assumption); obtain ⟨ad168, A168_0, c168_0, A168_1, c168_1, e168, hx168_0, hx168_1, hl168_0, hi168_0, hl168_1, hi168_1⟩ := at_T92 HR0_0.out x5_1 p168 q168; obtain rfl : ad165 = ad168 := (by injection e168); replace hx168_0 := (HB.out.cell (World.block_lt_of_cell? w _ hx168_0)).trans hx168_0; replace hx168_1 := (HB.out.cell (World.block_lt_of_cell? w _ hx168_1)).trans hx168_1; have HR168_0 := Aside0.mk hi168_0; have HC168_0 := Aside0.mk hl168_0; clear hi168_0 hl168_0; have HR168_1 := Aside0.mk hi168_1; have HC168_1 := Aside0.mk hl168_1; clear hi168_1 hl168_1; replace p168 := eq_true p168; replace q168 := eq_true q168; have ea_ := Option.some.inj (hx165_0.symm.trans hx168_0); injection ea_ with ea_ en_ ec_; subst ea_; subst ec_; clear en_; have ea_ := Option.some.inj (hx165_1.symm.trans hx168_1); injection ea_ with ea_ en_ ec_; subst ea_; subst ec_; clear en_; have p169 : 0 ≤ (x5_1 : Int) := of_decide_eq_true (by first | (with_reducible assumption) | assumption); have q169 : x5_1 < (l1_0.length : Int) := of_decide_eq_true (by first | (with_reducible assumption) | assumption); obtain ⟨ad169, A169_0, c169_0, A169_1, c169_1, e169, hx169_0, hx169_1, hl169_0, hi169_0, hl169_1, hi169_1⟩ := at_T92 HR1_0.out x5_1 p169 q169; obtain rfl : ad166 = ad169 := (by injection e169); replace hx169_0 := (HB.out.cell (World.block_lt_of_cell? w _ hx169_0)).trans hx169_0; replace hx169_1 := (HB.out.cell (World.block_lt_of_cell? w _ hx169_1)).trans hx169_1; have HR169_0 := Aside0.mk hi169_0; have HC169_0 := Aside0.mk hl169_0; clear hi169_0 hl169_0; have HR169_1 := Aside0.mk hi169_1; have HC169_1 := Aside0.mk hl169_1; clear hi169_1 hl169_1; replace p169 := eq_true p169; replace q169 := eq_true q169; have ea_ := Option.some.inj (hx166_0.symm.trans hx169_0); injection ea_ with ea_ en_ ec_; subst ea_; subst ec_; clear en_; have ea_ := Option.some.inj (hx166_1.symm.trans hx169_1); injection ea_ with ea_ en_ ec_; subst ea_; subst ec_; clear en_) | (go_at_call 44; (with_reducible refine (registrarref04_TextsG.calls _ _ ((rd_T92 l0_0 x5_1).f1) _ _ ((rd_T92 l1_0 x5_1).f1) true _ ?side1 ?side2 ?side3 ?side4 A13.out).mono ?_); (case side1 => repeat (first | exact (Kd.C_below HR168_1.out (by repeat (first | (with_reducible first | exact HB.out | apply below_alloc | apply pw_below_drewN | apply below_drew1 | refine below_set ?_ GE163.out | refine below_set ?_ GE164.out) | exact HB.out))) | (with_reducible refine Kd.C_alloc ?_ _) | (with_reducible refine Kd.C_drewN ?_ _) | (with_reducible refine Kd.C_drew ?_))); (case side2 => exact HC168_1.out); (case side3 => repeat (first | exact (Kd.C_below HR169_1.out (by repeat (first | (with_reducible first | exact HB.out | apply below_alloc | apply pw_below_drewN | apply below_drew1 | refine below_set ?_ GE163.out | refine below_set ?_ GE164.out) | exact HB.out))) | (with_reducible refine Kd.C_alloc ?_ _) | (with_reducible refine Kd.C_drewN ?_ _) | (with_reducible refine Kd.C_drew ?_))); (case side4 => exact HC169_1.out); rintro e w' ⟨rfl, ⟨nd, rfl⟩⟩; (try first | exact ⟨rfl, _, World.drewN_drewN _ _ _⟩ | exact ⟨rfl, _, Eq.trans (World.drewN_drewN _ _ _) (congrArg (World.drewN _) (Nat.add_assoc _ _ _))⟩))); try go_wp2_with (first | (go_at_call 44; (with_reducible refine (registrarref04_TextsG.calls _ _ ((rd_T92 l0_0 x5_1).f0) _ _ ((rd_T92 l1_0 x5_1).f0) true _ ?side1 ?side2 ?side3 ?side4 A12.out).mono ?_); (case side1 => repeat (first | exact (Kd.C_below HR165_0.out HB.out) | (with_reducible refine Kd.C_alloc ?_ _) | (with_reducible refine Kd.C_drewN ?_ _) | (with_reducible refine Kd.C_drew ?_))); (case side2 => exact HC165_0.out); (case side3 => repeat (first | exact (Kd.C_below HR166_0.out HB.out) | (with_reducible refine Kd.C_alloc ?_ _) | (with_reducible refine Kd.C_drewN ?_ _) | (with_reducible refine Kd.C_drew ?_))); (case side4 => exact HC166_0.out); rintro e w' ⟨rfl, ⟨nd, rfl⟩⟩; (try first | exact ⟨rfl, _, World.drewN_drewN _ _ _⟩ | exact ⟨rfl, _, Eq.trans (World.drewN_drewN _ _ _) (congrArg (World.drewN _) (Nat.add_assoc _ _ _))⟩); have p168 : 0 ≤ (x5_1 : Int) := of_decide_eq_true (by first | (with_reducible assumption) | assumption); have q168 : x5_1 < (l0_0.length : Int) := of_decide_eq_true (by first | (with_reducible assumption) | assumption); obtain ⟨ad168, A168_0, c168_0, A168_1, c168_1, e168, hx168_0, hx168_1, hl168_0, hi168_0, hl168_1, hi168_1⟩ := at_T92 HR0_0.out x5_1 p168 q168; obtain rfl : ad165 = ad168 := (by injection e168); replace hx168_0 := (HB.out.cell (World.block_lt_of_cell? w _ hx168_0)).trans hx168_0; replace hx168_1 := (HB.out.cell (World.block_lt_of_cell? w _ hx168_1)).trans hx168_1; have HR168_0 := Aside0.mk hi168_0; have HC168_0 := Aside0.mk hl168_0; clear hi168_0 hl168_0; have HR168_1 := Aside0.mk hi168_1; have HC168_1 := Aside0.mk hl168_1; clear hi168_1 hl168_1; replace p168 := eq_true p168; replace q168 := eq_true q168; have ea_ := Option.some.inj (hx165_0.symm.trans hx168_0); injection ea_ with ea_ en_ ec_; subst ea_; subst ec_; clear en_; have ea_ := Option.some.inj (hx165_1.symm.trans hx168_1); injection ea_ with ea_ en_ ec_; subst ea_; subst ec_; clear en_; have p169 : 0 ≤ (x5_1 : Int) := of_decide_eq_true (by first | (with_reducible assumption) | assumption); have q169 : x5_1 < (l1_0.length : Int) := of_decide_eq_true (by first | (with_reducible assumption) | assumption); obtain ⟨ad169, A169_0, c169_0, A169_1, c169_1, e169, hx169_0, hx169_1, hl169_0, hi169_0, hl169_1, hi169_1⟩ := at_T92 HR1_0.out x5_1 p169 q169; obtain rfl : ad166 = ad169 := (by injection e169); replace hx169_0 := (HB.out.cell (World.block_lt_of_cell? w _ hx169_0)).trans hx169_0; replace hx169_1 := (HB.out.cell (World.block_lt_of_cell? w _ hx169_1)).trans hx169_1; have HR169_0 := Aside0.mk hi169_0; have HC169_0 := Aside0.mk hl169_0; clear hi169_0 hl169_0; have HR169_1 := Aside0.mk hi169_1; have HC169_1 := Aside0.mk hl169_1; clear hi169_1 hl169_1; replace p169 := eq_true p169; replace q169 := eq_true q169; have ea_ := Option.some.inj (hx166_0.symm.trans hx169_0); injection ea_ with ea_ en_ ec_; subst ea_; subst ec_; clear en_; have ea_ := Option.some.inj (hx166_1.symm.trans hx169_1); injection ea_ with ea_ en_ ec_; subst ea_; subst ec_; clear en_) | (go_at_call 44; (with_reducible refine (registrarref04_TextsG.calls _ _ ((rd_T92 l0_0 x5_1).f1) _ _ ((rd_T92 l1_0 x5_1).f1) true _ ?side1 ?side2 ?side3 ?side4 A13.out).mono ?_); (case side1 => repeat (first | exact (Kd.C_below HR168_1.out (by repeat (first | (with_reducible first | exact HB.out | apply below_alloc | apply pw_below_drewN | apply below_drew1 | refine below_set ?_ GE163.out | refine below_set ?_ GE164.out) | exact HB.out))) | (with_reducible refine Kd.C_alloc ?_ _) | (with_reducible refine Kd.C_drewN ?_ _) | (with_reducible refine Kd.C_drew ?_))); (case side2 => exact HC168_1.out); (case side3 => repeat (first | exact (Kd.C_below HR169_1.out (by repeat (first | (with_reducible first | exact HB.out | apply below_alloc | apply pw_below_drewN | apply below_drew1 | refine below_set ?_ GE163.out | refine below_set ?_ GE164.out) | exact HB.out))) | (with_reducible refine Kd.C_alloc ?_ _) | (with_reducible refine Kd.C_drewN ?_ _) | (with_reducible refine Kd.C_drew ?_))); (case side4 => exact HC169_1.out); rintro e w' ⟨rfl, ⟨nd, rfl⟩⟩; (try first | exact ⟨rfl, _, World.drewN_drewN _ _ _⟩ | exact ⟨rfl, _, Eq.trans (World.drewN_drewN _ _ _) (congrArg (World.drewN _) (Nat.add_assoc _ _ _))⟩))))
                  go_roundg k1
                  case measure => have := HK1.out; omega
                  case rel => exact ⟨(wrap64 (x5_1 + 1)), (by first | rfl | (simp; done) | (simp [*]; done)), H', ⟨by have := HK1.out; omega⟩, ⟨by (with_reducible repeat (first | refine blk_drewN ?_ _ | refine blk_drew ?_ | refine blk_alloc ?_ _)); exact BK163.out⟩, ⟨by (with_reducible repeat (first | refine blk_drewN ?_ _ | refine blk_drew ?_ | refine blk_alloc ?_ _)); exact BK164.out⟩, ⟨by repeat (first | (with_reducible first | exact HB.out | apply below_alloc | apply pw_below_drewN | apply below_drew1 | refine below_set ?_ GE163.out | refine below_set ?_ GE164.out) | exact HB.out)⟩⟩
                · replace c15 := Bool.eq_false_iff.mpr c15
                  subst c15
                  have H1 : (some false) = some r := by rw [if_neg (show ¬ (false = true) by decide)] at H; exact H
                  clear H
                  have H := H1
                  clear H1
                  obtain rfl := Option.some.inj H
                  have hnb19 := NB163_164.out
                  have hnc19 := NB164_163.out
                  have hcz20_0 : wr.cell? ⟨gb163, 0, none⟩ = some (.slice A0_0 l0_0.length c0_0) := (blk_cell BK163.out 0).trans rfl
                  have hfz20_0 := blk_frozen BK163.out 0
                  have p165 : 0 ≤ (x5_1 : Int) := of_decide_eq_true (by first | (with_reducible assumption) | assumption)
                  have q165 : x5_1 < (l0_0.length : Int) := of_decide_eq_true (by first | (with_reducible assumption) | assumption)
                  obtain ⟨ad165, A165_0, c165_0, A165_1, c165_1, e165, hx165_0, hx165_1, hl165_0, hi165_0, hl165_1, hi165_1⟩ := at_T92 HR0_0.out x5_1 p165 q165
                  cases e165
                  replace hx165_0 := (HB.out.cell (World.block_lt_of_cell? w _ hx165_0)).trans hx165_0
                  replace hx165_1 := (HB.out.cell (World.block_lt_of_cell? w _ hx165_1)).trans hx165_1
                  have HR165_0 := Aside0.mk hi165_0
                  have HC165_0 := Aside0.mk hl165_0
                  clear hi165_0 hl165_0
                  have HR165_1 := Aside0.mk hi165_1
                  have HC165_1 := Aside0.mk hl165_1
                  clear hi165_1 hl165_1
                  replace p165 := eq_true p165
                  replace q165 := eq_true q165
                  have hcz21_0 : wr.cell? ⟨gb164, 0, none⟩ = some (.slice A1_0 l1_0.length c1_0) := (blk_cell BK164.out 0).trans rfl
                  have hfz21_0 := blk_frozen BK164.out 0
                  have p166 : 0 ≤ (x5_1 : Int) := of_decide_eq_true (by first | (with_reducible assumption) | assumption)
                  have q166 : x5_1 < (l1_0.length : Int) := of_decide_eq_true (by first | (with_reducible assumption) | assumption)
                  obtain ⟨ad166, A166_0, c166_0, A166_1, c166_1, e166, hx166_0, hx166_1, hl166_0, hi166_0, hl166_1, hi166_1⟩ := at_T92 HR1_0.out x5_1 p166 q166
                  cases e166
                  replace hx166_0 := (HB.out.cell (World.block_lt_of_cell? w _ hx166_0)).trans hx166_0
                  replace hx166_1 := (HB.out.cell (World.block_lt_of_cell? w _ hx166_1)).trans hx166_1
                  have HR166_0 := Aside0.mk hi166_0
                  have HC166_0 := Aside0.mk hl166_0
                  clear hi166_0 hl166_0
                  have HR166_1 := Aside0.mk hi166_1
                  have HC166_1 := Aside0.mk hl166_1
                  clear hi166_1 hl166_1
                  replace p166 := eq_true p166
                  replace q166 := eq_true q166
                  go_wp2_with (first | (go_at_call 44; (with_reducible refine (registrarref04_TextsG.calls _ _ ((rd_T92 l0_0 x5_1).f0) _ _ ((rd_T92 l1_0 x5_1).f0) true _ ?side1 ?side2 ?side3 ?side4 A12.out).mono ?_); (case side1 => repeat (first | exact (Kd.C_below HR165_0.out HB.out) | (with_reducible refine Kd.C_alloc ?_ _) | (with_reducible refine Kd.C_drewN ?_ _) | (with_reducible refine Kd.C_drew ?_))); (case side2 => exact HC165_0.out); (case side3 => repeat (first | exact (Kd.C_below HR166_0.out HB.out) | (with_reducible refine Kd.C_alloc ?_ _) | (with_reducible refine Kd.C_drewN ?_ _) | (with_reducible refine Kd.C_drew ?_))); (case side4 => exact HC166_0.out); rintro e w' ⟨rfl, ⟨nd, rfl⟩⟩; (try first | exact ⟨rfl, _, World.drewN_drewN _ _ _⟩ | exact ⟨rfl, _, Eq.trans (World.drewN_drewN _ _ _) (congrArg (World.drewN _) (Nat.add_assoc _ _ _))⟩); have p168 : 0 ≤ (x5_1 : Int) := of_decide_eq_true (by first | (with_reducible assumption) | assumption); have q168 : x5_1 < (l0_0.length : Int) := of_decide_eq_true (by first | (with_reducible assumption) | assumption); obtain ⟨ad168, A168_0, c168_0, A168_1, c168_1, e168, hx168_0, hx168_1, hl168_0, hi168_0, hl168_1, hi168_1⟩ := at_T92 HR0_0.out x5_1 p168 q168; obtain rfl : ad165 = ad168 := (by injection e168); replace hx168_0 := (HB.out.cell (World.block_lt_of_cell? w _ hx168_0)).trans hx168_0; replace hx168_1 := (HB.out.cell (World.block_lt_of_cell? w _ hx168_1)).trans hx168_1; have HR168_0 := Aside0.mk hi168_0; have HC168_0 := Aside0.mk hl168_0; clear hi168_0 hl168_0; have HR168_1 := Aside0.mk hi168_1; have HC168_1 := Aside0.mk hl168_1; clear hi168_1 hl168_1; replace p168 := eq_true p168; replace q168 := eq_true q168; have ea_ := Option.some.inj (hx165_0.symm.trans hx168_0); injection ea_ with ea_ en_ ec_; subst ea_; subst ec_; clear en_; have ea_ := Option.some.inj (hx165_1.symm.trans hx168_1); injection ea_ with ea_ en_ ec_; subst ea_; subst ec_; clear en_; have p169 : 0 ≤ (x5_1 : Int) := of_decide_eq_true (by first | (with_reducible assumption) | assumption); have q169 : x5_1 < (l1_0.length : Int) := of_decide_eq_true (by first | (with_reducible assumption) | assumption); obtain ⟨ad169, A169_0, c169_0, A169_1, c169_1, e169, hx169_0, hx169_1, hl169_0, hi169_0, hl169_1, hi169_1⟩ := at_T92 HR1_0.out x5_1 p169 q169; obtain rfl : ad166 = ad169 := (by injection e169); replace hx169_0 := (HB.out.cell (World.block_lt_of_cell? w _ hx169_0)).trans hx169_0; replace hx169_1 := (HB.out.cell (World.block_lt_of_cell? w _ hx169_1)).trans hx169_1; have HR169_0 := Aside0.mk hi169_0; have HC169_0 := Aside0.mk hl169_0; clear hi169_0 hl169_0; have HR169_1 := Aside0.mk hi169_1; have HC169_1 := Aside0.mk hl169_1; clear hi169_1 hl169_1; replace p169 := eq_true p169; replace q169 := eq_true q169; have ea_ := Option.some.inj (hx166_0.symm.trans hx169_0); injection ea_ with ea_ en_ ec_; subst ea_; subst ec_; clear en_; have ea_ := Option.some.inj (hx166_1.symm.trans hx169_1); injection ea_ with ea_ en_ ec_; subst ea_; subst ec_; clear en_) | (go_at_call 44; (with_reducible refine (registrarref04_TextsG.calls _ _ ((rd_T92 l0_0 x5_1).f1) _ _ ((rd_T92 l1_0 x5_1).f1) false _ ?side1 ?side2 ?side3 ?side4 A13.out).mono ?_); (case side1 => repeat (first | exact (Kd.C_below HR168_1.out (by repeat (first | (with_reducible first | exact HB.out | apply below_alloc | apply pw_below_drewN | apply below_drew1 | refine below_set ?_ GE163.out | refine below_set ?_ GE164.out) | exact HB.out))) | (with_reducible refine Kd.C_alloc ?_ _) | (with_reducible refine Kd.C_drewN ?_ _) | (with_reducible refine Kd.C_drew ?_))); (case side2 => exact HC168_1.out); (case side3 => repeat (first | exact (Kd.C_below HR169_1.out (by repeat (first | (with_reducible first | exact HB.out | apply below_alloc | apply pw_below_drewN | apply below_drew1 | refine below_set ?_ GE163.out | refine below_set ?_ GE164.out) | exact HB.out))) | (with_reducible refine Kd.C_alloc ?_ _) | (with_reducible refine Kd.C_drewN ?_ _) | (with_reducible refine Kd.C_drew ?_))); (case side4 => exact HC169_1.out); rintro e w' ⟨rfl, ⟨nd, rfl⟩⟩; (try first | exact ⟨rfl, _, World.drewN_drewN _ _ _⟩ | exact ⟨rfl, _, Eq.trans (World.drewN_drewN _ _ _) (congrArg (World.drewN _) (Nat.add_assoc _ _ _))⟩)))
                  repeat (go_quiet (first | (go_at_call 44; (with_reducible refine (registrarref04_TextsG.calls _ _ ((rd_T92 l0_0 x5_1).f0) _ _ ((rd_T92 l1_0 x5_1).f0) true _ ?side1 ?side2 ?side3 ?side4 A12.out).mono ?_); (case side1 => repeat (first | exact (Kd.C_below HR165_0.out HB.out) | (with_reducible refine Kd.C_alloc ?_ _) | (with_reducible refine Kd.C_drewN ?_ _) | (with_reducible refine Kd.C_drew ?_))); (case side2 => exact HC165_0.out); (case side3 => repeat (first | exact (Kd.C_below HR166_0.out HB.out) | (with_reducible refine Kd.C_alloc ?_ _) | (with_reducible refine Kd.C_drewN ?_ _) | (with_reducible refine Kd.C_drew ?_))); (case side4 => exact HC166_0.out); rintro e w' ⟨rfl, ⟨nd, rfl⟩⟩; (try first | exact ⟨rfl, _, World.drewN_drewN _ _ _⟩ | exact ⟨rfl, _, Eq.trans (World.drewN_drewN _ _ _) (congrArg (World.drewN _) (Nat.add_assoc _ _ _))⟩); have p168 : 0 ≤ (x5_1 : Int) := of_decide_eq_true (by first | (with_reducible assumption) | assumption); have q168 : x5_1 < (l0_0.length : Int) := of_decide_eq_true (by first | (with_reducible assumption) | assumption); obtain ⟨ad168, A168_0, c168_0, A168_1, c168_1, e168, hx168_0, hx168_1, hl168_0, hi168_0, hl168_1, hi168_1⟩ := at_T92 HR0_0.out x5_1 p168 q168; obtain rfl : ad165 = ad168 := (by injection e168); replace hx168_0 := (HB.out.cell (World.block_lt_of_cell? w _ hx168_0)).trans hx168_0; replace hx168_1 := (HB.out.cell (World.block_lt_of_cell? w _ hx168_1)).trans hx168_1; have HR168_0 := Aside0.mk hi168_0; have HC168_0 := Aside0.mk hl168_0; clear hi168_0 hl168_0; have HR168_1 := Aside0.mk hi168_1; have HC168_1 := Aside0.mk hl168_1; clear hi168_1 hl168_1; replace p168 := eq_true p168; replace q168 := eq_true q168; have ea_ := Option.some.inj (hx165_0.symm.trans hx168_0); injection ea_ with ea_ en_ ec_; subst ea_; subst ec_; clear en_; have ea_ := Option.some.inj (hx165_1.symm.trans hx168_1); injection ea_ with ea_ en_ ec_; subst ea_; subst ec_; clear en_; have p169 : 0 ≤ (x5_1 : Int) := of_decide_eq_true (by first | (with_reducible assumption) | assumption); have q169 : x5_1 < (l1_0.length : Int) := of_decide_eq_true (by first | (with_reducible assumption) | assumption); obtain ⟨ad169, A169_0, c169_0, A169_1, c169_1, e169, hx169_0, hx169_1, hl169_0, hi169_0, hl169_1, hi169_1⟩ := at_T92 HR1_0.out x5_1 p169 q169; obtain rfl : ad166 = ad169 := (by injection e169); replace hx169_0 := (HB.out.cell (World.block_lt_of_cell? w _ hx169_0)).trans hx169_0; replace hx169_1 := (HB.out.cell (World.block_lt_of_cell? w _ hx169_1)).trans hx169_1; have HR169_0 := Aside0.mk hi169_0; have HC169_0 := Aside0.mk hl169_0; clear hi169_0 hl169_0; have HR169_1 := Aside0.mk hi169_1; have HC169_1 := Aside0.mk hl169_1; clear hi169_1 hl169_1; replace p169 := eq_true p169; replace q169 := eq_true q169; have ea_ := Option.some.inj (hx166_0.symm.trans hx169_0); injection ea_ with ea_ en_ ec_; subst ea_; subst ec_; clear en_; have ea_ := Option.some.inj (hx166_1.symm.trans hx169_1); injection ea_ with ea_ en_ ec_; subst ea_; subst ec_; clear en_) | (go_at_call 44; (with_reducible refine (registrarref04_TextsG.calls _ _ ((rd_T92 l0_0 x5_1).f1) _ _ ((rd_T92 l1_0 x5_1).f1) false _ ?side1 ?side2 ?side3 ?side4 A13.out).mono ?_); (case side1 => repeat (first | exact (Kd.C_below HR168_1.out (by repeat (first | (with_reducible first | exact HB.out | apply below_alloc | apply pw_below_drewN | apply below_drew1 | refine below_set ?_ GE163.out | refine below_set ?_ GE164.out) | exact HB.out))) | (with_reducible refine Kd.C_alloc ?_ _) | (with_reducible refine Kd.C_drewN ?_ _) | (with_reducible refine Kd.C_drew ?_))); (case side2 => exact HC168_1.out); (case side3 => repeat (first | exact (Kd.C_below HR169_1.out (by repeat (first | (with_reducible first | exact HB.out | apply below_alloc | apply pw_below_drewN | apply below_drew1 | refine below_set ?_ GE163.out | refine below_set ?_ GE164.out) | exact HB.out))) | (with_reducible refine Kd.C_alloc ?_ _) | (with_reducible refine Kd.C_drewN ?_ _) | (with_reducible refine Kd.C_drew ?_))); (case side4 => exact HC169_1.out); rintro e w' ⟨rfl, ⟨nd, rfl⟩⟩; (try first | exact ⟨rfl, _, World.drewN_drewN _ _ _⟩ | exact ⟨rfl, _, Eq.trans (World.drewN_drewN _ _ _) (congrArg (World.drewN _) (Nat.add_assoc _ _ _))⟩))); try go_wp2_with (first | (go_at_call 44; (with_reducible refine (registrarref04_TextsG.calls _ _ ((rd_T92 l0_0 x5_1).f0) _ _ ((rd_T92 l1_0 x5_1).f0) true _ ?side1 ?side2 ?side3 ?side4 A12.out).mono ?_); (case side1 => repeat (first | exact (Kd.C_below HR165_0.out HB.out) | (with_reducible refine Kd.C_alloc ?_ _) | (with_reducible refine Kd.C_drewN ?_ _) | (with_reducible refine Kd.C_drew ?_))); (case side2 => exact HC165_0.out); (case side3 => repeat (first | exact (Kd.C_below HR166_0.out HB.out) | (with_reducible refine Kd.C_alloc ?_ _) | (with_reducible refine Kd.C_drewN ?_ _) | (with_reducible refine Kd.C_drew ?_))); (case side4 => exact HC166_0.out); rintro e w' ⟨rfl, ⟨nd, rfl⟩⟩; (try first | exact ⟨rfl, _, World.drewN_drewN _ _ _⟩ | exact ⟨rfl, _, Eq.trans (World.drewN_drewN _ _ _) (congrArg (World.drewN _) (Nat.add_assoc _ _ _))⟩); have p168 : 0 ≤ (x5_1 : Int) := of_decide_eq_true (by first | (with_reducible assumption) | assumption); have q168 : x5_1 < (l0_0.length : Int) := of_decide_eq_true (by first | (with_reducible assumption) | assumption); obtain ⟨ad168, A168_0, c168_0, A168_1, c168_1, e168, hx168_0, hx168_1, hl168_0, hi168_0, hl168_1, hi168_1⟩ := at_T92 HR0_0.out x5_1 p168 q168; obtain rfl : ad165 = ad168 := (by injection e168); replace hx168_0 := (HB.out.cell (World.block_lt_of_cell? w _ hx168_0)).trans hx168_0; replace hx168_1 := (HB.out.cell (World.block_lt_of_cell? w _ hx168_1)).trans hx168_1; have HR168_0 := Aside0.mk hi168_0; have HC168_0 := Aside0.mk hl168_0; clear hi168_0 hl168_0; have HR168_1 := Aside0.mk hi168_1; have HC168_1 := Aside0.mk hl168_1; clear hi168_1 hl168_1; replace p168 := eq_true p168; replace q168 := eq_true q168; have ea_ := Option.some.inj (hx165_0.symm.trans hx168_0); injection ea_ with ea_ en_ ec_; subst ea_; subst ec_; clear en_; have ea_ := Option.some.inj (hx165_1.symm.trans hx168_1); injection ea_ with ea_ en_ ec_; subst ea_; subst ec_; clear en_; have p169 : 0 ≤ (x5_1 : Int) := of_decide_eq_true (by first | (with_reducible assumption) | assumption); have q169 : x5_1 < (l1_0.length : Int) := of_decide_eq_true (by first | (with_reducible assumption) | assumption); obtain ⟨ad169, A169_0, c169_0, A169_1, c169_1, e169, hx169_0, hx169_1, hl169_0, hi169_0, hl169_1, hi169_1⟩ := at_T92 HR1_0.out x5_1 p169 q169; obtain rfl : ad166 = ad169 := (by injection e169); replace hx169_0 := (HB.out.cell (World.block_lt_of_cell? w _ hx169_0)).trans hx169_0; replace hx169_1 := (HB.out.cell (World.block_lt_of_cell? w _ hx169_1)).trans hx169_1; have HR169_0 := Aside0.mk hi169_0; have HC169_0 := Aside0.mk hl169_0; clear hi169_0 hl169_0; have HR169_1 := Aside0.mk hi169_1; have HC169_1 := Aside0.mk hl169_1; clear hi169_1 hl169_1; replace p169 := eq_true p169; replace q169 := eq_true q169; have ea_ := Option.some.inj (hx166_0.symm.trans hx169_0); injection ea_ with ea_ en_ ec_; subst ea_; subst ec_; clear en_; have ea_ := Option.some.inj (hx166_1.symm.trans hx169_1); injection ea_ with ea_ en_ ec_; subst ea_; subst ec_; clear en_) | (go_at_call 44; (with_reducible refine (registrarref04_TextsG.calls _ _ ((rd_T92 l0_0 x5_1).f1) _ _ ((rd_T92 l1_0 x5_1).f1) false _ ?side1 ?side2 ?side3 ?side4 A13.out).mono ?_); (case side1 => repeat (first | exact (Kd.C_below HR168_1.out (by repeat (first | (with_reducible first | exact HB.out | apply below_alloc | apply pw_below_drewN | apply below_drew1 | refine below_set ?_ GE163.out | refine below_set ?_ GE164.out) | exact HB.out))) | (with_reducible refine Kd.C_alloc ?_ _) | (with_reducible refine Kd.C_drewN ?_ _) | (with_reducible refine Kd.C_drew ?_))); (case side2 => exact HC168_1.out); (case side3 => repeat (first | exact (Kd.C_below HR169_1.out (by repeat (first | (with_reducible first | exact HB.out | apply below_alloc | apply pw_below_drewN | apply below_drew1 | refine below_set ?_ GE163.out | refine below_set ?_ GE164.out) | exact HB.out))) | (with_reducible refine Kd.C_alloc ?_ _) | (with_reducible refine Kd.C_drewN ?_ _) | (with_reducible refine Kd.C_drew ?_))); (case side4 => exact HC169_1.out); rintro e w' ⟨rfl, ⟨nd, rfl⟩⟩; (try first | exact ⟨rfl, _, World.drewN_drewN _ _ _⟩ | exact ⟨rfl, _, Eq.trans (World.drewN_drewN _ _ _) (congrArg (World.drewN _) (Nat.add_assoc _ _ _))⟩))))
                  go_ret
                  exact ⟨by first | rfl | (simp [errW_none, errW_some] <;> rfl) | (simp [*, errW_none, errW_some] <;> rfl), by repeat (first | (with_reducible first | exact HB.out | apply below_alloc | apply pw_below_drewN | apply below_drew1 | refine below_set ?_ GE163.out | refine below_set ?_ GE164.out) | exact HB.out)⟩
              · replace c14 := Bool.eq_false_iff.mpr c14
                subst c14
                have H1 : (some false) = some r := by rw [if_neg (show ¬ (false = true) by decide)] at H; exact H
                clear H
                have H := H1
                clear H1
                obtain rfl := Option.some.inj H
                have hnb22 := NB163_164.out
                have hnc22 := NB164_163.out
                have hcz23_0 : wr.cell? ⟨gb163, 0, none⟩ = some (.slice A0_0 l0_0.length c0_0) := (blk_cell BK163.out 0).trans rfl
                have hfz23_0 := blk_frozen BK163.out 0
                have p165 : 0 ≤ (x5_1 : Int) := of_decide_eq_true (by first | (with_reducible assumption) | assumption)
                have q165 : x5_1 < (l0_0.length : Int) := of_decide_eq_true (by first | (with_reducible assumption) | assumption)
                obtain ⟨ad165, A165_0, c165_0, A165_1, c165_1, e165, hx165_0, hx165_1, hl165_0, hi165_0, hl165_1, hi165_1⟩ := at_T92 HR0_0.out x5_1 p165 q165
                cases e165
                replace hx165_0 := (HB.out.cell (World.block_lt_of_cell? w _ hx165_0)).trans hx165_0
                replace hx165_1 := (HB.out.cell (World.block_lt_of_cell? w _ hx165_1)).trans hx165_1
                have HR165_0 := Aside0.mk hi165_0
                have HC165_0 := Aside0.mk hl165_0
                clear hi165_0 hl165_0
                have HR165_1 := Aside0.mk hi165_1
                have HC165_1 := Aside0.mk hl165_1
                clear hi165_1 hl165_1
                replace p165 := eq_true p165
                replace q165 := eq_true q165
                have hcz24_0 : wr.cell? ⟨gb164, 0, none⟩ = some (.slice A1_0 l1_0.length c1_0) := (blk_cell BK164.out 0).trans rfl
                have hfz24_0 := blk_frozen BK164.out 0
                have p166 : 0 ≤ (x5_1 : Int) := of_decide_eq_true (by first | (with_reducible assumption) | assumption)
                have q166 : x5_1 < (l1_0.length : Int) := of_decide_eq_true (by first | (with_reducible assumption) | assumption)
                obtain ⟨ad166, A166_0, c166_0, A166_1, c166_1, e166, hx166_0, hx166_1, hl166_0, hi166_0, hl166_1, hi166_1⟩ := at_T92 HR1_0.out x5_1 p166 q166
                cases e166
                replace hx166_0 := (HB.out.cell (World.block_lt_of_cell? w _ hx166_0)).trans hx166_0
                replace hx166_1 := (HB.out.cell (World.block_lt_of_cell? w _ hx166_1)).trans hx166_1
                have HR166_0 := Aside0.mk hi166_0
                have HC166_0 := Aside0.mk hl166_0
                clear hi166_0 hl166_0
                have HR166_1 := Aside0.mk hi166_1
                have HC166_1 := Aside0.mk hl166_1
                clear hi166_1 hl166_1
                replace p166 := eq_true p166
                replace q166 := eq_true q166
                go_wp2_with (first | (go_at_call 44; (with_reducible refine (registrarref04_TextsG.calls _ _ ((rd_T92 l0_0 x5_1).f0) _ _ ((rd_T92 l1_0 x5_1).f0) false _ ?side1 ?side2 ?side3 ?side4 A12.out).mono ?_); (case side1 => repeat (first | exact (Kd.C_below HR165_0.out HB.out) | (with_reducible refine Kd.C_alloc ?_ _) | (with_reducible refine Kd.C_drewN ?_ _) | (with_reducible refine Kd.C_drew ?_))); (case side2 => exact HC165_0.out); (case side3 => repeat (first | exact (Kd.C_below HR166_0.out HB.out) | (with_reducible refine Kd.C_alloc ?_ _) | (with_reducible refine Kd.C_drewN ?_ _) | (with_reducible refine Kd.C_drew ?_))); (case side4 => exact HC166_0.out); rintro e w' ⟨rfl, ⟨nd, rfl⟩⟩; (try first | exact ⟨rfl, _, World.drewN_drewN _ _ _⟩ | exact ⟨rfl, _, Eq.trans (World.drewN_drewN _ _ _) (congrArg (World.drewN _) (Nat.add_assoc _ _ _))⟩); have p168 : 0 ≤ (x5_1 : Int) := of_decide_eq_true (by first | (with_reducible assumption) | assumption); have q168 : x5_1 < (l0_0.length : Int) := of_decide_eq_true (by first | (with_reducible assumption) | assumption); obtain ⟨ad168, A168_0, c168_0, A168_1, c168_1, e168, hx168_0, hx168_1, hl168_0, hi168_0, hl168_1, hi168_1⟩ := at_T92 HR0_0.out x5_1 p168 q168; obtain rfl : ad165 = ad168 := (by injection e168); replace hx168_0 := (HB.out.cell (World.block_lt_of_cell? w _ hx168_0)).trans hx168_0; replace hx168_1 := (HB.out.cell (World.block_lt_of_cell? w _ hx168_1)).trans hx168_1; have HR168_0 := Aside0.mk hi168_0; have HC168_0 := Aside0.mk hl168_0; clear hi168_0 hl168_0; have HR168_1 := Aside0.mk hi168_1; have HC168_1 := Aside0.mk hl168_1; clear hi168_1 hl168_1; replace p168 := eq_true p168; replace q168 := eq_true q168; have ea_ := Option.some.inj (hx165_0.symm.trans hx168_0); injection ea_ with ea_ en_ ec_; subst ea_; subst ec_; clear en_; have ea_ := Option.some.inj (hx165_1.symm.trans hx168_1); injection ea_ with ea_ en_ ec_; subst ea_; subst ec_; clear en_; have p169 : 0 ≤ (x5_1 : Int) := of_decide_eq_true (by first | (with_reducible assumption) | assumption); have q169 : x5_1 < (l1_0.length : Int) := of_decide_eq_true (by first | (with_reducible assumption) | assumption); obtain ⟨ad169, A169_0, c169_0, A169_1, c169_1, e169, hx169_0, hx169_1, hl169_0, hi169_0, hl169_1, hi169_1⟩ := at_T92 HR1_0.out x5_1 p169 q169; obtain rfl : ad166 = ad169 := (by injection e169); replace hx169_0 := (HB.out.cell (World.block_lt_of_cell? w _ hx169_0)).trans hx169_0; replace hx169_1 := (HB.out.cell (World.block_lt_of_cell? w _ hx169_1)).trans hx169_1; have HR169_0 := Aside0.mk hi169_0; have HC169_0 := Aside0.mk hl169_0; clear hi169_0 hl169_0; have HR169_1 := Aside0.mk hi169_1; have HC169_1 := Aside0.mk hl169_1; clear hi169_1 hl169_1; replace p169 := eq_true p169; replace q169 := eq_true q169; have ea_ := Option.some.inj (hx166_0.symm.trans hx169_0); injection ea_ with ea_ en_ ec_; subst ea_; subst ec_; clear en_; have ea_ := Option.some.inj (hx166_1.symm.trans hx169_1); injection ea_ with ea_ en_ ec_; subst ea_; subst ec_; clear en_) | (go_at_call 44; (with_reducible refine (registrarref04_TextsG.calls _ _ ((rd_T92 l0_0 x5_1).f1) _ _ ((rd_T92 l1_0 x5_1).f1) t170 _ ?side1 ?side2 ?side3 ?side4 A13.out).mono ?_); (case side1 => repeat (first | exact (Kd.C_below HR168_1.out (by repeat (first | (with_reducible first | exact HB.out | apply below_alloc | apply pw_below_drewN | apply below_drew1 | refine below_set ?_ GE163.out | refine below_set ?_ GE164.out) | exact HB.out))) | (with_reducible refine Kd.C_alloc ?_ _) | (with_reducible refine Kd.C_drewN ?_ _) | (with_reducible refine Kd.C_drew ?_))); (case side2 => exact HC168_1.out); (case side3 => repeat (first | exact (Kd.C_below HR169_1.out (by repeat (first | (with_reducible first | exact HB.out | apply below_alloc | apply pw_below_drewN | apply below_drew1 | refine below_set ?_ GE163.out | refine below_set ?_ GE164.out) | exact HB.out))) | (with_reducible refine Kd.C_alloc ?_ _) | (with_reducible refine Kd.C_drewN ?_ _) | (with_reducible refine Kd.C_drew ?_))); (case side4 => exact HC169_1.out); rintro e w' ⟨rfl, ⟨nd, rfl⟩⟩; (try first | exact ⟨rfl, _, World.drewN_drewN _ _ _⟩ | exact ⟨rfl, _, Eq.trans (World.drewN_drewN _ _ _) (congrArg (World.drewN _) (Nat.add_assoc _ _ _))⟩)))
                repeat (go_quiet (first | (go_at_call 44; (with_reducible refine (registrarref04_TextsG.calls _ _ ((rd_T92 l0_0 x5_1).f0) _ _ ((rd_T92 l1_0 x5_1).f0) false _ ?side1 ?side2 ?side3 ?side4 A12.out).mono ?_); (case side1 => repeat (first | exact (Kd.C_below HR165_0.out HB.out) | (with_reducible refine Kd.C_alloc ?_ _) | (with_reducible refine Kd.C_drewN ?_ _) | (with_reducible refine Kd.C_drew ?_))); (case side2 => exact HC165_0.out); (case side3 => repeat (first | exact (Kd.C_below HR166_0.out HB.out) | (with_reducible refine Kd.C_alloc ?_ _) | (with_reducible refine Kd.C_drewN ?_ _) | (with_reducible refine Kd.C_drew ?_))); (case side4 => exact HC166_0.out); rintro e w' ⟨rfl, ⟨nd, rfl⟩⟩; (try first | exact ⟨rfl, _, World.drewN_drewN _ _ _⟩ | exact ⟨rfl, _, Eq.trans (World.drewN_drewN _ _ _) (congrArg (World.drewN _) (Nat.add_assoc _ _ _))⟩); have p168 : 0 ≤ (x5_1 : Int) := of_decide_eq_true (by first | (with_reducible assumption) | assumption); have q168 : x5_1 < (l0_0.length : Int) := of_decide_eq_true (by first | (with_reducible assumption) | assumption); obtain ⟨ad168, A168_0, c168_0, A168_1, c168_1, e168, hx168_0, hx168_1, hl168_0, hi168_0, hl168_1, hi168_1⟩ := at_T92 HR0_0.out x5_1 p168 q168; obtain rfl : ad165 = ad168 := (by injection e168); replace hx168_0 := (HB.out.cell (World.block_lt_of_cell? w _ hx168_0)).trans hx168_0; replace hx168_1 := (HB.out.cell (World.block_lt_of_cell? w _ hx168_1)).trans hx168_1; have HR168_0 := Aside0.mk hi168_0; have HC168_0 := Aside0.mk hl168_0; clear hi168_0 hl168_0; have HR168_1 := Aside0.mk hi168_1; have HC168_1 := Aside0.mk hl168_1; clear hi168_1 hl168_1; replace p168 := eq_true p168; replace q168 := eq_true q168; have ea_ := Option.some.inj (hx165_0.symm.trans hx168_0); injection ea_ with ea_ en_ ec_; subst ea_; subst ec_; clear en_; have ea_ := Option.some.inj (hx165_1.symm.trans hx168_1); injection ea_ with ea_ en_ ec_; subst ea_; subst ec_; clear en_; have p169 : 0 ≤ (x5_1 : Int) := of_decide_eq_true (by first | (with_reducible assumption) | assumption); have q169 : x5_1 < (l1_0.length : Int) := of_decide_eq_true (by first | (with_reducible assumption) | assumption); obtain ⟨ad169, A169_0, c169_0, A169_1, c169_1, e169, hx169_0, hx169_1, hl169_0, hi169_0, hl169_1, hi169_1⟩ := at_T92 HR1_0.out x5_1 p169 q169; obtain rfl : ad166 = ad169 := (by injection e169); replace hx169_0 := (HB.out.cell (World.block_lt_of_cell? w _ hx169_0)).trans hx169_0; replace hx169_1 := (HB.out.cell (World.block_lt_of_cell? w _ hx169_1)).trans hx169_1; have HR169_0 := Aside0.mk hi169_0; have HC169_0 := Aside0.mk hl169_0; clear hi169_0 hl169_0; have HR169_1 := Aside0.mk hi169_1; have HC169_1 := Aside0.mk hl169_1; clear hi169_1 hl169_1; replace p169 := eq_true p169; replace q169 := eq_true q169; have ea_ := Option.some.inj (hx166_0.symm.trans hx169_0); injection ea_ with ea_ en_ ec_; subst ea_; subst ec_; clear en_; have ea_ := Option.some.inj (hx166_1.symm.trans hx169_1); injection ea_ with ea_ en_ ec_; subst ea_; subst ec_; clear en_) | (go_at_call 44; (with_reducible refine (registrarref04_TextsG.calls _ _ ((rd_T92 l0_0 x5_1).f1) _ _ ((rd_T92 l1_0 x5_1).f1) t170 _ ?side1 ?side2 ?side3 ?side4 A13.out).mono ?_); (case side1 => repeat (first | exact (Kd.C_below HR168_1.out (by repeat (first | (with_reducible first | exact HB.out | apply below_alloc | apply pw_below_drewN | apply below_drew1 | refine below_set ?_ GE163.out | refine below_set ?_ GE164.out) | exact HB.out))) | (with_reducible refine Kd.C_alloc ?_ _) | (with_reducible refine Kd.C_drewN ?_ _) | (with_reducible refine Kd.C_drew ?_))); (case side2 => exact HC168_1.out); (case side3 => repeat (first | exact (Kd.C_below HR169_1.out (by repeat (first | (with_reducible first | exact HB.out | apply below_alloc | apply pw_below_drewN | apply below_drew1 | refine below_set ?_ GE163.out | refine below_set ?_ GE164.out) | exact HB.out))) | (with_reducible refine Kd.C_alloc ?_ _) | (with_reducible refine Kd.C_drewN ?_ _) | (with_reducible refine Kd.C_drew ?_))); (case side4 => exact HC169_1.out); rintro e w' ⟨rfl, ⟨nd, rfl⟩⟩; (try first | exact ⟨rfl, _, World.drewN_drewN _ _ _⟩ | exact ⟨rfl, _, Eq.trans (World.drewN_drewN _ _ _) (congrArg (World.drewN _) (Nat.add_assoc _ _ _))⟩))); try go_wp2_with (first | (go_at_call 44; (with_reducible refine (registrarref04_TextsG.calls _ _ ((rd_T92 l0_0 x5_1).f0) _ _ ((rd_T92 l1_0 x5_1).f0) false _ ?side1 ?side2 ?side3 ?side4 A12.out).mono ?_); (case side1 => repeat (first | exact (Kd.C_below HR165_0.out HB.out) | (with_reducible refine Kd.C_alloc ?_ _) | (with_reducible refine Kd.C_drewN ?_ _) | (with_reducible refine Kd.C_drew ?_))); (case side2 => exact HC165_0.out); (case side3 => repeat (first | exact (Kd.C_below HR166_0.out HB.out) | (with_reducible refine Kd.C_alloc ?_ _) | (with_reducible refine Kd.C_drewN ?_ _) | (with_reducible refine Kd.C_drew ?_))); (case side4 => exact HC166_0.out); rintro e w' ⟨rfl, ⟨nd, rfl⟩⟩; (try first | exact ⟨rfl, _, World.drewN_drewN _ _ _⟩ | exact ⟨rfl, _, Eq.trans (World.drewN_drewN _ _ _) (congrArg (World.drewN _) (Nat.add_assoc _ _ _))⟩); have p168 : 0 ≤ (x5_1 : Int) := of_decide_eq_true (by first | (with_reducible assumption) | assumption); have q168 : x5_1 < (l0_0.length : Int) := of_decide_eq_true (by first | (with_reducible assumption) | assumption); obtain ⟨ad168, A168_0, c168_0, A168_1, c168_1, e168, hx168_0, hx168_1, hl168_0, hi168_0, hl168_1, hi168_1⟩ := at_T92 HR0_0.out x5_1 p168 q168; obtain rfl : ad165 = ad168 := (by injection e168); replace hx168_0 := (HB.out.cell (World.block_lt_of_cell? w _ hx168_0)).trans hx168_0; replace hx168_1 := (HB.out.cell (World.block_lt_of_cell? w _ hx168_1)).trans hx168_1; have HR168_0 := Aside0.mk hi168_0; have HC168_0 := Aside0.mk hl168_0; clear hi168_0 hl168_0; have HR168_1 := Aside0.mk hi168_1; have HC168_1 := Aside0.mk hl168_1; clear hi168_1 hl168_1; replace p168 := eq_true p168; replace q168 := eq_true q168; have ea_ := Option.some.inj (hx165_0.symm.trans hx168_0); injection ea_ with ea_ en_ ec_; subst ea_; subst ec_; clear en_; have ea_ := Option.some.inj (hx165_1.symm.trans hx168_1); injection ea_ with ea_ en_ ec_; subst ea_; subst ec_; clear en_; have p169 : 0 ≤ (x5_1 : Int) := of_decide_eq_true (by first | (with_reducible assumption) | assumption); have q169 : x5_1 < (l1_0.length : Int) := of_decide_eq_true (by first | (with_reducible assumption) | assumption); obtain ⟨ad169, A169_0, c169_0, A169_1, c169_1, e169, hx169_0, hx169_1, hl169_0, hi169_0, hl169_1, hi169_1⟩ := at_T92 HR1_0.out x5_1 p169 q169; obtain rfl : ad166 = ad169 := (by injection e169); replace hx169_0 := (HB.out.cell (World.block_lt_of_cell? w _ hx169_0)).trans hx169_0; replace hx169_1 := (HB.out.cell (World.block_lt_of_cell? w _ hx169_1)).trans hx169_1; have HR169_0 := Aside0.mk hi169_0; have HC169_0 := Aside0.mk hl169_0; clear hi169_0 hl169_0; have HR169_1 := Aside0.mk hi169_1; have HC169_1 := Aside0.mk hl169_1; clear hi169_1 hl169_1; replace p169 := eq_true p169; replace q169 := eq_true q169; have ea_ := Option.some.inj (hx166_0.symm.trans hx169_0); injection ea_ with ea_ en_ ec_; subst ea_; subst ec_; clear en_; have ea_ := Option.some.inj (hx166_1.symm.trans hx169_1); injection ea_ with ea_ en_ ec_; subst ea_; subst ec_; clear en_) | (go_at_call 44; (with_reducible refine (registrarref04_TextsG.calls _ _ ((rd_T92 l0_0 x5_1).f1) _ _ ((rd_T92 l1_0 x5_1).f1) t170 _ ?side1 ?side2 ?side3 ?side4 A13.out).mono ?_); (case side1 => repeat (first | exact (Kd.C_below HR168_1.out (by repeat (first | (with_reducible first | exact HB.out | apply below_alloc | apply pw_below_drewN | apply below_drew1 | refine below_set ?_ GE163.out | refine below_set ?_ GE164.out) | exact HB.out))) | (with_reducible refine Kd.C_alloc ?_ _) | (with_reducible refine Kd.C_drewN ?_ _) | (with_reducible refine Kd.C_drew ?_))); (case side2 => exact HC168_1.out); (case side3 => repeat (first | exact (Kd.C_below HR169_1.out (by repeat (first | (with_reducible first | exact HB.out | apply below_alloc | apply pw_below_drewN | apply below_drew1 | refine below_set ?_ GE163.out | refine below_set ?_ GE164.out) | exact HB.out))) | (with_reducible refine Kd.C_alloc ?_ _) | (with_reducible refine Kd.C_drewN ?_ _) | (with_reducible refine Kd.C_drew ?_))); (case side4 => exact HC169_1.out); rintro e w' ⟨rfl, ⟨nd, rfl⟩⟩; (try first | exact ⟨rfl, _, World.drewN_drewN _ _ _⟩ | exact ⟨rfl, _, Eq.trans (World.drewN_drewN _ _ _) (congrArg (World.drewN _) (Nat.add_assoc _ _ _))⟩))))
                go_ret
                exact ⟨by first | rfl | (simp [errW_none, errW_some] <;> rfl) | (simp [*, errW_none, errW_some] <;> rfl), by repeat (first | (with_reducible first | exact HB.out | apply below_alloc | apply pw_below_drewN | apply below_drew1 | refine below_set ?_ GE163.out | refine below_set ?_ GE164.out) | exact HB.out)⟩
            · rw [if_neg c11] at H
              exact absurd H (by simp)
          · rw [if_neg c10] at H
            exact absurd H (by simp)
        · rw [if_neg c9] at H
          have c9b0 : decide (x5_1 < (l0_0.length : Int)) = false := decide_eq_false c9
          clear c9
          obtain rfl := Option.some.inj H
          have hnb25 := NB163_164.out
          have hnc25 := NB164_163.out
          have hcz26_0 : wr.cell? ⟨gb163, 0, none⟩ = some (.slice A0_0 l0_0.length c0_0) := (blk_cell BK163.out 0).trans rfl
          have hfz26_0 := blk_frozen BK163.out 0
          go_wp2
          repeat (go_quiet (fail); try go_wp2)
          go_ret
          exact ⟨by first | rfl | (simp [errW_none, errW_some] <;> rfl) | (simp [*, errW_none, errW_some] <;> rfl), by repeat (first | (with_reducible first | exact HB.out | apply below_alloc | apply pw_below_drewN | apply below_drew1 | refine below_set ?_ GE163.out | refine below_set ?_ GE164.out) | exact HB.out)⟩
  · rw [if_neg c3] at H
    have c3b0 : ((l0_0.length : Int) == (l1_0.length : Int)) = false := beq_eq_false_iff_ne.mpr c3
    have c3b1 : ((l0_0.length : Int) != (l1_0.length : Int)) = true := bne_iff_ne.mpr c3
    have c3b2 : (l0_0.length == l1_0.length) = false := by first | simpa using c3 | (simp at c3 ⊢; omega)
    obtain rfl := Option.some.inj H
    go_enter Try.func21, Try.ntmps21
    go_wp2_with (first | ((with_reducible refine gate_dst (N := 2) rfl ?_); refine box_event ?hg (N := 2) ?hd (cs := #[.slice A0_0 l0_0.length c0_0]) (t := 34) ?hr ?_; (case hd => rfl); (case hg => rfl); (case hr => first | (go_simp; done) | (go_simp; rfl)); intro gb163 hg w27 hbox hb; have n0_ := Aside0.mk (below_step (by repeat (first | (with_reducible first | exact HB.out | apply below_alloc | apply pw_below_drewN | apply below_drew1) | exact HB.out)) hb); have n1_ := Aside0.mk (hbox); have n2_ := Aside0.mk ((by rw [hg]; exact (below_size (by repeat (first | (with_reducible first | exact HB.out | apply below_alloc | apply pw_below_drewN | apply below_drew1) | exact HB.out))) : w.heap.size ≤ gb163)); have n3_ := Aside0.mk ((by rw [hg]; exact (below_size (by repeat (first | (with_reducible first | exact HB.out | apply below_alloc | apply pw_below_drewN | apply below_drew1) | exact HB.out))) : w.heap.size ≤ gb163)); clear HB; have HB := n0_; have BK163 := n1_; have GW163 := n2_; have GE163 := n3_; clear n0_ n1_ n2_ n3_; clear hb hbox hg) | ((with_reducible refine gate_dst (N := 3) rfl ?_); refine box_event ?hg (N := 3) ?hd (cs := #[.slice A1_0 l1_0.length c1_0]) (t := 34) ?hr ?_; (case hd => rfl); (case hg => rfl); (case hr => first | (go_simp; done) | (go_simp; rfl)); intro gb164 hg w28 hbox hb; have n0_ := Aside0.mk (blk_below (g := gb163) (o := .cells #[.slice A0_0 l0_0.length c0_0] 34 (0, 0)) (by (with_reducible repeat (first | refine blk_drewN ?_ _ | refine blk_drew ?_ | refine blk_alloc ?_ _)); exact BK163.out) hb); have n1_ := Aside0.mk (below_step (by repeat (first | (with_reducible first | exact HB.out | apply below_alloc | apply pw_below_drewN | apply below_drew1 | refine below_set ?_ GE163.out) | exact HB.out)) hb); have n2_ := Aside0.mk (hbox); have n3_ := Aside0.mk ((by rw [hg]; exact (below_size (by repeat (first | (with_reducible first | exact HB.out | apply below_alloc | apply pw_below_drewN | apply below_drew1 | refine below_set ?_ GE163.out) | exact HB.out))) : w.heap.size ≤ gb164)); have n4_ := Aside0.mk ((by rw [hg]; exact (below_size (by repeat (first | (with_reducible first | exact HB.out | apply below_alloc | apply pw_below_drewN | apply below_drew1 | refine below_set ?_ GE163.out) | exact HB.out))) : w.heap.size ≤ gb164)); have n5_ := Aside0.mk ((by rw [hg]; exact Nat.ne_of_lt (blk_lt (g := gb163) (o := .cells #[.slice A0_0 l0_0.length c0_0] 34 (0, 0)) (by (with_reducible repeat (first | refine blk_drewN ?_ _ | refine blk_drew ?_ | refine blk_alloc ?_ _)); exact BK163.out)) : gb163 ≠ gb164)); have n6_ := Aside0.mk ((by rw [hg]; exact Nat.ne_of_gt (blk_lt (g := gb163) (o := .cells #[.slice A0_0 l0_0.length c0_0] 34 (0, 0)) (by (with_reducible repeat (first | refine blk_drewN ?_ _ | refine blk_drew ?_ | refine blk_alloc ?_ _)); exact BK163.out)) : gb164 ≠ gb163)); clear BK163; clear HB; have BK163 := n0_; have HB := n1_; have BK164 := n2_; have GW164 := n3_; have GE164 := n4_; have NB163_164 := n5_; have NB164_163 := n6_; clear n0_ n1_ n2_ n3_ n4_ n5_ n6_; clear hb hbox hg; have hnb29 := NB163_164.out; have hnc29 := NB164_163.out; have hcz30_0 : w28.cell? ⟨gb163, 0, none⟩ = some (.slice A0_0 l0_0.length c0_0) := (blk_cell BK163.out 0).trans rfl; have hfz30_0 := blk_frozen BK163.out 0; have hcz31_0 : w28.cell? ⟨gb164, 0, none⟩ = some (.slice A1_0 l1_0.length c1_0) := (blk_cell BK164.out 0).trans rfl; have hfz31_0 := blk_frozen BK164.out 0))
    repeat (go_quiet (first | ((with_reducible refine gate_dst (N := 2) rfl ?_); refine box_event ?hg (N := 2) ?hd (cs := #[.slice A0_0 l0_0.length c0_0]) (t := 34) ?hr ?_; (case hd => rfl); (case hg => rfl); (case hr => first | (go_simp; done) | (go_simp; rfl)); intro gb163 hg w27 hbox hb; have n0_ := Aside0.mk (below_step (by repeat (first | (with_reducible first | exact HB.out | apply below_alloc | apply pw_below_drewN | apply below_drew1) | exact HB.out)) hb); have n1_ := Aside0.mk (hbox); have n2_ := Aside0.mk ((by rw [hg]; exact (below_size (by repeat (first | (with_reducible first | exact HB.out | apply below_alloc | apply pw_below_drewN | apply below_drew1) | exact HB.out))) : w.heap.size ≤ gb163)); have n3_ := Aside0.mk ((by rw [hg]; exact (below_size (by repeat (first | (with_reducible first | exact HB.out | apply below_alloc | apply pw_below_drewN | apply below_drew1) | exact HB.out))) : w.heap.size ≤ gb163)); clear HB; have HB := n0_; have BK163 := n1_; have GW163 := n2_; have GE163 := n3_; clear n0_ n1_ n2_ n3_; clear hb hbox hg) | ((with_reducible refine gate_dst (N := 3) rfl ?_); refine box_event ?hg (N := 3) ?hd (cs := #[.slice A1_0 l1_0.length c1_0]) (t := 34) ?hr ?_; (case hd => rfl); (case hg => rfl); (case hr => first | (go_simp; done) | (go_simp; rfl)); intro gb164 hg w28 hbox hb; have n0_ := Aside0.mk (blk_below (g := gb163) (o := .cells #[.slice A0_0 l0_0.length c0_0] 34 (0, 0)) (by (with_reducible repeat (first | refine blk_drewN ?_ _ | refine blk_drew ?_ | refine blk_alloc ?_ _)); exact BK163.out) hb); have n1_ := Aside0.mk (below_step (by repeat (first | (with_reducible first | exact HB.out | apply below_alloc | apply pw_below_drewN | apply below_drew1 | refine below_set ?_ GE163.out) | exact HB.out)) hb); have n2_ := Aside0.mk (hbox); have n3_ := Aside0.mk ((by rw [hg]; exact (below_size (by repeat (first | (with_reducible first | exact HB.out | apply below_alloc | apply pw_below_drewN | apply below_drew1 | refine below_set ?_ GE163.out) | exact HB.out))) : w.heap.size ≤ gb164)); have n4_ := Aside0.mk ((by rw [hg]; exact (below_size (by repeat (first | (with_reducible first | exact HB.out | apply below_alloc | apply pw_below_drewN | apply below_drew1 | refine below_set ?_ GE163.out) | exact HB.out))) : w.heap.size ≤ gb164)); have n5_ := Aside0.mk ((by rw [hg]; exact Nat.ne_of_lt (blk_lt (g := gb163) (o := .cells #[.slice A0_0 l0_0.length c0_0] 34 (0, 0)) (by (with_reducible repeat (first | refine blk_drewN ?_ _ | refine blk_drew ?_ | refine blk_alloc ?_ _)); exact BK163.out)) : gb163 ≠ gb164)); have n6_ := Aside0.mk ((by rw [hg]; exact Nat.ne_of_gt (blk_lt (g := gb163) (o := .cells #[.slice A0_0 l0_0.length c0_0] 34 (0, 0)) (by (with_reducible repeat (first | refine blk_drewN ?_ _ | refine blk_drew ?_ | refine blk_alloc ?_ _)); exact BK163.out)) : gb164 ≠ gb163)); clear BK163; clear HB; have BK163 := n0_; have HB := n1_; have BK164 := n2_; have GW164 := n3_; have GE164 := n4_; have NB163_164 := n5_; have NB164_163 := n6_; clear n0_ n1_ n2_ n3_ n4_ n5_ n6_; clear hb hbox hg; have hnb29 := NB163_164.out; have hnc29 := NB164_163.out; have hcz30_0 : w28.cell? ⟨gb163, 0, none⟩ = some (.slice A0_0 l0_0.length c0_0) := (blk_cell BK163.out 0).trans rfl; have hfz30_0 := blk_frozen BK163.out 0; have hcz31_0 : w28.cell? ⟨gb164, 0, none⟩ = some (.slice A1_0 l1_0.length c1_0) := (blk_cell BK164.out 0).trans rfl; have hfz31_0 := blk_frozen BK164.out 0)); try go_wp2_with (first | ((with_reducible refine gate_dst (N := 2) rfl ?_); refine box_event ?hg (N := 2) ?hd (cs := #[.slice A0_0 l0_0.length c0_0]) (t := 34) ?hr ?_; (case hd => rfl); (case hg => rfl); (case hr => first | (go_simp; done) | (go_simp; rfl)); intro gb163 hg w27 hbox hb; have n0_ := Aside0.mk (below_step (by repeat (first | (with_reducible first | exact HB.out | apply below_alloc | apply pw_below_drewN | apply below_drew1) | exact HB.out)) hb); have n1_ := Aside0.mk (hbox); have n2_ := Aside0.mk ((by rw [hg]; exact (below_size (by repeat (first | (with_reducible first | exact HB.out | apply below_alloc | apply pw_below_drewN | apply below_drew1) | exact HB.out))) : w.heap.size ≤ gb163)); have n3_ := Aside0.mk ((by rw [hg]; exact (below_size (by repeat (first | (with_reducible first | exact HB.out | apply below_alloc | apply pw_below_drewN | apply below_drew1) | exact HB.out))) : w.heap.size ≤ gb163)); clear HB; have HB := n0_; have BK163 := n1_; have GW163 := n2_; have GE163 := n3_; clear n0_ n1_ n2_ n3_; clear hb hbox hg) | ((with_reducible refine gate_dst (N := 3) rfl ?_); refine box_event ?hg (N := 3) ?hd (cs := #[.slice A1_0 l1_0.length c1_0]) (t := 34) ?hr ?_; (case hd => rfl); (case hg => rfl); (case hr => first | (go_simp; done) | (go_simp; rfl)); intro gb164 hg w28 hbox hb; have n0_ := Aside0.mk (blk_below (g := gb163) (o := .cells #[.slice A0_0 l0_0.length c0_0] 34 (0, 0)) (by (with_reducible repeat (first | refine blk_drewN ?_ _ | refine blk_drew ?_ | refine blk_alloc ?_ _)); exact BK163.out) hb); have n1_ := Aside0.mk (below_step (by repeat (first | (with_reducible first | exact HB.out | apply below_alloc | apply pw_below_drewN | apply below_drew1 | refine below_set ?_ GE163.out) | exact HB.out)) hb); have n2_ := Aside0.mk (hbox); have n3_ := Aside0.mk ((by rw [hg]; exact (below_size (by repeat (first | (with_reducible first | exact HB.out | apply below_alloc | apply pw_below_drewN | apply below_drew1 | refine below_set ?_ GE163.out) | exact HB.out))) : w.heap.size ≤ gb164)); have n4_ := Aside0.mk ((by rw [hg]; exact (below_size (by repeat (first | (with_reducible first | exact HB.out | apply below_alloc | apply pw_below_drewN | apply below_drew1 | refine below_set ?_ GE163.out) | exact HB.out))) : w.heap.size ≤ gb164)); have n5_ := Aside0.mk ((by rw [hg]; exact Nat.ne_of_lt (blk_lt (g := gb163) (o := .cells #[.slice A0_0 l0_0.length c0_0] 34 (0, 0)) (by (with_reducible repeat (first | refine blk_drewN ?_ _ | refine blk_drew ?_ | refine blk_alloc ?_ _)); exact BK163.out)) : gb163 ≠ gb164)); have n6_ := Aside0.mk ((by rw [hg]; exact Nat.ne_of_gt (blk_lt (g := gb163) (o := .cells #[.slice A0_0 l0_0.length c0_0] 34 (0, 0)) (by (with_reducible repeat (first | refine blk_drewN ?_ _ | refine blk_drew ?_ | refine blk_alloc ?_ _)); exact BK163.out)) : gb164 ≠ gb163)); clear BK163; clear HB; have BK163 := n0_; have HB := n1_; have BK164 := n2_; have GW164 := n3_; have GE164 := n4_; have NB163_164 := n5_; have NB164_163 := n6_; clear n0_ n1_ n2_ n3_ n4_ n5_ n6_; clear hb hbox hg; have hnb29 := NB163_164.out; have hnc29 := NB164_163.out; have hcz30_0 : w28.cell? ⟨gb163, 0, none⟩ = some (.slice A0_0 l0_0.length c0_0) := (blk_cell BK163.out 0).trans rfl; have hfz30_0 := blk_frozen BK163.out 0; have hcz31_0 : w28.cell? ⟨gb164, 0, none⟩ = some (.slice A1_0 l1_0.length c1_0) := (blk_cell BK164.out 0).trans rfl; have hfz31_0 := blk_frozen BK164.out 0)))
    go_ret
    exact ⟨by first | rfl | (simp [errW_none, errW_some] <;> rfl) | (simp [*, errW_none, errW_some] <;> rfl), by repeat (first | (with_reducible first | exact HB.out | apply below_alloc | apply pw_below_drewN | apply below_drew1 | refine below_set ?_ GE163.out | refine below_set ?_ GE164.out) | exact HB.out)⟩

end Go.Proofs.Ytocpcnmnhckcpaa.Prt
namespace Go.Proofs.Ytocpcnmnhckcpaa.Prt
open Go.RowKit Go.Proofs.YtocpcnmnhckcpaaW.PrintWords Go.Proofs.YtocpcnmnhckcpaaW.PrintLast Go.Proofs.YtocpcnmnhckcpaaW.PrintMore Go.Proofs.Ytocpcnmnhckcpaa.Num Go.Proofs.Ytocpcnmnhckcpaa.Nam
set_option linter.unusedVariables false
set_option linter.unusedSimpArgs false

def eqC (x y : S92) : Bool := eqL eqS x.f0 y.f0 && eqL eqS x.f1 y.f1
theorem eqC_iff (x y : S92) : eqC x y = true ↔ x = y := by
  unfold eqC
  rw [Bool.and_eq_true, eqL_iff eqS_iff, eqL_iff eqS_iff]
  cases x; cases y; simp
def lenC (x : S92) : Bool := decide (x.f0.length ≤ 9223372036854775807) && decide (x.f1.length ≤ 9223372036854775807)
theorem same06_loop (a b : List S92) (hl : a.length ≤ 9223372036854775807) (hab : a.length = b.length) (hla : a.all lenC = true) : ∀ (n i k : Nat), i + n = a.length → n < k → registrarref06_Same.l0 k (i : Int) a b = some (eqL eqC (a.drop i) (b.drop i)) := by
  intro n
  induction n with
  | zero =>
    intro i k hi hk
    obtain ⟨k, rfl⟩ : ∃ m, k = m + 1 := ⟨k - 1, by omega⟩
    rw [registrarref06_Same.l0, if_neg (by omega), List.drop_eq_nil_of_le (by omega), List.drop_eq_nil_of_le (by omega)]; rfl
  | succ n ih =>
    intro i k hi hk
    obtain ⟨k, rfl⟩ : ∃ m, k = m + 1 := ⟨k - 1, by omega⟩
    have hx := List.all_eq_true.1 hla _ (rdC_mem (l := a) (i := i) (by omega))
    unfold lenC at hx
    rw [Bool.and_eq_true, decide_eq_true_iff, decide_eq_true_iff] at hx
    have m1 : registrarref04_TextsG.f (rd_T92 a (i : Int)).f0 (rd_T92 b (i : Int)).f0 = some (eqL eqS (rd_T92 a (i : Int)).f0 (rd_T92 b (i : Int)).f0) := if_pos hx.1
    have m2 : registrarref04_TextsG.f (rd_T92 a (i : Int)).f1 (rd_T92 b (i : Int)).f1 = some (eqL eqS (rd_T92 a (i : Int)).f1 (rd_T92 b (i : Int)).f1) := if_pos hx.2
    rw [registrarref06_Same.l0, if_pos (by omega), if_pos (by omega), if_pos (by omega), m1, m2, drop_rdC a i (by omega), drop_rdC b i (by omega), eqL]
    simp only [Option.bind_some]
    unfold eqC
    cases eqL eqS (rd_T92 a (i : Int)).f0 (rd_T92 b (i : Int)).f0 with
    | true =>
      cases eqL eqS (rd_T92 a (i : Int)).f1 (rd_T92 b (i : Int)).f1 with
      | true => rw [if_pos rfl, if_pos rfl, succW i (by omega), ih (i + 1) k (by omega) (by omega)]; rfl
      | false => rfl
    | false => rfl
def registrarref06_SameG.f (l0_0 : List (S92)) (l1_0 : List (S92)) : Option (Bool) := if l0_0.length ≤ 9223372036854775807 ∧ l0_0.all lenC = true then some (eqL eqC l0_0 l1_0) else none
theorem registrarref06_SameG.val {l0_0 l1_0 : List (S92)} {r : Bool} (h : registrarref06_SameG.f l0_0 l1_0 = some r) : ∃ k, registrarref06_Same.f k l0_0 l1_0 = some r := by
  unfold registrarref06_SameG.f at h
  by_cases hc : l0_0.length ≤ 9223372036854775807 ∧ l0_0.all lenC = true
  · rw [if_pos hc] at h
    rw [← h]
    refine ⟨l0_0.length + 1, ?_⟩
    unfold registrarref06_Same.f
    by_cases hl : l0_0.length = l1_0.length
    · rw [if_pos (by omega)]
      exact same06_loop l0_0 l1_0 hc.1 hl hc.2 l0_0.length 0 (l0_0.length + 1) (by omega) (by omega)
    · rw [if_neg (by omega), eqL_len _ _ hl]
  · rw [if_neg hc] at h; cases h
theorem registrarref06_SameG.calls (A0_0 : Option Addr) (c0_0 : Nat) (l0_0 : List (S92)) (A1_0 : Option Addr) (c1_0 : Nat) (l1_0 : List (S92)) (r : Bool) (w : World) (hr0_0 : Kd.C k92 w A0_0 l0_0.length l0_0) (hc0_0 : l0_0.length ≤ c0_0) (hr1_0 : Kd.C k92 w A1_0 l1_0.length l1_0) (hc1_0 : l1_0.length ≤ c1_0) (h : registrarref06_SameG.f l0_0 l1_0 = some r) :
    Calls Try.prog 21 #[.agg #[.slice A0_0 l0_0.length c0_0], .agg #[.slice A1_0 l1_0.length c1_0]] w fun e w' => e = .returned (.bool r) ∧ Below w.heap.size w w' := by
  obtain ⟨k, hk⟩ := registrarref06_SameG.val h
  exact registrarref06_Same.calls k A0_0 c0_0 l0_0 A1_0 c1_0 l1_0 r w hr0_0 hc0_0 hr1_0 hc1_0 hk
end Go.Proofs.Ytocpcnmnhckcpaa.Prt
namespace Go.Proofs.Ytocpcnmnhckcpaa.Prt
open Go.RowKit Go.Proofs.YtocpcnmnhckcpaaW.PrintWords Go.Proofs.YtocpcnmnhckcpaaW.PrintLast Go.Proofs.YtocpcnmnhckcpaaW.PrintMore Go.Proofs.Ytocpcnmnhckcpaa.Num Go.Proofs.Ytocpcnmnhckcpaa.Nam
set_option linter.unusedVariables false
set_option linter.unusedSimpArgs false
/-- The worlds in which what lay below lies as it did. -/
def Wc (w0 : World) : Type := {W : World // Below w0.heap.size w0 W}
instance wcNonempty (w0 : World) : Nonempty (Wc w0) := ⟨⟨w0, Below.refl _ _⟩⟩
theorem region_class {P : Program} {w0 : World} {id : Nat} {Q : Exit → Act → World → Prop} {a : Act} {w : World} {l : List Oper} (hm : P.follows .mixedOrders = true) (hB : Region.lexB .any l.toArray = true) (hw : Below w0.heap.size w0 w)
    (h : wpQuiet P l.toArray (fun W => ∃ n : Wc w0, W = n.1) (fun a' => ∀ w', (∃ n : Wc w0, w' = n.1) → Q .normal a' w') l a) : (Code.region id l.toArray true).wp P Q a w :=
  wp_region_quiet (C := fun W => ∃ n : Wc w0, W = n.1) hm hB ⟨⟨_, hw.drew⟩, rfl⟩ (by simpa using h)
def eqT (x y : S36) : Bool := decide (x.f0 = y.f0) && (decide (x.f1 = y.f1) && (decide (x.f2 = y.f2) && (decide (x.f3 = y.f3) && (decide (x.f4 = y.f4) && (eqE x.f5 y.f5 && eqL eqC x.f6.f0 y.f6.f0)))))
theorem eqT_iff (x y : S36) : eqT x y = true ↔ x = y := by
  unfold eqT
  simp only [Bool.and_eq_true, decide_eq_true_iff]
  rw [eqE_iff, eqL_iff eqC_iff]
  obtain ⟨x0, x1, x2, x3, x4, x5, ⟨x6⟩⟩ := x
  obtain ⟨y0, y1, y2, y3, y4, y5, ⟨y6⟩⟩ := y
  simp
theorem str_same (s : ByteArray) : (s.toList == s.toList) = true := by simp
theorem str_ne {s t : ByteArray} (h : s ≠ t) : (s.toList == t.toList) = false := by rw [str_beq']; exact decide_eq_false h
theorem str_nb {s t : ByteArray} (h : s ≠ t) : (s.toList != t.toList) = true := by unfold bne; rw [str_ne h]; rfl
theorem eqT_step {x y : S36} : ∀ {a b : List S36}, eqL eqT (x :: a) (y :: b) = (eqT x y && eqL eqT a b) := rfl
/-- What the comparison asks of a step's size. -/
def LenS (t : S36) : Prop := t.f5.f2.length ≤ 1000000 ∧ t.f5.f3.length ≤ 1000000 ∧ t.f6.f0.length ≤ 1000000 ∧ t.f6.f0.all lenC = true
set_option maxRecDepth 100000 in
set_option maxHeartbeats 8000000 in
theorem same_calls22 (A : Option Addr) (c : Nat) (l : List S36) (A' : Option Addr) (c' : Nat) (l' : List S36) (w : World) (hC : Kd.C k36 w A l.length l) (hc : l.length ≤ c) (hC' : Kd.C k36 w A' l'.length l') (hc' : l'.length ≤ c') (hl : ∀ t ∈ l, LenS t) (r : Bool) (hr : eqL eqT l l' = r) :
    Calls Try.prog 11 #[.slice A l.length c, .slice A' l'.length c'] w fun e w' => e = .returned (.bool r) ∧ Below w.heap.size w w' := by
  have hm1 := Kd.C_max hC
  have hm2 := Kd.C_max hC'
  have HC := Aside0.mk hC
  have HD := Aside0.mk hC'
  have HL := Aside0.mk hl
  have HR := Aside0.mk hr
  clear hC hc hC' hc' hl hr
  have hu36 := Try.underlying36
  have hu31 := Try.underlying31
  have hu34 := Try.underlying34
  by_cases hln : l.length = l'.length
  case neg =>
    have hd : decide ((l.length : Int) = (l'.length : Int)) = false := decide_eq_false (by omega)
    have hr := HR.out
    rw [eqL_len l l' hln] at hr
    subst hr
    clear HR HC HD HL
    go_enter Try.func11, Try.ntmps11
    go_wp2
    go_ret
    exact ⟨rfl, Below.refl _ _⟩
  have hd : decide ((l.length : Int) = (l'.length : Int)) = true := decide_eq_true (by omega)
  have HLN := Aside0.mk hln
  go_enter Try.func11, Try.ntmps11
  go_upto_region 4 with (fail)
  clear hd hln
  go_loopg [5] l.length (fun gk v5 w' => ∃ i : Nat, v5 = .int .i64 (i : Int) ∧ Aside0 (i + gk = l.length) ∧ Aside0 (eqL eqT (l.drop i) (l'.drop i) = r) ∧ Aside0 (Below w.heap.size w w'))
  case atStart => exact ⟨0, rfl, ⟨by omega⟩, HR, ⟨Below.refl _ _⟩⟩
  case round =>
    clear HR
    obtain ⟨i, rfl, HE, HR, HB⟩ := hrel
    by_cases hlt : i < l.length
    · have hb1 : decide ((i : Int) < (l.length : Int)) = true := decide_eq_true (by omega)
      have hlt' : i < l'.length := by have := HLN.out; omega
      obtain ⟨ad, A7, c7, A8, c8, A9, c9, e_, hx0, hx1, hx2, hx3, hx4, hx5, hx6, hx7, hx8, hx9, l7, g7, l8, g8, l9, g9⟩ := at_T36 HC.out (i : Int) (by omega) (by omega)
      obtain ⟨bd, B7, d7, B8, d8, B9, d9, f_, hy0, hy1, hy2, hy3, hy4, hy5, hy6, hy7, hy8, hy9, m7, j7, m8, j8, m9, j9⟩ := at_T36 HD.out (i : Int) (by omega) (by omega)
      cases e_
      cases f_
      rw [Int.toNat_natCast] at hx0 hx1 hx2 hx3 hx4 hx5 hx6 hx7 hx8 hx9 hy0 hy1 hy2 hy3 hy4 hy5 hy6 hy7 hy8 hy9
      have hdr := HR.out
      rw [drop_rdS l i hlt, drop_rdS l' i hlt', eqT_step] at hdr
      have hls := HL.out _ (rdS_mem hlt)
      obtain ⟨x, hxd⟩ : ∃ x, x = rd_T36 l (i : Int) := ⟨_, rfl⟩
      obtain ⟨y, hyd⟩ : ∃ y, y = rd_T36 l' (i : Int) := ⟨_, rfl⟩
      rw [← hxd] at hx0 hx1 hx2 hx3 hx4 hx5 hx6 hx7 hx8 hx9 l7 g7 l8 g8 l9 g9 hdr hls
      rw [← hyd] at hy0 hy1 hy2 hy3 hy4 hy5 hy6 hy7 hy8 hy9 m7 j7 m8 j8 m9 j9 hdr
      clear hxd hyd HR
      obtain ⟨x0, x1, x2, x3, x4, ⟨xs, xt, xg, xf⟩, ⟨xq⟩⟩ := x
      obtain ⟨y0, y1, y2, y3, y4, ⟨ys, yt, yg, yf⟩, ⟨yq⟩⟩ := y
      simp only at hx0 hx1 hx2 hx3 hx4 hx5 hx6 hx7 hx8 hx9 hy0 hy1 hy2 hy3 hy4 hy5 hy6 hy7 hy8 hy9 l7 g7 l8 g8 l9 g9 m7 j7 m8 j8 m9 j9
      have HSC := Aside0.mk (And.intro (And.intro g7 (And.intro l7 (And.intro g8 (And.intro l8 (And.intro g9 l9))))) (And.intro j7 (And.intro m7 (And.intro j8 (And.intro m8 (And.intro j9 m9))))))
      obtain ⟨v, hv⟩ : ∃ v, eqE ⟨xs, xt, xg, xf⟩ ⟨ys, yt, yg, yf⟩ = v := ⟨_, rfl⟩
      obtain ⟨q, hq⟩ : ∃ q, eqL eqC xq yq = q := ⟨_, rfl⟩
      have HV := Aside0.mk (show registrarref04_SameG.f xs xt xg xf ys yt yg yf = some v by
        obtain ⟨z1, z2, z3, z4⟩ := hls
        simp only at z1 z2
        rw [← hv]
        exact if_pos ⟨by omega, by omega⟩)
      have HQ := Aside0.mk (show registrarref06_SameG.f xq yq = some q by
        obtain ⟨z1, z2, z3, z4⟩ := hls
        simp only at z3 z4
        rw [← hq]
        exact if_pos ⟨by omega, z4⟩)
      have HDR : Aside0 (((decide (x0 = y0) && (decide (x1 = y1) && (decide (x2 = y2) && (decide (x3 = y3) && (decide (x4 = y4) && (v && q)))))) && eqL eqT (l.drop (i + 1)) (l'.drop (i + 1))) = r) := ⟨by rw [← hdr, ← hv, ← hq]; rfl⟩
      clear hdr hls hv hq l7 g7 l8 g8 l9 g9 m7 j7 m8 j8 m9 j9
      have hib : (i : Int) * 10 ≤ 92233720368547758070 := by omega
      have cx0 : ∀ n : Wc w, n.1.cell? _ = _ := fun n => pw_cell_below n.2 hx0
      have cx1 : ∀ n : Wc w, n.1.cell? _ = _ := fun n => pw_cell_below n.2 hx1
      have cx2 : ∀ n : Wc w, n.1.cell? _ = _ := fun n => pw_cell_below n.2 hx2
      have cx3 : ∀ n : Wc w, n.1.cell? _ = _ := fun n => pw_cell_below n.2 hx3
      have cx4 : ∀ n : Wc w, n.1.cell? _ = _ := fun n => pw_cell_below n.2 hx4
      have cx5 : ∀ n : Wc w, n.1.cell? _ = _ := fun n => pw_cell_below n.2 hx5
      have cx6 : ∀ n : Wc w, n.1.cell? _ = _ := fun n => pw_cell_below n.2 hx6
      have cx7 : ∀ n : Wc w, n.1.cell? _ = _ := fun n => pw_cell_below n.2 hx7
      have cx8 : ∀ n : Wc w, n.1.cell? _ = _ := fun n => pw_cell_below n.2 hx8
      have cx9 : ∀ n : Wc w, n.1.cell? _ = _ := fun n => pw_cell_below n.2 hx9
      have cy0 : ∀ n : Wc w, n.1.cell? _ = _ := fun n => pw_cell_below n.2 hy0
      have cy1 : ∀ n : Wc w, n.1.cell? _ = _ := fun n => pw_cell_below n.2 hy1
      have cy2 : ∀ n : Wc w, n.1.cell? _ = _ := fun n => pw_cell_below n.2 hy2
      have cy3 : ∀ n : Wc w, n.1.cell? _ = _ := fun n => pw_cell_below n.2 hy3
      have cy4 : ∀ n : Wc w, n.1.cell? _ = _ := fun n => pw_cell_below n.2 hy4
      have cy5 : ∀ n : Wc w, n.1.cell? _ = _ := fun n => pw_cell_below n.2 hy5
      have cy6 : ∀ n : Wc w, n.1.cell? _ = _ := fun n => pw_cell_below n.2 hy6
      have cy7 : ∀ n : Wc w, n.1.cell? _ = _ := fun n => pw_cell_below n.2 hy7
      have cy8 : ∀ n : Wc w, n.1.cell? _ = _ := fun n => pw_cell_below n.2 hy8
      have cy9 : ∀ n : Wc w, n.1.cell? _ = _ := fun n => pw_cell_below n.2 hy9
      clear hx0 hx1 hx2 hx3 hx4 hx5 hx6 hx7 hx8 hx9 hy0 hy1 hy2 hy3 hy4 hy5 hy6 hy7 hy8 hy9
      have HQV : Aside0 (∀ n : Wc w, Calls Try.prog 20 #[.agg #[.string xs, .string xt, .slice A7 xg.length c7, .slice A8 xf.length c8], .agg #[.string ys, .string yt, .slice B7 yg.length d7, .slice B8 yf.length d8]] n.1 fun e w'' => e = .returned (.bool v) ∧ ∃ m : Wc w, w'' = m.1) := ⟨fun n => by
        obtain ⟨⟨g7, l7, g8, l8, g9, l9⟩, ⟨j7, m7, j8, m8, j9, m9⟩⟩ := HSC.out
        refine (registrarref04_SameG.calls xs xt A7 c7 xg A8 c8 xf ys yt B7 d7 yg B8 d8 yf v n.1 (Kd.C_below g7 n.2) l7 (Kd.C_below g8 n.2) l8 (Kd.C_below j7 n.2) m7 (Kd.C_below j8 n.2) m8 HV.out).mono ?_
        rintro e w' ⟨rfl, hb⟩
        exact ⟨rfl, ⟨w', below_step n.2 hb⟩, rfl⟩⟩
      have HQQ : Aside0 (∀ n : Wc w, Calls Try.prog 21 #[.agg #[.slice A9 xq.length c9], .agg #[.slice B9 yq.length d9]] n.1 fun e w'' => e = .returned (.bool q) ∧ ∃ m : Wc w, w'' = m.1) := ⟨fun n => by
        obtain ⟨⟨g7, l7, g8, l8, g9, l9⟩, ⟨j7, m7, j8, m8, j9, m9⟩⟩ := HSC.out
        refine (registrarref06_SameG.calls A9 c9 xq B9 d9 yq q n.1 (Kd.C_below g9 n.2) l9 (Kd.C_below j9 n.2) m9 HQ.out).mono ?_
        rintro e w' ⟨rfl, hb⟩
        exact ⟨rfl, ⟨w', below_step n.2 hb⟩, rfl⟩⟩
      clear HSC HV HQ
      go_upto_region 6 with (fail)
      refine region_class (w0 := w) (by kernel_rfl) (by kernel_rfl) HB.out ?_
      repeat (go_big_quiet_step (exact HQV.out _))
      refine wpQuiet_nil ?_
      rintro w2 ⟨n1, hw2⟩
      have HB2 := Aside0.mk (show Below w.heap.size w w2 by rw [hw2]; exact n1.2)
      clear hw2 n1 HQV HB
      go_upto_region 7 with (fail)
      refine region_class (w0 := w) (by kernel_rfl) (by kernel_rfl) HB2.out ?_
      repeat (go_big_quiet_step (exact HQQ.out _))
      refine wpQuiet_nil ?_
      rintro w3 ⟨n2, hw3⟩
      have HB3 := Aside0.mk (show Below w.heap.size w w3 by rw [hw3]; exact n2.2)
      clear hw3 n2 HQQ HB2
      go_upto_region 8 with (fail)
      by_cases e0 : x0 = y0
      case neg =>
        have hd0 : (x0 != y0) = true := bne_iff_ne.mpr e0
        refine region_class (w0 := w) (by kernel_rfl) (by kernel_rfl) HB3.out ?_
        simp only [List.cons_append, List.nil_append, List.append_eq]
        repeat (go_big_quiet_step (fail))
        refine wpQuiet_nil ?_
        rintro w4 ⟨n3, hw4⟩
        have HB4 := Aside0.mk (show Below w.heap.size w w4 by rw [hw4]; exact n3.2)
        clear hw4 n3 HB3
        obtain rfl : false = r := by rw [← HDR.out]; simp [e0]
        clear HDR
        go_wp2_with fail
        go_ret
        exact ⟨rfl, HB4.out⟩
      subst e0
      by_cases e1 : x1 = y1
      case neg =>
        have hd1 : (x1 != y1) = true := bne_iff_ne.mpr e1
        refine region_class (w0 := w) (by kernel_rfl) (by kernel_rfl) HB3.out ?_
        simp only [List.cons_append, List.nil_append, List.append_eq]
        repeat (go_big_quiet_step (fail))
        refine wpQuiet_nil ?_
        rintro w4 ⟨n3, hw4⟩
        have HB4 := Aside0.mk (show Below w.heap.size w w4 by rw [hw4]; exact n3.2)
        clear hw4 n3 HB3
        obtain rfl : false = r := by rw [← HDR.out]; simp [e1]
        clear HDR
        go_wp2_with fail
        go_ret
        exact ⟨rfl, HB4.out⟩
      subst e1
      by_cases e2 : x2 = y2
      case neg =>
        have hd2 : (x2 != y2) = true := bne_iff_ne.mpr e2
        refine region_class (w0 := w) (by kernel_rfl) (by kernel_rfl) HB3.out ?_
        simp only [List.cons_append, List.nil_append, List.append_eq]
        repeat (go_big_quiet_step (fail))
        refine wpQuiet_nil ?_
        rintro w4 ⟨n3, hw4⟩
        have HB4 := Aside0.mk (show Below w.heap.size w w4 by rw [hw4]; exact n3.2)
        clear hw4 n3 HB3
        obtain rfl : false = r := by rw [← HDR.out]; simp [e2]
        clear HDR
        go_wp2_with fail
        go_ret
        exact ⟨rfl, HB4.out⟩
      subst e2
      by_cases e3 : x3 = y3
      case neg =>
        have hd3 : (x3 != y3) = true := bne_iff_ne.mpr e3
        refine region_class (w0 := w) (by kernel_rfl) (by kernel_rfl) HB3.out ?_
        simp only [List.cons_append, List.nil_append, List.append_eq]
        repeat (go_big_quiet_step (fail))
        refine wpQuiet_nil ?_
        rintro w4 ⟨n3, hw4⟩
        have HB4 := Aside0.mk (show Below w.heap.size w w4 by rw [hw4]; exact n3.2)
        clear hw4 n3 HB3
        obtain rfl : false = r := by rw [← HDR.out]; simp [e3]
        clear HDR
        go_wp2_with fail
        go_ret
        exact ⟨rfl, HB4.out⟩
      subst e3
      by_cases e4 : x4 = y4
      case neg =>
        have hd4 := str_ne e4
        have he4 := str_nb e4
        refine region_class (w0 := w) (by kernel_rfl) (by kernel_rfl) HB3.out ?_
        simp only [List.cons_append, List.nil_append, List.append_eq]
        repeat (go_big_quiet_step (fail))
        refine wpQuiet_nil ?_
        rintro w4 ⟨n3, hw4⟩
        have HB4 := Aside0.mk (show Below w.heap.size w w4 by rw [hw4]; exact n3.2)
        clear hw4 n3 HB3
        obtain rfl : false = r := by rw [← HDR.out]; simp [e4]
        clear HDR
        go_wp2_with fail
        go_ret
        exact ⟨rfl, HB4.out⟩
      subst e4
      have hd4 := str_same x4
      have he4 : (x4.toList != x4.toList) = false := by unfold bne; rw [hd4]; rfl
      cases v with
      | false =>
        refine region_class (w0 := w) (by kernel_rfl) (by kernel_rfl) HB3.out ?_
        simp only [List.cons_append, List.nil_append, List.append_eq]
        repeat (go_big_quiet_step (fail))
        refine wpQuiet_nil ?_
        rintro w4 ⟨n3, hw4⟩
        have HB4 := Aside0.mk (show Below w.heap.size w w4 by rw [hw4]; exact n3.2)
        clear hw4 n3 HB3
        obtain rfl : false = r := by rw [← HDR.out]; simp
        clear HDR
        go_wp2_with fail
        go_ret
        exact ⟨rfl, HB4.out⟩
      | true =>
        cases q with
        | false =>
          refine region_class (w0 := w) (by kernel_rfl) (by kernel_rfl) HB3.out ?_
          simp only [List.cons_append, List.nil_append, List.append_eq]
          repeat (go_big_quiet_step (fail))
          refine wpQuiet_nil ?_
          rintro w4 ⟨n3, hw4⟩
          have HB4 := Aside0.mk (show Below w.heap.size w w4 by rw [hw4]; exact n3.2)
          clear hw4 n3 HB3
          obtain rfl : false = r := by rw [← HDR.out]; simp
          clear HDR
          go_wp2_with fail
          go_ret
          exact ⟨rfl, HB4.out⟩
        | true =>
          refine region_class (w0 := w) (by kernel_rfl) (by kernel_rfl) HB3.out ?_
          simp only [List.cons_append, List.nil_append, List.append_eq]
          repeat (go_big_quiet_step (fail))
          refine wpQuiet_nil ?_
          rintro w4 ⟨n3, hw4⟩
          have HB4 := Aside0.mk (show Below w.heap.size w w4 by rw [hw4]; exact n3.2)
          clear hw4 n3 HB3
          have HR2 : Aside0 (eqL eqT (l.drop (i + 1)) (l'.drop (i + 1)) = r) := ⟨by have := HDR.out; simpa using this⟩
          clear HDR
          go_wp2_with fail
          go_roundg (l.length - (i + 1))
          case measure => have := HE.out; omega
          case rel => exact ⟨i + 1, by go_num, ⟨by have := HE.out; omega⟩, HR2, HB4⟩
    · have hb1 : decide ((i : Int) < (l.length : Int)) = false := decide_eq_false (by omega)
      have hr := HR.out
      rw [List.drop_eq_nil_of_le (by omega), List.drop_eq_nil_of_le (by have := HLN.out; omega)] at hr
      obtain rfl : true = r := hr
      clear HR
      go_wp2_with fail
      go_ret
      exact ⟨rfl, HB.out⟩
end Go.Proofs.Ytocpcnmnhckcpaa.Prt
namespace Go.Proofs.Ytocpcnmnhckcpaa.Prt
open Go.RowKit Go.Proofs.YtocpcnmnhckcpaaW.PrintWords Go.Proofs.YtocpcnmnhckcpaaW.PrintLast Go.Proofs.YtocpcnmnhckcpaaW.PrintMore Go.Proofs.Ytocpcnmnhckcpaa.Num Go.Proofs.Ytocpcnmnhckcpaa.Nam
set_option linter.unusedVariables false
set_option linter.unusedSimpArgs false
/-- The widest fence, in a round or in none. -/
def Fw (ro : Option Nat) : Fence := { Fence.wide with round := ro }
theorem Fw_calls {ro : Option Nat} {n : Nat} {P : Program} {f : FuncId} {args : Array Value} {w : World} {R : Ending → World → Prop} (h : Calls P f args w R) : CallsIn (Fw ro) n P f args w R := by
  cases ro with
  | none => exact callsIn_wide.2 h
  | some l => exact CallsIn.inRound l (callsIn_wide.2 h)
section
variable {P : Program} {ops : Array Oper} {C : World → Prop} {ro : Option Nat} {n : Nat}
theorem quiet_wpIn {o : Oper} {a : Act} {K : Act → Prop} {K' : Act → World → Prop} {Q' : Exit → Act → World → Prop} {w : World} (hs : ∀ c, o.op ≠ .defer c) (hw : C w) (h : ∀ a w', C w' → K a → K' a w') (hh : o.quiet P a C K) : o.wpIn (Fw ro) n P a w K' Q' := by
  obtain ⟨v, h1, h2⟩ := hh
  have h3 := h1 w hw
  unfold Oper.quietAt at h3
  refine ⟨fun _ _ => trivial, ?_⟩
  rw [show (Fw ro).round = ro from rfl, Oper.semAt_eq ro a.eval o hs]
  generalize (execOp a.eval o).run P w = r at *
  cases r with
  | ok nx w' =>
    cases nx <;> simp only [Oper.quietUpon] at h3 <;> simp only [Oper.uponIn]
    case value u =>
      obtain ⟨e1, e2⟩ := h3
      rw [e1, e2]
      exact h _ _ hw h2
    case skip =>
      obtain ⟨e1, e2⟩ := h3
      rw [e1, ← e2]
      exact h _ _ hw h2
    case enter f args =>
      obtain ⟨e1, hc⟩ := h3
      rw [e1]
      refine ⟨fun hd => (by cases hd), (Fw_calls hc).mono fun e w'' ⟨he, hw''⟩ => ?_⟩
      subst he
      exact h _ _ hw'' h2
  | halt x w' => simp only [Oper.quietUpon] at h3
theorem qOp_wpIn {i : Nat} {a : Act} {K : Act → Prop} {K' : Act → World → Prop} {Q' : Exit → Act → World → Prop} {w : World} (hs : ∀ o ∈ ops.toList, ∀ c, o.op ≠ .defer c) (hC : C w) (h : ∀ a w', C w' → K a → K' a w') (hh : qOp P ops C i K a) : wpOpIn (Fw ro) n P ops Q' i K' a w := by
  unfold qOp at hh
  unfold wpOpIn
  split
  · rename_i ho; simp only [ho] at hh; exact h _ _ hC hh
  · rename_i o ho
    simp only [ho] at hh
    split
    · rename_i hw; simp only [hw, if_true] at hh; exact quiet_wpIn (hs o (Array.mem_toList_iff.2 (Array.mem_of_getElem? ho))) hC h hh
    · rename_i hw; simp only [hw] at hh; exact ⟨fun _ _ => trivial, h _ _ hC hh⟩
theorem wpAnyIn_of_quiet {md : Region.Mode} {Q : Act → Prop} {Q' : Exit → Act → World → Prop} (hs : ∀ o ∈ ops.toList, ∀ c, o.op ≠ .defer c) (hQ : ∀ a w, C w → Q a → Q' .normal a w) : ∀ (fuel : Nat) (listed : Array Bool) (a : Act) (w : World), C w →
    wpAnyQ P md ops C Q fuel listed a → wpAnyIn (Fw ro) n P md ops Q' fuel listed a w
  | 0, _, _, _, hw, h => ⟨h.1, hQ _ _ hw h.2⟩
  | fuel + 1, _, _, _, hw, h => ⟨fun h0 => hQ _ _ hw (h.1 h0), fun i hi => qOp_wpIn hs hw (fun a' w' hw' => wpAnyIn_of_quiet hs hQ fuel _ a' w' hw') (h.2 i hi)⟩
theorem region_classIn {w0 : World} {id : Nat} {Q : Exit → Act → World → Prop} {a : Act} {w : World} {l : List Oper} (hm : P.follows .mixedOrders = true) (hB : Region.lexB .any l.toArray = true) (hs : ∀ o ∈ l, ∀ c, o.op ≠ .defer c) (hw : Below w0.heap.size w0 w)
    (h : wpQuiet P l.toArray (fun W => ∃ n : Wc w0, W = n.1) (fun a' => ∀ w', (∃ n : Wc w0, w' = n.1) → Q .normal a' w') l a) : (Code.region id l.toArray true).wpIn (Fw ro) n P Q a w := by
  have hB' := hB
  simp only [Region.lexB, Bool.and_eq_true] at hB
  refine wpIn_region_any hm (wpAnyIn_of_quiet (C := fun W => ∃ n : Wc w0, W = n.1) (Q := fun a' => ∀ w', (∃ n : Wc w0, w' = n.1) → Q .normal a' w') (by simpa using hs) (fun _ w' hw' h => h w' hw') _ _ _ _ ⟨⟨_, hw.drew⟩, rfl⟩ ?_)
  have := wpAnyQ_lex (C := fun W => ∃ n : Wc w0, W = n.1) (md := .any) hB.1 l 0 (Array.replicate l.toArray.size false) a (by simp) (by simpa using hB.2) h
  simpa using this
end
set_option maxRecDepth 100000 in
theorem chunk_calls (A : Option Addr) (n c : Nat) (w : World) :
    Calls Try.prog 42 #[.slice A n c, .int .i64 2] w fun e w' => ∃ g h, e = .returned (.func (.func 58) #[] #[.pointer (some ⟨g, 0, none⟩), .pointer (some ⟨h, 0, none⟩)]) ∧ w'.heap[g]? = some (.cells #[.slice A n c] 41 (0, 0)) ∧ w'.heap[h]? = some (.cells #[.int .i64 2] 3 (0, 0)) ∧ w.heap.size ≤ g ∧ w.heap.size ≤ h ∧ Below w.heap.size w w' := by
  go_enter Try.func42, Try.ntmps42
  go_upto_region 1 with (first | ((with_reducible refine gate_dst (N := 2) rfl ?_); (try (refine gate_guard (by rfl) ?_; dsimp only)); refine box_event ?hg (N := 2) ?hd (cs := #[.slice A n c]) (t := 41) ?hr ?_; (case hd => rfl); (case hg => rfl); (case hr => first | (go_simp; done) | (go_simp; rfl)); intro X hg_ w1 hbox_ hb_; have HX := Aside0.mk hbox_; have HXN := Aside0.mk hg_; have HXB := Aside0.mk hb_; clear hbox_ hg_ hb_) | ((with_reducible refine gate_dst (N := 3) rfl ?_); (try (refine gate_guard (by rfl) ?_; dsimp only)); refine box_event ?hg (N := 3) ?hd (cs := #[.int .i64 2]) (t := 3) ?hr ?_; (case hd => rfl); (case hg => rfl); (case hr => first | (go_simp; done) | (go_simp; rfl)); intro Y hg_ w2 hbox_ hb_; have HY := Aside0.mk hbox_; have HYN := Aside0.mk hg_; have HYB := Aside0.mk hb_; clear hbox_ hg_ hb_; have hy0 := blk_cell HY.out 0; have hf0 := blk_frozen HY.out 0))
  go_wp2
  go_ret
  exact ⟨X, Y, rfl, blk_below HX.out HYB.out, HY.out, by rw [HXN.out]; exact Nat.le_refl _, by rw [HYN.out]; exact HXB.out.size, below_step HXB.out HYB.out⟩
end Go.Proofs.Ytocpcnmnhckcpaa.Prt
namespace Go.Proofs.Ytocpcnmnhckcpaa.Prt
open Go.RowKit Go.Proofs.YtocpcnmnhckcpaaW.PrintWords Go.Proofs.YtocpcnmnhckcpaaW.PrintLast Go.Proofs.YtocpcnmnhckcpaaW.PrintMore Go.Proofs.Ytocpcnmnhckcpaa.Num Go.Proofs.Ytocpcnmnhckcpaa.Nam Go.Shelf
set_option linter.unusedVariables false
set_option linter.unusedSimpArgs false
theorem Fw_round (ro : Option Nat) : (Fw ro).round = ro := rfl
theorem Fw_depth (ro : Option Nat) : (Fw ro).depth = none := rfl
theorem Fw_fn (ro : Option Nat) (f : FuncId) : (Fw ro).fn f = True := rfl
attribute [local go_sem] Oper.semAt_some Fw_round Fw_depth Fw_fn
/-- The k-th piece of two. -/
def pieceV (ad : Addr) (m : Nat) (k : Nat) : Value := .slice (some (ad.add (2 * min k (m - 1)))) 2 2
/-- What a round must keep: the iterator's two boxes. -/
def Kc (Bs Bn : Nat) (A B : World) : Prop := B.heap[Bs]? = A.heap[Bs]? ∧ B.heap[Bn]? = A.heap[Bn]?
theorem Kc.trans {Bs Bn : Nat} {A B C : World} (h : Kc Bs Bn A B) (k : Kc Bs Bn B C) : Kc Bs Bn A C := ⟨k.1.trans h.1, k.2.trans h.2⟩
theorem Kc.of_below {Bs Bn : Nat} {A B : World} (h : Below A.heap.size A B) (h1 : Bs < A.heap.size) (h2 : Bn < A.heap.size) : Kc Bs Bn A B := ⟨h.block Bs h1, h.block Bn h2⟩
set_option maxRecDepth 100000 in
set_option maxHeartbeats 4000000 in
theorem chunk1_in (n : Nat) (l Bs Bn : Nat) (ad : Addr) (m c : Nat) (hm : 2 * m ≤ 1000000000) (hmc : 2 * m ≤ c) (J Jx : List Nat → World → Prop)
    (hY : ∀ pre x W, J pre W → pre.length < m → YieldAt (Fw none) (n - 1) Try.prog l #[pieceV ad m x] W fun e W' =>
      (e = .returned (.bool true) ∧ J (pre ++ [x]) W' ∧ Kc Bs Bn W W') ∨ (e = .returned (.bool false) ∧ Jx (pre ++ [x]) W'))
    (hJd : ∀ pre W W', J pre W → Below W.heap.size W W' → J pre W')
    (W : World) (hs : W.heap[Bs]? = some (.cells #[.slice (some ad) (2 * m) c] 41 (0, 0))) (hn : W.heap[Bn]? = some (.cells #[.int .i64 2] 3 (0, 0))) (h0 : J [] W) :
    CallsIn (Fw none) n Try.prog 58 #[.func (.yield l) #[] #[], .pointer (some ⟨Bs, 0, none⟩), .pointer (some ⟨Bn, 0, none⟩)] W fun e W' => (∃ v, e = .returned v) ∧
      ((∃ ys, ys = List.range m ∧ J ys W') ∨ (∃ pre, (∃ k, k ≤ m ∧ pre = List.range k) ∧ Jx pre W')) := by
  refine callsIn_of_wp Try.func58 rfl trivial ?_ rfl
  simp only [Try.ntmps58, List.size_toArray, List.length_cons, List.length_nil, Nat.reduceAdd, Nat.reduceSub, Array.replicate_succ, Array.replicate_zero, List.push_toArray, List.append_toArray, List.nil_append, List.cons_append]
  gi_wp2
  gi_loopw [4] (fun i wr => ∃ k : Nat, k ≤ m ∧ i = .int .i64 ((2 * k : Nat) : Int) ∧ J (List.range k) wr ∧ Kc Bs Bn W wr)
    (fun i _ => 2 * m - (intOf i).toNat)
  case atStart => exact ⟨0, Nat.zero_le _, rfl, h0, rfl, rfl⟩
  case round =>
    obtain ⟨k, hk, rfl, hJs, hnx⟩ := hrel
    have hs1 := blk_cell (hnx.1.trans hs) 0
    have hn1 := blk_cell (hnx.2.trans hn) 0
    by_cases hlt : k < m
    · have hb1 : decide (((2 * k : Nat) : Int) < ((2 * m : Nat) : Int)) = true := decide_eq_true (by omega)
      gi_wp2
      have q1 : ∀ q : Wc wr, q.1.cell? ⟨Bs, 0, none⟩ = some (.slice (some ad) (2 * m) c) := fun q => pw_cell_below q.2 (hs1.trans rfl)
      have q2 : ∀ q : Wc wr, q.1.cell? ⟨Bn, 0, none⟩ = some (.int .i64 2) := fun q => pw_cell_below q.2 (hn1.trans rfl)
      refine region_classIn (w0 := wr) (by kernel_rfl) (by kernel_rfl) (by simp) (Below.refl _ _) ?_
      repeat (go_big_quiet_step (fail))
      have e2 : min (2 : Int) ((2 * m - 2 * k : Nat) : Int) = 2 := by omega
      rw [e2]
      refine wpQuiet_nil ?_
      rintro w3 ⟨q, hw3⟩
      have hB3 : Below wr.heap.size wr w3 := by rw [hw3]; exact q.2
      have hs3 : w3.cell? ⟨Bs, 0, none⟩ = some (.slice (some ad) (2 * m) c) := pw_cell_below hB3 (hs1.trans rfl)
      have hn3 : w3.cell? ⟨Bn, 0, none⟩ = some (.int .i64 2) := pw_cell_below hB3 (hn1.trans rfl)
      have hJ3 := hJd _ _ _ hJs hB3
      have hnx3 : Kc Bs Bn W w3 := hnx.trans (Kc.of_below hB3 (blk_lt (hnx.1.trans hs)) (blk_lt (hnx.2.trans hn)))
      clear q1 q2 hw3 q hB3 hs1 hn1 hJs hnx e2
      obtain ⟨fn, tmps, assign, body, hy, hR⟩ := hY (List.range k) k w3 hJ3 (by rw [List.length_range]; exact hlt)
      unfold pieceV at hy
      rw [show min k (m - 1) = k by omega] at hy
      gi_wp2
      refine hR.mono ?_
      rintro e W3 (⟨rfl, hJ4, hk4⟩ | ⟨rfl, hJx4⟩)
      · have hs4 := blk_cell ((hnx3.trans hk4).1.trans hs) 0
        have hn4 := blk_cell ((hnx3.trans hk4).2.trans hn) 0
        gi_wp2
        go_roundw
        case rel => exact ⟨k + 1, by omega, by go_num, by rw [List.range_succ]; exact hJ4, hnx3.trans hk4⟩
        case measure => simp [intOf]; omega
      · gi_wp2
        refine bodyPost_ret (results_none rfl _ _ _) rfl ?_
        exact ⟨⟨_, rfl⟩, .inr ⟨_, ⟨k + 1, by omega, (List.range_succ).symm⟩, hJx4⟩⟩
    · obtain rfl : k = m := by omega
      have hb1 : decide (((2 * k : Nat) : Int) < ((2 * k : Nat) : Int)) = false := decide_eq_false (by omega)
      gi_wp2
      go_end0
      exact ⟨⟨_, rfl⟩, .inl ⟨_, rfl, hJs⟩⟩
/-- .. at a slice of which nothing is there. -/
theorem chunk1_nil (n : Nat) (l Bs Bn : Nat) (A : Option Addr) (c : Nat) (J : List Nat → World → Prop) (W : World) (hs : W.heap[Bs]? = some (.cells #[.slice A 0 c] 41 (0, 0))) (h0 : J [] W) :
    CallsIn (Fw none) n Try.prog 58 #[.func (.yield l) #[] #[], .pointer (some ⟨Bs, 0, none⟩), .pointer (some ⟨Bn, 0, none⟩)] W fun e W' => (∃ v, e = .returned v) ∧ J [] W' := by
  refine callsIn_of_wp Try.func58 rfl trivial ?_ rfl
  simp only [Try.ntmps58, List.size_toArray, List.length_cons, List.length_nil, Nat.reduceAdd, Nat.reduceSub, Array.replicate_succ, Array.replicate_zero, List.push_toArray, List.append_toArray, List.nil_append, List.cons_append]
  gi_wp2
  gi_loopw [4] (fun i wr => i = .int .i64 0 ∧ J [] wr ∧ wr.heap[Bs]? = some (.cells #[.slice A 0 c] 41 (0, 0))) (fun _ _ => 0)
  case atStart => exact ⟨rfl, h0, hs⟩
  case round =>
    obtain ⟨rfl, hJs, hs1⟩ := hrel
    have hs2 := blk_cell hs1 0
    gi_wp2
    go_end0
    exact ⟨⟨_, rfl⟩, hJs⟩
/-- What the iterator gives. -/
theorem chunk_stops (n : Nat) (Bs Bn : Nat) (A : Option Addr) (ad : Addr) (m c : Nat) (hA : 0 < m → A = some ad) (hm : 2 * m ≤ 1000000000) (hmc : 2 * m ≤ c) (w : World) (hs : w.heap[Bs]? = some (.cells #[.slice A (2 * m) c] 41 (0, 0))) (hn : w.heap[Bn]? = some (.cells #[.int .i64 2] 3 (0, 0))) :
    SeqStopsK (Fw none) n Try.prog 58 #[.pointer (some ⟨Bs, 0, none⟩), .pointer (some ⟨Bn, 0, none⟩)] (fun k : Nat => #[pieceV ad m k]) (Kc Bs Bn) (fun ys => ys = List.range m) (fun pre => ∃ k, k ≤ m ∧ pre = List.range k) m w := fun l J Jx W hW hJ hJx hY h0 => by
  have hs' := (hW.block Bs (blk_lt hs)).trans hs
  have hn' := (hW.block Bn (blk_lt hn)).trans hn
  by_cases hm0 : m = 0
  · subst hm0
    refine (chunk1_nil n l Bs Bn A c J W hs' h0).mono ?_
    rintro e W' ⟨he, hj⟩
    exact ⟨he, .inl ⟨[], rfl, hj⟩⟩
  · have hA' := hA (by omega)
    subst hA'
    refine (chunk1_in n l Bs Bn ad m c hm hmc J Jx hY (fun pre A1 A2 hj hb => hJ pre A1 A2 none hj ⟨hb.os, hb.tape, hb.output, hb.size, fun k hk _ => hb.block k hk⟩ (fun _ e => by cases e)) W hs' hn' h0).mono ?_
    rintro e W' ⟨he, ⟨ys, rfl, hj⟩ | ⟨pre, hp, hj⟩⟩
    · exact ⟨he, .inl ⟨_, rfl, hj⟩⟩
    · exact ⟨he, .inr ⟨_, hp, hj⟩⟩
end Go.Proofs.Ytocpcnmnhckcpaa.Prt
namespace Go.Proofs.Ytocpcnmnhckcpaa.Prt
open Go.RowKit Go.Proofs.YtocpcnmnhckcpaaW.PrintWords Go.Proofs.YtocpcnmnhckcpaaW.PrintLast Go.Proofs.YtocpcnmnhckcpaaW.PrintMore Go.Proofs.Ytocpcnmnhckcpaa.Num Go.Proofs.Ytocpcnmnhckcpaa.Nam
set_option linter.unusedVariables false
set_option linter.unusedSimpArgs false
theorem info_step : (Try.prog.info? 36).map (fun i => (i.zero, i.size, i.bytes)) = some (some (.agg #[.int .i64 0, .int .i64 0, .int .i64 0, .int .i64 0, .string ⟨#[]⟩, .string ⟨#[]⟩, .string ⟨#[]⟩, .slice none 0 0, .slice none 0 0, .slice none 0 0]), 10, 152) := by kernel_rfl
theorem heap_field : Kd.Heap k90 := Kd.heap_iso _ (Kd.heap_pair Kd.heap_string (Kd.heap_int .i64))
theorem heap_clause : Kd.Heap k92 := Kd.heap_iso _ (Kd.heap_pair (Kd.heap_slice 9 Kd.heap_string) (Kd.heap_slice 9 Kd.heap_string))
/-- A step cut. -/
def fewS (t : S36) : S36 := ⟨t.f0, t.f1, t.f2, t.f3, t.f4.extract 0 (min 100 t.f4.size), ⟨t.f5.f0, t.f5.f1, t.f5.f2.take 10, t.f5.f3.take 10⟩, ⟨t.f6.f0.take 8⟩⟩
def fewL (l : List S36) : List S36 := (l.take 30).map fewS
/-- A step's cells, read: what they lead to lies in what lay there. -/
theorem FK_step36 {w W : World} {t : S36} {A7 : Option Addr} {c7 : Nat} {A8 : Option Addr} {c8 : Nat} {A9 : Option Addr} {c9 : Nat} (h : StC w t A7 c7 A8 c8 A9 c9) (hb : Below w.heap.size w W) : Kd.FK k36 W (fun k => k < w.heap.size) t [.int .i64 t.f0, .int .i64 t.f1, .int .i64 t.f2, .int .i64 t.f3, .string t.f4, .string t.f5.f0, .string t.f5.f1, .slice A7 t.f5.f2.length c7, .slice A8 t.f5.f3.length c8, .slice A9 t.f6.f0.length c9] := by
  have f7 := Kd.F_step (W1 := W) (Kd.C_F Kd.heap_string h.h7) (fun k hk _ => hb.block k hk)
  have f8 := Kd.F_step (W1 := W) (Kd.C_F heap_field h.h8) (fun k hk _ => hb.block k hk)
  have f9 := Kd.F_step (W1 := W) (Kd.C_F heap_clause h.h9) (fun k hk _ => hb.block k hk)
  exact fun W' hW => k36_mk W' t h.l7 (f7 W' hW) h.l8 (f8 W' hW) h.l9 (f9 W' hW)
theorem StC.few {w : World} {t : S36} {A7 : Option Addr} {c7 : Nat} {A8 : Option Addr} {c8 : Nat} {A9 : Option Addr} {c9 : Nat} (h : StC w t A7 c7 A8 c8 A9 c9) : StC w (fewS t) A7 c7 A8 c8 A9 c9 := by
  have l7 := h.l7
  have l8 := h.l8
  have l9 := h.l9
  refine ⟨?_, by show (t.f5.f2.take 10).length ≤ c7; rw [List.length_take]; omega, ?_, by show (t.f5.f3.take 10).length ≤ c8; rw [List.length_take]; omega, ?_, by show (t.f6.f0.take 8).length ≤ c9; rw [List.length_take]; omega⟩
  · show Kd.string.C w A7 (t.f5.f2.take 10).length (t.f5.f2.take 10)
    by_cases hc : 10 ≤ t.f5.f2.length
    · exact Kd.C_take h.h7 hc
    · rw [List.take_of_length_le (by omega)]; exact h.h7
  · show k90.C w A8 (t.f5.f3.take 10).length (t.f5.f3.take 10)
    by_cases hc : 10 ≤ t.f5.f3.length
    · exact Kd.C_take h.h8 hc
    · rw [List.take_of_length_le (by omega)]; exact h.h8
  · show k92.C w A9 (t.f6.f0.take 8).length (t.f6.f0.take 8)
    by_cases hc : 8 ≤ t.f6.f0.length
    · exact Kd.C_take h.h9 hc
    · rw [List.take_of_length_le (by omega)]; exact h.h9
theorem few_snoc (l : List S36) (i : Nat) (h : i < l.length) : (l.take (i + 1)).map fewS = (l.take i).map fewS ++ [fewS (rd_T36 l (i : Int))] := by
  rw [takeS_snoc l i h, List.map_append]; rfl
end Go.Proofs.Ytocpcnmnhckcpaa.Prt
namespace Go.Proofs.Ytocpcnmnhckcpaa.Prt
open Go.RowKit Go.Proofs.YtocpcnmnhckcpaaW.PrintWords Go.Proofs.YtocpcnmnhckcpaaW.PrintLast Go.Proofs.YtocpcnmnhckcpaaW.PrintMore Go.Proofs.Ytocpcnmnhckcpaa.Num Go.Proofs.Ytocpcnmnhckcpaa.Nam
set_option linter.unusedVariables false
set_option linter.unusedSimpArgs false
def stepOne (k s : Int) : S36 := ⟨k, s, 0, 0, ⟨#[]⟩, z31, ⟨[]⟩⟩
theorem enc_small {x : Int} (h0 : 0 ≤ x) (h1 : x < 64) : enc x = [2 * x] := by
  unfold enc
  have hz : zz x = (2 * x).toNat := by unfold zz; rw [if_neg (by omega)]
  rw [hz, encN_lt (by omega)]
  congr 1; omega
theorem encS_one {k s : Int} (hk0 : 0 ≤ k) (hk : k < 64) (hs0 : 0 ≤ s) (hs : s < 64) : encS (stepOne k s) = [2 * k, 2 * s, 0, 0, 0, 0, 0] := by
  have hv : encV (stepOne k s).f5 = enc 0 := by unfold encV; rw [if_pos ((noV_iff (stepOne k s).f5).2 rfl)]
  have hw : encW (stepOne k s).f6.f0 = enc 0 := rfl
  have h0 : enc 0 = [0] := by rw [enc_small (by decide) (by decide)]; rfl
  have ht : encT (bytesOf (stepOne k s).f4) = [0] := by
    show enc ((bytesOf (⟨#[]⟩ : ByteArray)).length : Int) ++ bytesOf (⟨#[]⟩ : ByteArray) = [0]
    have e : bytesOf (⟨#[]⟩ : ByteArray) = [] := rfl
    rw [e]; show enc 0 ++ [] = [0]; rw [h0]; rfl
  unfold encS encK
  rw [hv, hw, ht]
  show enc k ++ (enc s ++ (enc 0 ++ (enc 0 ++ [0]))) ++ (enc 0 ++ enc 0) = _
  rw [h0, enc_small hk0 hk, enc_small hs0 hs]
  rfl
theorem i64_zero : i64 0 := ⟨by decide, by decide⟩
theorem okS_one {k s : Int} (hk : i64 k) (hs : i64 s) : OkS (stepOne k s) := ⟨hk, hs, i64_zero, i64_zero, Nat.zero_le _, mayV_zero, rfl⟩
theorem fitS_one {k s : Int} (hk : i64 k) (hs : i64 s) : FitS (stepOne k s) := ⟨hk, hs, i64_zero, i64_zero, Nat.zero_le _, Nat.zero_le _, rfl, rfl⟩
theorem print_one : printS [stepOne 1 1] = ([48, 50, 48, 50, 48, 48, 48, 48, 48, 48, 48, 48, 48, 48, 10], 0) := by
  have hok := okS_one (k := 1) (s := 1) ⟨by decide, by decide⟩ ⟨by decide, by decide⟩
  have hf : firstS [stepOne 1 1] = 0 := firstS_zero.2 (fun t ht => by rw [List.mem_singleton.1 ht, putS_ok hok.hv hok.hq])
  unfold printS
  rw [if_neg (by decide), if_neg (fun h => h hf)]
  congr 1
  unfold printL lineT
  rw [List.flatMap_cons, encS_one (by decide) (by decide) (by decide) (by decide)]
  rfl
theorem FK_one {w : World} {k s : Int} : Kd.FK k36 w (fun _ => False) (stepOne k s) [.int .i64 k, .int .i64 s, .int .i64 0, .int .i64 0, .string ⟨#[]⟩, .string ⟨#[]⟩, .string ⟨#[]⟩, .slice none 0 0, .slice none 0 0, .slice none 0 0] :=
  fun W' hW => k36_mk W' (stepOne k s) (A7 := none) (c7 := 0) (Nat.zero_le _) (Kd.C_nil _ _) (A8 := none) (c8 := 0) (Nat.zero_le _) (Kd.C_nil _ _) (A9 := none) (c9 := 0) (Nat.zero_le _) (Kd.C_nil _ _)
set_option maxRecDepth 100000 in
theorem shown_calls22 (w : World) : Calls Try.prog 7 #[] w fun e w' => e = .returned (.bool true) ∧ Below w.heap.size w w' := by
  have hu36 := Try.underlying36
  go_enter Try.func7, Try.ntmps7
  go_wp2_with (first | ((with_reducible refine gate_dst (N := 5) rfl ?_); refine Kd.N_lit k36 (w0 := w) w.heap.size 36 ?hg (N' := 5) ?hd (xs := [stepOne 1 1]) (inner := [.int .i64 1, .int .i64 1, .int .i64 0, .int .i64 0, .string ⟨#[]⟩, .string ⟨#[]⟩, .string ⟨#[]⟩, .slice none 0 0, .slice none 0 0, .slice none 0 0]) (ok := fun _ => True) (okp := fun _ => False) ?hr ?hp (fun _ hk => hk.elim) trivial (Below.refl _ _) (Nat.le_refl _) (by simp) ?_; (case hd => rfl); (case hg => rfl); (case hr => first | (go_simp; done) | (go_simp; rfl)); (case hp => exact Reps.snoc (Reps.none _ _) FK_one rfl); intro v5 w5 ho hb hg hat; obtain ⟨A5, c5, e5, hc5, hC5⟩ := Kd.N_reads ho; subst e5; have HC5 := Aside0.mk (And.intro hc5 hC5); have HB5 := Aside0.mk hb; clear ho hb hg hat hc5 hC5))
  have HPC := Aside0.mk (print_calls22 A5 c5 [stepOne 1 1] w5 HC5.out.2 HC5.out.1 (fun t ht => by rw [List.mem_singleton.1 ht]; exact ⟨fitS_one ⟨by decide, by decide⟩ ⟨by decide, by decide⟩, Nat.zero_le _⟩) _ _ print_one)
  refine HPC.out.mono ?_
  rintro e w6 ⟨rfl, hb⟩
  have HB6 := Aside0.mk (below_step HB5.out hb)
  clear hb HPC HC5
  have hs : (strOfNums [48, 50, 48, 50, 48, 48, 48, 48, 48, 48, 48, 48, 48, 48, 10]).toList = [48, 50, 48, 50, 48, 48, 48, 48, 48, 48, 48, 48, 48, 48, 10] := by rw [strOfNums_toList]; rfl
  go_wp2
  go_ret
  exact ⟨rfl, HB6.out⟩
end Go.Proofs.Ytocpcnmnhckcpaa.Prt
namespace Go.Proofs.Ytocpcnmnhckcpaa.Prt
open Go.RowKit Go.Proofs.YtocpcnmnhckcpaaW.PrintWords Go.Proofs.YtocpcnmnhckcpaaW.PrintLast Go.Proofs.YtocpcnmnhckcpaaW.PrintMore Go.Proofs.Ytocpcnmnhckcpaa.Num Go.Proofs.Ytocpcnmnhckcpaa.Nam
set_option linter.unusedVariables false
set_option linter.unusedSimpArgs false
/-- A step that came in. -/
structure InS (t : S36) : Prop where
  k0 : i64 t.f0
  k1 : i64 t.f1
  k2 : i64 t.f2
  k3 : i64 t.f3
  e0 : t.f5.f0.size ≤ 9223372036854775807
  e1 : t.f5.f1.size ≤ 9223372036854775807
  e2 : ∀ x ∈ t.f5.f2, x.size ≤ 9223372036854775807
  e3 : ∀ x ∈ t.f5.f3, x.f0.size ≤ 9223372036854775807
  q : ∀ x ∈ t.f6.f0, (∀ s ∈ x.f0, s.size ≤ 9223372036854775807) ∧ (∀ s ∈ x.f1, s.size ≤ 9223372036854775807)
theorem lenC_of_C {w : World} {A : Option Addr} {q : List S92} (h : Kd.C k92 w A q.length q) : q.all lenC = true := List.all_eq_true.2 fun x hx => by
  obtain ⟨i, hi, rfl⟩ := List.getElem_of_mem hx
  obtain ⟨ad, c, e, _, hK, hc0⟩ := Kd.C_get h z92 (i : Int) (by omega) (by omega)
  rw [Int.toNat_natCast, List.getD_eq_getElem?_getD, List.getElem?_eq_getElem hi] at hK
  obtain ⟨A0, c0, A1, c1, _, _, g0, _, g1⟩ := k92_open hK
  unfold lenC
  rw [Bool.and_eq_true, decide_eq_true_iff, decide_eq_true_iff]
  exact ⟨Kd.C_max g0, Kd.C_max g1⟩
theorem fewS_fit {t : S36} (h : InS t) : FitS (fewS t) ∧ (fewS t).f4.size ≤ 100 := by
  have hs : (fewS t).f4.size ≤ 100 := by
    show (t.f4.extract 0 (min 100 t.f4.size)).size ≤ 100
    rw [ByteArray.size_extract]; omega
  refine ⟨⟨h.k0, h.k1, h.k2, h.k3, by omega, ?_, fitE_iff.2 ⟨h.e0, h.e1, fun x hx => h.e2 x (List.mem_of_mem_take hx), fun x hx => h.e3 x (List.mem_of_mem_take hx), ?_⟩, List.all_eq_true.2 fun x hx => fitC_iff.2 (h.q x (List.mem_of_mem_take hx))⟩, hs⟩
  · show (t.f5.f2.take 10).length ≤ 1000000
    rw [List.length_take]; omega
  · show (t.f5.f3.take 10).length < 8796093022208
    rw [List.length_take]; omega
theorem fewS_len {w : World} {t : S36} {A9 : Option Addr} (h : Kd.C k92 w A9 (fewS t).f6.f0.length (fewS t).f6.f0) : LenS (fewS t) := by
  refine ⟨?_, ?_, ?_, lenC_of_C h⟩
  · show (t.f5.f2.take 10).length ≤ 1000000
    rw [List.length_take]; omega
  · show (t.f5.f3.take 10).length ≤ 1000000
    rw [List.length_take]; omega
  · show (t.f6.f0.take 8).length ≤ 1000000
    rw [List.length_take]; omega
theorem eqT_self (l : List S36) : eqL eqT l l = true := (eqL_iff eqT_iff l l).2 rfl
end Go.Proofs.Ytocpcnmnhckcpaa.Prt
namespace Go.Proofs.Ytocpcnmnhckcpaa.Prt
open Go.RowKit Go.Proofs.YtocpcnmnhckcpaaW.PrintWords Go.Proofs.YtocpcnmnhckcpaaW.PrintLast Go.Proofs.YtocpcnmnhckcpaaW.PrintMore Go.Proofs.Ytocpcnmnhckcpaa.Num Go.Proofs.Ytocpcnmnhckcpaa.Nam Go.Shelf
set_option linter.unusedVariables false
set_option linter.unusedSimpArgs false
attribute [local go_sem] Oper.semAt_some Fw_round Fw_depth Fw_fn
section
variable {P : Program} {ops : Array Oper} {ro : Option Nat} {n : Nat} {Q : Exit → Act → World → Prop}
theorem rowsIn_of {row : String} {args : Array Value} {w : World} {R : Value → World → Prop} (h : Rows P row args w R) : RowsIn (Fw ro) n P row args w R := fun c cs _ =>
  let ⟨v, w', r, s⟩ := h c cs; ⟨v, w', r, stepsIn_wide.2 s⟩
theorem oper_unfenced {o : Oper} {a : Act} {w : World} {K : Act → World → Prop} (hs : ∀ c, o.op ≠ .defer c) (h : o.wp P a w K Q) : o.wpIn (Fw ro) n P a w K Q := by
  refine ⟨fun _ _ => trivial, ?_⟩
  unfold Oper.wp at h
  rw [show (Fw ro).round = ro from rfl, Oper.semAt_eq ro a.eval o hs]
  generalize (execOp a.eval o).run P w = r at *
  cases r with
  | ok nx w' =>
    cases nx <;> simp only [Oper.upon] at h <;> simp only [Oper.uponIn]
    case value u => exact h
    case skip => exact h
    case defer d => exact h
    case enter f args => exact ⟨fun hd => (by cases hd), Fw_calls h⟩
    case row row args => exact ⟨fun hd => (by cases hd), rowsIn_of h⟩
  | halt x w' => cases x <;> simp only [Oper.upon] at h <;> simp only [Oper.uponIn] <;> exact h
theorem list_unfenced (hq : ¬ LetsOut Q) : ∀ (l : List Oper), (∀ o ∈ l, ∀ c, o.op ≠ .defer c) → ∀ a w, wpList P ops Q l a w → wpListIn (Fw ro) n P ops Q l a w
  | [], _, a, w, h => h
  | o :: rest, hs, a, w, h => by
    unfold wpList at h
    unfold wpListIn
    by_cases hw : Region.wanted o (yielded ops a.tmps) = true
    · rw [if_pos hw] at h ⊢
      have h2 : o.wp P a w (wpListIn (Fw ro) n P ops Q rest) Q := Oper.wp_mono (fun a w hk => list_unfenced hq rest (fun o ho => hs o (by simp [ho])) a w hk) (h.resolve_right fun h2 => hq h2.2)
      exact oper_unfenced (hs o (by simp)) h2
    · rw [if_neg hw] at h ⊢
      exact ⟨fun _ _ => trivial, list_unfenced hq rest (fun o ho => hs o (by simp [ho])) _ _ h⟩
theorem region_unfenced {id : Nat} {l : List Oper} {a : Act} {w : World} (hs : ∀ o ∈ l, ∀ c, o.op ≠ .defer c) (hq : ¬ LetsOut Q) (h : wpList P l.toArray Q l a w) : (Code.region id l.toArray false).wpIn (Fw ro) n P Q a w :=
  wpIn_region_lit (list_unfenced hq l hs a w h)
end
/-- []byte(s), in a block of its own. -/
theorem ev_bytesN {P : Program} {ops : Array Oper} {rest : List Oper} {o : Oper} {a : Act} {Q : Exit → Act → World → Prop} {W : World} (hgd : o.guard = none) (src dst e : TypeId) (x : Operand) (ho : o.op = .convert src dst x) (hs : P.underlying src = some .string) (hd : P.underlying dst = some (.slice e)) (he : P.underlying e = some (.int .u8))
    (s : ByteArray) (hx : a.eval x = .string s) (hn : s.size ≤ 9223372036854775807)
    (h : ∀ g c w1, g = W.heap.size → Kd.C (Kd.int .u8) w1 (some ⟨g, 0, none⟩) s.size (bytesOf s) → s.size ≤ c → Below W.heap.size W w1 → wpList P ops Q rest (a.put o.dst (.slice (some ⟨g, 0, none⟩) s.size c)) w1) :
    wpList P ops Q (o :: rest) a W := by
  refine Kd.event_run hgd (v := .slice (some ⟨W.heap.size, 0, none⟩) s.size (grownCap W s.size 0 e)) (w1 := Lib.bytesWorld W e s) ?_ (h _ _ _ rfl (Kd.C_of_reads (d := (0 : Int)) (h1 := fun _ => rfl) (bytes_reads W e s hn)) ?_ (bytes_below (Below.refl _ _) (Nat.le_refl _) e s))
  · have hr := print_bytes (P := P) src dst e hs hd he s W
    simp [execOp, ho, hx, hr]
  · exact grownCap_ge W s.size 0 e
theorem ix_digit : ∀ k : Fin 256, Lib.indexByte (⟨#[48, 49, 50, 51, 52, 53, 54, 55, 56, 57, 97, 98, 99, 100, 101, 102]⟩ : ByteArray).data.toList (k.val : Int).toNat.toUInt8 = undig (k.val : Int) := by decide +kernel
theorem ix_dig {c : Int} (h0 : 0 ≤ c) (h1 : c < 256) : Lib.indexByte (⟨#[48, 49, 50, 51, 52, 53, 54, 55, 56, 57, 97, 98, 99, 100, 101, 102]⟩ : ByteArray).data.toList c.toNat.toUInt8 = undig c := by
  obtain ⟨k, rfl⟩ := Int.eq_ofNat_of_zero_le h0
  exact ix_digit ⟨k, by omega⟩
/-- What a line's walk holds between two rounds. -/
structure LnI (w : World) (Z E B M : Nat) (ad : Addr) (bs : List Int) (m : Nat) (pre : List Nat) (W : World) : Prop where
  hZ : W.heap[Z]? = some (.cells #[.int .i64 0, .int .i64 0, .int .i64 0, .int .i64 0, .string ⟨#[]⟩, .string ⟨#[]⟩, .string ⟨#[]⟩, .slice none 0 0, .slice none 0 0, .slice none 0 0] 36 (0, 0))
  hE : W.heap[E]? = some (.cells #[.int .i64 0] 25 (0, 0))
  hB : ∃ v, W.heap[B]? = some (.cells #[v] 41 (0, 0)) ∧ Kd.R (Kd.int .u8) 5 W M (fun _ => True) v (pre.map fun k => undig (bs.getD (2 * min k (m - 1)) 0) * 16 + undig (bs.getD (2 * min k (m - 1) + 1) 0))
  hC : Kd.C (Kd.int .u8) W (some ad) bs.length bs
  hok : ∀ k ∈ pre, ¬ (undig (bs.getD (2 * min k (m - 1)) 0) < 0 ∨ undig (bs.getD (2 * min k (m - 1) + 1) 0) < 0)
  hlen : pre.length ≤ m
  hw : Below w.heap.size w W
  hM : M ≤ W.heap.size
/-- .. where it has left. -/
structure LnX (w : World) (Z E : Nat) (bs : List Int) (m : Nat) (pre : List Nat) (W : World) : Prop where
  hZ : W.heap[Z]? = some (.cells #[.int .i64 0, .int .i64 0, .int .i64 0, .int .i64 0, .string ⟨#[]⟩, .string ⟨#[]⟩, .string ⟨#[]⟩, .slice none 0 0, .slice none 0 0, .slice none 0 0] 36 (0, 0))
  hE : W.heap[E]? = some (.cells #[.int .i64 240] 25 (0, 0))
  hbad : ∃ k ∈ pre, (undig (bs.getD (2 * min k (m - 1)) 0) < 0 ∨ undig (bs.getD (2 * min k (m - 1) + 1) 0) < 0)
  hw : Below w.heap.size w W
theorem blk_own {W W' : World} {row : Option Nat} {g M : Nat} {o : Obj} (h : W.heap[g]? = some o) (hg : W.grownBy W' row) (hr : ∀ r, row = some r → M ≤ r ∧ ∃ o : Obj, W.heap[r]? = some o ∧ o.isCells = false) (hM : g < M) : W'.heap[g]? = some o := by
  refine (hg.block g (blk_lt h) ?_).trans h
  intro e
  have := (hr g e.symm).1
  omega
theorem C_own {W W' : World} {row : Option Nat} {ad : Addr} {M : Nat} {bs : List Int} (h : Kd.C (Kd.int .u8) W (some ad) bs.length bs) (hg : W.grownBy W' row) (hr : ∀ r, row = some r → M ≤ r ∧ ∃ o : Obj, W.heap[r]? = some o ∧ o.isCells = false) (hM : ad.block < M) : Kd.C (Kd.int .u8) W' (some ad) bs.length bs := by
  cases row with
  | none => exact Kd.C_keep (0 : Int) h (KeepBut.of_grown hg (ad.block + 1)) (fun a e hn he => by cases e; omega)
  | some b =>
    have hk : KeepBut W W' b none := ⟨hg.size, fun i hi hb _ => hg.block i hi (by simpa using hb)⟩
    exact Kd.C_keep (0 : Int) h hk (fun a e hn he => by cases e; have := (hr b rfl).1; omega)
theorem R_ownF {W W' : World} {row : Option Nat} {N M : Nat} {v : Value} {l : List Int} (h : Kd.R (Kd.int .u8) 5 W N (fun _ => True) v l) (hg : W.grownBy W' row) (hr : ∀ r, row = some r → M ≤ r ∧ ∃ o : Obj, W.heap[r]? = some o ∧ o.isCells = false) : Kd.R (Kd.int .u8) 5 W' N (fun _ => True) v l := by
  refine Kd.R_grown2 h rfl hg (fun k e e2 => ?_)
  obtain ⟨cells, hc⟩ := Kd.R_typed h k e2.symm
  obtain ⟨-, o, ho, hn⟩ := hr k e
  rw [hc] at ho
  cases ho
  cases hn
theorem LnI.own {w : World} {Z E B M : Nat} {ad : Addr} {bs : List Int} {m : Nat} (hZ : Z < M) (hE : E < M) (hB : B < M) (hA : ad.block < M) (hwM : w.heap.size ≤ M) : OwnFrom M (LnI w Z E B M ad bs m) := fun pre W W' row h hg hr => by
  obtain ⟨v, hv, hR⟩ := h.hB
  exact ⟨blk_own h.hZ hg hr hZ, blk_own h.hE hg hr hE, ⟨v, blk_own hv hg hr hB, R_ownF hR hg hr⟩, C_own h.hC hg hr hA, h.hok, h.hlen, h.hw.grown hg h.hw.size (fun k e => Nat.le_trans hwM (hr k e).1), Nat.le_trans h.hM hg.size⟩
theorem LnX.own {w : World} {Z E M : Nat} {bs : List Int} {m : Nat} (hZ : Z < M) (hE : E < M) (hwM : w.heap.size ≤ M) : OwnFrom M (LnX w Z E bs m) := fun pre W W' row h hg hr =>
  ⟨blk_own h.hZ hg hr hZ, blk_own h.hE hg hr hE, h.hbad, h.hw.grown hg h.hw.size (fun k e => Nat.le_trans hwM (hr k e).1)⟩
theorem LnI.below {w : World} {Z E B M : Nat} {ad : Addr} {bs : List Int} {m : Nat} {pre : List Nat} {W W' : World} (h : LnI w Z E B M ad bs m pre W) (hb : Below W.heap.size W W') : LnI w Z E B M ad bs m pre W' := by
  obtain ⟨v, hv, hR⟩ := h.hB
  exact ⟨blk_below h.hZ hb, blk_below h.hE hb, ⟨v, blk_below hv hb, Kd.R_below hR hb⟩, Kd.C_below h.hC hb, h.hok, h.hlen, h.hw.trans (hb.mono h.hw.size), Nat.le_trans h.hM hb.size⟩
theorem keeps_below {W W' : World} (hb : Below W.heap.size W W') : KeepsOthers W W' := ⟨hb.size, fun k o hk _ => (hb.block k (blk_lt hk)).trans hk⟩
theorem or16 : ∀ a b : Fin 16, bits BinOp.or .i64 ((a.val : Int) * 16) (b.val : Int) = (a.val : Int) * 16 + (b.val : Int) := by decide +kernel
theorem or_16 {a b : Int} (ha0 : 0 ≤ a) (ha : a < 16) (hb0 : 0 ≤ b) (hb : b < 16) : bits BinOp.or .i64 (a * 16) b = a * 16 + b := by
  obtain ⟨i, rfl⟩ := Int.eq_ofNat_of_zero_le ha0
  obtain ⟨j, rfl⟩ := Int.eq_ofNat_of_zero_le hb0
  exact or16 ⟨i, by omega⟩ ⟨j, by omega⟩
theorem ixb_calls {w0 : World} {c : Int} (h0 : 0 ≤ c) (h1 : c < 256) (q : Wc w0) : Calls Try.prog 43 #[.string ⟨#[48, 49, 50, 51, 52, 53, 54, 55, 56, 57, 97, 98, 99, 100, 101, 102]⟩, .int .u8 c] q.1 fun e w'' => e = .returned (.int .i64 (undig c)) ∧ ∃ m : Wc w0, w'' = m.1 :=
  (Try.strings_IndexByte _ c q.1).mono (by
    rintro e w' ⟨rfl, rfl⟩
    exact ⟨by rw [ix_dig h0 h1], q, rfl⟩)
/-- A value of two digits. -/
def pairV (bs : List Int) (k : Nat) : Int := undig (bs.getD (2 * k) 0) * 16 + undig (bs.getD (2 * k + 1) 0)
def badP (bs : List Int) (k : Nat) : Prop := undig (bs.getD (2 * k) 0) < 0 ∨ undig (bs.getD (2 * k + 1) 0) < 0
theorem badP_succ (a b : Int) (r : List Int) (k : Nat) : badP (a :: b :: r) (k + 1) ↔ badP r k := by
  unfold badP
  rw [show 2 * (k + 1) = 2 * k + 1 + 1 by omega, List.getD_cons_succ, List.getD_cons_succ, show 2 * k + 1 + 1 + 1 = (2 * k + 1) + 1 + 1 by omega, List.getD_cons_succ, List.getD_cons_succ]
theorem unhex_all : ∀ (m : Nat) (bs : List Int), bs.length = 2 * m → (∀ k, k < m → ¬ badP bs k) → unhexL bs = some ((List.range m).map (pairV bs))
  | 0, bs, h, _ => by
    have : bs = [] := List.eq_nil_of_length_eq_zero (by omega)
    subst this; rfl
  | m + 1, [], h, _ => by simp at h
  | m + 1, [a], h, _ => by simp only [List.length_cons, List.length_nil] at h; omega
  | m + 1, a :: b :: r, h, hk => by
    have h0 := hk 0 (by omega)
    have ih := unhex_all m r (by simp only [List.length_cons] at h; omega) (fun k hkm hb => hk (k + 1) (by omega) ((badP_succ a b r k).2 hb))
    have h0' : ¬ (undig a < 0 ∨ undig b < 0) := h0
    rw [unhexL, if_neg h0', ih, Option.map_some, List.range_succ_eq_map, List.map_cons, List.map_map]
    congr 2
theorem unhex_bad : ∀ (m : Nat) (bs : List Int) (k : Nat), bs.length = 2 * m → k < m → badP bs k → unhexL bs = none
  | 0, _, k, _, hk, _ => by omega
  | m + 1, [], k, h, _, _ => by simp at h
  | m + 1, [a], k, h, _, _ => by simp only [List.length_cons, List.length_nil] at h; omega
  | m + 1, a :: b :: r, 0, h, _, hb => by
    have h0' : undig a < 0 ∨ undig b < 0 := hb
    rw [unhexL, if_pos h0']
  | m + 1, a :: b :: r, k + 1, h, hk, hb => by
    have ih := unhex_bad m r k (by simp only [List.length_cons] at h; omega) (by omega) ((badP_succ a b r k).1 hb)
    rw [unhexL, ih]
    split <;> rfl
theorem unhex_odd : ∀ (n : Nat) (bs : List Int), bs.length ≤ n → bs.length % 2 ≠ 0 → unhexL bs = none
  | _, [], _, h => by simp at h
  | _, [a], _, _ => rfl
  | 0, a :: b :: r, hn, _ => by simp at hn
  | n + 1, a :: b :: r, hn, h => by
    have ih := unhex_odd n r (by simp only [List.length_cons] at hn; omega) (by simp only [List.length_cons] at h; omega)
    rw [unhexL, ih]
    split <;> rfl
theorem S_off' {α : Type} {d : Kd α} {e N B : Nat} {w w' : World} {v : Value} {l : List α} (h : Kd.S d e w N (fun _ => True) v l) (hB : B < N) (hk : KeepBut w w' B none) : Kd.S d e w' N (fun _ => True) v l :=
  Kd.S_mono (Kd.S_keep (Kd.S_bound h) hk (fun k hk => by have := hk.2.1; omega)) (fun _ _ => trivial)
theorem keep_put (w : World) (D : Nat) (o : Obj) : KeepBut w (w.putObj D o) D none :=
  ⟨(grownBy_putObj' w D o).size, fun i hi hne _ => (grownBy_putObj' w D o).block i hi (by simpa using hne)⟩
theorem C_row {W W' : World} {row : Option Nat} {ad : Addr} {bs : List Int} (h : Kd.C (Kd.int .u8) W (some ad) bs.length bs) (hg : W.grownBy W' row) (hr : ∀ r, row = some r → ad.block ≠ r) : Kd.C (Kd.int .u8) W' (some ad) bs.length bs := by
  cases row with
  | none => exact Kd.C_keep (0 : Int) h (KeepBut.of_grown hg (ad.block + 1)) (fun a e hn he => by cases e; omega)
  | some b =>
    have hk : KeepBut W W' b none := ⟨hg.size, fun i hi hb _ => hg.block i hi (by simpa using hb)⟩
    exact Kd.C_keep (0 : Int) h hk (fun a e hn he => by cases e; exact hr b rfl he)
theorem run_loadVar_int {P : Program} (w : World) (g : Nat) (ty t : TypeId) (x : Value) (fr : Nat × Nat) (k : IntKind) (hg : w.heap[g]? = some (.cells #[x] t fr)) (hu : P.underlying ty = some (.int k)) : (loadVar ty ⟨g, 0, none⟩).run P w = .ok x w := by
  have hc : w.cell? ⟨g, 0, none⟩ = some x := by simp [World.cell?, hg]
  unfold loadVar isAgg
  rw [Sem.run_bind, Sem.run_bind, run_underlying hu w]
  simp [hc]
/-- Results: a struct's and a number's box. -/
theorem results_ci {P : Program} {fn : Func} {p p' : Tmp} {ty ty' : TypeId} (h : fn.results = #[.cell p ty, .cell p' ty']) (tmps : Array Value) (w : World) (g g' : Nat) (t t' : TypeId) (cs : Array Value) (x : Value) (fr fr' : Nat × Nat) (d : TypeDesc) (k : IntKind)
    (hp : tmps.getD p undef = .pointer (some ⟨g, 0, none⟩)) (hg : w.heap[g]? = some (.cells cs t fr))
    (hu : P.underlying ty = some d) (hd : (match d with | .struct _ | .array _ _ => true | _ => false) = true) (hi : (P.info? ty).map (·.size) = some cs.size)
    (hp' : tmps.getD p' undef = .pointer (some ⟨g', 0, none⟩)) (hg' : w.heap[g']? = some (.cells #[x] t' fr')) (hu' : P.underlying ty' = some (.int k)) :
    (results fn tmps).run P w = .ok (.tuple #[.agg cs, x]) w := by
  have h1 : tmps[p]?.getD undef = .pointer (some ⟨g, 0, none⟩) := by simpa using hp
  have h2 : tmps[p']?.getD undef = .pointer (some ⟨g', 0, none⟩) := by simpa using hp'
  simp [results, h, h1, h2, asAddr, run_loadVar_row w g t ty cs fr d hg hu hd hi, run_loadVar_int w g' ty' t' x fr' k hg' hu']
end Go.Proofs.Ytocpcnmnhckcpaa.Prt
namespace Go.Proofs.Ytocpcnmnhckcpaa.Prt
open Go.RowKit Go.Proofs.YtocpcnmnhckcpaaW.PrintWords Go.Proofs.YtocpcnmnhckcpaaW.PrintLast Go.Proofs.YtocpcnmnhckcpaaW.PrintMore Go.Proofs.Ytocpcnmnhckcpaa.Num Go.Proofs.Ytocpcnmnhckcpaa.Nam Go.Shelf
set_option linter.unusedVariables false
set_option linter.unusedSimpArgs false
attribute [local go_sem] Oper.semAt_some Fw_round Fw_depth Fw_fn
/-- What a line leaves with. -/
theorem line_out {w W : World} {Z E : Nat} {tmps : Array Value} {r : S36} {re : Int} {v7 v8 v9 : Value} (h2 : tmps.getD 2 undef = .pointer (some ⟨Z, 0, none⟩)) (h3 : tmps.getD 3 undef = .pointer (some ⟨E, 0, none⟩))
    (hZ : W.heap[Z]? = some (.cells #[.int .i64 r.f0, .int .i64 r.f1, .int .i64 r.f2, .int .i64 r.f3, .string r.f4, .string r.f5.f0, .string r.f5.f1, v7, v8, v9] 36 (0, 0)))
    (hE : W.heap[E]? = some (.cells #[.int .i64 re] 25 (0, 0)))
    (h7 : Kd.string.R 9 W w.heap.size (fun _ => True) v7 r.f5.f2) (h8 : k90.R 90 W w.heap.size (fun _ => True) v8 r.f5.f3) (h9 : Kd.S k92 92 W w.heap.size (fun _ => True) v9 r.f6.f0) (hb : Below w.heap.size w W) :
    ∃ v, (results Try.f19 tmps).run Try.prog W = .ok v W ∧ ∃ v7 v8 v9, Ending.returned v = .returned (.tuple #[.agg #[.int .i64 r.f0, .int .i64 r.f1, .int .i64 r.f2, .int .i64 r.f3, .string r.f4, .string r.f5.f0, .string r.f5.f1, v7, v8, v9], .int .i64 re]) ∧ Kd.string.R 9 W w.heap.size (fun _ => True) v7 r.f5.f2 ∧ k90.R 90 W w.heap.size (fun _ => True) v8 r.f5.f3 ∧ Kd.S k92 92 W w.heap.size (fun _ => True) v9 r.f6.f0 ∧ Below w.heap.size w W :=
  ⟨_, results_ci rfl tmps W Z E 36 25 _ _ (0, 0) (0, 0) _ .i64 h2 hZ Try.underlying36 rfl (by kernel_rfl) h3 hE Try.underlying25, v7, v8, v9, rfl, h7, h8, h9, hb⟩
set_option maxRecDepth 100000 in
set_option maxHeartbeats 8000000 in
theorem line_calls22 (s : ByteArray) (w : World) (hz : s.size ≤ 100000) (r : S36) (re : Int) (h : lineS (bytesOf s) = (r, re)) :
    Calls Try.prog 19 #[.string s] w fun e w' => ∃ v7 v8 v9, e = .returned (.tuple #[.agg #[.int .i64 r.f0, .int .i64 r.f1, .int .i64 r.f2, .int .i64 r.f3, .string r.f4, .string r.f5.f0, .string r.f5.f1, v7, v8, v9], .int .i64 re]) ∧ Kd.string.R 9 w' w.heap.size (fun _ => True) v7 r.f5.f2 ∧ k90.R 90 w' w.heap.size (fun _ => True) v8 r.f5.f3 ∧ Kd.S k92 92 w' w.heap.size (fun _ => True) v9 r.f6.f0 ∧ Below w.heap.size w w' := by
  have hbl := bytes_length s
  have HH := Aside0.mk h
  clear h
  have hu36 := Try.underlying36
  refine callsIn_wide.1 (callsIn_of_wp_marks (n := 10) Try.func19 rfl trivial (wpIn_wide.2 ?_) rfl)
  simp only [Try.ntmps19, List.size_toArray, List.length_cons, List.length_nil, Nat.reduceAdd, Nat.reduceSub, Array.replicate_succ, Array.replicate_zero, List.push_toArray, List.append_toArray, List.nil_append, List.cons_append]
  go_upto_region 1 with (first | ((with_reducible refine gate_dst (N := 2) rfl ?_); (try (refine gate_guard (by rfl) ?_; dsimp only)); refine box_event ?hg (N := 2) ?hd (cs := #[.int .i64 0, .int .i64 0, .int .i64 0, .int .i64 0, .string ⟨#[]⟩, .string ⟨#[]⟩, .string ⟨#[]⟩, .slice none 0 0, .slice none 0 0, .slice none 0 0]) (t := 36) ?hr ?_; (case hd => rfl); (case hg => rfl); (case hr => first | (go_simp; done) | (go_simp; rfl)); intro Z hg_ w1 hbox_ hb_; have HZ := Aside0.mk hbox_; have HZN := Aside0.mk hg_; have HZB := Aside0.mk hb_; clear hbox_ hg_ hb_) | ((with_reducible refine gate_dst (N := 3) rfl ?_); (try (refine gate_guard (by rfl) ?_; dsimp only)); refine box_event ?hg (N := 3) ?hd (cs := #[.int .i64 0]) (t := 25) ?hr ?_; (case hd => rfl); (case hg => rfl); (case hr => first | (go_simp; done) | (go_simp; rfl)); intro E hg_ w2 hbox_ hb_; have HE := Aside0.mk hbox_; have HEN := Aside0.mk hg_; have HEB := Aside0.mk hb_; clear hbox_ hg_ hb_))
  have HZ2 := Aside0.mk (blk_below HZ.out HEB.out)
  have HB2 := Aside0.mk (below_step HZB.out HEB.out)
  have HG2 := Aside0.mk (show w.heap.size ≤ Z ∧ w.heap.size ≤ E ∧ Z ≠ E ∧ Z < w2.heap.size ∧ E < w2.heap.size by
    have h1 := HZN.out
    have h2 := HEN.out
    have h3 := blk_lt HE.out
    have h4 := HZB.out.size
    have h5 := blk_lt HZ.out
    omega)
  clear HZ HZN HZB HEN HEB
  by_cases hodd : s.size % 2 = 0
  case neg =>
    have hd1 : ((s.size : Int) % 2 != 0) = true := bne_iff_ne.mpr (by omega)
    have hz0 := blk_cell HZ2.out 0
    have fz0 := blk_frozen HZ2.out 0
    have hz1 := blk_cell HZ2.out 1
    have fz1 := blk_frozen HZ2.out 1
    have hz2 := blk_cell HZ2.out 2
    have fz2 := blk_frozen HZ2.out 2
    have hz3 := blk_cell HZ2.out 3
    have fz3 := blk_frozen HZ2.out 3
    have hz4 := blk_cell HZ2.out 4
    have fz4 := blk_frozen HZ2.out 4
    have hz5 := blk_cell HZ2.out 5
    have fz5 := blk_frozen HZ2.out 5
    have hz6 := blk_cell HZ2.out 6
    have fz6 := blk_frozen HZ2.out 6
    have hz7 := blk_cell HZ2.out 7
    have fz7 := blk_frozen HZ2.out 7
    have hz8 := blk_cell HZ2.out 8
    have fz8 := blk_frozen HZ2.out 8
    have hz9 := blk_cell HZ2.out 9
    have fz9 := blk_frozen HZ2.out 9
    have he0 := blk_cell HE.out 0
    have hg0 := blk_frozen HE.out 0
    have hze : Z ≠ E := HG2.out.2.2.1
    have hez : E ≠ Z := Ne.symm hze
    have hl := HH.out
    unfold lineS at hl
    rw [unhex_odd _ _ (Nat.le_refl _) (by omega)] at hl
    simp only [Prod.mk.injEq] at hl
    obtain ⟨rfl, rfl⟩ := hl
    have HOD := Aside0.mk hodd
    clear hodd
    go_wp2_with fail
    exact line_out rfl rfl (blk_far (blk_put (cs' := #[.int .i64 0, .int .i64 0, .int .i64 0, .int .i64 0, .string ⟨#[]⟩, .string ⟨#[]⟩, .string ⟨#[]⟩, .slice none 0 0, .slice none 0 0, .slice none 0 0]) (blk_put (cs' := #[.int .i64 0, .int .i64 0, .int .i64 0, .int .i64 0, .string ⟨#[]⟩, .string ⟨#[]⟩, .string ⟨#[]⟩, .slice none 0 0, .slice none 0 0, .slice none 0 0]) (blk_put (cs' := #[.int .i64 0, .int .i64 0, .int .i64 0, .int .i64 0, .string ⟨#[]⟩, .string ⟨#[]⟩, .string ⟨#[]⟩, .slice none 0 0, .slice none 0 0, .slice none 0 0]) (blk_put (cs' := #[.int .i64 0, .int .i64 0, .int .i64 0, .int .i64 0, .string ⟨#[]⟩, .string ⟨#[]⟩, .string ⟨#[]⟩, .slice none 0 0, .slice none 0 0, .slice none 0 0]) (blk_put (cs' := #[.int .i64 0, .int .i64 0, .int .i64 0, .int .i64 0, .string ⟨#[]⟩, .string ⟨#[]⟩, .string ⟨#[]⟩, .slice none 0 0, .slice none 0 0, .slice none 0 0]) (blk_put (cs' := #[.int .i64 0, .int .i64 0, .int .i64 0, .int .i64 0, .string ⟨#[]⟩, .string ⟨#[]⟩, .string ⟨#[]⟩, .slice none 0 0, .slice none 0 0, .slice none 0 0]) (blk_put (cs' := #[.int .i64 0, .int .i64 0, .int .i64 0, .int .i64 0, .string ⟨#[]⟩, .string ⟨#[]⟩, .string ⟨#[]⟩, .slice none 0 0, .slice none 0 0, .slice none 0 0]) (blk_put (cs' := #[.int .i64 0, .int .i64 0, .int .i64 0, .int .i64 0, .string ⟨#[]⟩, .string ⟨#[]⟩, .string ⟨#[]⟩, .slice none 0 0, .slice none 0 0, .slice none 0 0]) (blk_put (cs' := #[.int .i64 0, .int .i64 0, .int .i64 0, .int .i64 0, .string ⟨#[]⟩, .string ⟨#[]⟩, .string ⟨#[]⟩, .slice none 0 0, .slice none 0 0, .slice none 0 0]) (blk_put (cs' := #[.int .i64 0, .int .i64 0, .int .i64 0, .int .i64 0, .string ⟨#[]⟩, .string ⟨#[]⟩, .string ⟨#[]⟩, .slice none 0 0, .slice none 0 0, .slice none 0 0]) HZ2.out 0 (.int .i64 0) rfl) 1 (.int .i64 0) rfl) 2 (.int .i64 0) rfl) 3 (.int .i64 0) rfl) 4 (.string ⟨#[]⟩) rfl) 5 (.string ⟨#[]⟩) rfl) 6 (.string ⟨#[]⟩) rfl) 7 (.slice none 0 0) rfl) 8 (.slice none 0 0) rfl) 9 (.slice none 0 0) rfl) (p := ⟨E, 0, none⟩) hze _) (blk_put (cs' := #[.int .i64 240]) (blk_far (blk_far (blk_far (blk_far (blk_far (blk_far (blk_far (blk_far (blk_far (blk_far HE.out (p := ⟨Z, 0, none⟩) hez (.int .i64 0)) (p := ⟨Z, 1, none⟩) hez (.int .i64 0)) (p := ⟨Z, 2, none⟩) hez (.int .i64 0)) (p := ⟨Z, 3, none⟩) hez (.int .i64 0)) (p := ⟨Z, 4, none⟩) hez (.string ⟨#[]⟩)) (p := ⟨Z, 5, none⟩) hez (.string ⟨#[]⟩)) (p := ⟨Z, 6, none⟩) hez (.string ⟨#[]⟩)) (p := ⟨Z, 7, none⟩) hez (.slice none 0 0)) (p := ⟨Z, 8, none⟩) hez (.slice none 0 0)) (p := ⟨Z, 9, none⟩) hez (.slice none 0 0)) 0 (.int .i64 240) rfl) (Kd.R_nil _ _ _ _ _) (Kd.R_nil _ _ _ _ _) (Kd.S_nil _ _ _ _ _) (((((((((((HB2.out.setCell (p := ⟨Z, 0, none⟩) HG2.out.1 (.int .i64 0)).setCell (p := ⟨Z, 1, none⟩) HG2.out.1 (.int .i64 0)).setCell (p := ⟨Z, 2, none⟩) HG2.out.1 (.int .i64 0)).setCell (p := ⟨Z, 3, none⟩) HG2.out.1 (.int .i64 0)).setCell (p := ⟨Z, 4, none⟩) HG2.out.1 (.string ⟨#[]⟩)).setCell (p := ⟨Z, 5, none⟩) HG2.out.1 (.string ⟨#[]⟩)).setCell (p := ⟨Z, 6, none⟩) HG2.out.1 (.string ⟨#[]⟩)).setCell (p := ⟨Z, 7, none⟩) HG2.out.1 (.slice none 0 0)).setCell (p := ⟨Z, 8, none⟩) HG2.out.1 (.slice none 0 0)).setCell (p := ⟨Z, 9, none⟩) HG2.out.1 (.slice none 0 0)).setCell (p := ⟨E, 0, none⟩) HG2.out.2.1 _)
  have hd1 : ((s.size : Int) % 2 != 0) = false := bne_eq_false_iff_eq.mpr (by omega)
  go_upto_region 4 with (first | ((with_reducible refine gate_dst (N := 4) rfl ?_); (try (refine gate_guard (by rfl) ?_; dsimp only)); refine box_event ?hg (N := 4) ?hd (cs := #[.slice none 0 0]) (t := 41) ?hr ?_; (case hd => rfl); (case hg => rfl); (case hr => first | (go_simp; done) | (go_simp; rfl)); intro B hg_ w3 hbox_ hb_; have HB := Aside0.mk hbox_; have HBN := Aside0.mk hg_; have HBB := Aside0.mk hb_; clear hbox_ hg_ hb_))
  have HZ3 := Aside0.mk (blk_below HZ2.out HBB.out)
  have HE3 := Aside0.mk (blk_below HE.out HBB.out)
  have HB3 := Aside0.mk (below_step HB2.out HBB.out)
  have HG3 := Aside0.mk (show w.heap.size ≤ B ∧ B ≠ Z ∧ B ≠ E ∧ B < w3.heap.size by
    have h1 := HG2.out
    have h2 := HBN.out
    have h3 := HB2.out.size
    have h4 := blk_lt HB.out
    omega)
  clear HZ2 HE HB2 HBN HBB
  go_wp2_with (first | ((with_reducible refine gate_dst (N := 14) rfl ?_); refine ev_bytesN rfl 9 41 5 (.tmp 13) rfl Try.underlying9 Try.underlying41 Try.underlying5 s rfl (by omega) ?_; intro g c w4 hg hr hc hb; have HRC := Aside0.mk hr; have HCC := Aside0.mk hc; have HGG := Aside0.mk hg; have HB4 := Aside0.mk hb; clear hg hr hc hb))
  refine (chunk_calls (some ⟨g, 0, none⟩) s.size c w4).mono ?_
  rintro e w5 ⟨X, Y, rfl, hx, hy, hX, hY, hb⟩
  have HX5 := Aside0.mk hx
  have HY5 := Aside0.mk hy
  have HZ5 := Aside0.mk (blk_below (blk_below HZ3.out HB4.out) hb)
  have HE5 := Aside0.mk (blk_below (blk_below HE3.out HB4.out) hb)
  have HB5 := Aside0.mk (blk_below (blk_below HB.out HB4.out) hb)
  have HBW := Aside0.mk (below_step (below_step HB3.out HB4.out) hb)
  have HC5 := Aside0.mk (Kd.C_below HRC.out hb)
  have HG5 := Aside0.mk (show w3.heap.size ≤ w5.heap.size ∧ g < w5.heap.size ∧ X < w5.heap.size ∧ Y < w5.heap.size ∧ w.heap.size ≤ w5.heap.size ∧ X ≠ B ∧ Y ≠ B ∧ g ≠ B by
    have h7 := HG3.out
    have h1 := HB4.out.size
    have h2 := hb.size
    have h3 := blk_lt hx
    have h4 := blk_lt hy
    have h5 := HGG.out
    have h6 := HB3.out.size
    omega)
  clear hx hy hX hY hb HZ3 HE3 HB HB3 HB4 HRC
  obtain ⟨m, hm⟩ : ∃ m, s.size = 2 * m := ⟨s.size / 2, by omega⟩
  obtain ⟨bs, hbs⟩ : ∃ bs, bs = bytesOf s := ⟨_, rfl⟩
  rw [← hbs] at HC5 HH hbl
  have hbl2 : bs.length = 2 * m := by omega
  rw [hm] at HX5 HCC HC5
  rw [← hbl2] at HC5
  have HBL := Aside0.mk hbl2
  have HBY := Aside0.mk (show isBytes bs by rw [hbs]; exact bytesOf_isBytes s)
  have hm0 : 2 * m ≤ 100000 := by omega
  have HML := Aside0.mk hm0
  clear hbl hbs hm hbl2
  go_wp2_with fail
  have HSQ : SeqStopsK Fence.wide (10 - 1) Try.prog 58 #[.pointer (some ⟨X, 0, none⟩), .pointer (some ⟨Y, 0, none⟩)] (fun k : Nat => #[pieceV ⟨g, 0, none⟩ m k]) (Kc X Y) (fun ys => ys = List.range m) (fun pre => ∃ k, k ≤ m ∧ pre = List.range k) m w5 :=
    chunk_stops 9 X Y (some ⟨g, 0, none⟩) ⟨g, 0, none⟩ m c (fun _ => rfl) (by omega) HCC.out w5 HX5.out HY5.out
  refine (wpIn_wide (n := 10)).1 (wpIn_rangeFunc_ownF (F := Fence.wide) (n := 10) (w0 := w5) rfl (by decide) (gf := 58) (lb := #[.pointer (some ⟨X, 0, none⟩), .pointer (some ⟨Y, 0, none⟩)]) rfl trivial (enters_of Try.func58 (by kernel_rfl) rfl)
    HSQ (fun h k => Kc.trans h k) ?kb (Below.refl _ _) (fun _ => rfl)
    (LnI w Z E B w5.heap.size ⟨g, 0, none⟩ bs m) (fun c' pre W => c' = .ret ∧ LnX w Z E bs m pre W) ?own ?ownx ?start
    (fun k => { tmps := #[.string s, undef, .pointer (some ⟨Z, 0, none⟩), .pointer (some ⟨E, 0, none⟩), .pointer (some ⟨B, 0, none⟩), pieceV ⟨g, 0, none⟩ m k, undef, undef, .string s, .int .i64 (s.size : Int), .int .i64 ((s.size : Int) % 2), .bool false, undef, .string s, .slice (some ⟨g, 0, none⟩) s.size c, .func (.func 58) #[] #[.pointer (some ⟨X, 0, none⟩), .pointer (some ⟨Y, 0, none⟩)], pieceV ⟨g, 0, none⟩ m k, undef, undef, undef, undef, undef, undef, undef, undef, undef, undef, undef, undef, undef, undef, undef, undef, undef, undef, undef, undef, undef, undef, undef, undef, undef, undef, undef], defers := [] }) ?assign ?body ?done ?stop)
  case kb =>
    intro W l o o' hl ho hc hw
    have hg := HG5.out
    exact ⟨(grownBy_putObj' W l o').block X (by have := blk_lt ho; omega) (by intro e; cases e; omega), (grownBy_putObj' W l o').block Y (by have := blk_lt ho; omega) (by intro e; cases e; omega)⟩
  case own =>
    have h1 := HG5.out
    have h2 := HG2.out
    have h3 := HG3.out
    have h4 := blk_lt HZ5.out
    have h5 := blk_lt HE5.out
    have h6 := blk_lt HB5.out
    exact LnI.own h4 h5 h6 h1.2.1 h1.2.2.2.2.1
  case ownx =>
    intro c'
    have h1 := HG5.out
    exact (ownFrom_pure _ _).and (LnX.own (blk_lt HZ5.out) (blk_lt HE5.out) h1.2.2.2.2.1)
  case start => exact ⟨HZ5.out, HE5.out, ⟨_, HB5.out, Kd.R_nil _ _ _ _ _⟩, HC5.out, (fun k hk => by cases hk), Nat.zero_le _, HBW.out, Nat.le_refl _⟩
  case assign =>
    intro l x W K hK
    gi_wp2
    exact hK
  case body =>
    intro l pre x W hI hlt
    obtain ⟨j, hj⟩ : ∃ j, j = min x (m - 1) := ⟨_, rfl⟩
    have hjm : j < m := by omega
    have hbl := HBL.out
    obtain ⟨a0, e0, hc0⟩ := Kd.at_int hI.hC ((2 * j : Nat) : Int) (by omega) (by omega)
    obtain ⟨a1, e1, hc1⟩ := Kd.at_int hI.hC ((2 * j + 1 : Nat) : Int) (by omega) (by omega)
    cases e0
    cases e1
    rw [Int.toNat_natCast] at hc0 hc1
    have hby0 := HBY.out (bs.getD (2 * j) 0) (getD_mem' (by omega) _)
    have hby1 := HBY.out (bs.getD (2 * j + 1) 0) (getD_mem' (by omega) _)
    have ea0 : (⟨g, 0, none⟩ : Addr).add (2 * j) = ⟨g, 2 * j, none⟩ := by unfold Addr.add; split <;> simp_all
    have ea1 : (⟨g, 0, none⟩ : Addr).add (2 * j + 1) = ⟨g, 2 * j + 1, none⟩ := by unfold Addr.add; split <;> simp_all
    have hq0 : rd bs ((2 * j : Nat) : Int) = bs.getD (2 * j) 0 := rfl
    have hq1 : rd bs ((2 * j + 1 : Nat) : Int) = bs.getD (2 * j + 1) 0 := rfl
    rw [hq0, ea0] at hc0
    rw [hq1, ea1] at hc1
    obtain ⟨ca, hca⟩ : ∃ ca, ca = bs.getD (2 * j) 0 := ⟨_, rfl⟩
    obtain ⟨cb, hcb⟩ : ∃ cb, cb = bs.getD (2 * j + 1) 0 := ⟨_, rfl⟩
    rw [← hca] at hc0 hby0
    rw [← hcb] at hc1 hby1
    have HI := Aside0.mk hI
    have HJ := Aside0.mk (And.intro hj (And.intro hca hcb))
    have HLT := Aside0.mk hlt
    have q0 : ∀ q : Wc W, q.1.cell? ⟨g, 2 * j, none⟩ = some (.int .u8 ca) := fun q => pw_cell_below q.2 hc0
    have q1 : ∀ q : Wc W, q.1.cell? ⟨g, 2 * j + 1, none⟩ = some (.int .u8 cb) := fun q => pw_cell_below q.2 hc1
    have HX0 := Aside0.mk (fun q : Wc W => ixb_calls hby0.1 hby0.2 q)
    have HX1 := Aside0.mk (fun q : Wc W => ixb_calls hby1.1 hby1.2 q)
    unfold pieceV
    rw [← hj, ea0]
    clear hq0 hq1 hc0 hc1 hby0 hby1 hI hlt hj hca hcb ea0 ea1 HH
    gi_wp2
    refine region_classIn (ro := some l) (w0 := W) (by kernel_rfl) (by kernel_rfl) (by simp) (Below.refl _ _) ?_
    repeat (go_big_quiet_step (first | exact HX0.out _ | exact HX1.out _))
    refine wpQuiet_nil ?_
    rintro W1 ⟨q, hq⟩
    have hb1 : Below W.heap.size W W1 := by rw [hq]; exact q.2
    have HI1 := Aside0.mk (HI.out.below hb1)
    have HK1 := Aside0.mk (keeps_below hb1)
    have HKC := Aside0.mk (Kc.of_below (Bs := X) (Bn := Y) hb1 (by have := HG5.out; have := HI.out.hM; omega) (by have := HG5.out; have := HI.out.hM; omega))
    clear hb1 hq q q0 q1 HX0 HX1 HI
    by_cases hbad : undig ca < 0 ∨ undig cb < 0
    · have HBD := Aside0.mk hbad
      have hte : (undig ca < 0) ∨ (¬ undig ca < 0 ∧ undig cb < 0) := by omega
      clear hbad
      rcases hte with h1 | ⟨h1, h2⟩
      · have hd2 : decide (undig ca < 0) = true := decide_eq_true h1
        have hz0 := blk_cell HI1.out.hZ 0
        have hf0 := blk_frozen HI1.out.hZ 0
        have hz1 := blk_cell HI1.out.hZ 1
        have hf1 := blk_frozen HI1.out.hZ 1
        have hz2 := blk_cell HI1.out.hZ 2
        have hf2 := blk_frozen HI1.out.hZ 2
        have hz3 := blk_cell HI1.out.hZ 3
        have hf3 := blk_frozen HI1.out.hZ 3
        have hz4 := blk_cell HI1.out.hZ 4
        have hf4 := blk_frozen HI1.out.hZ 4
        have hz5 := blk_cell HI1.out.hZ 5
        have hf5 := blk_frozen HI1.out.hZ 5
        have hz6 := blk_cell HI1.out.hZ 6
        have hf6 := blk_frozen HI1.out.hZ 6
        have hz7 := blk_cell HI1.out.hZ 7
        have hf7 := blk_frozen HI1.out.hZ 7
        have hz8 := blk_cell HI1.out.hZ 8
        have hf8 := blk_frozen HI1.out.hZ 8
        have hz9 := blk_cell HI1.out.hZ 9
        have hf9 := blk_frozen HI1.out.hZ 9
        have he0 := blk_cell HI1.out.hE 0
        have hg0 := blk_frozen HI1.out.hE 0
        have hze : Z ≠ E := HG2.out.2.2.1
        have hez : E ≠ Z := Ne.symm hze
        clear hbl hjm hodd
        iterate 4 gi_step
        refine region_unfenced (ro := some l) (by simp) (fun ⟨_, _, h_⟩ => h_) ?_
        go_wp2
        gi_step
        gi_step
        refine region_unfenced (ro := some l) (by simp) (fun ⟨_, _, h_⟩ => h_) ?_
        go_wp2_with fail
        gi_step
        refine ⟨HK1.out.trans ((((((((((((KeepsOthers.refl W1).trans (KeepsOthers.setCell _ _ _)).trans (KeepsOthers.setCell _ _ _)).trans (KeepsOthers.setCell _ _ _)).trans (KeepsOthers.setCell _ _ _)).trans (KeepsOthers.setCell _ _ _)).trans (KeepsOthers.setCell _ _ _)).trans (KeepsOthers.setCell _ _ _)).trans (KeepsOthers.setCell _ _ _)).trans (KeepsOthers.setCell _ _ _)).trans (KeepsOthers.setCell _ _ _)).trans (KeepsOthers.setCell _ _ _)), rfl, ⟨blk_far (blk_put (cs' := #[.int .i64 0, .int .i64 0, .int .i64 0, .int .i64 0, .string ⟨#[]⟩, .string ⟨#[]⟩, .string ⟨#[]⟩, .slice none 0 0, .slice none 0 0, .slice none 0 0]) (blk_put (cs' := #[.int .i64 0, .int .i64 0, .int .i64 0, .int .i64 0, .string ⟨#[]⟩, .string ⟨#[]⟩, .string ⟨#[]⟩, .slice none 0 0, .slice none 0 0, .slice none 0 0]) (blk_put (cs' := #[.int .i64 0, .int .i64 0, .int .i64 0, .int .i64 0, .string ⟨#[]⟩, .string ⟨#[]⟩, .string ⟨#[]⟩, .slice none 0 0, .slice none 0 0, .slice none 0 0]) (blk_put (cs' := #[.int .i64 0, .int .i64 0, .int .i64 0, .int .i64 0, .string ⟨#[]⟩, .string ⟨#[]⟩, .string ⟨#[]⟩, .slice none 0 0, .slice none 0 0, .slice none 0 0]) (blk_put (cs' := #[.int .i64 0, .int .i64 0, .int .i64 0, .int .i64 0, .string ⟨#[]⟩, .string ⟨#[]⟩, .string ⟨#[]⟩, .slice none 0 0, .slice none 0 0, .slice none 0 0]) (blk_put (cs' := #[.int .i64 0, .int .i64 0, .int .i64 0, .int .i64 0, .string ⟨#[]⟩, .string ⟨#[]⟩, .string ⟨#[]⟩, .slice none 0 0, .slice none 0 0, .slice none 0 0]) (blk_put (cs' := #[.int .i64 0, .int .i64 0, .int .i64 0, .int .i64 0, .string ⟨#[]⟩, .string ⟨#[]⟩, .string ⟨#[]⟩, .slice none 0 0, .slice none 0 0, .slice none 0 0]) (blk_put (cs' := #[.int .i64 0, .int .i64 0, .int .i64 0, .int .i64 0, .string ⟨#[]⟩, .string ⟨#[]⟩, .string ⟨#[]⟩, .slice none 0 0, .slice none 0 0, .slice none 0 0]) (blk_put (cs' := #[.int .i64 0, .int .i64 0, .int .i64 0, .int .i64 0, .string ⟨#[]⟩, .string ⟨#[]⟩, .string ⟨#[]⟩, .slice none 0 0, .slice none 0 0, .slice none 0 0]) (blk_put (cs' := #[.int .i64 0, .int .i64 0, .int .i64 0, .int .i64 0, .string ⟨#[]⟩, .string ⟨#[]⟩, .string ⟨#[]⟩, .slice none 0 0, .slice none 0 0, .slice none 0 0]) HI1.out.hZ 0 (.int .i64 0) rfl) 1 (.int .i64 0) rfl) 2 (.int .i64 0) rfl) 3 (.int .i64 0) rfl) 4 (.string ⟨#[]⟩) rfl) 5 (.string ⟨#[]⟩) rfl) 6 (.string ⟨#[]⟩) rfl) 7 (.slice none 0 0) rfl) 8 (.slice none 0 0) rfl) 9 (.slice none 0 0) rfl) (p := ⟨E, 0, none⟩) hze _, blk_put (cs' := #[.int .i64 240]) (blk_far (blk_far (blk_far (blk_far (blk_far (blk_far (blk_far (blk_far (blk_far (blk_far HI1.out.hE (p := ⟨Z, 0, none⟩) hez (.int .i64 0)) (p := ⟨Z, 1, none⟩) hez (.int .i64 0)) (p := ⟨Z, 2, none⟩) hez (.int .i64 0)) (p := ⟨Z, 3, none⟩) hez (.int .i64 0)) (p := ⟨Z, 4, none⟩) hez (.string ⟨#[]⟩)) (p := ⟨Z, 5, none⟩) hez (.string ⟨#[]⟩)) (p := ⟨Z, 6, none⟩) hez (.string ⟨#[]⟩)) (p := ⟨Z, 7, none⟩) hez (.slice none 0 0)) (p := ⟨Z, 8, none⟩) hez (.slice none 0 0)) (p := ⟨Z, 9, none⟩) hez (.slice none 0 0)) 0 (.int .i64 240) rfl, ⟨x, by simp, ?_⟩, ((((((((((HI1.out.hw.setCell (p := ⟨Z, 0, none⟩) HG2.out.1 (.int .i64 0)).setCell (p := ⟨Z, 1, none⟩) HG2.out.1 (.int .i64 0)).setCell (p := ⟨Z, 2, none⟩) HG2.out.1 (.int .i64 0)).setCell (p := ⟨Z, 3, none⟩) HG2.out.1 (.int .i64 0)).setCell (p := ⟨Z, 4, none⟩) HG2.out.1 (.string ⟨#[]⟩)).setCell (p := ⟨Z, 5, none⟩) HG2.out.1 (.string ⟨#[]⟩)).setCell (p := ⟨Z, 6, none⟩) HG2.out.1 (.string ⟨#[]⟩)).setCell (p := ⟨Z, 7, none⟩) HG2.out.1 (.slice none 0 0)).setCell (p := ⟨Z, 8, none⟩) HG2.out.1 (.slice none 0 0)).setCell (p := ⟨Z, 9, none⟩) HG2.out.1 (.slice none 0 0)).setCell (p := ⟨E, 0, none⟩) HG2.out.2.1 _⟩⟩
        rw [← HJ.out.1, ← HJ.out.2.1, ← HJ.out.2.2]
        exact HBD.out
      · have hd2 : decide (undig ca < 0) = false := decide_eq_false h1
        have hd3 : decide (undig cb < 0) = true := decide_eq_true h2
        have hz0 := blk_cell HI1.out.hZ 0
        have hf0 := blk_frozen HI1.out.hZ 0
        have hz1 := blk_cell HI1.out.hZ 1
        have hf1 := blk_frozen HI1.out.hZ 1
        have hz2 := blk_cell HI1.out.hZ 2
        have hf2 := blk_frozen HI1.out.hZ 2
        have hz3 := blk_cell HI1.out.hZ 3
        have hf3 := blk_frozen HI1.out.hZ 3
        have hz4 := blk_cell HI1.out.hZ 4
        have hf4 := blk_frozen HI1.out.hZ 4
        have hz5 := blk_cell HI1.out.hZ 5
        have hf5 := blk_frozen HI1.out.hZ 5
        have hz6 := blk_cell HI1.out.hZ 6
        have hf6 := blk_frozen HI1.out.hZ 6
        have hz7 := blk_cell HI1.out.hZ 7
        have hf7 := blk_frozen HI1.out.hZ 7
        have hz8 := blk_cell HI1.out.hZ 8
        have hf8 := blk_frozen HI1.out.hZ 8
        have hz9 := blk_cell HI1.out.hZ 9
        have hf9 := blk_frozen HI1.out.hZ 9
        have he0 := blk_cell HI1.out.hE 0
        have hg0 := blk_frozen HI1.out.hE 0
        have hze : Z ≠ E := HG2.out.2.2.1
        have hez : E ≠ Z := Ne.symm hze
        clear hbl hjm hodd
        iterate 4 gi_step
        refine region_unfenced (ro := some l) (by simp) (fun ⟨_, _, h_⟩ => h_) ?_
        go_wp2
        gi_step
        gi_step
        refine region_unfenced (ro := some l) (by simp) (fun ⟨_, _, h_⟩ => h_) ?_
        go_wp2_with fail
        gi_step
        refine ⟨HK1.out.trans ((((((((((((KeepsOthers.refl W1).trans (KeepsOthers.setCell _ _ _)).trans (KeepsOthers.setCell _ _ _)).trans (KeepsOthers.setCell _ _ _)).trans (KeepsOthers.setCell _ _ _)).trans (KeepsOthers.setCell _ _ _)).trans (KeepsOthers.setCell _ _ _)).trans (KeepsOthers.setCell _ _ _)).trans (KeepsOthers.setCell _ _ _)).trans (KeepsOthers.setCell _ _ _)).trans (KeepsOthers.setCell _ _ _)).trans (KeepsOthers.setCell _ _ _)), rfl, ⟨blk_far (blk_put (cs' := #[.int .i64 0, .int .i64 0, .int .i64 0, .int .i64 0, .string ⟨#[]⟩, .string ⟨#[]⟩, .string ⟨#[]⟩, .slice none 0 0, .slice none 0 0, .slice none 0 0]) (blk_put (cs' := #[.int .i64 0, .int .i64 0, .int .i64 0, .int .i64 0, .string ⟨#[]⟩, .string ⟨#[]⟩, .string ⟨#[]⟩, .slice none 0 0, .slice none 0 0, .slice none 0 0]) (blk_put (cs' := #[.int .i64 0, .int .i64 0, .int .i64 0, .int .i64 0, .string ⟨#[]⟩, .string ⟨#[]⟩, .string ⟨#[]⟩, .slice none 0 0, .slice none 0 0, .slice none 0 0]) (blk_put (cs' := #[.int .i64 0, .int .i64 0, .int .i64 0, .int .i64 0, .string ⟨#[]⟩, .string ⟨#[]⟩, .string ⟨#[]⟩, .slice none 0 0, .slice none 0 0, .slice none 0 0]) (blk_put (cs' := #[.int .i64 0, .int .i64 0, .int .i64 0, .int .i64 0, .string ⟨#[]⟩, .string ⟨#[]⟩, .string ⟨#[]⟩, .slice none 0 0, .slice none 0 0, .slice none 0 0]) (blk_put (cs' := #[.int .i64 0, .int .i64 0, .int .i64 0, .int .i64 0, .string ⟨#[]⟩, .string ⟨#[]⟩, .string ⟨#[]⟩, .slice none 0 0, .slice none 0 0, .slice none 0 0]) (blk_put (cs' := #[.int .i64 0, .int .i64 0, .int .i64 0, .int .i64 0, .string ⟨#[]⟩, .string ⟨#[]⟩, .string ⟨#[]⟩, .slice none 0 0, .slice none 0 0, .slice none 0 0]) (blk_put (cs' := #[.int .i64 0, .int .i64 0, .int .i64 0, .int .i64 0, .string ⟨#[]⟩, .string ⟨#[]⟩, .string ⟨#[]⟩, .slice none 0 0, .slice none 0 0, .slice none 0 0]) (blk_put (cs' := #[.int .i64 0, .int .i64 0, .int .i64 0, .int .i64 0, .string ⟨#[]⟩, .string ⟨#[]⟩, .string ⟨#[]⟩, .slice none 0 0, .slice none 0 0, .slice none 0 0]) (blk_put (cs' := #[.int .i64 0, .int .i64 0, .int .i64 0, .int .i64 0, .string ⟨#[]⟩, .string ⟨#[]⟩, .string ⟨#[]⟩, .slice none 0 0, .slice none 0 0, .slice none 0 0]) HI1.out.hZ 0 (.int .i64 0) rfl) 1 (.int .i64 0) rfl) 2 (.int .i64 0) rfl) 3 (.int .i64 0) rfl) 4 (.string ⟨#[]⟩) rfl) 5 (.string ⟨#[]⟩) rfl) 6 (.string ⟨#[]⟩) rfl) 7 (.slice none 0 0) rfl) 8 (.slice none 0 0) rfl) 9 (.slice none 0 0) rfl) (p := ⟨E, 0, none⟩) hze _, blk_put (cs' := #[.int .i64 240]) (blk_far (blk_far (blk_far (blk_far (blk_far (blk_far (blk_far (blk_far (blk_far (blk_far HI1.out.hE (p := ⟨Z, 0, none⟩) hez (.int .i64 0)) (p := ⟨Z, 1, none⟩) hez (.int .i64 0)) (p := ⟨Z, 2, none⟩) hez (.int .i64 0)) (p := ⟨Z, 3, none⟩) hez (.int .i64 0)) (p := ⟨Z, 4, none⟩) hez (.string ⟨#[]⟩)) (p := ⟨Z, 5, none⟩) hez (.string ⟨#[]⟩)) (p := ⟨Z, 6, none⟩) hez (.string ⟨#[]⟩)) (p := ⟨Z, 7, none⟩) hez (.slice none 0 0)) (p := ⟨Z, 8, none⟩) hez (.slice none 0 0)) (p := ⟨Z, 9, none⟩) hez (.slice none 0 0)) 0 (.int .i64 240) rfl, ⟨x, by simp, ?_⟩, ((((((((((HI1.out.hw.setCell (p := ⟨Z, 0, none⟩) HG2.out.1 (.int .i64 0)).setCell (p := ⟨Z, 1, none⟩) HG2.out.1 (.int .i64 0)).setCell (p := ⟨Z, 2, none⟩) HG2.out.1 (.int .i64 0)).setCell (p := ⟨Z, 3, none⟩) HG2.out.1 (.int .i64 0)).setCell (p := ⟨Z, 4, none⟩) HG2.out.1 (.string ⟨#[]⟩)).setCell (p := ⟨Z, 5, none⟩) HG2.out.1 (.string ⟨#[]⟩)).setCell (p := ⟨Z, 6, none⟩) HG2.out.1 (.string ⟨#[]⟩)).setCell (p := ⟨Z, 7, none⟩) HG2.out.1 (.slice none 0 0)).setCell (p := ⟨Z, 8, none⟩) HG2.out.1 (.slice none 0 0)).setCell (p := ⟨Z, 9, none⟩) HG2.out.1 (.slice none 0 0)).setCell (p := ⟨E, 0, none⟩) HG2.out.2.1 _⟩⟩
        rw [← HJ.out.1, ← HJ.out.2.1, ← HJ.out.2.2]
        exact HBD.out
    · have h1 : ¬ undig ca < 0 := fun h => hbad (.inl h)
      have h2 : ¬ undig cb < 0 := fun h => hbad (.inr h)
      have HBD := Aside0.mk hbad
      obtain ⟨-, ua0, ua1⟩ := dig_undig h1
      obtain ⟨-, ub0, ub1⟩ := dig_undig h2
      have hor := or_16 ua0 ua1 ub0 ub1
      have hd2 : decide (undig ca < 0) = false := decide_eq_false h1
      have hd3 : decide (undig cb < 0) = false := decide_eq_false h2
      obtain ⟨v, hvB, hvR⟩ := HI1.out.hB
      obtain ⟨acc, hacc⟩ : ∃ acc, acc = pre.map fun k => undig (bs.getD (2 * min k (m - 1)) 0) * 16 + undig (bs.getD (2 * min k (m - 1) + 1) 0) := ⟨_, rfl⟩
      rw [← hacc] at hvR
      have hal : acc.length ≤ 100000 := by rw [hacc, List.length_map]; have := HI1.out.hlen; omega
      have HAC := Aside0.mk hacc
      have hMW := HI1.out.hM
      obtain ⟨A9, c9, e9⟩ := Kd.R_slice hvR
      subst e9
      clear hacc
      have hb0 := blk_cell hvB 0
      have hbf := blk_frozen hvB 0
      have HVB := Aside0.mk hvB
      have HVR := Aside0.mk hvR
      clear hbl hodd hbad hvB hvR
      iterate 4 gi_step
      refine region_unfenced (ro := some l) (by simp) (fun ⟨_, _, h_⟩ => h_) ?_
      go_wp2
      iterate 4 gi_step
      refine region_unfenced (ro := some l) (by simp) (fun ⟨_, _, h_⟩ => h_) ?_
      go_wp2_with (first | ((with_reducible refine gate_builtin (b := .append) (xs := #[.tmp 32, .tmp 38]) rfl ?_); at_builtin; refine Kd.R_append (Kd.int .u8) (w0 := W1) w5.heap.size rfl (.tmp 32) (.tmp 38) 41 5 (.int .u8 0) 1 rfl Try.underlying41 info_u8 rfl (by decide) (by omega) (.slice A9 acc.length c9) acc (undig ca * 16 + undig cb) [.int .u8 (undig ca * 16 + undig cb)] (fun _ => True) (fun _ => False) rfl rfl rfl (fun _ hk => hk.elim) (fun _ _ => trivial) HVR.out (Below.refl _ _) hMW (by omega) ?_; intro v2 w7 ho hb hg hat; obtain ⟨lr, hlr⟩ : ∃ lr, lr = acc ++ [undig ca * 16 + undig cb] := ⟨_, rfl⟩; rw [← hlr] at ho; have HLR := Aside0.mk hlr; clear hlr; have HO2 := Aside0.mk ho; have HB2 := Aside0.mk hb; have HGR := Aside0.mk hg; obtain ⟨A2, c2, e2⟩ := Kd.R_slice ho; subst e2; have hK2 := (hb.block B (by have := HG3.out; have := HG5.out; omega)).trans HVB.out; have HK2 := Aside0.mk hK2; have hf2 := blk_frozen hK2 0; have hc2 := blk_cell hK2 0; clear ho hb hg hat hK2))
      obtain ⟨p1, p2, p3, p4, p5, p6, p7, p8⟩ := HG5.out
      obtain ⟨r1, r2, r3, r4⟩ := HG3.out
      have hZM := blk_lt HZ5.out
      have hEM := blk_lt HE5.out
      have hBM := blk_lt HB5.out
      have hbs := Kd.R_base HVR.out
      refine ⟨(HK1.out.trans (KeepsOthers.of_grownBy HGR.out (fun i o e ho => ?_))).trans (KeepsOthers.setCell _ _ _), HKC.out.trans ⟨(Below.heap_setCell w7 _ _ X p6).trans (HB2.out.block X p3), (Below.heap_setCell w7 _ _ Y p7).trans (HB2.out.block Y p4)⟩, ⟨?_, ?_, ⟨_, blk_put (cs' := #[.slice A2 lr.length c2]) HK2.out 0 (.slice A2 lr.length c2) rfl, ?_⟩, ?_, ?_, ?_, ?_, ?_⟩⟩
      · obtain ⟨cells, hc⟩ := Kd.R_typed HVR.out i e
        rw [hc] at ho
        cases ho
        rfl
      · exact blk_far ((HB2.out.block Z hZM).trans HI1.out.hZ) (p := ⟨B, 0, none⟩) (Ne.symm r2) _
      · exact blk_far ((HB2.out.block E hEM).trans HI1.out.hE) (p := ⟨B, 0, none⟩) (Ne.symm r3) _
      · have h3 := R_off' HO2.out hBM ((KeepBut.refl w7 B none).set_ 0 (.slice A2 lr.length c2))
        have e3 : lr = (pre ++ [x]).map fun k => undig (bs.getD (2 * min k (m - 1)) 0) * 16 + undig (bs.getD (2 * min k (m - 1) + 1) 0) := by
          rw [HLR.out, HAC.out, List.map_append, List.map_singleton, ← HJ.out.1, ← HJ.out.2.1, ← HJ.out.2.2]
        rw [← e3]
        exact h3
      · exact Kd.C_keep (0 : Int) (C_row HI1.out.hC HGR.out (fun r e he => by have := hbs r e; simp only at he; omega)) ((KeepBut.refl w7 B none).set_ 0 (.slice A2 lr.length c2)) (fun a e hn he => by cases e; exact p8 he)
      · intro k hk
        rcases List.mem_append.1 hk with hk | hk
        · exact HI1.out.hok k hk
        · rw [List.mem_singleton.1 hk, ← HJ.out.1, ← HJ.out.2.1, ← HJ.out.2.2]
          exact HBD.out
      · have := HLT.out
        rw [List.length_append, List.length_singleton]; omega
      · exact (HI1.out.hw.trans (HB2.out.mono p5)).setCell (p := ⟨B, 0, none⟩) r1 _
      · rw [World.size_setCell]
        exact Nat.le_trans hMW HB2.out.size
  case done =>
    rintro D ys W hD rfl hI hK
    have HI := Aside0.mk hI
    have HKD := Aside0.mk hK
    obtain ⟨v, hvB, hvR⟩ := hI.hB
    obtain ⟨acc, hacc⟩ : ∃ acc, acc = (List.range m).map fun k => undig (bs.getD (2 * min k (m - 1)) 0) * 16 + undig (bs.getD (2 * min k (m - 1) + 1) 0) := ⟨_, rfl⟩
    rw [← hacc] at hvR
    obtain ⟨A9, c9, e9⟩ := Kd.R_slice hvR
    subst e9
    obtain ⟨-, hc9, hC9⟩ := Kd.R_reads' hvR
    have hb0 := blk_cell hvB 0
    clear hI hK
    have e8 : acc = (List.range m).map (pairV bs) := by
      rw [hacc]
      exact List.map_congr_left fun k hk => by
        have := List.mem_range.1 hk
        rw [Nat.min_eq_left (by omega)]; rfl
    have hlen : acc.length = m := by rw [e8, List.length_map, List.length_range]
    have htk : takeS acc = (r, re) := by
      have hl := HH.out
      unfold lineS at hl
      rw [unhex_all m bs HBL.out (fun k hk hb => HI.out.hok k (List.mem_range.2 hk) (by rw [Nat.min_eq_left (by omega)]; exact hb)), ← e8] at hl
      exact hl
    have hby : isBytes acc := by
      intro x hx
      rw [e8] at hx
      obtain ⟨k, hk, rfl⟩ := List.mem_map.1 hx
      have hkm := List.mem_range.1 hk
      have := HI.out.hok k hk
      rw [Nat.min_eq_left (by omega), not_or] at this
      obtain ⟨-, ua0, ua1⟩ := dig_undig this.1
      obtain ⟨-, ub0, ub1⟩ := dig_undig this.2
      unfold pairV
      omega
    have HT := Aside0.mk htk
    have HY := Aside0.mk hby
    have HL := Aside0.mk (And.intro hc9 (And.intro hC9 hlen))
    clear e8 hlen htk hby hacc hc9 hC9 hvB hvR
    dsimp only
    go_wp2_with fail
    refine (take_calls22 A9 c9 acc W HL.out.2.1 HL.out.1 HY.out (by have := HL.out.2.2; have := HML.out; omega) r re HT.out).mono ?_
    rintro e w9 ⟨v7, v8, v9, rfl, h7, h8, h9, hb⟩
    obtain ⟨A7, c7, rfl⟩ := Kd.R_slice h7
    obtain ⟨A8, c8, rfl⟩ := Kd.R_slice h8
    obtain ⟨Aq, cq, rfl⟩ := Kd.S_slice h9
    have H7 := Aside0.mk h7
    have H8 := Aside0.mk h8
    have H9 := Aside0.mk h9
    have HZ9 := Aside0.mk (blk_below HI.out.hZ hb)
    have HE9 := Aside0.mk (blk_below HI.out.hE hb)
    have HK9 := Aside0.mk (blk_below HKD.out hb)
    have HB9 := Aside0.mk (below_step (Aside0.mk HI.out.hw).out hb)
    have hz0 := blk_cell HZ9.out 0
    have fz0 := blk_frozen HZ9.out 0
    have hz1 := blk_cell HZ9.out 1
    have fz1 := blk_frozen HZ9.out 1
    have hz2 := blk_cell HZ9.out 2
    have fz2 := blk_frozen HZ9.out 2
    have hz3 := blk_cell HZ9.out 3
    have fz3 := blk_frozen HZ9.out 3
    have hz4 := blk_cell HZ9.out 4
    have fz4 := blk_frozen HZ9.out 4
    have hz5 := blk_cell HZ9.out 5
    have fz5 := blk_frozen HZ9.out 5
    have hz6 := blk_cell HZ9.out 6
    have fz6 := blk_frozen HZ9.out 6
    have hz7 := blk_cell HZ9.out 7
    have fz7 := blk_frozen HZ9.out 7
    have hz8 := blk_cell HZ9.out 8
    have fz8 := blk_frozen HZ9.out 8
    have hz9 := blk_cell HZ9.out 9
    have fz9 := blk_frozen HZ9.out 9
    have he0 := blk_cell HE9.out 0
    have hg0 := blk_frozen HE9.out 0
    have hze : Z ≠ E := HG2.out.2.2.1
    have hez : E ≠ Z := Ne.symm hze
    clear h7 h8 h9 hb
    go_wp2_with fail
    have g2 := HG2.out
    have g5 := HG5.out
    have g6 := blk_lt HZ5.out
    have g7 := blk_lt HE5.out
    have g8 := HI.out.hM
    have g9 := blk_lt HKD.out
    have hk1 : KeepBut w9 ((((((((((w9.setCell ⟨Z, 0, none⟩ (.int .i64 r.f0)).setCell ⟨Z, 1, none⟩ (.int .i64 r.f1)).setCell ⟨Z, 2, none⟩ (.int .i64 r.f2)).setCell ⟨Z, 3, none⟩ (.int .i64 r.f3)).setCell ⟨Z, 4, none⟩ (.string r.f4)).setCell ⟨Z, 5, none⟩ (.string r.f5.f0)).setCell ⟨Z, 6, none⟩ (.string r.f5.f1)).setCell ⟨Z, 7, none⟩ (.slice A7 r.f5.f2.length c7)).setCell ⟨Z, 8, none⟩ (.slice A8 r.f5.f3.length c8)).setCell ⟨Z, 9, none⟩ (.slice Aq r.f6.f0.length cq)) Z none := (((((((((((KeepBut.refl w9 Z none).set_ 0 (.int .i64 r.f0)).set_ 1 (.int .i64 r.f1)).set_ 2 (.int .i64 r.f2)).set_ 3 (.int .i64 r.f3)).set_ 4 (.string r.f4)).set_ 5 (.string r.f5.f0)).set_ 6 (.string r.f5.f1)).set_ 7 (.slice A7 r.f5.f2.length c7)).set_ 8 (.slice A8 r.f5.f3.length c8)).set_ 9 (.slice Aq r.f6.f0.length cq))
    have hp1 := (blk_put (cs' := #[.int .i64 r.f0, .int .i64 r.f1, .int .i64 r.f2, .int .i64 r.f3, .string r.f4, .string r.f5.f0, .string r.f5.f1, .slice A7 r.f5.f2.length c7, .slice A8 r.f5.f3.length c8, .slice Aq r.f6.f0.length cq]) (blk_put (cs' := #[.int .i64 r.f0, .int .i64 r.f1, .int .i64 r.f2, .int .i64 r.f3, .string r.f4, .string r.f5.f0, .string r.f5.f1, .slice A7 r.f5.f2.length c7, .slice A8 r.f5.f3.length c8, .slice none 0 0]) (blk_put (cs' := #[.int .i64 r.f0, .int .i64 r.f1, .int .i64 r.f2, .int .i64 r.f3, .string r.f4, .string r.f5.f0, .string r.f5.f1, .slice A7 r.f5.f2.length c7, .slice none 0 0, .slice none 0 0]) (blk_put (cs' := #[.int .i64 r.f0, .int .i64 r.f1, .int .i64 r.f2, .int .i64 r.f3, .string r.f4, .string r.f5.f0, .string r.f5.f1, .slice none 0 0, .slice none 0 0, .slice none 0 0]) (blk_put (cs' := #[.int .i64 r.f0, .int .i64 r.f1, .int .i64 r.f2, .int .i64 r.f3, .string r.f4, .string r.f5.f0, .string ⟨#[]⟩, .slice none 0 0, .slice none 0 0, .slice none 0 0]) (blk_put (cs' := #[.int .i64 r.f0, .int .i64 r.f1, .int .i64 r.f2, .int .i64 r.f3, .string r.f4, .string ⟨#[]⟩, .string ⟨#[]⟩, .slice none 0 0, .slice none 0 0, .slice none 0 0]) (blk_put (cs' := #[.int .i64 r.f0, .int .i64 r.f1, .int .i64 r.f2, .int .i64 r.f3, .string ⟨#[]⟩, .string ⟨#[]⟩, .string ⟨#[]⟩, .slice none 0 0, .slice none 0 0, .slice none 0 0]) (blk_put (cs' := #[.int .i64 r.f0, .int .i64 r.f1, .int .i64 r.f2, .int .i64 0, .string ⟨#[]⟩, .string ⟨#[]⟩, .string ⟨#[]⟩, .slice none 0 0, .slice none 0 0, .slice none 0 0]) (blk_put (cs' := #[.int .i64 r.f0, .int .i64 r.f1, .int .i64 0, .int .i64 0, .string ⟨#[]⟩, .string ⟨#[]⟩, .string ⟨#[]⟩, .slice none 0 0, .slice none 0 0, .slice none 0 0]) (blk_put (cs' := #[.int .i64 r.f0, .int .i64 0, .int .i64 0, .int .i64 0, .string ⟨#[]⟩, .string ⟨#[]⟩, .string ⟨#[]⟩, .slice none 0 0, .slice none 0 0, .slice none 0 0]) HZ9.out 0 (.int .i64 r.f0) rfl) 1 (.int .i64 r.f1) rfl) 2 (.int .i64 r.f2) rfl) 3 (.int .i64 r.f3) rfl) 4 (.string r.f4) rfl) 5 (.string r.f5.f0) rfl) 6 (.string r.f5.f1) rfl) 7 (.slice A7 r.f5.f2.length c7) rfl) 8 (.slice A8 r.f5.f3.length c8) rfl) 9 (.slice Aq r.f6.f0.length cq) rfl)
    have hb1 := ((((((((((HB9.out.setCell (p := ⟨Z, 0, none⟩) HG2.out.1 (.int .i64 r.f0)).setCell (p := ⟨Z, 1, none⟩) HG2.out.1 (.int .i64 r.f1)).setCell (p := ⟨Z, 2, none⟩) HG2.out.1 (.int .i64 r.f2)).setCell (p := ⟨Z, 3, none⟩) HG2.out.1 (.int .i64 r.f3)).setCell (p := ⟨Z, 4, none⟩) HG2.out.1 (.string r.f4)).setCell (p := ⟨Z, 5, none⟩) HG2.out.1 (.string r.f5.f0)).setCell (p := ⟨Z, 6, none⟩) HG2.out.1 (.string r.f5.f1)).setCell (p := ⟨Z, 7, none⟩) HG2.out.1 (.slice A7 r.f5.f2.length c7)).setCell (p := ⟨Z, 8, none⟩) HG2.out.1 (.slice A8 r.f5.f3.length c8)).setCell (p := ⟨Z, 9, none⟩) HG2.out.1 (.slice Aq r.f6.f0.length cq))
    have hE1 := (hk1.2 E (blk_lt HE9.out) hez (by simp)).trans HE9.out
    have hK1 := (hk1.2 D (blk_lt HK9.out) (by omega) (by simp)).trans HK9.out
    have h71 := R_off' H7.out (by omega) hk1
    have h81 := R_off' H8.out (by omega) hk1
    have h91 := S_off' H9.out (by omega) hk1
    generalize ((((((((((w9.setCell ⟨Z, 0, none⟩ (.int .i64 r.f0)).setCell ⟨Z, 1, none⟩ (.int .i64 r.f1)).setCell ⟨Z, 2, none⟩ (.int .i64 r.f2)).setCell ⟨Z, 3, none⟩ (.int .i64 r.f3)).setCell ⟨Z, 4, none⟩ (.string r.f4)).setCell ⟨Z, 5, none⟩ (.string r.f5.f0)).setCell ⟨Z, 6, none⟩ (.string r.f5.f1)).setCell ⟨Z, 7, none⟩ (.slice A7 r.f5.f2.length c7)).setCell ⟨Z, 8, none⟩ (.slice A8 r.f5.f3.length c8)).setCell ⟨Z, 9, none⟩ (.slice Aq r.f6.f0.length cq)) = w10 at *
    have hk2 : KeepBut w10 (w10.setCell ⟨E, 0, none⟩ (.int .i64 re)) E none := (KeepBut.refl w10 E none).set_ 0 (.int .i64 re)
    have hp2 := blk_far hp1 (p := ⟨E, 0, none⟩) hze (.int .i64 re)
    have hE2 := blk_put (cs' := #[.int .i64 re]) hE1 0 (.int .i64 re) rfl
    have hb2 := hb1.setCell (p := ⟨E, 0, none⟩) HG2.out.2.1 (.int .i64 re)
    have hK2 := (hk2.2 D (blk_lt hK1) (by omega) (by simp)).trans hK1
    have h72 := R_off' h71 (by omega) hk2
    have h82 := R_off' h81 (by omega) hk2
    have h92 := S_off' h91 (by omega) hk2
    generalize w10.setCell ⟨E, 0, none⟩ (.int .i64 re) = w11 at *
    refine ⟨by simp, .inl ⟨_, _, rfl, run_takeDeferred hK2, ?_⟩⟩
    have hk3 := keep_put w11 D (.deferred none)
    exact line_out rfl rfl ((hk3.2 Z (blk_lt hp2) (by omega) (by simp)).trans hp2) ((hk3.2 E (blk_lt hE2) (by omega) (by simp)).trans hE2) (Kd.R_lower (R_off' h72 (by omega) hk3) (by omega)) (Kd.R_lower (R_off' h82 (by omega) hk3) (by omega)) (Kd.S_lower (S_off' h92 (by omega) hk3) (by omega)) (hb2.grown (grownBy_putObj' w11 D _) hb2.size (fun k e => by cases e; omega))
  case stop =>
    rintro D c' pre W hD ⟨k, hk, rfl⟩ ⟨rfl, hX⟩ hK
    have hl := HH.out
    obtain ⟨i, hi, hbi⟩ := hX.hbad
    have him : i < k := List.mem_range.1 hi
    have e1 : min i (m - 1) = i := by omega
    rw [e1] at hbi
    unfold lineS at hl
    rw [unhex_bad m bs i HBL.out (by omega) hbi] at hl
    simp only [Prod.mk.injEq] at hl
    obtain ⟨rfl, rfl⟩ := hl
    have g2 := HG2.out
    have g5 := HG5.out
    have g6 := blk_lt HZ5.out
    have g7 := blk_lt HE5.out
    gi_step
    refine ⟨by simp, .inl ⟨_, _, rfl, run_takeDeferred hK, ?_⟩⟩
    exact line_out rfl rfl (((keep_put W D _).2 Z (blk_lt hX.hZ) (by omega) (by simp)).trans hX.hZ) (((keep_put W D _).2 E (blk_lt hX.hE) (by omega) (by simp)).trans hX.hE) (Kd.R_nil _ _ _ _ _) (Kd.R_nil _ _ _ _ _) (Kd.S_nil _ _ _ _ _) (hX.hw.grown (grownBy_putObj' W D _) hX.hw.size (fun k e => by cases e; omega))
end Go.Proofs.Ytocpcnmnhckcpaa.Prt
