/- script.line: its walk. strings.Cut at an end of a line; ends of lines counted. script.Parse: its walk. The law ScriptBounds: its walk. -/
import Derived.Test.YtocpcnmnhckcpaaYScriptBounds1
import Derived.Test.YtocpcnmnhckcpaaYScriptBounds2
import Derived.Test.YtocpcnmnhckcpaaYScriptBounds3
import Derived.Test.YtocpcnmnhckcpaaYScriptBounds4
namespace Go.Proofs.Ytocpcnmnhckcpaa.Prt
open Go.RowKit Go.Proofs.YtocpcnmnhckcpaaW.PrintWords Go.Proofs.YtocpcnmnhckcpaaW.PrintLast Go.Proofs.YtocpcnmnhckcpaaW.PrintMore Go.Proofs.Ytocpcnmnhckcpaa.Num Go.Proofs.Ytocpcnmnhckcpaa.Nam Go.Shelf
set_option linter.unusedVariables false
set_option linter.unusedSimpArgs false
attribute [local go_sem] Oper.semAt_some Fw_round Fw_depth Fw_fn
/-- What a line leaves with. -/
theorem line_out {w W : World} {Z E : Nat} {tmps : Array Value} {r : S36} {re : Int} {v7 v8 v9 : Value} (h2 : tmps.getD 2 undef = .pointer (some ⟨Z, 0, none⟩)) (h3 : tmps.getD 3 undef = .pointer (some ⟨E, 0, none⟩))
    (hZ : W.heap[Z]? = some (.cells #[.int .i64 r.f0, .int .i64 r.f1, .int .i64 r.f2, .int .i64 r.f3, .string r.f4, .string r.f5.f0, .string r.f5.f1, v7, v8, v9] 36 (0, 0)))
    (hE : W.heap[E]? = some (.cells #[.int .i64 re] 25 (0, 0)))
    (h7 : Kd.string.R 9 W w.heap.size (fun _ => True) v7 r.f5.f2) (h8 : k90.R 90 W w.heap.size (fun _ => True) v8 r.f5.f3) (h9 : Kd.S k92 92 W w.heap.size (fun _ => True) v9 r.f6.f0) (hb : Below w.heap.size w W) :
    ∃ v, (results Try.f19 tmps).run Try.prog W = .ok v W ∧ ∃ v7 v8 v9, Ending.returned v = .returned (.tuple #[.agg #[.int .i64 r.f0, .int .i64 r.f1, .int .i64 r.f2, .int .i64 r.f3, .string r.f4, .string r.f5.f0, .string r.f5.f1, v7, v8, v9], .int .i64 re]) ∧ Kd.string.R 9 W w.heap.size (fun _ => True) v7 r.f5.f2 ∧ k90.R 90 W w.heap.size (fun _ => True) v8 r.f5.f3 ∧ Kd.S k92 92 W w.heap.size (fun _ => True) v9 r.f6.f0 ∧ Below w.heap.size w W :=
  ⟨_, results_ci rfl tmps W Z E 36 25 _ _ (0, 0) (0, 0) _ .i64 h2 hZ Try.underlying36 rfl (by kernel_rfl) h3 hE Try.underlying25, v7, v8, v9, rfl, h7, h8, h9, hb⟩
set_option maxRecDepth 100000 in
set_option maxHeartbeats 8000000 in
theorem line_calls22 (s : ByteArray) (w : World) (hz : s.size ≤ 100000) (r : S36) (re : Int) (h : lineS (bytesOf s) = (r, re)) :
    Calls Try.prog 19 #[.string s] w fun e w' => ∃ v7 v8 v9, e = .returned (.tuple #[.agg #[.int .i64 r.f0, .int .i64 r.f1, .int .i64 r.f2, .int .i64 r.f3, .string r.f4, .string r.f5.f0, .string r.f5.f1, v7, v8, v9], .int .i64 re]) ∧ Kd.string.R 9 w' w.heap.size (fun _ => True) v7 r.f5.f2 ∧ k90.R 90 w' w.heap.size (fun _ => True) v8 r.f5.f3 ∧ Kd.S k92 92 w' w.heap.size (fun _ => True) v9 r.f6.f0 ∧ Below w.heap.size w w' := by
  have hbl := bytes_length s
  have HH := Aside0.mk h
  clear h
  have hu36 := Try.underlying36
  refine callsIn_wide.1 (callsIn_of_wp_marks (n := 10) Try.func19 rfl trivial (wpIn_wide.2 ?_) rfl)
  simp only [Try.ntmps19, List.size_toArray, List.length_cons, List.length_nil, Nat.reduceAdd, Nat.reduceSub, Array.replicate_succ, Array.replicate_zero, List.push_toArray, List.append_toArray, List.nil_append, List.cons_append]
  go_upto_region 1 with (first | ((with_reducible refine gate_dst (N := 2) rfl ?_); (try (refine gate_guard (by rfl) ?_; dsimp only)); refine box_event ?hg (N := 2) ?hd (cs := #[.int .i64 0, .int .i64 0, .int .i64 0, .int .i64 0, .string ⟨#[]⟩, .string ⟨#[]⟩, .string ⟨#[]⟩, .slice none 0 0, .slice none 0 0, .slice none 0 0]) (t := 36) ?hr ?_; (case hd => rfl); (case hg => rfl); (case hr => first | (go_simp; done) | (go_simp; rfl)); intro Z hg_ w1 hbox_ hb_; have HZ := Aside0.mk hbox_; have HZN := Aside0.mk hg_; have HZB := Aside0.mk hb_; clear hbox_ hg_ hb_) | ((with_reducible refine gate_dst (N := 3) rfl ?_); (try (refine gate_guard (by rfl) ?_; dsimp only)); refine box_event ?hg (N := 3) ?hd (cs := #[.int .i64 0]) (t := 25) ?hr ?_; (case hd => rfl); (case hg => rfl); (case hr => first | (go_simp; done) | (go_simp; rfl)); intro E hg_ w2 hbox_ hb_; have HE := Aside0.mk hbox_; have HEN := Aside0.mk hg_; have HEB := Aside0.mk hb_; clear hbox_ hg_ hb_))
  have HZ2 := Aside0.mk (blk_below HZ.out HEB.out)
  have HB2 := Aside0.mk (below_step HZB.out HEB.out)
  have HG2 := Aside0.mk (show w.heap.size ≤ Z ∧ w.heap.size ≤ E ∧ Z ≠ E ∧ Z < w2.heap.size ∧ E < w2.heap.size by
    have h1 := HZN.out
    have h2 := HEN.out
    have h3 := blk_lt HE.out
    have h4 := HZB.out.size
    have h5 := blk_lt HZ.out
    omega)
  clear HZ HZN HZB HEN HEB
  by_cases hodd : s.size % 2 = 0
  case neg =>
    have hd1 : ((s.size : Int) % 2 != 0) = true := bne_iff_ne.mpr (by omega)
    have hz0 := blk_cell HZ2.out 0
    have fz0 := blk_frozen HZ2.out 0
    have hz1 := blk_cell HZ2.out 1
    have fz1 := blk_frozen HZ2.out 1
    have hz2 := blk_cell HZ2.out 2
    have fz2 := blk_frozen HZ2.out 2
    have hz3 := blk_cell HZ2.out 3
    have fz3 := blk_frozen HZ2.out 3
    have hz4 := blk_cell HZ2.out 4
    have fz4 := blk_frozen HZ2.out 4
    have hz5 := blk_cell HZ2.out 5
    have fz5 := blk_frozen HZ2.out 5
    have hz6 := blk_cell HZ2.out 6
    have fz6 := blk_frozen HZ2.out 6
    have hz7 := blk_cell HZ2.out 7
    have fz7 := blk_frozen HZ2.out 7
    have hz8 := blk_cell HZ2.out 8
    have fz8 := blk_frozen HZ2.out 8
    have hz9 := blk_cell HZ2.out 9
    have fz9 := blk_frozen HZ2.out 9
    have he0 := blk_cell HE.out 0
    have hg0 := blk_frozen HE.out 0
    have hze : Z ≠ E := HG2.out.2.2.1
    have hez : E ≠ Z := Ne.symm hze
    have hl := HH.out
    unfold lineS at hl
    rw [unhex_odd _ _ (Nat.le_refl _) (by omega)] at hl
    simp only [Prod.mk.injEq] at hl
    obtain ⟨rfl, rfl⟩ := hl
    have HOD := Aside0.mk hodd
    clear hodd
    go_wp2_with fail
    exact line_out rfl rfl (blk_far (blk_put (cs' := #[.int .i64 0, .int .i64 0, .int .i64 0, .int .i64 0, .string ⟨#[]⟩, .string ⟨#[]⟩, .string ⟨#[]⟩, .slice none 0 0, .slice none 0 0, .slice none 0 0]) (blk_put (cs' := #[.int .i64 0, .int .i64 0, .int .i64 0, .int .i64 0, .string ⟨#[]⟩, .string ⟨#[]⟩, .string ⟨#[]⟩, .slice none 0 0, .slice none 0 0, .slice none 0 0]) (blk_put (cs' := #[.int .i64 0, .int .i64 0, .int .i64 0, .int .i64 0, .string ⟨#[]⟩, .string ⟨#[]⟩, .string ⟨#[]⟩, .slice none 0 0, .slice none 0 0, .slice none 0 0]) (blk_put (cs' := #[.int .i64 0, .int .i64 0, .int .i64 0, .int .i64 0, .string ⟨#[]⟩, .string ⟨#[]⟩, .string ⟨#[]⟩, .slice none 0 0, .slice none 0 0, .slice none 0 0]) (blk_put (cs' := #[.int .i64 0, .int .i64 0, .int .i64 0, .int .i64 0, .string ⟨#[]⟩, .string ⟨#[]⟩, .string ⟨#[]⟩, .slice none 0 0, .slice none 0 0, .slice none 0 0]) (blk_put (cs' := #[.int .i64 0, .int .i64 0, .int .i64 0, .int .i64 0, .string ⟨#[]⟩, .string ⟨#[]⟩, .string ⟨#[]⟩, .slice none 0 0, .slice none 0 0, .slice none 0 0]) (blk_put (cs' := #[.int .i64 0, .int .i64 0, .int .i64 0, .int .i64 0, .string ⟨#[]⟩, .string ⟨#[]⟩, .string ⟨#[]⟩, .slice none 0 0, .slice none 0 0, .slice none 0 0]) (blk_put (cs' := #[.int .i64 0, .int .i64 0, .int .i64 0, .int .i64 0, .string ⟨#[]⟩, .string ⟨#[]⟩, .string ⟨#[]⟩, .slice none 0 0, .slice none 0 0, .slice none 0 0]) (blk_put (cs' := #[.int .i64 0, .int .i64 0, .int .i64 0, .int .i64 0, .string ⟨#[]⟩, .string ⟨#[]⟩, .string ⟨#[]⟩, .slice none 0 0, .slice none 0 0, .slice none 0 0]) (blk_put (cs' := #[.int .i64 0, .int .i64 0, .int .i64 0, .int .i64 0, .string ⟨#[]⟩, .string ⟨#[]⟩, .string ⟨#[]⟩, .slice none 0 0, .slice none 0 0, .slice none 0 0]) HZ2.out 0 (.int .i64 0) rfl) 1 (.int .i64 0) rfl) 2 (.int .i64 0) rfl) 3 (.int .i64 0) rfl) 4 (.string ⟨#[]⟩) rfl) 5 (.string ⟨#[]⟩) rfl) 6 (.string ⟨#[]⟩) rfl) 7 (.slice none 0 0) rfl) 8 (.slice none 0 0) rfl) 9 (.slice none 0 0) rfl) (p := ⟨E, 0, none⟩) hze _) (blk_put (cs' := #[.int .i64 240]) (blk_far (blk_far (blk_far (blk_far (blk_far (blk_far (blk_far (blk_far (blk_far (blk_far HE.out (p := ⟨Z, 0, none⟩) hez (.int .i64 0)) (p := ⟨Z, 1, none⟩) hez (.int .i64 0)) (p := ⟨Z, 2, none⟩) hez (.int .i64 0)) (p := ⟨Z, 3, none⟩) hez (.int .i64 0)) (p := ⟨Z, 4, none⟩) hez (.string ⟨#[]⟩)) (p := ⟨Z, 5, none⟩) hez (.string ⟨#[]⟩)) (p := ⟨Z, 6, none⟩) hez (.string ⟨#[]⟩)) (p := ⟨Z, 7, none⟩) hez (.slice none 0 0)) (p := ⟨Z, 8, none⟩) hez (.slice none 0 0)) (p := ⟨Z, 9, none⟩) hez (.slice none 0 0)) 0 (.int .i64 240) rfl) (Kd.R_nil _ _ _ _ _) (Kd.R_nil _ _ _ _ _) (Kd.S_nil _ _ _ _ _) (((((((((((HB2.out.setCell (p := ⟨Z, 0, none⟩) HG2.out.1 (.int .i64 0)).setCell (p := ⟨Z, 1, none⟩) HG2.out.1 (.int .i64 0)).setCell (p := ⟨Z, 2, none⟩) HG2.out.1 (.int .i64 0)).setCell (p := ⟨Z, 3, none⟩) HG2.out.1 (.int .i64 0)).setCell (p := ⟨Z, 4, none⟩) HG2.out.1 (.string ⟨#[]⟩)).setCell (p := ⟨Z, 5, none⟩) HG2.out.1 (.string ⟨#[]⟩)).setCell (p := ⟨Z, 6, none⟩) HG2.out.1 (.string ⟨#[]⟩)).setCell (p := ⟨Z, 7, none⟩) HG2.out.1 (.slice none 0 0)).setCell (p := ⟨Z, 8, none⟩) HG2.out.1 (.slice none 0 0)).setCell (p := ⟨Z, 9, none⟩) HG2.out.1 (.slice none 0 0)).setCell (p := ⟨E, 0, none⟩) HG2.out.2.1 _)
  have hd1 : ((s.size : Int) % 2 != 0) = false := bne_eq_false_iff_eq.mpr (by omega)
  go_upto_region 4 with (first | ((with_reducible refine gate_dst (N := 4) rfl ?_); (try (refine gate_guard (by rfl) ?_; dsimp only)); refine box_event ?hg (N := 4) ?hd (cs := #[.slice none 0 0]) (t := 41) ?hr ?_; (case hd => rfl); (case hg => rfl); (case hr => first | (go_simp; done) | (go_simp; rfl)); intro B hg_ w3 hbox_ hb_; have HB := Aside0.mk hbox_; have HBN := Aside0.mk hg_; have HBB := Aside0.mk hb_; clear hbox_ hg_ hb_))
  have HZ3 := Aside0.mk (blk_below HZ2.out HBB.out)
  have HE3 := Aside0.mk (blk_below HE.out HBB.out)
  have HB3 := Aside0.mk (below_step HB2.out HBB.out)
  have HG3 := Aside0.mk (show w.heap.size ≤ B ∧ B ≠ Z ∧ B ≠ E ∧ B < w3.heap.size by
    have h1 := HG2.out
    have h2 := HBN.out
    have h3 := HB2.out.size
    have h4 := blk_lt HB.out
    omega)
  clear HZ2 HE HB2 HBN HBB
  go_wp2_with (first | ((with_reducible refine gate_dst (N := 14) rfl ?_); refine ev_bytesN rfl 9 41 5 (.tmp 13) rfl Try.underlying9 Try.underlying41 Try.underlying5 s rfl (by omega) ?_; intro g c w4 hg hr hc hb; have HRC := Aside0.mk hr; have HCC := Aside0.mk hc; have HGG := Aside0.mk hg; have HB4 := Aside0.mk hb; clear hg hr hc hb))
  refine (chunk_calls (some ⟨g, 0, none⟩) s.size c w4).mono ?_
  rintro e w5 ⟨X, Y, rfl, hx, hy, hX, hY, hb⟩
  have HX5 := Aside0.mk hx
  have HY5 := Aside0.mk hy
  have HZ5 := Aside0.mk (blk_below (blk_below HZ3.out HB4.out) hb)
  have HE5 := Aside0.mk (blk_below (blk_below HE3.out HB4.out) hb)
  have HB5 := Aside0.mk (blk_below (blk_below HB.out HB4.out) hb)
  have HBW := Aside0.mk (below_step (below_step HB3.out HB4.out) hb)
  have HC5 := Aside0.mk (Kd.C_below HRC.out hb)
  have HG5 := Aside0.mk (show w3.heap.size ≤ w5.heap.size ∧ g < w5.heap.size ∧ X < w5.heap.size ∧ Y < w5.heap.size ∧ w.heap.size ≤ w5.heap.size ∧ X ≠ B ∧ Y ≠ B ∧ g ≠ B by
    have h7 := HG3.out
    have h1 := HB4.out.size
    have h2 := hb.size
    have h3 := blk_lt hx
    have h4 := blk_lt hy
    have h5 := HGG.out
    have h6 := HB3.out.size
    omega)
  clear hx hy hX hY hb HZ3 HE3 HB HB3 HB4 HRC
  obtain ⟨m, hm⟩ : ∃ m, s.size = 2 * m := ⟨s.size / 2, by omega⟩
  obtain ⟨bs, hbs⟩ : ∃ bs, bs = bytesOf s := ⟨_, rfl⟩
  rw [← hbs] at HC5 HH hbl
  have hbl2 : bs.length = 2 * m := by omega
  rw [hm] at HX5 HCC HC5
  rw [← hbl2] at HC5
  have HBL := Aside0.mk hbl2
  have HBY := Aside0.mk (show isBytes bs by rw [hbs]; exact bytesOf_isBytes s)
  have hm0 : 2 * m ≤ 100000 := by omega
  have HML := Aside0.mk hm0
  clear hbl hbs hm hbl2
  go_wp2_with fail
  have HSQ : SeqStopsK Fence.wide (10 - 1) Try.prog 58 #[.pointer (some ⟨X, 0, none⟩), .pointer (some ⟨Y, 0, none⟩)] (fun k : Nat => #[pieceV ⟨g, 0, none⟩ m k]) (Kc X Y) (fun ys => ys = List.range m) (fun pre => ∃ k, k ≤ m ∧ pre = List.range k) m w5 :=
    chunk_stops 9 X Y (some ⟨g, 0, none⟩) ⟨g, 0, none⟩ m c (fun _ => rfl) (by omega) HCC.out w5 HX5.out HY5.out
  refine (wpIn_wide (n := 10)).1 (wpIn_rangeFunc_ownF (F := Fence.wide) (n := 10) (w0 := w5) rfl (by decide) (gf := 58) (lb := #[.pointer (some ⟨X, 0, none⟩), .pointer (some ⟨Y, 0, none⟩)]) rfl trivial (enters_of Try.func58 (by kernel_rfl) rfl)
    HSQ (fun h k => Kc.trans h k) ?kb (Below.refl _ _) (fun _ => rfl)
    (LnI w Z E B w5.heap.size ⟨g, 0, none⟩ bs m) (fun c' pre W => c' = .ret ∧ LnX w Z E bs m pre W) ?own ?ownx ?start
    (fun k => { tmps := #[.string s, undef, .pointer (some ⟨Z, 0, none⟩), .pointer (some ⟨E, 0, none⟩), .pointer (some ⟨B, 0, none⟩), pieceV ⟨g, 0, none⟩ m k, undef, undef, .string s, .int .i64 (s.size : Int), .int .i64 ((s.size : Int) % 2), .bool false, undef, .string s, .slice (some ⟨g, 0, none⟩) s.size c, .func (.func 58) #[] #[.pointer (some ⟨X, 0, none⟩), .pointer (some ⟨Y, 0, none⟩)], pieceV ⟨g, 0, none⟩ m k, undef, undef, undef, undef, undef, undef, undef, undef, undef, undef, undef, undef, undef, undef, undef, undef, undef, undef, undef, undef, undef, undef, undef, undef, undef, undef, undef], defers := [] }) ?assign ?body ?done ?stop)
  case kb =>
    intro W l o o' hl ho hc hw
    have hg := HG5.out
    exact ⟨(grownBy_putObj' W l o').block X (by have := blk_lt ho; omega) (by intro e; cases e; omega), (grownBy_putObj' W l o').block Y (by have := blk_lt ho; omega) (by intro e; cases e; omega)⟩
  case own =>
    have h1 := HG5.out
    have h2 := HG2.out
    have h3 := HG3.out
    have h4 := blk_lt HZ5.out
    have h5 := blk_lt HE5.out
    have h6 := blk_lt HB5.out
    exact LnI.own h4 h5 h6 h1.2.1 h1.2.2.2.2.1
  case ownx =>
    intro c'
    have h1 := HG5.out
    exact (ownFrom_pure _ _).and (LnX.own (blk_lt HZ5.out) (blk_lt HE5.out) h1.2.2.2.2.1)
  case start => exact ⟨HZ5.out, HE5.out, ⟨_, HB5.out, Kd.R_nil _ _ _ _ _⟩, HC5.out, (fun k hk => by cases hk), Nat.zero_le _, HBW.out, Nat.le_refl _⟩
  case assign =>
    intro l x W K hK
    gi_wp2
    exact hK
  case body =>
    intro l pre x W hI hlt
    obtain ⟨j, hj⟩ : ∃ j, j = min x (m - 1) := ⟨_, rfl⟩
    have hjm : j < m := by omega
    have hbl := HBL.out
    obtain ⟨a0, e0, hc0⟩ := Kd.at_int hI.hC ((2 * j : Nat) : Int) (by omega) (by omega)
    obtain ⟨a1, e1, hc1⟩ := Kd.at_int hI.hC ((2 * j + 1 : Nat) : Int) (by omega) (by omega)
    cases e0
    cases e1
    rw [Int.toNat_natCast] at hc0 hc1
    have hby0 := HBY.out (bs.getD (2 * j) 0) (getD_mem' (by omega) _)
    have hby1 := HBY.out (bs.getD (2 * j + 1) 0) (getD_mem' (by omega) _)
    have ea0 : (⟨g, 0, none⟩ : Addr).add (2 * j) = ⟨g, 2 * j, none⟩ := by unfold Addr.add; split <;> simp_all
    have ea1 : (⟨g, 0, none⟩ : Addr).add (2 * j + 1) = ⟨g, 2 * j + 1, none⟩ := by unfold Addr.add; split <;> simp_all
    have hq0 : rd bs ((2 * j : Nat) : Int) = bs.getD (2 * j) 0 := rfl
    have hq1 : rd bs ((2 * j + 1 : Nat) : Int) = bs.getD (2 * j + 1) 0 := rfl
    rw [hq0, ea0] at hc0
    rw [hq1, ea1] at hc1
    obtain ⟨ca, hca⟩ : ∃ ca, ca = bs.getD (2 * j) 0 := ⟨_, rfl⟩
    obtain ⟨cb, hcb⟩ : ∃ cb, cb = bs.getD (2 * j + 1) 0 := ⟨_, rfl⟩
    rw [← hca] at hc0 hby0
    rw [← hcb] at hc1 hby1
    have HI := Aside0.mk hI
    have HJ := Aside0.mk (And.intro hj (And.intro hca hcb))
    have HLT := Aside0.mk hlt
    have q0 : ∀ q : Wc W, q.1.cell? ⟨g, 2 * j, none⟩ = some (.int .u8 ca) := fun q => pw_cell_below q.2 hc0
    have q1 : ∀ q : Wc W, q.1.cell? ⟨g, 2 * j + 1, none⟩ = some (.int .u8 cb) := fun q => pw_cell_below q.2 hc1
    have HX0 := Aside0.mk (fun q : Wc W => ixb_calls hby0.1 hby0.2 q)
    have HX1 := Aside0.mk (fun q : Wc W => ixb_calls hby1.1 hby1.2 q)
    unfold pieceV
    rw [← hj, ea0]
    clear hq0 hq1 hc0 hc1 hby0 hby1 hI hlt hj hca hcb ea0 ea1 HH
    gi_wp2
    refine region_classIn (ro := some l) (w0 := W) (by kernel_rfl) (by kernel_rfl) (by simp) (Below.refl _ _) ?_
    repeat (go_big_quiet_step (first | exact HX0.out _ | exact HX1.out _))
    refine wpQuiet_nil ?_
    rintro W1 ⟨q, hq⟩
    have hb1 : Below W.heap.size W W1 := by rw [hq]; exact q.2
    have HI1 := Aside0.mk (HI.out.below hb1)
    have HK1 := Aside0.mk (keeps_below hb1)
    have HKC := Aside0.mk (Kc.of_below (Bs := X) (Bn := Y) hb1 (by have := HG5.out; have := HI.out.hM; omega) (by have := HG5.out; have := HI.out.hM; omega))
    clear hb1 hq q q0 q1 HX0 HX1 HI
    by_cases hbad : undig ca < 0 ∨ undig cb < 0
    · have HBD := Aside0.mk hbad
      have hte : (undig ca < 0) ∨ (¬ undig ca < 0 ∧ undig cb < 0) := by omega
      clear hbad
      rcases hte with h1 | ⟨h1, h2⟩
      · have hd2 : decide (undig ca < 0) = true := decide_eq_true h1
        have hz0 := blk_cell HI1.out.hZ 0
        have hf0 := blk_frozen HI1.out.hZ 0
        have hz1 := blk_cell HI1.out.hZ 1
        have hf1 := blk_frozen HI1.out.hZ 1
        have hz2 := blk_cell HI1.out.hZ 2
        have hf2 := blk_frozen HI1.out.hZ 2
        have hz3 := blk_cell HI1.out.hZ 3
        have hf3 := blk_frozen HI1.out.hZ 3
        have hz4 := blk_cell HI1.out.hZ 4
        have hf4 := blk_frozen HI1.out.hZ 4
        have hz5 := blk_cell HI1.out.hZ 5
        have hf5 := blk_frozen HI1.out.hZ 5
        have hz6 := blk_cell HI1.out.hZ 6
        have hf6 := blk_frozen HI1.out.hZ 6
        have hz7 := blk_cell HI1.out.hZ 7
        have hf7 := blk_frozen HI1.out.hZ 7
        have hz8 := blk_cell HI1.out.hZ 8
        have hf8 := blk_frozen HI1.out.hZ 8
        have hz9 := blk_cell HI1.out.hZ 9
        have hf9 := blk_frozen HI1.out.hZ 9
        have he0 := blk_cell HI1.out.hE 0
        have hg0 := blk_frozen HI1.out.hE 0
        have hze : Z ≠ E := HG2.out.2.2.1
        have hez : E ≠ Z := Ne.symm hze
        clear hbl hjm hodd
        iterate 4 gi_step
        refine region_unfenced (ro := some l) (by simp) (fun ⟨_, _, h_⟩ => h_) ?_
        go_wp2
        gi_step
        gi_step
        refine region_unfenced (ro := some l) (by simp) (fun ⟨_, _, h_⟩ => h_) ?_
        go_wp2_with fail
        gi_step
        refine ⟨HK1.out.trans ((((((((((((KeepsOthers.refl W1).trans (KeepsOthers.setCell _ _ _)).trans (KeepsOthers.setCell _ _ _)).trans (KeepsOthers.setCell _ _ _)).trans (KeepsOthers.setCell _ _ _)).trans (KeepsOthers.setCell _ _ _)).trans (KeepsOthers.setCell _ _ _)).trans (KeepsOthers.setCell _ _ _)).trans (KeepsOthers.setCell _ _ _)).trans (KeepsOthers.setCell _ _ _)).trans (KeepsOthers.setCell _ _ _)).trans (KeepsOthers.setCell _ _ _)), rfl, ⟨blk_far (blk_put (cs' := #[.int .i64 0, .int .i64 0, .int .i64 0, .int .i64 0, .string ⟨#[]⟩, .string ⟨#[]⟩, .string ⟨#[]⟩, .slice none 0 0, .slice none 0 0, .slice none 0 0]) (blk_put (cs' := #[.int .i64 0, .int .i64 0, .int .i64 0, .int .i64 0, .string ⟨#[]⟩, .string ⟨#[]⟩, .string ⟨#[]⟩, .slice none 0 0, .slice none 0 0, .slice none 0 0]) (blk_put (cs' := #[.int .i64 0, .int .i64 0, .int .i64 0, .int .i64 0, .string ⟨#[]⟩, .string ⟨#[]⟩, .string ⟨#[]⟩, .slice none 0 0, .slice none 0 0, .slice none 0 0]) (blk_put (cs' := #[.int .i64 0, .int .i64 0, .int .i64 0, .int .i64 0, .string ⟨#[]⟩, .string ⟨#[]⟩, .string ⟨#[]⟩, .slice none 0 0, .slice none 0 0, .slice none 0 0]) (blk_put (cs' := #[.int .i64 0, .int .i64 0, .int .i64 0, .int .i64 0, .string ⟨#[]⟩, .string ⟨#[]⟩, .string ⟨#[]⟩, .slice none 0 0, .slice none 0 0, .slice none 0 0]) (blk_put (cs' := #[.int .i64 0, .int .i64 0, .int .i64 0, .int .i64 0, .string ⟨#[]⟩, .string ⟨#[]⟩, .string ⟨#[]⟩, .slice none 0 0, .slice none 0 0, .slice none 0 0]) (blk_put (cs' := #[.int .i64 0, .int .i64 0, .int .i64 0, .int .i64 0, .string ⟨#[]⟩, .string ⟨#[]⟩, .string ⟨#[]⟩, .slice none 0 0, .slice none 0 0, .slice none 0 0]) (blk_put (cs' := #[.int .i64 0, .int .i64 0, .int .i64 0, .int .i64 0, .string ⟨#[]⟩, .string ⟨#[]⟩, .string ⟨#[]⟩, .slice none 0 0, .slice none 0 0, .slice none 0 0]) (blk_put (cs' := #[.int .i64 0, .int .i64 0, .int .i64 0, .int .i64 0, .string ⟨#[]⟩, .string ⟨#[]⟩, .string ⟨#[]⟩, .slice none 0 0, .slice none 0 0, .slice none 0 0]) (blk_put (cs' := #[.int .i64 0, .int .i64 0, .int .i64 0, .int .i64 0, .string ⟨#[]⟩, .string ⟨#[]⟩, .string ⟨#[]⟩, .slice none 0 0, .slice none 0 0, .slice none 0 0]) HI1.out.hZ 0 (.int .i64 0) rfl) 1 (.int .i64 0) rfl) 2 (.int .i64 0) rfl) 3 (.int .i64 0) rfl) 4 (.string ⟨#[]⟩) rfl) 5 (.string ⟨#[]⟩) rfl) 6 (.string ⟨#[]⟩) rfl) 7 (.slice none 0 0) rfl) 8 (.slice none 0 0) rfl) 9 (.slice none 0 0) rfl) (p := ⟨E, 0, none⟩) hze _, blk_put (cs' := #[.int .i64 240]) (blk_far (blk_far (blk_far (blk_far (blk_far (blk_far (blk_far (blk_far (blk_far (blk_far HI1.out.hE (p := ⟨Z, 0, none⟩) hez (.int .i64 0)) (p := ⟨Z, 1, none⟩) hez (.int .i64 0)) (p := ⟨Z, 2, none⟩) hez (.int .i64 0)) (p := ⟨Z, 3, none⟩) hez (.int .i64 0)) (p := ⟨Z, 4, none⟩) hez (.string ⟨#[]⟩)) (p := ⟨Z, 5, none⟩) hez (.string ⟨#[]⟩)) (p := ⟨Z, 6, none⟩) hez (.string ⟨#[]⟩)) (p := ⟨Z, 7, none⟩) hez (.slice none 0 0)) (p := ⟨Z, 8, none⟩) hez (.slice none 0 0)) (p := ⟨Z, 9, none⟩) hez (.slice none 0 0)) 0 (.int .i64 240) rfl, ⟨x, by simp, ?_⟩, ((((((((((HI1.out.hw.setCell (p := ⟨Z, 0, none⟩) HG2.out.1 (.int .i64 0)).setCell (p := ⟨Z, 1, none⟩) HG2.out.1 (.int .i64 0)).setCell (p := ⟨Z, 2, none⟩) HG2.out.1 (.int .i64 0)).setCell (p := ⟨Z, 3, none⟩) HG2.out.1 (.int .i64 0)).setCell (p := ⟨Z, 4, none⟩) HG2.out.1 (.string ⟨#[]⟩)).setCell (p := ⟨Z, 5, none⟩) HG2.out.1 (.string ⟨#[]⟩)).setCell (p := ⟨Z, 6, none⟩) HG2.out.1 (.string ⟨#[]⟩)).setCell (p := ⟨Z, 7, none⟩) HG2.out.1 (.slice none 0 0)).setCell (p := ⟨Z, 8, none⟩) HG2.out.1 (.slice none 0 0)).setCell (p := ⟨Z, 9, none⟩) HG2.out.1 (.slice none 0 0)).setCell (p := ⟨E, 0, none⟩) HG2.out.2.1 _⟩⟩
        rw [← HJ.out.1, ← HJ.out.2.1, ← HJ.out.2.2]
        exact HBD.out
      · have hd2 : decide (undig ca < 0) = false := decide_eq_false h1
        have hd3 : decide (undig cb < 0) = true := decide_eq_true h2
        have hz0 := blk_cell HI1.out.hZ 0
        have hf0 := blk_frozen HI1.out.hZ 0
        have hz1 := blk_cell HI1.out.hZ 1
        have hf1 := blk_frozen HI1.out.hZ 1
        have hz2 := blk_cell HI1.out.hZ 2
        have hf2 := blk_frozen HI1.out.hZ 2
        have hz3 := blk_cell HI1.out.hZ 3
        have hf3 := blk_frozen HI1.out.hZ 3
        have hz4 := blk_cell HI1.out.hZ 4
        have hf4 := blk_frozen HI1.out.hZ 4
        have hz5 := blk_cell HI1.out.hZ 5
        have hf5 := blk_frozen HI1.out.hZ 5
        have hz6 := blk_cell HI1.out.hZ 6
        have hf6 := blk_frozen HI1.out.hZ 6
        have hz7 := blk_cell HI1.out.hZ 7
        have hf7 := blk_frozen HI1.out.hZ 7
        have hz8 := blk_cell HI1.out.hZ 8
        have hf8 := blk_frozen HI1.out.hZ 8
        have hz9 := blk_cell HI1.out.hZ 9
        have hf9 := blk_frozen HI1.out.hZ 9
        have he0 := blk_cell HI1.out.hE 0
        have hg0 := blk_frozen HI1.out.hE 0
        have hze : Z ≠ E := HG2.out.2.2.1
        have hez : E ≠ Z := Ne.symm hze
        clear hbl hjm hodd
        iterate 4 gi_step
        refine region_unfenced (ro := some l) (by simp) (fun ⟨_, _, h_⟩ => h_) ?_
        go_wp2
        gi_step
        gi_step
        refine region_unfenced (ro := some l) (by simp) (fun ⟨_, _, h_⟩ => h_) ?_
        go_wp2_with fail
        gi_step
        refine ⟨HK1.out.trans ((((((((((((KeepsOthers.refl W1).trans (KeepsOthers.setCell _ _ _)).trans (KeepsOthers.setCell _ _ _)).trans (KeepsOthers.setCell _ _ _)).trans (KeepsOthers.setCell _ _ _)).trans (KeepsOthers.setCell _ _ _)).trans (KeepsOthers.setCell _ _ _)).trans (KeepsOthers.setCell _ _ _)).trans (KeepsOthers.setCell _ _ _)).trans (KeepsOthers.setCell _ _ _)).trans (KeepsOthers.setCell _ _ _)).trans (KeepsOthers.setCell _ _ _)), rfl, ⟨blk_far (blk_put (cs' := #[.int .i64 0, .int .i64 0, .int .i64 0, .int .i64 0, .string ⟨#[]⟩, .string ⟨#[]⟩, .string ⟨#[]⟩, .slice none 0 0, .slice none 0 0, .slice none 0 0]) (blk_put (cs' := #[.int .i64 0, .int .i64 0, .int .i64 0, .int .i64 0, .string ⟨#[]⟩, .string ⟨#[]⟩, .string ⟨#[]⟩, .slice none 0 0, .slice none 0 0, .slice none 0 0]) (blk_put (cs' := #[.int .i64 0, .int .i64 0, .int .i64 0, .int .i64 0, .string ⟨#[]⟩, .string ⟨#[]⟩, .string ⟨#[]⟩, .slice none 0 0, .slice none 0 0, .slice none 0 0]) (blk_put (cs' := #[.int .i64 0, .int .i64 0, .int .i64 0, .int .i64 0, .string ⟨#[]⟩, .string ⟨#[]⟩, .string ⟨#[]⟩, .slice none 0 0, .slice none 0 0, .slice none 0 0]) (blk_put (cs' := #[.int .i64 0, .int .i64 0, .int .i64 0, .int .i64 0, .string ⟨#[]⟩, .string ⟨#[]⟩, .string ⟨#[]⟩, .slice none 0 0, .slice none 0 0, .slice none 0 0]) (blk_put (cs' := #[.int .i64 0, .int .i64 0, .int .i64 0, .int .i64 0, .string ⟨#[]⟩, .string ⟨#[]⟩, .string ⟨#[]⟩, .slice none 0 0, .slice none 0 0, .slice none 0 0]) (blk_put (cs' := #[.int .i64 0, .int .i64 0, .int .i64 0, .int .i64 0, .string ⟨#[]⟩, .string ⟨#[]⟩, .string ⟨#[]⟩, .slice none 0 0, .slice none 0 0, .slice none 0 0]) (blk_put (cs' := #[.int .i64 0, .int .i64 0, .int .i64 0, .int .i64 0, .string ⟨#[]⟩, .string ⟨#[]⟩, .string ⟨#[]⟩, .slice none 0 0, .slice none 0 0, .slice none 0 0]) (blk_put (cs' := #[.int .i64 0, .int .i64 0, .int .i64 0, .int .i64 0, .string ⟨#[]⟩, .string ⟨#[]⟩, .string ⟨#[]⟩, .slice none 0 0, .slice none 0 0, .slice none 0 0]) (blk_put (cs' := #[.int .i64 0, .int .i64 0, .int .i64 0, .int .i64 0, .string ⟨#[]⟩, .string ⟨#[]⟩, .string ⟨#[]⟩, .slice none 0 0, .slice none 0 0, .slice none 0 0]) HI1.out.hZ 0 (.int .i64 0) rfl) 1 (.int .i64 0) rfl) 2 (.int .i64 0) rfl) 3 (.int .i64 0) rfl) 4 (.string ⟨#[]⟩) rfl) 5 (.string ⟨#[]⟩) rfl) 6 (.string ⟨#[]⟩) rfl) 7 (.slice none 0 0) rfl) 8 (.slice none 0 0) rfl) 9 (.slice none 0 0) rfl) (p := ⟨E, 0, none⟩) hze _, blk_put (cs' := #[.int .i64 240]) (blk_far (blk_far (blk_far (blk_far (blk_far (blk_far (blk_far (blk_far (blk_far (blk_far HI1.out.hE (p := ⟨Z, 0, none⟩) hez (.int .i64 0)) (p := ⟨Z, 1, none⟩) hez (.int .i64 0)) (p := ⟨Z, 2, none⟩) hez (.int .i64 0)) (p := ⟨Z, 3, none⟩) hez (.int .i64 0)) (p := ⟨Z, 4, none⟩) hez (.string ⟨#[]⟩)) (p := ⟨Z, 5, none⟩) hez (.string ⟨#[]⟩)) (p := ⟨Z, 6, none⟩) hez (.string ⟨#[]⟩)) (p := ⟨Z, 7, none⟩) hez (.slice none 0 0)) (p := ⟨Z, 8, none⟩) hez (.slice none 0 0)) (p := ⟨Z, 9, none⟩) hez (.slice none 0 0)) 0 (.int .i64 240) rfl, ⟨x, by simp, ?_⟩, ((((((((((HI1.out.hw.setCell (p := ⟨Z, 0, none⟩) HG2.out.1 (.int .i64 0)).setCell (p := ⟨Z, 1, none⟩) HG2.out.1 (.int .i64 0)).setCell (p := ⟨Z, 2, none⟩) HG2.out.1 (.int .i64 0)).setCell (p := ⟨Z, 3, none⟩) HG2.out.1 (.int .i64 0)).setCell (p := ⟨Z, 4, none⟩) HG2.out.1 (.string ⟨#[]⟩)).setCell (p := ⟨Z, 5, none⟩) HG2.out.1 (.string ⟨#[]⟩)).setCell (p := ⟨Z, 6, none⟩) HG2.out.1 (.string ⟨#[]⟩)).setCell (p := ⟨Z, 7, none⟩) HG2.out.1 (.slice none 0 0)).setCell (p := ⟨Z, 8, none⟩) HG2.out.1 (.slice none 0 0)).setCell (p := ⟨Z, 9, none⟩) HG2.out.1 (.slice none 0 0)).setCell (p := ⟨E, 0, none⟩) HG2.out.2.1 _⟩⟩
        rw [← HJ.out.1, ← HJ.out.2.1, ← HJ.out.2.2]
        exact HBD.out
    · have h1 : ¬ undig ca < 0 := fun h => hbad (.inl h)
      have h2 : ¬ undig cb < 0 := fun h => hbad (.inr h)
      have HBD := Aside0.mk hbad
      obtain ⟨-, ua0, ua1⟩ := dig_undig h1
      obtain ⟨-, ub0, ub1⟩ := dig_undig h2
      have hor := or_16 ua0 ua1 ub0 ub1
      have hd2 : decide (undig ca < 0) = false := decide_eq_false h1
      have hd3 : decide (undig cb < 0) = false := decide_eq_false h2
      obtain ⟨v, hvB, hvR⟩ := HI1.out.hB
      obtain ⟨acc, hacc⟩ : ∃ acc, acc = pre.map fun k => undig (bs.getD (2 * min k (m - 1)) 0) * 16 + undig (bs.getD (2 * min k (m - 1) + 1) 0) := ⟨_, rfl⟩
      rw [← hacc] at hvR
      have hal : acc.length ≤ 100000 := by rw [hacc, List.length_map]; have := HI1.out.hlen; omega
      have HAC := Aside0.mk hacc
      have hMW := HI1.out.hM
      obtain ⟨A9, c9, e9⟩ := Kd.R_slice hvR
      subst e9
      clear hacc
      have hb0 := blk_cell hvB 0
      have hbf := blk_frozen hvB 0
      have HVB := Aside0.mk hvB
      have HVR := Aside0.mk hvR
      clear hbl hodd hbad hvB hvR
      iterate 4 gi_step
      refine region_unfenced (ro := some l) (by simp) (fun ⟨_, _, h_⟩ => h_) ?_
      go_wp2
      iterate 4 gi_step
      refine region_unfenced (ro := some l) (by simp) (fun ⟨_, _, h_⟩ => h_) ?_
      go_wp2_with (first | ((with_reducible refine gate_builtin (b := .append) (xs := #[.tmp 32, .tmp 38]) rfl ?_); at_builtin; refine Kd.R_append (Kd.int .u8) (w0 := W1) w5.heap.size rfl (.tmp 32) (.tmp 38) 41 5 (.int .u8 0) 1 rfl Try.underlying41 info_u8 rfl (by decide) (by omega) (.slice A9 acc.length c9) acc (undig ca * 16 + undig cb) [.int .u8 (undig ca * 16 + undig cb)] (fun _ => True) (fun _ => False) rfl rfl rfl (fun _ hk => hk.elim) (fun _ _ => trivial) HVR.out (Below.refl _ _) hMW (by omega) ?_; intro v2 w7 ho hb hg hat; obtain ⟨lr, hlr⟩ : ∃ lr, lr = acc ++ [undig ca * 16 + undig cb] := ⟨_, rfl⟩; rw [← hlr] at ho; have HLR := Aside0.mk hlr; clear hlr; have HO2 := Aside0.mk ho; have HB2 := Aside0.mk hb; have HGR := Aside0.mk hg; obtain ⟨A2, c2, e2⟩ := Kd.R_slice ho; subst e2; have hK2 := (hb.block B (by have := HG3.out; have := HG5.out; omega)).trans HVB.out; have HK2 := Aside0.mk hK2; have hf2 := blk_frozen hK2 0; have hc2 := blk_cell hK2 0; clear ho hb hg hat hK2))
      obtain ⟨p1, p2, p3, p4, p5, p6, p7, p8⟩ := HG5.out
      obtain ⟨r1, r2, r3, r4⟩ := HG3.out
      have hZM := blk_lt HZ5.out
      have hEM := blk_lt HE5.out
      have hBM := blk_lt HB5.out
      have hbs := Kd.R_base HVR.out
      refine ⟨(HK1.out.trans (KeepsOthers.of_grownBy HGR.out (fun i o e ho => ?_))).trans (KeepsOthers.setCell _ _ _), HKC.out.trans ⟨(Below.heap_setCell w7 _ _ X p6).trans (HB2.out.block X p3), (Below.heap_setCell w7 _ _ Y p7).trans (HB2.out.block Y p4)⟩, ⟨?_, ?_, ⟨_, blk_put (cs' := #[.slice A2 lr.length c2]) HK2.out 0 (.slice A2 lr.length c2) rfl, ?_⟩, ?_, ?_, ?_, ?_, ?_⟩⟩
      · obtain ⟨cells, hc⟩ := Kd.R_typed HVR.out i e
        rw [hc] at ho
        cases ho
        rfl
      · exact blk_far ((HB2.out.block Z hZM).trans HI1.out.hZ) (p := ⟨B, 0, none⟩) (Ne.symm r2) _
      · exact blk_far ((HB2.out.block E hEM).trans HI1.out.hE) (p := ⟨B, 0, none⟩) (Ne.symm r3) _
      · have h3 := R_off' HO2.out hBM ((KeepBut.refl w7 B none).set_ 0 (.slice A2 lr.length c2))
        have e3 : lr = (pre ++ [x]).map fun k => undig (bs.getD (2 * min k (m - 1)) 0) * 16 + undig (bs.getD (2 * min k (m - 1) + 1) 0) := by
          rw [HLR.out, HAC.out, List.map_append, List.map_singleton, ← HJ.out.1, ← HJ.out.2.1, ← HJ.out.2.2]
        rw [← e3]
        exact h3
      · exact Kd.C_keep (0 : Int) (C_row HI1.out.hC HGR.out (fun r e he => by have := hbs r e; simp only at he; omega)) ((KeepBut.refl w7 B none).set_ 0 (.slice A2 lr.length c2)) (fun a e hn he => by cases e; exact p8 he)
      · intro k hk
        rcases List.mem_append.1 hk with hk | hk
        · exact HI1.out.hok k hk
        · rw [List.mem_singleton.1 hk, ← HJ.out.1, ← HJ.out.2.1, ← HJ.out.2.2]
          exact HBD.out
      · have := HLT.out
        rw [List.length_append, List.length_singleton]; omega
      · exact (HI1.out.hw.trans (HB2.out.mono p5)).setCell (p := ⟨B, 0, none⟩) r1 _
      · rw [World.size_setCell]
        exact Nat.le_trans hMW HB2.out.size
  case done =>
    rintro D ys W hD rfl hI hK
    have HI := Aside0.mk hI
    have HKD := Aside0.mk hK
    obtain ⟨v, hvB, hvR⟩ := hI.hB
    obtain ⟨acc, hacc⟩ : ∃ acc, acc = (List.range m).map fun k => undig (bs.getD (2 * min k (m - 1)) 0) * 16 + undig (bs.getD (2 * min k (m - 1) + 1) 0) := ⟨_, rfl⟩
    rw [← hacc] at hvR
    obtain ⟨A9, c9, e9⟩ := Kd.R_slice hvR
    subst e9
    obtain ⟨-, hc9, hC9⟩ := Kd.R_reads' hvR
    have hb0 := blk_cell hvB 0
    clear hI hK
    have e8 : acc = (List.range m).map (pairV bs) := by
      rw [hacc]
      exact List.map_congr_left fun k hk => by
        have := List.mem_range.1 hk
        rw [Nat.min_eq_left (by omega)]; rfl
    have hlen : acc.length = m := by rw [e8, List.length_map, List.length_range]
    have htk : takeS acc = (r, re) := by
      have hl := HH.out
      unfold lineS at hl
      rw [unhex_all m bs HBL.out (fun k hk hb => HI.out.hok k (List.mem_range.2 hk) (by rw [Nat.min_eq_left (by omega)]; exact hb)), ← e8] at hl
      exact hl
    have hby : isBytes acc := by
      intro x hx
      rw [e8] at hx
      obtain ⟨k, hk, rfl⟩ := List.mem_map.1 hx
      have hkm := List.mem_range.1 hk
      have := HI.out.hok k hk
      rw [Nat.min_eq_left (by omega), not_or] at this
      obtain ⟨-, ua0, ua1⟩ := dig_undig this.1
      obtain ⟨-, ub0, ub1⟩ := dig_undig this.2
      unfold pairV
      omega
    have HT := Aside0.mk htk
    have HY := Aside0.mk hby
    have HL := Aside0.mk (And.intro hc9 (And.intro hC9 hlen))
    clear e8 hlen htk hby hacc hc9 hC9 hvB hvR
    dsimp only
    go_wp2_with fail
    refine (take_calls22 A9 c9 acc W HL.out.2.1 HL.out.1 HY.out (by have := HL.out.2.2; have := HML.out; omega) r re HT.out).mono ?_
    rintro e w9 ⟨v7, v8, v9, rfl, h7, h8, h9, hb⟩
    obtain ⟨A7, c7, rfl⟩ := Kd.R_slice h7
    obtain ⟨A8, c8, rfl⟩ := Kd.R_slice h8
    obtain ⟨Aq, cq, rfl⟩ := Kd.S_slice h9
    have H7 := Aside0.mk h7
    have H8 := Aside0.mk h8
    have H9 := Aside0.mk h9
    have HZ9 := Aside0.mk (blk_below HI.out.hZ hb)
    have HE9 := Aside0.mk (blk_below HI.out.hE hb)
    have HK9 := Aside0.mk (blk_below HKD.out hb)
    have HB9 := Aside0.mk (below_step (Aside0.mk HI.out.hw).out hb)
    have hz0 := blk_cell HZ9.out 0
    have fz0 := blk_frozen HZ9.out 0
    have hz1 := blk_cell HZ9.out 1
    have fz1 := blk_frozen HZ9.out 1
    have hz2 := blk_cell HZ9.out 2
    have fz2 := blk_frozen HZ9.out 2
    have hz3 := blk_cell HZ9.out 3
    have fz3 := blk_frozen HZ9.out 3
    have hz4 := blk_cell HZ9.out 4
    have fz4 := blk_frozen HZ9.out 4
    have hz5 := blk_cell HZ9.out 5
    have fz5 := blk_frozen HZ9.out 5
    have hz6 := blk_cell HZ9.out 6
    have fz6 := blk_frozen HZ9.out 6
    have hz7 := blk_cell HZ9.out 7
    have fz7 := blk_frozen HZ9.out 7
    have hz8 := blk_cell HZ9.out 8
    have fz8 := blk_frozen HZ9.out 8
    have hz9 := blk_cell HZ9.out 9
    have fz9 := blk_frozen HZ9.out 9
    have he0 := blk_cell HE9.out 0
    have hg0 := blk_frozen HE9.out 0
    have hze : Z ≠ E := HG2.out.2.2.1
    have hez : E ≠ Z := Ne.symm hze
    clear h7 h8 h9 hb
    go_wp2_with fail
    have g2 := HG2.out
    have g5 := HG5.out
    have g6 := blk_lt HZ5.out
    have g7 := blk_lt HE5.out
    have g8 := HI.out.hM
    have g9 := blk_lt HKD.out
    have hk1 : KeepBut w9 ((((((((((w9.setCell ⟨Z, 0, none⟩ (.int .i64 r.f0)).setCell ⟨Z, 1, none⟩ (.int .i64 r.f1)).setCell ⟨Z, 2, none⟩ (.int .i64 r.f2)).setCell ⟨Z, 3, none⟩ (.int .i64 r.f3)).setCell ⟨Z, 4, none⟩ (.string r.f4)).setCell ⟨Z, 5, none⟩ (.string r.f5.f0)).setCell ⟨Z, 6, none⟩ (.string r.f5.f1)).setCell ⟨Z, 7, none⟩ (.slice A7 r.f5.f2.length c7)).setCell ⟨Z, 8, none⟩ (.slice A8 r.f5.f3.length c8)).setCell ⟨Z, 9, none⟩ (.slice Aq r.f6.f0.length cq)) Z none := (((((((((((KeepBut.refl w9 Z none).set_ 0 (.int .i64 r.f0)).set_ 1 (.int .i64 r.f1)).set_ 2 (.int .i64 r.f2)).set_ 3 (.int .i64 r.f3)).set_ 4 (.string r.f4)).set_ 5 (.string r.f5.f0)).set_ 6 (.string r.f5.f1)).set_ 7 (.slice A7 r.f5.f2.length c7)).set_ 8 (.slice A8 r.f5.f3.length c8)).set_ 9 (.slice Aq r.f6.f0.length cq))
    have hp1 := (blk_put (cs' := #[.int .i64 r.f0, .int .i64 r.f1, .int .i64 r.f2, .int .i64 r.f3, .string r.f4, .string r.f5.f0, .string r.f5.f1, .slice A7 r.f5.f2.length c7, .slice A8 r.f5.f3.length c8, .slice Aq r.f6.f0.length cq]) (blk_put (cs' := #[.int .i64 r.f0, .int .i64 r.f1, .int .i64 r.f2, .int .i64 r.f3, .string r.f4, .string r.f5.f0, .string r.f5.f1, .slice A7 r.f5.f2.length c7, .slice A8 r.f5.f3.length c8, .slice none 0 0]) (blk_put (cs' := #[.int .i64 r.f0, .int .i64 r.f1, .int .i64 r.f2, .int .i64 r.f3, .string r.f4, .string r.f5.f0, .string r.f5.f1, .slice A7 r.f5.f2.length c7, .slice none 0 0, .slice none 0 0]) (blk_put (cs' := #[.int .i64 r.f0, .int .i64 r.f1, .int .i64 r.f2, .int .i64 r.f3, .string r.f4, .string r.f5.f0, .string r.f5.f1, .slice none 0 0, .slice none 0 0, .slice none 0 0]) (blk_put (cs' := #[.int .i64 r.f0, .int .i64 r.f1, .int .i64 r.f2, .int .i64 r.f3, .string r.f4, .string r.f5.f0, .string ⟨#[]⟩, .slice none 0 0, .slice none 0 0, .slice none 0 0]) (blk_put (cs' := #[.int .i64 r.f0, .int .i64 r.f1, .int .i64 r.f2, .int .i64 r.f3, .string r.f4, .string ⟨#[]⟩, .string ⟨#[]⟩, .slice none 0 0, .slice none 0 0, .slice none 0 0]) (blk_put (cs' := #[.int .i64 r.f0, .int .i64 r.f1, .int .i64 r.f2, .int .i64 r.f3, .string ⟨#[]⟩, .string ⟨#[]⟩, .string ⟨#[]⟩, .slice none 0 0, .slice none 0 0, .slice none 0 0]) (blk_put (cs' := #[.int .i64 r.f0, .int .i64 r.f1, .int .i64 r.f2, .int .i64 0, .string ⟨#[]⟩, .string ⟨#[]⟩, .string ⟨#[]⟩, .slice none 0 0, .slice none 0 0, .slice none 0 0]) (blk_put (cs' := #[.int .i64 r.f0, .int .i64 r.f1, .int .i64 0, .int .i64 0, .string ⟨#[]⟩, .string ⟨#[]⟩, .string ⟨#[]⟩, .slice none 0 0, .slice none 0 0, .slice none 0 0]) (blk_put (cs' := #[.int .i64 r.f0, .int .i64 0, .int .i64 0, .int .i64 0, .string ⟨#[]⟩, .string ⟨#[]⟩, .string ⟨#[]⟩, .slice none 0 0, .slice none 0 0, .slice none 0 0]) HZ9.out 0 (.int .i64 r.f0) rfl) 1 (.int .i64 r.f1) rfl) 2 (.int .i64 r.f2) rfl) 3 (.int .i64 r.f3) rfl) 4 (.string r.f4) rfl) 5 (.string r.f5.f0) rfl) 6 (.string r.f5.f1) rfl) 7 (.slice A7 r.f5.f2.length c7) rfl) 8 (.slice A8 r.f5.f3.length c8) rfl) 9 (.slice Aq r.f6.f0.length cq) rfl)
    have hb1 := ((((((((((HB9.out.setCell (p := ⟨Z, 0, none⟩) HG2.out.1 (.int .i64 r.f0)).setCell (p := ⟨Z, 1, none⟩) HG2.out.1 (.int .i64 r.f1)).setCell (p := ⟨Z, 2, none⟩) HG2.out.1 (.int .i64 r.f2)).setCell (p := ⟨Z, 3, none⟩) HG2.out.1 (.int .i64 r.f3)).setCell (p := ⟨Z, 4, none⟩) HG2.out.1 (.string r.f4)).setCell (p := ⟨Z, 5, none⟩) HG2.out.1 (.string r.f5.f0)).setCell (p := ⟨Z, 6, none⟩) HG2.out.1 (.string r.f5.f1)).setCell (p := ⟨Z, 7, none⟩) HG2.out.1 (.slice A7 r.f5.f2.length c7)).setCell (p := ⟨Z, 8, none⟩) HG2.out.1 (.slice A8 r.f5.f3.length c8)).setCell (p := ⟨Z, 9, none⟩) HG2.out.1 (.slice Aq r.f6.f0.length cq))
    have hE1 := (hk1.2 E (blk_lt HE9.out) hez (by simp)).trans HE9.out
    have hK1 := (hk1.2 D (blk_lt HK9.out) (by omega) (by simp)).trans HK9.out
    have h71 := R_off' H7.out (by omega) hk1
    have h81 := R_off' H8.out (by omega) hk1
    have h91 := S_off' H9.out (by omega) hk1
    generalize ((((((((((w9.setCell ⟨Z, 0, none⟩ (.int .i64 r.f0)).setCell ⟨Z, 1, none⟩ (.int .i64 r.f1)).setCell ⟨Z, 2, none⟩ (.int .i64 r.f2)).setCell ⟨Z, 3, none⟩ (.int .i64 r.f3)).setCell ⟨Z, 4, none⟩ (.string r.f4)).setCell ⟨Z, 5, none⟩ (.string r.f5.f0)).setCell ⟨Z, 6, none⟩ (.string r.f5.f1)).setCell ⟨Z, 7, none⟩ (.slice A7 r.f5.f2.length c7)).setCell ⟨Z, 8, none⟩ (.slice A8 r.f5.f3.length c8)).setCell ⟨Z, 9, none⟩ (.slice Aq r.f6.f0.length cq)) = w10 at *
    have hk2 : KeepBut w10 (w10.setCell ⟨E, 0, none⟩ (.int .i64 re)) E none := (KeepBut.refl w10 E none).set_ 0 (.int .i64 re)
    have hp2 := blk_far hp1 (p := ⟨E, 0, none⟩) hze (.int .i64 re)
    have hE2 := blk_put (cs' := #[.int .i64 re]) hE1 0 (.int .i64 re) rfl
    have hb2 := hb1.setCell (p := ⟨E, 0, none⟩) HG2.out.2.1 (.int .i64 re)
    have hK2 := (hk2.2 D (blk_lt hK1) (by omega) (by simp)).trans hK1
    have h72 := R_off' h71 (by omega) hk2
    have h82 := R_off' h81 (by omega) hk2
    have h92 := S_off' h91 (by omega) hk2
    generalize w10.setCell ⟨E, 0, none⟩ (.int .i64 re) = w11 at *
    refine ⟨by simp, .inl ⟨_, _, rfl, run_takeDeferred hK2, ?_⟩⟩
    have hk3 := keep_put w11 D (.deferred none)
    exact line_out rfl rfl ((hk3.2 Z (blk_lt hp2) (by omega) (by simp)).trans hp2) ((hk3.2 E (blk_lt hE2) (by omega) (by simp)).trans hE2) (Kd.R_lower (R_off' h72 (by omega) hk3) (by omega)) (Kd.R_lower (R_off' h82 (by omega) hk3) (by omega)) (Kd.S_lower (S_off' h92 (by omega) hk3) (by omega)) (hb2.grown (grownBy_putObj' w11 D _) hb2.size (fun k e => by cases e; omega))
  case stop =>
    rintro D c' pre W hD ⟨k, hk, rfl⟩ ⟨rfl, hX⟩ hK
    have hl := HH.out
    obtain ⟨i, hi, hbi⟩ := hX.hbad
    have him : i < k := List.mem_range.1 hi
    have e1 : min i (m - 1) = i := by omega
    rw [e1] at hbi
    unfold lineS at hl
    rw [unhex_bad m bs i HBL.out (by omega) hbi] at hl
    simp only [Prod.mk.injEq] at hl
    obtain ⟨rfl, rfl⟩ := hl
    have g2 := HG2.out
    have g5 := HG5.out
    have g6 := blk_lt HZ5.out
    have g7 := blk_lt HE5.out
    gi_step
    refine ⟨by simp, .inl ⟨_, _, rfl, run_takeDeferred hK, ?_⟩⟩
    exact line_out rfl rfl (((keep_put W D _).2 Z (blk_lt hX.hZ) (by omega) (by simp)).trans hX.hZ) (((keep_put W D _).2 E (blk_lt hX.hE) (by omega) (by simp)).trans hX.hE) (Kd.R_nil _ _ _ _ _) (Kd.R_nil _ _ _ _ _) (Kd.S_nil _ _ _ _ _) (hX.hw.grown (grownBy_putObj' W D _) hX.hw.size (fun k e => by cases e; omega))
end Go.Proofs.Ytocpcnmnhckcpaa.Prt
namespace Go.Proofs.Ytocpcnmnhckcpaa.Prt
open Go.RowKit Go.Proofs.YtocpcnmnhckcpaaW.PrintWords Go.Proofs.YtocpcnmnhckcpaaW.PrintLast Go.Proofs.YtocpcnmnhckcpaaW.PrintMore Go.Proofs.Ytocpcnmnhckcpaa.Num Go.Proofs.Ytocpcnmnhckcpaa.Nam Go.Shelf
set_option linter.unusedVariables false
set_option linter.unusedSimpArgs false
theorem nl_iff (b : UInt8) : ((b.toNat : Int) = 10) ↔ b = 10 := ⟨fun h => UInt8.toNat.inj (show b.toNat = 10 by omega), fun h => by rw [h]; rfl⟩
theorem nl_ix : ∀ l : List UInt8, Lib.indexByte l 10 = if (headN (l.map fun b => (b.toNat : Int))).length = l.length then -1 else ((headN (l.map fun b => (b.toNat : Int))).length : Int)
  | [] => rfl
  | b :: r => by
    have ih := nl_ix r
    have hle := headN_le (r.map fun b => (b.toNat : Int))
    rw [List.length_map] at hle
    by_cases hb : b = 10
    · subst hb
      rfl
    · have e : (b == 10) = false := beq_eq_false_iff_ne.mpr hb
      have e2 : headN ((b :: r).map fun b => (b.toNat : Int)) = (b.toNat : Int) :: headN (r.map fun b => (b.toNat : Int)) := by
        unfold headN
        rw [List.map_cons, List.takeWhile_cons, if_pos (by simpa using fun h => hb ((nl_iff b).1 h))]
      rw [e2, List.length_cons, List.length_cons]
      simp only [Lib.indexByte, e, ih, Bool.false_eq_true, if_false]
      generalize (headN (r.map fun b => (b.toNat : Int))).length = m at *
      generalize r.length = n at *
      by_cases h : m = n
      · rw [if_pos h, if_pos (show m + 1 = n + 1 by omega)]; rfl
      · have e3 : ((m : Int) == -1) = false := beq_eq_false_iff_ne.mpr (by omega)
        rw [if_neg h, if_neg (show ¬ m + 1 = n + 1 by omega), e3]
        simp
theorem nl_count : ∀ l : List UInt8, Lib.countByte l 10 = (l.map fun b => (b.toNat : Int)).count 10
  | [] => rfl
  | b :: r => by
    have ih := nl_count r
    unfold Lib.countByte at ih ⊢
    rw [List.map_cons, List.count_cons, List.count_cons, ih]
    congr 1
    by_cases hb : b = 10
    · subst hb; rfl
    · rw [beq_eq_false_iff_ne.mpr hb, beq_eq_false_iff_ne.mpr (fun h => hb ((nl_iff b).1 h))]
theorem count_calls (s : ByteArray) (w : World) : Calls Try.prog 17 #[.string s, .string ⟨#[10]⟩] w fun e w' => e = .returned (.int .i64 ((bytesOf s).count 10 : Nat)) ∧ w' = w :=
  (Try.strings_Count_one s 10 w).mono (by
    rintro e w' ⟨rfl, rfl⟩
    rw [nl_count]
    exact ⟨rfl, rfl⟩)
theorem ix10_calls (s : ByteArray) (w : World) : Calls Try.prog 57 #[.string s, .string ⟨#[10]⟩] w fun e w' => e = .returned (.int .i64 (if (headN (bytesOf s)).length = s.size then -1 else ((headN (bytesOf s)).length : Int))) ∧ w' = w :=
  (Try.stringslite_Index_one s 10 w).mono (by
    rintro e w' ⟨rfl, rfl⟩
    rw [nl_ix, data_length]
    exact ⟨rfl, rfl⟩)
theorem head_ext (s : ByteArray) : s.extract 0 (headN (bytesOf s)).length = strOfNums (headN (bytesOf s)) := by
  apply bytesOf_inj
  have hb : isBytes (headN (bytesOf s)) := fun c hc => bytesOf_isBytes s c ((List.takeWhile_sublist _).subset hc)
  rw [bytes_extract, bytesOf_strOfNums hb, List.drop_zero, Nat.sub_zero]
  exact List.prefix_iff_eq_take.1 (List.takeWhile_prefix _) |>.symm
theorem tail_ext (s : ByteArray) (k : Nat) (hk : k ≤ s.size) : s.extract k s.size = strOfNums ((bytesOf s).drop k) := by
  apply bytesOf_inj
  have hb : isBytes ((bytesOf s).drop k) := fun c hc => bytesOf_isBytes s c (List.mem_of_mem_drop hc)
  rw [bytes_extract, bytesOf_strOfNums hb, List.take_of_length_le (by rw [List.length_drop, bytes_length]; omega)]
set_option maxRecDepth 100000 in
theorem icut10 (s : ByteArray) (w : World) (hz : s.size ≤ 1000000) (k : Nat) (hk : k = (headN (bytesOf s)).length) :
    Calls Try.prog 41 #[.string s, .string ⟨#[10]⟩] w fun e w' => e = .returned (.tuple #[.string (strOfNums (headN (bytesOf s))), .string (strOfNums ((bytesOf s).drop (k + 1))), .bool (decide (k ≠ s.size))]) ∧ Below w.heap.size w w' := by
  have HE := Aside0.mk (show s.extract 0 k = strOfNums (headN (bytesOf s)) by rw [hk]; exact head_ext s)
  have hle := headN_le (bytesOf s)
  rw [bytes_length, ← hk] at hle
  have HIX := Aside0.mk (ix10_calls s w)
  rw [← hk] at HIX
  by_cases he : k = s.size
  · have HD := Aside0.mk (show strOfNums ((bytesOf s).drop (k + 1)) = ⟨#[]⟩ by rw [List.drop_of_length_le (by rw [bytes_length]; omega)]; rfl)
    have HF := Aside0.mk (show decide (k ≠ s.size) = false from decide_eq_false (fun h => h he))
    have HS := Aside0.mk (show s.extract 0 k = s by
      apply bytesOf_inj
      rw [bytes_extract, List.drop_zero, List.take_of_length_le (by rw [bytes_length]; omega)])
    have HC := Aside0.mk (HIX.out)
    rw [if_pos he] at HC
    clear HIX hk he
    go_enter Try.func41, Try.ntmps41
    go_wp2_with fail
    refine HC.out.mono ?_
    rintro e w1 ⟨rfl, rfl⟩
    go_wp2
    go_ret3
    refine ⟨?_, by repeat (first | exact Below.refl _ _ | apply below_drew | apply pw_below_drewN)⟩
    rw [← HE.out, HS.out, HD.out, HF.out]
    rfl
  · have HT := Aside0.mk (tail_ext s (k + 1) (by omega))
    have HF := Aside0.mk (show decide (k ≠ s.size) = true from decide_eq_true he)
    have HC := Aside0.mk (HIX.out)
    rw [if_neg he] at HC
    have h0 : decide ((0 : Int) ≤ (k : Int)) = true := decide_eq_true (by omega)
    have hl1 : ¬ s.size < k := by omega
    have hl2 : (0 : Int) ≤ (k : Int) + 1 := by omega
    have hl3 : ¬ (s.size : Int) < (k : Int) + 1 := by omega
    have hl4 := (wrap_small (n := (k : Int) + 1) (by omega) (by omega))
    clear HIX hk he
    go_enter Try.func41, Try.ntmps41
    go_wp2_with fail
    refine HC.out.mono ?_
    rintro e w1 ⟨rfl, rfl⟩
    go_wp2_with fail
    refine region_class (w0 := w1) (by kernel_rfl) (by kernel_rfl) (by repeat (first | exact Below.refl _ _ | apply below_drew | apply pw_below_drewN)) ?_
    repeat (go_big_quiet_step (fail))
    refine wpQuiet_nil ?_
    rintro w3 ⟨n, hw⟩
    have hb : Below w1.heap.size w1 w3 := by rw [hw]; exact n.2
    have HB := Aside0.mk hb
    clear hw n hb
    go_wp2
    go_ret3
    refine ⟨?_, HB.out⟩
    rw [← HE.out, HF.out, ← HT.out]
    rfl
set_option maxRecDepth 100000 in
theorem cut10 (s : ByteArray) (w : World) (hz : s.size ≤ 1000000) (k : Nat) (hk : k = (headN (bytesOf s)).length) :
    Calls Try.prog 18 #[.string s, .string ⟨#[10]⟩] w fun e w' => e = .returned (.tuple #[.string (strOfNums (headN (bytesOf s))), .string (strOfNums ((bytesOf s).drop (k + 1))), .bool (decide (k ≠ s.size))]) ∧ Below w.heap.size w w' := by
  have HB := Aside0.mk (Below.refl w.heap.size w)
  have HK := Aside0.mk hk
  obtain ⟨b, hb⟩ : ∃ b, b = decide (k ≠ s.size) := ⟨_, rfl⟩
  obtain ⟨u, hu⟩ : ∃ u, u = strOfNums (headN (bytesOf s)) := ⟨_, rfl⟩
  obtain ⟨v, hv⟩ : ∃ v, v = strOfNums ((bytesOf s).drop (k + 1)) := ⟨_, rfl⟩
  have HC := Aside0.mk (icut10 s w hz k hk)
  rw [← hb, ← hu, ← hv] at HC ⊢
  clear hk hb hu hv
  go_enter Try.func18, Try.ntmps18
  go_wp2_with fail
  refine HC.out.mono ?_
  rintro e w1 ⟨rfl, hb⟩
  have HB1 := Aside0.mk hb
  clear hb
  go_wp2
  go_ret3
  exact ⟨rfl, by repeat (first | exact HB1.out | apply below_drew | apply pw_below_drewN)⟩
end Go.Proofs.Ytocpcnmnhckcpaa.Prt
namespace Go.Proofs.Ytocpcnmnhckcpaa.Prt
open Go.RowKit Go.Proofs.YtocpcnmnhckcpaaW.PrintWords Go.Proofs.YtocpcnmnhckcpaaW.PrintLast Go.Proofs.YtocpcnmnhckcpaaW.PrintMore Go.Proofs.Ytocpcnmnhckcpaa.Num Go.Proofs.Ytocpcnmnhckcpaa.Nam Go.Shelf
set_option linter.unusedVariables false
set_option linter.unusedSimpArgs false
theorem str_empty (u : ByteArray) : bytesOf u = [] ↔ u = ⟨#[]⟩ := ⟨fun h => bytesOf_inj (h.trans rfl), fun h => by rw [h]; rfl⟩
set_option maxRecDepth 100000 in
theorem parse_calls22 (s : ByteArray) (w : World) (r : List S36) (k re : Int) (h : parseS (bytesOf s) = (r, k, re)) :
    Calls Try.prog 10 #[.string s] w fun e w' => ∃ v, e = .returned (.tuple #[v, .int .i64 k, .int .i64 re]) ∧ Kd.N k36 36 w' w.heap.size (fun k => w.heap.size ≤ k) v r ∧ Below w.heap.size w w' := by
  have hbl := bytes_length s
  have HH := Aside0.mk h
  clear h
  have hu36 := Try.underlying36
  by_cases hlong : 65536 < s.size
  · have hd1 : decide (65536 < (s.size : Int)) = true := decide_eq_true (by omega)
    have hq := HH.out
    unfold parseS at hq
    rw [if_pos (.inl (by omega))] at hq
    simp only [Prod.mk.injEq] at hq
    obtain ⟨rfl, rfl, rfl⟩ := hq
    clear HH hlong hbl
    go_enter Try.func10, Try.ntmps10
    go_wp2
    go_ret3
    exact ⟨_, rfl, Kd.N_nil _ _ _ _ _, by repeat (first | exact Below.refl _ _ | apply below_drew | apply pw_below_drewN)⟩
  have hd1 : decide (65536 < (s.size : Int)) = false := decide_eq_false (by omega)
  have HC := Aside0.mk (count_calls s w)
  obtain ⟨n, hn⟩ : ∃ n, n = (bytesOf s).count 10 := ⟨_, rfl⟩
  rw [← hn] at HC
  by_cases hmany : 2048 < n
  · have hd2 : decide (2048 < (n : Int)) = true := decide_eq_true (by omega)
    have hq := HH.out
    unfold parseS at hq
    rw [if_pos (.inr (by omega))] at hq
    simp only [Prod.mk.injEq] at hq
    obtain ⟨rfl, rfl, rfl⟩ := hq
    clear HH hlong hbl hmany hn
    go_enter Try.func10, Try.ntmps10
    go_wp2_with fail
    refine HC.out.mono ?_
    rintro e w1 ⟨rfl, rfl⟩
    go_wp2
    go_ret3
    exact ⟨_, rfl, Kd.N_nil _ _ _ _ _, by repeat (first | exact Below.refl _ _ | apply below_drew | apply pw_below_drewN)⟩
  have hd2 : decide (2048 < (n : Int)) = false := decide_eq_false (by omega)
  have hq := HH.out
  unfold parseS at hq
  rw [if_neg (by omega)] at hq
  have HP0 := Aside0.mk hq
  have HS := Aside0.mk (And.intro hlong hbl)
  clear hq HH hlong hbl hmany hn
  go_enter Try.func10, Try.ntmps10
  go_wp2_with fail
  refine HC.out.mono ?_
  rintro e w1 ⟨rfl, rfl⟩
  go_wp2_with fail
  go_loopg [0, 5] (s.size + 1) (fun n v0 v5 w' => ∃ (u : ByteArray) (acc : List S36), v0 = .string u ∧ Aside0 (u.size < n) ∧ Aside0 (acc.length + u.size ≤ s.size) ∧ Aside0 (parseF n (bytesOf u) acc = (r, k, re)) ∧ Aside0 (Kd.N k36 36 w' w1.heap.size (fun k => w1.heap.size ≤ k) v5 acc) ∧ Aside0 (Below w1.heap.size w1 w'))
  case atStart =>
    refine ⟨s, [], rfl, ⟨by omega⟩, ⟨by simp only [List.length_nil]; omega⟩, ⟨by rw [← HS.out.2]; exact HP0.out⟩, ⟨Kd.N_nil _ _ _ _ _⟩, ⟨by repeat (first | exact Below.refl _ _ | apply below_drew | apply pw_below_drewN)⟩⟩
  case round =>
    obtain ⟨u, acc, rfl, HK, HL, HP, HN, HB⟩ := hrel
    by_cases hu0 : u = ⟨#[]⟩
    · subst hu0
      have hq := HP.out
      rw [show bytesOf (⟨#[]⟩ : ByteArray) = [] from rfl, parseF_nil] at hq
      simp only [Prod.mk.injEq] at hq
      obtain ⟨rfl, rfl, rfl⟩ := hq
      go_wp2_with fail
      go_ret3
      exact ⟨_, rfl, HN.out, HB.out⟩
    · have hb0 : bytesOf u ≠ [] := fun h => hu0 ((str_empty u).1 h)
      have hd3 : u.toList.isEmpty = false := by
        rw [List.isEmpty_eq_false_iff]
        intro h
        refine hu0 (ByteArray.ext (Array.ext' ?_))
        rw [ByteArray.toList_eq] at h
        exact h
      have HU := Aside0.mk hb0
      have hule : u.size ≤ 1000000 := by have h1 := HL.out; have h2 := HS.out; omega
      obtain ⟨m, rfl⟩ : ∃ m, gk = m + 1 := ⟨gk - 1, by have := HK.out; omega⟩
      obtain ⟨hd, hhd⟩ : ∃ hd, hd = headN (bytesOf u) := ⟨_, rfl⟩
      have HC1 := Aside0.mk (cut10 u wr hule _ rfl)
      have hdb : isBytes hd := by rw [hhd]; exact fun c hc => bytesOf_isBytes u c ((List.takeWhile_sublist _).subset hc)
      have hle := headN_le (bytesOf u)
      have hq := HP.out
      rw [parseF, if_neg hb0] at hq
      rw [← hhd, bytes_length] at hq
      rw [← hhd] at HC1
      rw [← hhd, bytes_length] at hle
      obtain ⟨sh, hsh⟩ : ∃ sh, sh = strOfNums hd := ⟨_, rfl⟩
      obtain ⟨st, hst⟩ : ∃ st, st = strOfNums ((bytesOf u).drop (hd.length + 1)) := ⟨_, rfl⟩
      rw [← hsh, ← hst] at HC1
      have hbsh : bytesOf sh = hd := by rw [hsh, bytesOf_strOfNums hdb]
      have hbst : bytesOf st = (bytesOf u).drop (hd.length + 1) := by rw [hst, bytesOf_strOfNums (fun c hc => bytesOf_isBytes u c (List.mem_of_mem_drop hc))]
      obtain ⟨⟨t, te⟩, hln⟩ : ∃ q, lineS hd = q := ⟨_, rfl⟩
      have hszh : sh.size ≤ 100000 := by rw [← bytes_length, hbsh]; have h1 := HL.out; have h2 := HS.out; omega
      have HLC := Aside0.mk (fun W => line_calls22 sh W hszh t te (by rw [hbsh]; exact hln))
      rw [hln, ← hbst] at hq
      have hbz : st.size = u.size - (hd.length + 1) := by rw [← bytes_length, hbst, List.length_drop, bytes_length]
      have HQ := Aside0.mk (And.intro hq (And.intro hbz hle))
      clear hq hbz hle hszh hln hbst hbsh hsh hst hdb hhd HP hb0 hule
      obtain ⟨ok, hok⟩ : ∃ ok, ok = decide (hd.length ≠ u.size) := ⟨_, rfl⟩
      rw [← hok] at HC1
      have HOK := Aside0.mk hok
      clear hok
      obtain ⟨A5, c5, e5⟩ := Kd.N_slice HN.out
      subst e5
      go_wp2_with fail
      refine HC1.out.mono ?_
      rintro e w2 ⟨rfl, hb2⟩
      have HB2 := Aside0.mk hb2
      clear hb2
      go_wp2_with fail
      refine (HLC.out w2).mono ?_
      rintro e w3 ⟨v7, v8, v9, rfl, h7, h8, h9, hb⟩
      obtain ⟨A7, c7, rfl⟩ := Kd.R_slice h7
      obtain ⟨A8, c8, rfl⟩ := Kd.R_slice h8
      obtain ⟨A9, c9, rfl⟩ := Kd.S_slice h9
      have H7 := Aside0.mk h7
      have H8 := Aside0.mk h8
      have H9 := Aside0.mk h9
      have HB3 := Aside0.mk hb
      clear h7 h8 h9 hb
      go_upto_region 7 with (first | ((with_reducible refine gate_dst (N := 9) rfl ?_); (try (refine gate_guard (by rfl) ?_; dsimp only)); refine box_event ?hg (N := 9) ?hd (cs := #[.int .i64 0, .int .i64 0, .int .i64 0, .int .i64 0, .string ⟨#[]⟩, .string ⟨#[]⟩, .string ⟨#[]⟩, .slice none 0 0, .slice none 0 0, .slice none 0 0]) (t := 36) ?hr ?_; (case hd => rfl); (case hg => rfl); (case hr => first | (go_simp; done) | (go_simp; rfl)); intro X hg_ w4 hbox_ hb_; have HX := Aside0.mk hbox_; have HXN := Aside0.mk hg_; have HXB := Aside0.mk hb_; clear hbox_ hg_ hb_; have hc0 := blk_cell HX.out 0; have hf0 := blk_frozen HX.out 0; have hc1 := blk_cell HX.out 1; have hf1 := blk_frozen HX.out 1; have hc2 := blk_cell HX.out 2; have hf2 := blk_frozen HX.out 2; have hc3 := blk_cell HX.out 3; have hf3 := blk_frozen HX.out 3; have hc4 := blk_cell HX.out 4; have hf4 := blk_frozen HX.out 4; have hc5 := blk_cell HX.out 5; have hf5 := blk_frozen HX.out 5; have hc6 := blk_cell HX.out 6; have hf6 := blk_frozen HX.out 6; have hc7 := blk_cell HX.out 7; have hf7 := blk_frozen HX.out 7; have hc8 := blk_cell HX.out 8; have hf8 := blk_frozen HX.out 8; have hc9 := blk_cell HX.out 9; have hf9 := blk_frozen HX.out 9))
      have HP5 := Aside0.mk (blk_put (cs' := #[.int .i64 t.f0, .int .i64 t.f1, .int .i64 t.f2, .int .i64 t.f3, .string t.f4, .string t.f5.f0, .string t.f5.f1, .slice A7 t.f5.f2.length c7, .slice A8 t.f5.f3.length c8, .slice A9 t.f6.f0.length c9]) (blk_put (cs' := #[.int .i64 t.f0, .int .i64 t.f1, .int .i64 t.f2, .int .i64 t.f3, .string t.f4, .string t.f5.f0, .string t.f5.f1, .slice A7 t.f5.f2.length c7, .slice A8 t.f5.f3.length c8, .slice none 0 0]) (blk_put (cs' := #[.int .i64 t.f0, .int .i64 t.f1, .int .i64 t.f2, .int .i64 t.f3, .string t.f4, .string t.f5.f0, .string t.f5.f1, .slice A7 t.f5.f2.length c7, .slice none 0 0, .slice none 0 0]) (blk_put (cs' := #[.int .i64 t.f0, .int .i64 t.f1, .int .i64 t.f2, .int .i64 t.f3, .string t.f4, .string t.f5.f0, .string t.f5.f1, .slice none 0 0, .slice none 0 0, .slice none 0 0]) (blk_put (cs' := #[.int .i64 t.f0, .int .i64 t.f1, .int .i64 t.f2, .int .i64 t.f3, .string t.f4, .string t.f5.f0, .string ⟨#[]⟩, .slice none 0 0, .slice none 0 0, .slice none 0 0]) (blk_put (cs' := #[.int .i64 t.f0, .int .i64 t.f1, .int .i64 t.f2, .int .i64 t.f3, .string t.f4, .string ⟨#[]⟩, .string ⟨#[]⟩, .slice none 0 0, .slice none 0 0, .slice none 0 0]) (blk_put (cs' := #[.int .i64 t.f0, .int .i64 t.f1, .int .i64 t.f2, .int .i64 t.f3, .string ⟨#[]⟩, .string ⟨#[]⟩, .string ⟨#[]⟩, .slice none 0 0, .slice none 0 0, .slice none 0 0]) (blk_put (cs' := #[.int .i64 t.f0, .int .i64 t.f1, .int .i64 t.f2, .int .i64 0, .string ⟨#[]⟩, .string ⟨#[]⟩, .string ⟨#[]⟩, .slice none 0 0, .slice none 0 0, .slice none 0 0]) (blk_put (cs' := #[.int .i64 t.f0, .int .i64 t.f1, .int .i64 0, .int .i64 0, .string ⟨#[]⟩, .string ⟨#[]⟩, .string ⟨#[]⟩, .slice none 0 0, .slice none 0 0, .slice none 0 0]) (blk_put (cs' := #[.int .i64 t.f0, .int .i64 0, .int .i64 0, .int .i64 0, .string ⟨#[]⟩, .string ⟨#[]⟩, .string ⟨#[]⟩, .slice none 0 0, .slice none 0 0, .slice none 0 0]) HX.out 0 (.int .i64 t.f0) rfl) 1 (.int .i64 t.f1) rfl) 2 (.int .i64 t.f2) rfl) 3 (.int .i64 t.f3) rfl) 4 (.string t.f4) rfl) 5 (.string t.f5.f0) rfl) 6 (.string t.f5.f1) rfl) 7 (.slice A7 t.f5.f2.length c7) rfl) 8 (.slice A8 t.f5.f3.length c8) rfl) 9 (.slice A9 t.f6.f0.length c9) rfl)
      have HB5 := Aside0.mk ((((((((((HXB.out.setCell (p := ⟨X, 0, none⟩) (Nat.le_of_eq HXN.out.symm) (.int .i64 t.f0)).setCell (p := ⟨X, 1, none⟩) (Nat.le_of_eq HXN.out.symm) (.int .i64 t.f1)).setCell (p := ⟨X, 2, none⟩) (Nat.le_of_eq HXN.out.symm) (.int .i64 t.f2)).setCell (p := ⟨X, 3, none⟩) (Nat.le_of_eq HXN.out.symm) (.int .i64 t.f3)).setCell (p := ⟨X, 4, none⟩) (Nat.le_of_eq HXN.out.symm) (.string t.f4)).setCell (p := ⟨X, 5, none⟩) (Nat.le_of_eq HXN.out.symm) (.string t.f5.f0)).setCell (p := ⟨X, 6, none⟩) (Nat.le_of_eq HXN.out.symm) (.string t.f5.f1)).setCell (p := ⟨X, 7, none⟩) (Nat.le_of_eq HXN.out.symm) (.slice A7 t.f5.f2.length c7)).setCell (p := ⟨X, 8, none⟩) (Nat.le_of_eq HXN.out.symm) (.slice A8 t.f5.f3.length c8)).setCell (p := ⟨X, 9, none⟩) (Nat.le_of_eq HXN.out.symm) (.slice A9 t.f6.f0.length c9))
      clear HX HXB hc0 hf0 hc1 hf1 hc2 hf2 hc3 hf3 hc4 hf4 hc5 hf5 hc6 hf6 hc7 hf7 hc8 hf8 hc9 hf9
      generalize ((((((((((w4.setCell ⟨X, 0, none⟩ (.int .i64 t.f0)).setCell ⟨X, 1, none⟩ (.int .i64 t.f1)).setCell ⟨X, 2, none⟩ (.int .i64 t.f2)).setCell ⟨X, 3, none⟩ (.int .i64 t.f3)).setCell ⟨X, 4, none⟩ (.string t.f4)).setCell ⟨X, 5, none⟩ (.string t.f5.f0)).setCell ⟨X, 6, none⟩ (.string t.f5.f1)).setCell ⟨X, 7, none⟩ (.slice A7 t.f5.f2.length c7)).setCell ⟨X, 8, none⟩ (.slice A8 t.f5.f3.length c8)).setCell ⟨X, 9, none⟩ (.slice A9 t.f6.f0.length c9)) = w5 at *
      have HW := Aside0.mk (show w1.heap.size ≤ wr.heap.size ∧ wr.heap.size ≤ w2.heap.size ∧ w2.heap.size ≤ w3.heap.size ∧ w3.heap.size ≤ w5.heap.size from ⟨HB.out.size, HB2.out.size, HB3.out.size, HB5.out.size⟩)
      have HB25 := Aside0.mk (show Below w2.heap.size w2 w5 from HB3.out.trans (HB5.out.mono HW.out.2.2.1))
      have HBR5 := Aside0.mk (show Below wr.heap.size wr w5 from HB2.out.trans (HB25.out.mono HW.out.2.1))
      have HB15 := Aside0.mk (show Below w1.heap.size w1 w5 from HB.out.trans (HBR5.out.mono HW.out.1))
      have hf := HQ.out.1
      by_cases hodd : hd.length = u.size ∨ te ≠ 0
      · rw [if_pos hodd] at hf
        simp only [Prod.mk.injEq] at hf
        obtain ⟨rfl, rfl, rfl⟩ := hf
        have hal : (acc.length : Int) + 1 ≤ 1000000 := by have h1 := HL.out; have h2 := HS.out; omega
        have hw1 := wrap_small (n := (acc.length : Int) + 1) (by omega) (by omega)
        by_cases h0 : hd.length = u.size
        · have e1 : ok = false := HOK.out.trans (decide_eq_false (fun h => h h0))
          subst e1
          clear hodd h0 hal
          go_wp2_with fail
          go_ret3
          exact ⟨_, rfl, Kd.N_nil _ _ _ _ _, HB15.out⟩
        · have e1 : ok = true := HOK.out.trans (decide_eq_true h0)
          subst e1
          have e2 : (te != 0) = true := bne_iff_ne.mpr (hodd.resolve_left h0)
          clear hodd h0 hal
          go_wp2_with fail
          go_ret3
          exact ⟨_, rfl, Kd.N_nil _ _ _ _ _, HB15.out⟩
      · rw [if_neg hodd] at hf
        have HF := Aside0.mk hf
        rw [not_or] at hodd
        obtain ⟨h0, h1⟩ := hodd
        have e1 : ok = true := HOK.out.trans (decide_eq_true h0)
        subst e1
        have h1 : te = 0 := Classical.not_not.1 h1
        subst h1
        have hal : acc.length ≤ 100000 := by have h1 := HL.out; have h2 := HS.out; omega
        have HH0 := Aside0.mk h0
        clear h0 hf
        have HN5 := Aside0.mk (Kd.N_below HN.out HBR5.out)
        have HFK : Aside0 (Kd.FK k36 w5 (fun k => w2.heap.size ≤ k) t [.int .i64 t.f0, .int .i64 t.f1, .int .i64 t.f2, .int .i64 t.f3, .string t.f4, .string t.f5.f0, .string t.f5.f1, .slice A7 t.f5.f2.length c7, .slice A8 t.f5.f3.length c8, .slice A9 t.f6.f0.length c9]) := ⟨Kd.FK_of_M (k36_mkM w5 w2.heap.size (fun k => w2.heap.size ≤ k) t (Kd.R_mono (Kd.R_bound (Kd.R_below H7.out HB5.out)) (fun k hk => hk.2.1)) (Kd.R_mono (Kd.R_bound (Kd.R_below H8.out HB5.out)) (fun k hk => hk.2.1)) (Kd.R_mono (Kd.R_bound (Kd.R_below (Kd.S_R H9.out) HB5.out)) (fun k hk => hk.2.1)))⟩
        have HLT := Aside0.mk (fun k hk => Nat.lt_of_lt_of_le (Kd.N_lt HN.out k hk) HW.out.2.1)
        have HKO : Aside0 (∀ k, w2.heap.size ≤ k → w1.heap.size ≤ k ∧ some k ≠ (Value.slice A5 acc.length c5).ownBlock) := ⟨fun k hk => ⟨by have := HW.out; omega, fun e_ => by have := HLT.out k e_.symm; omega⟩⟩
        have HSZ := Aside0.mk (show w1.heap.size ≤ w5.heap.size by have := HW.out; omega)
        have hx0 := blk_cell HP5.out 0
        have hx1 := blk_cell HP5.out 1
        have hx2 := blk_cell HP5.out 2
        have hx3 := blk_cell HP5.out 3
        have hx4 := blk_cell HP5.out 4
        have hx5 := blk_cell HP5.out 5
        have hx6 := blk_cell HP5.out 6
        have hx7 := blk_cell HP5.out 7
        have hx8 := blk_cell HP5.out 8
        have hx9 := blk_cell HP5.out 9
        go_wp2_with (first | ((with_reducible refine gate_builtin (b := .append) (xs := #[.tmp 41, .tmp 43]) rfl ?_); at_builtin; refine Kd.N_append k36 (w0 := w1) w1.heap.size rfl (.tmp 41) (.tmp 43) 22 36 (.agg #[.int .i64 0, .int .i64 0, .int .i64 0, .int .i64 0, .string ⟨#[]⟩, .string ⟨#[]⟩, .string ⟨#[]⟩, .slice none 0 0, .slice none 0 0, .slice none 0 0]) 152 rfl Try.underlying22 info_step rfl (by decide) (by decide) (.slice A5 acc.length c5) acc t [.int .i64 t.f0, .int .i64 t.f1, .int .i64 t.f2, .int .i64 t.f3, .string t.f4, .string t.f5.f0, .string t.f5.f1, .slice A7 t.f5.f2.length c7, .slice A8 t.f5.f3.length c8, .slice A9 t.f6.f0.length c9] (fun k => w1.heap.size ≤ k) (fun k => w2.heap.size ≤ k) rfl rfl HFK.out HKO.out (fun _ hk => Nat.le_trans HSZ.out hk) HN5.out HB15.out HSZ.out (by omega) ?_; intro v6_ w6_ ho hb hg hat; have HN6 := Aside0.mk ho; have HB6 := Aside0.mk hb; clear ho hb hg hat))
        go_roundg m
        case measure => omega
        case rel =>
          have h4 := HQ.out.2
          have h5 := HH0.out
          have h6 := HK.out
          have h7 := HL.out
          exact ⟨st, acc ++ [t], rfl, ⟨by omega⟩, ⟨by rw [List.length_append, List.length_singleton]; omega⟩, HF, HN6, HB6⟩
end Go.Proofs.Ytocpcnmnhckcpaa.Prt
namespace Go.Proofs.Ytocpcnmnhckcpaa.Prt
open Go.RowKit Go.Proofs.YtocpcnmnhckcpaaW.PrintWords Go.Proofs.YtocpcnmnhckcpaaW.PrintLast Go.Proofs.YtocpcnmnhckcpaaW.PrintMore Go.Proofs.Ytocpcnmnhckcpaa.Num Go.Proofs.Ytocpcnmnhckcpaa.Nam
set_option linter.unusedVariables false
set_option linter.unusedSimpArgs false
theorem and_3 (x : Int) : ∃ m : Nat, m ≤ 3 ∧ bits .and .i64 x 3 = (m : Int) := by
  refine ⟨(BitVec.ofInt 64 x &&& BitVec.ofInt 64 3).toNat, ?_, ?_⟩
  · rw [BitVec.toNat_and]
    exact Nat.le_trans Nat.and_le_right (by decide)
  · have h : (BitVec.ofInt 64 x &&& BitVec.ofInt 64 3).toNat ≤ 3 := by
      rw [BitVec.toNat_and]
      exact Nat.le_trans Nat.and_le_right (by decide)
    generalize hq : (BitVec.ofInt 64 x &&& BitVec.ofInt 64 3).toNat = q at h ⊢
    have e : bits .and .i64 x 3 = IntKind.i64.wrap (q : Int) := by rw [← hq]; rfl
    rw [e]
    exact wrap_small (n := (q : Int)) (by omega) (by omega)
theorem line_head : lineT (stepOne 11 0) = [49, 54, 48, 48, 48, 48, 48, 48, 48, 48, 48, 48, 48, 48, 10] := by
  unfold lineT
  rw [encS_one (by decide) (by decide) (by decide) (by decide)]
  rfl
/-- Many heads. -/
def headsL (n : Nat) : List S36 := List.replicate n (stepOne 11 0)
theorem headsL_len (n : Nat) : (headsL n).length = n := List.length_replicate
theorem headsL_snoc (n : Nat) : headsL (n + 1) = headsL n ++ [stepOne 11 0] := List.replicate_succ'
theorem headsL_print (n : Nat) : printL (headsL (n + 1)) = printL (headsL n) ++ [49, 54, 48, 48, 48, 48, 48, 48, 48, 48, 48, 48, 48, 48, 10] := by
  rw [headsL_snoc]
  unfold printL
  rw [List.flatMap_append, List.flatMap_singleton, line_head]
theorem headsL_str (n : Nat) : strOfNums (printL (headsL n)) ++ (⟨#[49, 54, 48, 48, 48, 48, 48, 48, 48, 48, 48, 48, 48, 48, 10]⟩ : ByteArray) = strOfNums (printL (headsL (n + 1))) := by
  rw [headsL_print, str_append]; rfl
theorem headsL_size (n : Nat) : (printL (headsL n)).length = 15 * n := by
  induction n with
  | zero => rfl
  | succ n ih => rw [headsL_print, List.length_append, ih]; simp only [List.length_cons, List.length_nil]; omega
theorem headsL_ok (n : Nat) : ∀ t ∈ headsL n, OkS t := fun t ht => by
  rw [(List.mem_replicate.1 ht).2]
  exact okS_one ⟨by decide, by decide⟩ ⟨by decide, by decide⟩
theorem headsL_fit (n : Nat) : FitP (headsL n) := fun t ht => by
  rw [(List.mem_replicate.1 ht).2]
  exact ⟨fitS_one ⟨by decide, by decide⟩ ⟨by decide, by decide⟩, Nat.zero_le _⟩
theorem headsL_printS (n : Nat) : printS (headsL n) = if 2048 < n then ([], 3) else (printL (headsL n), 0) := by
  unfold printS
  rw [headsL_len]
  split
  · rfl
  · rw [if_neg (fun h => h (firstS_zero.2 (fun t ht => by
      have hok := headsL_ok n t ht
      rw [putS_ok hok.hv hok.hq])))]
theorem headsL_parse (n : Nat) (hn : n ≤ 2050) : parseS (bytesOf (strOfNums (printL (headsL n)))) = if 2048 < n then ([], 0, 3) else (headsL n, 0, 0) := by
  rw [bytesOf_strOfNums (printL_bytes _)]
  unfold parseS
  rw [count_print, headsL_len, headsL_size]
  by_cases h : 2048 < n
  · rw [if_pos (.inr h), if_pos h]
  · rw [if_neg (by omega), if_neg h]
    exact parseF_all _ (headsL_ok n) _ (by rw [headsL_len]; omega)
set_option maxRecDepth 100000 in
set_option maxHeartbeats 8000000 in
theorem scriptBounds_walk (more : Int) (w : World) : Calls Try.prog 4 #[.int .i64 more] w fun e w' => e = .returned (.bool true) ∧ Below w.heap.size w w' := by
  obtain ⟨m, hm, hand⟩ := and_3 more
  have hu36 := Try.underlying36
  have hadd := wrap_small (n := 2046 + (m : Int)) (by omega) (by omega)
  obtain ⟨n, hn⟩ : ∃ n, n = 2046 + m := ⟨_, rfl⟩
  have hn2 : 2046 + (m : Int) = (n : Int) := by omega
  rw [hn2] at hadd
  have hnle : n ≤ 2050 := by omega
  clear hm hn
  go_enter Try.func4, Try.ntmps4
  go_wp2_with fail
  refine (shown_calls22 w).mono ?_
  rintro e w1 ⟨rfl, hb⟩
  have HB1 := Aside0.mk hb
  clear hb
  go_upto_region 6 with (first | ((with_reducible refine gate_dst (N := 17) rfl ?_); refine Kd.R_lit k36 (w0 := w) w.heap.size 36 ?hg (N := 17) ?hd (xs := []) (inner := []) (ok := fun _ => True) (okp := fun _ => True) ?hr ?hp (fun _ hk => hk) trivial ?hB ?hS (by simp) ?_; (case hd => rfl); (case hg => rfl); (case hr => first | (go_simp; done) | (go_simp; rfl)); (case hp => exact (Reps.none _ _)); (case hB => exact (by repeat (first | (with_reducible first | exact HB1.out | apply below_alloc | apply pw_below_drewN | apply below_drew1) | exact HB1.out))); (case hS => exact (below_size (by repeat (first | (with_reducible first | exact HB1.out | apply below_alloc | apply pw_below_drewN | apply below_drew1) | exact HB1.out)))); intro v5 w5 ho hb hg hat; have n0_ := Aside0.mk (hb); have n1_ := Aside0.mk (ho); clear HB1; have HB1 := n0_; have HO5 := n1_; clear n0_ n1_; clear ho hb hg hat))
  go_loopg [5, 6, 7] n (fun gk v5 v6 v7 w' => ∃ (i : Nat), v6 = .string (strOfNums (printL (headsL i))) ∧ v7 = .int .i64 (i : Int) ∧ Aside0 (i + gk = n) ∧ Aside0 (Kd.N k36 36 w' w.heap.size (fun _ => True) v5 (headsL i)) ∧ Aside0 (Below w.heap.size w w'))
  case atStart => exact ⟨0, rfl, rfl, ⟨by omega⟩, ⟨Kd.R_N HO5.out⟩, HB1⟩
  case round =>
    clear HO5 HB1
    obtain ⟨i, rfl, rfl, HE, HN, HB⟩ := hrel
    obtain ⟨L, hL⟩ : ∃ L, L = headsL i := ⟨_, rfl⟩
    have hll : L.length = i := by rw [hL, headsL_len]
    have hus : i ≤ n → (strOfNums (printL L)).size ≤ 100000 := fun h => by rw [strOfNums_size', hL, headsL_size]; omega
    obtain ⟨u, hu⟩ : ∃ u, u = strOfNums (printL L) := ⟨_, rfl⟩
    rw [← hL] at HN ⊢
    rw [← hu] at hus ⊢
    have HL := Aside0.mk hL
    have HU := Aside0.mk hu
    clear hL hu
    obtain ⟨A3, c3, e3, hc3, hC3⟩ := Kd.N_reads HN.out
    subst e3
    have HC := Aside0.mk (And.intro hc3 hC3)
    clear hc3 hC3
    by_cases hlt : i < n
    case pos =>
      have hb1 : decide ((i : Int) < (n : Int)) = true := decide_eq_true (by omega)
      have HOK : Aside0 (∀ k, False → True ∧ some k ≠ (Value.slice A3 L.length c3).ownBlock) := ⟨fun k hk => hk.elim⟩
      have HSZ := Aside0.mk HB.out.size
      have hcat : ¬ (9223372036854775807 < (u.size : Int) + 15) := by have := hus (by omega); omega
      clear hus
      have HSU := Aside0.mk (show u ++ (⟨#[49, 54, 48, 48, 48, 48, 48, 48, 48, 48, 48, 48, 48, 48, 10]⟩ : ByteArray) = strOfNums (printL (headsL (i + 1))) by rw [HU.out, HL.out]; exact headsL_str i)
      have HSL := Aside0.mk (show L ++ [stepOne 11 0] = headsL (i + 1) by rw [HL.out, headsL_snoc])
      go_wp2_with (first | ((with_reducible refine gate_builtin (b := .append) (xs := #[.tmp 23, .tmp 25]) rfl ?_); at_builtin; refine Kd.N_append k36 (w0 := w) w.heap.size rfl (.tmp 23) (.tmp 25) 22 36 (.agg #[.int .i64 0, .int .i64 0, .int .i64 0, .int .i64 0, .string ⟨#[]⟩, .string ⟨#[]⟩, .string ⟨#[]⟩, .slice none 0 0, .slice none 0 0, .slice none 0 0]) 152 rfl Try.underlying22 info_step rfl (by decide) (by decide) (.slice A3 L.length c3) L (stepOne 11 0) [.int .i64 11, .int .i64 0, .int .i64 0, .int .i64 0, .string ⟨#[]⟩, .string ⟨#[]⟩, .string ⟨#[]⟩, .slice none 0 0, .slice none 0 0, .slice none 0 0] (fun _ => True) (fun _ => False) rfl rfl FK_one HOK.out (fun _ _ => trivial) HN.out HB.out HSZ.out (by omega) ?_; intro v6_ w6_ ho hb hg hat; have HN6 := Aside0.mk ho; have HB6 := Aside0.mk hb; clear ho hb hg hat))
      go_roundg (n - (i + 1))
      case measure => have := HE.out; omega
      case rel => exact ⟨i + 1, by rw [HSU.out], by go_num, ⟨by have := HE.out; omega⟩, by rw [← HSL.out]; exact HN6, HB6⟩
    clear hus
    have HLL := Aside0.mk hll
    clear hll
    have hin : i = n := by have := HE.out; omega
    subst hin
    have hb1 : decide ((i : Int) < (i : Int)) = false := decide_eq_false (by omega)
    have HPR := Aside0.mk (headsL_printS i)
    have HPA := Aside0.mk (headsL_parse i hnle)
    rw [← HL.out] at HPR HPA
    rw [← HU.out] at HPA
    have HFP := Aside0.mk (show FitP L by rw [HL.out]; exact headsL_fit i)
    by_cases hbig : 2048 < i
    · rw [if_pos hbig] at HPR HPA
      have hb2 : decide (2048 < (i : Int)) = true := decide_eq_true (by omega)
      have hse : (strOfNums []).toList.isEmpty = true := by decide +kernel
      clear hbig hlt
      go_wp2_with fail
      refine (print_calls22 A3 c3 L _ HC.out.2 HC.out.1 HFP.out _ _ HPR.out).mono ?_
      rintro e w6 ⟨rfl, hb⟩
      have HB6 := Aside0.mk (below_step HB.out hb)
      clear hb
      go_wp2_with fail
      refine (parse_calls22 u w6 _ _ _ HPA.out).mono ?_
      rintro e w7 ⟨v, rfl, hN, hb⟩
      have HB7 := Aside0.mk (below_step HB6.out hb)
      obtain ⟨A8, c8, e8⟩ := Kd.N_slice hN
      subst e8
      clear hb hN
      go_wp2
      go_ret
      exact ⟨rfl, HB7.out⟩
    · rw [if_neg hbig] at HPR HPA
      have hb2 : decide (2048 < (i : Int)) = false := decide_eq_false (by omega)
      have hse : (u.toList == u.toList) = true := by simp
      clear hbig hlt
      go_wp2_with fail
      refine (print_calls22 A3 c3 L _ HC.out.2 HC.out.1 HFP.out _ _ HPR.out).mono ?_
      rintro e w6 ⟨rfl, hb⟩
      have HB6 := Aside0.mk (below_step HB.out hb)
      clear hb
      rw [← HU.out]
      go_wp2_with fail
      refine (parse_calls22 u w6 _ _ _ HPA.out).mono ?_
      rintro e w7 ⟨v, rfl, hN, hb⟩
      have HB7 := Aside0.mk (below_step HB6.out hb)
      obtain ⟨A8, c8, e8⟩ := Kd.N_slice hN
      subst e8
      rw [HLL.out]
      clear hb hN
      go_wp2
      go_ret
      exact ⟨rfl, HB7.out⟩
theorem scriptBounds_law (more : Int) (w : World) (wi : (Lit.int .i64 more).wf = true) :
    Calls Try.prog 4 #[.int .i64 more] w fun e w' => e = .returned (.bool true) ∧ Below w.heap.size w w' := scriptBounds_walk more w
end Go.Proofs.Ytocpcnmnhckcpaa.Prt
