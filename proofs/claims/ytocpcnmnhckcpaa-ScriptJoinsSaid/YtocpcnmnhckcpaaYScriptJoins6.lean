/- strings.Cut at an end of a line; ends of lines counted. script.Parse: its walk. registrarlaw22.few, with the blocks that its rows lead to. What the laws of scripts need in plain words; elements of a row read with what they lead to. Scripts joined: plain laws. Arguments of any shape, opened: what reads as data lies in memory as a list, a struct, a text .. Arguments that are texts and numbers, opened. Arguments that are events, opened. Arguments that are queries and projections, opened. Arguments that are steps, opened. Steps that came in: their sizes. The law ScriptJoins: its walk. -/
import Derived.ChangeArms
import Derived.OpenShut
import Derived.DataReads
import Derived.Deep.Slices
import Derived.Test.YtocpcnmnhckcpaaYScriptJoins1
import Derived.Test.YtocpcnmnhckcpaaYScriptJoins2
import Derived.Test.YtocpcnmnhckcpaaYScriptJoins3
import Derived.Test.YtocpcnmnhckcpaaYScriptJoins4
import Derived.Test.YtocpcnmnhckcpaaYScriptJoins5
namespace Go.Proofs.Ytocpcnmnhckcpaa.Prt
open Go.RowKit Go.Proofs.YtocpcnmnhckcpaaW.PrintWords Go.Proofs.YtocpcnmnhckcpaaW.PrintLast Go.Proofs.YtocpcnmnhckcpaaW.PrintMore Go.Proofs.Ytocpcnmnhckcpaa.Num Go.Proofs.Ytocpcnmnhckcpaa.Nam Go.Shelf
set_option linter.unusedVariables false
set_option linter.unusedSimpArgs false
theorem nl_iff (b : UInt8) : ((b.toNat : Int) = 10) ↔ b = 10 := ⟨fun h => UInt8.toNat.inj (show b.toNat = 10 by omega), fun h => by rw [h]; rfl⟩
theorem nl_ix : ∀ l : List UInt8, Lib.indexByte l 10 = if (headN (l.map fun b => (b.toNat : Int))).length = l.length then -1 else ((headN (l.map fun b => (b.toNat : Int))).length : Int)
  | [] => rfl
  | b :: r => by
    have ih := nl_ix r
    have hle := headN_le (r.map fun b => (b.toNat : Int))
    rw [List.length_map] at hle
    by_cases hb : b = 10
    · subst hb
      rfl
    · have e : (b == 10) = false := beq_eq_false_iff_ne.mpr hb
      have e2 : headN ((b :: r).map fun b => (b.toNat : Int)) = (b.toNat : Int) :: headN (r.map fun b => (b.toNat : Int)) := by
        unfold headN
        rw [List.map_cons, List.takeWhile_cons, if_pos (by simpa using fun h => hb ((nl_iff b).1 h))]
      rw [e2, List.length_cons, List.length_cons]
      simp only [Lib.indexByte, e, ih, Bool.false_eq_true, if_false]
      generalize (headN (r.map fun b => (b.toNat : Int))).length = m at *
      generalize r.length = n at *
      by_cases h : m = n
      · rw [if_pos h, if_pos (show m + 1 = n + 1 by omega)]; rfl
      · have e3 : ((m : Int) == -1) = false := beq_eq_false_iff_ne.mpr (by omega)
        rw [if_neg h, if_neg (show ¬ m + 1 = n + 1 by omega), e3]
        simp
theorem nl_count : ∀ l : List UInt8, Lib.countByte l 10 = (l.map fun b => (b.toNat : Int)).count 10
  | [] => rfl
  | b :: r => by
    have ih := nl_count r
    unfold Lib.countByte at ih ⊢
    rw [List.map_cons, List.count_cons, List.count_cons, ih]
    congr 1
    by_cases hb : b = 10
    · subst hb; rfl
    · rw [beq_eq_false_iff_ne.mpr hb, beq_eq_false_iff_ne.mpr (fun h => hb ((nl_iff b).1 h))]
theorem count_calls (s : ByteArray) (w : World) : Calls Try.prog 17 #[.string s, .string ⟨#[10]⟩] w fun e w' => e = .returned (.int .i64 ((bytesOf s).count 10 : Nat)) ∧ w' = w :=
  (Try.strings_Count_one s 10 w).mono (by
    rintro e w' ⟨rfl, rfl⟩
    rw [nl_count]
    exact ⟨rfl, rfl⟩)
theorem ix10_calls (s : ByteArray) (w : World) : Calls Try.prog 57 #[.string s, .string ⟨#[10]⟩] w fun e w' => e = .returned (.int .i64 (if (headN (bytesOf s)).length = s.size then -1 else ((headN (bytesOf s)).length : Int))) ∧ w' = w :=
  (Try.stringslite_Index_one s 10 w).mono (by
    rintro e w' ⟨rfl, rfl⟩
    rw [nl_ix, data_length]
    exact ⟨rfl, rfl⟩)
theorem head_ext (s : ByteArray) : s.extract 0 (headN (bytesOf s)).length = strOfNums (headN (bytesOf s)) := by
  apply bytesOf_inj
  have hb : isBytes (headN (bytesOf s)) := fun c hc => bytesOf_isBytes s c ((List.takeWhile_sublist _).subset hc)
  rw [bytes_extract, bytesOf_strOfNums hb, List.drop_zero, Nat.sub_zero]
  exact List.prefix_iff_eq_take.1 (List.takeWhile_prefix _) |>.symm
theorem tail_ext (s : ByteArray) (k : Nat) (hk : k ≤ s.size) : s.extract k s.size = strOfNums ((bytesOf s).drop k) := by
  apply bytesOf_inj
  have hb : isBytes ((bytesOf s).drop k) := fun c hc => bytesOf_isBytes s c (List.mem_of_mem_drop hc)
  rw [bytes_extract, bytesOf_strOfNums hb, List.take_of_length_le (by rw [List.length_drop, bytes_length]; omega)]
set_option maxRecDepth 100000 in
theorem icut10 (s : ByteArray) (w : World) (hz : s.size ≤ 1000000) (k : Nat) (hk : k = (headN (bytesOf s)).length) :
    Calls Try.prog 41 #[.string s, .string ⟨#[10]⟩] w fun e w' => e = .returned (.tuple #[.string (strOfNums (headN (bytesOf s))), .string (strOfNums ((bytesOf s).drop (k + 1))), .bool (decide (k ≠ s.size))]) ∧ Below w.heap.size w w' := by
  have HE := Aside0.mk (show s.extract 0 k = strOfNums (headN (bytesOf s)) by rw [hk]; exact head_ext s)
  have hle := headN_le (bytesOf s)
  rw [bytes_length, ← hk] at hle
  have HIX := Aside0.mk (ix10_calls s w)
  rw [← hk] at HIX
  by_cases he : k = s.size
  · have HD := Aside0.mk (show strOfNums ((bytesOf s).drop (k + 1)) = ⟨#[]⟩ by rw [List.drop_of_length_le (by rw [bytes_length]; omega)]; rfl)
    have HF := Aside0.mk (show decide (k ≠ s.size) = false from decide_eq_false (fun h => h he))
    have HS := Aside0.mk (show s.extract 0 k = s by
      apply bytesOf_inj
      rw [bytes_extract, List.drop_zero, List.take_of_length_le (by rw [bytes_length]; omega)])
    have HC := Aside0.mk (HIX.out)
    rw [if_pos he] at HC
    clear HIX hk he
    go_enter Try.func41, Try.ntmps41
    go_wp2_with fail
    refine HC.out.mono ?_
    rintro e w1 ⟨rfl, rfl⟩
    go_wp2
    go_ret3
    refine ⟨?_, by repeat (first | exact Below.refl _ _ | apply below_drew | apply pw_below_drewN)⟩
    rw [← HE.out, HS.out, HD.out, HF.out]
    rfl
  · have HT := Aside0.mk (tail_ext s (k + 1) (by omega))
    have HF := Aside0.mk (show decide (k ≠ s.size) = true from decide_eq_true he)
    have HC := Aside0.mk (HIX.out)
    rw [if_neg he] at HC
    have h0 : decide ((0 : Int) ≤ (k : Int)) = true := decide_eq_true (by omega)
    have hl1 : ¬ s.size < k := by omega
    have hl2 : (0 : Int) ≤ (k : Int) + 1 := by omega
    have hl3 : ¬ (s.size : Int) < (k : Int) + 1 := by omega
    have hl4 := (wrap_small (n := (k : Int) + 1) (by omega) (by omega))
    clear HIX hk he
    go_enter Try.func41, Try.ntmps41
    go_wp2_with fail
    refine HC.out.mono ?_
    rintro e w1 ⟨rfl, rfl⟩
    go_wp2_with fail
    refine region_class (w0 := w1) (by kernel_rfl) (by kernel_rfl) (by repeat (first | exact Below.refl _ _ | apply below_drew | apply pw_below_drewN)) ?_
    repeat (go_big_quiet_step (fail))
    refine wpQuiet_nil ?_
    rintro w3 ⟨n, hw⟩
    have hb : Below w1.heap.size w1 w3 := by rw [hw]; exact n.2
    have HB := Aside0.mk hb
    clear hw n hb
    go_wp2
    go_ret3
    refine ⟨?_, HB.out⟩
    rw [← HE.out, HF.out, ← HT.out]
    rfl
set_option maxRecDepth 100000 in
theorem cut10 (s : ByteArray) (w : World) (hz : s.size ≤ 1000000) (k : Nat) (hk : k = (headN (bytesOf s)).length) :
    Calls Try.prog 18 #[.string s, .string ⟨#[10]⟩] w fun e w' => e = .returned (.tuple #[.string (strOfNums (headN (bytesOf s))), .string (strOfNums ((bytesOf s).drop (k + 1))), .bool (decide (k ≠ s.size))]) ∧ Below w.heap.size w w' := by
  have HB := Aside0.mk (Below.refl w.heap.size w)
  have HK := Aside0.mk hk
  obtain ⟨b, hb⟩ : ∃ b, b = decide (k ≠ s.size) := ⟨_, rfl⟩
  obtain ⟨u, hu⟩ : ∃ u, u = strOfNums (headN (bytesOf s)) := ⟨_, rfl⟩
  obtain ⟨v, hv⟩ : ∃ v, v = strOfNums ((bytesOf s).drop (k + 1)) := ⟨_, rfl⟩
  have HC := Aside0.mk (icut10 s w hz k hk)
  rw [← hb, ← hu, ← hv] at HC ⊢
  clear hk hb hu hv
  go_enter Try.func18, Try.ntmps18
  go_wp2_with fail
  refine HC.out.mono ?_
  rintro e w1 ⟨rfl, hb⟩
  have HB1 := Aside0.mk hb
  clear hb
  go_wp2
  go_ret3
  exact ⟨rfl, by repeat (first | exact HB1.out | apply below_drew | apply pw_below_drewN)⟩
end Go.Proofs.Ytocpcnmnhckcpaa.Prt
namespace Go.Proofs.Ytocpcnmnhckcpaa.Prt
open Go.RowKit Go.Proofs.YtocpcnmnhckcpaaW.PrintWords Go.Proofs.YtocpcnmnhckcpaaW.PrintLast Go.Proofs.YtocpcnmnhckcpaaW.PrintMore Go.Proofs.Ytocpcnmnhckcpaa.Num Go.Proofs.Ytocpcnmnhckcpaa.Nam Go.Shelf
set_option linter.unusedVariables false
set_option linter.unusedSimpArgs false
theorem str_empty (u : ByteArray) : bytesOf u = [] ↔ u = ⟨#[]⟩ := ⟨fun h => bytesOf_inj (h.trans rfl), fun h => by rw [h]; rfl⟩
set_option maxRecDepth 100000 in
theorem parse_calls22 (s : ByteArray) (w : World) (r : List S36) (k re : Int) (h : parseS (bytesOf s) = (r, k, re)) :
    Calls Try.prog 10 #[.string s] w fun e w' => ∃ v, e = .returned (.tuple #[v, .int .i64 k, .int .i64 re]) ∧ Kd.N k36 36 w' w.heap.size (fun k => w.heap.size ≤ k) v r ∧ Below w.heap.size w w' := by
  have hbl := bytes_length s
  have HH := Aside0.mk h
  clear h
  have hu36 := Try.underlying36
  by_cases hlong : 65536 < s.size
  · have hd1 : decide (65536 < (s.size : Int)) = true := decide_eq_true (by omega)
    have hq := HH.out
    unfold parseS at hq
    rw [if_pos (.inl (by omega))] at hq
    simp only [Prod.mk.injEq] at hq
    obtain ⟨rfl, rfl, rfl⟩ := hq
    clear HH hlong hbl
    go_enter Try.func10, Try.ntmps10
    go_wp2
    go_ret3
    exact ⟨_, rfl, Kd.N_nil _ _ _ _ _, by repeat (first | exact Below.refl _ _ | apply below_drew | apply pw_below_drewN)⟩
  have hd1 : decide (65536 < (s.size : Int)) = false := decide_eq_false (by omega)
  have HC := Aside0.mk (count_calls s w)
  obtain ⟨n, hn⟩ : ∃ n, n = (bytesOf s).count 10 := ⟨_, rfl⟩
  rw [← hn] at HC
  by_cases hmany : 2048 < n
  · have hd2 : decide (2048 < (n : Int)) = true := decide_eq_true (by omega)
    have hq := HH.out
    unfold parseS at hq
    rw [if_pos (.inr (by omega))] at hq
    simp only [Prod.mk.injEq] at hq
    obtain ⟨rfl, rfl, rfl⟩ := hq
    clear HH hlong hbl hmany hn
    go_enter Try.func10, Try.ntmps10
    go_wp2_with fail
    refine HC.out.mono ?_
    rintro e w1 ⟨rfl, rfl⟩
    go_wp2
    go_ret3
    exact ⟨_, rfl, Kd.N_nil _ _ _ _ _, by repeat (first | exact Below.refl _ _ | apply below_drew | apply pw_below_drewN)⟩
  have hd2 : decide (2048 < (n : Int)) = false := decide_eq_false (by omega)
  have hq := HH.out
  unfold parseS at hq
  rw [if_neg (by omega)] at hq
  have HP0 := Aside0.mk hq
  have HS := Aside0.mk (And.intro hlong hbl)
  clear hq HH hlong hbl hmany hn
  go_enter Try.func10, Try.ntmps10
  go_wp2_with fail
  refine HC.out.mono ?_
  rintro e w1 ⟨rfl, rfl⟩
  go_wp2_with fail
  go_loopg [0, 5] (s.size + 1) (fun n v0 v5 w' => ∃ (u : ByteArray) (acc : List S36), v0 = .string u ∧ Aside0 (u.size < n) ∧ Aside0 (acc.length + u.size ≤ s.size) ∧ Aside0 (parseF n (bytesOf u) acc = (r, k, re)) ∧ Aside0 (Kd.N k36 36 w' w1.heap.size (fun k => w1.heap.size ≤ k) v5 acc) ∧ Aside0 (Below w1.heap.size w1 w'))
  case atStart =>
    refine ⟨s, [], rfl, ⟨by omega⟩, ⟨by simp only [List.length_nil]; omega⟩, ⟨by rw [← HS.out.2]; exact HP0.out⟩, ⟨Kd.N_nil _ _ _ _ _⟩, ⟨by repeat (first | exact Below.refl _ _ | apply below_drew | apply pw_below_drewN)⟩⟩
  case round =>
    obtain ⟨u, acc, rfl, HK, HL, HP, HN, HB⟩ := hrel
    by_cases hu0 : u = ⟨#[]⟩
    · subst hu0
      have hq := HP.out
      rw [show bytesOf (⟨#[]⟩ : ByteArray) = [] from rfl, parseF_nil] at hq
      simp only [Prod.mk.injEq] at hq
      obtain ⟨rfl, rfl, rfl⟩ := hq
      go_wp2_with fail
      go_ret3
      exact ⟨_, rfl, HN.out, HB.out⟩
    · have hb0 : bytesOf u ≠ [] := fun h => hu0 ((str_empty u).1 h)
      have hd3 : u.toList.isEmpty = false := by
        rw [List.isEmpty_eq_false_iff]
        intro h
        refine hu0 (ByteArray.ext (Array.ext' ?_))
        rw [ByteArray.toList_eq] at h
        exact h
      have HU := Aside0.mk hb0
      have hule : u.size ≤ 1000000 := by have h1 := HL.out; have h2 := HS.out; omega
      obtain ⟨m, rfl⟩ : ∃ m, gk = m + 1 := ⟨gk - 1, by have := HK.out; omega⟩
      obtain ⟨hd, hhd⟩ : ∃ hd, hd = headN (bytesOf u) := ⟨_, rfl⟩
      have HC1 := Aside0.mk (cut10 u wr hule _ rfl)
      have hdb : isBytes hd := by rw [hhd]; exact fun c hc => bytesOf_isBytes u c ((List.takeWhile_sublist _).subset hc)
      have hle := headN_le (bytesOf u)
      have hq := HP.out
      rw [parseF, if_neg hb0] at hq
      rw [← hhd, bytes_length] at hq
      rw [← hhd] at HC1
      rw [← hhd, bytes_length] at hle
      obtain ⟨sh, hsh⟩ : ∃ sh, sh = strOfNums hd := ⟨_, rfl⟩
      obtain ⟨st, hst⟩ : ∃ st, st = strOfNums ((bytesOf u).drop (hd.length + 1)) := ⟨_, rfl⟩
      rw [← hsh, ← hst] at HC1
      have hbsh : bytesOf sh = hd := by rw [hsh, bytesOf_strOfNums hdb]
      have hbst : bytesOf st = (bytesOf u).drop (hd.length + 1) := by rw [hst, bytesOf_strOfNums (fun c hc => bytesOf_isBytes u c (List.mem_of_mem_drop hc))]
      obtain ⟨⟨t, te⟩, hln⟩ : ∃ q, lineS hd = q := ⟨_, rfl⟩
      have hszh : sh.size ≤ 100000 := by rw [← bytes_length, hbsh]; have h1 := HL.out; have h2 := HS.out; omega
      have HLC := Aside0.mk (fun W => line_calls22 sh W hszh t te (by rw [hbsh]; exact hln))
      rw [hln, ← hbst] at hq
      have hbz : st.size = u.size - (hd.length + 1) := by rw [← bytes_length, hbst, List.length_drop, bytes_length]
      have HQ := Aside0.mk (And.intro hq (And.intro hbz hle))
      clear hq hbz hle hszh hln hbst hbsh hsh hst hdb hhd HP hb0 hule
      obtain ⟨ok, hok⟩ : ∃ ok, ok = decide (hd.length ≠ u.size) := ⟨_, rfl⟩
      rw [← hok] at HC1
      have HOK := Aside0.mk hok
      clear hok
      obtain ⟨A5, c5, e5⟩ := Kd.N_slice HN.out
      subst e5
      go_wp2_with fail
      refine HC1.out.mono ?_
      rintro e w2 ⟨rfl, hb2⟩
      have HB2 := Aside0.mk hb2
      clear hb2
      go_wp2_with fail
      refine (HLC.out w2).mono ?_
      rintro e w3 ⟨v7, v8, v9, rfl, h7, h8, h9, hb⟩
      obtain ⟨A7, c7, rfl⟩ := Kd.R_slice h7
      obtain ⟨A8, c8, rfl⟩ := Kd.R_slice h8
      obtain ⟨A9, c9, rfl⟩ := Kd.S_slice h9
      have H7 := Aside0.mk h7
      have H8 := Aside0.mk h8
      have H9 := Aside0.mk h9
      have HB3 := Aside0.mk hb
      clear h7 h8 h9 hb
      go_upto_region 7 with (first | ((with_reducible refine gate_dst (N := 9) rfl ?_); (try (refine gate_guard (by rfl) ?_; dsimp only)); refine box_event ?hg (N := 9) ?hd (cs := #[.int .i64 0, .int .i64 0, .int .i64 0, .int .i64 0, .string ⟨#[]⟩, .string ⟨#[]⟩, .string ⟨#[]⟩, .slice none 0 0, .slice none 0 0, .slice none 0 0]) (t := 36) ?hr ?_; (case hd => rfl); (case hg => rfl); (case hr => first | (go_simp; done) | (go_simp; rfl)); intro X hg_ w4 hbox_ hb_; have HX := Aside0.mk hbox_; have HXN := Aside0.mk hg_; have HXB := Aside0.mk hb_; clear hbox_ hg_ hb_; have hc0 := blk_cell HX.out 0; have hf0 := blk_frozen HX.out 0; have hc1 := blk_cell HX.out 1; have hf1 := blk_frozen HX.out 1; have hc2 := blk_cell HX.out 2; have hf2 := blk_frozen HX.out 2; have hc3 := blk_cell HX.out 3; have hf3 := blk_frozen HX.out 3; have hc4 := blk_cell HX.out 4; have hf4 := blk_frozen HX.out 4; have hc5 := blk_cell HX.out 5; have hf5 := blk_frozen HX.out 5; have hc6 := blk_cell HX.out 6; have hf6 := blk_frozen HX.out 6; have hc7 := blk_cell HX.out 7; have hf7 := blk_frozen HX.out 7; have hc8 := blk_cell HX.out 8; have hf8 := blk_frozen HX.out 8; have hc9 := blk_cell HX.out 9; have hf9 := blk_frozen HX.out 9))
      have HP5 := Aside0.mk (blk_put (cs' := #[.int .i64 t.f0, .int .i64 t.f1, .int .i64 t.f2, .int .i64 t.f3, .string t.f4, .string t.f5.f0, .string t.f5.f1, .slice A7 t.f5.f2.length c7, .slice A8 t.f5.f3.length c8, .slice A9 t.f6.f0.length c9]) (blk_put (cs' := #[.int .i64 t.f0, .int .i64 t.f1, .int .i64 t.f2, .int .i64 t.f3, .string t.f4, .string t.f5.f0, .string t.f5.f1, .slice A7 t.f5.f2.length c7, .slice A8 t.f5.f3.length c8, .slice none 0 0]) (blk_put (cs' := #[.int .i64 t.f0, .int .i64 t.f1, .int .i64 t.f2, .int .i64 t.f3, .string t.f4, .string t.f5.f0, .string t.f5.f1, .slice A7 t.f5.f2.length c7, .slice none 0 0, .slice none 0 0]) (blk_put (cs' := #[.int .i64 t.f0, .int .i64 t.f1, .int .i64 t.f2, .int .i64 t.f3, .string t.f4, .string t.f5.f0, .string t.f5.f1, .slice none 0 0, .slice none 0 0, .slice none 0 0]) (blk_put (cs' := #[.int .i64 t.f0, .int .i64 t.f1, .int .i64 t.f2, .int .i64 t.f3, .string t.f4, .string t.f5.f0, .string ⟨#[]⟩, .slice none 0 0, .slice none 0 0, .slice none 0 0]) (blk_put (cs' := #[.int .i64 t.f0, .int .i64 t.f1, .int .i64 t.f2, .int .i64 t.f3, .string t.f4, .string ⟨#[]⟩, .string ⟨#[]⟩, .slice none 0 0, .slice none 0 0, .slice none 0 0]) (blk_put (cs' := #[.int .i64 t.f0, .int .i64 t.f1, .int .i64 t.f2, .int .i64 t.f3, .string ⟨#[]⟩, .string ⟨#[]⟩, .string ⟨#[]⟩, .slice none 0 0, .slice none 0 0, .slice none 0 0]) (blk_put (cs' := #[.int .i64 t.f0, .int .i64 t.f1, .int .i64 t.f2, .int .i64 0, .string ⟨#[]⟩, .string ⟨#[]⟩, .string ⟨#[]⟩, .slice none 0 0, .slice none 0 0, .slice none 0 0]) (blk_put (cs' := #[.int .i64 t.f0, .int .i64 t.f1, .int .i64 0, .int .i64 0, .string ⟨#[]⟩, .string ⟨#[]⟩, .string ⟨#[]⟩, .slice none 0 0, .slice none 0 0, .slice none 0 0]) (blk_put (cs' := #[.int .i64 t.f0, .int .i64 0, .int .i64 0, .int .i64 0, .string ⟨#[]⟩, .string ⟨#[]⟩, .string ⟨#[]⟩, .slice none 0 0, .slice none 0 0, .slice none 0 0]) HX.out 0 (.int .i64 t.f0) rfl) 1 (.int .i64 t.f1) rfl) 2 (.int .i64 t.f2) rfl) 3 (.int .i64 t.f3) rfl) 4 (.string t.f4) rfl) 5 (.string t.f5.f0) rfl) 6 (.string t.f5.f1) rfl) 7 (.slice A7 t.f5.f2.length c7) rfl) 8 (.slice A8 t.f5.f3.length c8) rfl) 9 (.slice A9 t.f6.f0.length c9) rfl)
      have HB5 := Aside0.mk ((((((((((HXB.out.setCell (p := ⟨X, 0, none⟩) (Nat.le_of_eq HXN.out.symm) (.int .i64 t.f0)).setCell (p := ⟨X, 1, none⟩) (Nat.le_of_eq HXN.out.symm) (.int .i64 t.f1)).setCell (p := ⟨X, 2, none⟩) (Nat.le_of_eq HXN.out.symm) (.int .i64 t.f2)).setCell (p := ⟨X, 3, none⟩) (Nat.le_of_eq HXN.out.symm) (.int .i64 t.f3)).setCell (p := ⟨X, 4, none⟩) (Nat.le_of_eq HXN.out.symm) (.string t.f4)).setCell (p := ⟨X, 5, none⟩) (Nat.le_of_eq HXN.out.symm) (.string t.f5.f0)).setCell (p := ⟨X, 6, none⟩) (Nat.le_of_eq HXN.out.symm) (.string t.f5.f1)).setCell (p := ⟨X, 7, none⟩) (Nat.le_of_eq HXN.out.symm) (.slice A7 t.f5.f2.length c7)).setCell (p := ⟨X, 8, none⟩) (Nat.le_of_eq HXN.out.symm) (.slice A8 t.f5.f3.length c8)).setCell (p := ⟨X, 9, none⟩) (Nat.le_of_eq HXN.out.symm) (.slice A9 t.f6.f0.length c9))
      clear HX HXB hc0 hf0 hc1 hf1 hc2 hf2 hc3 hf3 hc4 hf4 hc5 hf5 hc6 hf6 hc7 hf7 hc8 hf8 hc9 hf9
      generalize ((((((((((w4.setCell ⟨X, 0, none⟩ (.int .i64 t.f0)).setCell ⟨X, 1, none⟩ (.int .i64 t.f1)).setCell ⟨X, 2, none⟩ (.int .i64 t.f2)).setCell ⟨X, 3, none⟩ (.int .i64 t.f3)).setCell ⟨X, 4, none⟩ (.string t.f4)).setCell ⟨X, 5, none⟩ (.string t.f5.f0)).setCell ⟨X, 6, none⟩ (.string t.f5.f1)).setCell ⟨X, 7, none⟩ (.slice A7 t.f5.f2.length c7)).setCell ⟨X, 8, none⟩ (.slice A8 t.f5.f3.length c8)).setCell ⟨X, 9, none⟩ (.slice A9 t.f6.f0.length c9)) = w5 at *
      have HW := Aside0.mk (show w1.heap.size ≤ wr.heap.size ∧ wr.heap.size ≤ w2.heap.size ∧ w2.heap.size ≤ w3.heap.size ∧ w3.heap.size ≤ w5.heap.size from ⟨HB.out.size, HB2.out.size, HB3.out.size, HB5.out.size⟩)
      have HB25 := Aside0.mk (show Below w2.heap.size w2 w5 from HB3.out.trans (HB5.out.mono HW.out.2.2.1))
      have HBR5 := Aside0.mk (show Below wr.heap.size wr w5 from HB2.out.trans (HB25.out.mono HW.out.2.1))
      have HB15 := Aside0.mk (show Below w1.heap.size w1 w5 from HB.out.trans (HBR5.out.mono HW.out.1))
      have hf := HQ.out.1
      by_cases hodd : hd.length = u.size ∨ te ≠ 0
      · rw [if_pos hodd] at hf
        simp only [Prod.mk.injEq] at hf
        obtain ⟨rfl, rfl, rfl⟩ := hf
        have hal : (acc.length : Int) + 1 ≤ 1000000 := by have h1 := HL.out; have h2 := HS.out; omega
        have hw1 := wrap_small (n := (acc.length : Int) + 1) (by omega) (by omega)
        by_cases h0 : hd.length = u.size
        · have e1 : ok = false := HOK.out.trans (decide_eq_false (fun h => h h0))
          subst e1
          clear hodd h0 hal
          go_wp2_with fail
          go_ret3
          exact ⟨_, rfl, Kd.N_nil _ _ _ _ _, HB15.out⟩
        · have e1 : ok = true := HOK.out.trans (decide_eq_true h0)
          subst e1
          have e2 : (te != 0) = true := bne_iff_ne.mpr (hodd.resolve_left h0)
          clear hodd h0 hal
          go_wp2_with fail
          go_ret3
          exact ⟨_, rfl, Kd.N_nil _ _ _ _ _, HB15.out⟩
      · rw [if_neg hodd] at hf
        have HF := Aside0.mk hf
        rw [not_or] at hodd
        obtain ⟨h0, h1⟩ := hodd
        have e1 : ok = true := HOK.out.trans (decide_eq_true h0)
        subst e1
        have h1 : te = 0 := Classical.not_not.1 h1
        subst h1
        have hal : acc.length ≤ 100000 := by have h1 := HL.out; have h2 := HS.out; omega
        have HH0 := Aside0.mk h0
        clear h0 hf
        have HN5 := Aside0.mk (Kd.N_below HN.out HBR5.out)
        have HFK : Aside0 (Kd.FK k36 w5 (fun k => w2.heap.size ≤ k) t [.int .i64 t.f0, .int .i64 t.f1, .int .i64 t.f2, .int .i64 t.f3, .string t.f4, .string t.f5.f0, .string t.f5.f1, .slice A7 t.f5.f2.length c7, .slice A8 t.f5.f3.length c8, .slice A9 t.f6.f0.length c9]) := ⟨Kd.FK_of_M (k36_mkM w5 w2.heap.size (fun k => w2.heap.size ≤ k) t (Kd.R_mono (Kd.R_bound (Kd.R_below H7.out HB5.out)) (fun k hk => hk.2.1)) (Kd.R_mono (Kd.R_bound (Kd.R_below H8.out HB5.out)) (fun k hk => hk.2.1)) (Kd.R_mono (Kd.R_bound (Kd.R_below (Kd.S_R H9.out) HB5.out)) (fun k hk => hk.2.1)))⟩
        have HLT := Aside0.mk (fun k hk => Nat.lt_of_lt_of_le (Kd.N_lt HN.out k hk) HW.out.2.1)
        have HKO : Aside0 (∀ k, w2.heap.size ≤ k → w1.heap.size ≤ k ∧ some k ≠ (Value.slice A5 acc.length c5).ownBlock) := ⟨fun k hk => ⟨by have := HW.out; omega, fun e_ => by have := HLT.out k e_.symm; omega⟩⟩
        have HSZ := Aside0.mk (show w1.heap.size ≤ w5.heap.size by have := HW.out; omega)
        have hx0 := blk_cell HP5.out 0
        have hx1 := blk_cell HP5.out 1
        have hx2 := blk_cell HP5.out 2
        have hx3 := blk_cell HP5.out 3
        have hx4 := blk_cell HP5.out 4
        have hx5 := blk_cell HP5.out 5
        have hx6 := blk_cell HP5.out 6
        have hx7 := blk_cell HP5.out 7
        have hx8 := blk_cell HP5.out 8
        have hx9 := blk_cell HP5.out 9
        go_wp2_with (first | ((with_reducible refine gate_builtin (b := .append) (xs := #[.tmp 41, .tmp 43]) rfl ?_); at_builtin; refine Kd.N_append k36 (w0 := w1) w1.heap.size rfl (.tmp 41) (.tmp 43) 22 36 (.agg #[.int .i64 0, .int .i64 0, .int .i64 0, .int .i64 0, .string ⟨#[]⟩, .string ⟨#[]⟩, .string ⟨#[]⟩, .slice none 0 0, .slice none 0 0, .slice none 0 0]) 152 rfl Try.underlying22 info_step rfl (by decide) (by decide) (.slice A5 acc.length c5) acc t [.int .i64 t.f0, .int .i64 t.f1, .int .i64 t.f2, .int .i64 t.f3, .string t.f4, .string t.f5.f0, .string t.f5.f1, .slice A7 t.f5.f2.length c7, .slice A8 t.f5.f3.length c8, .slice A9 t.f6.f0.length c9] (fun k => w1.heap.size ≤ k) (fun k => w2.heap.size ≤ k) rfl rfl HFK.out HKO.out (fun _ hk => Nat.le_trans HSZ.out hk) HN5.out HB15.out HSZ.out (by omega) ?_; intro v6_ w6_ ho hb hg hat; have HN6 := Aside0.mk ho; have HB6 := Aside0.mk hb; clear ho hb hg hat))
        go_roundg m
        case measure => omega
        case rel =>
          have h4 := HQ.out.2
          have h5 := HH0.out
          have h6 := HK.out
          have h7 := HL.out
          exact ⟨st, acc ++ [t], rfl, ⟨by omega⟩, ⟨by rw [List.length_append, List.length_singleton]; omega⟩, HF, HN6, HB6⟩
end Go.Proofs.Ytocpcnmnhckcpaa.Prt
namespace Go.Proofs.Ytocpcnmnhckcpaa.Prt
open Go.RowKit Go.Proofs.YtocpcnmnhckcpaaW.PrintWords Go.Proofs.YtocpcnmnhckcpaaW.PrintLast Go.Proofs.YtocpcnmnhckcpaaW.PrintMore Go.Proofs.Ytocpcnmnhckcpaa.Num Go.Proofs.Ytocpcnmnhckcpaa.Nam
set_option linter.unusedVariables false
set_option linter.unusedSimpArgs false
set_option maxRecDepth 100000 in
set_option maxHeartbeats 8000000 in
theorem few_callsN (u0 : World) (A : Option Addr) (c : Nat) (l : List S36) (w : World) (hb0 : Below u0.heap.size u0 w) (hC : Kd.C k36 u0 A l.length l) (hc : l.length ≤ c) :
    Calls Try.prog 8 #[.slice A l.length c] w fun e w' => ∃ v, e = .returned v ∧ Kd.N k36 36 w' w.heap.size (fun k => k < u0.heap.size ∨ w.heap.size ≤ k) v (fewL l) ∧ Below w.heap.size w w' := by
  have hm := Kd.C_max hC
  have HC := Aside0.mk hC
  have HB := Aside0.mk (Below.refl w.heap.size w)
  have HB0 := Aside0.mk hb0
  have HS0 := Aside0.mk hb0.size
  clear hC hc hb0
  have hu36 := Try.underlying36
  have hu31 := Try.underlying31
  have hu34 := Try.underlying34
  go_enter Try.func8, Try.ntmps8
  go_upto_region 3 with (first | ((with_reducible refine gate_dst (N := 6) rfl ?_); refine Kd.R_lit k36 (w0 := w) w.heap.size 36 ?hg (N := 6) ?hd (xs := []) (inner := []) (ok := fun _ => True) (okp := fun _ => True) ?hr ?hp (fun _ hk => hk) trivial ?hB ?hS (by simp) ?_; (case hd => rfl); (case hg => rfl); (case hr => first | (go_simp; done) | (go_simp; rfl)); (case hp => exact (Reps.none _ _)); (case hB => exact (by repeat (first | (with_reducible first | exact HB.out | apply below_alloc | apply pw_below_drewN | apply below_drew1) | exact HB.out))); (case hS => exact (below_size (by repeat (first | (with_reducible first | exact HB.out | apply below_alloc | apply pw_below_drewN | apply below_drew1) | exact HB.out)))); intro v3 w3 ho hb hg hat; have n0_ := Aside0.mk (hb); have n1_ := Aside0.mk (ho); clear HB; have HB := n0_; have HO3 := n1_; clear n0_ n1_; clear ho hb hg hat))
  go_loopg [3, 4] l.length (fun gk v3 v4 w' => ∃ i : Nat, v4 = .int .i64 (i : Int) ∧ Aside0 (i + gk = l.length) ∧ Aside0 (i ≤ 30) ∧ Aside0 (Kd.N k36 36 w' w.heap.size (fun k => k < u0.heap.size ∨ w.heap.size ≤ k) v3 ((l.take i).map fewS)) ∧ Aside0 (Below w.heap.size w w'))
  case atStart => exact ⟨0, rfl, ⟨by omega⟩, ⟨by omega⟩, ⟨Kd.R_N (Kd.R_mono (Kd.R_bound HO3.out) (fun k hk => .inr hk.2.1))⟩, HB⟩
  case round =>
    clear HO3 HB
    obtain ⟨i, rfl, HE, H30, HN, HB⟩ := hrel
    have hi30 := H30.out
    by_cases hlt : i < l.length
    case neg =>
      have hb1 : decide ((i : Int) < (l.length : Int)) = false := decide_eq_false (by omega)
      obtain ⟨A3, c3, e3⟩ := Kd.N_slice HN.out
      subst e3
      have hfl : fewL l = (l.take i).map fewS := by
        unfold fewL
        rw [List.take_of_length_le (by omega), List.take_of_length_le (by omega)]
      have H3 := Aside0.mk HN.out
      rw [← hfl] at H3 ⊢
      clear hfl HN
      go_wp2_with fail
      go_ret
      exact ⟨_, rfl, H3.out, HB.out⟩
    have hb1 : decide ((i : Int) < (l.length : Int)) = true := decide_eq_true (by omega)
    by_cases hl2 : i < 30
    case neg =>
      have hb2 : decide ((i : Int) < 30) = false := decide_eq_false (by omega)
      obtain ⟨A3, c3, e3⟩ := Kd.N_slice HN.out
      subst e3
      have hfl : fewL l = (l.take i).map fewS := by
        unfold fewL
        rw [show i = 30 by omega]
      have H3 := Aside0.mk HN.out
      rw [← hfl] at H3 ⊢
      clear hfl HN
      go_wp2_with fail
      go_ret
      exact ⟨_, rfl, H3.out, HB.out⟩
    have hb2 : decide ((i : Int) < 30) = true := decide_eq_true (by omega)
    obtain ⟨ad, A7, c7, A8, c8, A9, c9, e_, hx0, hx1, hx2, hx3, hx4, hx5, hx6, hx7, hx8, hx9, l7, g7, l8, g8, l9, g9⟩ := at_T36 HC.out (i : Int) (by omega) (by omega)
    cases e_
    rw [Int.toNat_natCast] at hx0 hx1 hx2 hx3 hx4 hx5 hx6 hx7 hx8 hx9
    have hfs := few_snoc l i hlt
    obtain ⟨t, ht⟩ : ∃ t, t = rd_T36 l (i : Int) := ⟨_, rfl⟩
    rw [← ht] at hx0 hx1 hx2 hx3 hx4 hx5 hx6 hx7 hx8 hx9 l7 g7 l8 g8 l9 g9 hfs
    have HSC := Aside0.mk (StC.mk (w := u0) (t := t) g7 l7 g8 l8 g9 l9)
    have HFS := Aside0.mk hfs
    obtain ⟨acc, hacc⟩ : ∃ acc, acc = (l.take i).map fewS := ⟨_, rfl⟩
    have hal : acc.length ≤ 30 := by rw [hacc, List.length_map, List.length_take]; omega
    rw [← hacc] at HN HFS
    obtain ⟨A3, c3, e3⟩ := Kd.N_slice HN.out
    subst e3
    clear hacc
    obtain ⟨x0, x1, x2, x3, st, ⟨xs, xt, tg, fl⟩, ⟨q⟩⟩ := t
    simp only at hx0 hx1 hx2 hx3 hx4 hx5 hx6 hx7 hx8 hx9 l7 l8 l9
    have hib : (i : Int) * 10 ≤ 300 := by omega
    clear ht hfs g7 g8 g9
    replace hx0 := pw_cell_below (HB0.out.trans (HB.out.mono HS0.out)) hx0
    replace hx1 := pw_cell_below (HB0.out.trans (HB.out.mono HS0.out)) hx1
    replace hx2 := pw_cell_below (HB0.out.trans (HB.out.mono HS0.out)) hx2
    replace hx3 := pw_cell_below (HB0.out.trans (HB.out.mono HS0.out)) hx3
    replace hx4 := pw_cell_below (HB0.out.trans (HB.out.mono HS0.out)) hx4
    replace hx5 := pw_cell_below (HB0.out.trans (HB.out.mono HS0.out)) hx5
    replace hx6 := pw_cell_below (HB0.out.trans (HB.out.mono HS0.out)) hx6
    replace hx7 := pw_cell_below (HB0.out.trans (HB.out.mono HS0.out)) hx7
    replace hx8 := pw_cell_below (HB0.out.trans (HB.out.mono HS0.out)) hx8
    replace hx9 := pw_cell_below (HB0.out.trans (HB.out.mono HS0.out)) hx9
    go_upto_region 6 with (first | ((with_reducible refine gate_dst (N := 5) rfl ?_); (try (refine gate_guard (by rfl) ?_; dsimp only)); refine box_event ?hg (N := 5) ?hd (cs := #[.int .i64 0, .int .i64 0, .int .i64 0, .int .i64 0, .string ⟨#[]⟩, .string ⟨#[]⟩, .string ⟨#[]⟩, .slice none 0 0, .slice none 0 0, .slice none 0 0]) (t := 36) ?hr ?_; (case hd => rfl); (case hg => rfl); (case hr => first | (go_simp; done) | (go_simp; rfl)); intro T hg_ w3 hbox_ hb_; have HX := Aside0.mk hbox_; have HXN := Aside0.mk hg_; have HXB3 := Aside0.mk hb_; clear hbox_ hg_ hb_; have hz0 := blk_cell HX.out 0; have hf0 := blk_frozen HX.out 0; have hz1 := blk_cell HX.out 1; have hf1 := blk_frozen HX.out 1; have hz2 := blk_cell HX.out 2; have hf2 := blk_frozen HX.out 2; have hz3 := blk_cell HX.out 3; have hf3 := blk_frozen HX.out 3; have hz4 := blk_cell HX.out 4; have hf4 := blk_frozen HX.out 4; have hz5 := blk_cell HX.out 5; have hf5 := blk_frozen HX.out 5; have hz6 := blk_cell HX.out 6; have hf6 := blk_frozen HX.out 6; have hz7 := blk_cell HX.out 7; have hf7 := blk_frozen HX.out 7; have hz8 := blk_cell HX.out 8; have hf8 := blk_frozen HX.out 8; have hz9 := blk_cell HX.out 9; have hf9 := blk_frozen HX.out 9))
    have HTW := Aside0.mk (show wr.heap.size ≤ T by rw [HXN.out]; exact Nat.le_refl _)
    have n1_ := Aside0.mk (blk_put (cs' := #[.int .i64 x0, .int .i64 x1, .int .i64 x2, .int .i64 x3, .string st, .string xs, .string xt, .slice A7 tg.length c7, .slice A8 fl.length c8, .slice A9 q.length c9]) (blk_put (cs' := #[.int .i64 x0, .int .i64 x1, .int .i64 x2, .int .i64 x3, .string st, .string xs, .string xt, .slice A7 tg.length c7, .slice A8 fl.length c8, .slice none 0 0]) (blk_put (cs' := #[.int .i64 x0, .int .i64 x1, .int .i64 x2, .int .i64 x3, .string st, .string xs, .string xt, .slice A7 tg.length c7, .slice none 0 0, .slice none 0 0]) (blk_put (cs' := #[.int .i64 x0, .int .i64 x1, .int .i64 x2, .int .i64 x3, .string st, .string xs, .string xt, .slice none 0 0, .slice none 0 0, .slice none 0 0]) (blk_put (cs' := #[.int .i64 x0, .int .i64 x1, .int .i64 x2, .int .i64 x3, .string st, .string xs, .string ⟨#[]⟩, .slice none 0 0, .slice none 0 0, .slice none 0 0]) (blk_put (cs' := #[.int .i64 x0, .int .i64 x1, .int .i64 x2, .int .i64 x3, .string st, .string ⟨#[]⟩, .string ⟨#[]⟩, .slice none 0 0, .slice none 0 0, .slice none 0 0]) (blk_put (cs' := #[.int .i64 x0, .int .i64 x1, .int .i64 x2, .int .i64 x3, .string ⟨#[]⟩, .string ⟨#[]⟩, .string ⟨#[]⟩, .slice none 0 0, .slice none 0 0, .slice none 0 0]) (blk_put (cs' := #[.int .i64 x0, .int .i64 x1, .int .i64 x2, .int .i64 0, .string ⟨#[]⟩, .string ⟨#[]⟩, .string ⟨#[]⟩, .slice none 0 0, .slice none 0 0, .slice none 0 0]) (blk_put (cs' := #[.int .i64 x0, .int .i64 x1, .int .i64 0, .int .i64 0, .string ⟨#[]⟩, .string ⟨#[]⟩, .string ⟨#[]⟩, .slice none 0 0, .slice none 0 0, .slice none 0 0]) (blk_put (cs' := #[.int .i64 x0, .int .i64 0, .int .i64 0, .int .i64 0, .string ⟨#[]⟩, .string ⟨#[]⟩, .string ⟨#[]⟩, .slice none 0 0, .slice none 0 0, .slice none 0 0]) HX.out 0 (.int .i64 x0) rfl) 1 (.int .i64 x1) rfl) 2 (.int .i64 x2) rfl) 3 (.int .i64 x3) rfl) 4 (.string st) rfl) 5 (.string xs) rfl) 6 (.string xt) rfl) 7 (.slice A7 tg.length c7) rfl) 8 (.slice A8 fl.length c8) rfl) 9 (.slice A9 q.length c9) rfl)
    have n3_ := Aside0.mk ((((((((((HXB3.out.setCell (p := ⟨T, 0, none⟩) HTW.out (.int .i64 x0)).setCell (p := ⟨T, 1, none⟩) HTW.out (.int .i64 x1)).setCell (p := ⟨T, 2, none⟩) HTW.out (.int .i64 x2)).setCell (p := ⟨T, 3, none⟩) HTW.out (.int .i64 x3)).setCell (p := ⟨T, 4, none⟩) HTW.out (.string st)).setCell (p := ⟨T, 5, none⟩) HTW.out (.string xs)).setCell (p := ⟨T, 6, none⟩) HTW.out (.string xt)).setCell (p := ⟨T, 7, none⟩) HTW.out (.slice A7 tg.length c7)).setCell (p := ⟨T, 8, none⟩) HTW.out (.slice A8 fl.length c8)).setCell (p := ⟨T, 9, none⟩) HTW.out (.slice A9 q.length c9))
    clear HX HXN HXB3 hx0 hx1 hx2 hx3 hx4 hx5 hx6 hx7 hx8 hx9 hz0 hz1 hz2 hz3 hz4 hz5 hz6 hz7 hz8 hz9 hf0 hf1 hf2 hf3 hf4 hf5 hf6 hf7 hf8 hf9
    generalize ((((((((((w3.setCell ⟨T, 0, none⟩ (.int .i64 x0)).setCell ⟨T, 1, none⟩ (.int .i64 x1)).setCell ⟨T, 2, none⟩ (.int .i64 x2)).setCell ⟨T, 3, none⟩ (.int .i64 x3)).setCell ⟨T, 4, none⟩ (.string st)).setCell ⟨T, 5, none⟩ (.string xs)).setCell ⟨T, 6, none⟩ (.string xt)).setCell ⟨T, 7, none⟩ (.slice A7 tg.length c7)).setCell ⟨T, 8, none⟩ (.slice A8 fl.length c8)).setCell ⟨T, 9, none⟩ (.slice A9 q.length c9)) = w4 at n1_ n3_ ⊢
    have hc_ := blk_cell n1_.out 7
    have hf_ := blk_frozen n1_.out 7
    go_upto_if 25 with (fail)
    obtain ⟨n7, hn7⟩ : ∃ n, n = min 10 tg.length := ⟨_, rfl⟩
    go_cut [] (fun wc => Aside0 (wc.heap[T]? = some (.cells #[.int .i64 x0, .int .i64 x1, .int .i64 x2, .int .i64 x3, .string st, .string xs, .string xt, .slice A7 n7 c7, .slice A8 fl.length c8, .slice A9 q.length c9] 36 (0, 0))) ∧ Aside0 (Below wr.heap.size wr wc))
    case first =>
      by_cases hb_ : 10 < tg.length
      · have e : n7 = 10 := by omega
        clear hn7
        subst e
        have hcap : 10 ≤ c7 := by omega
        go_wp2
        go_meet
        case rel => exact ⟨⟨blk_put (cs' := #[.int .i64 x0, .int .i64 x1, .int .i64 x2, .int .i64 x3, .string st, .string xs, .string xt, .slice A7 10 c7, .slice A8 fl.length c8, .slice A9 q.length c9]) n1_.out 7 (.slice A7 10 c7) rfl⟩, ⟨n3_.out.setCell (p := ⟨T, 7, none⟩) HTW.out (.slice A7 10 c7)⟩⟩
      · have e : n7 = tg.length := by omega
        clear hn7
        subst e
        go_wp2
        go_meet
        case rel => exact ⟨n1_, n3_⟩
    case rest =>
    obtain ⟨r1_, r3_⟩ := hcut
    clear n1_ n3_ hc_ hf_
    have n1_ := r1_
    have n3_ := r3_
    clear r1_ r3_
    have hc_ := blk_cell n1_.out 8
    have hf_ := blk_frozen n1_.out 8
    go_upto_if 36 with (fail)
    obtain ⟨n8, hn8⟩ : ∃ n, n = min 10 fl.length := ⟨_, rfl⟩
    go_cut [] (fun wc => Aside0 (wc.heap[T]? = some (.cells #[.int .i64 x0, .int .i64 x1, .int .i64 x2, .int .i64 x3, .string st, .string xs, .string xt, .slice A7 n7 c7, .slice A8 n8 c8, .slice A9 q.length c9] 36 (0, 0))) ∧ Aside0 (Below wr.heap.size wr wc))
    case first =>
      by_cases hb_ : 10 < fl.length
      · have e : n8 = 10 := by omega
        clear hn8
        subst e
        have hcap : 10 ≤ c8 := by omega
        go_wp2
        go_meet
        case rel => exact ⟨⟨blk_put (cs' := #[.int .i64 x0, .int .i64 x1, .int .i64 x2, .int .i64 x3, .string st, .string xs, .string xt, .slice A7 n7 c7, .slice A8 10 c8, .slice A9 q.length c9]) n1_.out 8 (.slice A8 10 c8) rfl⟩, ⟨n3_.out.setCell (p := ⟨T, 8, none⟩) HTW.out (.slice A8 10 c8)⟩⟩
      · have e : n8 = fl.length := by omega
        clear hn8
        subst e
        go_wp2
        go_meet
        case rel => exact ⟨n1_, n3_⟩
    case rest =>
    obtain ⟨r1_, r3_⟩ := hcut
    clear n1_ n3_ hc_ hf_
    have n1_ := r1_
    have n3_ := r3_
    clear r1_ r3_
    have hc_ := blk_cell n1_.out 9
    have hf_ := blk_frozen n1_.out 9
    go_upto_if 47 with (fail)
    obtain ⟨n9, hn9⟩ : ∃ n, n = min 8 q.length := ⟨_, rfl⟩
    go_cut [] (fun wc => Aside0 (wc.heap[T]? = some (.cells #[.int .i64 x0, .int .i64 x1, .int .i64 x2, .int .i64 x3, .string st, .string xs, .string xt, .slice A7 n7 c7, .slice A8 n8 c8, .slice A9 n9 c9] 36 (0, 0))) ∧ Aside0 (Below wr.heap.size wr wc))
    case first =>
      by_cases hb_ : 8 < q.length
      · have e : n9 = 8 := by omega
        clear hn9
        subst e
        have hcap : 8 ≤ c9 := by omega
        go_wp2
        go_meet
        case rel => exact ⟨⟨blk_put (cs' := #[.int .i64 x0, .int .i64 x1, .int .i64 x2, .int .i64 x3, .string st, .string xs, .string xt, .slice A7 n7 c7, .slice A8 n8 c8, .slice A9 8 c9]) n1_.out 9 (.slice A9 8 c9) rfl⟩, ⟨n3_.out.setCell (p := ⟨T, 9, none⟩) HTW.out (.slice A9 8 c9)⟩⟩
      · have e : n9 = q.length := by omega
        clear hn9
        subst e
        go_wp2
        go_meet
        case rel => exact ⟨n1_, n3_⟩
    case rest =>
    obtain ⟨r1_, r3_⟩ := hcut
    clear n1_ n3_ hc_ hf_
    have n1_ := r1_
    have n3_ := r3_
    clear r1_ r3_
    have hc_ := blk_cell n1_.out 4
    have hf_ := blk_frozen n1_.out 4
    go_upto_if 57 with (fail)
    obtain ⟨s2, hs2⟩ : ∃ n, n = st.extract 0 (min 100 st.size) := ⟨_, rfl⟩
    go_cut [] (fun wc => Aside0 (wc.heap[T]? = some (.cells #[.int .i64 x0, .int .i64 x1, .int .i64 x2, .int .i64 x3, .string s2, .string xs, .string xt, .slice A7 n7 c7, .slice A8 n8 c8, .slice A9 n9 c9] 36 (0, 0))) ∧ Aside0 (Below wr.heap.size wr wc))
    case first =>
      by_cases hb_ : 100 < st.size
      · rw [Nat.min_eq_left (by omega)] at hs2
        have HT := Aside0.mk hs2
        clear hs2
        go_wp2
        go_meet
        case rel => exact ⟨⟨by rw [HT.out]; exact blk_put (cs' := #[.int .i64 x0, .int .i64 x1, .int .i64 x2, .int .i64 x3, .string (st.extract 0 100), .string xs, .string xt, .slice A7 n7 c7, .slice A8 n8 c8, .slice A9 n9 c9]) n1_.out 4 (.string (st.extract 0 100)) rfl⟩, ⟨n3_.out.setCell (p := ⟨T, 4, none⟩) HTW.out (.string (st.extract 0 100))⟩⟩
      · rw [Nat.min_eq_right (by omega), ByteArray.extract_zero_size] at hs2
        subst hs2
        go_wp2
        go_meet
        case rel => exact ⟨n1_, n3_⟩
    case rest =>
    obtain ⟨r1_, r3_⟩ := hcut
    clear n1_ n3_ hc_ hf_
    have n1_ := r1_
    have n3_ := r3_
    clear r1_ r3_
    have HBC := Aside0.mk (HB.out.trans (n3_.out.mono HB.out.size))
    have HNC := Aside0.mk (Kd.N_below HN.out n3_.out)
    have HFK := Aside0.mk (FK_step36 HSC.out.few (HB0.out.trans (HBC.out.mono HS0.out)))
    simp only [fewS, List.length_take] at HFK
    rw [← hn7, ← hn8, ← hn9, ← hs2] at HFK
    have HFS2 : Aside0 ((l.take (i + 1)).map fewS = acc ++ [⟨x0, x1, x2, x3, s2, ⟨xs, xt, tg.take 10, fl.take 10⟩, ⟨q.take 8⟩⟩]) := ⟨by rw [hs2]; exact HFS.out⟩
    have HOK : Aside0 (∀ k, k < u0.heap.size → (k < u0.heap.size ∨ w.heap.size ≤ k) ∧ some k ≠ (Value.slice A3 acc.length c3).ownBlock) := ⟨fun k hk => ⟨.inl hk, fun e_ => by have := Kd.N_base HN.out k e_.symm; have := HS0.out; omega⟩⟩
    have HSZ := Aside0.mk HBC.out.size
    clear HN HFS HSC HB n3_ hn7 hn8 hn9 hs2
    have hx0 := blk_cell n1_.out 0
    have hx1 := blk_cell n1_.out 1
    have hx2 := blk_cell n1_.out 2
    have hx3 := blk_cell n1_.out 3
    have hx4 := blk_cell n1_.out 4
    have hx5 := blk_cell n1_.out 5
    have hx6 := blk_cell n1_.out 6
    have hx7 := blk_cell n1_.out 7
    have hx8 := blk_cell n1_.out 8
    have hx9 := blk_cell n1_.out 9
    clear n1_
    go_wp2_with (first | ((with_reducible refine gate_builtin (b := .append) (xs := #[.tmp 62, .tmp 64]) rfl ?_); at_builtin; refine Kd.N_append k36 (w0 := w) w.heap.size rfl (.tmp 62) (.tmp 64) 22 36 (.agg #[.int .i64 0, .int .i64 0, .int .i64 0, .int .i64 0, .string ⟨#[]⟩, .string ⟨#[]⟩, .string ⟨#[]⟩, .slice none 0 0, .slice none 0 0, .slice none 0 0]) 152 rfl Try.underlying22 info_step rfl (by decide) (by decide) (.slice A3 acc.length c3) acc ⟨x0, x1, x2, x3, s2, ⟨xs, xt, tg.take 10, fl.take 10⟩, ⟨q.take 8⟩⟩ [.int .i64 x0, .int .i64 x1, .int .i64 x2, .int .i64 x3, .string s2, .string xs, .string xt, .slice A7 n7 c7, .slice A8 n8 c8, .slice A9 n9 c9] (fun k => k < u0.heap.size ∨ w.heap.size ≤ k) (fun k => k < u0.heap.size) rfl rfl HFK.out HOK.out (fun _ hk => .inr (Nat.le_trans HSZ.out hk)) HNC.out HBC.out HSZ.out (by omega) ?_; intro v6_ w6_ ho hb hg hat; have HN6 := Aside0.mk ho; have HB6 := Aside0.mk hb; clear ho hb hg hat))
    rw [← HFS2.out] at HN6
    clear HNC HBC HFK HOK HSZ HFS2 hx0 hx1 hx2 hx3 hx4 hx5 hx6 hx7 hx8 hx9
    go_wp2_with fail
    go_roundg (l.length - (i + 1))
    case measure => have := HE.out; omega
    case rel => exact ⟨i + 1, by go_num, ⟨by have := HE.out; omega⟩, ⟨by omega⟩, HN6, HB6⟩
end Go.Proofs.Ytocpcnmnhckcpaa.Prt
namespace Go.Proofs.Ytocpcnmnhckcpaa.Prt
open Go.RowKit Go.Proofs.YtocpcnmnhckcpaaW.PrintWords Go.Proofs.YtocpcnmnhckcpaaW.PrintLast Go.Proofs.YtocpcnmnhckcpaaW.PrintMore Go.Proofs.Ytocpcnmnhckcpaa.Num Go.Proofs.Ytocpcnmnhckcpaa.Nam
set_option linter.unusedVariables false
set_option linter.unusedSimpArgs false
/-- Steps that can be put. -/
def okB (t : S36) : Bool := decide ((putS t).2 = 0)
theorem okB_ok {t : S36} (hf : FitS t) (h : okB t = true) : OkS t := hf.ok (of_decide_eq_true h)
theorem fewL_len (l : List S36) : (fewL l).length ≤ 30 := by
  unfold fewL
  rw [List.length_map, List.length_take]; omega
theorem fewL_mem {l : List S36} {t : S36} (h : t ∈ fewL l) : ∃ x ∈ l, t = fewS x := by
  unfold fewL at h
  obtain ⟨x, hx, rfl⟩ := List.mem_map.1 h
  exact ⟨x, List.mem_of_mem_take hx, rfl⟩
theorem fewL_fit {l : List S36} (h : ∀ x ∈ l, InS x) {t : S36} (ht : t ∈ fewL l) : FitS t ∧ t.f4.size ≤ 100 := by
  obtain ⟨x, hx, rfl⟩ := fewL_mem ht
  exact fewS_fit (h x hx)
theorem rd_mem {l : List S36} {i : Nat} (h : i < l.length) : rd_T36 l (i : Int) ∈ l := rdS_mem h
/-- Element i of a row of steps: its cells, what they lead to, and where that lies. -/
theorem atN {w : World} {base : Nat} {ok : Nat → Prop} {A : Option Addr} {n c : Nat} {xs : List S36} (h : Kd.N k36 36 w base ok (.slice A n c) xs) (i : Int) (h0 : 0 ≤ i) (h1 : i < n) :
    ∃ ad A7 c7 A8 c8 A9 c9, A = some ad ∧ w.cell? (ad.add (i.toNat * 10)) = some (.int .i64 (rd_T36 xs i).f0) ∧ w.cell? ⟨(ad.add (i.toNat * 10)).block, (ad.add (i.toNat * 10)).off + 1, none⟩ = some (.int .i64 (rd_T36 xs i).f1) ∧ w.cell? ⟨(ad.add (i.toNat * 10)).block, (ad.add (i.toNat * 10)).off + 2, none⟩ = some (.int .i64 (rd_T36 xs i).f2) ∧ w.cell? ⟨(ad.add (i.toNat * 10)).block, (ad.add (i.toNat * 10)).off + 3, none⟩ = some (.int .i64 (rd_T36 xs i).f3) ∧ w.cell? ⟨(ad.add (i.toNat * 10)).block, (ad.add (i.toNat * 10)).off + 4, none⟩ = some (.string (rd_T36 xs i).f4) ∧ w.cell? ⟨(ad.add (i.toNat * 10)).block, (ad.add (i.toNat * 10)).off + 5, none⟩ = some (.string (rd_T36 xs i).f5.f0) ∧ w.cell? ⟨(ad.add (i.toNat * 10)).block, (ad.add (i.toNat * 10)).off + 6, none⟩ = some (.string (rd_T36 xs i).f5.f1) ∧ w.cell? ⟨(ad.add (i.toNat * 10)).block, (ad.add (i.toNat * 10)).off + 7, none⟩ = some (.slice A7 (rd_T36 xs i).f5.f2.length c7) ∧ w.cell? ⟨(ad.add (i.toNat * 10)).block, (ad.add (i.toNat * 10)).off + 8, none⟩ = some (.slice A8 (rd_T36 xs i).f5.f3.length c8) ∧ w.cell? ⟨(ad.add (i.toNat * 10)).block, (ad.add (i.toNat * 10)).off + 9, none⟩ = some (.slice A9 (rd_T36 xs i).f6.f0.length c9) ∧ StC w (rd_T36 xs i) A7 c7 A8 c8 A9 c9 ∧ Kd.FK k36 w ok (rd_T36 xs i) [.int .i64 (rd_T36 xs i).f0, .int .i64 (rd_T36 xs i).f1, .int .i64 (rd_T36 xs i).f2, .int .i64 (rd_T36 xs i).f3, .string (rd_T36 xs i).f4, .string (rd_T36 xs i).f5.f0, .string (rd_T36 xs i).f5.f1, .slice A7 (rd_T36 xs i).f5.f2.length c7, .slice A8 (rd_T36 xs i).f5.f3.length c8, .slice A9 (rd_T36 xs i).f6.f0.length c9] := by
  obtain ⟨ad, c, e, _, hK, hc0, _⟩ := Kd.F_get (Kd.N_F h) z36 i h0 h1
  have hc : ∀ j u, c[j]? = some u → w.cell? (ad.add (i.toNat * 10 + j)) = some u := hc0
  obtain ⟨A7, c7, A8, c8, A9, c9, rfl, l7, g7, l8, g8, l9, g9⟩ := k36_open (Kd.FK_now hK)
  exact ⟨ad, A7, c7, A8, c8, A9, c9, e, hc 0 _ rfl, by rw [← add_field _ _ 1 (by omega)]; exact hc 1 _ rfl, by rw [← add_field _ _ 2 (by omega)]; exact hc 2 _ rfl, by rw [← add_field _ _ 3 (by omega)]; exact hc 3 _ rfl, by rw [← add_field _ _ 4 (by omega)]; exact hc 4 _ rfl, by rw [← add_field _ _ 5 (by omega)]; exact hc 5 _ rfl, by rw [← add_field _ _ 6 (by omega)]; exact hc 6 _ rfl, by rw [← add_field _ _ 7 (by omega)]; exact hc 7 _ rfl, by rw [← add_field _ _ 8 (by omega)]; exact hc 8 _ rfl, by rw [← add_field _ _ 9 (by omega)]; exact hc 9 _ rfl, ⟨g7, l7, g8, l8, g9, l9⟩, hK⟩
theorem lens_few {w : World} {A : Option Addr} {l : List S36} (hC : Kd.C k36 w A l.length l) (h : ∀ t ∈ l, ∃ x, t = fewS x) : ∀ t ∈ l, LenS t := fun t ht => by
  obtain ⟨i, hi, rfl⟩ := List.getElem_of_mem ht
  obtain ⟨x, hx⟩ := h _ ht
  obtain ⟨ad, c, e, _, hK, hc0⟩ := Kd.C_get hC z36 (i : Int) (by omega) (by omega)
  rw [Int.toNat_natCast, List.getD_eq_getElem?_getD, List.getElem?_eq_getElem hi, Option.getD_some, hx] at hK
  obtain ⟨A7, c7, A8, c8, A9, c9, _, _, _, _, _, _, g9⟩ := k36_open hK
  rw [hx]
  exact fewS_len g9
theorem parseS_own {l : List S36} (h : ∀ t ∈ l, OkS t) (hl : l.length ≤ 2048) (hb : (printL l).length ≤ 65536) : parseS (bytesOf (strOfNums (printL l))) = (l, 0, 0) := by
  rw [bytesOf_strOfNums (printL_bytes _)]
  unfold parseS
  rw [count_print, if_neg (by omega)]
  exact parseF_all l h _ (Nat.le_trans (printL_len l) (Nat.le_succ _))
end Go.Proofs.Ytocpcnmnhckcpaa.Prt
namespace Go.Proofs.Ytocpcnmnhckcpaa.Prt
open Go.RowKit Go.Proofs.YtocpcnmnhckcpaaW.PrintWords Go.Proofs.YtocpcnmnhckcpaaW.PrintLast Go.Proofs.YtocpcnmnhckcpaaW.PrintMore Go.Proofs.Ytocpcnmnhckcpaa.Num Go.Proofs.Ytocpcnmnhckcpaa.Nam
set_option linter.unusedVariables false
set_option linter.unusedSimpArgs false
theorem printL_append (a b : List S36) : printL (a ++ b) = printL a ++ printL b := List.flatMap_append
theorem printL_one (t : S36) : printL [t] = lineT t := by unfold printL; rw [List.flatMap_singleton]
theorem printS_yes {t : S36} (h : (putS t).2 = 0) : printS [t] = (lineT t, 0) := by
  unfold printS
  rw [if_neg (by simp), if_neg (fun hf => hf (firstS_zero.2 (fun x hx => by rw [List.mem_singleton.1 hx]; exact h))), printL_one]
theorem printS_no {t : S36} (h : (putS t).2 ≠ 0) : printS [t] = ([], (putS t).2) := by
  have e : firstS [t] = (putS t).2 := by unfold firstS; rw [if_neg h]
  unfold printS
  rw [if_neg (by simp), e, if_pos h]
theorem join_parse {a b : List S36} (h : ∀ t ∈ a ++ b, OkS t) (hl : (a ++ b).length ≤ 2048) (hs : (printL a).length + (printL b).length ≤ 65536) :
    parseS (bytesOf (strOfNums (printL a) ++ strOfNums (printL b))) = (a ++ b, 0, 0) := by
  rw [← str_append, ← printL_append]
  exact parseS_own h hl (by rw [printL_append, List.length_append]; exact hs)
theorem bad_line : lineS [48, 103] = (z36, 240) := rfl
theorem gap_parse {a b : List S36} (h : ∀ t ∈ a, OkS t) (hl : a.length + b.length ≤ 2047) (hs : (printL a).length + (printL b).length ≤ 65530) :
    parseS (bytesOf (strOfNums (printL a) ++ (⟨#[48, 103, 10]⟩ : ByteArray) ++ strOfNums (printL b))) = ([], (a.length : Int) + 1, 240) := by
  have e : strOfNums (printL a) ++ (⟨#[48, 103, 10]⟩ : ByteArray) ++ strOfNums (printL b) = strOfNums (printL a ++ ([48, 103, 10] ++ printL b)) := by
    rw [str_append, str_append, ByteArray.append_assoc]; rfl
  rw [e, bytesOf_strOfNums (isBytes_append.2 ⟨printL_bytes _, isBytes_append.2 ⟨fun c hc => by simp only [List.mem_cons, List.not_mem_nil, or_false] at hc; omega, printL_bytes _⟩⟩)]
  unfold parseS
  have hc : (printL a ++ ([48, 103, 10] ++ printL b)).count 10 = a.length + (1 + b.length) := by
    rw [List.count_append, List.count_append, count_print, count_print]; rfl
  have hlen : (printL a ++ ([48, 103, 10] ++ printL b)).length = (printL a).length + (3 + (printL b).length) := by
    rw [List.length_append, List.length_append]; rfl
  rw [hc, hlen, if_neg (by omega)]
  have hla := printL_len a
  obtain ⟨n, hn⟩ : ∃ n, (printL a).length + (3 + (printL b).length) + 1 = (n + 1) + a.length := ⟨(printL a).length + (3 + (printL b).length) - a.length, by omega⟩
  rw [hn, parseF_print a (n + 1) _ [] h, List.nil_append, parseF]
  have h1 : headN ([48, 103, 10] ++ printL b) = [48, 103] := headN_line (a := [48, 103]) (by decide) (printL b)
  rw [if_neg (by simp), h1, bad_line, if_pos (.inr (by decide))]
end Go.Proofs.Ytocpcnmnhckcpaa.Prt
namespace Go.Proofs.Ytocpcnmnhckcpaa.Gen
open Go.RowKit Go.Proofs.YtocpcnmnhckcpaaW.PrintWords Go.Proofs.YtocpcnmnhckcpaaW.PrintLast Go.Proofs.YtocpcnmnhckcpaaW.PrintMore
set_option linter.unusedVariables false
set_option linter.unusedSimpArgs false

theorem list_of {α : Type} {p : Nat → α → Prop} : ∀ n : Nat, (∀ i, i < n → ∃ x, p i x) → ∃ xs : List α, xs.length = n ∧ ∀ i x, xs[i]? = some x → p i x := by
  intro n
  induction n with
  | zero => exact fun _ => ⟨[], rfl, fun i x h => by simp at h⟩
  | succ n ih =>
    intro h
    obtain ⟨xs, h1, h2⟩ := ih (fun i hi => h i (by omega))
    obtain ⟨y, hy⟩ := h n (by omega)
    refine ⟨xs ++ [y], by simp [h1], fun i x hx => ?_⟩
    rcases Nat.lt_or_ge i xs.length with hi | hi
    · rw [List.getElem?_append_left hi] at hx; exact h2 i x hx
    · have hl := (List.getElem?_eq_some_iff.1 hx).1
      rw [List.length_append, List.length_singleton] at hl
      obtain rfl : i = xs.length := by omega
      rw [List.getElem?_append_right hi] at hx
      simp at hx
      subst hx
      rw [h1]; exact hy
/-- Whatever reads as data of type t stands as an x of kind k that is ok. -/
def Opens {α : Type} (P : Program) (t : TypeId) (k : Kd α) (ok : α → Prop) : Prop :=
  ∀ {H : Type} (enc : TypeId × Value → H) (w : World) (base : Nat) (spare : Nat → Bool) (held : Bool) (fuel : Nat) (cs : List Value) (y : DataW H × List MemPlace), DataW.trod enc P w base spare held fuel t cs = some y → ∃ x, k.K w x cs ∧ ok x
section
variable {P : Program} {t e : TypeId}
theorem opens_int {k : IntKind} (ht : P.underlying t = some (.int k)) : Opens P t (Kd.int k) (fun n => (Lit.int k n).wf = true) := by
  intro H enc w base spare held fuel cs y h
  obtain ⟨n, rfl, _, h2⟩ := DataW.trod_int ht h
  exact ⟨n, rfl, h2⟩
theorem opens_string (ht : P.underlying t = some .string) : Opens P t Kd.string (fun s => s.size ≤ maxLen) := by
  intro H enc w base spare held fuel cs y h
  obtain ⟨s, rfl, _, h2⟩ := DataW.trod_string ht h
  exact ⟨s, rfl, h2⟩
theorem opens_slice {α : Type} {k : Kd α} {ok : α → Prop} (ht : P.underlying t = some (.slice e)) (hc : P.cellsOf e = k.sz) (he : Opens P e k ok) : Opens P t (Kd.slice e k) (fun xs => ∀ x ∈ xs, ok x) := by
  intro H enc w base spare held fuel cs y h
  rcases DataW.trod_slice ht h with ⟨rfl, _⟩ | ⟨a, len, cap, elems, rest, n, _, rfl, _, hb, hl, hm, hlen, hel, _, _⟩
  · exact ⟨[], ⟨none, 0, rfl, Nat.le_refl _, Kd.C_nil _ _⟩, fun x hx => by simp at hx⟩
  · have key : ∀ i, i < len → ∃ x, (∃ c, c.length = k.sz ∧ k.K w x c ∧ ∀ j u, c[j]? = some u → w.cell? (a.add (i * k.sz + j)) = some u) ∧ ok x := by
      intro i hi
      have h1 := hel i hi
      have h2 : elems[i]? = some elems[i] := List.getElem?_eq_getElem (by omega)
      rw [h2] at h1
      obtain ⟨c, hcells, htrod⟩ := Option.bind_eq_some_iff.1 h1
      obtain ⟨x, hx, hok⟩ := he enc w base spare held n c _ htrod
      obtain ⟨_, hcl, hcc⟩ := World.cells?_some hcells
      refine ⟨x, ⟨c, by rw [hcl, hc], hx, fun j u hj => ?_⟩, hok⟩
      have hjl : j < P.cellsOf e := by rw [← hcl]; exact (List.getElem?_eq_some_iff.1 hj).1
      have h3 := hcc j hjl
      rw [hj, hc] at h3
      rw [← h3]
      congr 1
      exact (Go.Deep.add_add a (i * k.sz) j).symm
    obtain ⟨xs, hxl, hx⟩ := list_of len key
    refine ⟨xs, ⟨some a, cap, by rw [hxl], by rw [hxl]; exact hl, hxl ▸ rfl, by rw [hxl]; simp only [maxLen] at hm; omega, fun _ => ⟨a, rfl, fun j p hp => (hx j p hp).1⟩⟩, fun x hxm => ?_⟩
    obtain ⟨j, hj⟩ := List.mem_iff_getElem?.1 hxm
    exact (hx j x hj).2
end
end Go.Proofs.Ytocpcnmnhckcpaa.Gen
namespace Go.Proofs.Ytocpcnmnhckcpaa.Gen
open Go.RowKit Go.Proofs.YtocpcnmnhckcpaaW.PrintWords Go.Proofs.YtocpcnmnhckcpaaW.PrintLast Go.Proofs.YtocpcnmnhckcpaaW.PrintMore Go.Proofs.Ytocpcnmnhckcpaa.Prt
set_option linter.unusedVariables false
set_option linter.unusedSimpArgs false
theorem opens_str : Opens Try.prog 9 Kd.string (fun s => s.size ≤ maxLen) := opens_string Try.underlying9
theorem opens_i64 : Opens Try.prog 3 (Kd.int .i64) (fun n => (Lit.int .i64 n).wf = true) := opens_int Try.underlying3
theorem opens_strs : Opens Try.prog 28 (Kd.slice 9 Kd.string) (fun xs => ∀ x ∈ xs, x.size ≤ maxLen) := opens_slice Try.underlying28 (by kernel_rfl) opens_str
end Go.Proofs.Ytocpcnmnhckcpaa.Gen
namespace Go.Proofs.Ytocpcnmnhckcpaa.Gen
open Go.RowKit Go.Proofs.YtocpcnmnhckcpaaW.PrintWords Go.Proofs.YtocpcnmnhckcpaaW.PrintLast Go.Proofs.YtocpcnmnhckcpaaW.PrintMore Go.Proofs.Ytocpcnmnhckcpaa.Prt
set_option linter.unusedVariables false
set_option linter.unusedSimpArgs false
theorem opens_field : Opens Try.prog 90 k90 (fun x => x.f0.size ≤ maxLen ∧ (Lit.int .i64 x.f1).wf = true) := by
  intro H enc w base spare held fuel cs y h
  obtain ⟨xs, n, _, _, hl, hlen, hf⟩ := DataW.trod_struct Try.underlying90 h
  rw [show Try.prog.cellsOf 90 = 2 from by kernel_rfl] at hl
  have hlen' : xs.length = 2 := hlen
  have h0 := hf 0 _ rfl
  rw [List.getElem?_eq_getElem (l := xs) (i := 0) (by omega)] at h0
  replace h0 : DataW.trod enc Try.prog w base spare held n 9 ((cs.drop 0).take (Try.prog.cellsOf 9)) = some xs[0] := h0
  rw [show Try.prog.cellsOf 9 = 1 from by kernel_rfl] at h0
  obtain ⟨x0, K0, o0⟩ := opens_str enc w base spare held n _ _ h0
  have h1 := hf 1 _ rfl
  rw [List.getElem?_eq_getElem (l := xs) (i := 1) (by omega)] at h1
  replace h1 : DataW.trod enc Try.prog w base spare held n 3 ((cs.drop 1).take (Try.prog.cellsOf 3)) = some xs[1] := h1
  rw [show Try.prog.cellsOf 3 = 1 from by kernel_rfl] at h1
  obtain ⟨x1, K1, o1⟩ := opens_i64 enc w base spare held n _ _ h1
  have e : cs = (cs.drop 0).take 1 ++ ((cs.drop 1).take 1) := by
    have g0 : cs.drop 0 = (cs.drop 0).take 1 ++ cs.drop 1 := by rw [show cs.drop 1 = (cs.drop 0).drop 1 from by rw [List.drop_drop], List.take_append_drop]
    have g1 : cs.drop 1 = (cs.drop 1).take 1 ++ cs.drop 2 := by rw [show cs.drop 2 = (cs.drop 1).drop 1 from by rw [List.drop_drop], List.take_append_drop]
    have z : cs.drop 2 = [] := List.drop_eq_nil_of_le (by omega)
    rw [z, List.append_nil] at g1
    calc cs = cs.drop 0 := rfl
      _ = (cs.drop 0).take 1 ++ ((cs.drop 1).take 1) := by rw [← g1]; exact g0
  refine ⟨⟨x0, x1⟩, ?_, o0, o1⟩
  rw [e]
  exact ⟨_, _, rfl, K0, K1⟩
theorem opens_fields : Opens Try.prog 29 (Kd.slice 90 k90) (fun xs => ∀ x ∈ xs, x.f0.size ≤ maxLen ∧ (Lit.int .i64 x.f1).wf = true) := opens_slice Try.underlying29 (by kernel_rfl) opens_field
theorem opens_event : Opens Try.prog 31 k31 (fun x => x.f0.size ≤ maxLen ∧ x.f1.size ≤ maxLen ∧ (∀ z ∈ x.f2, z.size ≤ maxLen) ∧ (∀ z ∈ x.f3, z.f0.size ≤ maxLen ∧ (Lit.int .i64 z.f1).wf = true)) := by
  intro H enc w base spare held fuel cs y h
  obtain ⟨xs, n, _, _, hl, hlen, hf⟩ := DataW.trod_struct Try.underlying31 h
  rw [show Try.prog.cellsOf 31 = 4 from by kernel_rfl] at hl
  have hlen' : xs.length = 4 := hlen
  have h0 := hf 0 _ rfl
  rw [List.getElem?_eq_getElem (l := xs) (i := 0) (by omega)] at h0
  replace h0 : DataW.trod enc Try.prog w base spare held n 9 ((cs.drop 0).take (Try.prog.cellsOf 9)) = some xs[0] := h0
  rw [show Try.prog.cellsOf 9 = 1 from by kernel_rfl] at h0
  obtain ⟨x0, K0, o0⟩ := opens_str enc w base spare held n _ _ h0
  have h1 := hf 1 _ rfl
  rw [List.getElem?_eq_getElem (l := xs) (i := 1) (by omega)] at h1
  replace h1 : DataW.trod enc Try.prog w base spare held n 9 ((cs.drop 1).take (Try.prog.cellsOf 9)) = some xs[1] := h1
  rw [show Try.prog.cellsOf 9 = 1 from by kernel_rfl] at h1
  obtain ⟨x1, K1, o1⟩ := opens_str enc w base spare held n _ _ h1
  have h2 := hf 2 _ rfl
  rw [List.getElem?_eq_getElem (l := xs) (i := 2) (by omega)] at h2
  replace h2 : DataW.trod enc Try.prog w base spare held n 28 ((cs.drop 2).take (Try.prog.cellsOf 28)) = some xs[2] := h2
  rw [show Try.prog.cellsOf 28 = 1 from by kernel_rfl] at h2
  obtain ⟨x2, K2, o2⟩ := opens_strs enc w base spare held n _ _ h2
  have h3 := hf 3 _ rfl
  rw [List.getElem?_eq_getElem (l := xs) (i := 3) (by omega)] at h3
  replace h3 : DataW.trod enc Try.prog w base spare held n 29 ((cs.drop 3).take (Try.prog.cellsOf 29)) = some xs[3] := h3
  rw [show Try.prog.cellsOf 29 = 1 from by kernel_rfl] at h3
  obtain ⟨x3, K3, o3⟩ := opens_fields enc w base spare held n _ _ h3
  have e : cs = (cs.drop 0).take 1 ++ ((cs.drop 1).take 1 ++ ((cs.drop 2).take 1 ++ ((cs.drop 3).take 1))) := by
    have g0 : cs.drop 0 = (cs.drop 0).take 1 ++ cs.drop 1 := by rw [show cs.drop 1 = (cs.drop 0).drop 1 from by rw [List.drop_drop], List.take_append_drop]
    have g1 : cs.drop 1 = (cs.drop 1).take 1 ++ cs.drop 2 := by rw [show cs.drop 2 = (cs.drop 1).drop 1 from by rw [List.drop_drop], List.take_append_drop]
    have g2 : cs.drop 2 = (cs.drop 2).take 1 ++ cs.drop 3 := by rw [show cs.drop 3 = (cs.drop 2).drop 1 from by rw [List.drop_drop], List.take_append_drop]
    have g3 : cs.drop 3 = (cs.drop 3).take 1 ++ cs.drop 4 := by rw [show cs.drop 4 = (cs.drop 3).drop 1 from by rw [List.drop_drop], List.take_append_drop]
    have z : cs.drop 4 = [] := List.drop_eq_nil_of_le (by omega)
    rw [z, List.append_nil] at g3
    calc cs = cs.drop 0 := rfl
      _ = (cs.drop 0).take 1 ++ ((cs.drop 1).take 1 ++ ((cs.drop 2).take 1 ++ ((cs.drop 3).take 1))) := by rw [← g3, ← g2, ← g1]; exact g0
  refine ⟨⟨x0, x1, x2, x3⟩, ?_, o0, o1, o2, o3⟩
  rw [e]
  exact ⟨_, _, rfl, K0, ⟨_, _, rfl, K1, ⟨_, _, rfl, K2, K3⟩⟩⟩
end Go.Proofs.Ytocpcnmnhckcpaa.Gen
namespace Go.Proofs.Ytocpcnmnhckcpaa.Gen
open Go.RowKit Go.Proofs.YtocpcnmnhckcpaaW.PrintWords Go.Proofs.YtocpcnmnhckcpaaW.PrintLast Go.Proofs.YtocpcnmnhckcpaaW.PrintMore Go.Proofs.Ytocpcnmnhckcpaa.Prt
set_option linter.unusedVariables false
set_option linter.unusedSimpArgs false
/-- Clauses that came in. -/
def OkInQ (l : List S92) : Prop := ∀ x ∈ l, (∀ s ∈ x.f0, s.size ≤ maxLen) ∧ (∀ s ∈ x.f1, s.size ≤ maxLen)
theorem opens_clause : Opens Try.prog 92 k92 (fun x => (∀ z ∈ x.f0, z.size ≤ maxLen) ∧ (∀ z ∈ x.f1, z.size ≤ maxLen)) := by
  intro H enc w base spare held fuel cs y h
  obtain ⟨xs, n, _, _, hl, hlen, hf⟩ := DataW.trod_struct Try.underlying92 h
  rw [show Try.prog.cellsOf 92 = 2 from by kernel_rfl] at hl
  have hlen' : xs.length = 2 := hlen
  have h0 := hf 0 _ rfl
  rw [List.getElem?_eq_getElem (l := xs) (i := 0) (by omega)] at h0
  replace h0 : DataW.trod enc Try.prog w base spare held n 28 ((cs.drop 0).take (Try.prog.cellsOf 28)) = some xs[0] := h0
  rw [show Try.prog.cellsOf 28 = 1 from by kernel_rfl] at h0
  obtain ⟨x0, K0, o0⟩ := opens_strs enc w base spare held n _ _ h0
  have h1 := hf 1 _ rfl
  rw [List.getElem?_eq_getElem (l := xs) (i := 1) (by omega)] at h1
  replace h1 : DataW.trod enc Try.prog w base spare held n 28 ((cs.drop 1).take (Try.prog.cellsOf 28)) = some xs[1] := h1
  rw [show Try.prog.cellsOf 28 = 1 from by kernel_rfl] at h1
  obtain ⟨x1, K1, o1⟩ := opens_strs enc w base spare held n _ _ h1
  have e : cs = (cs.drop 0).take 1 ++ ((cs.drop 1).take 1) := by
    have g0 : cs.drop 0 = (cs.drop 0).take 1 ++ cs.drop 1 := by rw [show cs.drop 1 = (cs.drop 0).drop 1 from by rw [List.drop_drop], List.take_append_drop]
    have g1 : cs.drop 1 = (cs.drop 1).take 1 ++ cs.drop 2 := by rw [show cs.drop 2 = (cs.drop 1).drop 1 from by rw [List.drop_drop], List.take_append_drop]
    have z : cs.drop 2 = [] := List.drop_eq_nil_of_le (by omega)
    rw [z, List.append_nil] at g1
    calc cs = cs.drop 0 := rfl
      _ = (cs.drop 0).take 1 ++ ((cs.drop 1).take 1) := by rw [← g1]; exact g0
  refine ⟨⟨x0, x1⟩, ?_, o0, o1⟩
  rw [e]
  exact ⟨_, _, rfl, K0, K1⟩
theorem opens_clauses : Opens Try.prog 32 (Kd.slice 92 k92) (fun l => OkInQ l) := opens_slice Try.underlying32 (by kernel_rfl) opens_clause
theorem opens_query : Opens Try.prog 34 k34 (fun x => OkInQ x.f0) := by
  intro H enc w base spare held fuel cs y h
  obtain ⟨xs, n, _, _, hl, hlen, hf⟩ := DataW.trod_struct Try.underlying34 h
  rw [show Try.prog.cellsOf 34 = 1 from by kernel_rfl] at hl
  have hlen' : xs.length = 1 := hlen
  have h0 := hf 0 _ rfl
  rw [List.getElem?_eq_getElem (l := xs) (i := 0) (by omega)] at h0
  replace h0 : DataW.trod enc Try.prog w base spare held n 32 ((cs.drop 0).take (Try.prog.cellsOf 32)) = some xs[0] := h0
  rw [show Try.prog.cellsOf 32 = 1 from by kernel_rfl] at h0
  obtain ⟨x0, K0, o0⟩ := opens_clauses enc w base spare held n _ _ h0
  have e : cs = (cs.drop 0).take 1 := by
    have g0 : cs.drop 0 = (cs.drop 0).take 1 ++ cs.drop 1 := by rw [show cs.drop 1 = (cs.drop 0).drop 1 from by rw [List.drop_drop], List.take_append_drop]
    have z : cs.drop 1 = [] := List.drop_eq_nil_of_le (by omega)
    rw [z, List.append_nil] at g0
    calc cs = cs.drop 0 := rfl
      _ = (cs.drop 0).take 1 := g0
  refine ⟨⟨x0⟩, ?_, o0⟩
  rw [e]
  exact K0
end Go.Proofs.Ytocpcnmnhckcpaa.Gen
namespace Go.Proofs.Ytocpcnmnhckcpaa.Gen
open Go.RowKit Go.Proofs.YtocpcnmnhckcpaaW.PrintWords Go.Proofs.YtocpcnmnhckcpaaW.PrintLast Go.Proofs.YtocpcnmnhckcpaaW.PrintMore Go.Proofs.Ytocpcnmnhckcpaa.Prt
set_option linter.unusedVariables false
set_option linter.unusedSimpArgs false
/-- A step that came in. -/
def OkInS (x : S36) : Prop := (Lit.int .i64 x.f0).wf = true ∧ (Lit.int .i64 x.f1).wf = true ∧ (Lit.int .i64 x.f2).wf = true ∧ (Lit.int .i64 x.f3).wf = true ∧ x.f4.size ≤ maxLen ∧ (x.f5.f0.size ≤ maxLen ∧ x.f5.f1.size ≤ maxLen ∧ (∀ z ∈ x.f5.f2, z.size ≤ maxLen) ∧ (∀ z ∈ x.f5.f3, z.f0.size ≤ maxLen ∧ (Lit.int .i64 z.f1).wf = true)) ∧ OkInQ x.f6.f0
theorem opens_step0 : Opens Try.prog 36 k36 (fun x => (Lit.int .i64 x.f0).wf = true ∧ (Lit.int .i64 x.f1).wf = true ∧ (Lit.int .i64 x.f2).wf = true ∧ (Lit.int .i64 x.f3).wf = true ∧ x.f4.size ≤ maxLen ∧ (x.f5.f0.size ≤ maxLen ∧ x.f5.f1.size ≤ maxLen ∧ (∀ z ∈ x.f5.f2, z.size ≤ maxLen) ∧ (∀ z ∈ x.f5.f3, z.f0.size ≤ maxLen ∧ (Lit.int .i64 z.f1).wf = true)) ∧ OkInQ x.f6.f0) := by
  intro H enc w base spare held fuel cs y h
  obtain ⟨xs, n, _, _, hl, hlen, hf⟩ := DataW.trod_struct Try.underlying36 h
  rw [show Try.prog.cellsOf 36 = 10 from by kernel_rfl] at hl
  have hlen' : xs.length = 7 := hlen
  have h0 := hf 0 _ rfl
  rw [List.getElem?_eq_getElem (l := xs) (i := 0) (by omega)] at h0
  replace h0 : DataW.trod enc Try.prog w base spare held n 3 ((cs.drop 0).take (Try.prog.cellsOf 3)) = some xs[0] := h0
  rw [show Try.prog.cellsOf 3 = 1 from by kernel_rfl] at h0
  obtain ⟨x0, K0, o0⟩ := opens_i64 enc w base spare held n _ _ h0
  have h1 := hf 1 _ rfl
  rw [List.getElem?_eq_getElem (l := xs) (i := 1) (by omega)] at h1
  replace h1 : DataW.trod enc Try.prog w base spare held n 3 ((cs.drop 1).take (Try.prog.cellsOf 3)) = some xs[1] := h1
  rw [show Try.prog.cellsOf 3 = 1 from by kernel_rfl] at h1
  obtain ⟨x1, K1, o1⟩ := opens_i64 enc w base spare held n _ _ h1
  have h2 := hf 2 _ rfl
  rw [List.getElem?_eq_getElem (l := xs) (i := 2) (by omega)] at h2
  replace h2 : DataW.trod enc Try.prog w base spare held n 3 ((cs.drop 2).take (Try.prog.cellsOf 3)) = some xs[2] := h2
  rw [show Try.prog.cellsOf 3 = 1 from by kernel_rfl] at h2
  obtain ⟨x2, K2, o2⟩ := opens_i64 enc w base spare held n _ _ h2
  have h3 := hf 3 _ rfl
  rw [List.getElem?_eq_getElem (l := xs) (i := 3) (by omega)] at h3
  replace h3 : DataW.trod enc Try.prog w base spare held n 3 ((cs.drop 3).take (Try.prog.cellsOf 3)) = some xs[3] := h3
  rw [show Try.prog.cellsOf 3 = 1 from by kernel_rfl] at h3
  obtain ⟨x3, K3, o3⟩ := opens_i64 enc w base spare held n _ _ h3
  have h4 := hf 4 _ rfl
  rw [List.getElem?_eq_getElem (l := xs) (i := 4) (by omega)] at h4
  replace h4 : DataW.trod enc Try.prog w base spare held n 9 ((cs.drop 4).take (Try.prog.cellsOf 9)) = some xs[4] := h4
  rw [show Try.prog.cellsOf 9 = 1 from by kernel_rfl] at h4
  obtain ⟨x4, K4, o4⟩ := opens_str enc w base spare held n _ _ h4
  have h5 := hf 5 _ rfl
  rw [List.getElem?_eq_getElem (l := xs) (i := 5) (by omega)] at h5
  replace h5 : DataW.trod enc Try.prog w base spare held n 31 ((cs.drop 5).take (Try.prog.cellsOf 31)) = some xs[5] := h5
  rw [show Try.prog.cellsOf 31 = 4 from by kernel_rfl] at h5
  obtain ⟨x5, K5, o5⟩ := opens_event enc w base spare held n _ _ h5
  have h6 := hf 6 _ rfl
  rw [List.getElem?_eq_getElem (l := xs) (i := 6) (by omega)] at h6
  replace h6 : DataW.trod enc Try.prog w base spare held n 34 ((cs.drop 9).take (Try.prog.cellsOf 34)) = some xs[6] := h6
  rw [show Try.prog.cellsOf 34 = 1 from by kernel_rfl] at h6
  obtain ⟨x6, K6, o6⟩ := opens_query enc w base spare held n _ _ h6
  have e : cs = (cs.drop 0).take 1 ++ ((cs.drop 1).take 1 ++ ((cs.drop 2).take 1 ++ ((cs.drop 3).take 1 ++ ((cs.drop 4).take 1 ++ ((cs.drop 5).take 4 ++ ((cs.drop 9).take 1)))))) := by
    have g0 : cs.drop 0 = (cs.drop 0).take 1 ++ cs.drop 1 := by rw [show cs.drop 1 = (cs.drop 0).drop 1 from by rw [List.drop_drop], List.take_append_drop]
    have g1 : cs.drop 1 = (cs.drop 1).take 1 ++ cs.drop 2 := by rw [show cs.drop 2 = (cs.drop 1).drop 1 from by rw [List.drop_drop], List.take_append_drop]
    have g2 : cs.drop 2 = (cs.drop 2).take 1 ++ cs.drop 3 := by rw [show cs.drop 3 = (cs.drop 2).drop 1 from by rw [List.drop_drop], List.take_append_drop]
    have g3 : cs.drop 3 = (cs.drop 3).take 1 ++ cs.drop 4 := by rw [show cs.drop 4 = (cs.drop 3).drop 1 from by rw [List.drop_drop], List.take_append_drop]
    have g4 : cs.drop 4 = (cs.drop 4).take 1 ++ cs.drop 5 := by rw [show cs.drop 5 = (cs.drop 4).drop 1 from by rw [List.drop_drop], List.take_append_drop]
    have g5 : cs.drop 5 = (cs.drop 5).take 4 ++ cs.drop 9 := by rw [show cs.drop 9 = (cs.drop 5).drop 4 from by rw [List.drop_drop], List.take_append_drop]
    have g6 : cs.drop 9 = (cs.drop 9).take 1 ++ cs.drop 10 := by rw [show cs.drop 10 = (cs.drop 9).drop 1 from by rw [List.drop_drop], List.take_append_drop]
    have z : cs.drop 10 = [] := List.drop_eq_nil_of_le (by omega)
    rw [z, List.append_nil] at g6
    calc cs = cs.drop 0 := rfl
      _ = (cs.drop 0).take 1 ++ ((cs.drop 1).take 1 ++ ((cs.drop 2).take 1 ++ ((cs.drop 3).take 1 ++ ((cs.drop 4).take 1 ++ ((cs.drop 5).take 4 ++ ((cs.drop 9).take 1)))))) := by rw [← g6, ← g5, ← g4, ← g3, ← g2, ← g1]; exact g0
  refine ⟨⟨x0, x1, x2, x3, x4, x5, x6⟩, ?_, o0, o1, o2, o3, o4, o5, o6⟩
  rw [e]
  exact ⟨_, _, rfl, K0, ⟨_, _, rfl, K1, ⟨_, _, rfl, K2, ⟨_, _, rfl, K3, ⟨_, _, rfl, K4, ⟨_, _, rfl, K5, K6⟩⟩⟩⟩⟩⟩
theorem opens_step : Opens Try.prog 36 k36 OkInS := opens_step0
theorem opens_steps : Opens Try.prog 22 (Kd.slice 36 k36) (fun l => ∀ x ∈ l, OkInS x) := opens_slice Try.underlying22 (by kernel_rfl) opens_step
end Go.Proofs.Ytocpcnmnhckcpaa.Gen
namespace Go.Proofs.Ytocpcnmnhckcpaa.Prt
open Go.RowKit Go.Proofs.YtocpcnmnhckcpaaW.PrintWords Go.Proofs.YtocpcnmnhckcpaaW.PrintLast Go.Proofs.YtocpcnmnhckcpaaW.PrintMore Go.Proofs.Ytocpcnmnhckcpaa.Num Go.Proofs.Ytocpcnmnhckcpaa.Nam
set_option linter.unusedVariables false
set_option linter.unusedSimpArgs false
theorem i64_wf {x : Int} (h : (Lit.int .i64 x).wf = true) : i64 x := by
  show -9223372036854775808 ≤ x ∧ x ≤ 9223372036854775807
  simp [Lit.wf, IntKind.min, IntKind.max, IntKind.bits, IntKind.signed] at h
  omega
/-- nil before: what is laid is the number alone. -/
theorem inS_of {x : S36} (h : Gen.OkInS x) : InS x := by
  obtain ⟨h0, h1, h2, h3, h4, ⟨e0, e1, e2, e3⟩, hq⟩ := h
  exact ⟨i64_wf h0, i64_wf h1, i64_wf h2, i64_wf h3, e0, e1, e2, fun z hz => (e3 z hz).1, hq⟩
end Go.Proofs.Ytocpcnmnhckcpaa.Prt
namespace Go.Proofs.Ytocpcnmnhckcpaa.Prt
open Go.RowKit Go.Proofs.YtocpcnmnhckcpaaW.PrintWords Go.Proofs.YtocpcnmnhckcpaaW.PrintLast Go.Proofs.YtocpcnmnhckcpaaW.PrintMore Go.Proofs.Ytocpcnmnhckcpaa.Num Go.Proofs.Ytocpcnmnhckcpaa.Nam
set_option linter.unusedVariables false
set_option linter.unusedSimpArgs false
theorem own_size {G L : List S36} (hI : ∀ t ∈ G, FitS t ∧ t.f4.size ≤ 100) (h : ∀ t ∈ L, t ∈ G ∧ okB t = true) : (strOfNums (printL L)).size ≤ 206200 * L.length := by
  rw [strOfNums_size']
  exact printL_bound L (fun t ht => ⟨okB_ok (hI t (h t ht).1).1 (h t ht).2, Nat.le_trans (hI t (h t ht).1).2 (by decide)⟩)
set_option maxRecDepth 100000 in
set_option maxHeartbeats 8000000 in
theorem scriptJoins_walk (A0 : Option Addr) (c0 : Nat) (l : List S36) (A1 : Option Addr) (c1 : Nat) (m : List S36) (w : World) (hC : Kd.C k36 w A0 l.length l) (hc : l.length ≤ c0) (hi : ∀ x ∈ l, InS x) (hC1 : Kd.C k36 w A1 m.length m) (hc1 : m.length ≤ c1) (hi1 : ∀ x ∈ m, InS x) :
    Calls Try.prog 3 #[.slice A0 l.length c0, .slice A1 m.length c1] w fun e w' => e = .returned (.bool true) ∧ Below w.heap.size w w' := by
  have HC := Aside0.mk (And.intro hc hC)
  have HD := Aside0.mk (And.intro hc1 hC1)
  have HFL := Aside0.mk (And.intro (fewL_len l) (fewL_len m))
  have HI := Aside0.mk (show ∀ t ∈ fewL l ++ fewL m, FitS t ∧ t.f4.size ≤ 100 from fun t ht => (List.mem_append.1 ht).elim (fun h => fewL_fit hi h) (fun h => fewL_fit hi1 h))
  have HFE := Aside0.mk (show ∀ t ∈ fewL l ++ fewL m, ∃ x, t = fewS x from fun t ht => (List.mem_append.1 ht).elim (fun h => by obtain ⟨x, _, e⟩ := fewL_mem h; exact ⟨x, e⟩) (fun h => by obtain ⟨x, _, e⟩ := fewL_mem h; exact ⟨x, e⟩))
  have hu36 := Try.underlying36
  clear hC hc hi hC1 hc1 hi1
  obtain ⟨FL, hFL⟩ : ∃ F, F = fewL l := ⟨_, rfl⟩
  obtain ⟨FM, hFM⟩ : ∃ F, F = fewL m := ⟨_, rfl⟩
  rw [← hFL, ← hFM] at HI HFE HFL
  have HFa := Aside0.mk hFL
  have HFb := Aside0.mk hFM
  clear hFL hFM
  go_enter Try.func3, Try.ntmps3
  go_wp2_with fail
  refine (shown_calls22 w).mono ?_
  rintro e w1 ⟨rfl, hb⟩
  have HB1 := Aside0.mk hb
  clear hb
  go_upto_region 6 with (first | ((with_reducible refine gate_dst (N := 22) rfl ?_); refine Kd.R_lit k36 (w0 := w) w.heap.size 36 ?hg (N := 22) ?hd (xs := []) (inner := []) (ok := fun _ => True) (okp := fun _ => True) ?hr ?hp (fun _ hk => hk) trivial ?hB ?hS (by simp) ?_; (case hd => rfl); (case hg => rfl); (case hr => first | (go_simp; done) | (go_simp; rfl)); (case hp => exact (Reps.none _ _)); (case hB => exact (by repeat (first | (with_reducible first | exact HB1.out | apply below_alloc | apply pw_below_drewN | apply below_drew1) | exact HB1.out))); (case hS => exact (below_size (by repeat (first | (with_reducible first | exact HB1.out | apply below_alloc | apply pw_below_drewN | apply below_drew1) | exact HB1.out)))); intro v8 w8 ho hb hg hat; have n0_ := Aside0.mk (hb); have n1_ := Aside0.mk (ho); clear HB1; have HB1 := n0_; have HO8 := n1_; clear n0_ n1_; clear ho hb hg hat))
  have HSZ8 := Aside0.mk HB1.out.size
  go_wp2_with (first | ((with_reducible refine gate_dst (N := 23) rfl ?_); refine Kd.N_lit k36 (w0 := w8) w8.heap.size 36 ?hg (N' := 23) ?hd (xs := []) (inner := []) (ok := fun k => k < w.heap.size ∨ w8.heap.size ≤ k) (okp := fun _ => False) ?hr ?hp (fun _ hk => hk.elim) (.inr (Nat.le_refl _)) (Below.refl _ _) (Nat.le_refl _) (by simp) ?_; (case hd => rfl); (case hg => rfl); (case hr => first | (go_simp; done) | (go_simp; rfl)); (case hp => exact (Reps.none _ _)); intro v10 w10 ho hb hg hat; have HN10 := Aside0.mk ho; have HB10 := Aside0.mk hb; clear ho hb hg hat))
  refine (few_callsN w A0 c0 l w10 (HB1.out.trans (HB10.out.mono HSZ8.out)) HC.out.2 HC.out.1).mono ?_
  rintro e w11 ⟨v, rfl, hN, hb⟩
  rw [← HFa.out] at hN
  obtain ⟨Ax, cx, rfl⟩ := Kd.N_slice hN
  have HNX := Aside0.mk hN
  have HN11 := Aside0.mk (Kd.N_below HN10.out hb)
  have HLT := Aside0.mk (Kd.N_lt HN10.out)
  have HB11 := Aside0.mk (show Below w8.heap.size w8 w11 from HB10.out.trans (hb.mono HB10.out.size))
  clear hN hb
  have HSZ := Aside0.mk HB11.out.size
  have HBS := Aside0.mk (Kd.N_base HN11.out)
  have HKO : Aside0 (∀ k, (k < w.heap.size ∨ w10.heap.size ≤ k) → (k < w.heap.size ∨ w8.heap.size ≤ k) ∧ some k ≠ v10.ownBlock) := ⟨fun k hk => ⟨by have := HB10.out.size; omega, fun e_ => by
    have h1 := HBS.out k e_.symm
    have h2 := HLT.out k e_.symm
    have h3 := HSZ8.out
    omega⟩⟩
  have HLEN := Aside0.mk (show ([] : List S36).length + FL.length * 1 ≤ 1000 by have := HFL.out.1; simp only [List.length_nil]; omega)
  go_wp2_with (first | ((with_reducible refine gate_builtin (b := .append) (xs := #[.tmp 23, .tmp 25]) rfl ?_); at_builtin; refine Kd.N_append_rows k36 (w0 := w8) w8.heap.size rfl (.tmp 23) (.tmp 25) 22 36 (.agg #[.int .i64 0, .int .i64 0, .int .i64 0, .int .i64 0, .string ⟨#[]⟩, .string ⟨#[]⟩, .string ⟨#[]⟩, .slice none 0 0, .slice none 0 0, .slice none 0 0]) 152 rfl Try.underlying22 info_step rfl (by decide) (by decide) v10 [] FL Ax FL.length cx (fun k => k < w.heap.size ∨ w8.heap.size ≤ k) (fun k => k < w.heap.size ∨ w10.heap.size ≤ k) rfl rfl HN11.out (Kd.N_F HNX.out) HKO.out (fun k hk => .inr (Nat.le_trans HSZ.out hk)) HB11.out HSZ.out (by have := HFL.out.1; simp only [List.length_nil]; omega) ?_; intro v12_ w12_ ho hb hg hat; have HNN := Aside0.mk ho; have HBN := Aside0.mk hb; clear ho hb hg hat))
  simp only [List.nil_append] at HNN
  have HN12 := HNN
  have HB12 := HBN
  clear HNN HBN HN10 HNX HN11 HLT HB11 HSZ HBS HKO HLEN
  have HSZ12 := Aside0.mk HB12.out.size
  refine (few_callsN w A1 c1 m w12_ (HB1.out.trans (HB12.out.mono HSZ8.out)) HD.out.2 HD.out.1).mono ?_
  rintro e w13 ⟨v, rfl, hN, hb⟩
  rw [← HFb.out] at hN
  obtain ⟨Ay, cy, rfl⟩ := Kd.N_slice hN
  have HNX := Aside0.mk hN
  have HN13 := Aside0.mk (Kd.N_below HN12.out hb)
  have HLT := Aside0.mk (Kd.N_lt HN12.out)
  have HB13 := Aside0.mk (show Below w8.heap.size w8 w13 from HB12.out.trans (hb.mono HSZ12.out))
  clear hN hb
  have HSZ := Aside0.mk HB13.out.size
  have HBS := Aside0.mk (Kd.N_base HN13.out)
  have HKO : Aside0 (∀ k, (k < w.heap.size ∨ w12_.heap.size ≤ k) → (k < w.heap.size ∨ w8.heap.size ≤ k) ∧ some k ≠ v12_.ownBlock) := ⟨fun k hk => ⟨by have := HSZ12.out; omega, fun e_ => by
    have h1 := HBS.out k e_.symm
    have h2 := HLT.out k e_.symm
    have h3 := HSZ8.out
    omega⟩⟩
  go_upto_region 8 with (first | ((with_reducible refine gate_builtin (b := .append) (xs := #[.tmp 26, .tmp 28]) rfl ?_); at_builtin; refine Kd.N_append_rows k36 (w0 := w8) w8.heap.size rfl (.tmp 26) (.tmp 28) 22 36 (.agg #[.int .i64 0, .int .i64 0, .int .i64 0, .int .i64 0, .string ⟨#[]⟩, .string ⟨#[]⟩, .string ⟨#[]⟩, .slice none 0 0, .slice none 0 0, .slice none 0 0]) 152 rfl Try.underlying22 info_step rfl (by decide) (by decide) v12_ FL FM Ay FM.length cy (fun k => k < w.heap.size ∨ w8.heap.size ≤ k) (fun k => k < w.heap.size ∨ w12_.heap.size ≤ k) rfl rfl HN13.out (Kd.N_F HNX.out) HKO.out (fun k hk => .inr (Nat.le_trans HSZ.out hk)) HB13.out HSZ.out (by have := HFL.out; omega) ?_; intro v14_ w14_ ho hb hg hat; have HNN := Aside0.mk ho; have HBN := Aside0.mk hb; clear ho hb hg hat))
  have HN14 := HNN
  have HB14 := HBN
  clear HNN HBN HN12 HN13 HNX HLT HB13 HB12 HSZ HBS HKO HSZ12 HB10
  obtain ⟨G, hG⟩ : ∃ G, G = FL ++ FM := ⟨_, rfl⟩
  rw [← hG] at HN14 HI HFE
  have hgl : G.length ≤ 60 := by rw [hG, List.length_append]; have := HFL.out; omega
  clear hG
  obtain ⟨Ag, cg, rfl⟩ := Kd.N_slice HN14.out
  have HNG := Aside0.mk (Kd.N_bound HN14.out)
  have HSZ14 := Aside0.mk HB14.out.size
  have HB0 := Aside0.mk (HB1.out.trans (HB14.out.mono HSZ8.out))
  have HO0 := Aside0.mk (Kd.R_below HO8.out HB14.out)
  have HOB := Aside0.mk (fun k hk => And.intro (Kd.R_base HO8.out k hk) (Kd.R_lt HO8.out k hk))
  clear HO8 HB1 HB14 HN14
  go_loopg [6, 7, 8, 9, 11] 61 (fun gk v6 v7 vL v9 vI w' => ∃ (PA PB : List S36) (i : Nat), v6 = .string (strOfNums (printL PA)) ∧ v7 = .string (strOfNums (printL PB)) ∧ v9 = .int .i64 (PA.length : Int) ∧ vI = .int .i64 (i : Int) ∧ Aside0 (i + gk = 61) ∧ Aside0 (i ≤ G.length) ∧ Aside0 (PA.length + PB.length ≤ i) ∧ Aside0 (i ≤ FL.length → PB = []) ∧ Aside0 (∀ t ∈ PA ++ PB, t ∈ G ∧ okB t = true) ∧ Aside0 (Kd.N k36 36 w' w.heap.size (fun _ => True) vL (PA ++ PB)) ∧ Aside0 (∀ k, vL.ownBlock = some k → w.heap.size ≤ k ∧ (k < w8.heap.size ∨ w14_.heap.size ≤ k)) ∧ Aside0 (Kd.N k36 36 w' w8.heap.size (fun k => (k < w.heap.size ∨ w8.heap.size ≤ k) ∧ k < w14_.heap.size) (.slice Ag G.length cg) G) ∧ Aside0 (Below w.heap.size w w') ∧ Aside0 (w14_.heap.size ≤ w'.heap.size))
  case atStart => exact ⟨[], [], 0, rfl, rfl, rfl, rfl, ⟨by omega⟩, ⟨Nat.zero_le _⟩, ⟨Nat.zero_le _⟩, ⟨fun _ => rfl⟩, ⟨fun t ht => by cases ht⟩, ⟨Kd.R_N HO0.out⟩, ⟨fun k hk => ⟨(HOB.out k hk).1, .inl (HOB.out k hk).2⟩⟩, by first | exact HNG | exact ⟨Kd.N_drew HNG.out⟩, by first | exact HB0 | exact ⟨below_drew HB0.out⟩, ⟨by first | exact Nat.le_refl _ | (have := HB0.out.size; simp)⟩⟩
  case round =>
    clear HO0 HOB
    obtain ⟨PA, PB, i, rfl, rfl, rfl, rfl, HE, HLE, HPL, HPB, HPG, HN, HOW, HNG2, HBW, HZW⟩ := hrel
    obtain ⟨AB, hAB⟩ : ∃ L, L = PA ++ PB := ⟨_, rfl⟩
    rw [← hAB] at HPG HN
    have HAB := Aside0.mk hAB
    have habl : AB.length ≤ 60 := by rw [hAB, List.length_append]; have := HPL.out; have := HLE.out; omega
    obtain ⟨a, ha⟩ : ∃ a, a = strOfNums (printL PA) := ⟨_, rfl⟩
    obtain ⟨b, hb⟩ : ∃ b, b = strOfNums (printL PB) := ⟨_, rfl⟩
    obtain ⟨n, hn⟩ : ∃ n, n = PA.length := ⟨_, rfl⟩
    rw [← ha, ← hb, ← hn]
    have HA := Aside0.mk ha
    have HBS := Aside0.mk hb
    have HNP := Aside0.mk hn
    have hn60 : n ≤ 60 := by rw [hn]; have := HPL.out; have := HLE.out; omega
    have has : a.size ≤ 12372000 := by
      rw [ha]
      refine Nat.le_trans (own_size HI.out (fun t ht => HPG.out t (by rw [hAB]; exact List.mem_append_left _ ht))) ?_
      have := HPL.out; have := HLE.out; omega
    have hbs : b.size ≤ 12372000 := by
      rw [hb]
      refine Nat.le_trans (own_size HI.out (fun t ht => HPG.out t (by rw [hAB]; exact List.mem_append_right _ ht))) ?_
      have := HPL.out; have := HLE.out; omega
    clear ha hb hn hAB
    obtain ⟨A6, c6, e6⟩ := Kd.N_slice HN.out
    subst e6
    clear HNG HB0
    by_cases hlt : i < G.length
    case neg =>
      have hb1 : decide ((i : Int) < (G.length : Int)) = false := decide_eq_false (by omega)
      have hb1n : decide (i < G.length) = false := decide_eq_false hlt
      have HOK := Aside0.mk (show ∀ t ∈ AB, OkS t from fun t ht => okB_ok (HI.out t (HPG.out t ht).1).1 (HPG.out t ht).2)
      by_cases hbig : 65527 < a.size + b.size
      · have hb2 : decide (65527 < (a.size : Int) + (b.size : Int)) = true := decide_eq_true (by omega)
        go_wp2_with fail
        go_ret
        exact ⟨rfl, by first | exact HBW.out | exact below_drew HBW.out⟩
      · have hb2 : decide (65527 < (a.size : Int) + (b.size : Int)) = false := decide_eq_false (by omega)
        obtain ⟨hc6, hC6⟩ : AB.length ≤ c6 ∧ Kd.C k36 wr A6 AB.length AB := by
          obtain ⟨A_, c_, e_, h1, h2⟩ := Kd.N_reads HN.out
          cases e_
          exact ⟨h1, h2⟩
        have HC6 := Aside0.mk (And.intro hc6 hC6)
        clear hc6 hC6
        have hza : (printL PA).length = a.size := by rw [HA.out, strOfNums_size']
        have hzb : (printL PB).length = b.size := by rw [HBS.out, strOfNums_size']
        have HJ := Aside0.mk (show parseS (bytesOf (a ++ b)) = (AB, 0, 0) by
          rw [HA.out, HBS.out, HAB.out]
          exact join_parse (by rw [← HAB.out]; exact HOK.out) (by rw [← HAB.out]; omega) (by omega))
        have HK := Aside0.mk (show parseS (bytesOf (a ++ (⟨#[48, 103, 10]⟩ : ByteArray) ++ b)) = ([], (n : Int) + 1, 240) by
          rw [HA.out, HBS.out, HNP.out]
          exact gap_parse (fun t ht => HOK.out t (by rw [HAB.out]; exact List.mem_append_left _ ht)) (by have h := congrArg List.length HAB.out; rw [List.length_append] at h; omega) (by omega))
        clear hza hzb
        have hcat1 : ¬ (9223372036854775807 < (a.size : Int) + (b.size : Int)) := by omega
        have hcat2 : ¬ (9223372036854775807 < (a.size : Int) + 3) := by omega
        have hsz3 : (a ++ (⟨#[48, 103, 10]⟩ : ByteArray)).size = a.size + 3 := by rw [ByteArray.size_append]; rfl
        go_wp2_with fail
        refine (parse_calls22 (a ++ b) wr _ _ _ HJ.out).mono ?_
        rintro e w3 ⟨v, rfl, hN, hb⟩
        have HB3 := Aside0.mk (below_step HBW.out hb)
        have HC7 := Aside0.mk (Kd.C_below HC6.out.2 hb)
        obtain ⟨A8, c8, e8, hc8, hC8⟩ := Kd.N_reads hN
        subst e8
        have HC8 := Aside0.mk (And.intro hc8 hC8)
        have HLS := Aside0.mk (lens_few hC8 (fun t ht => HFE.out t (HPG.out t ht).1))
        clear hN hb hc8 hC8
        go_wp2_with fail
        refine (same_calls22 A8 c8 AB A6 c6 AB w3 HC8.out.2 HC8.out.1 HC7.out HC6.out.1 HLS.out true (eqT_self AB)).mono ?_
        rintro e w4 ⟨rfl, hb⟩
        have HB4 := Aside0.mk (below_step HB3.out hb)
        clear hb
        go_wp2_with fail
        refine (parse_calls22 (a ++ (⟨#[48, 103, 10]⟩ : ByteArray) ++ b) w4 _ _ _ HK.out).mono ?_
        rintro e w5 ⟨v, rfl, hN, hb⟩
        have HB5 := Aside0.mk (below_step HB4.out hb)
        obtain ⟨A9, c9, e9⟩ := Kd.N_slice hN
        subst e9
        clear hN hb
        have hw1 := wrap_small (n := (n : Int) + 1) (by omega) (by omega)
        go_wp2
        go_ret
        exact ⟨rfl, HB5.out⟩
    have hb1 : decide ((i : Int) < (G.length : Int)) = true := decide_eq_true (by omega)
    have hb1n : decide (i < G.length) = true := decide_eq_true hlt
    obtain ⟨hcg, hCG⟩ : G.length ≤ cg ∧ Kd.C k36 wr Ag G.length G := by
      obtain ⟨A_, c_, e_, h1, h2⟩ := Kd.N_reads HNG2.out
      cases e_
      exact ⟨h1, h2⟩
    obtain ⟨t, ht⟩ : ∃ t, t = rd_T36 G (i : Int) := ⟨_, rfl⟩
    have HT := Aside0.mk ht
    have htg : t ∈ G := by rw [ht]; exact rd_mem hlt
    have hd1 : (G.drop i).take 1 = [t] := by rw [drop_rdS G i hlt, ← ht]; rfl
    have HS1 : Aside0 (Kd.C k36 wr (Option.map (fun x => x.add (i * 10)) Ag) [t].length [t]) := ⟨by
      have h := Kd.C_take (Kd.C_drop hCG (m := i) (c := cg) (by omega) hcg) (m := 1) (by rw [List.length_drop]; omega)
      rw [hd1, if_neg (by omega)] at h
      exact h⟩
    have HTG := Aside0.mk htg
    have HFT := Aside0.mk (HI.out t htg)
    have HFP := Aside0.mk (show FitP [t] from fun x hx => by rw [List.mem_singleton.1 hx]; exact ⟨HFT.out.1, Nat.le_trans HFT.out.2 (by decide)⟩)
    have HLI := Aside0.mk (show [t].length ≤ cg - i by simp only [List.length_cons, List.length_nil]; omega)
    clear ht htg hd1 hCG
    have hi1c : i + 1 ≤ cg := by omega
    have hib : (i : Int) * 10 ≤ 600 := by omega
    by_cases hpe : (putS t).2 = 0
    case neg =>
      have HPR := Aside0.mk (printS_no hpe)
      obtain ⟨pe, hpee⟩ : ∃ pe, pe = (putS t).2 := ⟨_, rfl⟩
      rw [← hpee] at HPR hpe
      have hb2 : (pe != 0) = true := bne_iff_ne.mpr hpe
      clear hpee hpe
      go_wp2_with fail
      refine (print_calls22 _ _ [t] wr HS1.out HLI.out HFP.out _ _ HPR.out).mono ?_
      rintro e w3 ⟨rfl, hb⟩
      have HN3 := Aside0.mk (Kd.N_below HN.out hb)
      have HBW3 := Aside0.mk (below_step HBW.out hb)
      have HG3 := Aside0.mk (Kd.N_below HNG2.out hb)
      have HZ3 := Aside0.mk (Nat.le_trans HZW.out hb.size)
      clear hb
      go_wp2_with fail
      go_roundg (61 - (i + 1))
      case measure => have := HE.out; omega
      case rel => exact ⟨PA, PB, i + 1, by rw [HA.out], by rw [HBS.out], by rw [HNP.out], by go_num, ⟨by have := HE.out; omega⟩, ⟨by omega⟩, ⟨by have := HPL.out; omega⟩, ⟨fun h => HPB.out (by omega)⟩, by rw [← HAB.out]; exact HPG, by rw [← HAB.out]; exact HN3, HOW, HG3, HBW3, HZ3⟩
    have HPR := Aside0.mk (printS_yes hpe)
    have HOB := Aside0.mk (show okB t = true from decide_eq_true hpe)
    have hls : (strOfNums (lineT t)).size ≤ 206200 := by
      have h := own_size HI.out (L := [t]) (fun x hx => by rw [List.mem_singleton.1 hx]; exact ⟨HTG.out, HOB.out⟩)
      rw [printL_one] at h
      exact h
    clear hpe
    go_wp2_with fail
    refine (print_calls22 _ _ [t] wr HS1.out HLI.out HFP.out _ _ HPR.out).mono ?_
    rintro e w3 ⟨rfl, hb⟩
    have HN3 := Aside0.mk (Kd.N_below HN.out hb)
    have HG3 := Aside0.mk (Kd.N_below HNG2.out hb)
    have HZ3 := Aside0.mk (Nat.le_trans HZW.out hb.size)
    have HBW3 := Aside0.mk (below_step HBW.out hb)
    obtain ⟨q, hq⟩ : ∃ q, q = strOfNums (lineT t) := ⟨_, rfl⟩
    rw [← hq] at hls ⊢
    have HQ := Aside0.mk hq
    clear hb HN HNG2 HBW hq
    obtain ⟨ad, B7, d7, B8, d8, B9, d9, e_, hx0, hx1, hx2, hx3, hx4, hx5, hx6, hx7, hx8, hx9, hSC, hFK⟩ := atN HG3.out (i : Int) (by omega) (by omega)
    cases e_
    rw [Int.toNat_natCast] at hx0 hx1 hx2 hx3 hx4 hx5 hx6 hx7 hx8 hx9
    rw [← HT.out] at hx0 hx1 hx2 hx3 hx4 hx5 hx6 hx7 hx8 hx9 hSC hFK
    have HFK := Aside0.mk hFK
    have HSZ := Aside0.mk HBW3.out.size
    have HKO : Aside0 (∀ k, ((k < w.heap.size ∨ w8.heap.size ≤ k) ∧ k < w14_.heap.size) → True ∧ some k ≠ (Value.slice A6 AB.length c6).ownBlock) := ⟨fun k hk => ⟨trivial, fun e_ => by
      have h1 := HOW.out k e_.symm
      omega⟩⟩
    clear hSC hFK
    go_wp2_with (first | ((with_reducible refine gate_builtin (b := .append) (xs := #[.tmp 47, .tmp 52]) rfl ?_); at_builtin; refine Kd.N_append k36 (w0 := w) w.heap.size rfl (.tmp 47) (.tmp 52) 22 36 (.agg #[.int .i64 0, .int .i64 0, .int .i64 0, .int .i64 0, .string ⟨#[]⟩, .string ⟨#[]⟩, .string ⟨#[]⟩, .slice none 0 0, .slice none 0 0, .slice none 0 0]) 152 rfl Try.underlying22 info_step rfl (by decide) (by decide) (.slice A6 AB.length c6) AB t [.int .i64 t.f0, .int .i64 t.f1, .int .i64 t.f2, .int .i64 t.f3, .string t.f4, .string t.f5.f0, .string t.f5.f1, .slice B7 t.f5.f2.length d7, .slice B8 t.f5.f3.length d8, .slice B9 t.f6.f0.length d9] (fun _ => True) (fun k => (k < w.heap.size ∨ w8.heap.size ≤ k) ∧ k < w14_.heap.size) rfl rfl HFK.out HKO.out (fun _ _ => trivial) HN3.out HBW3.out HSZ.out (by omega) ?_; intro v6_ w6_ ho hb hg hat; have HN6 := Aside0.mk ho; have HB6 := Aside0.mk hb; have HGR := Aside0.mk hg; have HAT := Aside0.mk hat; clear ho hb hg hat))
    have HG6 := Aside0.mk (Kd.N_grown HG3.out HGR.out (fun k hk => (HKO.out k hk).2))
    have HZ6 := Aside0.mk (show w14_.heap.size ≤ w6_.heap.size from Nat.le_trans HZ3.out HGR.out.size)
    have HOW6 : Aside0 (∀ k, v6_.ownBlock = some k → w.heap.size ≤ k ∧ (k < w8.heap.size ∨ w14_.heap.size ≤ k)) := ⟨fun k hk => by
      rcases HAT.out with h | ⟨b_, h, h2⟩
      · exact HOW.out k (h ▸ hk)
      · rw [h] at hk
        cases hk
        have := HZ3.out
        have := HSZ.out
        exact ⟨by omega, .inr (by omega)⟩⟩
    clear HG3 HZ3 HOW HAT HGR HKO HN3 HBW3 HSZ HFK hx0 hx1 hx2 hx3 hx4 hx5 hx6 hx7 hx8 hx9
    refine (few_callsN w A0 c0 l w6_ HB6.out HC.out.2 HC.out.1).mono ?_
    rintro e w7 ⟨v, rfl, hN, hb⟩
    rw [← HFa.out] at hN
    obtain ⟨Af, cf, rfl⟩ := Kd.N_slice hN
    have HN7 := Aside0.mk (Kd.N_below HN6.out hb)
    have HG7 := Aside0.mk (Kd.N_below HG6.out hb)
    have HB7 := Aside0.mk (below_step HB6.out hb)
    have HZ7 := Aside0.mk (Nat.le_trans HZ6.out hb.size)
    clear hN hb HN6 HG6 HB6 HZ6
    have hcat1 : ¬ (9223372036854775807 < (a.size : Int) + (q.size : Int)) := by omega
    have hcat2 : ¬ (9223372036854775807 < (b.size : Int) + (q.size : Int)) := by omega
    have HPG2 := Aside0.mk (show ∀ x ∈ AB ++ [t], x ∈ G ∧ okB x = true from fun x hx => (List.mem_append.1 hx).elim (HPG.out x) (fun h => by rw [List.mem_singleton.1 h]; exact ⟨HTG.out, HOB.out⟩))
    by_cases hfl : i < FL.length
    · have hb3 : decide ((i : Int) < (FL.length : Int)) = true := decide_eq_true (by omega)
      have hb3n : decide (i < FL.length) = true := decide_eq_true hfl
      have hw1 := wrap_small (n := (n : Int) + 1) (by omega) (by omega)
      have hpb := HPB.out (by omega)
      have hpbb := HPB
      have eab : AB ++ [t] = (PA ++ [t]) ++ [] := by rw [HAB.out, hpb, List.append_nil, List.append_nil]
      have ebb : b = strOfNums (printL []) := by rw [HBS.out, hpb]
      have eaa : a ++ q = strOfNums (printL (PA ++ [t])) := by rw [HA.out, HQ.out, printL_snoc, str_append]
      have enn : n + 1 = (PA ++ [t]).length := by rw [HNP.out, List.length_append]; rfl
      have HEE := Aside0.mk (And.intro eab (And.intro ebb (And.intro eaa enn)))
      have HP0 := Aside0.mk (congrArg List.length hpb)
      clear eab ebb eaa enn hpb hpbb
      go_wp2_with fail
      go_roundg (61 - (i + 1))
      case measure => have := HE.out; omega
      case rel => exact ⟨PA ++ [t], [], i + 1, by rw [HEE.out.2.2.1], by rw [HEE.out.2.1], by rw [← HEE.out.2.2.2]; go_num, by go_num, ⟨by have := HE.out; omega⟩, ⟨by omega⟩, ⟨by have h1 := HPL.out; have h2 := HEE.out.2.2.2; have h3 := HNP.out; simp only [List.length_nil]; omega⟩, ⟨fun _ => rfl⟩, by rw [← HEE.out.1]; exact HPG2, by rw [← HEE.out.1]; exact HN7, HOW6, HG7, HB7, HZ7⟩
    · have hb3 : decide ((i : Int) < (FL.length : Int)) = false := decide_eq_false (by omega)
      have hb3n : decide (i < FL.length) = false := decide_eq_false hfl
      have eab : AB ++ [t] = PA ++ (PB ++ [t]) := by rw [HAB.out, List.append_assoc]
      have ebb : b ++ q = strOfNums (printL (PB ++ [t])) := by rw [HBS.out, HQ.out, printL_snoc, str_append]
      have enn : (PB ++ [t]).length = PB.length + 1 := by rw [List.length_append]; rfl
      have HEE := Aside0.mk (And.intro eab (And.intro ebb enn))
      clear eab ebb enn
      go_wp2_with fail
      go_roundg (61 - (i + 1))
      case measure => have := HE.out; omega
      case rel => exact ⟨PA, PB ++ [t], i + 1, by rw [HA.out], by rw [HEE.out.2.1], by rw [HNP.out], by go_num, ⟨by have := HE.out; omega⟩, ⟨by omega⟩, ⟨by have h1 := HPL.out; have h2 := HEE.out.2.2; omega⟩, ⟨fun h => by omega⟩, by rw [← HEE.out.1]; exact HPG2, by rw [← HEE.out.1]; exact HN7, HOW6, HG7, HB7, HZ7⟩
theorem scriptJoins_law (vs : Value) (x : List S36) (vs' : Value) (x' : List S36) (w : World) (y : (Kd.slice 36 k36).K w x [vs]) (hx : ∀ t ∈ x, Gen.OkInS t) (y' : (Kd.slice 36 k36).K w x' [vs']) (hx' : ∀ t ∈ x', Gen.OkInS t) :
    Calls Try.prog 3 #[vs, vs'] w fun e w' => e = .returned (.bool true) ∧ Below w.heap.size w w' := by
  obtain ⟨A, c, e, hc, hC⟩ := y
  obtain rfl : vs = .slice A x.length c := by simpa using e
  obtain ⟨A', c', e', hc', hC'⟩ := y'
  obtain rfl : vs' = .slice A' x'.length c' := by simpa using e'
  exact scriptJoins_walk A c x A' c' x' w hC hc (fun t ht => inS_of (hx t ht)) hC' hc' (fun t ht => inS_of (hx' t ht))
end Go.Proofs.Ytocpcnmnhckcpaa.Prt
