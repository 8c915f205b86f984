/- General lemmas for the walks: make with a capacity of its own. -/
import Derived.Test.YtkbnckpcllfikaaB0
namespace Go.Proofs.Ytkbnckpcllfikaa.Gen
open Go.RowKit Go.Proofs.YtkbnckpcllfikaaW.PrintWords Go.Proofs.YtkbnckpcllfikaaW.PrintLast Go.Proofs.YtkbnckpcllfikaaW.PrintMore
set_option linter.unusedVariables false
set_option linter.unusedSimpArgs false

section
variable {P : Program} {ops : Array Oper} {rest : List Oper} {o : Oper} {a : Act} {Q : Exit → Act → World → Prop} {α : Type}
/-- make([]T, n, c): n elements, each z0. -/
theorem R_makeCap (d : Kd α) {w0 W : World} (base e : Nat) (hgd : o.guard = none) (t : TypeId) (x y : Operand) (ho : o.op = .makeSlice t x y) (n c : Int) (hx : a.eval x = .int .i64 n) (hy : a.eval y = .int .i64 c)
    (ht : P.underlying t = some (.slice e)) (z : Value) (bytes : Nat) (hinfo : (P.info? e).map (fun i => (i.zero, i.size, i.bytes)) = some (some z, d.sz, bytes)) (hz : z.cells.size = d.sz) (hs0 : 0 < d.sz) (hb0 : 0 < bytes)
    (z0 : α) (hzero : ∀ W' base' ok', d.M W' base' ok' z0 z.cells.toList) (h0 : 0 ≤ n) (hnc : n ≤ c) (hl : c.toNat * bytes ≤ 281474976710656) (HB : Below base w0 W) (hbase : base ≤ W.heap.size)
    (h : ∀ v1 w1, d.R e w1 W.heap.size (fun _ => True) v1 (List.replicate n.toNat z0) → Below base w0 w1 → W.grownBy w1 none → (∃ b, v1.ownBlock = some b ∧ W.heap.size ≤ b) → wpList P ops Q rest (a.put o.dst v1) w1) : wpList P ops Q (o :: rest) a W := by
  obtain ⟨m, rfl⟩ := Int.eq_ofNat_of_zero_le h0
  obtain ⟨k, rfl⟩ := Int.eq_ofNat_of_zero_le (Int.le_trans h0 hnc)
  simp only [Int.toNat_natCast] at hl h
  have hmk : m ≤ k := by omega
  obtain ⟨i0, hi, hzz⟩ := Option.map_eq_some_iff.1 hinfo
  simp only [Prod.mk.injEq] at hzz
  obtain ⟨hz0, hz1, hz2⟩ := hzz
  have hm : k ≤ 281474976710656 := Nat.le_trans (Nat.le_mul_of_pos_right _ hb0) hl
  have hr := run_make (P := P) W t e i0 z ht hi hz0 .i64 .i64 (m : Int) (k : Int) (by omega) (by omega)
    (by
      have h3 : ((i0.bytes * k : Nat) : Int) ≤ 281474976710656 := by rw [hz2, Nat.mul_comm]; omega
      rwa [Int.natCast_mul] at h3) (by omega)
  simp only [Int.toNat_natCast] at hr
  rw [hz1] at hr
  refine Kd.event_run hgd (by simp [execOp, ho, hx, hy, hr]; exact ⟨rfl, rfl⟩) (h _ _ ⟨fun _ _ => trivial, (madeCells z.cells (m * d.sz)).toList, ?_, ?_⟩ (HB.alloc hbase _) (World.grownBy_alloc W _ none) ⟨W.heap.size, by simp [Value.ownBlock], Nat.le_refl _⟩)
  · rw [List.length_replicate]
    refine ⟨by simp [size_madeCells], .inr ⟨W.heap.size, k, madeCells z.cells (k * d.sz), rfl, Nat.le_refl _, heap_alloc_new W _, hmk, by simp only [maxLen]; omega, size_madeCells _ _, ?_⟩⟩
    have hle : m * d.sz ≤ k * d.sz := Nat.mul_le_mul_right _ hmk
    apply List.ext_getElem
    · simp only [List.length_take, Array.length_toList, size_madeCells]; omega
    · intro i h1 h2
      simp [madeCells]
  · exact Kd.reps_made hz hs0 (hzero _ _ _) m
/-- append(v, s...), s a string. -/
theorem R_append_str {w0 W : World} (base : Nat) (hgd : o.guard = none) (s x : Operand) (t u e : TypeId)
    (ho : o.op = .call { callee := .builtin .append, args := #[s, x], argTypes := #[t, u] })
    (ht : P.underlying t = some (.slice e)) (hu : P.underlying u = some .string) (hinfo : (P.info? e).map (fun i => (i.zero, i.size, i.bytes)) = some (some (.int .u8 0), 1, 1))
    (v : Value) (xs : List Int) (y : ByteArray) (hs : a.eval s = v) (hx : a.eval x = .string y)
    (HO : (Kd.int .u8).R e W base (fun _ => True) v xs) (HB : Below base w0 W) (hbase : base ≤ W.heap.size) (hl : xs.length + y.size ≤ 140737488355328)
    (h : ∀ v1 w1, (Kd.int .u8).R e w1 base (fun _ => True) v1 (xs ++ bytesOf y) → Below base w0 w1 → W.grownBy w1 v.ownBlock → wpList P ops Q rest (a.put o.dst v1) w1) :
    wpList P ops Q (o :: rest) a W :=
  print_append_str base hgd s x t u e ho ht hu hinfo v xs y hs hx (Kd.own_of_R HO) HB hbase hl (fun v1 w1 hw hb hg => h v1 w1 (Kd.R_of_own hw (fun _ _ => trivial)) hb hg)
/-- []byte(s) -/
theorem ev_bytes {w0 W : World} (base : Nat) (hgd : o.guard = none) (src dst e : TypeId) (x : Operand) (ho : o.op = .convert src dst x) (hs : P.underlying src = some .string) (hd : P.underlying dst = some (.slice e)) (he : P.underlying e = some (.int .u8))
    (s : ByteArray) (hx : a.eval x = .string s) (hn : s.size ≤ 9223372036854775807) (HB : Below base w0 W) (hbase : base ≤ W.heap.size)
    (h : ∀ A c w1, (Kd.int .u8).C w1 A s.size (bytesOf s) → s.size ≤ c → Below base w0 w1 → Below W.heap.size W w1 → wpList P ops Q rest (a.put o.dst (.slice A s.size c)) w1) :
    wpList P ops Q (o :: rest) a W := by
  refine Kd.event_run hgd (v := .slice (some ⟨W.heap.size, 0, none⟩) s.size (grownCap W s.size 0 e)) (w1 := Lib.bytesWorld W e s) ?_ (h _ _ _ (Kd.C_of_reads (d := (0 : Int)) (h1 := fun _ => rfl) (bytes_reads W e s hn)) ?_ (bytes_below HB hbase e s) (bytes_below (Below.refl _ _) (Nat.le_refl _) e s))
  · have hr := print_bytes (P := P) src dst e hs hd he s W
    simp [execOp, ho, hx, hr]
  · exact grownCap_ge W s.size 0 e
/-- string(b) -/
theorem ev_string {W : World} (hgd : o.guard = none) (src dst e : TypeId) (x : Operand) (ho : o.op = .convert src dst x) (hs : P.underlying src = some (.slice e)) (hd : P.underlying dst = some .string) (he : P.underlying e = some (.int .u8))
    {A : Option Addr} {n c : Nat} {xs : List Int} (hx : a.eval x = .slice A n c) (HR : (Kd.int .u8).C W A n xs)
    (h : wpList P ops Q rest (a.put o.dst (.string (strOfNums xs))) W) :
    wpList P ops Q (o :: rest) a W := by
  refine Kd.event_run hgd (v := .string (strOfNums xs)) (w1 := W) ?_ h
  have hr := Kd.C_string (P := P) (c := c) hs he hd HR
  simp [execOp, ho, hx, hr]
/-- string(b), told as the string that it is. -/
theorem ev_string' {W : World} (s : ByteArray) (hgd : o.guard = none) (src dst e : TypeId) (x : Operand) (ho : o.op = .convert src dst x) (hs : P.underlying src = some (.slice e)) (hd : P.underlying dst = some .string) (he : P.underlying e = some (.int .u8))
    {A : Option Addr} {n c : Nat} {xs : List Int} (hx : a.eval x = .slice A n c) (HR : (Kd.int .u8).C W A n xs) (hS : strOfNums xs = s)
    (h : wpList P ops Q rest (a.put o.dst (.string s)) W) :
    wpList P ops Q (o :: rest) a W := by
  subst hS; exact ev_string hgd src dst e x ho hs hd he hx HR h
/-- append([]T{}, ys...): a copy; nothing that was there is written. -/
theorem fresh_run (d : Kd α) {W : World} (t ty e : TypeId) (z : Value) (bytes : Nat)
    (ht : P.underlying t = some (.slice e)) (hinfo : (P.info? e).map (fun i => (i.zero, i.size, i.bytes)) = some (some z, d.sz, bytes)) (hs0 : 0 < d.sz) (hb0 : 0 < bytes)
    (g : Nat) (A : Option Addr) (m c : Nat) (ys : List α) (HR : d.C W A m ys) (hl : m * bytes ≤ 140737488355328) :
    ∃ A1 c1 w1, (Builtin.append_ #[t, t] ty #[.slice (some ⟨g, 0, none⟩) 0 0, .slice A m c]).run P W = .ok (.slice A1 m c1) w1 ∧ m ≤ c1 ∧ d.C w1 A1 m ys ∧ Below W.heap.size W w1 := by
  obtain ⟨i0, hi, hzz⟩ := Option.map_eq_some_iff.1 hinfo
  simp only [Prod.mk.injEq] at hzz
  obtain ⟨hz0, hz1, hz2⟩ := hzz
  have hm : ys.length = m := HR.1
  have hlen : m ≤ 140737488355328 := Nat.le_trans (Nat.le_mul_of_pos_right _ hb0) hl
  rcases Nat.eq_zero_or_pos m with h0 | h0
  · subst h0
    obtain rfl : ys = [] := List.eq_nil_of_length_eq_zero hm
    refine ⟨some ⟨g, 0, none⟩, 0, W, ?_, Nat.le_refl _, ⟨rfl, by omega, fun h => absurd h (Nat.lt_irrefl 0)⟩, Below.refl _ _⟩
    rcases A with _ | ad
    · simp [Builtin.append_, run_underlying ht, sizeOf, typeInfo, hi, Builtin.lenOf, Builtin.firstCells, storeCells]
    · simp [Builtin.append_, run_underlying ht, sizeOf, typeInfo, hi, Builtin.lenOf, Builtin.firstCells, loadCells, loadCellsFrom, storeCells]
  · obtain ⟨ad, rfl, _⟩ := HR.2.2 h0
    obtain ⟨news, hnr, hnc⟩ := ReadsRow.inner_ HR
    have hnl : news.length = m * i0.size := by rw [hnr.1, hm, hz1]
    have hr := run_append_grow (P := P) W t ty e i0 z ht hi hz0 ⟨g, 0, none⟩ 0 0 [] (by simp) (fun j v hj => by simp at hj) ad m c news hnl hnc (by omega) (by omega) (growslice_fits (by omega) (by rw [hz2]; simpa using hl))
    simp only [Nat.zero_add, List.nil_append, Array.empty_append] at hr
    have hb : Below W.heap.size W (W.drew.alloc (.cells (news.toArray ++ Builtin.zeroCells z.cells (grownCap W m 0 e - m)) e)) := below_alloc (below_drew (Below.refl _ _)) _
    refine ⟨_, _, _, hr, grownCap_ge W m 0 e, ⟨hm, by omega, fun _ => ⟨_, rfl, fun j p hj => ?_⟩⟩, hb⟩
    have hjl : j < m := by rw [← hm]; exact (List.getElem?_eq_some_iff.1 hj).1
    refine ⟨(news.drop (j * d.sz)).take d.sz, ?_, d.K_below hb (hnr.2 j p hj), fun k u hu => ?_⟩
    · have hle : j * d.sz + d.sz ≤ news.length := by rw [hnl, hz1, ← Nat.succ_mul]; exact Nat.mul_le_mul_right _ hjl
      rw [List.length_take, List.length_drop]; omega
    · rw [add_plain]
      have hk : k < d.sz := by
        have := (List.getElem?_eq_some_iff.1 hu).1
        rw [List.length_take] at this
        omega
      rw [List.getElem?_take, if_pos hk, List.getElem?_drop] at hu
      have hkl := (List.getElem?_eq_some_iff.1 hu).1
      have hcell := cell_of_row (W.drew.alloc (.cells (news.toArray ++ Builtin.zeroCells z.cells (grownCap W m 0 e - m)) e)) W.heap.size (j * d.sz + k) _ e (0, 0) (heap_alloc_new W.drew _)
      rw [hcell, Array.getElem?_append_left (by simpa using hkl)]
      simpa using hu
theorem fresh_step {Kc : Act → World → Prop} (d : Kd α) {W : World} (hw : Region.wanted o (yielded ops a.tmps) = true) (s x : Operand) (t e : TypeId) (z : Value) (bytes : Nat)
    (ho : o.op = .call { callee := .builtin .append, args := #[s, x], argTypes := #[t, t] })
    (ht : P.underlying t = some (.slice e)) (hinfo : (P.info? e).map (fun i => (i.zero, i.size, i.bytes)) = some (some z, d.sz, bytes)) (hs0 : 0 < d.sz) (hb0 : 0 < bytes)
    (g : Nat) (A : Option Addr) (m c : Nat) (ys : List α) (hs : a.eval s = .slice (some ⟨g, 0, none⟩) 0 0) (hx : a.eval x = .slice A m c) (HR : d.C W A m ys) (hl : m * bytes ≤ 140737488355328)
    (h : ∀ A1 c1 w1, m ≤ c1 → d.C w1 A1 m ys → Below W.heap.size W w1 → Kc (a.put o.dst (.slice A1 m c1)) w1) :
    if Region.wanted o (yielded ops a.tmps) = true then Oper.wp P o a W Kc Q else Kc (a.put o.dst undef) W := by
  obtain ⟨A1, c1, w1, hr, h1, h2, h3⟩ := fresh_run (P := P) d t o.type e z bytes ht hinfo hs0 hb0 g A m c ys HR hl
  refine event_step hw (v := .slice A1 m c1) (w1 := w1) ?_ (h _ _ _ h1 h2 h3)
  unfold execOp
  simp only [ho, resolve, invoke, builtin, Sem.run_bind, Sem.run_pure, Result.andThen_ok, List.map_toArray, List.map_cons, List.map_nil, hs, hx, hr]
theorem fresh_list (d : Kd α) {W : World} (hgd : o.guard = none) (s x : Operand) (t e : TypeId) (z : Value) (bytes : Nat)
    (ho : o.op = .call { callee := .builtin .append, args := #[s, x], argTypes := #[t, t] })
    (ht : P.underlying t = some (.slice e)) (hinfo : (P.info? e).map (fun i => (i.zero, i.size, i.bytes)) = some (some z, d.sz, bytes)) (hs0 : 0 < d.sz) (hb0 : 0 < bytes)
    (g : Nat) (A : Option Addr) (m c : Nat) (ys : List α) (hs : a.eval s = .slice (some ⟨g, 0, none⟩) 0 0) (hx : a.eval x = .slice A m c) (HR : d.C W A m ys) (hl : m * bytes ≤ 140737488355328)
    (h : ∀ A1 c1 w1, m ≤ c1 → d.C w1 A1 m ys → Below W.heap.size W w1 → wpList P ops Q rest (a.put o.dst (.slice A1 m c1)) w1) :
    wpList P ops Q (o :: rest) a W := by
  obtain ⟨A1, c1, w1, hr, h1, h2, h3⟩ := fresh_run (P := P) d t o.type e z bytes ht hinfo hs0 hb0 g A m c ys HR hl
  refine Kd.event_run hgd (v := .slice A1 m c1) (w1 := w1) ?_ (h _ _ _ h1 h2 h3)
  unfold execOp
  simp only [ho, resolve, invoke, builtin, Sem.run_bind, Sem.run_pure, Result.andThen_ok, List.map_toArray, List.map_cons, List.map_nil, hs, hx, hr]
end
end Go.Proofs.Ytkbnckpcllfikaa.Gen
