/- General lemmas for the walks: make with a capacity of its own. -/
import Derived.Test.YtnkaighdajickaaB0
namespace Go.Proofs.Ytnkaighdajickaa.Gen
open Go.RowKit Go.Proofs.YtnkaighdajickaaW.PrintWords Go.Proofs.YtnkaighdajickaaW.PrintLast Go.Proofs.YtnkaighdajickaaW.PrintMore
set_option linter.unusedVariables false
set_option linter.unusedSimpArgs false

section
variable {P : Program} {ops : Array Oper} {rest : List Oper} {o : Oper} {a : Act} {Q : Exit → Act → World → Prop} {α : Type}
/-- make([]T, n, c): n elements, each z0. -/
theorem R_makeCap (d : Kd α) {w0 W : World} (base e : Nat) (hgd : o.guard = none) (t : TypeId) (x y : Operand) (ho : o.op = .makeSlice t x y) (n c : Int) (hx : a.eval x = .int .i64 n) (hy : a.eval y = .int .i64 c)
    (ht : P.underlying t = some (.slice e)) (z : Value) (bytes : Nat) (hinfo : (P.info? e).map (fun i => (i.zero, i.size, i.bytes)) = some (some z, d.sz, bytes)) (hz : z.cells.size = d.sz) (hs0 : 0 < d.sz) (hb0 : 0 < bytes)
    (z0 : α) (hzero : ∀ W' base' ok', d.M W' base' ok' z0 z.cells.toList) (h0 : 0 ≤ n) (hnc : n ≤ c) (hl : c.toNat * bytes ≤ 281474976710656) (HB : Below base w0 W) (hbase : base ≤ W.heap.size)
    (h : ∀ v1 w1, d.R e w1 W.heap.size (fun _ => True) v1 (List.replicate n.toNat z0) → Below base w0 w1 → W.grownBy w1 none → (∃ b, v1.ownBlock = some b ∧ W.heap.size ≤ b) → wpList P ops Q rest (a.put o.dst v1) w1) : wpList P ops Q (o :: rest) a W := by
  obtain ⟨m, rfl⟩ := Int.eq_ofNat_of_zero_le h0
  obtain ⟨k, rfl⟩ := Int.eq_ofNat_of_zero_le (Int.le_trans h0 hnc)
  simp only [Int.toNat_natCast] at hl h
  have hmk : m ≤ k := by omega
  obtain ⟨i0, hi, hzz⟩ := Option.map_eq_some_iff.1 hinfo
  simp only [Prod.mk.injEq] at hzz
  obtain ⟨hz0, hz1, hz2⟩ := hzz
  have hm : k ≤ 281474976710656 := Nat.le_trans (Nat.le_mul_of_pos_right _ hb0) hl
  have hr := run_make (P := P) W t e i0 z ht hi hz0 .i64 .i64 (m : Int) (k : Int) (by omega) (by omega)
    (by
      have h3 : ((i0.bytes * k : Nat) : Int) ≤ 281474976710656 := by rw [hz2, Nat.mul_comm]; omega
      rwa [Int.natCast_mul] at h3) (by omega)
  simp only [Int.toNat_natCast] at hr
  rw [hz1] at hr
  refine Kd.event_run hgd (by simp [execOp, ho, hx, hy, hr]; exact ⟨rfl, rfl⟩) (h _ _ ⟨fun _ _ => trivial, (madeCells z.cells (m * d.sz)).toList, ?_, ?_⟩ (HB.alloc hbase _) (World.grownBy_alloc W _ none) ⟨W.heap.size, by simp [Value.ownBlock], Nat.le_refl _⟩)
  · rw [List.length_replicate]
    refine ⟨by simp [size_madeCells], .inr ⟨W.heap.size, k, madeCells z.cells (k * d.sz), rfl, Nat.le_refl _, heap_alloc_new W _, hmk, by simp only [maxLen]; omega, size_madeCells _ _, ?_⟩⟩
    have hle : m * d.sz ≤ k * d.sz := Nat.mul_le_mul_right _ hmk
    apply List.ext_getElem
    · simp only [List.length_take, Array.length_toList, size_madeCells]; omega
    · intro i h1 h2
      simp [madeCells]
  · exact Kd.reps_made hz hs0 (hzero _ _ _) m
/-- append(v, s...), s a string. -/
theorem R_append_str {w0 W : World} (base : Nat) (hgd : o.guard = none) (s x : Operand) (t u e : TypeId)
    (ho : o.op = .call { callee := .builtin .append, args := #[s, x], argTypes := #[t, u] })
    (ht : P.underlying t = some (.slice e)) (hu : P.underlying u = some .string) (hinfo : (P.info? e).map (fun i => (i.zero, i.size, i.bytes)) = some (some (.int .u8 0), 1, 1))
    (v : Value) (xs : List Int) (y : ByteArray) (hs : a.eval s = v) (hx : a.eval x = .string y)
    (HO : (Kd.int .u8).R e W base (fun _ => True) v xs) (HB : Below base w0 W) (hbase : base ≤ W.heap.size) (hl : xs.length + y.size ≤ 140737488355328)
    (h : ∀ v1 w1, (Kd.int .u8).R e w1 base (fun _ => True) v1 (xs ++ bytesOf y) → Below base w0 w1 → W.grownBy w1 v.ownBlock → wpList P ops Q rest (a.put o.dst v1) w1) :
    wpList P ops Q (o :: rest) a W :=
  print_append_str base hgd s x t u e ho ht hu hinfo v xs y hs hx (Kd.own_of_R HO) HB hbase hl (fun v1 w1 hw hb hg => h v1 w1 (Kd.R_of_own hw (fun _ _ => trivial)) hb hg)
/-- []byte(s) -/
theorem ev_bytes {w0 W : World} (base : Nat) (hgd : o.guard = none) (src dst e : TypeId) (x : Operand) (ho : o.op = .convert src dst x) (hs : P.underlying src = some .string) (hd : P.underlying dst = some (.slice e)) (he : P.underlying e = some (.int .u8))
    (s : ByteArray) (hx : a.eval x = .string s) (hn : s.size ≤ 9223372036854775807) (HB : Below base w0 W) (hbase : base ≤ W.heap.size)
    (h : ∀ A c w1, (Kd.int .u8).C w1 A s.size (bytesOf s) → s.size ≤ c → Below base w0 w1 → Below W.heap.size W w1 → wpList P ops Q rest (a.put o.dst (.slice A s.size c)) w1) :
    wpList P ops Q (o :: rest) a W := by
  refine Kd.event_run hgd (v := .slice (some ⟨W.heap.size, 0, none⟩) s.size (grownCap W s.size 0 e)) (w1 := Lib.bytesWorld W e s) ?_ (h _ _ _ (Kd.C_of_reads (d := (0 : Int)) (h1 := fun _ => rfl) (bytes_reads W e s hn)) ?_ (bytes_below HB hbase e s) (bytes_below (Below.refl _ _) (Nat.le_refl _) e s))
  · have hr := print_bytes (P := P) src dst e hs hd he s W
    simp [execOp, ho, hx, hr]
  · exact grownCap_ge W s.size 0 e
/-- string(b) -/
theorem ev_string {W : World} (hgd : o.guard = none) (src dst e : TypeId) (x : Operand) (ho : o.op = .convert src dst x) (hs : P.underlying src = some (.slice e)) (hd : P.underlying dst = some .string) (he : P.underlying e = some (.int .u8))
    {A : Option Addr} {n c : Nat} {xs : List Int} (hx : a.eval x = .slice A n c) (HR : (Kd.int .u8).C W A n xs)
    (h : wpList P ops Q rest (a.put o.dst (.string (strOfNums xs))) W) :
    wpList P ops Q (o :: rest) a W := by
  refine Kd.event_run hgd (v := .string (strOfNums xs)) (w1 := W) ?_ h
  have hr := Kd.C_string (P := P) (c := c) hs he hd HR
  simp [execOp, ho, hx, hr]
/-- string(b), told as the string that it is. -/
theorem ev_string' {W : World} (s : ByteArray) (hgd : o.guard = none) (src dst e : TypeId) (x : Operand) (ho : o.op = .convert src dst x) (hs : P.underlying src = some (.slice e)) (hd : P.underlying dst = some .string) (he : P.underlying e = some (.int .u8))
    {A : Option Addr} {n c : Nat} {xs : List Int} (hx : a.eval x = .slice A n c) (HR : (Kd.int .u8).C W A n xs) (hS : strOfNums xs = s)
    (h : wpList P ops Q rest (a.put o.dst (.string s)) W) :
    wpList P ops Q (o :: rest) a W := by
  subst hS; exact ev_string hgd src dst e x ho hs hd he hx HR h
end
end Go.Proofs.Ytnkaighdajickaa.Gen
