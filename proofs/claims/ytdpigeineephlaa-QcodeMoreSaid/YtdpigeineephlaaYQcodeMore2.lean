/- The common imports of the walks of this seat; no theorem. General lemmas for the walks: make with a capacity of its own. Numbers and texts as bytes: the plain functions (no program in sight). Strings and lists of bytes. Walks of package num: the functions that lay numbers down. The reference's text behind bytes: its walk. Walks of package num and of its reference: the readers. Walks of package num and of its reference: texts taken. Functions of the program, told as plain functions, with their walks: written by a program of this claim's out of the translation. Names as lists of bytes: what is a name, and what runes Go's decoder makes of its bytes; what the reference's functions come to. Whether a text is a name, or a tag: what the program's functions answer. Predicates over rows: plain laws. Rows of texts that rise; tags. The contracts of numbers and texts as bytes, in the form that the printed functions ask. Texts as bytes, one behind the other. The reference's names, in closed form. The reference's tags, in closed form. The reference's rows of texts: they rise, they are the same: in closed form. What readers take, in plain words; rows beside a reader. qcode.list over texts: its walk. qcode.list over clauses: its walk. Queries as bytes: the walks of qcode.put and its closure. The contracts of name.May and name.MayTag, in the form that the printed functions ask. Whether texts rise: the walk of query.rise (IsSorted, Clone, Compact). Whether texts rise: the walk of query.rise. -/
import Derived.Test.YtdpigeineephlaaProg
import Derived.Below
import Derived.Deep.Draws
import Derived.Deep.AppendLies
import Derived.Maps.AppendAt
import Derived.OwnWalk
import Derived.Laws.BytesArg
import Derived.Laws.MakeOwn
import Derived.Laws.OwnMore
import Derived.Deep.OwnRows
import Derived.Tactics
import Derived.Lib.ConvBytes
import Derived.Laws.Slices
import Derived.WalkKit
import Derived.KernelRfl
import Derived.RowKit3
import Derived.Deep.LoopGhost
import Derived.Deep.QuietTactic
import Derived.BigQuiet
import Derived.WideLaws
import Derived.Deep.DeepCutAuto
import Derived.Deep.CutBlock
import Derived.Deep.RegionHeld3
import Derived.Laws.Rows
import Derived.Lib.AppendStr
import Derived.ArgAppend
import Derived.Laws.IdiomCopy
import Derived.OrdersHeld
import Derived.Laws.BitsLemmas
import Derived.RowKit
import Derived.Outline
import Derived.Laws.BitsAllLaws
import Derived.Laws.StructEq
import Derived.Laws.Cover1
import Derived.Test.YtdpigeineephlaaShelf
import Derived.Lib.OthersKept
import Derived.Shelf.Abstract
import Derived.Lib.LazyBuf
import Derived.Test.YtdpigeineephlaaYQcodeMore1

namespace Go.Proofs.Ytdpigeineephlaa.Gen
open Go.RowKit Go.Proofs.YtdpigeineephlaaW.PrintWords Go.Proofs.YtdpigeineephlaaW.PrintLast Go.Proofs.YtdpigeineephlaaW.PrintMore
set_option linter.unusedVariables false
set_option linter.unusedSimpArgs false

section
variable {P : Program} {ops : Array Oper} {rest : List Oper} {o : Oper} {a : Act} {Q : Exit → Act → World → Prop} {α : Type}
/-- make([]T, n, c): n elements, each z0. -/
theorem R_makeCap (d : Kd α) {w0 W : World} (base e : Nat) (hgd : o.guard = none) (t : TypeId) (x y : Operand) (ho : o.op = .makeSlice t x y) (n c : Int) (hx : a.eval x = .int .i64 n) (hy : a.eval y = .int .i64 c)
    (ht : P.underlying t = some (.slice e)) (z : Value) (bytes : Nat) (hinfo : (P.info? e).map (fun i => (i.zero, i.size, i.bytes)) = some (some z, d.sz, bytes)) (hz : z.cells.size = d.sz) (hs0 : 0 < d.sz) (hb0 : 0 < bytes)
    (z0 : α) (hzero : ∀ W' base' ok', d.M W' base' ok' z0 z.cells.toList) (h0 : 0 ≤ n) (hnc : n ≤ c) (hl : c.toNat * bytes ≤ 281474976710656) (HB : Below base w0 W) (hbase : base ≤ W.heap.size)
    (h : ∀ v1 w1, d.R e w1 W.heap.size (fun _ => True) v1 (List.replicate n.toNat z0) → Below base w0 w1 → W.grownBy w1 none → (∃ b, v1.ownBlock = some b ∧ W.heap.size ≤ b) → wpList P ops Q rest (a.put o.dst v1) w1) : wpList P ops Q (o :: rest) a W := by
  obtain ⟨m, rfl⟩ := Int.eq_ofNat_of_zero_le h0
  obtain ⟨k, rfl⟩ := Int.eq_ofNat_of_zero_le (Int.le_trans h0 hnc)
  simp only [Int.toNat_natCast] at hl h
  have hmk : m ≤ k := by omega
  obtain ⟨i0, hi, hzz⟩ := Option.map_eq_some_iff.1 hinfo
  simp only [Prod.mk.injEq] at hzz
  obtain ⟨hz0, hz1, hz2⟩ := hzz
  have hm : k ≤ 281474976710656 := Nat.le_trans (Nat.le_mul_of_pos_right _ hb0) hl
  have hr := run_make (P := P) W t e i0 z ht hi hz0 .i64 .i64 (m : Int) (k : Int) (by omega) (by omega)
    (by
      have h3 : ((i0.bytes * k : Nat) : Int) ≤ 281474976710656 := by rw [hz2, Nat.mul_comm]; omega
      rwa [Int.natCast_mul] at h3) (by omega)
  simp only [Int.toNat_natCast] at hr
  rw [hz1] at hr
  refine Kd.event_run hgd (by simp [execOp, ho, hx, hy, hr]; exact ⟨rfl, rfl⟩) (h _ _ ⟨fun _ _ => trivial, (madeCells z.cells (m * d.sz)).toList, ?_, ?_⟩ (HB.alloc hbase _) (World.grownBy_alloc W _ none) ⟨W.heap.size, by simp [Value.ownBlock], Nat.le_refl _⟩)
  · rw [List.length_replicate]
    refine ⟨by simp [size_madeCells], .inr ⟨W.heap.size, k, madeCells z.cells (k * d.sz), rfl, Nat.le_refl _, heap_alloc_new W _, hmk, by simp only [maxLen]; omega, size_madeCells _ _, ?_⟩⟩
    have hle : m * d.sz ≤ k * d.sz := Nat.mul_le_mul_right _ hmk
    apply List.ext_getElem
    · simp only [List.length_take, Array.length_toList, size_madeCells]; omega
    · intro i h1 h2
      simp [madeCells]
  · exact Kd.reps_made hz hs0 (hzero _ _ _) m
/-- append(v, s...), s a string. -/
theorem R_append_str {w0 W : World} (base : Nat) (hgd : o.guard = none) (s x : Operand) (t u e : TypeId)
    (ho : o.op = .call { callee := .builtin .append, args := #[s, x], argTypes := #[t, u] })
    (ht : P.underlying t = some (.slice e)) (hu : P.underlying u = some .string) (hinfo : (P.info? e).map (fun i => (i.zero, i.size, i.bytes)) = some (some (.int .u8 0), 1, 1))
    (v : Value) (xs : List Int) (y : ByteArray) (hs : a.eval s = v) (hx : a.eval x = .string y)
    (HO : (Kd.int .u8).R e W base (fun _ => True) v xs) (HB : Below base w0 W) (hbase : base ≤ W.heap.size) (hl : xs.length + y.size ≤ 140737488355328)
    (h : ∀ v1 w1, (Kd.int .u8).R e w1 base (fun _ => True) v1 (xs ++ bytesOf y) → Below base w0 w1 → W.grownBy w1 v.ownBlock → wpList P ops Q rest (a.put o.dst v1) w1) :
    wpList P ops Q (o :: rest) a W :=
  print_append_str base hgd s x t u e ho ht hu hinfo v xs y hs hx (Kd.own_of_R HO) HB hbase hl (fun v1 w1 hw hb hg => h v1 w1 (Kd.R_of_own hw (fun _ _ => trivial)) hb hg)
/-- string(b) -/
theorem ev_string {W : World} (hgd : o.guard = none) (src dst e : TypeId) (x : Operand) (ho : o.op = .convert src dst x) (hs : P.underlying src = some (.slice e)) (hd : P.underlying dst = some .string) (he : P.underlying e = some (.int .u8))
    {A : Option Addr} {n c : Nat} {xs : List Int} (hx : a.eval x = .slice A n c) (HR : (Kd.int .u8).C W A n xs)
    (h : wpList P ops Q rest (a.put o.dst (.string (strOfNums xs))) W) :
    wpList P ops Q (o :: rest) a W := by
  refine Kd.event_run hgd (v := .string (strOfNums xs)) (w1 := W) ?_ h
  have hr := Kd.C_string (P := P) (c := c) hs he hd HR
  simp [execOp, ho, hx, hr]
/-- string(b), told as the string that it is. -/
theorem ev_string' {W : World} (s : ByteArray) (hgd : o.guard = none) (src dst e : TypeId) (x : Operand) (ho : o.op = .convert src dst x) (hs : P.underlying src = some (.slice e)) (hd : P.underlying dst = some .string) (he : P.underlying e = some (.int .u8))
    {A : Option Addr} {n c : Nat} {xs : List Int} (hx : a.eval x = .slice A n c) (HR : (Kd.int .u8).C W A n xs) (hS : strOfNums xs = s)
    (h : wpList P ops Q rest (a.put o.dst (.string s)) W) :
    wpList P ops Q (o :: rest) a W := by
  subst hS; exact ev_string hgd src dst e x ho hs hd he hx HR h
end
end Go.Proofs.Ytdpigeineephlaa.Gen
namespace Go.Proofs.Ytdpigeineephlaa.Num

/-- A number from 0 on, seven bits at a time. -/
def encN (u : Nat) : List Int := if h : u < 128 then [(u : Int)] else ((u % 128 + 128 : Nat) : Int) :: encN (u / 128)
termination_by u
decreasing_by omega
def zz (x : Int) : Nat := if x < 0 then (2 * (-(x + 1)) + 1).toNat else (2 * x).toNat
def unzz (u : Nat) : Int := if u % 2 = 1 then -((u / 2 : Nat) : Int) - 1 else ((u / 2 : Nat) : Int)
/-- A number's bytes. -/
def enc (x : Int) : List Int := encN (zz x)
/-- A text's bytes. -/
def encT (s : List Int) : List Int := enc s.length ++ s
/-- From digit i on. -/
def decU : Nat → List Int → Option (Nat × List Int)
  | _, [] => none
  | i, c :: r => if 10 ≤ i then none else if 128 ≤ c then (decU (i + 1) r).bind fun q => some (q.1 * 128 + (c - 128).toNat, q.2) else if c = 0 ∧ 0 < i ∨ i = 9 ∧ 1 < c then none else some (c.toNat, r)
def dec (b : List Int) : Option (Int × List Int) := (decU 0 b).bind fun q => some (unzz q.1, q.2)
def decT (b : List Int) : Option (List Int × List Int) := (dec b).bind fun q => if q.1 < 0 ∨ (q.2.length : Int) < q.1 then none else some (q.2.take q.1.toNat, q.2.drop q.1.toNat)
def isBytes (b : List Int) : Prop := ∀ c ∈ b, 0 ≤ c ∧ c < 256

theorem encN_lt {u : Nat} (h : u < 128) : encN u = [(u : Int)] := by rw [encN, dif_pos h]
theorem encN_ge {u : Nat} (h : 128 ≤ u) : encN u = ((u % 128 + 128 : Nat) : Int) :: encN (u / 128) := by rw [encN, dif_neg (by omega)]
theorem encN_pos (u : Nat) : 1 ≤ (encN u).length := by
  by_cases h : u < 128
  · rw [encN_lt h]; simp
  · rw [encN_ge (by omega)]; simp
theorem encN_len (n : Nat) : ∀ u, u < 128 ^ (n + 1) → (encN u).length ≤ n + 1 := by
  induction n with
  | zero => intro u hu; rw [encN_lt (by simpa using hu)]; simp
  | succ n ih =>
    intro u hu
    by_cases h : u < 128
    · rw [encN_lt h]; simp
    · rw [encN_ge (by omega)]
      have := ih (u / 128) (by rw [Nat.div_lt_iff_lt_mul (by decide)]; rw [Nat.pow_succ] at hu; exact hu)
      simp only [List.length_cons]; omega
theorem encN_len10 {u : Nat} (h : u < 18446744073709551616) : (encN u).length ≤ 10 := encN_len 9 u (Nat.lt_of_lt_of_le h (by decide))
theorem encN_bytes : ∀ u, isBytes (encN u) := by
  intro u
  induction u using Nat.strongRecOn with
  | ind u ih =>
    by_cases hu : u < 128
    · rw [encN_lt hu]; intro c hc; rw [List.mem_singleton.1 hc]; omega
    · rw [encN_ge (by omega)]
      intro c hc
      rcases List.mem_cons.1 hc with rfl | hc
      · omega
      · exact ih _ (by omega) c hc

theorem decU_enc : ∀ (u i : Nat) (r : List Int), i < 10 → u < 2 * 128 ^ (9 - i) → (i = 0 ∨ 0 < u) → decU i (encN u ++ r) = some (u, r) := by
  intro u
  induction u using Nat.strongRecOn with
  | ind u ih =>
    intro i r hi hu h0
    by_cases h : u < 128
    · rw [encN_lt h, List.singleton_append, decU, if_neg (by omega), if_neg (by omega), if_neg ?_]
      · simp
      · rintro (⟨h1, h2⟩ | ⟨rfl, h2⟩)
        · omega
        · simp at hu; omega
    · have hi9 : i ≤ 8 := by
        rcases Nat.lt_or_ge i 9 with h1 | h1
        · omega
        · obtain rfl : i = 9 := by omega
          simp at hu; omega
      rw [encN_ge (by omega), List.cons_append, decU, if_neg (by omega), if_pos (by omega), ih (u / 128) (by omega) (i + 1) r (by omega) ?_ (.inr (by omega))]
      · simp only [Option.bind_some, Option.some.injEq, Prod.mk.injEq, and_true]; omega
      · have e : 9 - i = (9 - (i + 1)) + 1 := by omega
        rw [e, Nat.pow_succ] at hu
        omega
theorem decU_sound : ∀ (b : List Int) (i u : Nat) (r : List Int), isBytes b → decU i b = some (u, r) → b = encN u ++ r ∧ i < 10 ∧ u < 2 * 128 ^ (9 - i) ∧ (i = 0 ∨ 0 < u) := by
  intro b
  induction b with
  | nil => intro i u r _ h; simp [decU] at h
  | cons c b ih =>
    intro i u r hb h
    have hc := hb c List.mem_cons_self
    have hb' : isBytes b := fun x hx => hb x (List.mem_cons_of_mem _ hx)
    rw [decU] at h
    by_cases h1 : 10 ≤ i
    · rw [if_pos h1] at h; simp at h
    rw [if_neg h1] at h
    by_cases h2 : 128 ≤ c
    · rw [if_pos h2] at h
      obtain ⟨⟨v, r'⟩, hq, he⟩ := Option.bind_eq_some_iff.1 h
      simp only [Option.some.injEq, Prod.mk.injEq] at he
      obtain ⟨rfl, rfl⟩ := he
      obtain ⟨g1, g2, g3, g4⟩ := ih (i + 1) v r' hb' hq
      have hv : 0 < v := by omega
      have hv2 : v < 2 * 128 ^ (9 - (i + 1)) := g3
      have e : 9 - i = (9 - (i + 1)) + 1 := by omega
      refine ⟨?_, by omega, ?_, .inr (by omega)⟩
      · rw [encN_ge (by omega), g1]
        have h3 : (v * 128 + (c - 128).toNat) / 128 = v := by omega
        have h4 : (((v * 128 + (c - 128).toNat) % 128 + 128 : Nat) : Int) = c := by omega
        rw [h3, h4]; simp
      · rw [e, Nat.pow_succ]; omega
    · rw [if_neg h2] at h
      by_cases h3 : c = 0 ∧ 0 < i ∨ i = 9 ∧ 1 < c
      · rw [if_pos h3] at h; simp at h
      · rw [if_neg h3] at h
        simp only [Option.some.injEq, Prod.mk.injEq] at h
        obtain ⟨rfl, rfl⟩ := h
        refine ⟨?_, by omega, ?_, by omega⟩
        · rw [encN_lt (by omega)]; simp; omega
        · rcases Nat.lt_or_ge i 9 with h5 | h5
          · have e : 9 - i = (8 - i) + 1 := by omega
            have hp : 1 ≤ 128 ^ (8 - i) := Nat.pos_of_ne_zero (by simp)
            rw [e, Nat.pow_succ]; omega
          · obtain rfl : i = 9 := by omega
            simp; omega
theorem zz_lt {x : Int} (h1 : -9223372036854775808 ≤ x) (h2 : x ≤ 9223372036854775807) : zz x < 18446744073709551616 := by unfold zz; split <;> omega
theorem unzz_zz (x : Int) : unzz (zz x) = x := by
  unfold unzz zz
  split <;> split <;> omega
theorem zz_unzz (u : Nat) : zz (unzz u) = u := by
  unfold unzz zz
  split <;> split <;> omega
theorem unzz_range {u : Nat} (h : u < 18446744073709551616) : -9223372036854775808 ≤ unzz u ∧ unzz u ≤ 9223372036854775807 := by unfold unzz; split <;> omega
def i64 (x : Int) : Prop := -9223372036854775808 ≤ x ∧ x ≤ 9223372036854775807

theorem enc_len {x : Int} (h : i64 x) : (enc x).length ≤ 10 := encN_len10 (zz_lt h.1 h.2)
theorem enc_pos (x : Int) : 1 ≤ (enc x).length := encN_pos _
theorem enc_bytes (x : Int) : isBytes (enc x) := encN_bytes _
theorem dec_enc {x : Int} (h : i64 x) (r : List Int) : dec (enc x ++ r) = some (x, r) := by
  unfold dec enc
  rw [decU_enc (zz x) 0 r (by omega) (Nat.lt_of_lt_of_le (zz_lt h.1 h.2) (by decide)) (.inl rfl)]
  simp [unzz_zz]
theorem dec_sound {b r : List Int} {x : Int} (hb : isBytes b) (h : dec b = some (x, r)) : b = enc x ++ r ∧ i64 x := by
  unfold dec at h
  obtain ⟨⟨u, r'⟩, hq, he⟩ := Option.bind_eq_some_iff.1 h
  simp only [Option.some.injEq, Prod.mk.injEq] at he
  obtain ⟨rfl, rfl⟩ := he
  obtain ⟨g1, _, g3, _⟩ := decU_sound b 0 u r' hb hq
  refine ⟨by unfold enc; rw [zz_unzz]; exact g1, unzz_range (Nat.lt_of_lt_of_le g3 (by decide))⟩
theorem isBytes_append {a b : List Int} : isBytes (a ++ b) ↔ isBytes a ∧ isBytes b := by
  unfold isBytes
  constructor
  · exact fun h => ⟨fun c hc => h c (List.mem_append_left _ hc), fun c hc => h c (List.mem_append_right _ hc)⟩
  · rintro ⟨h1, h2⟩ c hc
    rcases List.mem_append.1 hc with hc | hc
    · exact h1 c hc
    · exact h2 c hc
theorem isBytes_take {a : List Int} (h : isBytes a) (n : Nat) : isBytes (a.take n) := fun c hc => h c (List.mem_of_mem_take hc)
theorem decT_encT {s : List Int} (hs : s.length ≤ 9223372036854775807) (r : List Int) : decT (encT s ++ r) = some (s, r) := by
  unfold decT encT
  rw [List.append_assoc, dec_enc ⟨by omega, by omega⟩]
  simp only [Option.bind_some]
  rw [if_neg (by simp; omega)]
  simp
theorem decT_sound {b s r : List Int} (hb : isBytes b) (h : decT b = some (s, r)) : b = encT s ++ r ∧ s.length ≤ 9223372036854775807 := by
  unfold decT at h
  obtain ⟨⟨n, r'⟩, hq, he⟩ := Option.bind_eq_some_iff.1 h
  obtain ⟨g1, g2, g3⟩ := dec_sound hb hq
  simp only at he
  by_cases h1 : n < 0 ∨ (r'.length : Int) < n
  · rw [if_pos h1] at he; simp at he
  · rw [if_neg h1] at he
    simp only [Option.some.injEq, Prod.mk.injEq] at he
    obtain ⟨rfl, rfl⟩ := he
    have hl : (r'.take n.toNat).length = n.toNat := by rw [List.length_take]; omega
    refine ⟨?_, by omega⟩
    unfold encT
    rw [hl, List.append_assoc, List.take_append_drop, g1]
    congr 2; omega

theorem xor_ones (a : Nat) (h : a < 18446744073709551616) : a ^^^ 18446744073709551615 = 18446744073709551615 - a := by
  have h1 : 18446744073709551615 = 2 ^ 64 - 1 := by decide
  apply Nat.eq_of_testBit_eq
  intro i
  rw [Nat.testBit_xor, h1, Nat.testBit_two_pow_sub_one, show 2 ^ 64 - 1 - a = 2 ^ 64 - (a + 1) from by omega, Nat.testBit_two_pow_sub_succ (by simpa using h)]
  by_cases hi : i < 64
  · simp [hi]
  · have : a.testBit i = false := Nat.testBit_lt_two_pow (Nat.lt_of_lt_of_le h (by
      have := Nat.pow_le_pow_right (n := 2) (by decide) (show 64 ≤ i by omega)
      simpa using this))
    simp [hi, this]
theorem zz_code {a : Int} (h : i64 a) : bits BinOp.xor .u64 (IntKind.u64.wrap (IntKind.u64.wrap a * 2)) (IntKind.u64.wrap (a / 9223372036854775808)) = (zz a : Int) := by
  obtain ⟨h1, h2⟩ := h
  unfold zz
  by_cases hn : a < 0
  · have e1 : IntKind.u64.wrap (IntKind.u64.wrap a * 2) = ((2 * (a + 9223372036854775808)).toNat : Int) := by rw [IntKind.wrap_u64, IntKind.wrap_u64]; omega
    have e2 : IntKind.u64.wrap (a / 9223372036854775808) = ((18446744073709551615 : Nat) : Int) := by rw [IntKind.wrap_u64]; omega
    rw [e1, e2, u64_xor_nat _ _ (by omega) (by omega), xor_ones _ (by omega), if_pos hn]
    omega
  · have e1 : IntKind.u64.wrap (IntKind.u64.wrap a * 2) = ((2 * a).toNat : Int) := by rw [IntKind.wrap_u64, IntKind.wrap_u64]; omega
    have e2 : IntKind.u64.wrap (a / 9223372036854775808) = ((0 : Nat) : Int) := by rw [IntKind.wrap_u64]; omega
    rw [e1, e2, u64_xor_nat _ _ (by omega) (by omega), if_neg hn]
    simp
theorem or_128 (u : Nat) : bits BinOp.or .u8 ((u : Int) % 256) 128 = ((u % 128 + 128 : Nat) : Int) := by
  have e : ((u : Int) % 256) = ((u % 256 : Nat) : Int) := by omega
  have e2 : (128 : Int) = ((128 : Nat) : Int) := rfl
  rw [e, e2, u8_or_nat _ _ (by omega) (by decide)]
  have h : ∀ n : Nat, n < 256 → n ||| 128 = n % 128 + 128 := by decide +kernel
  rw [h _ (by omega)]
  omega

def valU : List Int → Nat
  | [] => 0
  | c :: r => (c % 128).toNat + 128 * valU r
theorem valU_snoc (l : List Int) (c : Int) : valU (l ++ [c]) = valU l + 128 ^ l.length * (c % 128).toNat := by
  induction l with
  | nil => simp [valU]
  | cons d l ih => simp only [List.cons_append, valU, ih, List.length_cons, Nat.pow_succ]; rw [Nat.mul_add, Nat.add_assoc]; congr 2; rw [← Nat.mul_assoc, Nat.mul_comm 128]
theorem take_snoc (l : List Int) (i : Nat) (h : i < l.length) : l.take (i + 1) = l.take i ++ [l.getD i 0] := by
  rw [List.take_succ_eq_append_getElem h, List.getD_eq_getElem?_getD, List.getElem?_eq_getElem h]; rfl
theorem valU_take (l : List Int) (i : Nat) (h : i < l.length) : valU (l.take (i + 1)) = valU (l.take i) + 128 ^ i * (l.getD i 0 % 128).toNat := by
  rw [take_snoc l i h, valU_snoc, List.length_take, Nat.min_eq_left (by omega)]
theorem valU_lt (l : List Int) : valU l < 128 ^ l.length := by
  induction l with
  | nil => simp [valU]
  | cons c l ih => simp only [valU, List.length_cons, Nat.pow_succ]; omega
theorem valU_take_lt (l : List Int) (i : Nat) (h : i ≤ l.length) : valU (l.take i) < 128 ^ i := by
  have := valU_lt (l.take i)
  rwa [List.length_take, Nat.min_eq_left h] at this
/-- All of the first i bytes say that there is more. -/
def allMore (l : List Int) (i : Nat) : Prop := ∀ j, j < i → 128 ≤ l.getD j 0
theorem allMore_zero (l : List Int) : allMore l 0 := fun j hj => by omega
theorem allMore_succ {l : List Int} {i : Nat} (h : allMore l i) (hi : 128 ≤ l.getD i 0) : allMore l (i + 1) := fun j hj => by
  rcases Nat.lt_or_ge j i with h1 | h1
  · exact h j h1
  · obtain rfl : j = i := by omega
    exact hi
theorem allMore_tail {c : Int} {l : List Int} {i : Nat} (h : allMore (c :: l) (i + 1)) : 128 ≤ c ∧ allMore l i :=
  ⟨h 0 (by omega), fun j hj => by have := h (j + 1) (by omega); simpa using this⟩
theorem decU_skip : ∀ (i k : Nat) (l : List Int), isBytes l → allMore l i → i ≤ l.length → k + i ≤ 10 →
    decU k l = (decU (k + i) (l.drop i)).bind fun q => some (valU (l.take i) + 128 ^ i * q.1, q.2) := by
  intro i
  induction i with
  | zero => intro k l _ _ _ _; simp [valU]; cases decU k l <;> rfl
  | succ i ih =>
    intro k l hb hm hl hk
    cases l with
    | nil => simp at hl
    | cons c l =>
      obtain ⟨h1, h2⟩ := allMore_tail hm
      have hc := hb c List.mem_cons_self
      rw [decU, if_neg (by omega), if_pos h1, ih (k + 1) l (fun x hx => hb x (List.mem_cons_of_mem _ hx)) h2 (by simpa using hl) (by omega)]
      rw [show k + 1 + i = k + (i + 1) by omega, List.drop_succ_cons, List.take_succ_cons]
      cases decU (k + (i + 1)) (l.drop i) with
      | none => rfl
      | some q =>
        simp only [Option.bind_some, Option.some.injEq, Prod.mk.injEq, and_true, valU]
        have h3 : (c % 128).toNat = (c - 128).toNat := by omega
        rw [h3, Nat.pow_succ, Nat.add_mul, Nat.mul_comm (valU _) 128, Nat.mul_right_comm]
        omega
theorem dec_hit {l : List Int} {i : Nat} (hb : isBytes l) (hm : allMore l i) (hi : i < l.length) (h10 : i < 10) (hc : l.getD i 0 < 128) (h0 : ¬ (l.getD i 0 = 0 ∧ 0 < i)) (h9 : ¬ (i = 9 ∧ 1 < l.getD i 0)) :
    dec l = some (unzz (valU (l.take (i + 1))), l.drop (i + 1)) := by
  have hd : l.drop i = l.getD i 0 :: l.drop (i + 1) := by
    rw [List.drop_eq_getElem_cons hi, List.getD_eq_getElem?_getD, List.getElem?_eq_getElem hi]; rfl
  have hr := hb _ (List.getElem_mem hi)
  have hg : l.getD i 0 = l[i] := by rw [List.getD_eq_getElem?_getD, List.getElem?_eq_getElem hi]; rfl
  unfold dec
  rw [decU_skip i 0 l hb hm (by omega) (by omega), hd, decU, if_neg (by omega), if_neg (by omega), if_neg (by omega), valU_take l i hi]
  simp only [Option.bind_some]
  have h3 : (l.getD i 0).toNat = (l.getD i 0 % 128).toNat := by omega
  rw [h3]
theorem dec_end {l : List Int} {i : Nat} (hb : isBytes l) (hm : allMore l i) (hi : i ≤ l.length) (h10 : i ≤ 10) (he : i = 10 ∨ i = l.length) : dec l = none := by
  unfold dec
  rw [decU_skip i 0 l hb hm hi (by omega)]
  have h : decU (0 + i) (l.drop i) = none := by
    rcases he with rfl | rfl
    · cases l.drop 10 with
      | nil => rfl
      | cons c r => rw [decU, if_pos (by omega)]
    · rw [List.drop_length]; rfl
  rw [h]; rfl
theorem dec_bad {l : List Int} {i : Nat} (hb : isBytes l) (hm : allMore l i) (hi : i < l.length) (h10 : i < 10) (hc : l.getD i 0 < 128) (h : (l.getD i 0 = 0 ∧ 0 < i) ∨ (i = 9 ∧ 1 < l.getD i 0)) : dec l = none := by
  have hd : l.drop i = l.getD i 0 :: l.drop (i + 1) := by
    rw [List.drop_eq_getElem_cons hi, List.getD_eq_getElem?_getD, List.getElem?_eq_getElem hi]; rfl
  unfold dec
  rw [decU_skip i 0 l hb hm (by omega) (by omega), hd, decU, if_neg (by omega), if_neg (by omega), if_pos (by omega)]
  rfl
theorem getD_bytes {l : List Int} (hb : isBytes l) (i : Nat) : 0 ≤ l.getD i 0 ∧ l.getD i 0 < 256 := by
  rw [List.getD_eq_getElem?_getD]
  rcases Nat.lt_or_ge i l.length with h | h
  · rw [List.getElem?_eq_getElem h]; exact hb _ (List.getElem_mem h)
  · rw [List.getElem?_eq_none h]; simp
theorem andNot_128 {c : Int} (h0 : 0 ≤ c) (h1 : c < 256) : bits BinOp.andNot .u8 c 128 = c % 128 := by
  have e : c = (c.toNat : Int) := by omega
  rw [e, show (128 : Int) = ((128 : Nat) : Int) from rfl, u8_andNot_nat _ _ (by omega) (by decide)]
  have h : ∀ n : Nat, n < 256 → n &&& (255 - 128) = n % 128 := by decide +kernel
  rw [h _ (by omega)]
  omega
theorem or_digit' (u c i : Nat) (hu : u < 128 ^ i) (hp : c * 2 ^ (7 * i) < 18446744073709551616) (hi : i ≤ 9) : bits BinOp.or .u64 (u : Int) ((c * 2 ^ (7 * i) : Nat) : Int) = ((u + 128 ^ i * c : Nat) : Int) := by
  have e : 128 ^ i = 2 ^ (7 * i) := by rw [Nat.pow_mul]
  have hu2 : u < 18446744073709551616 := by
    have h1 : 128 ^ i ≤ 128 ^ 9 := Nat.pow_le_pow_right (by decide) hi
    omega
  rw [u64_or_nat _ _ hu2 hp, e, Nat.or_comm, Nat.mul_comm c, ← Nat.two_pow_add_eq_or_of_lt (by rw [← e]; exact hu)]
  omega
theorem or_step {u i : Nat} {d : Int} (hu : u < 18446744073709551616) (h0 : 0 ≤ d) (h1 : d < 256) :
    ∃ u' : Nat, bits BinOp.or .u64 (u : Int) (IntKind.u64.wrap (IntKind.u64.wrap (bits BinOp.andNot .u8 d 128) * 2 ^ (7 * i))) = (u' : Int) ∧ u' < 18446744073709551616 ∧
      (u < 128 ^ i → (i ≤ 8 ∨ i = 9 ∧ d ≤ 1) → u' = u + 128 ^ i * (d % 128).toNat) := by
  rw [andNot_128 h0 h1]
  have e1 : IntKind.u64.wrap (d % 128) = (((d % 128).toNat : Nat) : Int) := by rw [IntKind.wrap_u64]; omega
  rw [e1]
  obtain ⟨c, hc⟩ : ∃ c, c = (d % 128).toNat := ⟨_, rfl⟩
  rw [← hc]
  have e2 : ((c : Int) * 2 ^ (7 * i)) = ((c * 2 ^ (7 * i) : Nat) : Int) := by rw [Int.natCast_mul, Int.natCast_pow]; rfl
  rw [e2]
  have e3 : IntKind.u64.wrap ((c * 2 ^ (7 * i) : Nat) : Int) = ((c * 2 ^ (7 * i) % 18446744073709551616 : Nat) : Int) := by rw [IntKind.wrap_u64]; omega
  rw [e3]
  refine ⟨u ||| (c * 2 ^ (7 * i) % 18446744073709551616), u64_or_nat _ _ hu (Nat.mod_lt _ (by decide)), Nat.or_lt_two_pow (n := 64) hu (Nat.mod_lt _ (by decide)), fun g1 g2 => ?_⟩
  have hp : c * 2 ^ (7 * i) < 18446744073709551616 := by
    rcases g2 with g2 | ⟨rfl, g2⟩
    · have h1 : 2 ^ (7 * i) ≤ 2 ^ 56 := Nat.pow_le_pow_right (by decide) (by omega)
      have h2 : c * 2 ^ (7 * i) ≤ 127 * 2 ^ 56 := Nat.mul_le_mul (by omega) h1
      omega
    · have h3 : c ≤ 1 := by omega
      have h2 : c * 2 ^ (7 * 9) ≤ 1 * 2 ^ (7 * 9) := Nat.mul_le_mul h3 (Nat.le_refl _)
      omega
  have h4 := or_digit' u c i g1 hp (by omega)
  rw [u64_or_nat _ _ hu hp] at h4
  rw [Nat.mod_eq_of_lt hp]
  omega
theorem xor_i64_zero (n : Nat) (h : n < 9223372036854775808) : bits BinOp.xor .i64 (n : Int) 0 = (n : Int) := by
  show IntKind.i64.wrap ((BitVec.ofInt 64 (n : Int) ^^^ BitVec.ofInt 64 0).toNat : Int) = _
  have h1 : (BitVec.ofInt 64 (n : Int)).toNat = n := by
    rw [BitVec.ofInt_natCast, BitVec.toNat_ofNat]; exact Nat.mod_eq_of_lt (by omega)
  have h2 : (BitVec.ofInt 64 0).toNat = 0 := by rfl
  rw [BitVec.toNat_xor, h1, h2, Nat.xor_zero, IntKind.wrap_i64]
  omega
theorem xor_i64_ones (n : Nat) (h : n < 9223372036854775808) : bits BinOp.xor .i64 (n : Int) (-1) = -(n : Int) - 1 := by
  show IntKind.i64.wrap ((BitVec.ofInt 64 (n : Int) ^^^ BitVec.ofInt 64 (-1)).toNat : Int) = _
  have h1 : (BitVec.ofInt 64 (n : Int)).toNat = n := by
    rw [BitVec.ofInt_natCast, BitVec.toNat_ofNat]; exact Nat.mod_eq_of_lt (by omega)
  have h2 : (BitVec.ofInt 64 (-1)).toNat = 18446744073709551615 := by rfl
  rw [BitVec.toNat_xor, h1, h2, xor_ones _ (by omega), IntKind.wrap_i64]
  omega
theorem unzz_code (u : Nat) (h : u < 18446744073709551616) : bits BinOp.xor .i64 ((u : Int) / 2) (Go.RowKit.wrap64 (-Go.RowKit.wrap64 (bits BinOp.and .u64 (u : Int) 1))) = unzz u := by
  have e0 : bits BinOp.and .u64 (u : Int) 1 = ((u % 2 : Nat) : Int) := by
    rw [show (1 : Int) = ((1 : Nat) : Int) from rfl, u64_and_nat _ _ h (by decide), Nat.and_one_is_mod]
  have e1 : (u : Int) / 2 = ((u / 2 : Nat) : Int) := by omega
  rw [e0, e1]
  unfold unzz
  rcases Nat.mod_two_eq_zero_or_one u with h0 | h0
  · rw [h0, if_neg (by omega)]
    have e2 : Go.RowKit.wrap64 (-Go.RowKit.wrap64 ((0 : Nat) : Int)) = 0 := by unfold Go.RowKit.wrap64; decide
    rw [e2, xor_i64_zero _ (by omega)]
  · rw [h0, if_pos rfl]
    have e2 : Go.RowKit.wrap64 (-Go.RowKit.wrap64 ((1 : Nat) : Int)) = -1 := by unfold Go.RowKit.wrap64; decide
    rw [e2, xor_i64_ones _ (by omega)]
end Go.Proofs.Ytdpigeineephlaa.Num
namespace Go.Proofs.Ytdpigeineephlaa.Num
open Go.RowKit Go.Proofs.YtdpigeineephlaaW.PrintWords Go.Proofs.YtdpigeineephlaaW.PrintLast Go.Proofs.YtdpigeineephlaaW.PrintMore
set_option linter.unusedVariables false
set_option linter.unusedSimpArgs false

theorem ret_i64 {a b : Int} (h : a = b) : Ending.returned (.int .i64 a) = .returned (.int .i64 b) := by rw [h]
theorem strOfNums_toList (l : List Int) : (strOfNums l).toList = l.map fun n => UInt8.ofNat n.toNat := ByteArray.toList_mk _
theorem bytesOf_isBytes (s : ByteArray) : isBytes (bytesOf s) := by
  intro c hc
  obtain ⟨b, _, rfl⟩ := List.mem_map.1 hc
  have := b.toNat_lt
  omega
theorem bytesOf_strOfNums {l : List Int} (h : isBytes l) : bytesOf (strOfNums l) = l := by
  unfold bytesOf
  rw [strOfNums_data, List.map_map]
  have : ∀ c ∈ l, ((fun b : UInt8 => (b.toNat : Int)) ∘ fun n : Int => UInt8.ofNat n.toNat) c = c := by
    intro c hc
    have h1 := h c hc
    simp only [Function.comp, UInt8.toNat_ofNat']
    omega
  exact (List.map_congr_left this).trans (List.map_id' _)
theorem strOfNums_bytesOf (s : ByteArray) : strOfNums (bytesOf s) = s := by
  have : (strOfNums (bytesOf s)).data.toList = s.data.toList := by
    rw [strOfNums_data]
    unfold bytesOf
    rw [List.map_map]
    have : ∀ c ∈ s.data.toList, ((fun n : Int => UInt8.ofNat n.toNat) ∘ fun b : UInt8 => (b.toNat : Int)) c = c := by
      intro c _
      simp only [Function.comp, Int.toNat_natCast, UInt8.ofNat_toNat]
    exact (List.map_congr_left this).trans (List.map_id' _)
  exact congrArg ByteArray.mk (Array.toList_inj.1 this)
theorem toList_inj {a b : ByteArray} (h : a.toList = b.toList) : a = b := by
  rw [ByteArray.toList_eq, ByteArray.toList_eq] at h
  exact congrArg ByteArray.mk (Array.toList_inj.1 h)
theorem bytesOf_inj {a b : ByteArray} (h : bytesOf a = bytesOf b) : a = b := by rw [← strOfNums_bytesOf a, ← strOfNums_bytesOf b, h]
theorem strOfNums_inj {a b : List Int} (ha : isBytes a) (hb : isBytes b) (h : strOfNums a = strOfNums b) : a = b := by rw [← bytesOf_strOfNums ha, ← bytesOf_strOfNums hb, h]
theorem str_beq {a b : List Int} (ha : isBytes a) (hb : isBytes b) : ((strOfNums a).toList == (strOfNums b).toList) = decide (a = b) := by
  rw [Bool.eq_iff_iff, beq_iff_eq, decide_eq_true_iff]
  exact ⟨fun h => strOfNums_inj ha hb (toList_inj h), fun h => by rw [h]⟩
theorem str_append (a b : List Int) : strOfNums (a ++ b) = strOfNums a ++ strOfNums b := by
  apply bytesOf_inj
  unfold bytesOf strOfNums
  simp
end Go.Proofs.Ytdpigeineephlaa.Num
namespace Go.Proofs.Ytdpigeineephlaa.Num
open Go.RowKit Go.Proofs.YtdpigeineephlaaW.PrintWords Go.Proofs.YtdpigeineephlaaW.PrintLast Go.Proofs.YtdpigeineephlaaW.PrintMore
set_option linter.unusedVariables false
set_option linter.unusedSimpArgs false

theorem info_u8 : (Try.prog.info? 5).map (fun i => (i.zero, i.size, i.bytes)) = some (some (.int .u8 0), 1, 1) := by kernel_rfl
theorem size_u8 : (Try.prog.info? 5).map (·.size) = some 1 := by kernel_rfl

theorem put_calls (A0 : Option Addr) (c0 : Nat) (l0 : List Int) (a1 : Int) (w : World) (hr0 : Kd.C (Kd.int .u8) w A0 l0.length l0) (hc0 : l0.length ≤ c0) (h1 : -9223372036854775808 ≤ a1) (h2 : a1 ≤ 9223372036854775807) (hl : l0.length ≤ 140737488350000) :
    Calls Try.prog 34 #[.slice A0 l0.length c0, .int .i64 a1] w fun e w' => ∃ v0_ : Value, e = .returned (v0_) ∧ Kd.R (Kd.int .u8) 5 w' w.heap.size (fun _ => True) v0_ (l0 ++ enc a1) ∧ Below w.heap.size w w' := by
  have HR0 := Aside0.mk hr0
  have HC0 := Aside0.mk hc0
  clear hr0 hc0
  have HB := Aside0.mk (Below.refl w.heap.size w)
  go_enter Try.func34, Try.ntmps34
  go_wp2_with (first
    | ((with_reducible refine gate_dst (N := 12) rfl ?_); refine Gen.R_makeCap (Kd.int .u8) (w0 := w) w.heap.size 5 rfl 22 (.tmp 8) (.tmp 11) rfl (l0.length : Int) ((l0.length : Int) + 10) rfl rfl Try.underlying22 (.int .u8 0) 1 info_u8 rfl (by decide) (by decide) 0 (fun _ _ _ => rfl) (by omega) (by omega) (by omega) (by repeat (first | (with_reducible first | exact HB.out | apply below_alloc | apply pw_below_drewN | apply below_drew1) | exact HB.out)) (below_size (by repeat (first | (with_reducible first | exact HB.out | apply below_alloc | apply pw_below_drewN | apply below_drew1) | exact HB.out))) ?_; intro v1 w1 ho hb hg hat; have n0_ := Aside0.mk hb; have n1_ := Aside0.mk ho; clear HB; have HB := n0_; have HO1 := n1_; clear n0_ n1_ ho hb hg hat)
    | ((with_reducible refine gate_builtin (b := .copy) (xs := #[.tmp 13, .tmp 14]) rfl ?_); refine Kd.R_copy (enc := Value.int .u8) (h1 := fun _ => rfl) (0 : Int) (w0 := w) w.heap.size rfl (.tmp 13) (.tmp 14) 22 22 5 rfl Try.underlying22 size_u8 v1 (List.replicate (l0.length : Int).toNat 0) l0 A0 l0.length c0 (fun _ => True) rfl rfl (by (with_reducible repeat (first | apply Kd.R_alloc | apply Kd.R_drewN | apply Kd.R_drew)); exact HO1.out) (by repeat (first | exact (Kd.C_below HR0.out HB.out) | (with_reducible refine Kd.C_alloc ?_ _) | (with_reducible refine Kd.C_drewN ?_ _) | (with_reducible refine Kd.C_drew ?_))) (by repeat (first | (with_reducible first | exact HB.out | apply below_alloc | apply pw_below_drewN | apply below_drew1) | exact HB.out)) (below_size (by repeat (first | (with_reducible first | exact HB.out | apply below_alloc | apply pw_below_drewN | apply below_drew1) | exact HB.out))) ?_; intro w2 ho hb hg; have n0_ := Aside0.mk hb; have n1_ := Aside0.mk ho; clear HB HO1; have HB := n0_; have HO2 := n1_; clear n0_ n1_ ho hb hg))
  have hz := zz_lt h1 h2
  have HL := Aside0.mk (enc_len ⟨h1, h2⟩)
  rw [zz_code ⟨h1, h2⟩]
  have HO2' : Aside0 (Kd.R (Kd.int .u8) 5 w2 w.heap.size (fun _ => True) v1 l0) := ⟨by
    have e := HO2.out
    simp only [Int.toNat_natCast, List.length_replicate, Nat.min_self, List.take_length, List.drop_replicate, Nat.sub_self, List.replicate_zero, List.append_nil] at e
    exact e⟩
  clear HO2
  go_loopg [5, 6] (zz a1) (fun u v5 v6 w' => ∃ x : List Int, v6 = .int .u64 (u : Int) ∧ Aside0 (x ++ encN u = l0 ++ enc a1) ∧ Aside0 (u < 18446744073709551616) ∧ Aside0 (Kd.R (Kd.int .u8) 5 w' w.heap.size (fun _ => True) v5 x) ∧ Aside0 (Below w.heap.size w w'))
  case atStart => exact ⟨l0, rfl, ⟨rfl⟩, ⟨hz⟩, HO2', HB⟩
  case round =>
    obtain ⟨x, rfl, HE, HU, HO, HB⟩ := hrel
    have hu := HU.out
    have HX : Aside0 (x.length ≤ 140737488350020) := ⟨by
      have e := congrArg List.length HE.out
      simp only [List.length_append] at e
      have := HL.out; omega⟩
    by_cases hc : 128 ≤ gk
    · have hd : decide ((128 : Int) ≤ (gk : Int)) = true := decide_eq_true (by omega)
      go_wp2_with (first | ((with_reducible refine gate_builtin (b := .append) (xs := #[.tmp 27, .tmp 31]) rfl ?_); at_builtin; refine Kd.R_append (Kd.int .u8) (w0 := w) w.heap.size rfl (.tmp 27) (.tmp 31) 22 5 (.int .u8 0) 1 rfl Try.underlying22 info_u8 rfl (by decide) (by omega) u5 x (bits BinOp.or IntKind.u8 ((gk : Int) % 256) 128) [(.int .u8 (bits BinOp.or IntKind.u8 ((gk : Int) % 256) 128))] (fun _ => True) (fun _ => False) rfl rfl ?aP (fun _ hk => hk.elim) ?aF ?aO ?aB ?aS ?aL ?_; (case aP => exact rfl); (case aB => exact (by repeat (first | (with_reducible first | exact HB.out | apply below_alloc | apply pw_below_drewN | apply below_drew1) | exact HB.out))); (case aF => exact (fun _ _ => trivial)); (case aO => exact (by (with_reducible repeat (first | apply Kd.R_alloc | apply Kd.R_drewN | apply Kd.R_drew)); exact HO.out)); (case aS => exact (below_size (by repeat (first | (with_reducible first | exact HB.out | apply below_alloc | apply pw_below_drewN | apply below_drew1) | exact HB.out)))); (case aL => have := HX.out; omega); intro v8 w8 ho hb hg hat; have n0_ := Aside0.mk (hb); have n1_ := Aside0.mk (ho); clear HB; clear HO; have HB := n0_; have HO8 := n1_; clear n0_ n1_; clear ho hb hg hat))
      go_roundg (gk / 128)
      case measure => omega
      case rel =>
        refine ⟨_, rfl, ⟨?_⟩, ⟨by omega⟩, ⟨(by (with_reducible repeat (first | apply Kd.R_alloc | apply Kd.R_drewN | apply Kd.R_drew)); exact HO8.out)⟩, ⟨(by repeat (first | (with_reducible first | exact HB.out | apply below_alloc | apply pw_below_drewN | apply below_drew1) | exact HB.out))⟩⟩
        rw [← HE.out, encN_ge hc, or_128, List.append_assoc]; rfl
    · have hd : decide ((128 : Int) ≤ (gk : Int)) = false := decide_eq_false (by omega)
      go_wp2_with (first | ((with_reducible refine gate_builtin (b := .append) (xs := #[.tmp 33, .tmp 36]) rfl ?_); at_builtin; refine Kd.R_append (Kd.int .u8) (w0 := w) w.heap.size rfl (.tmp 33) (.tmp 36) 22 5 (.int .u8 0) 1 rfl Try.underlying22 info_u8 rfl (by decide) (by omega) u5 x ((gk : Int)) [(.int .u8 ((gk : Int)))] (fun _ => True) (fun _ => False) rfl rfl ?aP (fun _ hk => hk.elim) ?aF ?aO ?aB ?aS ?aL ?_; (case aP => exact rfl); (case aB => exact (by repeat (first | (with_reducible first | exact HB.out | apply below_alloc | apply pw_below_drewN | apply below_drew1) | exact HB.out))); (case aF => exact (fun _ _ => trivial)); (case aO => exact (by (with_reducible repeat (first | apply Kd.R_alloc | apply Kd.R_drewN | apply Kd.R_drew)); exact HO.out)); (case aS => exact (below_size (by repeat (first | (with_reducible first | exact HB.out | apply below_alloc | apply pw_below_drewN | apply below_drew1) | exact HB.out)))); (case aL => have := HX.out; omega); intro v8 w8 ho hb hg hat; have n0_ := Aside0.mk (hb); have n1_ := Aside0.mk (ho); clear HB; clear HO; have HB := n0_; have HO8 := n1_; clear n0_ n1_; clear ho hb hg hat))
      go_ret
      refine ⟨_, rfl, ?_, (by repeat (first | (with_reducible first | exact HB.out | apply below_alloc | apply pw_below_drewN | apply below_drew1) | exact HB.out))⟩
      have e : x ++ [(gk : Int)] = l0 ++ enc a1 := by rw [← HE.out, encN_lt (by omega)]
      rw [← e]
      exact (by (with_reducible repeat (first | apply Kd.R_alloc | apply Kd.R_drewN | apply Kd.R_drew)); exact HO8.out)

theorem putText_calls (A0 : Option Addr) (c0 : Nat) (l0 : List Int) (s : ByteArray) (w : World) (hr0 : Kd.C (Kd.int .u8) w A0 l0.length l0) (hc0 : l0.length ≤ c0) (hl : l0.length + s.size ≤ 140737488349000) :
    Calls Try.prog 33 #[.slice A0 l0.length c0, .string s] w fun e w' => ∃ v0_ : Value, e = .returned (v0_) ∧ Kd.R (Kd.int .u8) 5 w' w.heap.size (fun _ => True) v0_ (l0 ++ encT (bytesOf s)) ∧ Below w.heap.size w w' := by
  have HL : Aside0 ((enc (s.size : Int)).length ≤ 10) := ⟨enc_len ⟨by omega, by omega⟩⟩
  go_enter Try.func33, Try.ntmps33
  go_wp2_with (first
    | (go_at_call 34; refine (put_calls A0 c0 l0 (s.size : Int) w hr0 hc0 (by omega) (by omega) (by omega)).mono ?_; rintro e w1 ⟨v1, rfl, ho, hb⟩; have HB := Aside0.mk hb; have HO1 := Aside0.mk ho; clear ho hb)
    | ((with_reducible refine gate_builtin (b := .append) (xs := #[.tmp 8, .tmp 9]) rfl ?_); at_builtin; refine Gen.R_append_str (w0 := w) w.heap.size rfl (.tmp 8) (.tmp 9) 22 9 5 rfl Try.underlying22 Try.underlying9 info_u8 v1 (l0 ++ enc (s.size : Int)) s rfl rfl ?aO ?aB ?aS ?aL ?_; (case aB => exact (by repeat (first | (with_reducible first | exact HB.out | apply below_alloc | apply pw_below_drewN | apply below_drew1) | exact HB.out))); (case aO => exact (by (with_reducible repeat (first | apply Kd.R_alloc | apply Kd.R_drewN | apply Kd.R_drew)); exact HO1.out)); (case aS => exact (below_size (by repeat (first | (with_reducible first | exact HB.out | apply below_alloc | apply pw_below_drewN | apply below_drew1) | exact HB.out)))); (case aL => have := HL.out; simp only [List.length_append]; omega); intro v2 w2 ho hb hg; have n0_ := Aside0.mk (hb); have n1_ := Aside0.mk (ho); clear HB; clear HO1; have HB := n0_; have HO2 := n1_; clear n0_ n1_; clear ho hb hg))
  go_ret
  refine ⟨_, rfl, ?_, (by repeat (first | (with_reducible first | exact HB.out | apply below_alloc | apply pw_below_drewN | apply below_drew1) | exact HB.out))⟩
  unfold encT
  rw [bytesOf_length, ← List.append_assoc]
  exact (by (with_reducible repeat (first | apply Kd.R_alloc | apply Kd.R_drewN | apply Kd.R_drew)); exact HO2.out)

end Go.Proofs.Ytdpigeineephlaa.Num
namespace Go.Proofs.Ytdpigeineephlaa.Num
open Go.RowKit Go.Proofs.YtdpigeineephlaaW.PrintWords Go.Proofs.YtdpigeineephlaaW.PrintLast Go.Proofs.YtdpigeineephlaaW.PrintMore
set_option linter.unusedVariables false
set_option linter.unusedSimpArgs false

end Go.Proofs.Ytdpigeineephlaa.Num
namespace Go.Proofs.Ytdpigeineephlaa.Num
open Go.RowKit Go.Proofs.YtdpigeineephlaaW.PrintWords Go.Proofs.YtdpigeineephlaaW.PrintLast Go.Proofs.YtdpigeineephlaaW.PrintMore
set_option linter.unusedVariables false
set_option linter.unusedSimpArgs false
attribute [local go_sem] max2_int min2_int max_two min_two

/-- A reader (of type T) at block g of W: it reads l; its bytes, if there are some, lie in a block of P. -/
def Rd (T : Nat) (P : Nat → Prop) (W : World) (g : Nat) (l : List Int) (bad : Bool) : Prop :=
  ∃ A c, W.heap[g]? = some (.cells #[.slice A l.length c, .bool bad] T (0, 0)) ∧ l.length ≤ c ∧ Kd.C (Kd.int .u8) W A l.length l ∧ (∀ ad, A = some ad → 0 < l.length → P ad.block) ∧ ¬ P g
section
variable {T : Nat} {P : Nat → Prop} {W W1 : World} {g g' : Nat} {l : List Int} {bad : Bool}
theorem Rd.below (h : Rd T P W g l bad) (hb : Below W.heap.size W W1) : Rd T P W1 g l bad := by
  obtain ⟨A, c, h1, h2, h3, h4⟩ := h
  exact ⟨A, c, blk_below h1 hb, h2, Kd.C_below h3 hb, h4⟩
theorem Rd.kept (h : Rd T P W g l bad) (hk : KeepBut W W1 g' none) (hne : g ≠ g') (hP : ¬ P g') : Rd T P W1 g l bad := by
  obtain ⟨A, c, h1, h2, h3, h4, h5⟩ := h
  exact ⟨A, c, hk.blk h1 hne (by simp), h2, Kd.C_keep (0 : Int) h3 hk (fun ad e hn he => hP (he ▸ h4 ad e hn)), h4, h5⟩
theorem Rd.drewN (h : Rd T P W g l bad) (m : Nat) : Rd T P (W.drewN m) g l bad := h.below (pw_below_drewN (Below.refl _ _) m)
theorem Rd.lt (h : Rd T P W g l bad) : g < W.heap.size := by obtain ⟨A, c, h1, _⟩ := h; exact blk_lt h1
theorem Rd.len (h : Rd T P W g l bad) : l.length ≤ 9223372036854775807 := by obtain ⟨A, c, _, _, h4, _⟩ := h; exact Kd.C_max h4
end
/-- 'xs[m:]' of a slice that is read: A' is a letter, in the same block. -/
theorem cutL {P : Program} (t e : TypeId) (kl : IntKind) {i : TypeInfo} (ht : P.underlying t = some (.slice e)) (hi : P.info? e = some i) (hsz : i.size = 1) (A : Option Addr) (n c m : Nat) (hm : m ≤ n) :
    ∃ A' : Option Addr, (∀ W : World, (Instr.slice t (.slice A n c) (some (.int kl (m : Int))) none none).run P W = .ok (.slice A' (n - m) (c - m)) W) ∧
      (∀ (w : World) (xs : List Int), n ≤ c → (Kd.int .u8).C w A n xs → (Kd.int .u8).C w A' (n - m) (xs.drop m)) ∧ ∀ ad, A' = some ad → ∃ ad0, A = some ad0 ∧ ad.block = ad0.block := by
  refine ⟨if c = m then A else A.map (·.add m), fun W => ?_, fun w xs hc h => ?_, fun ad he => ?_⟩
  · have hel : P.elem t = e := by simp [Program.elem, ht]
    have hu : P.underlying t = some (.slice (P.elem t)) := by rw [hel]; exact ht
    rw [run_slice_l W t A n c hu kl (m : Int) (Int.natCast_nonneg _) (by omega), hel]
    simp [sizeOf, typeInfo, hi, hsz, sliced, Result.andThen]
  · exact Kd.C_of_reads (d := (0 : Int)) (h1 := fun _ => rfl) (ReadsInt.drop_ (Kd.reads_of_C (enc := Value.int .u8) (d := (0 : Int)) (h1 := fun _ => rfl) h) m hm hc)
  · by_cases h : c = m
    · rw [if_pos h] at he; exact ⟨ad, he, rfl⟩
    · rw [if_neg h] at he
      obtain ⟨ad0, h1, h2⟩ := Option.map_eq_some_iff.1 he
      exact ⟨ad0, h1, by rw [← h2]; unfold Addr.add; split <;> rfl⟩
theorem belowSet {g j : Nat} {w w' : World} (h : Below g w w') (v : Value) : Below g w (w'.setCell ⟨g, j, none⟩ v) := h.setCell (p := ⟨g, j, none⟩) (Nat.le_refl g) v

theorem fail_calls (P : Nat → Prop) (w : World) (g : Nat) (l : List Int) (bad : Bool) (hI : Rd 71 P w g l bad) :
    Calls Try.prog 67 #[.pointer (some ⟨g, 0, none⟩)] w fun e w' => e = .returned (.tuple #[]) ∧ Rd 71 P w' g [] true ∧ Below g w w' ∧ KeepBut w w' g none := by
  obtain ⟨A, c, hblk, hc, hr, hP, hg⟩ := hI
  have hc0 := blk_cell hblk 0
  have hc1 := blk_cell hblk 1
  have hf0 := blk_frozen hblk 0
  have hf1 := blk_frozen hblk 1
  have HK := Aside0.mk hblk
  have HG := Aside0.mk hg
  clear hblk hr hc hP hg
  go_enter Try.func67, Try.ntmps67
  go_wp2
  go_end0
  have h2 := blk_set (blk_set HK.out 0 (.slice none 0 0)) 1 (.bool true)
  exact ⟨rfl, ⟨none, 0, by simpa using h2, Nat.le_refl _, Kd.C_nil _ _, (fun _ h _ => by cases h), HG.out⟩, belowSet (belowSet (Below.refl g w) _) _, ((KeepBut.refl w g none).set_ 0 _).set_ 1 _⟩
theorem newReader_calls (A0 : Option Addr) (c0 : Nat) (l0 : List Int) (w : World) (hr0 : Kd.C (Kd.int .u8) w A0 l0.length l0) (hc0 : l0.length ≤ c0) :
    Calls Try.prog 20 #[.slice A0 l0.length c0] w fun e w' => ∃ g : Nat, e = .returned (.pointer (some ⟨g, 0, none⟩)) ∧ Rd 71 (fun k => k < w.heap.size) w' g l0 false ∧ Below w.heap.size w w' ∧ w.heap.size ≤ g := by
  have hu := Try.underlying71
  have HR0 := Aside0.mk hr0
  have HC0 := Aside0.mk hc0
  clear hr0 hc0
  go_enter Try.func20, Try.ntmps20
  go_wp2_with (first | ((with_reducible refine gate_dst (N := 5) rfl ?_); refine box_event ?hg (N := 5) ?hd (cs := #[.slice A0 l0.length c0, .bool false]) (t := 71) ?hr ?_; (case hd => rfl); (case hg => rfl); (case hr => first | (go_simp; done) | (go_simp; rfl)); intro g hg w2 hbox hb; have n1_ := Aside0.mk hbox; have n2_ := Aside0.mk hb; have n3_ := Aside0.mk hg; clear hg hbox hb))
  go_ret
  exact ⟨_, rfl, ⟨A0, c0, n1_.out, HC0.out, Kd.C_below HR0.out n2_.out, fun ad e hn => Kd.C_lt (e ▸ HR0.out) hn (by decide), by rw [n3_.out]; exact Nat.lt_irrefl _⟩, n2_.out, by rw [n3_.out]; exact Nat.le_refl _⟩

theorem left_calls (P : Nat → Prop) (w : World) (g : Nat) (l : List Int) (bad : Bool) (hI : Rd 71 P w g l bad) :
    Calls Try.prog 25 #[.pointer (some ⟨g, 0, none⟩)] w fun e w' => e = .returned (.int .i64 (l.length : Int)) ∧ w = w' := by
  obtain ⟨A, c, hblk, hc, hr, hP, hg⟩ := hI
  have hc0 : w.cell? ⟨g, 0, none⟩ = some (.slice A l.length c) := blk_cell hblk 0
  clear hblk hg hc hr hP
  go_enter Try.func25, Try.ntmps25
  go_wp2
  go_ret
  exact ⟨rfl, rfl⟩

theorem bad_calls (P : Nat → Prop) (w : World) (g : Nat) (l : List Int) (bad : Bool) (hI : Rd 71 P w g l bad) :
    Calls Try.prog 68 #[.pointer (some ⟨g, 0, none⟩)] w fun e w' => e = .returned (.bool bad) ∧ w = w' := by
  obtain ⟨A, c, hblk, hc, hr, hP, hg⟩ := hI
  have hc1 : w.cell? ⟨g, 1, none⟩ = some (.bool bad) := blk_cell hblk 1
  clear hblk hg hc hr hP
  go_enter Try.func68, Try.ntmps68
  go_wp2
  go_ret
  exact ⟨rfl, rfl⟩

/-- What a reader is, behind a number. -/
def aft (l : List Int) : List Int := match dec l with | none => [] | some q => q.2
def numOf (l : List Int) : Int := match dec l with | none => 0 | some q => q.1
def badOf (l : List Int) (bad : Bool) : Bool := bad || (dec l).isNone

theorem num_calls (P : Nat → Prop) (w : World) (g : Nat) (l : List Int) (bad : Bool) (hI : Rd 71 P w g l bad) (hb : isBytes l) :
    Calls Try.prog 48 #[.pointer (some ⟨g, 0, none⟩)] w fun e w' => e = .returned (.int .i64 (numOf l)) ∧ Rd 71 P w' g (aft l) (badOf l bad) ∧ Below g w w' ∧ KeepBut w w' g none := by
  have HN := hI.len
  have HI0 := Aside0.mk hI
  obtain ⟨A, c, hblk, hc, hr, hP, hg⟩ := hI
  have hc0 : w.cell? ⟨g, 0, none⟩ = some (.slice A l.length c) := blk_cell hblk 0
  have HK := Aside0.mk hblk
  have HG := Aside0.mk hg
  have HC := Aside0.mk hc
  have HR := Aside0.mk hr
  have HP := Aside0.mk hP
  have HBY := Aside0.mk hb
  clear hblk hr hg hb hc hP
  go_enter Try.func48, Try.ntmps48
  go_upto_region 2 with (fail)
  obtain ⟨m, hm1⟩ : ∃ m : Nat, m = min 10 l.length := ⟨min 10 l.length, rfl⟩
  have HM1 := Aside0.mk hm1
  clear hm1
  go_cut [11, 12] (fun v11 v12 wc => v11 = .int .i64 (m : Int) ∧ v12 = .int .i64 0 ∧ w = wc)
  case first =>
    go_wp2
    all_goals go_meet
    case rel => exact ⟨by have := HM1.out; congr 1; omega, rfl, rfl⟩
    case rel => exact ⟨by have := HM1.out; congr 1; omega, rfl, rfl⟩
  case rest =>
  obtain ⟨rfl, rfl, rfl⟩ := hcut
  go_wp2_with fail
  go_loopg [3, 12] m (fun k v3 v12 w' => ∃ i u : Nat, v12 = .int .i64 (i : Int) ∧ v3 = .int .u64 (u : Int) ∧ Aside0 (i + k = m) ∧ Aside0 (allMore l i) ∧ Aside0 (i ≤ 9 → u = valU (l.take i)) ∧ Aside0 (u < 18446744073709551616) ∧ Drawn0 w w')
  case atStart => exact ⟨0, 0, rfl, rfl, ⟨by omega⟩, ⟨allMore_zero _⟩, ⟨fun _ => rfl⟩, ⟨by omega⟩, Drawn0.refl _⟩
  case round =>
    obtain ⟨i, u, rfl, rfl, HE, HM, HU, HU2, ⟨m1, rfl⟩⟩ := hrel
    have hu2 := HU2.out
    have hm10 : m ≤ 10 := by have := HM1.out; omega
    have hml : m ≤ l.length := by have := HM1.out; omega
    by_cases hlt : i < m
    · have hg := getD_bytes HBY.out i
      obtain ⟨ad, rfl, hx⟩ := Kd.at_int HR.out (i : Int) (by omega) (by omega)
      rw [Int.toNat_natCast] at hx
      obtain ⟨d, hd0⟩ : ∃ d, d = rd l (i : Int) := ⟨_, rfl⟩
      have hd1 : l.getD i 0 = d := by rw [hd0]; rfl
      rw [← hd0] at hx
      have HD := Aside0.mk hd1
      clear hd0
      rw [hd1] at hg
      clear hd1
      have hb1 : decide ((i : Int) < (m : Int)) = true := decide_eq_true (by omega)
      obtain ⟨u', hor, hu', hst⟩ := or_step (u := u) (i := i) hu2 hg.1 hg.2
      have HST := Aside0.mk hst
      have hvl := valU_take_lt l i (by omega)
      have HVL := Aside0.mk hvl
      clear hst hvl
      by_cases h128 : 128 ≤ d
      · have hd : decide ((128 : Int) ≤ d) = true := decide_eq_true h128
        go_wp2_with fail
        go_roundg (m - (i + 1))
        case measure => have := HE.out; omega
        case rel =>
          refine ⟨i + 1, u', by go_num, rfl, ⟨by omega⟩, ⟨allMore_succ HM.out (by rw [HD.out]; exact h128)⟩, ⟨fun h => ?_⟩, ⟨hu'⟩, by repeat (first | exact Drawn0.refl _ | apply Drawn0.step)⟩
          rw [valU_take l i (by omega), HD.out, ← HU.out (by omega)]
          exact HST.out (by rw [HU.out (by omega)]; exact HVL.out) (.inl (by omega))
      · have hd : decide ((128 : Int) ≤ d) = false := decide_eq_false h128
        have hd' : d < 128 := by omega
        have hf0 : w.frozen? ⟨g, 0, none⟩ = false := blk_frozen HK.out 0
        obtain ⟨i0, hi0⟩ : ∃ i0, Try.prog.info? 5 = some i0 ∧ i0.size = 1 := by obtain ⟨i0, h1, h2⟩ := Option.map_eq_some_iff.1 size_u8; exact ⟨i0, h1, h2⟩
        obtain ⟨A', hcut, hA', hAb⟩ := cutL (P := Try.prog) 22 5 .i64 Try.underlying22 hi0.1 hi0.2 (some ad) l.length c (i + 1) (by omega)
        have hcut1 : ∀ W : World, (Instr.slice 22 (.slice (some ad) l.length c) (some (.int .i64 ((i : Int) + 1))) none none).run Try.prog W = .ok (.slice A' (l.length - (i + 1)) (c - (i + 1))) W := hcut
        have HA := Aside0.mk (hA' w l HC.out HR.out)
        have HAB := Aside0.mk hAb
        have hz := unzz_code u' hu'
        clear hcut hA' hi0 hAb
        by_cases hz : d = 0
        · have e1 : (d == 0) = true := beq_iff_eq.mpr hz
          by_cases hi0 : 0 < i
          · have e2 : decide ((0 : Int) < (i : Int)) = true := decide_eq_true (by omega)
            have hn : dec l = none := dec_bad HBY.out HM.out (by omega) (by omega) (by rw [HD.out]; exact hd') (.inl (by rw [HD.out]; exact ⟨hz, hi0⟩))
            have HN1 := Aside0.mk hn
            clear hn hz
            try clear h9
            go_wp2_with (first | (go_at_call 67; refine (fail_calls P _ g l bad (Rd.drewN HI0.out m1)).mono ?_; rintro e w2 ⟨rfl, hI2, hb2, hk2⟩; have n1_ := Aside0.mk hI2; have n2_ := Aside0.mk hb2; have n3_ := Aside0.mk hk2; clear hI2 hb2 hk2))
            go_ret
            refine ⟨ret_i64 (by unfold numOf; rw [HN1.out]), by unfold aft badOf; rw [HN1.out]; simpa using n1_.out, (pw_below_drewN (Below.refl g w) m1).trans n2_.out, n3_.out⟩
          · have e2 : decide ((0 : Int) < (i : Int)) = false := decide_eq_false (by omega)
            have e3 : ((i : Int) == 9) = false := beq_eq_false_iff_ne.mpr (by omega)
            have hy : dec l = some (unzz (valU (l.take (i + 1))), l.drop (i + 1)) := dec_hit HBY.out HM.out (by omega) (by omega) (by rw [HD.out]; exact hd') (by omega) (by omega)
            have hy2 : u' = valU (l.take (i + 1)) := by
              rw [valU_take l i (by omega), HD.out, ← HU.out (by omega)]
              exact HST.out (by rw [HU.out (by omega)]; exact HVL.out) (by omega)
            have HY := Aside0.mk hy
            have HY2 := Aside0.mk hy2
            clear hy hy2 hz
            try clear h9
            go_wp2
            go_ret
            refine ⟨ret_i64 (by unfold numOf; rw [HY.out, HY2.out]), ?_, belowSet (pw_below_drewN (Below.refl g w) m1) _, (KeepBut.refl w g none).set_ 0 _⟩
            have hs := blk_set (blk_drewN HK.out m1) 0 (.slice A' (l.length - (i + 1)) (c - (i + 1)))
            unfold aft badOf; rw [HY.out]
            have hbl : ∀ ad, A' = some ad → 0 < (l.drop (i + 1)).length → P ad.block := fun ad e hn => by
              obtain ⟨ad0, h1, h2⟩ := HAB.out ad e
              rw [h2]; exact HP.out ad0 h1 (by rw [List.length_drop] at hn; omega)
            exact ⟨A', c - (i + 1), by simpa using hs, by simp only [List.length_drop]; have := HC.out; omega, Kd.C_keep (0 : Int) (by simp only [List.length_drop]; exact HA.out) ((KeepBut.refl w g none).set_ 0 _) (fun ad e hn he => HG.out (he ▸ hbl ad e hn)), hbl, HG.out⟩
        · have e1 : (d == 0) = false := beq_eq_false_iff_ne.mpr hz
          by_cases h9 : i = 9
          · have e3 : ((i : Int) == 9) = true := beq_iff_eq.mpr (by omega)
            by_cases h1 : 1 < d
            · have e4 : decide ((1 : Int) < d) = true := decide_eq_true h1
              have hn : dec l = none := dec_bad HBY.out HM.out (by omega) (by omega) (by rw [HD.out]; exact hd') (.inr (by rw [HD.out]; exact ⟨h9, h1⟩))
              have HN1 := Aside0.mk hn
              clear hn hz
              try clear h9
              go_wp2_with (first | (go_at_call 67; refine (fail_calls P _ g l bad (Rd.drewN HI0.out m1)).mono ?_; rintro e w2 ⟨rfl, hI2, hb2, hk2⟩; have n1_ := Aside0.mk hI2; have n2_ := Aside0.mk hb2; have n3_ := Aside0.mk hk2; clear hI2 hb2 hk2))
              go_ret
              refine ⟨ret_i64 (by unfold numOf; rw [HN1.out]), by unfold aft badOf; rw [HN1.out]; simpa using n1_.out, (pw_below_drewN (Below.refl g w) m1).trans n2_.out, n3_.out⟩
            · have e4 : decide ((1 : Int) < d) = false := decide_eq_false h1
              have hy : dec l = some (unzz (valU (l.take (i + 1))), l.drop (i + 1)) := dec_hit HBY.out HM.out (by omega) (by omega) (by rw [HD.out]; exact hd') (by rw [HD.out]; omega) (by rw [HD.out]; omega)
              have hy2 : u' = valU (l.take (i + 1)) := by
                rw [valU_take l i (by omega), HD.out, ← HU.out (by omega)]
                exact HST.out (by rw [HU.out (by omega)]; exact HVL.out) (by omega)
              have HY := Aside0.mk hy
              have HY2 := Aside0.mk hy2
              clear hy hy2 hz
              try clear h9
              go_wp2
              go_ret
              refine ⟨ret_i64 (by unfold numOf; rw [HY.out, HY2.out]), ?_, belowSet (pw_below_drewN (Below.refl g w) m1) _, (KeepBut.refl w g none).set_ 0 _⟩
              have hs := blk_set (blk_drewN HK.out m1) 0 (.slice A' (l.length - (i + 1)) (c - (i + 1)))
              unfold aft badOf; rw [HY.out]
              have hbl : ∀ ad, A' = some ad → 0 < (l.drop (i + 1)).length → P ad.block := fun ad e hn => by
                obtain ⟨ad0, h1, h2⟩ := HAB.out ad e
                rw [h2]; exact HP.out ad0 h1 (by rw [List.length_drop] at hn; omega)
              exact ⟨A', c - (i + 1), by simpa using hs, by simp only [List.length_drop]; have := HC.out; omega, Kd.C_keep (0 : Int) (by simp only [List.length_drop]; exact HA.out) ((KeepBut.refl w g none).set_ 0 _) (fun ad e hn he => HG.out (he ▸ hbl ad e hn)), hbl, HG.out⟩
          · have e3 : ((i : Int) == 9) = false := beq_eq_false_iff_ne.mpr (by omega)
            have hy : dec l = some (unzz (valU (l.take (i + 1))), l.drop (i + 1)) := dec_hit HBY.out HM.out (by omega) (by omega) (by rw [HD.out]; exact hd') (by rw [HD.out]; omega) (by omega)
            have hy2 : u' = valU (l.take (i + 1)) := by
              rw [valU_take l i (by omega), HD.out, ← HU.out (by omega)]
              exact HST.out (by rw [HU.out (by omega)]; exact HVL.out) (by omega)
            have HY := Aside0.mk hy
            have HY2 := Aside0.mk hy2
            clear hy hy2 hz
            try clear h9
            go_wp2
            go_ret
            refine ⟨ret_i64 (by unfold numOf; rw [HY.out, HY2.out]), ?_, belowSet (pw_below_drewN (Below.refl g w) m1) _, (KeepBut.refl w g none).set_ 0 _⟩
            have hs := blk_set (blk_drewN HK.out m1) 0 (.slice A' (l.length - (i + 1)) (c - (i + 1)))
            unfold aft badOf; rw [HY.out]
            have hbl : ∀ ad, A' = some ad → 0 < (l.drop (i + 1)).length → P ad.block := fun ad e hn => by
              obtain ⟨ad0, h1, h2⟩ := HAB.out ad e
              rw [h2]; exact HP.out ad0 h1 (by rw [List.length_drop] at hn; omega)
            exact ⟨A', c - (i + 1), by simpa using hs, by simp only [List.length_drop]; have := HC.out; omega, Kd.C_keep (0 : Int) (by simp only [List.length_drop]; exact HA.out) ((KeepBut.refl w g none).set_ 0 _) (fun ad e hn he => HG.out (he ▸ hbl ad e hn)), hbl, HG.out⟩
    · have hb1 : decide ((i : Int) < (m : Int)) = false := decide_eq_false (by omega)
      have hn : dec l = none := dec_end HBY.out HM.out (by have := HE.out; omega) (by have := HE.out; omega) (by have := HM1.out; have := HE.out; omega)
      have HN1 := Aside0.mk hn
      clear hn
      go_wp2_with (first | (go_at_call 67; refine (fail_calls P _ g l bad (Rd.drewN HI0.out m1)).mono ?_; rintro e w2 ⟨rfl, hI2, hb2, hk2⟩; have n1_ := Aside0.mk hI2; have n2_ := Aside0.mk hb2; have n3_ := Aside0.mk hk2; clear hI2 hb2 hk2))
      go_ret
      refine ⟨ret_i64 (by unfold numOf; rw [HN1.out]), by unfold aft badOf; rw [HN1.out]; simpa using n1_.out, (pw_below_drewN (Below.refl g w) m1).trans n2_.out, n3_.out⟩
end Go.Proofs.Ytdpigeineephlaa.Num
namespace Go.Proofs.Ytdpigeineephlaa.Num
open Go.RowKit Go.Proofs.YtdpigeineephlaaW.PrintWords Go.Proofs.YtdpigeineephlaaW.PrintLast Go.Proofs.YtdpigeineephlaaW.PrintMore
set_option linter.unusedVariables false
set_option linter.unusedSimpArgs false
attribute [local go_sem] max2_int min2_int max_two min_two

def textOf (l : List Int) : ByteArray := match decT l with | none => ByteArray.empty | some q => strOfNums q.1
def aftT (l : List Int) : List Int := match decT l with | none => [] | some q => q.2
def badT (l : List Int) (bad : Bool) : Bool := bad || (decT l).isNone
theorem aft_bytes {l : List Int} (h : isBytes l) : isBytes (aft l) := by
  unfold aft
  cases hd : dec l with
  | none => intro c hc; simp at hc
  | some q => have := (dec_sound h hd).1; rw [this] at h; exact (isBytes_append.1 h).2
theorem numOf_i64 {l : List Int} (h : isBytes l) : i64 (numOf l) := by
  unfold numOf
  cases hd : dec l with
  | none => exact ⟨by simp, by simp⟩
  | some q => exact (dec_sound h hd).2

theorem num_calls' (x : Int) (P : Nat → Prop) (w : World) (g : Nat) (l : List Int) (bad : Bool) (hI : Rd 71 P w g l bad) (hb : isBytes l) (hx : numOf l = x) :
    Calls Try.prog 48 #[.pointer (some ⟨g, 0, none⟩)] w fun e w' => e = .returned (.int .i64 x) ∧ Rd 71 P w' g (aft l) (badOf l bad) ∧ Below g w w' ∧ KeepBut w w' g none := by
  subst hx; exact num_calls P w g l bad hI hb
theorem keep_step {w w1 w2 : World} {g : Nat} (h : KeepBut w w1 g none) (k : KeepBut w1 w2 g none) : KeepBut w w2 g none := h.trans k (.inl rfl)
theorem decT_num {l : List Int} {n : Nat} (h : numOf l = (n : Int)) (hn : n ≤ (aft l).length) (hs : (dec l).isSome = true) : decT l = some ((aft l).take n, (aft l).drop n) := by
  unfold numOf aft at *
  unfold decT
  cases hd : dec l with
  | none => rw [hd] at hs; simp at hs
  | some q =>
    rw [hd] at h hn
    simp only at h hn
    simp only [Option.bind_some]
    rw [if_neg (by omega), h]; simp
theorem decT_none0 {l : List Int} (h : (dec l).isSome = false) : decT l = none := by
  unfold decT
  cases hd : dec l with
  | none => rfl
  | some q => rw [hd] at h; simp at h
theorem decT_none1 {l : List Int} (h : numOf l < 0 ∨ ((aft l).length : Int) < numOf l) : decT l = none := by
  unfold numOf aft at *
  unfold decT
  cases hd : dec l with
  | none => rfl
  | some q => rw [hd] at h; simp only at h; simp only [Option.bind_some]; rw [if_pos h]
theorem num_none {l : List Int} (h : (dec l).isSome = false) : numOf l = 0 ∧ aft l = [] ∧ ∀ b, badOf l b = true := by
  unfold numOf aft badOf
  cases hd : dec l with
  | none => exact ⟨rfl, rfl, fun b => by simp⟩
  | some q => rw [hd] at h; simp at h
theorem bad_some {l : List Int} (h : (dec l).isSome = true) (b : Bool) : badOf l b = b := by
  unfold badOf
  cases hd : dec l with
  | none => rw [hd] at h; simp at h
  | some q => simp

/-- A text is taken: both readers go alike from the number on. -/
theorem textEnd {l : List Int} (n : Nat) (h : numOf l = (n : Int)) (hn : n ≤ (aft l).length) (bad : Bool) :
    textOf l = strOfNums ((aft l).take n) ∧ aftT l = (aft l).drop n ∧ badT l bad = badOf l bad := by
  cases hs : (dec l).isSome with
  | true =>
    have hd := decT_num h hn hs
    unfold textOf aftT badT
    rw [hd, bad_some hs]
    exact ⟨rfl, rfl, by simp⟩
  | false =>
    have hd := decT_none0 hs
    obtain ⟨h1, h2, h3⟩ := num_none hs
    unfold textOf aftT badT
    rw [hd, h2, h3]
    exact ⟨by simp [strOfNums]; rfl, by simp, by simp⟩
theorem textNone {l : List Int} (h : numOf l < 0 ∨ ((aft l).length : Int) < numOf l) (bad : Bool) : textOf l = ByteArray.empty ∧ aftT l = [] ∧ badT l bad = true := by
  unfold textOf aftT badT
  rw [decT_none1 h]
  exact ⟨rfl, rfl, by simp⟩

theorem take_C {w : World} {A : Option Addr} {l : List Int} {n : Nat} (h : (Kd.int .u8).C w A l.length l) (hn : n ≤ l.length) : (Kd.int .u8).C w A n (l.take n) := by
  have h2 := Kd.C_take h hn
  rwa [List.length_take, Nat.min_eq_left hn] at h2
theorem info_size : ∃ i0, Try.prog.info? 5 = some i0 ∧ i0.size = 1 := by obtain ⟨i0, h1, h2⟩ := Option.map_eq_some_iff.1 size_u8; exact ⟨i0, h1, h2⟩
set_option maxRecDepth 100000 in
theorem text_calls (P : Nat → Prop) (w : World) (g : Nat) (l : List Int) (bad : Bool) (hI : Rd 71 P w g l bad) (hb : isBytes l) :
    Calls Try.prog 40 #[.pointer (some ⟨g, 0, none⟩)] w fun e w' => e = .returned (.string (textOf l)) ∧ Rd 71 P w' g (aftT l) (badT l bad) ∧ Below g w w' ∧ KeepBut w w' g none := by
  have hn64 := numOf_i64 hb
  obtain ⟨x, hx⟩ : ∃ x, numOf l = x := ⟨_, rfl⟩
  rw [hx] at hn64
  obtain ⟨hx1, hx2⟩ := hn64
  have HX := Aside0.mk hx
  by_cases hneg : x < 0
  · have e1 : decide (x < 0) = true := decide_eq_true hneg
    obtain ⟨t1, t2, t3⟩ := textNone (l := l) (.inl (by omega)) bad
    rw [t1, t2, t3]
    go_enter Try.func40, Try.ntmps40
    go_wp2_with (first | (go_at_call 48; refine (num_calls' x P w g l bad hI hb hx).mono ?_; rintro e w1 ⟨rfl, hI2, hb2, hk2⟩; have HI2 := Aside0.mk hI2; obtain ⟨A, c, hblk, hc, hr, hP, hg⟩ := hI2; have hc0 : w1.cell? ⟨g, 0, none⟩ = some (.slice A (aft l).length c) := blk_cell hblk 0; have hf0 : w1.frozen? ⟨g, 0, none⟩ = false := blk_frozen hblk 0; have HBK := Aside0.mk hblk; have HG := Aside0.mk hg; have HC := Aside0.mk hc; have HR := Aside0.mk hr; have HP := Aside0.mk hP; have HB := Aside0.mk hb2; have HK := Aside0.mk hk2; clear hblk hg hc hr hb2 hk2 hP) | (go_at_call 67; refine (fail_calls P _ g (aft l) (badOf l bad) HI2.out).mono ?_; rintro e w2 ⟨rfl, hI3, hb2, hk2⟩; have n1_ := Aside0.mk hI3; have n2_ := Aside0.mk (HB.out.trans hb2); have n3_ := Aside0.mk (keep_step HK.out hk2); clear hI3 hb2 hk2))
    go_ret
    exact ⟨rfl, n1_.out, n2_.out, n3_.out⟩
  · have e1 : decide (x < 0) = false := decide_eq_false hneg
    by_cases hbig : ((aft l).length : Int) < x
    · have e2 : decide (((aft l).length : Int) < x) = true := decide_eq_true hbig
      obtain ⟨t1, t2, t3⟩ := textNone (l := l) (.inr (by omega)) bad
      rw [t1, t2, t3]
      go_enter Try.func40, Try.ntmps40
      go_wp2_with (first | (go_at_call 48; refine (num_calls' x P w g l bad hI hb hx).mono ?_; rintro e w1 ⟨rfl, hI2, hb2, hk2⟩; have HI2 := Aside0.mk hI2; obtain ⟨A, c, hblk, hc, hr, hP, hg⟩ := hI2; have hc0 : w1.cell? ⟨g, 0, none⟩ = some (.slice A (aft l).length c) := blk_cell hblk 0; have hf0 : w1.frozen? ⟨g, 0, none⟩ = false := blk_frozen hblk 0; have HBK := Aside0.mk hblk; have HG := Aside0.mk hg; have HC := Aside0.mk hc; have HR := Aside0.mk hr; have HP := Aside0.mk hP; have HB := Aside0.mk hb2; have HK := Aside0.mk hk2; clear hblk hg hc hr hb2 hk2 hP) | (go_at_call 67; refine (fail_calls P _ g (aft l) (badOf l bad) HI2.out).mono ?_; rintro e w2 ⟨rfl, hI3, hb2, hk2⟩; have n1_ := Aside0.mk hI3; have n2_ := Aside0.mk (HB.out.trans hb2); have n3_ := Aside0.mk (keep_step HK.out hk2); clear hI3 hb2 hk2))
      go_ret
      exact ⟨rfl, n1_.out, n2_.out, n3_.out⟩
    · have e2 : decide (((aft l).length : Int) < x) = false := decide_eq_false hbig
      obtain ⟨n, rfl⟩ := Int.eq_ofNat_of_zero_le (show 0 ≤ x by omega)
      obtain ⟨t1, t2, t3⟩ := textEnd (l := l) n hx (by omega) bad
      rw [t1, t2, t3]
      have hna : n ≤ (aft l).length := by omega
      go_enter Try.func40, Try.ntmps40
      go_wp2_with (first | (go_at_call 48; refine (num_calls' (n : Int) P w g l bad hI hb hx).mono ?_; rintro e w1 ⟨rfl, hI2, hb2, hk2⟩; have HI2 := Aside0.mk hI2; obtain ⟨A, c, hblk, hc, hr, hP, hg⟩ := hI2; have hc0 : w1.cell? ⟨g, 0, none⟩ = some (.slice A (aft l).length c) := blk_cell hblk 0; have hf0 : w1.frozen? ⟨g, 0, none⟩ = false := blk_frozen hblk 0; have HBK := Aside0.mk hblk; have HG := Aside0.mk hg; have HC := Aside0.mk hc; have HR := Aside0.mk hr; have HP := Aside0.mk hP; have HB := Aside0.mk hb2; have HK := Aside0.mk hk2; clear hblk hg hc hr hb2 hk2 hP; have hnc : n ≤ c := (by have := HC.out; omega); have hcv := Kd.C_string (P := Try.prog) (c := c) Try.underlying22 Try.underlying5 Try.underlying9 (take_C HR.out hna); obtain ⟨i0, hi0, hi1⟩ := info_size; obtain ⟨A', hcut, hA', hAb⟩ := cutL (P := Try.prog) 22 5 .i64 Try.underlying22 hi0 hi1 A (aft l).length c n hna; have HA := Aside0.mk (hA' w1 (aft l) HC.out HR.out); have HAB := Aside0.mk hAb; clear hA' hi0 hi1 hAb))
      go_ret
      have hs := blk_set HBK.out 0 (.slice A' ((aft l).length - n) (c - n))
      have hbl : ∀ ad, A' = some ad → 0 < ((aft l).drop n).length → P ad.block := fun ad e hn => by
        obtain ⟨ad0, h1, h2⟩ := HAB.out ad e
        rw [h2]; exact HP.out ad0 h1 (by rw [List.length_drop] at hn; omega)
      refine ⟨rfl, ⟨A', c - n, by simpa using hs, by simp only [List.length_drop]; (have := HC.out; omega), Kd.C_keep (0 : Int) (by simp only [List.length_drop]; exact HA.out) ((KeepBut.refl w1 g none).set_ 0 _) (fun ad e hn he => HG.out (he ▸ hbl ad e hn)), hbl, HG.out⟩, belowSet HB.out _, HK.out.set_ 0 _⟩

end Go.Proofs.Ytdpigeineephlaa.Num
namespace Go.Proofs.Ytdpigeineephlaa.Prt
open Go.RowKit Go.Proofs.YtdpigeineephlaaW.PrintWords Go.Proofs.YtdpigeineephlaaW.PrintLast Go.Proofs.YtdpigeineephlaaW.PrintMore
attribute [local go_sem] max2_int min2_int max_two min_two max_three min_three max_four min_four   -- for this text's walks alone
set_option linter.unusedVariables false
set_option linter.unusedSimpArgs false



def errW : Option Int → Value
  | none => .nilIface
  | some c => .iface 0 (.int .i64 c)
theorem errW_none : errW none = .nilIface := rfl
theorem errW_some (c : Int) : errW (some c) = .iface 0 (.int .i64 c) := rfl

theorem info9 : (Try.prog.info? 9).map (fun i => (i.zero, i.size, i.bytes)) = some (some (.string ⟨#[]⟩), 1, 16) := by kernel_rfl
theorem info36 : (Try.prog.info? 36).map (fun i => (i.zero, i.size, i.bytes)) = some (some (.agg #[(.int .i64 0), (.string ⟨#[]⟩), (.slice none 0 0)]), 3, 48) := by kernel_rfl
theorem info60 : (Try.prog.info? 60).map (fun i => (i.zero, i.size, i.bytes)) = some (some (.agg #[(.slice none 0 0), (.slice none 0 0)]), 2, 48) := by kernel_rfl
structure S60 where
  f0 : (List ByteArray)
  f1 : (List ByteArray)
def z60 : S60 := ⟨([] : List ByteArray), ([] : List ByteArray)⟩
def k60 : Kd S60 := Kd.iso (Kd.pair (Kd.slice 9 Kd.string) (Kd.slice 9 Kd.string)) (fun x : S60 => (x.f0, x.f1))
theorem k60_heap : Kd.Heap k60 := Kd.heap_iso _ (Kd.heap_pair (Kd.heap_slice 9 Kd.heap_string) (Kd.heap_slice 9 Kd.heap_string))
theorem k60_open {w : World} {x : S60} {cs : List Value} (h : k60.K w x cs) : ∃ A0 c0 A1 c1, cs = [.slice A0 x.f0.length c0, .slice A1 x.f1.length c1] ∧ x.f0.length ≤ c0 ∧ Kd.string.C w A0 x.f0.length x.f0 ∧ x.f1.length ≤ c1 ∧ Kd.string.C w A1 x.f1.length x.f1 := by
  obtain ⟨_, _, rfl, ⟨A0, c0, rfl, l0, g0⟩, ⟨A1, c1, rfl, l1, g1⟩⟩ := h
  exact ⟨A0, c0, A1, c1, rfl, l0, g0, l1, g1⟩
theorem k60_mk (w : World) (x : S60) {A0 : Option Addr} {c0 : Nat} (l0 : x.f0.length ≤ c0) (g0 : Kd.string.C w A0 x.f0.length x.f0) {A1 : Option Addr} {c1 : Nat} (l1 : x.f1.length ≤ c1) (g1 : Kd.string.C w A1 x.f1.length x.f1) : k60.K w x [.slice A0 x.f0.length c0, .slice A1 x.f1.length c1] := ⟨[.slice A0 x.f0.length c0], [.slice A1 x.f1.length c1], rfl, ⟨A0, c0, rfl, l0, g0⟩, ⟨A1, c1, rfl, l1, g1⟩⟩
theorem k60_mkM (w : World) (base : Nat) (ok : Nat → Prop) (x : S60) {v0 : Value} (g0 : Kd.string.R 9 w base ok v0 x.f0) {v1 : Value} (g1 : Kd.string.R 9 w base ok v1 x.f1) : k60.M w base ok x [v0, v1] := ⟨[v0], [v1], rfl, ⟨v0, rfl, g0⟩, ⟨v1, rfl, g1⟩⟩
theorem k60_openF {W : World} {ok : Nat → Prop} {x : S60} {cs : List Value} (h : Kd.FK k60 W ok x cs) : ∃ A0 c0 A1 c1, cs = [.slice A0 x.f0.length c0, .slice A1 x.f1.length c1] ∧ x.f0.length ≤ c0 ∧ Kd.F Kd.string W ok A0 x.f0.length x.f0 ∧ x.f1.length ≤ c1 ∧ Kd.F Kd.string W ok A1 x.f1.length x.f1 := by
  obtain ⟨A0, c0, A1, c1, rfl, l0, _, l1, _⟩ := k60_open (Kd.FK_now h)
  exact ⟨A0, c0, A1, c1, rfl, l0, (fun W' hW => by obtain ⟨A0_, c0_, A1_, c1_, he, l0_, g0_, l1_, g1_⟩ := k60_open (h W' hW); injection (Option.some.inj (show some (Value.slice A0 x.f0.length c0) = some (Value.slice A0_ x.f0.length c0_) from congrArg (fun l => l[0]?) he)) with ha_ _ _; rw [ha_]; exact g0_), l1, (fun W' hW => by obtain ⟨A0_, c0_, A1_, c1_, he, l0_, g0_, l1_, g1_⟩ := k60_open (h W' hW); injection (Option.some.inj (show some (Value.slice A1 x.f1.length c1) = some (Value.slice A1_ x.f1.length c1_) from congrArg (fun l => l[1]?) he)) with ha_ _ _; rw [ha_]; exact g1_)⟩
theorem k60_mkF (W : World) (ok : Nat → Prop) (x : S60) {A0 : Option Addr} {c0 : Nat} (l0 : x.f0.length ≤ c0) (g0 : Kd.F Kd.string W ok A0 x.f0.length x.f0) {A1 : Option Addr} {c1 : Nat} (l1 : x.f1.length ≤ c1) (g1 : Kd.F Kd.string W ok A1 x.f1.length x.f1) : Kd.FK k60 W ok x [.slice A0 x.f0.length c0, .slice A1 x.f1.length c1] := fun W2 hW => k60_mk W2 x l0 (g0 W2 hW) l1 (g1 W2 hW)
def rd_T60 (xs : List S60) (i : Int) : S60 := xs.getD i.toNat z60
theorem at_T60 {w : World} {A : Option Addr} {n : Nat} {xs : List S60} (h : Kd.C k60 w A n xs) (i : Int) (h0 : 0 ≤ i) (h1 : i < n) : ∃ ad A0 c0 A1 c1, A = some ad ∧ w.cell? (ad.add (i.toNat * 2)) = some (.slice A0 (rd_T60 xs i).f0.length c0) ∧ w.cell? ⟨(ad.add (i.toNat * 2)).block, (ad.add (i.toNat * 2)).off + 1, none⟩ = some (.slice A1 (rd_T60 xs i).f1.length c1) ∧ (rd_T60 xs i).f0.length ≤ c0 ∧ Kd.string.C w A0 (rd_T60 xs i).f0.length (rd_T60 xs i).f0 ∧ (rd_T60 xs i).f1.length ≤ c1 ∧ Kd.string.C w A1 (rd_T60 xs i).f1.length (rd_T60 xs i).f1 := by
  obtain ⟨ad, c, e, _, hK, hc0⟩ := Kd.C_get h z60 i h0 h1
  have hc : ∀ j u, c[j]? = some u → w.cell? (ad.add (i.toNat * 2 + j)) = some u := hc0
  obtain ⟨A0, c0, A1, c1, rfl, l0, g0, l1, g1⟩ := k60_open hK
  exact ⟨ad, A0, c0, A1, c1, e, hc 0 _ rfl, by rw [← add_field _ _ 1 (by omega)]; exact hc 1 _ rfl, l0, g0, l1, g1⟩

structure S25 where
  f0 : (List S60)
def z25 : S25 := ⟨([] : List S60)⟩
def k25 : Kd S25 := Kd.iso (Kd.slice 60 k60) (fun x : S25 => x.f0)
theorem k25_heap : Kd.Heap k25 := Kd.heap_iso _ (Kd.heap_slice 60 k60_heap)
theorem k25_open {w : World} {x : S25} {cs : List Value} (h : k25.K w x cs) : ∃ A0 c0, cs = [.slice A0 x.f0.length c0] ∧ x.f0.length ≤ c0 ∧ k60.C w A0 x.f0.length x.f0 := by
  obtain ⟨A0, c0, rfl, l0, g0⟩ := h
  exact ⟨A0, c0, rfl, l0, g0⟩
theorem k25_mk (w : World) (x : S25) {A0 : Option Addr} {c0 : Nat} (l0 : x.f0.length ≤ c0) (g0 : k60.C w A0 x.f0.length x.f0) : k25.K w x [.slice A0 x.f0.length c0] := ⟨A0, c0, rfl, l0, g0⟩
theorem k25_mkM (w : World) (base : Nat) (ok : Nat → Prop) (x : S25) {v0 : Value} (g0 : k60.R 60 w base ok v0 x.f0) : k25.M w base ok x [v0] := ⟨v0, rfl, g0⟩
structure S36 where
  f0 : Int
  f1 : ByteArray
  f2 : S25
def z36 : S36 := ⟨(0 : Int), (⟨#[]⟩ : ByteArray), z25⟩
def k36 : Kd S36 := Kd.iso (Kd.pair (Kd.int .i64) (Kd.pair Kd.string k25)) (fun x : S36 => (x.f0, x.f1, x.f2))
theorem k36_heap : Kd.Heap k36 := Kd.heap_iso _ (Kd.heap_pair (Kd.heap_int .i64) (Kd.heap_pair Kd.heap_string k25_heap))
theorem k36_open {w : World} {x : S36} {cs : List Value} (h : k36.K w x cs) : ∃ A2 c2, cs = [.int .i64 x.f0, .string x.f1, .slice A2 x.f2.f0.length c2] ∧ x.f2.f0.length ≤ c2 ∧ k60.C w A2 x.f2.f0.length x.f2.f0 := by
  obtain ⟨_, _, rfl, rfl, ⟨_, _, rfl, rfl, s2⟩⟩ := h
  obtain ⟨A2, c2, rfl, l2, g2⟩ := k25_open s2
  exact ⟨A2, c2, rfl, l2, g2⟩
theorem k36_mk (w : World) (x : S36) {A2 : Option Addr} {c2 : Nat} (l2 : x.f2.f0.length ≤ c2) (g2 : k60.C w A2 x.f2.f0.length x.f2.f0) : k36.K w x [.int .i64 x.f0, .string x.f1, .slice A2 x.f2.f0.length c2] := ⟨[.int .i64 x.f0], [.string x.f1, .slice A2 x.f2.f0.length c2], rfl, rfl, ⟨[.string x.f1], [.slice A2 x.f2.f0.length c2], rfl, rfl, (k25_mk w x.f2 l2 g2)⟩⟩
theorem k36_mkM (w : World) (base : Nat) (ok : Nat → Prop) (x : S36) {v2 : Value} (g2 : k60.R 60 w base ok v2 x.f2.f0) : k36.M w base ok x [.int .i64 x.f0, .string x.f1, v2] := ⟨[.int .i64 x.f0], [.string x.f1, v2], rfl, rfl, ⟨[.string x.f1], [v2], rfl, rfl, (k25_mkM w base ok x.f2 g2)⟩⟩
theorem k36_openF {W : World} {ok : Nat → Prop} {x : S36} {cs : List Value} (h : Kd.FK k36 W ok x cs) : ∃ A2 c2, cs = [.int .i64 x.f0, .string x.f1, .slice A2 x.f2.f0.length c2] ∧ x.f2.f0.length ≤ c2 ∧ Kd.F k60 W ok A2 x.f2.f0.length x.f2.f0 := by
  obtain ⟨A2, c2, rfl, l2, _⟩ := k36_open (Kd.FK_now h)
  exact ⟨A2, c2, rfl, l2, (fun W' hW => by obtain ⟨A2_, c2_, he, l2_, g2_⟩ := k36_open (h W' hW); injection (Option.some.inj (show some (Value.slice A2 x.f2.f0.length c2) = some (Value.slice A2_ x.f2.f0.length c2_) from congrArg (fun l => l[2]?) he)) with ha_ _ _; rw [ha_]; exact g2_)⟩
theorem k36_mkF (W : World) (ok : Nat → Prop) (x : S36) {A2 : Option Addr} {c2 : Nat} (l2 : x.f2.f0.length ≤ c2) (g2 : Kd.F k60 W ok A2 x.f2.f0.length x.f2.f0) : Kd.FK k36 W ok x [.int .i64 x.f0, .string x.f1, .slice A2 x.f2.f0.length c2] := fun W2 hW => k36_mk W2 x l2 (g2 W2 hW)
def rd_T36 (xs : List S36) (i : Int) : S36 := xs.getD i.toNat z36
theorem at_T36 {w : World} {A : Option Addr} {n : Nat} {xs : List S36} (h : Kd.C k36 w A n xs) (i : Int) (h0 : 0 ≤ i) (h1 : i < n) : ∃ ad A2 c2, A = some ad ∧ w.cell? (ad.add (i.toNat * 3)) = some (.int .i64 (rd_T36 xs i).f0) ∧ w.cell? ⟨(ad.add (i.toNat * 3)).block, (ad.add (i.toNat * 3)).off + 1, none⟩ = some (.string (rd_T36 xs i).f1) ∧ w.cell? ⟨(ad.add (i.toNat * 3)).block, (ad.add (i.toNat * 3)).off + 2, none⟩ = some (.slice A2 (rd_T36 xs i).f2.f0.length c2) ∧ (rd_T36 xs i).f2.f0.length ≤ c2 ∧ k60.C w A2 (rd_T36 xs i).f2.f0.length (rd_T36 xs i).f2.f0 := by
  obtain ⟨ad, c, e, _, hK, hc0⟩ := Kd.C_get h z36 i h0 h1
  have hc : ∀ j u, c[j]? = some u → w.cell? (ad.add (i.toNat * 3 + j)) = some u := hc0
  obtain ⟨A2, c2, rfl, l2, g2⟩ := k36_open hK
  exact ⟨ad, A2, c2, e, hc 0 _ rfl, by rw [← add_field _ _ 1 (by omega)]; exact hc 1 _ rfl, by rw [← add_field _ _ 2 (by omega)]; exact hc 2 _ rfl, l2, g2⟩

end Go.Proofs.Ytdpigeineephlaa.Prt
namespace Go.Proofs.Ytdpigeineephlaa.Prt
open Go.RowKit Go.Proofs.YtdpigeineephlaaW.PrintWords Go.Proofs.YtdpigeineephlaaW.PrintLast Go.Proofs.YtdpigeineephlaaW.PrintMore
attribute [local go_sem] max2_int min2_int max_two min_two max_three min_three max_four min_four   -- for this text's walks alone
set_option linter.unusedVariables false
set_option linter.unusedSimpArgs false

end Go.Proofs.Ytdpigeineephlaa.Prt
namespace Go.Proofs.Ytdpigeineephlaa.Prt
open Go.RowKit Go.Proofs.YtdpigeineephlaaW.PrintWords Go.Proofs.YtdpigeineephlaaW.PrintLast Go.Proofs.YtdpigeineephlaaW.PrintMore
attribute [local go_sem] max2_int min2_int max_two min_two max_three min_three max_four min_four   -- for this text's walks alone
set_option linter.unusedVariables false
set_option linter.unusedSimpArgs false

end Go.Proofs.Ytdpigeineephlaa.Prt
namespace Go.Proofs.Ytdpigeineephlaa.Prt
open Go.RowKit Go.Proofs.YtdpigeineephlaaW.PrintWords Go.Proofs.YtdpigeineephlaaW.PrintLast Go.Proofs.YtdpigeineephlaaW.PrintMore
attribute [local go_sem] max2_int min2_int max_two min_two max_three min_three max_four min_four   -- for this text's walks alone
set_option linter.unusedVariables false
set_option linter.unusedSimpArgs false

end Go.Proofs.Ytdpigeineephlaa.Prt
namespace Go.Proofs.Ytdpigeineephlaa.Prt
open Go.RowKit Go.Proofs.YtdpigeineephlaaW.PrintWords Go.Proofs.YtdpigeineephlaaW.PrintLast Go.Proofs.YtdpigeineephlaaW.PrintMore
attribute [local go_sem] max2_int min2_int max_two min_two max_three min_three max_four min_four   -- for this text's walks alone
set_option linter.unusedVariables false
set_option linter.unusedSimpArgs false

end Go.Proofs.Ytdpigeineephlaa.Prt
namespace Go.Proofs.Ytdpigeineephlaa.Prt
open Go.RowKit Go.Proofs.YtdpigeineephlaaW.PrintWords Go.Proofs.YtdpigeineephlaaW.PrintLast Go.Proofs.YtdpigeineephlaaW.PrintMore
attribute [local go_sem] max2_int min2_int max_two min_two max_three min_three max_four min_four   -- for this text's walks alone
set_option linter.unusedVariables false
set_option linter.unusedSimpArgs false

end Go.Proofs.Ytdpigeineephlaa.Prt
namespace Go.Proofs.Ytdpigeineephlaa.Nam
open Go.RowKit Go.Proofs.YtdpigeineephlaaW.PrintWords Go.Proofs.YtdpigeineephlaaW.PrintLast Go.Proofs.YtdpigeineephlaaW.PrintMore Go.Proofs.Ytdpigeineephlaa.Num Go.Proofs.Ytdpigeineephlaa.Prt
set_option linter.unusedVariables false
set_option linter.unusedSimpArgs false

def plainC (c : Int) : Bool := decide (97 ≤ c ∧ c ≤ 122) || decide (48 ≤ c ∧ c ≤ 57) || decide (c = 45) || decide (c = 95)
def two (c d : Int) : Bool := decide (c = 195 ∧ (d = 169 ∨ d = 184 ∨ d = 159)) || decide (c = 206 ∧ d = 187)
/-- What two bytes are folded to. -/
def big (c d : Int) : List Int := if c = 195 ∧ d = 137 then [195, 169] else if c = 195 ∧ d = 152 then [195, 184] else if c = 206 ∧ d = 155 then [206, 187] else []
/-- How many bytes the letter at the head has. -/
def letD : List Int → Nat
  | [] => 0
  | [c] => if plainC c then 1 else 0
  | c :: d :: _ => if plainC c then 1 else if two c d then 2 else 0
def bigD : List Int → List Int
  | c :: d :: _ => big c d
  | _ => []
theorem bytes_extract (s : ByteArray) (i j : Nat) : bytesOf (s.extract i j) = ((bytesOf s).drop i).take (j - i) := by
  unfold bytesOf
  rw [ByteArray.data_extract, Array.toList_extract, List.extract_eq_take_drop, List.map_take, List.map_drop]
theorem bytes_length (s : ByteArray) : (bytesOf s).length = s.size := by unfold bytesOf; rw [List.length_map, Array.length_toList]; rfl
theorem wrap_small {n : Int} (h0 : -9223372036854775808 ≤ n) (h1 : n ≤ 9223372036854775807) : wrap64 n = n := by unfold wrap64; omega
theorem drop_cons (l : List Int) (i : Nat) (h : i < l.length) : l.drop i = l.getD i 0 :: l.drop (i + 1) := by
  rw [List.drop_eq_getElem_cons h, List.getD_eq_getElem?_getD, List.getElem?_eq_getElem h]; rfl
theorem letD_le (l : List Int) : letD l ≤ l.length ∧ letD l ≤ 2 := by
  match l with
  | [] => simp [letD]
  | [c] => simp only [letD, List.length_cons, List.length_nil]; split <;> omega
  | c :: d :: r => simp only [letD, List.length_cons]; (repeat' split) <;> omega
def lettersOnly (l : List Int) : Bool := if h : letD l = 0 then l.isEmpty else lettersOnly (l.drop (letD l))
termination_by l.length
decreasing_by
  have := letD_le l
  rw [List.length_drop]; omega
theorem lettersOnly_nil : lettersOnly [] = true := by rw [lettersOnly]; rfl
theorem lettersOnly_bad {l : List Int} (h : letD l = 0) (hl : l ≠ []) : lettersOnly l = false := by rw [lettersOnly, dif_pos h]; cases l with | nil => exact absurd rfl hl | cons c r => rfl
theorem lettersOnly_step {l : List Int} (h : letD l ≠ 0) : lettersOnly l = lettersOnly (l.drop (letD l)) := by rw [lettersOnly, dif_neg h]
def notFirst (c : Int) : Bool := decide (48 ≤ c ∧ c ≤ 57) || decide (c = 45)
def mayL (l : List Int) : Bool := decide (1 ≤ l.length ∧ l.length ≤ 24) && !notFirst (l.getD 0 0) && lettersOnly l
/-- What is folded at the head: the bytes laid, and how many are taken. -/
def stepL (l : List Int) : List Int × Nat :=
  let c := l.getD 0 0
  if 0 < letD l then (l.take (letD l), letD l)
  else if 65 ≤ c ∧ c ≤ 90 then ([c + 32], 1)
  else if c = 32 ∨ c = 46 ∨ c = 47 then ([45], 1)
  else if bigD l ≠ [] then (bigD l, 2)
  else ([], 1)
theorem bigD_len (l : List Int) : bigD l = [] ∨ ((bigD l).length = 2 ∧ 2 ≤ l.length) := by
  match l with
  | [] => exact .inl rfl
  | [c] => exact .inl rfl
  | c :: d :: r => simp only [bigD, big, List.length_cons]; (repeat' split) <;> simp
theorem stepL_len {l : List Int} (hl : l ≠ []) : 1 ≤ (stepL l).2 ∧ (stepL l).2 ≤ l.length ∧ (stepL l).1.length ≤ (stepL l).2 := by
  have h1 := letD_le l
  have h2 := bigD_len l
  have h3 : 1 ≤ l.length := List.length_pos_iff.2 hl
  simp only [stepL]
  repeat' split
  · rw [List.length_take]; omega
  · simp; omega
  · simp; omega
  · rcases h2 with h | ⟨h, h'⟩
    · contradiction
    · exact ⟨Nat.le_succ 1, h', Nat.le_of_eq h⟩
  · simp; omega
def foldL (l : List Int) : List Int := if h : l = [] then [] else (stepL l).1 ++ foldL (l.drop (stepL l).2)
termination_by l.length
decreasing_by
  have := stepL_len h
  rw [List.length_drop]; omega
theorem foldL_step {l : List Int} (h : l ≠ []) : foldL l = (stepL l).1 ++ foldL (l.drop (stepL l).2) := by rw [foldL, dif_neg h]
theorem strOfNums_size' (l : List Int) : (strOfNums l).size = l.length := by unfold strOfNums; show (List.toArray _).size = _; simp
/-- The bytes of a letter's rune. -/
def encR (r : Int) : List Int := if r ≤ 127 then [r] else [192 + r / 64, 128 + r % 64]
theorem dec_sum (s : ByteArray) (i : Nat) (hi : i < s.size) :
    ((s.get! i).toNat < 128 ∧ (Utf8.decode s i).1 = (s.get! i).toNat ∧ (Utf8.decode s i).2 = 1) ∨
    (128 ≤ (s.get! i).toNat ∧ i + 1 < s.size ∧ (s.get! i).toNat / 32 = 6 ∧ (s.get! (i + 1)).toNat / 64 = 2 ∧ (Utf8.decode s i).1 = ((s.get! i).toNat % 32) * 64 + (s.get! (i + 1)).toNat % 64 ∧ 128 ≤ ((s.get! i).toNat % 32) * 64 + (s.get! (i + 1)).toNat % 64 ∧ (Utf8.decode s i).2 = 2) ∨
    (128 ≤ (s.get! i).toNat ∧ ((Utf8.decode s i).1 = 65533 ∨ 2048 ≤ (Utf8.decode s i).1) ∧ 1 ≤ (Utf8.decode s i).2 ∧ i + (Utf8.decode s i).2 ≤ s.size ∧ (∀ k, 1 ≤ k → k < (Utf8.decode s i).2 → (s.get! (i + k)).toNat / 64 = 2) ∧ ¬ (i + 1 < s.size ∧ (s.get! i).toNat / 32 = 6 ∧ (s.get! (i + 1)).toNat / 64 = 2 ∧ 128 ≤ ((s.get! i).toNat % 32) * 64 + (s.get! (i + 1)).toNat % 64)) := by
  obtain ⟨f, hf⟩ : ∃ f : Nat → Nat, ∀ k, (s.get! (i + k)).toNat = f k := ⟨fun k => (s.get! (i + k)).toNat, fun _ => rfl⟩
  have h00 : (s.get! i).toNat = f 0 := hf 0
  unfold Utf8.decode
  simp only [hf, h00]
  clear h00 hf
  generalize f 0 = b0
  by_cases h0 : b0 < 128
  · rw [if_pos h0]; exact .inl ⟨h0, rfl, rfl⟩
  · rw [if_neg h0]
    right
    by_cases h1 : (b0 / 32 == 6 && (decide (i + 1 < s.size) && f 1 / 64 == 2)) = true
    · rw [if_pos h1]
      simp only [Bool.and_eq_true, beq_iff_eq, decide_eq_true_eq] at h1
      by_cases h2 : b0 % 32 * 64 + f 1 % 64 ≥ 128
      · rw [if_pos h2]; exact .inl ⟨by omega, h1.2.1, h1.1, h1.2.2, rfl, h2, rfl⟩
      · rw [if_neg h2]; exact .inr ⟨by omega, .inl rfl, Nat.le_refl _, by simp only; omega, fun k hk hk2 => by simp only at hk2; omega, fun h => by omega⟩
    · rw [if_neg h1]
      simp only [Bool.and_eq_true, beq_iff_eq, decide_eq_true_eq] at h1
      right
      have hno : ¬ (i + 1 < s.size ∧ b0 / 32 = 6 ∧ f 1 / 64 = 2 ∧ 128 ≤ b0 % 32 * 64 + f 1 % 64) := fun h => h1 ⟨h.2.1, h.1, h.2.2.1⟩
      have bad : 128 ≤ b0 ∧ ((65533 : Nat) = 65533 ∨ 2048 ≤ (65533 : Nat)) ∧ 1 ≤ 1 ∧ i + 1 ≤ s.size ∧ (∀ k, 1 ≤ k → k < 1 → f k / 64 = 2) ∧ ¬ (i + 1 < s.size ∧ b0 / 32 = 6 ∧ f 1 / 64 = 2 ∧ 128 ≤ b0 % 32 * 64 + f 1 % 64) :=
        ⟨by omega, .inl rfl, Nat.le_refl _, by omega, fun k hk hk2 => by omega, hno⟩
      by_cases h3 : (b0 / 16 == 14 && (decide (i + 1 < s.size) && f 1 / 64 == 2) && (decide (i + 2 < s.size) && f 2 / 64 == 2)) = true
      · rw [if_pos h3]
        simp only [Bool.and_eq_true, beq_iff_eq, decide_eq_true_eq] at h3
        split
        · rename_i h4
          simp only [Bool.and_eq_true, decide_eq_true_eq] at h4
          exact ⟨by omega, .inr h4.1, Nat.succ_le_succ (Nat.zero_le _), by simp only; omega, fun k hk hk2 => by
            simp only at hk2
            rcases (show k = 1 ∨ k = 2 by omega) with rfl | rfl
            · exact h3.1.2.2
            · exact h3.2.2, hno⟩
        · exact bad
      · rw [if_neg h3]
        by_cases h5 : (b0 / 8 == 30 && (decide (i + 1 < s.size) && f 1 / 64 == 2) && (decide (i + 2 < s.size) && f 2 / 64 == 2) && (decide (i + 3 < s.size) && f 3 / 64 == 2)) = true
        · rw [if_pos h5]
          simp only [Bool.and_eq_true, beq_iff_eq, decide_eq_true_eq] at h5
          split
          · rename_i h4
            simp only [Bool.and_eq_true, decide_eq_true_eq] at h4
            exact ⟨by omega, .inr (by omega), Nat.succ_le_succ (Nat.zero_le _), by simp only; omega, fun k hk hk2 => by
              simp only at hk2
              rcases (show k = 1 ∨ k = 2 ∨ k = 3 by omega) with rfl | rfl | rfl
              · exact h5.1.1.2.2
              · exact h5.1.2.2
              · exact h5.2.2, hno⟩
          · exact bad
        · rw [if_neg h5]
          exact bad
def letR (c : Int) : Bool := plainC c || decide (c = 233 ∨ c = 248 ∨ c = 223 ∨ c = 955)
def smallR (c : Int) : Int := if c = 32 ∨ c = 46 ∨ c = 47 then 45 else if c = 201 then 233 else if c = 216 then 248 else if c = 923 then 955 else if letR c then c else if 65 ≤ c ∧ c ≤ 90 then c + 32 else 65533
theorem plain_range {c : Int} (h : plainC c = true) : 45 ≤ c ∧ c ≤ 122 ∧ c ≠ 46 ∧ c ≠ 47 := by
  unfold plainC at h
  simp only [Bool.or_eq_true, decide_eq_true_eq] at h
  omega
theorem two_iff {c d : Int} : two c d = true ↔ (c = 195 ∧ (d = 169 ∨ d = 184 ∨ d = 159)) ∨ (c = 206 ∧ d = 187) := by unfold two; simp
theorem gb (s : ByteArray) (j : Nat) (h : j < s.size) : (bytesOf s).getD j 0 = ((s.get! j).toNat : Int) := by
  unfold bytesOf
  have h2 : j < s.data.size := h
  rw [List.getD_eq_getElem?_getD, List.getElem?_map, Array.getElem?_toList, Array.getElem?_eq_getElem h2]
  have e : s.get! j = s.data[j] := by
    show s.data[j]! = _
    rw [getElem!_pos s.data j h2]
  rw [e]; rfl
theorem skip1 (c : Int) (r : List Int) (h : letD (c :: r) = 0) (hb : bigD (c :: r) = []) (hc : 128 ≤ c) : foldL (c :: r) = foldL r := by
  rw [foldL_step (by simp)]
  have e : stepL (c :: r) = ([], 1) := by
    unfold stepL
    simp only [h, hb, List.getD_cons_zero]
    rw [if_neg (by decide), if_neg (by omega), if_neg (by omega), if_neg (by simp)]
  rw [e]; rfl
theorem skipC (d : Int) (r : List Int) (h1 : 128 ≤ d) (h2 : d < 192) : foldL (d :: r) = foldL r := by
  have hp : ¬ plainC d = true := fun h => by have := plain_range h; omega
  refine skip1 d r ?_ ?_ h1
  · cases r with
    | nil => simp [letD, hp]
    | cons e t =>
      simp only [letD, if_neg hp]
      rw [if_neg (fun h => by rw [two_iff] at h; omega)]
  · cases r with
    | nil => rfl
    | cons e t => simp only [bigD, big]; rw [if_neg (by omega), if_neg (by omega), if_neg (by omega)]
theorem letD_pos1 {c : Int} {r : List Int} (h : plainC c = true) : letD (c :: r) = 1 := by
  cases r with
  | nil => simp [letD, h]
  | cons d t => simp [letD, h]
theorem letD0 {c : Int} {r : List Int} (hp : ¬ plainC c = true) (h1 : c ≠ 195) (h2 : c ≠ 206) : letD (c :: r) = 0 ∧ bigD (c :: r) = [] := by
  cases r with
  | nil => exact ⟨by simp [letD, hp], rfl⟩
  | cons d t =>
    refine ⟨?_, ?_⟩
    · simp only [letD, if_neg hp]
      rw [if_neg (fun h => by rw [two_iff] at h; omega)]
    · simp only [bigD, big]; rw [if_neg (by omega), if_neg (by omega), if_neg (by omega)]
theorem letR_small {r : Int} (h : letR r = true) : smallR r = r := by
  have h0 := h
  unfold letR at h
  simp only [Bool.or_eq_true, decide_eq_true_eq] at h
  unfold smallR
  have hr : r ≠ 32 ∧ r ≠ 46 ∧ r ≠ 47 ∧ r ≠ 201 ∧ r ≠ 216 ∧ r ≠ 923 := by
    rcases h with h | h
    · have := plain_range h; omega
    · omega
  rw [if_neg (by omega), if_neg (by omega), if_neg (by omega), if_neg (by omega), if_pos h0]
/-- What the next rune is, told by the bytes at hand. -/
theorem rune_cases (s : ByteArray) (i : Nat) (hi : i < s.size) (L : List Int) (hL : L = (bytesOf s).drop i) (r : Int) (w : Nat) (hr : r = ((Utf8.decode s i).1 : Int)) (hw : w = (Utf8.decode s i).2) :
    1 ≤ w ∧ i + w ≤ s.size ∧ ((0 < letD L ∧ w = letD L ∧ letR r = true ∧ encR r = L.take w ∧ smallR r = r ∧ ((0 ≤ r ∧ r ≤ 127) ∨ r = 233 ∨ r = 248 ∨ r = 223 ∨ r = 955) ∧ (r ≤ 57 ↔ notFirst (L.getD 0 0) = true)) ∨
      (letD L = 0 ∧ letR r = false ∧ ((smallR r ≠ 65533 ∧ encR (smallR r) = (stepL L).1 ∧ w = (stepL L).2 ∧ ((0 ≤ smallR r ∧ smallR r ≤ 127) ∨ smallR r = 233 ∨ smallR r = 248 ∨ smallR r = 223 ∨ smallR r = 955)) ∨ (smallR r = 65533 ∧ foldL L = foldL (L.drop w))))) := by
  have hlen : (bytesOf s).length = s.size := bytes_length s
  have hc := gb s i hi
  rw [drop_cons _ i (by omega), hc] at hL
  generalize hb0 : (s.get! i).toNat = b0 at *
  have hb : b0 < 256 := by rw [← hb0]; exact UInt8.toNat_lt _
  rcases dec_sum s i hi with ⟨h1, h2, h3⟩ | ⟨h1, h2, h3, h4, h5, h6, h7⟩ | ⟨h1, h2, h3, h4, h5, h6⟩
  · rw [hb0] at h1 h2
    rw [h2] at hr
    rw [h3] at hw
    subst hr; subst hw
    refine ⟨Nat.le_refl _, by omega, ?_⟩
    by_cases hp : plainC (b0 : Int) = true
    · left
      have hl : letR (b0 : Int) = true := by unfold letR; rw [hp]; rfl
      have hpr := plain_range hp
      have e1 : letD L = 1 := by rw [hL]; exact letD_pos1 hp
      refine ⟨by omega, e1.symm, hl, ?_, letR_small hl, .inl ⟨by omega, by omega⟩, ?_⟩
      · unfold encR; rw [if_pos (by omega), hL]; rfl
      · rw [hL, List.getD_cons_zero]; unfold notFirst; simp only [Bool.or_eq_true, decide_eq_true_eq]; omega
    · right
      obtain ⟨e1, e2⟩ := letD0 (r := (bytesOf s).drop (i + 1)) hp (by omega) (by omega)
      rw [← hL] at e1 e2
      have hl : letR (b0 : Int) = false := by
        unfold letR
        have : plainC (b0 : Int) = false := by simpa using hp
        rw [this, Bool.false_or]
        exact decide_eq_false (by omega)
      refine ⟨e1, hl, ?_⟩
      have hg : L.getD 0 0 = (b0 : Int) := by rw [hL]; rfl
      by_cases hs : (b0 : Int) = 32 ∨ (b0 : Int) = 46 ∨ (b0 : Int) = 47
      · left
        have e : smallR (b0 : Int) = 45 := by unfold smallR; rw [if_pos hs]
        rw [e]
        refine ⟨by decide, ?_, ?_, by omega⟩
        · unfold stepL; simp only [e1, hg]; rw [if_neg (by decide), if_neg (by omega), if_pos hs]; rfl
        · unfold stepL; simp only [e1, hg]; rw [if_neg (by decide), if_neg (by omega), if_pos hs]
      · by_cases hu : 65 ≤ (b0 : Int) ∧ (b0 : Int) ≤ 90
        · left
          have e : smallR (b0 : Int) = (b0 : Int) + 32 := by unfold smallR; rw [if_neg hs, if_neg (by omega), if_neg (by omega), if_neg (by omega), if_neg (by rw [hl]; decide), if_pos hu]
          rw [e]
          refine ⟨by omega, ?_, ?_, by omega⟩
          · unfold stepL; simp only [e1, hg]; rw [if_neg (by decide), if_pos hu]; unfold encR; rw [if_pos (by omega)]
          · unfold stepL; simp only [e1, hg]; rw [if_neg (by decide), if_pos hu]
        · right
          have e : smallR (b0 : Int) = 65533 := by unfold smallR; rw [if_neg hs, if_neg (by omega), if_neg (by omega), if_neg (by omega), if_neg (by rw [hl]; decide), if_neg hu]
          refine ⟨e, ?_⟩
          have hne : L ≠ [] := by rw [hL]; simp
          rw [foldL_step hne]
          have e3 : stepL L = ([], 1) := by unfold stepL; simp only [e1, hg, e2]; rw [if_neg (by decide), if_neg hu, if_neg hs, if_neg (by simp)]
          rw [e3]; rfl
  · rw [hb0] at h1 h3 h5 h6
    have hd := gb s (i + 1) h2
    rw [drop_cons _ (i + 1) (by omega), hd] at hL
    generalize hb1 : (s.get! (i + 1)).toNat = b1 at *
    have hbb : b1 < 256 := by rw [← hb1]; exact UInt8.toNat_lt _
    rw [h5] at hr
    rw [h7] at hw
    subst hw
    refine ⟨by omega, by omega, ?_⟩
    have hp : ¬ plainC (b0 : Int) = true := fun h => by have := plain_range h; omega
    have hrp : plainC r = false := by
      cases h : plainC r with
      | false => rfl
      | true => have := plain_range h; omega
    by_cases ht : two (b0 : Int) (b1 : Int) = true
    · left
      have e1 : letD L = 2 := by rw [hL]; simp only [letD, if_neg hp, if_pos ht]
      rw [two_iff] at ht
      have hl : letR r = true := by unfold letR; rw [hrp, Bool.false_or]; exact decide_eq_true (by omega)
      refine ⟨by omega, e1.symm, hl, ?_, letR_small hl, .inr (by omega), ?_⟩
      · unfold encR; rw [if_neg (by omega), hL]
        show _ = [(b0 : Int), (b1 : Int)]
        congr 1
        · omega
        · congr 1; omega
      · rw [hL, List.getD_cons_zero]; unfold notFirst; simp only [Bool.or_eq_true, decide_eq_true_eq]; omega
    · right
      have e1 : letD L = 0 := by rw [hL]; simp only [letD, if_neg hp, if_neg ht]
      have ht' : ¬ (((b0 : Int) = 195 ∧ ((b1 : Int) = 169 ∨ (b1 : Int) = 184 ∨ (b1 : Int) = 159)) ∨ ((b0 : Int) = 206 ∧ (b1 : Int) = 187)) := fun h => ht (two_iff.2 h)
      have hl : letR r = false := by unfold letR; rw [hrp, Bool.false_or]; exact decide_eq_false (by omega)
      refine ⟨e1, hl, ?_⟩
      have hg : L.getD 0 0 = (b0 : Int) := by rw [hL]; rfl
      have step2 : ∀ o, big (b0 : Int) (b1 : Int) = o → o ≠ [] → stepL L = (o, 2) := by
        intro o ho hno
        have e2 : bigD L = o := by rw [hL]; exact ho
        unfold stepL; simp only [e1, hg, e2]; rw [if_neg (by decide), if_neg (by omega), if_neg (by omega), if_pos hno]
      by_cases g1 : r = 201
      · left
        have e : smallR r = 233 := by unfold smallR; rw [if_neg (by omega), if_pos g1]
        have e3 := step2 [195, 169] (by unfold big; rw [if_pos (by omega)]) (by simp)
        rw [e, e3]
        exact ⟨by decide, rfl, rfl, by decide⟩
      · by_cases g2 : r = 216
        · left
          have e : smallR r = 248 := by unfold smallR; rw [if_neg (by omega), if_neg g1, if_pos g2]
          have e3 := step2 [195, 184] (by unfold big; rw [if_neg (by omega), if_pos (by omega)]) (by simp)
          rw [e, e3]
          exact ⟨by decide, rfl, rfl, by decide⟩
        · by_cases g3 : r = 923
          · left
            have e : smallR r = 955 := by unfold smallR; rw [if_neg (by omega), if_neg g1, if_neg g2, if_pos g3]
            have e3 := step2 [206, 187] (by unfold big; rw [if_neg (by omega), if_neg (by omega), if_pos (by omega)]) (by simp)
            rw [e, e3]
            exact ⟨by decide, rfl, rfl, by decide⟩
          · right
            have e : smallR r = 65533 := by unfold smallR; rw [if_neg (by omega), if_neg g1, if_neg g2, if_neg g3, if_neg (by rw [hl]; decide), if_neg (by omega)]
            have e2 : bigD L = [] := by rw [hL]; simp only [bigD, big]; rw [if_neg (by omega), if_neg (by omega), if_neg (by omega)]
            refine ⟨e, ?_⟩
            rw [hL] at e1 e2 ⊢
            rw [skip1 _ _ e1 e2 (by omega), skipC _ _ (by omega) (by omega)]; rfl
  · rw [hb0] at h1 h6
    rw [← hw] at h3 h4 h5
    refine ⟨h3, h4, .inr ?_⟩
    have hp : ¬ plainC (b0 : Int) = true := fun h => by have := plain_range h; omega
    have hrp : plainC r = false := by
      cases h : plainC r with
      | false => rfl
      | true => have := plain_range h; omega
    have hl : letR r = false := by unfold letR; rw [hrp, Bool.false_or]; exact decide_eq_false (by omega)
    have e12 : letD L = 0 ∧ bigD L = [] := by
      rw [hL]
      by_cases hi1 : i + 1 < s.size
      · have hd := gb s (i + 1) hi1
        rw [drop_cons _ (i + 1) (by omega), hd]
        generalize hb1 : (s.get! (i + 1)).toNat = b1 at *
        have hbb : b1 < 256 := by rw [← hb1]; exact UInt8.toNat_lt _
        have hno : ¬ (((b0 : Int) = 195 ∨ (b0 : Int) = 206) ∧ 128 ≤ b1 ∧ b1 < 192) := fun h => h6 ⟨hi1, by omega, by omega, by omega⟩
        refine ⟨?_, ?_⟩
        · simp only [letD, if_neg hp]
          rw [if_neg (fun h => by rw [two_iff] at h; omega)]
        · simp only [bigD, big]; rw [if_neg (by omega), if_neg (by omega), if_neg (by omega)]
      · have : (bytesOf s).drop (i + 1) = [] := List.drop_eq_nil_of_le (by omega)
        rw [this]
        exact ⟨by simp [letD, hp], rfl⟩
    refine ⟨e12.1, hl, .inr ⟨?_, ?_⟩⟩
    · unfold smallR; rw [if_neg (by omega), if_neg (by omega), if_neg (by omega), if_neg (by omega), if_neg (by rw [hl]; decide), if_neg (by omega)]
    · have key : ∀ j, 1 ≤ j → j ≤ w → foldL L = foldL (L.drop j) := by
        intro j
        induction j with
        | zero => intro h; omega
        | succ j ih =>
          intro _ hj
          by_cases hj0 : j = 0
          · subst hj0
            have e1 := e12.1; have e2 := e12.2
            rw [hL] at e1 e2 ⊢
            exact skip1 _ _ e1 e2 (by omega)
          · rw [ih (by omega) (by omega)]
            have hcj := h5 j (by omega) (by omega)
            have hij : i + j < s.size := by omega
            have hgj := gb s (i + j) hij
            have e : L.drop j = (bytesOf s).drop (i + j) := by rw [hL, ← hc, ← drop_cons _ i (by omega), List.drop_drop]
            have e' : L.drop (j + 1) = (bytesOf s).drop (i + j + 1) := by rw [hL, ← hc, ← drop_cons _ i (by omega), List.drop_drop]; rfl
            have hbb : (s.get! (i + j)).toNat < 256 := UInt8.toNat_lt _
            rw [e, e', drop_cons _ (i + j) (by omega), hgj]
            exact skipC _ _ (by omega) (by omega)
      exact key w h3 (Nat.le_refl _)
end Go.Proofs.Ytdpigeineephlaa.Nam
namespace Go.Proofs.Ytdpigeineephlaa.Prt
open Go.RowKit Go.Proofs.YtdpigeineephlaaW.PrintWords Go.Proofs.YtdpigeineephlaaW.PrintLast Go.Proofs.YtdpigeineephlaaW.PrintMore
attribute [local go_sem] max2_int min2_int max_two min_two max_three min_three max_four min_four   -- for this text's walks alone
set_option linter.unusedVariables false
set_option linter.unusedSimpArgs false

mutual
def name_letter.j1 : Nat → Int → Option (Bool)
  | 0, _ => none
  | k + 1, x0 => if x0 = 45 then (some true) else (if x0 = 95 then (some true) else (if x0 = 233 then (some true) else (if x0 = 248 then (some true) else (if x0 = 223 then (some true) else (if x0 = 955 then (some true) else (some false))))))
def name_letter.j0 : Nat → Int → Bool → Option (Bool)
  | 0, _, _ => none
  | k + 1, x0, x3 => if x3 = true then (some true) else (if 48 ≤ x0 then (if x0 ≤ 57 then (some true) else (name_letter.j1 k x0)) else (name_letter.j1 k x0))
end
def name_letter.f (k : Nat) (a0 : Int) : Option (Bool) := if 97 ≤ a0 then (name_letter.j0 k a0 (decide (a0 ≤ 122))) else (name_letter.j0 k a0 false)
set_option maxHeartbeats 8000000 in
set_option maxRecDepth 100000 in
theorem name_letter.calls (k : Nat) (a0 : Int) (r : Bool) (w : World) (h : name_letter.f k a0 = some r) :
    Calls Try.prog 65 #[.int .i32 a0] w fun e w' => e = .returned (.bool r) ∧ Drawn0 w w' := by
  have H : (if 97 ≤ a0 then (name_letter.j0 k a0 (decide (a0 ≤ 122))) else (name_letter.j0 k a0 false)) = some r := h
  clear h
  have HC2 := Aside0.mk H
  clear H
  go_enter Try.func65, Try.ntmps65
  go_upto_block 0 with (fail)
  go_cut [] (fun wc => ∃ (kq : Nat), Aside0 (name_letter.j1 kq a0 = some r) ∧ Aside0 (kq ≤ k) ∧ Drawn0 w wc)
  case first =>
    have H := HC2.out
    clear HC2
    have HC3 := Aside0.mk H
    clear H
    go_upto_region 1 with (fail)
    go_cut [3] (fun v3 wc => ∃ (kq : Nat) (x3_2 : Bool), v3 = .bool x3_2 ∧ Aside0 (name_letter.j0 kq a0 x3_2 = some r) ∧ Aside0 (kq ≤ k) ∧ Drawn0 w wc)
    case first =>
      have H := HC3.out
      clear HC3
      by_cases c4 : 97 ≤ a0
      · rw [if_pos c4] at H
        have c4b0 : decide (97 ≤ a0) = true := decide_eq_true c4
        clear c4
        (first | rw [c4b0] | (simp only [i64_w, i32_w]; rw [c4b0]) | skip)
        have H' := Aside0.mk H
        clear H
        go_wp2
        go_meet
        case rel => exact ⟨_, (decide (a0 ≤ 122)), (by first | rfl | (simp; done) | (simp [*]; done)), H', ⟨by first | omega | exact Nat.le_refl _⟩, by repeat (first | exact Drawn0.refl _ | apply Drawn0.step)⟩
      · rw [if_neg c4] at H
        have c4b0 : decide (97 ≤ a0) = false := decide_eq_false c4
        clear c4
        (first | rw [c4b0] | (simp only [i64_w, i32_w]; rw [c4b0]) | skip)
        have H' := Aside0.mk H
        clear H
        go_wp2
        go_meet
        case rel => exact ⟨_, (false), (by first | rfl | (simp; done) | (simp [*]; done)), H', ⟨by first | omega | exact Nat.le_refl _⟩, by repeat (first | exact Drawn0.refl _ | apply Drawn0.step)⟩
    case rest =>
      clear HC3
      try clear p2
      try clear c4
      try clear c4b0
      obtain ⟨kq, x3_2, rfl, HA, HJ2, ⟨mc2, rfl⟩⟩ := hcut
      cases kq with
      | zero => exact absurd HA.out (by simp [name_letter.j0])
      | succ kj2 =>
        have H := HA.out
        clear HA
        simp only [name_letter.j0] at H
        by_cases c5 : x3_2 = true
        · subst c5
          have H1 : (some true) = some r := by rw [if_pos rfl] at H; exact H
          clear H
          have H := H1
          clear H1
          obtain rfl := Option.some.inj H
          go_wp2
          go_ret
          exact ⟨by first | rfl | (simp; done) | (simp [*]; done), by repeat (first | exact Drawn0.refl _ | apply Drawn0.step)⟩
        · replace c5 := Bool.eq_false_iff.mpr c5
          subst c5
          have H1 : (if 48 ≤ a0 then (if a0 ≤ 57 then (some true) else (name_letter.j1 kj2 a0)) else (name_letter.j1 kj2 a0)) = some r := by rw [if_neg (show ¬ (false = true) by decide)] at H; exact H
          clear H
          have H := H1
          clear H1
          by_cases c6 : 48 ≤ a0
          · rw [if_pos c6] at H
            have c6b0 : decide (48 ≤ a0) = true := decide_eq_true c6
            clear c6
            by_cases c7 : a0 ≤ 57
            · rw [if_pos c7] at H
              have c7b0 : decide (a0 ≤ 57) = true := decide_eq_true c7
              clear c7
              obtain rfl := Option.some.inj H
              go_wp2
              go_ret
              exact ⟨by first | rfl | (simp; done) | (simp [*]; done), by repeat (first | exact Drawn0.refl _ | apply Drawn0.step)⟩
            · rw [if_neg c7] at H
              have c7b0 : decide (a0 ≤ 57) = false := decide_eq_false c7
              clear c7
              have H' := Aside0.mk H
              clear H
              go_wp2
              go_meet
              case rel => exact ⟨_, H', ⟨by have := HJ2.out; first | omega | exact Nat.le_refl _⟩, by repeat (first | exact Drawn0.refl _ | apply Drawn0.step)⟩
          · rw [if_neg c6] at H
            have c6b0 : decide (48 ≤ a0) = false := decide_eq_false c6
            clear c6
            have H' := Aside0.mk H
            clear H
            go_wp2
            go_meet
            case rel => exact ⟨_, H', ⟨by have := HJ2.out; first | omega | exact Nat.le_refl _⟩, by repeat (first | exact Drawn0.refl _ | apply Drawn0.step)⟩
  case rest =>
    clear HC2
    try clear c2
    try clear p2
    try clear c4
    try clear c4b0
    try clear c5
    try clear c6
    try clear c6b0
    try clear c7
    try clear c7b0
    try clear p2
    obtain ⟨kq, HA, HJ1, ⟨mc1, rfl⟩⟩ := hcut
    cases kq with
    | zero => exact absurd HA.out (by simp [name_letter.j1])
    | succ kj1 =>
      have H := HA.out
      clear HA
      simp only [name_letter.j1] at H
      by_cases c8 : a0 = 45
      · rw [if_pos c8] at H
        have c8b0 : (a0 == 45) = true := beq_iff_eq.mpr c8
        have c8b1 : (a0 != 45) = false := bne_eq_false_iff_eq.mpr c8
        clear c8
        obtain rfl := Option.some.inj H
        go_wp2
        go_ret
        exact ⟨by first | rfl | (simp; done) | (simp [*]; done), by repeat (first | exact Drawn0.refl _ | apply Drawn0.step)⟩
      · rw [if_neg c8] at H
        have c8b0 : (a0 == 45) = false := beq_eq_false_iff_ne.mpr c8
        have c8b1 : (a0 != 45) = true := bne_iff_ne.mpr c8
        by_cases c9 : a0 = 95
        · rw [if_pos c9] at H
          have c9b0 : (a0 == 95) = true := beq_iff_eq.mpr c9
          have c9b1 : (a0 != 95) = false := bne_eq_false_iff_eq.mpr c9
          clear c9
          obtain rfl := Option.some.inj H
          go_wp2
          go_ret
          exact ⟨by first | rfl | (simp; done) | (simp [*]; done), by repeat (first | exact Drawn0.refl _ | apply Drawn0.step)⟩
        · rw [if_neg c9] at H
          have c9b0 : (a0 == 95) = false := beq_eq_false_iff_ne.mpr c9
          have c9b1 : (a0 != 95) = true := bne_iff_ne.mpr c9
          by_cases c10 : a0 = 233
          · rw [if_pos c10] at H
            have c10b0 : (a0 == 233) = true := beq_iff_eq.mpr c10
            have c10b1 : (a0 != 233) = false := bne_eq_false_iff_eq.mpr c10
            clear c10
            obtain rfl := Option.some.inj H
            go_wp2
            go_ret
            exact ⟨by first | rfl | (simp; done) | (simp [*]; done), by repeat (first | exact Drawn0.refl _ | apply Drawn0.step)⟩
          · rw [if_neg c10] at H
            have c10b0 : (a0 == 233) = false := beq_eq_false_iff_ne.mpr c10
            have c10b1 : (a0 != 233) = true := bne_iff_ne.mpr c10
            by_cases c11 : a0 = 248
            · rw [if_pos c11] at H
              have c11b0 : (a0 == 248) = true := beq_iff_eq.mpr c11
              have c11b1 : (a0 != 248) = false := bne_eq_false_iff_eq.mpr c11
              clear c11
              obtain rfl := Option.some.inj H
              go_wp2
              go_ret
              exact ⟨by first | rfl | (simp; done) | (simp [*]; done), by repeat (first | exact Drawn0.refl _ | apply Drawn0.step)⟩
            · rw [if_neg c11] at H
              have c11b0 : (a0 == 248) = false := beq_eq_false_iff_ne.mpr c11
              have c11b1 : (a0 != 248) = true := bne_iff_ne.mpr c11
              by_cases c12 : a0 = 223
              · rw [if_pos c12] at H
                have c12b0 : (a0 == 223) = true := beq_iff_eq.mpr c12
                have c12b1 : (a0 != 223) = false := bne_eq_false_iff_eq.mpr c12
                clear c12
                obtain rfl := Option.some.inj H
                go_wp2
                go_ret
                exact ⟨by first | rfl | (simp; done) | (simp [*]; done), by repeat (first | exact Drawn0.refl _ | apply Drawn0.step)⟩
              · rw [if_neg c12] at H
                have c12b0 : (a0 == 223) = false := beq_eq_false_iff_ne.mpr c12
                have c12b1 : (a0 != 223) = true := bne_iff_ne.mpr c12
                by_cases c13 : a0 = 955
                · rw [if_pos c13] at H
                  have c13b0 : (a0 == 955) = true := beq_iff_eq.mpr c13
                  have c13b1 : (a0 != 955) = false := bne_eq_false_iff_eq.mpr c13
                  clear c13
                  obtain rfl := Option.some.inj H
                  go_wp2
                  go_ret
                  exact ⟨by first | rfl | (simp; done) | (simp [*]; done), by repeat (first | exact Drawn0.refl _ | apply Drawn0.step)⟩
                · rw [if_neg c13] at H
                  have c13b0 : (a0 == 955) = false := beq_eq_false_iff_ne.mpr c13
                  have c13b1 : (a0 != 955) = true := bne_iff_ne.mpr c13
                  obtain rfl := Option.some.inj H
                  go_wp2
                  go_ret
                  exact ⟨by first | rfl | (simp; done) | (simp [*]; done), by repeat (first | exact Drawn0.refl _ | apply Drawn0.step)⟩

end Go.Proofs.Ytdpigeineephlaa.Prt
namespace Go.Proofs.Ytdpigeineephlaa.Nam
open Go.RowKit Go.Proofs.YtdpigeineephlaaW.PrintWords Go.Proofs.YtdpigeineephlaaW.PrintLast Go.Proofs.YtdpigeineephlaaW.PrintMore Go.Proofs.Ytdpigeineephlaa.Num Go.Proofs.Ytdpigeineephlaa.Prt
set_option linter.unusedVariables false
set_option linter.unusedSimpArgs false

theorem letter_fn (c : Int) : name_letter.f 2 c = some (letR c) := by
  unfold name_letter.f letR plainC
  simp only [name_letter.j0, name_letter.j1]
  repeat' split
  all_goals first | contradiction | (congr 1; rw [Bool.eq_iff_iff]; simp at *; omega) | skip
theorem letter_calls (c : Int) (w : World) : Calls Try.prog 65 #[.int .i32 c] w fun e w' => e = .returned (.bool (letR c)) ∧ Drawn0 w w' := name_letter.calls 2 c _ w (letter_fn c)
theorem may_calls (s : ByteArray) (w : World) (hs : s.size ≤ 9223372036854775807) :
    Calls Try.prog 36 #[.string s] w fun e w' => e = .returned (.bool (mayL (bytesOf s))) ∧ Below w.heap.size w w' := by
  have hlen : (bytesOf s).length = s.size := bytes_length s
  by_cases h0 : s.size = 0
  · have e : mayL (bytesOf s) = false := by unfold mayL; rw [hlen, decide_eq_false (by omega)]; rfl
    have hb : ((s.size : Int) == 0) = true := beq_iff_eq.mpr (by omega)
    rw [e]
    go_enter Try.func36, Try.ntmps36
    go_wp2
    go_ret
    exact ⟨rfl, Below.refl _ _⟩
  · by_cases h24 : 24 < s.size
    · have e : mayL (bytesOf s) = false := by unfold mayL; rw [hlen, decide_eq_false (by omega)]; rfl
      have hb : ((s.size : Int) == 0) = false := beq_eq_false_iff_ne.mpr (by omega)
      have hb2 : decide ((24 : Int) < (s.size : Int)) = true := decide_eq_true (by omega)
      rw [e]
      go_enter Try.func36, Try.ntmps36
      go_wp2
      go_ret
      exact ⟨rfl, Below.refl _ _⟩
    · have hb : ((s.size : Int) == 0) = false := beq_eq_false_iff_ne.mpr (by omega)
      have hb2 : decide ((24 : Int) < (s.size : Int)) = false := decide_eq_false (by omega)
      have HE : Aside0 (mayL (bytesOf s) = (!notFirst ((bytesOf s).getD 0 0) && lettersOnly (bytesOf s))) := ⟨by unfold mayL; rw [hlen, decide_eq_true (by omega)]; rfl⟩
      obtain ⟨b, hbr⟩ : ∃ b, mayL (bytesOf s) = b := ⟨_, rfl⟩
      rw [hbr]
      rw [hbr] at HE
      clear hbr
      go_enter Try.func36, Try.ntmps36
      go_wp2_with fail
      go_loopw [] (fun wr => ∃ pos : Nat, wr.heap[w.heap.size]? = some (.stringIter s pos) ∧ Aside0 (Below w.heap.size w wr) ∧ Aside0 (lettersOnly (bytesOf s) = lettersOnly ((bytesOf s).drop pos)) ∧ Aside0 (0 < pos → notFirst ((bytesOf s).getD 0 0) = false)) (fun wr => s.size - wr.iterPos w.heap.size)
      case atStart =>
        refine ⟨0, ?_, ⟨(Below.refl _ w).alloc (Nat.le_refl _) _⟩, ⟨by rw [List.drop_zero]⟩, ⟨fun h => by omega⟩⟩
        have := World.iter_heap w s 0
        simpa using this
      case round =>
        obtain ⟨pos, hit, HB, HL, HF⟩ := hrel
        by_cases hp : pos < s.size
        · have hnx := fun ty => Lib.run_next_any_at (P := Try.prog) wr w.heap.size s pos ty hit hp
          obtain ⟨r, hr⟩ : ∃ r : Int, r = ((Utf8.decode s pos).1 : Int) := ⟨_, rfl⟩
          obtain ⟨n, hn⟩ : ∃ n : Nat, n = (Utf8.decode s pos).2 := ⟨_, rfl⟩
          obtain ⟨hw1, hw2, hcase⟩ := rune_cases s pos hp _ rfl r n hr hn
          simp only [← hr, ← hn] at hnx
          have HIT := Aside0.mk (Lib.iterAt_heap wr w.heap.size s pos (pos + n) hit)
          have HB2 := Aside0.mk (Lib.below_iterAt HB.out (k := w.heap.size) (Nat.le_refl _) s (pos + n))
          have hlet := letter_calls r
          have hne : (bytesOf s).drop pos ≠ [] := fun e => by have := congrArg List.length e; rw [List.length_drop, hlen] at this; simp at this; omega
          clear hr hn
          rcases hcase with ⟨a1, a2, a3, _, _, _, a7⟩ | ⟨b1, b2, _⟩
          · rw [a3] at hlet
            have HSTEP : Aside0 (lettersOnly (bytesOf s) = lettersOnly ((bytesOf s).drop (pos + n))) := ⟨by rw [HL.out, lettersOnly_step (by omega), List.drop_drop, a2]⟩
            clear a1 a2 hne
            by_cases hz : pos = 0
            · have hz1 : ((pos : Int) == 0) = true := beq_iff_eq.mpr (by omega)
              rw [hz, List.drop_zero] at a7
              clear hz
              by_cases h57 : r ≤ 57
              · have hd : decide (r ≤ 57) = true := decide_eq_true h57
                have hb' : b = false := by rw [HE.out, a7.1 h57]; rfl
                subst hb'
                clear a7 a3
                go_wp2_with (go_at_call 65; refine (hlet _).mono ?_; rintro e w3 ⟨rfl, ⟨m1, rfl⟩⟩)
                go_ret
                exact ⟨rfl, (by repeat (first | (with_reducible first | exact HB2.out | apply below_alloc | apply pw_below_drewN | apply below_drew1) | exact HB2.out))⟩
              · have hd : decide (r ≤ 57) = false := decide_eq_false h57
                have hnf : notFirst ((bytesOf s).getD 0 0) = false := by
                  cases h : notFirst ((bytesOf s).getD 0 0) with
                  | false => rfl
                  | true => exact absurd (a7.2 h) h57
                clear a7 a3
                go_wp2_with (go_at_call 65; refine (hlet _).mono ?_; rintro e w3 ⟨rfl, ⟨m1, rfl⟩⟩)
                go_roundw
                case rel => exact ⟨pos + n, HIT.out, ⟨(by repeat (first | (with_reducible first | exact HB2.out | apply below_alloc | apply pw_below_drewN | apply below_drew1) | exact HB2.out))⟩, HSTEP, ⟨fun _ => hnf⟩⟩
                case measure =>
                  simp only [World.iterPos, World.drewN, World.drew, HIT.out, hit]
                  omega
            · have hz1 : ((pos : Int) == 0) = false := beq_eq_false_iff_ne.mpr (by omega)
              have hnf := HF.out (by omega)
              clear a7 a3 hz
              go_wp2_with (go_at_call 65; refine (hlet _).mono ?_; rintro e w3 ⟨rfl, ⟨m1, rfl⟩⟩)
              go_roundw
              case rel => exact ⟨pos + n, HIT.out, ⟨(by repeat (first | (with_reducible first | exact HB2.out | apply below_alloc | apply pw_below_drewN | apply below_drew1) | exact HB2.out))⟩, HSTEP, ⟨fun _ => hnf⟩⟩
              case measure =>
                simp only [World.iterPos, World.drewN, World.drew, HIT.out, hit]
                omega
          · rw [b2] at hlet
            have hb' : b = false := by rw [HE.out, HL.out, lettersOnly_bad b1 hne, Bool.and_false]
            subst hb'
            go_wp2_with (go_at_call 65; refine (hlet _).mono ?_; rintro e w3 ⟨rfl, ⟨m1, rfl⟩⟩)
            go_ret
            exact ⟨rfl, (by repeat (first | (with_reducible first | exact HB2.out | apply below_alloc | apply pw_below_drewN | apply below_drew1) | exact HB2.out))⟩
        · have hnx := fun ty => Lib.run_next_end_at (P := Try.prog) wr w.heap.size s pos ty hit hp
          have hd : (bytesOf s).drop pos = [] := List.drop_eq_nil_of_le (by omega)
          have hb' : b = true := by rw [HE.out, HL.out, hd, lettersOnly_nil, HF.out (by omega)]; rfl
          subst hb'
          go_wp2_with fail
          go_ret
          exact ⟨rfl, HB.out⟩
theorem lo1 {c : Int} {r : List Int} (h : plainC c = true) : lettersOnly (c :: r) = lettersOnly r := by
  rw [lettersOnly_step (by rw [letD_pos1 h]; decide), letD_pos1 h]; rfl
theorem letD_two {c d : Int} {r : List Int} (h : two c d = true) : letD (c :: d :: r) = 2 := by
  have hp : ¬ plainC c = true := fun h2 => by rw [two_iff] at h; have := plain_range h2; omega
  simp only [letD, if_neg hp, if_pos h]
theorem lo2 {c d : Int} {r : List Int} (h : two c d = true) : lettersOnly (c :: d :: r) = lettersOnly r := by
  rw [lettersOnly_step (by rw [letD_two h]; decide), letD_two h]; rfl
theorem bytes_append (a b : ByteArray) : bytesOf (a ++ b) = bytesOf a ++ bytesOf b := by
  rw [← strOfNums_bytesOf a, ← strOfNums_bytesOf b, ← str_append, bytesOf_strOfNums (isBytes_append.2 ⟨bytesOf_isBytes a, bytesOf_isBytes b⟩), strOfNums_bytesOf, strOfNums_bytesOf]
/-- The contracts, told of a value by a name. -/
theorem mayC (b : Bool) (s : ByteArray) (w : World) (hs : s.size ≤ 9223372036854775807) (h : mayL (bytesOf s) = b) :
    Calls Try.prog 36 #[.string s] w fun e w' => e = .returned (.bool b) ∧ Below w.heap.size w w' := by
  subst h; exact may_calls s w (by omega)
theorem may_parts {l : List Int} (h : mayL l = true) : 1 ≤ l.length ∧ l.length ≤ 24 ∧ notFirst (l.getD 0 0) = false ∧ lettersOnly l = true := by
  unfold mayL at h
  simp only [Bool.and_eq_true, decide_eq_true_eq, Bool.not_eq_true'] at h
  exact ⟨h.1.1.1, h.1.1.2, h.1.2, h.2⟩
theorem letters_no58 : ∀ (n : Nat) (l : List Int), l.length ≤ n → lettersOnly l = true → (58 : Int) ∉ l := by
  intro n
  induction n with
  | zero =>
    intro l h _
    obtain rfl : l = [] := List.length_eq_zero_iff.1 (by omega)
    simp
  | succ n ih =>
    intro l hn ha
    match l, ha, hn with
    | [], _, _ => simp
    | [c], ha, _ =>
      by_cases hp : plainC c = true
      · intro hx
        rw [List.mem_singleton] at hx
        subst hx
        exact absurd hp (by decide)
      · rw [lettersOnly_bad (by simp [letD, hp]) (by simp)] at ha; cases ha
    | c :: d :: r, ha, hn =>
      simp only [List.length_cons] at hn
      by_cases hp : plainC c = true
      · rw [lo1 hp] at ha
        have h2 := ih (d :: r) (by simp only [List.length_cons]; omega) ha
        intro hx
        rcases List.mem_cons.1 hx with e | hx
        · subst e; exact absurd hp (by decide)
        · exact h2 hx
      · by_cases ht : two c d = true
        · rw [lo2 ht] at ha
          have h2 := ih r (by omega) ha
          rw [two_iff] at ht
          intro hx
          rcases List.mem_cons.1 hx with e | hx
          · omega
          · rcases List.mem_cons.1 hx with e | hx
            · omega
            · exact h2 hx
        · rw [lettersOnly_bad (by simp only [letD, if_neg hp, if_neg ht]) (by simp)] at ha; cases ha
theorem may_no58 {s : ByteArray} (h : mayL (bytesOf s) = true) : (58 : Int) ∉ bytesOf s := letters_no58 _ _ (Nat.le_refl _) (may_parts h).2.2.2
theorem mem58 (s : ByteArray) : (58 : Int) ∈ bytesOf s ↔ (58 : UInt8) ∈ s.data.toList := by
  unfold bytesOf
  rw [List.mem_map]
  constructor
  · rintro ⟨b, hb, e⟩
    have : b = 58 := by
      apply UInt8.toNat.inj
      show b.toNat = 58
      omega
    rwa [this] at hb
  · intro h
    exact ⟨58, h, rfl⟩
theorem ix_none : ∀ l : List UInt8, (58 : UInt8) ∉ l → Lib.indexByte l 58 = -1 := by
  intro l
  induction l with
  | nil => intro _; rfl
  | cons b r ih =>
    intro h
    rw [List.mem_cons, not_or] at h
    have e : (b == 58) = false := beq_eq_false_iff_ne.mpr (fun e => h.1 e.symm)
    simp only [Lib.indexByte, e, ih h.2]
    rfl
theorem ix_some : ∀ (a b : List UInt8), (58 : UInt8) ∉ a → Lib.indexByte (a ++ 58 :: b) 58 = (a.length : Int) := by
  intro a
  induction a with
  | nil => intro b _; rfl
  | cons c r ih =>
    intro b h
    rw [List.mem_cons, not_or] at h
    have e : (c == 58) = false := beq_eq_false_iff_ne.mpr (fun e => h.1 e.symm)
    have e2 : ((r.length : Int) == -1) = false := beq_eq_false_iff_ne.mpr (by omega)
    show Lib.indexByte (c :: (r ++ 58 :: b)) 58 = _
    simp only [Lib.indexByte, e, ih b h.2, e2, List.length_cons]
    simp
/-- A text and its first colon. -/
theorem split58 (s : ByteArray) : (58 : Int) ∉ bytesOf s ∨ ∃ k v : ByteArray, s = k ++ (⟨#[58]⟩ : ByteArray) ++ v ∧ (58 : Int) ∉ bytesOf k ∧ k.size + v.size + 1 = s.size := by
  have key : ∀ l : List Int, isBytes l → (58 : Int) ∉ l ∨ ∃ a b, l = a ++ 58 :: b ∧ (58 : Int) ∉ a := by
    intro l
    induction l with
    | nil => intro _; exact .inl (by simp)
    | cons c r ih =>
      intro h
      by_cases hc : c = 58
      · exact .inr ⟨[], r, by rw [hc]; rfl, by simp⟩
      · rcases ih (fun x hx => h x (by simp [hx])) with h1 | ⟨a, b, h1, h2⟩
        · exact .inl (by rw [List.mem_cons, not_or]; exact ⟨fun e => hc e.symm, h1⟩)
        · exact .inr ⟨c :: a, b, by rw [h1]; rfl, by rw [List.mem_cons, not_or]; exact ⟨fun e => hc e.symm, h2⟩⟩
  rcases key (bytesOf s) (bytesOf_isBytes s) with h | ⟨a, b, h1, h2⟩
  · exact .inl h
  · right
    have hby := bytesOf_isBytes s
    rw [h1] at hby
    obtain ⟨ha, hb⟩ := isBytes_append.1 hby
    have hb2 : isBytes b := fun c hc => hb c (by simp [hc])
    have e58 : (⟨#[58]⟩ : ByteArray) = strOfNums [58] := rfl
    refine ⟨strOfNums a, strOfNums b, ?_, by rw [bytesOf_strOfNums ha]; exact h2, ?_⟩
    · rw [e58, ← str_append, ← str_append, List.append_assoc, List.singleton_append, ← h1, strOfNums_bytesOf]
    · rw [strOfNums_size', strOfNums_size', ← bytes_length s, h1, List.length_append, List.length_cons]; omega
theorem data_cat (k v : ByteArray) : (k ++ (⟨#[58]⟩ : ByteArray) ++ v).data.toList = k.data.toList ++ 58 :: v.data.toList := by
  rw [ByteArray.data_append, ByteArray.data_append, Array.toList_append, Array.toList_append, List.append_assoc]; rfl
theorem ext_head (k v : ByteArray) : (k ++ (⟨#[58]⟩ : ByteArray) ++ v).extract 0 k.size = k := by
  apply bytesOf_inj
  rw [bytes_extract, List.drop_zero, Nat.sub_zero, ByteArray.append_assoc, bytes_append, ← bytes_length k, List.take_left]
theorem ext_tail (k v : ByteArray) (n : Nat) (hn : n = (k ++ (⟨#[58]⟩ : ByteArray) ++ v).size) : (k ++ (⟨#[58]⟩ : ByteArray) ++ v).extract (k.size + 1) n = v := by
  apply bytesOf_inj
  have hk : (k ++ (⟨#[58]⟩ : ByteArray)).size = k.size + 1 := by rw [ByteArray.size_append]; rfl
  rw [bytes_extract, hn, ByteArray.size_append, hk, bytes_append, ← hk, ← bytes_length, List.drop_left, List.take_of_length_le (by rw [bytes_length]; omega)]
open Go.Proofs.YtdpigeineephlaaW.PrintLast
def D83.T3 : Bool × List (List Nat × List Nat) := (true, [([], []), ([], []), ([0, 1], [0, 1]), ([], []), ([], []), ([], []), ([5], [5]), ([4, 6], [4, 6]), ([3, 7], [3, 7]), ([2, 0, 1, 2], [2]), ([8, 9, 0, 1, 2, 3, 4, 5, 6, 7, 8, 9], [8]), ([10, 0, 1, 2, 3, 4, 5, 6, 7, 8, 9, 10], [])])
def D83.B3 : List Nat := [0, 0, 3, 0, 0, 0, 32, 112, 248, 7, 1023, 2047]
theorem D83.tab3 : rtab .any (opsOf Try.f83 3) = D83.T3 := by kernel_rfl
theorem D83.bits3 : waitsOk D83.T3.2 D83.B3 = true := by kernel_rfl
set_option maxRecDepth 100000 in
theorem icut_yes (k v s : ByteArray) (w : World) (hs : s = k ++ (⟨#[58]⟩ : ByteArray) ++ v) (hk : (58 : Int) ∉ bytesOf k) (hz : s.size ≤ 9223372036854775807) (hkz : k.size + 1 ≤ s.size) :
    Calls Try.prog 83 #[.string s, .string ⟨#[58]⟩] w fun e w' => e = .returned (.tuple #[.string k, .string v, .bool true]) ∧ Below w.heap.size w w' := by
  have HE := Aside0.mk (show s.extract 0 k.size = k by rw [hs]; exact ext_head k v)
  have HT := Aside0.mk (show s.extract (k.size + 1) s.size = v by have := ext_tail k v s.size (by rw [hs]); rwa [← hs] at this)
  have hix : Lib.indexByte s.data.toList 58 = (k.size : Int) := by rw [hs, data_cat, ix_some _ _ (fun h => hk ((mem58 k).2 h)), Array.length_toList]; rfl
  have HIX := Aside0.mk hix
  clear hix hs hk
  have h0 : decide ((0 : Int) ≤ (k.size : Int)) = true := decide_eq_true (by omega)
  go_enter Try.func83, Try.ntmps83
  go_wp2_with fail
  have hC := Try.stringslite_Index_one s 58 w
  rw [HIX.out] at hC
  refine hC.mono ?_
  rintro e w1 ⟨rfl, rfl⟩
  have HBB := Aside0.mk (below_drew (Below.refl w1.heap.size w1))
  have hl1 : ¬ s.size < k.size := by omega
  have hl2 : (0 : Int) ≤ (k.size : Int) + 1 := by omega
  have hl3 : ¬ (s.size : Int) < (k.size : Int) + 1 := by omega
  have HL4 := Aside0.mk (wrap_small (n := (k.size : Int) + 1) (by omega) (by omega))
  go_wp2_with fail
  refine start_ (n := 12) (S := fun w' => True) (ds := []) #[false, false, false, false, false, false, false, false, false, false, false, false] (by kernel_rfl) rfl rfl trivial (fun hHeld => ?_); refine with_tabW D83.tab3 D83.bits3 (fun HT_ HW_ => ?_)
  refine inv_at [0, 1, 2, 3, 4, 5, 6, 7, 8, 9, 10, 11] (fun a0_ b a w' => a = putSel a0_ b [(0, 13, .string s), (1, 14, .int .i64 (k.size : Int)), (2, 15, .string (s.extract 0 k.size)), (3, 16, .string s), (4, 17, .int .i64 (k.size : Int)), (5, 18, .string ⟨#[58]⟩), (6, 19, .int .i64 1), (7, 20, .int .i64 ((k.size : Int) + 1)), (8, 21, .string (s.extract (k.size + 1) s.size)), (9, 4, .string (s.extract 0 k.size)), (10, 5, .string (s.extract (k.size + 1) s.size)), (11, 6, (Value.bool true))] ∧ (Below w1.heap.size w1 w')) HT_.out HW_.out (by kernel_rfl) (by kernel_rfl) ?_ ?_ ?_
  · exact ⟨by simp only [putSel, Bool.false_eq_true, if_false], HBB.out⟩
  · clear HT_ HW_ hHeld
    clear HBB
    refine steps_cons ?_ ?_
    · intro b a w' hI_ hb_ hon hoff
      refine ⟨_, rfl, fun K hK => ?_⟩
      obtain ⟨ha, Q_HBB⟩ := hI_
      have e0 : a.tmps[0]? = some (.string s) := by rw [ha]; exact (putSel_off rfl).trans rfl
      replace ha := Aside0.mk ha
      have HBB := Aside0.mk Q_HBB
      refine value_ (w1 := w') (v := .string s) (by rfl) rfl ?_ ?_
      · go_simp
        (try simp only [i64_w])
        try (first | rfl | assumption)
      refine hK.out _ _ ⟨(by rw [ha.out]; exact putSel_upk 0 hb_ rfl rfl rfl), Q_HBB⟩
    refine steps_cons ?_ ?_
    · intro b a w' hI_ hb_ hon hoff
      refine ⟨_, rfl, fun K hK => ?_⟩
      obtain ⟨ha, Q_HBB⟩ := hI_
      have e7 : a.tmps[7]? = some (.int .i64 (k.size : Int)) := by rw [ha]; exact (putSel_off rfl).trans rfl
      replace ha := Aside0.mk ha
      have HBB := Aside0.mk Q_HBB
      refine value_ (w1 := w') (v := .int .i64 (k.size : Int)) (by rfl) rfl ?_ ?_
      · go_simp
        (try simp only [i64_w])
        try (first | rfl | assumption)
      refine hK.out _ _ ⟨(by rw [ha.out]; exact putSel_upk 1 hb_ rfl rfl rfl), Q_HBB⟩
    refine steps_cons ?_ ?_
    · intro b a w' hI_ hb_ hon hoff
      refine ⟨_, rfl, fun K hK => ?_⟩
      obtain ⟨ha, Q_HBB⟩ := hI_
      have e13 : a.tmps[13]? = some (.string s) := by rw [ha]; exact putSel_on (e := (0, 13, .string s)) 0 rfl rfl (hon 0 (by kernel_rfl)) rfl
      have e14 : a.tmps[14]? = some (.int .i64 (k.size : Int)) := by rw [ha]; exact putSel_on (e := (1, 14, .int .i64 (k.size : Int))) 1 rfl rfl (hon 1 (by kernel_rfl)) rfl
      replace ha := Aside0.mk ha
      have HBB := Aside0.mk Q_HBB
      refine value_ (w1 := w') (v := .string (s.extract 0 k.size)) (by rfl) rfl ?_ ?_
      · go_simp
        (try simp only [i64_w])
        try (first | rfl | assumption)
      refine hK.out _ _ ⟨(by rw [ha.out]; exact putSel_upk 2 hb_ rfl rfl rfl), Q_HBB⟩
    refine steps_cons ?_ ?_
    · intro b a w' hI_ hb_ hon hoff
      refine ⟨_, rfl, fun K hK => ?_⟩
      obtain ⟨ha, Q_HBB⟩ := hI_
      have e0 : a.tmps[0]? = some (.string s) := by rw [ha]; exact (putSel_off rfl).trans rfl
      replace ha := Aside0.mk ha
      have HBB := Aside0.mk Q_HBB
      refine value_ (w1 := w') (v := .string s) (by rfl) rfl ?_ ?_
      · go_simp
        (try simp only [i64_w])
        try (first | rfl | assumption)
      refine hK.out _ _ ⟨(by rw [ha.out]; exact putSel_upk 3 hb_ rfl rfl rfl), Q_HBB⟩
    refine steps_cons ?_ ?_
    · intro b a w' hI_ hb_ hon hoff
      refine ⟨_, rfl, fun K hK => ?_⟩
      obtain ⟨ha, Q_HBB⟩ := hI_
      have e7 : a.tmps[7]? = some (.int .i64 (k.size : Int)) := by rw [ha]; exact (putSel_off rfl).trans rfl
      replace ha := Aside0.mk ha
      have HBB := Aside0.mk Q_HBB
      refine value_ (w1 := w') (v := .int .i64 (k.size : Int)) (by rfl) rfl ?_ ?_
      · go_simp
        (try simp only [i64_w])
        try (first | rfl | assumption)
      refine hK.out _ _ ⟨(by rw [ha.out]; exact putSel_upk 4 hb_ rfl rfl rfl), Q_HBB⟩
    refine steps_cons ?_ ?_
    · intro b a w' hI_ hb_ hon hoff
      refine ⟨_, rfl, fun K hK => ?_⟩
      obtain ⟨ha, Q_HBB⟩ := hI_
      have e1 : a.tmps[1]? = some (.string ⟨#[58]⟩) := by rw [ha]; exact (putSel_off rfl).trans rfl
      replace ha := Aside0.mk ha
      have HBB := Aside0.mk Q_HBB
      refine value_ (w1 := w') (v := .string ⟨#[58]⟩) (by rfl) rfl ?_ ?_
      · go_simp
        (try simp only [i64_w])
        try (first | rfl | assumption)
      refine hK.out _ _ ⟨(by rw [ha.out]; exact putSel_upk 5 hb_ rfl rfl rfl), Q_HBB⟩
    refine steps_cons ?_ ?_
    · intro b a w' hI_ hb_ hon hoff
      refine ⟨_, rfl, fun K hK => ?_⟩
      obtain ⟨ha, Q_HBB⟩ := hI_
      have e18 : a.tmps[18]? = some (.string ⟨#[58]⟩) := by rw [ha]; exact putSel_on (e := (5, 18, .string ⟨#[58]⟩)) 5 rfl rfl (hon 5 (by kernel_rfl)) rfl
      replace ha := Aside0.mk ha
      have HBB := Aside0.mk Q_HBB
      refine value_ (w1 := w') (v := .int .i64 1) (by rfl) rfl ?_ ?_
      · go_simp
        (try simp only [i64_w])
        try (first | rfl | assumption)
      refine hK.out _ _ ⟨(by rw [ha.out]; exact putSel_upk 6 hb_ rfl rfl rfl), Q_HBB⟩
    refine steps_cons ?_ ?_
    · intro b a w' hI_ hb_ hon hoff
      refine ⟨_, rfl, fun K hK => ?_⟩
      obtain ⟨ha, Q_HBB⟩ := hI_
      have e17 : a.tmps[17]? = some (.int .i64 (k.size : Int)) := by rw [ha]; exact putSel_on (e := (4, 17, .int .i64 (k.size : Int))) 4 rfl rfl (hon 4 (by kernel_rfl)) rfl
      have e19 : a.tmps[19]? = some (.int .i64 1) := by rw [ha]; exact putSel_on (e := (6, 19, .int .i64 1)) 6 rfl rfl (hon 6 (by kernel_rfl)) rfl
      replace ha := Aside0.mk ha
      have HBB := Aside0.mk Q_HBB
      have hl4 := HL4.out
      refine value_ (w1 := w') (v := .int .i64 ((k.size : Int) + 1)) (by rfl) rfl ?_ ?_
      · go_simp
        (try simp only [i64_w])
        try (first | rfl | assumption)
      refine hK.out _ _ ⟨(by rw [ha.out]; exact putSel_upk 7 hb_ rfl rfl rfl), Q_HBB⟩
    refine steps_cons ?_ ?_
    · intro b a w' hI_ hb_ hon hoff
      refine ⟨_, rfl, fun K hK => ?_⟩
      obtain ⟨ha, Q_HBB⟩ := hI_
      have e16 : a.tmps[16]? = some (.string s) := by rw [ha]; exact putSel_on (e := (3, 16, .string s)) 3 rfl rfl (hon 3 (by kernel_rfl)) rfl
      have e20 : a.tmps[20]? = some (.int .i64 ((k.size : Int) + 1)) := by rw [ha]; exact putSel_on (e := (7, 20, .int .i64 ((k.size : Int) + 1))) 7 rfl rfl (hon 7 (by kernel_rfl)) rfl
      replace ha := Aside0.mk ha
      have HBB := Aside0.mk Q_HBB
      refine value_ (w1 := w') (v := .string (s.extract (k.size + 1) s.size)) (by rfl) rfl ?_ ?_
      · go_simp
        (try simp only [i64_w])
        try (first | rfl | assumption)
      refine hK.out _ _ ⟨(by rw [ha.out]; exact putSel_upk 8 hb_ rfl rfl rfl), Q_HBB⟩
    refine steps_cons ?_ ?_
    · intro b a w' hI_ hb_ hon hoff
      refine ⟨_, rfl, fun K hK => ?_⟩
      obtain ⟨ha, Q_HBB⟩ := hI_
      have e15 : a.tmps[15]? = some (.string (s.extract 0 k.size)) := by rw [ha]; exact putSel_on (e := (2, 15, .string (s.extract 0 k.size))) 2 rfl rfl (hon 2 (by kernel_rfl)) rfl
      replace ha := Aside0.mk ha
      have HBB := Aside0.mk Q_HBB
      refine value_ (w1 := w') (v := .string (s.extract 0 k.size)) (by rfl) rfl ?_ ?_
      · go_simp
        (try simp only [i64_w])
        try (first | rfl | assumption)
      refine hK.out _ _ ⟨(by rw [ha.out]; exact putSel_upk 9 hb_ rfl rfl rfl), Q_HBB⟩
    refine steps_cons ?_ ?_
    · intro b a w' hI_ hb_ hon hoff
      refine ⟨_, rfl, fun K hK => ?_⟩
      obtain ⟨ha, Q_HBB⟩ := hI_
      have e21 : a.tmps[21]? = some (.string (s.extract (k.size + 1) s.size)) := by rw [ha]; exact putSel_on (e := (8, 21, .string (s.extract (k.size + 1) s.size))) 8 rfl rfl (hon 8 (by kernel_rfl)) rfl
      replace ha := Aside0.mk ha
      have HBB := Aside0.mk Q_HBB
      refine value_ (w1 := w') (v := .string (s.extract (k.size + 1) s.size)) (by rfl) rfl ?_ ?_
      · go_simp
        (try simp only [i64_w])
        try (first | rfl | assumption)
      refine hK.out _ _ ⟨(by rw [ha.out]; exact putSel_upk 10 hb_ rfl rfl rfl), Q_HBB⟩
    refine steps_cons ?_ ?_
    · intro b a w' hI_ hb_ hon hoff
      refine ⟨_, rfl, fun K hK => ?_⟩
      obtain ⟨ha, Q_HBB⟩ := hI_
      replace ha := Aside0.mk ha
      have HBB := Aside0.mk Q_HBB
      refine value_ (w1 := w') (v := (Value.bool true)) (by rfl) rfl ?_ ?_
      · go_simp
        (try simp only [i64_w])
        try (first | rfl | assumption)
      refine hK.out _ _ ⟨(by rw [ha.out]; exact putSel_upk 11 hb_ rfl rfl rfl), Q_HBB⟩
    exact steps_nil
  rintro b a wz hall ⟨ha, Q_HBB⟩
  clear HBB
  have hb0_ := hall 0 (by kernel_rfl)
  have hb1_ := hall 1 (by kernel_rfl)
  have hb2_ := hall 2 (by kernel_rfl)
  have hb3_ := hall 3 (by kernel_rfl)
  have hb4_ := hall 4 (by kernel_rfl)
  have hb5_ := hall 5 (by kernel_rfl)
  have hb6_ := hall 6 (by kernel_rfl)
  have hb7_ := hall 7 (by kernel_rfl)
  have hb8_ := hall 8 (by kernel_rfl)
  have hb9_ := hall 9 (by kernel_rfl)
  have hb10_ := hall 10 (by kernel_rfl)
  have hb11_ := hall 11 (by kernel_rfl)
  subst ha
  simp only [putSel, hb0_, hb1_, hb2_, hb3_, hb4_, hb5_, hb6_, hb7_, hb8_, hb9_, hb10_, hb11_, if_true, Act.put, List.setIfInBounds_toArray, List.set_cons_zero, List.set_cons_succ]
  have HBB := Aside0.mk Q_HBB
  clear Q_HBB
  clear hall hb0_ hb1_ hb2_ hb3_ hb4_ hb5_ hb6_ hb7_ hb8_ hb9_ hb10_ hb11_
  go_wp2
  go_ret3
  exact ⟨by first | rfl | (rw [HE.out, HT.out]; rfl) | rw [HE.out, HT.out], HBB.out⟩
set_option maxRecDepth 100000 in
theorem icut_no (s : ByteArray) (w : World) (hk : (58 : Int) ∉ bytesOf s) :
    Calls Try.prog 83 #[.string s, .string ⟨#[58]⟩] w fun e w' => e = .returned (.tuple #[.string s, .string ⟨#[]⟩, .bool false]) ∧ Below w.heap.size w w' := by
  have hix : Lib.indexByte s.data.toList 58 = -1 := ix_none _ (fun h => hk ((mem58 s).2 h))
  go_enter Try.func83, Try.ntmps83
  go_wp2_with fail
  have hC := Try.stringslite_Index_one s 58 w
  rw [hix] at hC
  refine hC.mono ?_
  rintro e w1 ⟨rfl, rfl⟩
  go_wp2
  go_ret3
  exact ⟨rfl, by repeat (first | exact Below.refl _ _ | apply below_drew | apply pw_below_drewN)⟩
set_option maxRecDepth 100000 in
theorem cut_yes (k v s : ByteArray) (w : World) (hs : s = k ++ (⟨#[58]⟩ : ByteArray) ++ v) (hk : (58 : Int) ∉ bytesOf k) (hz : s.size ≤ 9223372036854775807) (hkz : k.size + 1 ≤ s.size) :
    Calls Try.prog 80 #[.string s, .string ⟨#[58]⟩] w fun e w' => e = .returned (.tuple #[.string k, .string v, .bool true]) ∧ Below w.heap.size w w' := by
  have HB := Aside0.mk (Below.refl w.heap.size w)
  have HS := Aside0.mk hs
  have HK := Aside0.mk hk
  clear hs hk
  go_enter Try.func80, Try.ntmps80
  go_wp2_with fail
  refine (icut_yes k v s _ HS.out HK.out hz hkz).mono ?_

  rintro e w_ ⟨rfl, hb⟩
  have n_ := Aside0.mk (below_step (by repeat (first | (with_reducible first | exact HB.out | apply below_alloc | apply pw_below_drewN | apply below_drew1) | exact HB.out)) hb); clear HB hb; have HB := n_; clear n_
  go_wp2
  go_ret3
  exact ⟨rfl, (by repeat (first | (with_reducible first | exact HB.out | apply below_alloc | apply pw_below_drewN | apply below_drew1) | exact HB.out))⟩
set_option maxRecDepth 100000 in
theorem cut_no (s : ByteArray) (w : World) (hk : (58 : Int) ∉ bytesOf s) :
    Calls Try.prog 80 #[.string s, .string ⟨#[58]⟩] w fun e w' => e = .returned (.tuple #[.string s, .string ⟨#[]⟩, .bool false]) ∧ Below w.heap.size w w' := by
  have HB := Aside0.mk (Below.refl w.heap.size w)
  have HK := Aside0.mk hk
  clear hk
  go_enter Try.func80, Try.ntmps80
  go_wp2_with fail
  refine (icut_no s _ HK.out).mono ?_

  rintro e w_ ⟨rfl, hb⟩
  have n_ := Aside0.mk (below_step (by repeat (first | (with_reducible first | exact HB.out | apply below_alloc | apply pw_below_drewN | apply below_drew1) | exact HB.out)) hb); clear HB hb; have HB := n_; clear n_
  go_wp2
  go_ret3
  exact ⟨rfl, (by repeat (first | (with_reducible first | exact HB.out | apply below_alloc | apply pw_below_drewN | apply below_drew1) | exact HB.out))⟩
theorem may_empty : mayL (bytesOf ⟨#[]⟩) = false := rfl
set_option maxRecDepth 100000 in
theorem partsYes (k v s : ByteArray) (w : World) (hs : s = k ++ (⟨#[58]⟩ : ByteArray) ++ v) (hk : mayL (bytesOf k) = true) (hv : mayL (bytesOf v) = true) (hz : s.size ≤ 9223372036854775807) :
    Calls Try.prog 72 #[.string s] w fun e w' => e = .returned (.tuple #[.string k, .string v, .bool true]) ∧ Below w.heap.size w w' := by
  have HB := Aside0.mk (Below.refl w.heap.size w)
  have HS := Aside0.mk hs
  have HK := Aside0.mk hk
  have HV := Aside0.mk hv
  have hsz : s.size = k.size + 1 + v.size := by rw [hs, ByteArray.size_append, ByteArray.size_append]; rfl
  clear hs hk hv
  have hk1 : k.size ≤ 9223372036854775807 := by omega
  have hv1 : v.size ≤ 9223372036854775807 := by omega
  have HZ : Aside0 (k.size + 1 ≤ s.size) := ⟨by omega⟩
  clear hsz
  go_enter Try.func72, Try.ntmps72
  go_wp2_with fail
  refine (cut_yes k v s _ HS.out (may_no58 HK.out) hz HZ.out).mono ?_

  rintro e w_ ⟨rfl, hb⟩
  have n_ := Aside0.mk (below_step (by repeat (first | (with_reducible first | exact HB.out | apply below_alloc | apply pw_below_drewN | apply below_drew1) | exact HB.out)) hb); clear HB hb; have HB := n_; clear n_
  go_wp2_with fail
  refine (mayC true k _ hk1 HK.out).mono ?_

  rintro e w_ ⟨rfl, hb⟩
  have n_ := Aside0.mk (below_step (by repeat (first | (with_reducible first | exact HB.out | apply below_alloc | apply pw_below_drewN | apply below_drew1) | exact HB.out)) hb); clear HB hb; have HB := n_; clear n_
  go_wp2_with fail
  refine (mayC true v _ hv1 HV.out).mono ?_

  rintro e w_ ⟨rfl, hb⟩
  have n_ := Aside0.mk (below_step (by repeat (first | (with_reducible first | exact HB.out | apply below_alloc | apply pw_below_drewN | apply below_drew1) | exact HB.out)) hb); clear HB hb; have HB := n_; clear n_
  go_wp2
  go_ret3
  exact ⟨rfl, (by repeat (first | (with_reducible first | exact HB.out | apply below_alloc | apply pw_below_drewN | apply below_drew1) | exact HB.out))⟩
set_option maxRecDepth 100000 in
theorem partsNo (s : ByteArray) (w : World) (h : ∀ k v : ByteArray, s = k ++ (⟨#[58]⟩ : ByteArray) ++ v → mayL (bytesOf k) = true → mayL (bytesOf v) = false) (hz : s.size ≤ 9223372036854775807) :
    Calls Try.prog 72 #[.string s] w fun e w' => e = .returned (.tuple #[.string ⟨#[]⟩, .string ⟨#[]⟩, .bool false]) ∧ Below w.heap.size w w' := by
  have HB := Aside0.mk (Below.refl w.heap.size w)
  rcases split58 s with hn | ⟨k, v, hs, hk, hsz⟩
  · have HN := Aside0.mk hn
    clear h hn
    go_enter Try.func72, Try.ntmps72
    go_wp2_with fail
    refine (cut_no s _ HN.out).mono ?_

    rintro e w_ ⟨rfl, hb⟩
    have n_ := Aside0.mk (below_step (by repeat (first | (with_reducible first | exact HB.out | apply below_alloc | apply pw_below_drewN | apply below_drew1) | exact HB.out)) hb); clear HB hb; have HB := n_; clear n_
    go_wp2_with fail
    cases hm : mayL (bytesOf s) with
    | false =>
      refine (mayC false s _ hz hm).mono ?_

      rintro e w_ ⟨rfl, hb⟩
      have n_ := Aside0.mk (below_step (by repeat (first | (with_reducible first | exact HB.out | apply below_alloc | apply pw_below_drewN | apply below_drew1) | exact HB.out)) hb); clear HB hb; have HB := n_; clear n_
      go_wp2
      go_ret3
      exact ⟨rfl, (by repeat (first | (with_reducible first | exact HB.out | apply below_alloc | apply pw_below_drewN | apply below_drew1) | exact HB.out))⟩
    | true =>
      refine (mayC true s _ hz hm).mono ?_

      rintro e w_ ⟨rfl, hb⟩
      have n_ := Aside0.mk (below_step (by repeat (first | (with_reducible first | exact HB.out | apply below_alloc | apply pw_below_drewN | apply below_drew1) | exact HB.out)) hb); clear HB hb; have HB := n_; clear n_
      go_wp2_with fail
      refine (mayC false _ _ (by decide) may_empty).mono ?_

      rintro e w_ ⟨rfl, hb⟩
      have n_ := Aside0.mk (below_step (by repeat (first | (with_reducible first | exact HB.out | apply below_alloc | apply pw_below_drewN | apply below_drew1) | exact HB.out)) hb); clear HB hb; have HB := n_; clear n_
      go_wp2
      go_ret3
      exact ⟨rfl, (by repeat (first | (with_reducible first | exact HB.out | apply below_alloc | apply pw_below_drewN | apply below_drew1) | exact HB.out))⟩
  · have HH := Aside0.mk (h k v hs)
    have HS := Aside0.mk hs
    have HK := Aside0.mk hk
    clear h hs hk
    have hk1 : k.size ≤ 9223372036854775807 := by omega
    have hv1 : v.size ≤ 9223372036854775807 := by omega
    have HZ : Aside0 (k.size + 1 ≤ s.size) := ⟨by omega⟩
    clear hsz
    go_enter Try.func72, Try.ntmps72
    go_wp2_with fail
    refine (cut_yes k v s _ HS.out HK.out hz HZ.out).mono ?_

    rintro e w_ ⟨rfl, hb⟩
    have n_ := Aside0.mk (below_step (by repeat (first | (with_reducible first | exact HB.out | apply below_alloc | apply pw_below_drewN | apply below_drew1) | exact HB.out)) hb); clear HB hb; have HB := n_; clear n_
    go_wp2_with fail
    cases hm : mayL (bytesOf k) with
    | false =>
      refine (mayC false k _ hk1 hm).mono ?_

      rintro e w_ ⟨rfl, hb⟩
      have n_ := Aside0.mk (below_step (by repeat (first | (with_reducible first | exact HB.out | apply below_alloc | apply pw_below_drewN | apply below_drew1) | exact HB.out)) hb); clear HB hb; have HB := n_; clear n_
      go_wp2
      go_ret3
      exact ⟨rfl, (by repeat (first | (with_reducible first | exact HB.out | apply below_alloc | apply pw_below_drewN | apply below_drew1) | exact HB.out))⟩
    | true =>
      refine (mayC true k _ hk1 hm).mono ?_

      rintro e w_ ⟨rfl, hb⟩
      have n_ := Aside0.mk (below_step (by repeat (first | (with_reducible first | exact HB.out | apply below_alloc | apply pw_below_drewN | apply below_drew1) | exact HB.out)) hb); clear HB hb; have HB := n_; clear n_
      go_wp2_with fail
      refine (mayC false v _ hv1 (HH.out hm)).mono ?_

      rintro e w_ ⟨rfl, hb⟩
      have n_ := Aside0.mk (below_step (by repeat (first | (with_reducible first | exact HB.out | apply below_alloc | apply pw_below_drewN | apply below_drew1) | exact HB.out)) hb); clear HB hb; have HB := n_; clear n_
      go_wp2
      go_ret3
      exact ⟨rfl, (by repeat (first | (with_reducible first | exact HB.out | apply below_alloc | apply pw_below_drewN | apply below_drew1) | exact HB.out))⟩
/-- Whether a text is a tag. -/
def IsTag (s : ByteArray) : Prop := ∃ k v : ByteArray, s = k ++ (⟨#[58]⟩ : ByteArray) ++ v ∧ mayL (bytesOf k) = true ∧ mayL (bytesOf v) = true
set_option maxRecDepth 100000 in
theorem mayTagYes (s : ByteArray) (w : World) (h : IsTag s) (hz : s.size ≤ 9223372036854775807) :
    Calls Try.prog 55 #[.string s] w fun e w' => e = .returned (.bool true) ∧ Below w.heap.size w w' := by
  obtain ⟨k, v, hs, hk, hv⟩ := h
  have HB := Aside0.mk (Below.refl w.heap.size w)
  have HS := Aside0.mk hs
  clear hs
  go_enter Try.func55, Try.ntmps55
  go_wp2_with fail
  refine (partsYes k v s _ HS.out hk hv hz).mono ?_

  rintro e w_ ⟨rfl, hb⟩
  have n_ := Aside0.mk (below_step (by repeat (first | (with_reducible first | exact HB.out | apply below_alloc | apply pw_below_drewN | apply below_drew1) | exact HB.out)) hb); clear HB hb; have HB := n_; clear n_
  go_wp2
  go_ret
  exact ⟨rfl, (by repeat (first | (with_reducible first | exact HB.out | apply below_alloc | apply pw_below_drewN | apply below_drew1) | exact HB.out))⟩
theorem noTag {s : ByteArray} (h : ¬ IsTag s) : ∀ k v : ByteArray, s = k ++ (⟨#[58]⟩ : ByteArray) ++ v → mayL (bytesOf k) = true → mayL (bytesOf v) = false := by
  intro k v hs hk
  cases hv : mayL (bytesOf v) with
  | false => rfl
  | true => exact absurd ⟨k, v, hs, hk, hv⟩ h
set_option maxRecDepth 100000 in
theorem mayTagNo (s : ByteArray) (w : World) (h : ¬ IsTag s) (hz : s.size ≤ 9223372036854775807) :
    Calls Try.prog 55 #[.string s] w fun e w' => e = .returned (.bool false) ∧ Below w.heap.size w w' := by
  have HB := Aside0.mk (Below.refl w.heap.size w)
  have HN := Aside0.mk (noTag h)
  clear h
  go_enter Try.func55, Try.ntmps55
  go_wp2_with fail
  refine (partsNo s _ HN.out hz).mono ?_

  rintro e w_ ⟨rfl, hb⟩
  have n_ := Aside0.mk (below_step (by repeat (first | (with_reducible first | exact HB.out | apply below_alloc | apply pw_below_drewN | apply below_drew1) | exact HB.out)) hb); clear HB hb; have HB := n_; clear n_
  go_wp2
  go_ret
  exact ⟨rfl, (by repeat (first | (with_reducible first | exact HB.out | apply below_alloc | apply pw_below_drewN | apply below_drew1) | exact HB.out))⟩
end Go.Proofs.Ytdpigeineephlaa.Nam
namespace Go.Proofs.Ytdpigeineephlaa.Nam
open Go.RowKit Go.Proofs.YtdpigeineephlaaW.PrintWords Go.Proofs.YtdpigeineephlaaW.PrintLast Go.Proofs.YtdpigeineephlaaW.PrintMore Go.Proofs.Ytdpigeineephlaa.Num Go.Proofs.Ytdpigeineephlaa.Prt
set_option linter.unusedVariables false
set_option linter.unusedSimpArgs false

theorem take_any {α : Type} (p : α → Bool) (l : List α) (i : Nat) (h : i < l.length) (d : α) : (l.take (i + 1)).any p = ((l.take i).any p || p (l.getD i d)) := by
  rw [List.take_succ_eq_append_getElem h, List.any_append, List.getD_eq_getElem?_getD, List.getElem?_eq_getElem h]; simp
theorem take_any_all {α : Type} (p : α → Bool) (l : List α) (i : Nat) (h : l.length ≤ i) : (l.take i).any p = l.any p := by rw [List.take_of_length_le h]
theorem any_of_take {α : Type} {p : α → Bool} {l : List α} {i : Nat} (h : (l.take i).any p = true) : l.any p = true := by
  obtain ⟨x, hx, hp⟩ := List.any_eq_true.1 h
  exact List.any_eq_true.2 ⟨x, List.mem_of_mem_take hx, hp⟩
theorem getD_mem' {α : Type} {l : List α} {i : Nat} (h : i < l.length) (d : α) : l.getD i d ∈ l := by
  rw [List.getD_eq_getElem?_getD, List.getElem?_eq_getElem h]; exact List.getElem_mem h
end Go.Proofs.Ytdpigeineephlaa.Nam
namespace Go.Proofs.Ytdpigeineephlaa.Nam
open Go.RowKit Go.Proofs.YtdpigeineephlaaW.PrintWords Go.Proofs.YtdpigeineephlaaW.PrintLast Go.Proofs.YtdpigeineephlaaW.PrintMore Go.Proofs.Ytdpigeineephlaa.Num Go.Proofs.Ytdpigeineephlaa.Prt
set_option linter.unusedVariables false
set_option linter.unusedSimpArgs false

def lessS (a b : ByteArray) : Bool := Op.bytesLess a.toList b.toList
def riseB : List ByteArray → Bool
  | a :: b :: r => lessS a b && riseB (b :: r)
  | _ => true
theorem wrapI {n : Int} (h0 : -9223372036854775808 ≤ n) (h1 : n ≤ 9223372036854775807) : wrap64 n = n := by unfold wrap64; omega
/-- Whether bytes are a tag: a name, a colon, a name. -/
def tagL (l : List Int) : Bool := mayL (l.takeWhile fun c => c != 58) && match l.dropWhile fun c => c != 58 with
  | [] => false
  | _ :: v => mayL v
def tagB (s : ByteArray) : Bool := tagL (bytesOf s)
theorem take58 : ∀ (a b : List Int), (58 : Int) ∉ a → ((a ++ 58 :: b).takeWhile fun c => c != 58) = a ∧ ((a ++ 58 :: b).dropWhile fun c => c != 58) = 58 :: b := by
  intro a b
  induction a with
  | nil => intro _; simp
  | cons c r ih =>
    intro h
    rw [List.mem_cons, not_or] at h
    have hc : (c != 58) = true := bne_iff_ne.2 (fun e => h.1 e.symm)
    obtain ⟨h1, h2⟩ := ih h.2
    simp only [List.cons_append, List.takeWhile_cons, List.dropWhile_cons, hc, if_true, h1, h2]
    exact ⟨trivial, trivial⟩
theorem drop58 : ∀ (a : List Int), (58 : Int) ∉ a → (a.dropWhile fun c => c != 58) = [] := by
  intro a
  induction a with
  | nil => intro _; rfl
  | cons c r ih =>
    intro h
    rw [List.mem_cons, not_or] at h
    have hc : (c != 58) = true := bne_iff_ne.2 (fun e => h.1 e.symm)
    simp only [List.dropWhile_cons, hc, if_true]
    exact ih h.2
theorem bytes_cat (k v : ByteArray) : bytesOf (k ++ (⟨#[58]⟩ : ByteArray) ++ v) = bytesOf k ++ 58 :: bytesOf v := by
  rw [bytes_append, bytes_append, List.append_assoc]; rfl
theorem tagL_cut (a b : List Int) (h : (58 : Int) ∉ a) : tagL (a ++ 58 :: b) = (mayL a && mayL b) := by
  unfold tagL
  obtain ⟨h1, h2⟩ := take58 a b h
  rw [h1, h2]
theorem tagL_no (a : List Int) (h : (58 : Int) ∉ a) : tagL a = false := by
  unfold tagL
  rw [drop58 a h]; simp
theorem tagB_iff (s : ByteArray) : tagB s = true ↔ IsTag s := by
  unfold tagB
  constructor
  · intro h
    rcases split58 s with hn | ⟨k, v, hs, hk, hz⟩
    · rw [tagL_no _ hn] at h; cases h
    · rw [hs, bytes_cat, tagL_cut _ _ hk, Bool.and_eq_true] at h
      exact ⟨k, v, hs, h.1, h.2⟩
  · rintro ⟨k, v, hs, h1, h2⟩
    rw [hs, bytes_cat, tagL_cut _ _ (may_no58 h1), h1, h2]; rfl
theorem mayTag_calls (s : ByteArray) (w : World) (hz : s.size ≤ 9223372036854775807) :
    Calls Try.prog 55 #[.string s] w fun e w' => e = .returned (.bool (tagB s)) ∧ Below w.heap.size w w' := by
  by_cases h : IsTag s
  · rw [(tagB_iff s).2 h]; exact mayTagYes s w h hz
  · have e : tagB s = false := by cases hb : tagB s with | false => rfl | true => exact absurd ((tagB_iff s).1 hb) h
    rw [e]; exact mayTagNo s w h hz
end Go.Proofs.Ytdpigeineephlaa.Nam
namespace Go.Proofs.Ytdpigeineephlaa.Prt
open Go.RowKit Go.Proofs.YtdpigeineephlaaW.PrintWords Go.Proofs.YtdpigeineephlaaW.PrintLast Go.Proofs.YtdpigeineephlaaW.PrintMore Go.Proofs.Ytdpigeineephlaa.Num
set_option linter.unusedVariables false
set_option linter.unusedSimpArgs false

def num_Put.f (l0 : List Int) (a1 : Int) : Option (List Int) := if l0.length ≤ 140737488350000 ∧ -9223372036854775808 ≤ a1 ∧ a1 ≤ 9223372036854775807 then some (l0 ++ enc a1) else none
theorem num_Put.calls (A0 : Option Addr) (c0 : Nat) (l0 : List Int) (a1 : Int) (r : List Int) (w : World) (hr0 : Kd.C (Kd.int .u8) w A0 l0.length l0) (hc0 : l0.length ≤ c0) (h : num_Put.f l0 a1 = some r) :
    Calls Try.prog 34 #[.slice A0 l0.length c0, .int .i64 a1] w fun e w' => ∃ v0_ : Value, e = .returned (v0_) ∧ Kd.R (Kd.int .u8) 5 w' w.heap.size (fun _ => True) v0_ r ∧ Below w.heap.size w w' := by
  unfold num_Put.f at h
  by_cases hc : l0.length ≤ 140737488350000 ∧ -9223372036854775808 ≤ a1 ∧ a1 ≤ 9223372036854775807
  · rw [if_pos hc] at h
    obtain rfl := Option.some.inj h
    exact put_calls A0 c0 l0 a1 w hr0 hc0 hc.2.1 hc.2.2 hc.1
  · rw [if_neg hc] at h; cases h
def num_PutText.f (l0 : List Int) (a1 : ByteArray) : Option (List Int) := if l0.length + a1.size ≤ 140737488349000 then some (l0 ++ encT (bytesOf a1)) else none
theorem num_PutText.calls (A0 : Option Addr) (c0 : Nat) (l0 : List Int) (a1 : ByteArray) (r : List Int) (w : World) (hr0 : Kd.C (Kd.int .u8) w A0 l0.length l0) (hc0 : l0.length ≤ c0) (h : num_PutText.f l0 a1 = some r) :
    Calls Try.prog 33 #[.slice A0 l0.length c0, .string a1] w fun e w' => ∃ v0_ : Value, e = .returned (v0_) ∧ Kd.R (Kd.int .u8) 5 w' w.heap.size (fun _ => True) v0_ r ∧ Below w.heap.size w w' := by
  unfold num_PutText.f at h
  by_cases hc : l0.length + a1.size ≤ 140737488349000
  · rw [if_pos hc] at h
    obtain rfl := Option.some.inj h
    exact putText_calls A0 c0 l0 a1 w hr0 hc0 hc
  · rw [if_neg hc] at h; cases h
end Go.Proofs.Ytdpigeineephlaa.Prt
namespace Go.Proofs.Ytdpigeineephlaa.Prt
open Go.RowKit Go.Proofs.YtdpigeineephlaaW.PrintWords Go.Proofs.YtdpigeineephlaaW.PrintLast Go.Proofs.YtdpigeineephlaaW.PrintMore Go.Proofs.Ytdpigeineephlaa.Num Go.Proofs.Ytdpigeineephlaa.Nam
set_option linter.unusedVariables false
set_option linter.unusedSimpArgs false

def encTs (l : List ByteArray) : List Int := l.flatMap fun s => encT (bytesOf s)
theorem encT_len (s : ByteArray) (h : s.size ≤ 9223372036854775807) : (encT (bytesOf s)).length ≤ 10 + s.size := by
  unfold encT
  have := enc_len (x := ((bytesOf s).length : Int)) ⟨by omega, by rw [bytes_length]; omega⟩
  rw [List.length_append, bytes_length] at *; omega
theorem may_size {s : ByteArray} (h : mayL (bytesOf s) = true) : s.size ≤ 24 := by have := (may_parts h).2.1; rwa [bytes_length] at this
theorem tag_size {s : ByteArray} (h : tagB s = true) : s.size ≤ 49 := by
  obtain ⟨k, v, hs, h1, h2⟩ := (tagB_iff s).1 h
  have := may_size h1
  have := may_size h2
  rw [hs, ByteArray.size_append, ByteArray.size_append]
  show k.size + 1 + v.size ≤ 49
  omega
theorem enc_0 : enc 0 = [0] := by unfold enc zz; rw [if_neg (by omega), encN_lt (by decide)]; rfl
theorem enc_1 : enc 1 = [2] := by unfold enc zz; rw [if_neg (by omega), encN_lt (by decide)]; rfl
theorem enc_part {x y : Int} (hx : i64 x) (hy : i64 y) {r r' : List Int} (h : enc x ++ r = enc y ++ r') : x = y ∧ r = r' := by
  have h1 := dec_enc hx r
  rw [h, dec_enc hy] at h1
  simp only [Option.some.injEq, Prod.mk.injEq] at h1
  exact ⟨h1.1.symm, h1.2.symm⟩
theorem encT_part {s t : ByteArray} (hs : s.size ≤ 9223372036854775807) (ht : t.size ≤ 9223372036854775807) {r r' : List Int} (h : encT (bytesOf s) ++ r = encT (bytesOf t) ++ r') : s = t ∧ r = r' := by
  have h1 := decT_encT (s := bytesOf s) (by rw [bytes_length]; exact hs) r
  rw [h, decT_encT (by rw [bytes_length]; exact ht)] at h1
  simp only [Option.some.injEq, Prod.mk.injEq] at h1
  exact ⟨(bytesOf_inj h1.1).symm, h1.2.symm⟩
theorem encTs_part : ∀ (a b : List ByteArray) (r r' : List Int), (∀ x ∈ a, x.size ≤ 9223372036854775807) → (∀ x ∈ b, x.size ≤ 9223372036854775807) → a.length = b.length → encTs a ++ r = encTs b ++ r' → a = b ∧ r = r'
  | [], [], r, r', _, _, _, h => ⟨rfl, h⟩
  | x :: a, y :: b, r, r', ha, hb, hl, h => by
    unfold encTs at h
    rw [List.flatMap_cons, List.flatMap_cons, List.append_assoc, List.append_assoc] at h
    obtain ⟨h1, h2⟩ := encT_part (ha x (by simp)) (hb y (by simp)) h
    obtain ⟨h3, h4⟩ := encTs_part a b r r' (fun z hz => ha z (by simp [hz])) (fun z hz => hb z (by simp [hz])) (by simpa using hl) h2
    exact ⟨by rw [h1, h3], h4⟩
  | [], _ :: _, _, _, _, _, hl, _ => by simp at hl
  | _ :: _, [], _, _, _, _, hl, _ => by simp at hl
theorem encTs_bytes (a : List ByteArray) : isBytes (encTs a) := by
  induction a with
  | nil => intro c hc; simp [encTs] at hc
  | cons x r ih =>
    have e : encTs (x :: r) = encT (bytesOf x) ++ encTs r := by unfold encTs; rw [List.flatMap_cons]
    rw [e]
    exact isBytes_append.2 ⟨isBytes_append.2 ⟨enc_bytes _, bytesOf_isBytes x⟩, ih⟩
end Go.Proofs.Ytdpigeineephlaa.Prt
namespace Go.Proofs.Ytdpigeineephlaa.Prt
open Go.RowKit Go.Proofs.YtdpigeineephlaaW.PrintWords Go.Proofs.YtdpigeineephlaaW.PrintLast Go.Proofs.YtdpigeineephlaaW.PrintMore Go.Proofs.Ytdpigeineephlaa.Num Go.Proofs.Ytdpigeineephlaa.Nam
set_option linter.unusedVariables false
set_option linter.unusedSimpArgs false

end Go.Proofs.Ytdpigeineephlaa.Prt
namespace Go.Proofs.Ytdpigeineephlaa.Prt
open Go.RowKit Go.Proofs.YtdpigeineephlaaW.PrintWords Go.Proofs.YtdpigeineephlaaW.PrintLast Go.Proofs.YtdpigeineephlaaW.PrintMore
attribute [local go_sem] max2_int min2_int max_two min_two max_three min_three max_four min_four   -- for this text's walks alone
set_option linter.unusedVariables false
set_option linter.unusedSimpArgs false

end Go.Proofs.Ytdpigeineephlaa.Prt
namespace Go.Proofs.Ytdpigeineephlaa.Prt
open Go.RowKit Go.Proofs.YtdpigeineephlaaW.PrintWords Go.Proofs.YtdpigeineephlaaW.PrintLast Go.Proofs.YtdpigeineephlaaW.PrintMore Go.Proofs.Ytdpigeineephlaa.Num Go.Proofs.Ytdpigeineephlaa.Nam
set_option linter.unusedVariables false
set_option linter.unusedSimpArgs false

end Go.Proofs.Ytdpigeineephlaa.Prt
namespace Go.Proofs.Ytdpigeineephlaa.Prt
open Go.RowKit Go.Proofs.YtdpigeineephlaaW.PrintWords Go.Proofs.YtdpigeineephlaaW.PrintLast Go.Proofs.YtdpigeineephlaaW.PrintMore
attribute [local go_sem] max2_int min2_int max_two min_two max_three min_three max_four min_four   -- for this text's walks alone
set_option linter.unusedVariables false
set_option linter.unusedSimpArgs false

end Go.Proofs.Ytdpigeineephlaa.Prt
namespace Go.Proofs.Ytdpigeineephlaa.Prt
open Go.RowKit Go.Proofs.YtdpigeineephlaaW.PrintWords Go.Proofs.YtdpigeineephlaaW.PrintLast Go.Proofs.YtdpigeineephlaaW.PrintMore
attribute [local go_sem] max2_int min2_int max_two min_two max_three min_three max_four min_four   -- for this text's walks alone
set_option linter.unusedVariables false
set_option linter.unusedSimpArgs false

end Go.Proofs.Ytdpigeineephlaa.Prt
namespace Go.Proofs.Ytdpigeineephlaa.Prt
open Go.RowKit Go.Proofs.YtdpigeineephlaaW.PrintWords Go.Proofs.YtdpigeineephlaaW.PrintLast Go.Proofs.YtdpigeineephlaaW.PrintMore Go.Proofs.Ytdpigeineephlaa.Num Go.Proofs.Ytdpigeineephlaa.Nam
set_option linter.unusedVariables false
set_option linter.unusedSimpArgs false

theorem succW (i : Nat) (h : i < 9223372036854775807) : wrap64 ((i : Int) + 1) = ((i + 1 : Nat) : Int) := by rw [wrapI (by omega) (by omega)]; omega
end Go.Proofs.Ytdpigeineephlaa.Prt
namespace Go.Proofs.Ytdpigeineephlaa.Num
open Go.RowKit Go.Proofs.YtdpigeineephlaaW.PrintWords Go.Proofs.YtdpigeineephlaaW.PrintLast Go.Proofs.YtdpigeineephlaaW.PrintMore Go.Proofs.Ytdpigeineephlaa.Prt Go.Proofs.Ytdpigeineephlaa.Nam
set_option linter.unusedVariables false
set_option linter.unusedSimpArgs false

theorem R_off' {α : Type} {d : Kd α} {e N B : Nat} {w w' : World} {v : Value} {l : List α} (h : d.R e w N (fun _ => True) v l) (hB : B < N) (hk : KeepBut w w' B none) : d.R e w' N (fun _ => True) v l :=
  Kd.R_mono (Kd.R_keep (Kd.R_bound h) hk (fun k hk => by have := hk.2.1; omega)) (fun _ _ => trivial)
theorem R_set {α : Type} {d : Kd α} {e N t E : Nat} {w : World} {v : Value} {l : List α} {cells : Array Value} (h : d.R e w N (fun _ => True) v l) (hb : w.heap[E]? = some (.cells cells t (0, 0))) (ht : ∀ q, q ∈ e :: d.E → q ≠ t) (i : Nat) (u : Value) : d.R e (w.setCell ⟨E, i, none⟩ u) N (fun _ => True) v l :=
  Kd.R_mono (Kd.R_far (p := ⟨E, i, none⟩) (Kd.R_types h hb ht) (fun k hk => hk.2) u) (fun _ _ => trivial)
theorem Rd.grown {T : Nat} {P : Nat → Prop} {W W1 : World} {g : Nat} {l : List Int} {bad : Bool} {row : Option Nat} (h : Rd T P W g l bad) (hg : W.grownBy W1 row) (hne : some g ≠ row) (hP : ∀ k, P k → some k ≠ row) : Rd T P W1 g l bad := by
  obtain ⟨A, c, h1, h2, h3, h4, h5⟩ := h
  refine ⟨A, c, blk_grown h1 hg hne, h2, ?_, h4, h5⟩
  cases row with
  | none =>
    have hk : KeepBut W W1 g none := KeepBut.of_grown hg g
    exact Kd.C_keep (0 : Int) h3 hk (fun ad e hn he => h5 (he ▸ h4 ad e hn))
  | some b =>
    have hk : KeepBut W W1 b none := ⟨hg.size, fun i hi hb _ => hg.block i hi (by simpa using hb)⟩
    exact Kd.C_keep (0 : Int) h3 hk (fun ad e hn he => by have := hP _ (h4 ad e hn); rw [he] at this; exact this rfl)
theorem ne_base {N g : Nat} {v : Value} (hb : ∀ k, v.ownBlock = some k → N ≤ k) (hg : g < N) : some g ≠ v.ownBlock := fun e => by have := hb g e.symm; omega
theorem info_str : (Try.prog.info? 9).map (fun i => (i.zero, i.size, i.bytes)) = some (some (.string ⟨#[]⟩), 1, 16) := by kernel_rfl
theorem aftT_bytes {l : List Int} (h : isBytes l) : isBytes (aftT l) := by
  unfold aftT
  cases hd : decT l with
  | none => intro c hc; simp at hc
  | some q =>
    obtain ⟨s, r⟩ := q
    have := (decT_sound h hd).1
    rw [this] at h
    exact (isBytes_append.1 h).2
theorem aft_len (l : List Int) (hb : isBytes l) : (aft l).length ≤ l.length := by
  unfold aft
  cases hd : dec l with
  | none => simp
  | some q =>
    obtain ⟨x, r⟩ := q
    have := (dec_sound hb hd).1
    rw [this]; simp
theorem aftT_len (l : List Int) (hb : isBytes l) : (aftT l).length ≤ l.length := by
  unfold aftT
  cases hd : decT l with
  | none => simp
  | some q =>
    obtain ⟨x, r⟩ := q
    have := (decT_sound hb hd).1
    rw [this]; simp
theorem textOf_size (l : List Int) (hb : isBytes l) : (textOf l).size ≤ l.length := by
  unfold textOf
  cases hd : decT l with
  | none => exact Nat.zero_le _
  | some q =>
    obtain ⟨x, r⟩ := q
    have h1 := (decT_sound hb hd).1
    have h2 : (strOfNums x).size = x.length := strOfNums_size' x
    show (strOfNums x).size ≤ _
    rw [h2, h1]; unfold encT; simp; omega
end Go.Proofs.Ytdpigeineephlaa.Num
namespace Go.Proofs.Ytdpigeineephlaa.Prt
open Go.RowKit Go.Proofs.YtdpigeineephlaaW.PrintWords Go.Proofs.YtdpigeineephlaaW.PrintLast Go.Proofs.YtdpigeineephlaaW.PrintMore Go.Proofs.Ytdpigeineephlaa.Num Go.Proofs.Ytdpigeineephlaa.Nam
set_option linter.unusedVariables false
set_option linter.unusedSimpArgs false
/-- What was laid down is taken. -/
theorem textOf_enc {s : ByteArray} (hs : s.size ≤ 9223372036854775807) (r : List Int) (b : Bool) : textOf (encT (bytesOf s) ++ r) = s ∧ aftT (encT (bytesOf s) ++ r) = r ∧ badT (encT (bytesOf s) ++ r) b = b := by
  unfold textOf aftT badT
  rw [decT_encT (by rw [bytes_length]; exact hs)]
  exact ⟨strOfNums_bytesOf s, rfl, by simp⟩
theorem numOf_enc {x : Int} (h : i64 x) (r : List Int) (b : Bool) : numOf (enc x ++ r) = x ∧ aft (enc x ++ r) = r ∧ badOf (enc x ++ r) b = b := by
  unfold numOf aft badOf
  rw [dec_enc h]
  exact ⟨rfl, rfl, by simp⟩
end Go.Proofs.Ytdpigeineephlaa.Prt
namespace Go.Proofs.Ytdpigeineephlaa.Nam
open Go.RowKit Go.Proofs.YtdpigeineephlaaW.PrintWords Go.Proofs.YtdpigeineephlaaW.PrintLast Go.Proofs.YtdpigeineephlaaW.PrintMore Go.Proofs.Ytdpigeineephlaa.Num Go.Proofs.Ytdpigeineephlaa.Prt
set_option linter.unusedVariables false
set_option linter.unusedSimpArgs false

/-- qcode.list: as many as there are, each by a function. -/
theorem listStr (f : ByteArray → List Int) (G : Nat) (A0 : Option Addr) (c0 : Nat) (l0 : List Int) (A : Option Addr) (c : Nat) (l : List ByteArray) (w : World) (hr0 : Kd.C (Kd.int .u8) w A0 l0.length l0) (hc0 : l0.length ≤ c0) (hC : Kd.C Kd.string w A l.length l) (hb : l0.length + ((enc (l.length : Int)).length + (l.flatMap f).length) ≤ 1000000000000)
    (hent : ∀ (xs : Array Value) (W : World), (callFunc G xs).run Try.prog W = .ok (.enter G xs) W)
    (hf : ∀ x ∈ l, ∀ w1, Below w.heap.size w w1 → ∀ A' c' l', Kd.C (Kd.int .u8) w1 A' l'.length l' → l'.length ≤ c' → l'.length + (f x).length ≤ 1000000000000 → Calls Try.prog G #[.slice A' l'.length c', .string x] w1 fun e w2 => ∃ v, e = .returned v ∧ Kd.R (Kd.int .u8) 5 w2 w1.heap.size (fun _ => True) v (l' ++ f x) ∧ Below w1.heap.size w1 w2) :
    Calls Try.prog 62 #[.slice A0 l0.length c0, .slice A l.length c, .func (.func G) #[] #[]] w fun e w' => ∃ v, e = .returned v ∧ Kd.R (Kd.int .u8) 5 w' w.heap.size (fun _ => True) v (l0 ++ (enc (l.length : Int) ++ l.flatMap f)) ∧ Below w.heap.size w w' := by
  have hm := Kd.C_max hC
  have HC := Aside0.mk hC
  have HF := Aside0.mk hf
  have HP := Aside0.mk (num_Put.calls A0 c0 l0 (l.length : Int) (l0 ++ enc (l.length : Int)) w hr0 hc0 (if_pos ⟨by omega, by omega, by omega⟩))
  have HBD := Aside0.mk hb
  clear hr0 hc0 hC hb hf
  go_enter Try.func62, Try.ntmps62
  go_wp2_with fail
  refine HP.out.mono ?_
  rintro e w1 ⟨v1, rfl, ho, hb⟩
  have HO1 := Aside0.mk (show Kd.R (Kd.int .u8) 5 w1 w.heap.size (fun _ => True) v1 (l0 ++ (enc (l.length : Int) ++ (l.take 0).flatMap f)) by rw [List.take_zero, List.flatMap_nil, List.append_nil]; exact ho)
  have HB1 := Aside0.mk hb
  clear ho hb HP
  go_wp2_with fail
  go_loopg [7, 16] (l.length + 1) (fun k v7 v16 w' => ∃ i : Nat, v16 = .int .i64 (i : Int) ∧ Aside0 (i + k = l.length + 1) ∧ Aside0 (Kd.R (Kd.int .u8) 5 w' w.heap.size (fun _ => True) v7 (l0 ++ (enc (l.length : Int) ++ (l.take i).flatMap f))) ∧ Aside0 (Below w.heap.size w w'))
  case atStart => exact ⟨0, rfl, ⟨by omega⟩, HO1, HB1⟩
  case round =>
    clear HO1 HB1
    obtain ⟨i, rfl, HI, HO, HB⟩ := hrel
    obtain ⟨A7, c7, e7⟩ := Kd.R_slice HO.out
    subst e7
    by_cases hi : i < l.length
    · have d1 : decide ((i : Int) < (l.length : Int)) = true := decide_eq_true (by omega)
      obtain ⟨ad, e_, hx⟩ := Kd.at_string (Kd.C_below HC.out HB.out) (i : Int) (by omega) (by omega)
      cases e_
      rw [Int.toNat_natCast] at hx
      obtain ⟨x, hx0⟩ : ∃ x, x = rdOf ByteArray.empty l (i : Int) := ⟨_, rfl⟩
      rw [← hx0] at hx
      have hxm : x ∈ l := by rw [hx0]; exact getD_mem' hi _
      have hxs : (l.take (i + 1)).flatMap f = (l.take i).flatMap f ++ f x := by
        rw [List.take_succ_eq_append_getElem hi, List.flatMap_append]
        congr 1
        rw [hx0]
        unfold rdOf
        rw [Int.toNat_natCast, List.getD_eq_getElem?_getD, List.getElem?_eq_getElem hi]; simp
      have hbx : (l0 ++ (enc (l.length : Int) ++ (l.take i).flatMap f)).length + (f x).length ≤ 1000000000000 := by
        have h1 : l.flatMap f = (l.take (i + 1)).flatMap f ++ (l.drop (i + 1)).flatMap f := by rw [← List.flatMap_append, List.take_append_drop]
        have h2 := congrArg List.length h1
        rw [hxs] at h2
        simp only [List.length_append] at h2 ⊢
        have := HBD.out
        omega
      have HXS := Aside0.mk hxs
      have HXM := Aside0.mk hxm
      have HBX := Aside0.mk hbx
      have HIL := Aside0.mk hi
      clear hx0 hxm hxs hbx
      obtain ⟨-, hc7, hC7⟩ := Kd.R_reads' HO.out
      obtain ⟨lx, hlx⟩ : ∃ lx, lx = l0 ++ (enc (l.length : Int) ++ (l.take i).flatMap f) := ⟨_, rfl⟩
      rw [← hlx] at HO HBX hc7 hC7
      have HLX := Aside0.mk hlx
      have HC7 := Aside0.mk hC7
      have HK7 := Aside0.mk hc7
      rw [← hlx]
      clear hlx hC7 hc7
      go_wp2_with fail
      refine (HF.out x HXM.out _ HB.out A7 c7 lx HC7.out HK7.out HBX.out).mono ?_
      rintro e w4 ⟨v4, rfl, ho, hb⟩
      have HB4 := Aside0.mk (below_step HB.out hb)
      have HO4 := Aside0.mk (Kd.R_lower ho HB.out.size)
      clear ho hb
      go_wp2_with fail
      go_roundg (l.length - i)
      case measure => have := HI.out; omega
      case rel => exact ⟨i + 1, by go_num, ⟨by have := HI.out; omega⟩, ⟨by have h := HO4.out; rw [HLX.out, List.append_assoc, List.append_assoc, ← HXS.out] at h; exact h⟩, HB4⟩
    · have d1 : decide ((i : Int) < (l.length : Int)) = false := decide_eq_false (by omega)
      have HT := Aside0.mk (show l.take i = l from List.take_of_length_le (by omega))
      go_wp2_with fail
      go_ret
      exact ⟨_, rfl, by have h := HO.out; rw [HT.out] at h ⊢; exact h, HB.out⟩

end Go.Proofs.Ytdpigeineephlaa.Nam
namespace Go.Proofs.Ytdpigeineephlaa.Nam
open Go.RowKit Go.Proofs.YtdpigeineephlaaW.PrintWords Go.Proofs.YtdpigeineephlaaW.PrintLast Go.Proofs.YtdpigeineephlaaW.PrintMore Go.Proofs.Ytdpigeineephlaa.Num Go.Proofs.Ytdpigeineephlaa.Prt
set_option linter.unusedVariables false
set_option linter.unusedSimpArgs false

theorem R_setB {α : Type} {d : Kd α} {e N t E : Nat} {w : World} {v : Value} {l : List α} {cells : Array Value} (h : Kd.R d e w N (fun _ => True) v l) (hb : w.heap[E]? = some (.cells cells t (0, 0))) (ht : ∀ q, q ∈ e :: d.E → q ≠ t) (i : Nat) (u : Value) : Kd.R d e (w.setCell ⟨E, i, none⟩ u) N (fun _ => True) v l :=
  Kd.R_mono (Kd.R_far (p := ⟨E, i, none⟩) (Kd.R_types h hb ht) (fun k hk => hk.2) u) (fun _ _ => trivial)
theorem R_setB2 {α : Type} {d : Kd α} {e N t E : Nat} {w : World} {v : Value} {l : List α} {cells : Array Value} (h : Kd.R d e w N (fun _ => True) v l) (hb : w.heap[E]? = some (.cells cells t (0, 0))) (ht : ∀ q, q ∈ e :: d.E → q ≠ t) (u0 u1 : Value) : Kd.R d e ((w.setCell ⟨E, 0, none⟩ u0).setCell ⟨E, 1, none⟩ u1) N (fun _ => True) v l :=
  R_setB (R_setB h hb ht 0 u0) (blk_set hb 0 u0) ht 1 u1
set_option maxRecDepth 100000 in
/-- qcode.list: as many as there are, each by a function. -/
theorem listCla (f : S60 → List Int) (G : Nat) (A0 : Option Addr) (c0 : Nat) (l0 : List Int) (A : Option Addr) (c : Nat) (l : List S60) (w : World) (hr0 : Kd.C (Kd.int .u8) w A0 l0.length l0) (hc0 : l0.length ≤ c0) (hC : Kd.C k60 w A l.length l) (hb : l0.length + ((enc (l.length : Int)).length + (l.flatMap f).length) ≤ 1000000000000)
    (hent : ∀ (xs : Array Value) (W : World), (callFunc G xs).run Try.prog W = .ok (.enter G xs) W)
    (hf : ∀ x ∈ l, ∀ w1, Below w.heap.size w w1 → ∀ A' c' l', Kd.C (Kd.int .u8) w1 A' l'.length l' → l'.length ≤ c' → l'.length + (f x).length ≤ 1000000000000 → ∀ P0 q0 P1 q1, Kd.C Kd.string w1 P0 x.f0.length x.f0 → x.f0.length ≤ q0 → Kd.C Kd.string w1 P1 x.f1.length x.f1 → x.f1.length ≤ q1 → Calls Try.prog G #[.slice A' l'.length c', .agg #[.slice P0 x.f0.length q0, .slice P1 x.f1.length q1]] w1 fun e w2 => ∃ v, e = .returned v ∧ Kd.R (Kd.int .u8) 5 w2 w1.heap.size (fun _ => True) v (l' ++ f x) ∧ Below w1.heap.size w1 w2) :
    Calls Try.prog 60 #[.slice A0 l0.length c0, .slice A l.length c, .func (.func G) #[] #[]] w fun e w' => ∃ v, e = .returned v ∧ Kd.R (Kd.int .u8) 5 w' w.heap.size (fun _ => True) v (l0 ++ (enc (l.length : Int) ++ l.flatMap f)) ∧ Below w.heap.size w w' := by
  have hm := Kd.C_max hC
  have HC := Aside0.mk hC
  have HF := Aside0.mk hf
  have HP := Aside0.mk (num_Put.calls A0 c0 l0 (l.length : Int) (l0 ++ enc (l.length : Int)) w hr0 hc0 (if_pos ⟨by omega, by omega, by omega⟩))
  have HBD := Aside0.mk hb
  clear hr0 hc0 hC hb hf
  have hu60 := Try.underlying60
  go_enter Try.func60, Try.ntmps60
  go_wp2_with fail
  refine HP.out.mono ?_
  rintro e w1 ⟨v1, rfl, ho, hb⟩
  have HO1 := Aside0.mk (show Kd.R (Kd.int .u8) 5 w1 w.heap.size (fun _ => True) v1 (l0 ++ (enc (l.length : Int) ++ (l.take 0).flatMap f)) by rw [List.take_zero, List.flatMap_nil, List.append_nil]; exact ho)
  have HB1 := Aside0.mk hb
  clear ho hb HP
  go_wp2_with fail
  go_loopg [7, 16] (l.length + 1) (fun k v7 v16 w' => ∃ i : Nat, v16 = .int .i64 (i : Int) ∧ Aside0 (i + k = l.length + 1) ∧ Aside0 (Kd.R (Kd.int .u8) 5 w' w.heap.size (fun _ => True) v7 (l0 ++ (enc (l.length : Int) ++ (l.take i).flatMap f))) ∧ Aside0 (Below w.heap.size w w'))
  case atStart => exact ⟨0, rfl, ⟨by omega⟩, HO1, HB1⟩
  case round =>
    clear HO1 HB1
    obtain ⟨i, rfl, HI, HO, HB⟩ := hrel
    obtain ⟨A7, c7, e7⟩ := Kd.R_slice HO.out
    subst e7
    by_cases hi : i < l.length
    · have d1 : decide ((i : Int) < (l.length : Int)) = true := decide_eq_true (by omega)
      obtain ⟨ad, P0, q0, P1, q1, e_, hx, hx1, hl0, hi0, hl1, hi1⟩ := at_T60 (Kd.C_below HC.out HB.out) (i : Int) (by omega) (by omega)
      cases e_
      rw [Int.toNat_natCast] at hx hx1
      obtain ⟨x, hx0⟩ : ∃ x, x = rd_T60 l (i : Int) := ⟨_, rfl⟩
      rw [← hx0] at hx hx1 hl0 hi0 hl1 hi1
      have hxm : x ∈ l := by rw [hx0]; exact getD_mem' hi _
      have hxs : (l.take (i + 1)).flatMap f = (l.take i).flatMap f ++ f x := by
        rw [List.take_succ_eq_append_getElem hi, List.flatMap_append]
        congr 1
        rw [hx0]
        unfold rd_T60
        rw [Int.toNat_natCast, List.getD_eq_getElem?_getD, List.getElem?_eq_getElem hi]; simp
      have hbx : (l0 ++ (enc (l.length : Int) ++ (l.take i).flatMap f)).length + (f x).length ≤ 1000000000000 := by
        have h1 : l.flatMap f = (l.take (i + 1)).flatMap f ++ (l.drop (i + 1)).flatMap f := by rw [← List.flatMap_append, List.take_append_drop]
        have h2 := congrArg List.length h1
        rw [hxs] at h2
        simp only [List.length_append] at h2 ⊢
        have := HBD.out
        omega
      have HXS := Aside0.mk hxs
      have HXM := Aside0.mk hxm
      have HBX := Aside0.mk hbx
      have HIL := Aside0.mk hi
      clear hx0 hxm hxs hbx
      obtain ⟨-, hc7, hC7⟩ := Kd.R_reads' HO.out
      obtain ⟨lx, hlx⟩ : ∃ lx, lx = l0 ++ (enc (l.length : Int) ++ (l.take i).flatMap f) := ⟨_, rfl⟩
      rw [← hlx] at HO HBX hc7 hC7
      have HLX := Aside0.mk hlx
      have HC7 := Aside0.mk hC7
      have HK7 := Aside0.mk hc7
      rw [← hlx]
      clear hlx hC7 hc7
      have HI0 := Aside0.mk hi0
      have HI1 := Aside0.mk hi1
      have HL0 := Aside0.mk hl0
      have HL1 := Aside0.mk hl1
      clear hi0 hi1 hl0 hl1
      go_upto_region 5 with (first | ((with_reducible refine gate_dst (N := 9) rfl ?_); (try (refine gate_guard (by rfl) ?_; dsimp only)); refine box_event ?hg (N := 9) ?hd (cs := #[.slice none 0 0, .slice none 0 0]) (t := 60) ?hr ?_; (case hd => rfl); (case hg => rfl); (case hr => first | (go_simp; done) | (go_simp; rfl)); intro B hg_ w2 hbox_ hb_; have HBE := Aside0.mk hbox_; have HBM := Aside0.mk hg_; have HBD := Aside0.mk hb_; clear hbox_ hg_ hb_; have hq0 := blk_cell HBE.out 0; have hz0 := blk_frozen HBE.out 0; have hq1 := blk_cell HBE.out 1; have hz1 := blk_frozen HBE.out 1))
      have HGB := Aside0.mk (show w.heap.size ≤ B ∧ wr.heap.size ≤ B from ⟨by rw [HBM.out]; exact HB.out.size, by rw [HBM.out]; exact Nat.le_refl _⟩)
      have n1_ := Aside0.mk (R_setB2 (Kd.R_below HO.out HBD.out) HBE.out (by decide) (.slice P0 x.f0.length q0) (.slice P1 x.f1.length q1))
      have n2_ := Aside0.mk (((below_step HB.out HBD.out).setCell (p := ⟨B, 0, none⟩) HGB.out.1 (.slice P0 x.f0.length q0)).setCell (p := ⟨B, 1, none⟩) HGB.out.1 (.slice P1 x.f1.length q1))
      have n3_ := Aside0.mk ((HBD.out.setCell (p := ⟨B, 0, none⟩) HGB.out.2 (.slice P0 x.f0.length q0)).setCell (p := ⟨B, 1, none⟩) HGB.out.2 (.slice P1 x.f1.length q1))
      have n4_ := Aside0.mk (blk_put (cs' := #[.slice P0 x.f0.length q0, .slice P1 x.f1.length q1]) (blk_put (cs' := #[.slice P0 x.f0.length q0, .slice none 0 0]) HBE.out 0 (.slice P0 x.f0.length q0) rfl) 1 (.slice P1 x.f1.length q1) rfl)
      clear HBE HBD hq0 hq1 hz0 hz1 hx hx1 HO
      generalize (w2.setCell ⟨B, 0, none⟩ (.slice P0 x.f0.length q0)).setCell ⟨B, 1, none⟩ (.slice P1 x.f1.length q1) = w3 at n1_ n2_ n3_ n4_ ⊢
      have HB' := HB
      clear HB
      have HB := n2_
      have HO := n1_
      have hq0 := blk_cell n4_.out 0
      have hq1 := blk_cell n4_.out 1
      obtain ⟨-, hc7, hC7⟩ := Kd.R_reads' HO.out
      clear HC7 HK7
      have HC7 := Aside0.mk hC7
      have HK7 := Aside0.mk hc7
      clear hc7 hC7
      go_wp2_with fail
      refine (HF.out x HXM.out _ HB.out A7 c7 lx HC7.out HK7.out HBX.out P0 q0 P1 q1 (Kd.C_below HI0.out n3_.out) HL0.out (Kd.C_below HI1.out n3_.out) HL1.out).mono ?_
      rintro e w4 ⟨v4, rfl, ho, hb⟩
      have HB4 := Aside0.mk (below_step HB.out hb)
      have HO4 := Aside0.mk (Kd.R_lower ho HB.out.size)
      clear ho hb
      go_wp2_with fail
      go_roundg (l.length - i)
      case measure => have := HI.out; omega
      case rel => exact ⟨i + 1, by go_num, ⟨by have := HI.out; omega⟩, ⟨by have h := HO4.out; rw [HLX.out, List.append_assoc, List.append_assoc, ← HXS.out] at h; exact h⟩, HB4⟩
    · have d1 : decide ((i : Int) < (l.length : Int)) = false := decide_eq_false (by omega)
      have HT := Aside0.mk (show l.take i = l from List.take_of_length_le (by omega))
      go_wp2_with fail
      go_ret
      exact ⟨_, rfl, by have h := HO.out; rw [HT.out] at h ⊢; exact h, HB.out⟩

end Go.Proofs.Ytdpigeineephlaa.Nam
namespace Go.Proofs.Ytdpigeineephlaa.Nam
open Go.RowKit Go.Proofs.YtdpigeineephlaaW.PrintWords Go.Proofs.YtdpigeineephlaaW.PrintLast Go.Proofs.YtdpigeineephlaaW.PrintMore Go.Proofs.Ytdpigeineephlaa.Num Go.Proofs.Ytdpigeineephlaa.Prt
set_option linter.unusedVariables false
set_option linter.unusedSimpArgs false

/-- Texts as bytes, with their number. -/
def encL (l : List ByteArray) : List Int := enc (l.length : Int) ++ encTs l
/-- A clause as bytes. -/
def encC (x : S60) : List Int := encL x.f0 ++ encL x.f1
/-- A query as bytes. -/
def encQ (l : List S60) : List Int := enc (l.length : Int) ++ l.flatMap encC
theorem encT_ge (s : ByteArray) : s.size ≤ (encT (bytesOf s)).length := by
  unfold encT
  rw [List.length_append, bytes_length]; omega
theorem strs_calls (A0 : Option Addr) (c0 : Nat) (l0 : List Int) (A : Option Addr) (c : Nat) (l : List ByteArray) (w : World) (hr0 : Kd.C (Kd.int .u8) w A0 l0.length l0) (hc0 : l0.length ≤ c0) (hC : Kd.C Kd.string w A l.length l) (hb : l0.length + (encL l).length ≤ 1000000000000) :
    Calls Try.prog 62 #[.slice A0 l0.length c0, .slice A l.length c, .func (.func 33) #[] #[]] w fun e w' => ∃ v, e = .returned v ∧ Kd.R (Kd.int .u8) 5 w' w.heap.size (fun _ => True) v (l0 ++ encL l) ∧ Below w.heap.size w w' :=
  listStr (fun s => encT (bytesOf s)) 33 A0 c0 l0 A c l w hr0 hc0 hC (by unfold encL encTs at hb; rw [List.length_append] at hb; exact hb) (enters_of Try.func33 (by kernel_rfl) rfl)
    (fun x hx w1 _ A' c' l' h1 h2 h3 => num_PutText.calls A' c' l' x (l' ++ encT (bytesOf x)) w1 h1 h2 (if_pos (by have := encT_ge x; omega)))
def D61.T1 : Bool × List (List Nat × List Nat) := (true, [([], []), ([], []), ([1], [1]), ([0, 2], [0, 2]), ([], []), ([4], [4]), ([3, 5, 3], [3, 5]), ([6, 6, 0, 1, 2, 3, 4, 5, 6], [6])])
def D61.B1 : List Nat := [0, 0, 2, 7, 0, 16, 63, 127]
theorem D61.tab1 : rtab .any (opsOf Try.f61 1) = D61.T1 := by kernel_rfl
theorem D61.bits1 : waitsOk D61.T1.2 D61.B1 = true := by kernel_rfl
theorem put1_calls (A0 : Option Addr) (c0 : Nat) (l0 : List Int) (P0 : Option Addr) (q0 : Nat) (P1 : Option Addr) (q1 : Nat) (x : S60) (w : World) (hr0 : Kd.C (Kd.int .u8) w A0 l0.length l0) (hc0 : l0.length ≤ c0) (h0 : Kd.C Kd.string w P0 x.f0.length x.f0) (h1 : Kd.C Kd.string w P1 x.f1.length x.f1) (hb : l0.length + (encC x).length ≤ 1000000000000) :
    Calls Try.prog 61 #[.slice A0 l0.length c0, .agg #[.slice P0 x.f0.length q0, .slice P1 x.f1.length q1]] w fun e w' => ∃ v, e = .returned v ∧ Kd.R (Kd.int .u8) 5 w' w.heap.size (fun _ => True) v (l0 ++ encC x) ∧ Below w.heap.size w w' := by
  have hu60 := Try.underlying60
  have HR := Aside0.mk hr0
  have HK := Aside0.mk hc0
  have H0 := Aside0.mk h0
  have H1 := Aside0.mk h1
  have HL1 := Aside0.mk (show l0.length + (encL x.f0).length ≤ 1000000000000 by unfold encC at hb; rw [List.length_append] at hb; omega)
  have HL2 := Aside0.mk (show (l0 ++ encL x.f0).length + (encL x.f1).length ≤ 1000000000000 by unfold encC at hb; rw [List.length_append] at hb ⊢; omega)
  clear hr0 hc0 h0 h1 hb
  go_enter Try.func61, Try.ntmps61
  go_upto_region 1 with (first | ((with_reducible refine gate_dst (N := 3) rfl ?_); (try (refine gate_guard (by rfl) ?_; dsimp only)); refine box_event ?hg (N := 3) ?hd (cs := #[.slice P0 x.f0.length q0, .slice P1 x.f1.length q1]) (t := 60) ?hr ?_; (case hd => rfl); (case hg => rfl); (case hr => first | (go_simp; done) | (go_simp; rfl)); intro g hg_ w2 hbox_ hb_; have HBX := Aside0.mk hbox_; have HBN := Aside0.mk hg_; have HBB := Aside0.mk hb_; clear hbox_ hg_ hb_))
  go_wp2_with fail
  have n1_ := Aside0.mk (blk_drew HBX.out)
  have n2_ := Aside0.mk (below_drew1 HBB.out)
  clear HBX HBB
  have HX := n1_
  have HB := n2_
  clear n1_ n2_
  refine start_ (n := 8) (S := fun w' => w'.cell? ⟨g, 0, none⟩ = some (.slice P0 x.f0.length q0) ∧ w'.cell? ⟨g, 1, none⟩ = some (.slice P1 x.f1.length q1)) (ds := []) #[false, false, false, false, false, false, false, false] (by kernel_rfl) rfl rfl ⟨(blk_cell HX.out 0).trans rfl, (blk_cell HX.out 1).trans rfl⟩ (fun hHeld => ?_); refine with_tabW D61.tab1 D61.bits1 (fun HT_ HW_ => ?_)
  generalize World.drew _ = w3 at HX HB hHeld ⊢
  refine pure_ (i := 0) (N := some 5) (v := ?_) (a' := ?_) #[true, false, false, false, false, false, false, false] rfl rfl (any_of HT_.out (by kernel_rfl)) (fun _ _ _ h => h) (Or.inl ⟨by rfl, ?_⟩) ?_ ?_
  rotate_left
  · intro w'
    go_simp
    with_reducible rfl
  rotate_left
  · simp only [Act.put, List.setIfInBounds_toArray, List.set_cons_zero, List.set_cons_succ, i64_w, i32_w]
    rfl
  refine pure_ (i := 1) (N := some 6) (v := ?_) (a' := ?_) #[true, true, false, false, false, false, false, false] rfl rfl (any_of HT_.out (by kernel_rfl)) (fun _ _ _ h => h) (Or.inl ⟨by rfl, ?_⟩) ?_ ?_
  rotate_left
  · intro w'
    go_simp
    with_reducible rfl
  rotate_left
  · simp only [Act.put, List.setIfInBounds_toArray, List.set_cons_zero, List.set_cons_succ, i64_w, i32_w]
    rfl
  refine take_ (i := 2) (N := some 7) (v := ?_) (a' := ?_) #[true, true, true, false, false, false, false, false] rfl rfl (take_ofW HT_.out HW_.out (by kernel_rfl)) (fun _ _ _ h => h) (Or.inl ⟨by rfl, ?_⟩) hHeld ?_ ?_
  rotate_left
  · rintro w' ⟨s0, s1⟩
    go_simp
    with_reducible rfl
  rotate_left
  · simp only [Act.put, List.setIfInBounds_toArray, List.set_cons_zero, List.set_cons_succ, i64_w, i32_w]
    rfl
  refine pure_ (i := 4) (N := some 9) (v := ?_) (a' := ?_) #[true, true, true, false, true, false, false, false] rfl rfl (any_of HT_.out (by kernel_rfl)) (fun _ _ _ h => h) (Or.inl ⟨by rfl, ?_⟩) ?_ ?_
  rotate_left
  · intro w'
    go_simp
    with_reducible rfl
  rotate_left
  · simp only [Act.put, List.setIfInBounds_toArray, List.set_cons_zero, List.set_cons_succ, i64_w, i32_w]
    rfl
  refine take_ (i := 5) (N := some 10) (v := ?_) (a' := ?_) #[true, true, true, false, true, true, false, false] rfl rfl (take_ofW HT_.out HW_.out (by kernel_rfl)) (fun _ _ _ h => h) (Or.inl ⟨by rfl, ?_⟩) hHeld ?_ ?_
  rotate_left
  · rintro w' ⟨s0, s1⟩
    go_simp
    with_reducible rfl
  rotate_left
  · simp only [Act.put, List.setIfInBounds_toArray, List.set_cons_zero, List.set_cons_succ, i64_w, i32_w]
    rfl
  refine one_ (i := 3) (N := some 8) #[true, true, true, true, true, true, false, false] rfl rfl (one_of HT_.out (by kernel_rfl)) (by decide) (fun K hK => ?_)
  refine goes_ Try.func62 (by kernel_rfl) rfl #[.slice A0 l0.length c0, .slice P0 x.f0.length q0, .func (.func 33) #[] #[]] (by rfl) rfl rfl (by (try simp only [List.map_toArray, List.map_cons, List.map_nil]); first | done | rfl) ?_
  with_reducible refine (strs_calls A0 c0 l0 P0 q0 x.f0 w3 (Kd.C_below HR.out HB.out) HK.out (Kd.C_below H0.out HB.out) HL1.out).mono ?_
  rintro e w4 ⟨v4, rfl, ho, hb⟩
  refine ⟨_, rfl, ?_⟩
  obtain ⟨A4, c4, e4⟩ := Kd.R_slice ho
  subst e4
  obtain ⟨-, hc4, hC4⟩ := Kd.R_reads' ho
  have HC4 := Aside0.mk hC4
  have HK4 := Aside0.mk hc4
  have n1_ := Aside0.mk (blk_below HX.out hb)
  have n2_ := Aside0.mk (below_step HB.out hb)
  clear HX HB ho hb hc4 hC4
  have HX := n1_
  have HB := n2_
  clear n1_ n2_
  refine hK.out _ _ ⟨(blk_cell HX.out 0).trans rfl, (blk_cell HX.out 1).trans rfl⟩ (fun hHeld => ?_)
  clear hK K
  refine norm_ (a' := ?_) ?_ ?_
  rotate_left
  · show Act.put _ (some 8) _ = _
    simp only [Act.put, List.setIfInBounds_toArray, List.set_cons_zero, List.set_cons_succ, i64_w, i32_w]
    rfl
  refine one_ (i := 6) (N := some 11) #[true, true, true, true, true, true, true, false] rfl rfl (one_of HT_.out (by kernel_rfl)) (by decide) (fun K hK => ?_)
  refine goes_ Try.func62 (by kernel_rfl) rfl #[.slice A4 (l0 ++ encL x.f0).length c4, .slice P1 x.f1.length q1, .func (.func 33) #[] #[]] (by rfl) rfl rfl (by (try simp only [List.map_toArray, List.map_cons, List.map_nil]); first | done | rfl) ?_
  with_reducible refine (strs_calls A4 c4 (l0 ++ encL x.f0) P1 q1 x.f1 w4 HC4.out HK4.out (Kd.C_below H1.out HB.out) HL2.out).mono ?_
  rintro e w5 ⟨v5, rfl, ho, hb⟩
  refine ⟨_, rfl, ?_⟩
  have HO5 := Aside0.mk (Kd.R_lower ho HB.out.size)
  have n1_ := Aside0.mk (blk_below HX.out hb)
  have n2_ := Aside0.mk (below_step HB.out hb)
  clear HX HB ho hb
  have HX := n1_
  have HB := n2_
  clear n1_ n2_
  refine hK.out _ _ ⟨(blk_cell HX.out 0).trans rfl, (blk_cell HX.out 1).trans rfl⟩ (fun hHeld => ?_)
  clear hK K
  refine norm_ (a' := ?_) ?_ ?_
  rotate_left
  · show Act.put _ (some 11) _ = _
    simp only [Act.put, List.setIfInBounds_toArray, List.set_cons_zero, List.set_cons_succ, i64_w, i32_w]
    rfl
  refine pure_ (i := 7) (N := some 4) (v := ?_) (a' := ?_) #[true, true, true, true, true, true, true, true] rfl rfl (any_of HT_.out (by kernel_rfl)) (fun _ _ _ h => h) (Or.inl ⟨by rfl, ?_⟩) ?_ ?_
  rotate_left
  · intro w'
    go_simp
    with_reducible rfl
  rotate_left
  · simp only [Act.put, List.setIfInBounds_toArray, List.set_cons_zero, List.set_cons_succ, i64_w, i32_w]
    rfl
  refine done_ (by kernel_rfl) ?_
  clear HT_ HW_ hHeld
  go_wp2_with fail
  go_ret
  exact ⟨_, rfl, by have h := HO5.out; rw [List.append_assoc] at h; exact h, HB.out⟩
theorem put_calls7 (A0 : Option Addr) (c0 : Nat) (l0 : List Int) (A : Option Addr) (c : Nat) (l : List S60) (w : World) (hr0 : Kd.C (Kd.int .u8) w A0 l0.length l0) (hc0 : l0.length ≤ c0) (hC : Kd.C k60 w A l.length l) (hb : l0.length + (encQ l).length ≤ 1000000000000) :
    Calls Try.prog 27 #[.slice A0 l0.length c0, .agg #[.slice A l.length c]] w fun e w' => ∃ v, e = .returned v ∧ Kd.R (Kd.int .u8) 5 w' w.heap.size (fun _ => True) v (l0 ++ encQ l) ∧ Below w.heap.size w w' := by
  have hu25 := Try.underlying25
  have HR := Aside0.mk hr0
  have HK := Aside0.mk hc0
  have HC := Aside0.mk hC
  have HL := Aside0.mk (show l0.length + ((enc (l.length : Int)).length + (l.flatMap encC).length) ≤ 1000000000000 by unfold encQ at hb; rw [List.length_append] at hb; exact hb)
  clear hr0 hc0 hC hb
  go_enter Try.func27, Try.ntmps27
  go_wp2_with (first | ((with_reducible refine gate_dst (N := 3) rfl ?_); (try (refine gate_guard (by rfl) ?_; dsimp only)); refine box_event ?hg (N := 3) ?hd (cs := #[.slice A l.length c]) (t := 25) ?hr ?_; (case hd => rfl); (case hg => rfl); (case hr => first | (go_simp; done) | (go_simp; rfl)); intro g hg_ w2 hbox_ hb_; have HBX := Aside0.mk hbox_; have HBN := Aside0.mk hg_; have HBB := Aside0.mk hb_; clear hbox_ hg_ hb_; have hc0 := blk_cell HBX.out 0; have hf0 := blk_frozen HBX.out 0))
  refine (listCla encC 61 A0 c0 l0 A c l w2 (Kd.C_below HR.out HBB.out) HK.out (Kd.C_below HC.out HBB.out) HL.out (enters_of Try.func61 (by kernel_rfl) rfl) (fun x hx w1 _ A' c' l' h1 h2 h3 P0 q0 P1 q1 g0 _ g1 _ => put1_calls A' c' l' P0 q0 P1 q1 x w1 h1 h2 g0 g1 h3)).mono ?_
  rintro e w3 ⟨v, rfl, ho, hb⟩
  have HO := Aside0.mk (Kd.R_lower ho HBB.out.size)
  have HB := Aside0.mk (below_step HBB.out hb)
  clear ho hb
  go_wp2_with fail
  go_ret
  exact ⟨_, rfl, HO.out, HB.out⟩
end Go.Proofs.Ytdpigeineephlaa.Nam
namespace Go.Proofs.Ytdpigeineephlaa.Prt
open Go.RowKit Go.Proofs.YtdpigeineephlaaW.PrintWords Go.Proofs.YtdpigeineephlaaW.PrintLast Go.Proofs.YtdpigeineephlaaW.PrintMore Go.Proofs.Ytdpigeineephlaa.Num Go.Proofs.Ytdpigeineephlaa.Nam
set_option linter.unusedVariables false
set_option linter.unusedSimpArgs false
def qcode_put.f (l0 : List Int) (l1_0 : List S60) : Option (List Int) := if l0.length + (encQ l1_0).length ≤ 1000000000000 then some (l0 ++ encQ l1_0) else none
theorem qcode_put.calls (A0 : Option Addr) (c0 : Nat) (l0 : List Int) (A1_0 : Option Addr) (c1_0 : Nat) (l1_0 : List (S60)) (r : List Int) (w : World) (hr0 : Kd.C (Kd.int .u8) w A0 l0.length l0) (hc0 : l0.length ≤ c0) (hr1_0 : Kd.C k60 w A1_0 l1_0.length l1_0) (hc1_0 : l1_0.length ≤ c1_0) (h : qcode_put.f l0 l1_0 = some r) :
    Calls Try.prog 27 #[.slice A0 l0.length c0, .agg #[.slice A1_0 l1_0.length c1_0]] w fun e w' => ∃ v0_ : Value, e = .returned (v0_) ∧ Kd.R (Kd.int .u8) 5 w' w.heap.size (fun _ => True) v0_ r ∧ Below w.heap.size w w' := by
  unfold qcode_put.f at h
  by_cases hc : l0.length + (encQ l1_0).length ≤ 1000000000000
  · rw [if_pos hc] at h
    obtain rfl := Option.some.inj h
    exact put_calls7 A0 c0 l0 A1_0 c1_0 l1_0 w hr0 hc0 hr1_0 hc
  · rw [if_neg hc] at h; cases h
end Go.Proofs.Ytdpigeineephlaa.Prt
namespace Go.Proofs.Ytdpigeineephlaa.Prt
open Go.RowKit Go.Proofs.YtdpigeineephlaaW.PrintWords Go.Proofs.YtdpigeineephlaaW.PrintLast Go.Proofs.YtdpigeineephlaaW.PrintMore Go.Proofs.Ytdpigeineephlaa.Num Go.Proofs.Ytdpigeineephlaa.Nam
set_option linter.unusedVariables false
set_option linter.unusedSimpArgs false

def name_May.f (a0 : ByteArray) : Option (Bool) := if a0.size ≤ 9223372036854775807 then some (mayL (bytesOf a0)) else none
theorem name_May.calls (a0 : ByteArray) (r : Bool) (w : World) (h : name_May.f a0 = some r) :
    Calls Try.prog 36 #[.string a0] w fun e w' => e = .returned (.bool r) ∧ Below w.heap.size w w' := by
  unfold name_May.f at h
  by_cases hc : a0.size ≤ 9223372036854775807
  · rw [if_pos hc] at h
    obtain rfl := Option.some.inj h
    exact may_calls a0 w hc
  · rw [if_neg hc] at h; cases h
def name_MayTag.f (a0 : ByteArray) : Option (Bool) := if a0.size ≤ 9223372036854775807 then some (tagB a0) else none
theorem name_MayTag.calls (a0 : ByteArray) (r : Bool) (w : World) (h : name_MayTag.f a0 = some r) :
    Calls Try.prog 55 #[.string a0] w fun e w' => e = .returned (.bool r) ∧ Below w.heap.size w w' := by
  unfold name_MayTag.f at h
  by_cases hc : a0.size ≤ 9223372036854775807
  · rw [if_pos hc] at h
    obtain rfl := Option.some.inj h
    exact mayTag_calls a0 w hc
  · rw [if_neg hc] at h; cases h
end Go.Proofs.Ytdpigeineephlaa.Prt
namespace Go.Proofs.Ytdpigeineephlaa.Prt
open Go.RowKit Go.Proofs.YtdpigeineephlaaW.PrintWords Go.Proofs.YtdpigeineephlaaW.PrintLast Go.Proofs.YtdpigeineephlaaW.PrintMore
attribute [local go_sem] max2_int min2_int max_two min_two max_three min_three max_four min_four   -- for this text's walks alone
set_option linter.unusedVariables false
set_option linter.unusedSimpArgs false

def query_May_1.f (l0_0 : List ByteArray) (l0_1 : List ByteArray) : Option (Bool) := if (l0_0.length : Int) > 4 then (some true) else (some (decide ((l0_1.length : Int) > 4)))
set_option maxHeartbeats 8000000 in
set_option maxRecDepth 100000 in
theorem query_May_1.calls (A0_0 : Option Addr) (c0_0 : Nat) (l0_0 : List ByteArray) (A0_1 : Option Addr) (c0_1 : Nat) (l0_1 : List ByteArray) (r : Bool) (w : World) (hr0_0 : Kd.C Kd.string w A0_0 l0_0.length l0_0) (hc0_0 : l0_0.length ≤ c0_0) (hr0_1 : Kd.C Kd.string w A0_1 l0_1.length l0_1) (hc0_1 : l0_1.length ≤ c0_1) (h : query_May_1.f l0_0 l0_1 = some r) :
    Calls Try.prog 51 #[.agg #[.slice A0_0 l0_0.length c0_0, .slice A0_1 l0_1.length c0_1]] w fun e w' => e = .returned (.bool r) ∧ Below w.heap.size w w' := by
  have hu60 := Try.underlying60
  have HR0_0 := Aside0.mk hr0_0
  have HC0_0 := Aside0.mk hc0_0
  clear hr0_0 hc0_0
  have HR0_1 := Aside0.mk hr0_1
  have HC0_1 := Aside0.mk hc0_1
  clear hr0_1 hc0_1
  have HB := Aside0.mk (Below.refl w.heap.size w)
  have H : (if (l0_0.length : Int) > 4 then (some true) else (some (decide ((l0_1.length : Int) > 4)))) = some r := h
  clear h
  by_cases c2 : (l0_0.length : Int) > 4
  · rw [if_pos c2] at H
    have c2b0 : decide (4 < (l0_0.length : Int)) = true := decide_eq_true c2
    have c2b1 : decide (4 < l0_0.length) = true := decide_eq_true (by omega)
    clear c2
    obtain rfl := Option.some.inj H
    go_enter Try.func51, Try.ntmps51
    go_wp2_with (first | ((with_reducible refine gate_dst (N := 1) rfl ?_); (try (refine gate_guard (by rfl) ?_; dsimp only)); refine box_event ?hg (N := 1) ?hd (cs := #[.slice A0_0 l0_0.length c0_0, .slice A0_1 l0_1.length c0_1]) (t := 60) ?hr ?_; (case hd => rfl); (case hg => rfl); (case hr => first | (go_simp; done) | (go_simp; rfl)); intro gb101 hg w3 hbox hb; have n0_ := Aside0.mk (below_step (by repeat (first | (with_reducible first | exact HB.out | apply below_alloc | apply pw_below_drewN | apply below_drew1) | exact HB.out)) hb); have n1_ := Aside0.mk (hbox); have n2_ := Aside0.mk ((by rw [hg]; exact (below_size (by repeat (first | (with_reducible first | exact HB.out | apply below_alloc | apply pw_below_drewN | apply below_drew1) | exact HB.out))) : w.heap.size ≤ gb101)); have n3_ := Aside0.mk ((by rw [hg]; exact (below_size (by repeat (first | (with_reducible first | exact HB.out | apply below_alloc | apply pw_below_drewN | apply below_drew1) | exact HB.out))) : w.heap.size ≤ gb101)); clear HB; have HB := n0_; have BK101 := n1_; have GW101 := n2_; have GE101 := n3_; clear n0_ n1_ n2_ n3_; clear hb hbox hg; have hcz4_0 : w3.cell? ⟨gb101, 0, none⟩ = some (.slice A0_0 l0_0.length c0_0) := (blk_cell BK101.out 0).trans rfl; have hcz4_1 : w3.cell? ⟨gb101, 1, none⟩ = some (.slice A0_1 l0_1.length c0_1) := (blk_cell BK101.out 1).trans rfl; have hfz4_0 := blk_frozen BK101.out 0; have hfz4_1 := blk_frozen BK101.out 1))
    go_ret
    exact ⟨by first | rfl | (simp [errW_none, errW_some] <;> rfl) | (simp [*, errW_none, errW_some] <;> rfl), by repeat (first | (with_reducible first | exact HB.out | apply below_alloc | apply pw_below_drewN | apply below_drew1 | refine below_set ?_ GE101.out) | exact HB.out)⟩
  · rw [if_neg c2] at H
    have c2b0 : decide (4 < (l0_0.length : Int)) = false := decide_eq_false c2
    have c2b1 : decide (4 < l0_0.length) = false := decide_eq_false (by omega)
    clear c2
    obtain rfl := Option.some.inj H
    go_enter Try.func51, Try.ntmps51
    go_wp2_with (first | ((with_reducible refine gate_dst (N := 1) rfl ?_); (try (refine gate_guard (by rfl) ?_; dsimp only)); refine box_event ?hg (N := 1) ?hd (cs := #[.slice A0_0 l0_0.length c0_0, .slice A0_1 l0_1.length c0_1]) (t := 60) ?hr ?_; (case hd => rfl); (case hg => rfl); (case hr => first | (go_simp; done) | (go_simp; rfl)); intro gb101 hg w5 hbox hb; have n0_ := Aside0.mk (below_step (by repeat (first | (with_reducible first | exact HB.out | apply below_alloc | apply pw_below_drewN | apply below_drew1) | exact HB.out)) hb); have n1_ := Aside0.mk (hbox); have n2_ := Aside0.mk ((by rw [hg]; exact (below_size (by repeat (first | (with_reducible first | exact HB.out | apply below_alloc | apply pw_below_drewN | apply below_drew1) | exact HB.out))) : w.heap.size ≤ gb101)); have n3_ := Aside0.mk ((by rw [hg]; exact (below_size (by repeat (first | (with_reducible first | exact HB.out | apply below_alloc | apply pw_below_drewN | apply below_drew1) | exact HB.out))) : w.heap.size ≤ gb101)); clear HB; have HB := n0_; have BK101 := n1_; have GW101 := n2_; have GE101 := n3_; clear n0_ n1_ n2_ n3_; clear hb hbox hg; have hcz6_0 : w5.cell? ⟨gb101, 0, none⟩ = some (.slice A0_0 l0_0.length c0_0) := (blk_cell BK101.out 0).trans rfl; have hcz6_1 : w5.cell? ⟨gb101, 1, none⟩ = some (.slice A0_1 l0_1.length c0_1) := (blk_cell BK101.out 1).trans rfl; have hfz6_0 := blk_frozen BK101.out 0; have hfz6_1 := blk_frozen BK101.out 1))
    go_ret
    exact ⟨by first | rfl | (simp [errW_none, errW_some] <;> rfl) | (simp [*, errW_none, errW_some] <;> rfl), by repeat (first | (with_reducible first | exact HB.out | apply below_alloc | apply pw_below_drewN | apply below_drew1 | refine below_set ?_ GE101.out) | exact HB.out)⟩

end Go.Proofs.Ytdpigeineephlaa.Prt
namespace Go.Proofs.Ytdpigeineephlaa.Prt
open Go.RowKit Go.Proofs.YtdpigeineephlaaW.PrintWords Go.Proofs.YtdpigeineephlaaW.PrintLast Go.Proofs.YtdpigeineephlaaW.PrintMore
attribute [local go_sem] max2_int min2_int max_two min_two max_three min_three max_four min_four   -- for this text's walks alone
set_option linter.unusedVariables false
set_option linter.unusedSimpArgs false

def query_May_2_1.f (a0 : ByteArray) : Option (Bool) := (name_MayTag.f a0).bind fun t102 => (some (!t102))
set_option maxHeartbeats 8000000 in
set_option maxRecDepth 100000 in
theorem query_May_2_1.calls (a0 : ByteArray) (r : Bool) (w : World) (h : query_May_2_1.f a0 = some r) :
    Calls Try.prog 54 #[.string a0] w fun e w' => e = .returned (.bool r) ∧ Below w.heap.size w w' := by
  have HB := Aside0.mk (Below.refl w.heap.size w)
  have H : ((name_MayTag.f a0).bind fun t102 => (some (!t102))) = some r := h
  clear h
  replace H := Option.bind_eq_some_iff.mp H
  obtain ⟨t102, A20, H⟩ := H
  replace H : (some (!t102)) = some r := H
  have A2 := Aside0.mk A20
  clear A20
  obtain rfl := Option.some.inj H
  go_enter Try.func54, Try.ntmps54
  go_wp2_with (first | ((with_reducible refine gate_callee (f := 55) rfl ?_); refine goesL_ (some 4) rfl rfl Try.func55 (by kernel_rfl) rfl #[.string a0] rfl (by (try simp only [List.map_toArray, List.map_cons, List.map_nil]); first | done | rfl | (simp only [List.length_drop, List.length_take]; rfl)) ?_; (with_reducible refine (name_MayTag.calls a0 t102 _ A2.out).mono ?_); rintro e w3 ⟨rfl, hb⟩; refine ⟨_, rfl, ?_⟩; have n0_ := Aside0.mk (below_step (by repeat (first | (with_reducible first | exact HB.out | apply below_alloc | apply pw_below_drewN | apply below_drew1) | exact HB.out)) hb); clear HB; have HB := n0_; clear n0_; (try clear hb); (try clear hb2); (try clear hk); (try clear hi)))
  go_ret
  exact ⟨by first | rfl | (simp [errW_none, errW_some] <;> rfl) | (simp [*, errW_none, errW_some] <;> rfl), by repeat (first | (with_reducible first | exact HB.out | apply below_alloc | apply pw_below_drewN | apply below_drew1) | exact HB.out)⟩

end Go.Proofs.Ytdpigeineephlaa.Prt
namespace Go.Proofs.Ytdpigeineephlaa.Prt
open Go.RowKit Go.Proofs.YtdpigeineephlaaW.PrintWords Go.Proofs.YtdpigeineephlaaW.PrintLast Go.Proofs.YtdpigeineephlaaW.PrintMore
attribute [local go_sem] max2_int min2_int max_two min_two max_three min_three max_four min_four   -- for this text's walks alone
set_option linter.unusedVariables false
set_option linter.unusedSimpArgs false

def query_May_2_2.f (a0 : ByteArray) : Option (Bool) := (name_May.f a0).bind fun t103 => (some (!t103))
set_option maxHeartbeats 8000000 in
set_option maxRecDepth 100000 in
theorem query_May_2_2.calls (a0 : ByteArray) (r : Bool) (w : World) (h : query_May_2_2.f a0 = some r) :
    Calls Try.prog 56 #[.string a0] w fun e w' => e = .returned (.bool r) ∧ Below w.heap.size w w' := by
  have HB := Aside0.mk (Below.refl w.heap.size w)
  have H : ((name_May.f a0).bind fun t103 => (some (!t103))) = some r := h
  clear h
  replace H := Option.bind_eq_some_iff.mp H
  obtain ⟨t103, A20, H⟩ := H
  replace H : (some (!t103)) = some r := H
  have A2 := Aside0.mk A20
  clear A20
  obtain rfl := Option.some.inj H
  go_enter Try.func56, Try.ntmps56
  go_wp2_with (first | ((with_reducible refine gate_callee (f := 36) rfl ?_); refine goesL_ (some 4) rfl rfl Try.func36 (by kernel_rfl) rfl #[.string a0] rfl (by (try simp only [List.map_toArray, List.map_cons, List.map_nil]); first | done | rfl | (simp only [List.length_drop, List.length_take]; rfl)) ?_; (with_reducible refine (name_May.calls a0 t103 _ A2.out).mono ?_); rintro e w3 ⟨rfl, hb⟩; refine ⟨_, rfl, ?_⟩; have n0_ := Aside0.mk (below_step (by repeat (first | (with_reducible first | exact HB.out | apply below_alloc | apply pw_below_drewN | apply below_drew1) | exact HB.out)) hb); clear HB; have HB := n0_; clear n0_; (try clear hb); (try clear hb2); (try clear hk); (try clear hi)))
  go_ret
  exact ⟨by first | rfl | (simp [errW_none, errW_some] <;> rfl) | (simp [*, errW_none, errW_some] <;> rfl), by repeat (first | (with_reducible first | exact HB.out | apply below_alloc | apply pw_below_drewN | apply below_drew1) | exact HB.out)⟩

end Go.Proofs.Ytdpigeineephlaa.Prt
namespace Go.Proofs.Ytdpigeineephlaa.Prt
open Go.RowKit Go.Proofs.YtdpigeineephlaaW.PrintWords Go.Proofs.YtdpigeineephlaaW.PrintLast Go.Proofs.YtdpigeineephlaaW.PrintMore
attribute [local go_sem] max2_int min2_int max_two min_two max_three min_three max_four min_four   -- for this text's walks alone
set_option linter.unusedVariables false
set_option linter.unusedSimpArgs false

def cmp_isNaN_string.f (a0 : ByteArray) : Option (Bool) := some (a0.toList != a0.toList)
set_option maxHeartbeats 8000000 in
set_option maxRecDepth 100000 in
theorem cmp_isNaN_string.calls (a0 : ByteArray) (r : Bool) (w : World) (h : cmp_isNaN_string.f a0 = some r) :
    Calls Try.prog 84 #[.string a0] w fun e w' => e = .returned (.bool r) ∧ Drawn0 w w' := by
  have H : (some (a0.toList != a0.toList)) = some r := h
  clear h
  obtain rfl := Option.some.inj H
  go_enter Try.func84, Try.ntmps84
  go_wp2
  go_ret
  exact ⟨by first | rfl | (simp; done) | (simp [*]; done), by repeat (first | exact Drawn0.refl _ | apply Drawn0.step)⟩

end Go.Proofs.Ytdpigeineephlaa.Prt
namespace Go.Proofs.Ytdpigeineephlaa.Prt
open Go.RowKit Go.Proofs.YtdpigeineephlaaW.PrintWords Go.Proofs.YtdpigeineephlaaW.PrintLast Go.Proofs.YtdpigeineephlaaW.PrintMore
attribute [local go_sem] max2_int min2_int max_two min_two max_three min_three max_four min_four   -- for this text's walks alone
set_option linter.unusedVariables false
set_option linter.unusedSimpArgs false

def cmp_Less_string.f (a0 : ByteArray) (a1 : ByteArray) : Option (Bool) := (cmp_isNaN_string.f a0).bind fun t104 => (if t104 = true then ((cmp_isNaN_string.f a1).bind fun t105 => (if t105 = true then (some (Op.bytesLess a0.toList a1.toList)) else (some true))) else (some (Op.bytesLess a0.toList a1.toList)))
set_option maxHeartbeats 8000000 in
set_option maxRecDepth 100000 in
theorem cmp_Less_string.calls (a0 : ByteArray) (a1 : ByteArray) (r : Bool) (w : World) (h : cmp_Less_string.f a0 a1 = some r) :
    Calls Try.prog 82 #[.string a0, .string a1] w fun e w' => e = .returned (.bool r) ∧ Drawn0 w w' := by
  have H : ((cmp_isNaN_string.f a0).bind fun t104 => (if t104 = true then ((cmp_isNaN_string.f a1).bind fun t105 => (if t105 = true then (some (Op.bytesLess a0.toList a1.toList)) else (some true))) else (some (Op.bytesLess a0.toList a1.toList)))) = some r := h
  clear h
  replace H := Option.bind_eq_some_iff.mp H
  obtain ⟨t104, A30, H⟩ := H
  replace H : (if t104 = true then ((cmp_isNaN_string.f a1).bind fun t105 => (if t105 = true then (some (Op.bytesLess a0.toList a1.toList)) else (some true))) else (some (Op.bytesLess a0.toList a1.toList))) = some r := H
  have A3 := Aside0.mk A30
  clear A30
  by_cases c4 : t104 = true
  · subst c4
    have H1 : ((cmp_isNaN_string.f a1).bind fun t105 => (if t105 = true then (some (Op.bytesLess a0.toList a1.toList)) else (some true))) = some r := by rw [if_pos rfl] at H; exact H
    clear H
    have H := H1
    clear H1
    replace H := Option.bind_eq_some_iff.mp H
    obtain ⟨t105, A50, H⟩ := H
    replace H : (if t105 = true then (some (Op.bytesLess a0.toList a1.toList)) else (some true)) = some r := H
    have A5 := Aside0.mk A50
    clear A50
    by_cases c6 : t105 = true
    · subst c6
      have H1 : (some (Op.bytesLess a0.toList a1.toList)) = some r := by rw [if_pos rfl] at H; exact H
      clear H
      have H := H1
      clear H1
      obtain rfl := Option.some.inj H
      go_enter Try.func82, Try.ntmps82
      go_wp2_with (first | ((with_reducible refine gate_callee (f := 84) rfl ?_); refine goesL_ (some 6) rfl rfl Try.func84 (by kernel_rfl) rfl #[.string a0] rfl (by (try simp only [List.map_toArray, List.map_cons, List.map_nil]); first | done | rfl | (simp only [List.length_drop, List.length_take]; rfl)) ?_; (with_reducible refine (cmp_isNaN_string.calls a0 true _ A3.out).mono ?_); rintro e w' ⟨rfl, ⟨nd, rfl⟩⟩; refine ⟨_, rfl, ?_⟩) | (go_at_call 84; (with_reducible refine (cmp_isNaN_string.calls a1 true _ A5.out).mono ?_); rintro e w' ⟨rfl, ⟨nd, rfl⟩⟩))
      go_ret
      exact ⟨by first | rfl | (simp; done) | (simp [*]; done), by repeat (first | exact Drawn0.refl _ | apply Drawn0.step)⟩
    · replace c6 := Bool.eq_false_iff.mpr c6
      subst c6
      have H1 : (some true) = some r := by rw [if_neg (show ¬ (false = true) by decide)] at H; exact H
      clear H
      have H := H1
      clear H1
      obtain rfl := Option.some.inj H
      go_enter Try.func82, Try.ntmps82
      go_wp2_with (first | ((with_reducible refine gate_callee (f := 84) rfl ?_); refine goesL_ (some 6) rfl rfl Try.func84 (by kernel_rfl) rfl #[.string a0] rfl (by (try simp only [List.map_toArray, List.map_cons, List.map_nil]); first | done | rfl | (simp only [List.length_drop, List.length_take]; rfl)) ?_; (with_reducible refine (cmp_isNaN_string.calls a0 true _ A3.out).mono ?_); rintro e w' ⟨rfl, ⟨nd, rfl⟩⟩; refine ⟨_, rfl, ?_⟩) | (go_at_call 84; (with_reducible refine (cmp_isNaN_string.calls a1 false _ A5.out).mono ?_); rintro e w' ⟨rfl, ⟨nd, rfl⟩⟩))
      go_ret
      exact ⟨by first | rfl | (simp; done) | (simp [*]; done), by repeat (first | exact Drawn0.refl _ | apply Drawn0.step)⟩
  · replace c4 := Bool.eq_false_iff.mpr c4
    subst c4
    have H1 : (some (Op.bytesLess a0.toList a1.toList)) = some r := by rw [if_neg (show ¬ (false = true) by decide)] at H; exact H
    clear H
    have H := H1
    clear H1
    obtain rfl := Option.some.inj H
    go_enter Try.func82, Try.ntmps82
    go_wp2_with (first | ((with_reducible refine gate_callee (f := 84) rfl ?_); refine goesL_ (some 6) rfl rfl Try.func84 (by kernel_rfl) rfl #[.string a0] rfl (by (try simp only [List.map_toArray, List.map_cons, List.map_nil]); first | done | rfl | (simp only [List.length_drop, List.length_take]; rfl)) ?_; (with_reducible refine (cmp_isNaN_string.calls a0 false _ A3.out).mono ?_); rintro e w' ⟨rfl, ⟨nd, rfl⟩⟩; refine ⟨_, rfl, ?_⟩))
    go_ret
    exact ⟨by first | rfl | (simp; done) | (simp [*]; done), by repeat (first | exact Drawn0.refl _ | apply Drawn0.step)⟩

end Go.Proofs.Ytdpigeineephlaa.Prt
namespace Go.Proofs.Ytdpigeineephlaa.Prt
open Go.RowKit Go.Proofs.YtdpigeineephlaaW.PrintWords Go.Proofs.YtdpigeineephlaaW.PrintLast Go.Proofs.YtdpigeineephlaaW.PrintMore
attribute [local go_sem] max2_int min2_int max_two min_two max_three min_three max_four min_four   -- for this text's walks alone
set_option linter.unusedVariables false
set_option linter.unusedSimpArgs false

def slices_IsSorted_string_string.l0 : Nat → List ByteArray → Int → Option (Bool)
  | 0, _, _ => none
  | k + 1, x0, x3 => if x3 > 0 then (if 0 ≤ x3 then (if x3 < (x0.length : Int) then (if 0 ≤ (wrap64 (x3 - 1)) then (if (wrap64 (x3 - 1)) < (x0.length : Int) then ((cmp_Less_string.f (rdOf ByteArray.empty x0 x3) (rdOf ByteArray.empty x0 (wrap64 (x3 - 1)))).bind fun t108 => (if t108 = true then (some false) else (slices_IsSorted_string_string.l0 k x0 (wrap64 (x3 - 1))))) else (none)) else (none)) else (none)) else (none)) else (some true)
def slices_IsSorted_string_string.f (k : Nat) (l0 : List ByteArray) : Option (Bool) := slices_IsSorted_string_string.l0 k l0 (wrap64 ((l0.length : Int) - 1))
set_option maxHeartbeats 8000000 in
set_option maxRecDepth 100000 in
theorem slices_IsSorted_string_string.calls (k : Nat) (A0 : Option Addr) (c0 : Nat) (l0 : List ByteArray) (r : Bool) (w : World) (hr0 : Kd.C Kd.string w A0 l0.length l0) (hc0 : l0.length ≤ c0) (h : slices_IsSorted_string_string.f k l0 = some r) :
    Calls Try.prog 74 #[.slice A0 l0.length c0] w fun e w' => e = .returned (.bool r) ∧ Drawn0 w w' := by
  have HR0 := Aside0.mk hr0
  have HC0 := Aside0.mk hc0
  clear hr0 hc0
  have H : (slices_IsSorted_string_string.l0 k l0 (wrap64 ((l0.length : Int) - 1))) = some r := h
  clear h
  have H' := Aside0.mk H
  clear H
  go_enter Try.func74, Try.ntmps74
  go_wp2
  repeat (go_quiet (fail); try go_wp2)
  go_loopg [3] k (fun kq v3 w' => ∃ (x3_1 : Int), v3 = .int .i64 x3_1 ∧ Aside0 (slices_IsSorted_string_string.l0 kq l0 x3_1 = some r) ∧ Aside0 (kq ≤ k) ∧ Drawn0 w w')
  case atStart => exact ⟨(wrap64 ((l0.length : Int) - 1)), (by first | rfl | (simp; done) | (simp [*]; done)), H', ⟨Nat.le_refl _⟩, by repeat (first | exact Drawn0.refl _ | apply Drawn0.step)⟩
  case round =>
    clear H'
    obtain ⟨x3_1, rfl, HA, HK1, ⟨m1, rfl⟩⟩ := hrel
    cases gk with
    | zero => exact absurd HA.out (by simp [slices_IsSorted_string_string.l0])
    | succ k1 =>
      have H := HA.out
      clear HA
      simp only [slices_IsSorted_string_string.l0] at H
      by_cases c2 : x3_1 > 0
      · rw [if_pos c2] at H
        have c2b0 : decide (0 < x3_1) = true := decide_eq_true c2
        clear c2
        by_cases c3 : 0 ≤ x3_1
        · rw [if_pos c3] at H
          have c3b0 : decide (0 ≤ x3_1) = true := decide_eq_true c3
          clear c3
          by_cases c4 : x3_1 < (l0.length : Int)
          · rw [if_pos c4] at H
            have c4b0 : decide (x3_1 < (l0.length : Int)) = true := decide_eq_true c4
            clear c4
            obtain ⟨ji5, hji5⟩ : ∃ j_ : Int, (wrap64 (x3_1 - 1)) = j_ := ⟨_, rfl⟩
            replace H : (if 0 ≤ (ji5) then (if (ji5) < (l0.length : Int) then ((cmp_Less_string.f (rdOf ByteArray.empty l0 x3_1) (rdOf ByteArray.empty l0 (ji5))).bind fun t108 => (if t108 = true then (some false) else (slices_IsSorted_string_string.l0 k1 l0 ji5))) else (none)) else (none)) = some r := by first | (rw [hji5] at H; exact H) | (simp only [hji5] at H ⊢; exact H)
            have hji5w : (IntKind.i64.wrap (x3_1 - 1)) = ji5 := (i64_w _).trans hji5
            by_cases c6 : 0 ≤ (ji5)
            · rw [if_pos c6] at H
              have c6b0 : decide (0 ≤ (ji5)) = true := decide_eq_true c6
              clear c6
              by_cases c7 : (ji5) < (l0.length : Int)
              · rw [if_pos c7] at H
                have c7b0 : decide ((ji5) < (l0.length : Int)) = true := decide_eq_true c7
                clear c7
                replace H := Option.bind_eq_some_iff.mp H
                obtain ⟨t108, A80, H⟩ := H
                replace H : (if t108 = true then (some false) else (slices_IsSorted_string_string.l0 k1 l0 ji5)) = some r := H
                have A8 := Aside0.mk A80
                clear A80
                by_cases c9 : t108 = true
                · subst c9
                  have H1 : (some false) = some r := by rw [if_pos rfl] at H; exact H
                  clear H
                  have H := H1
                  clear H1
                  obtain rfl := Option.some.inj H
                  have p106 : 0 ≤ (x3_1 : Int) := of_decide_eq_true (by first | (with_reducible assumption) | assumption)
                  have q106 : x3_1 < (l0.length : Int) := of_decide_eq_true (by first | (with_reducible assumption) | assumption)
                  obtain ⟨ad106, e106, hx106_0⟩ := Kd.at_string HR0.out x3_1 p106 q106
                  cases e106
                  replace p106 := eq_true p106
                  replace q106 := eq_true q106
                  have p107 : 0 ≤ ((ji5) : Int) := of_decide_eq_true (by first | (with_reducible assumption) | assumption)
                  have q107 : (ji5) < (l0.length : Int) := of_decide_eq_true (by first | (with_reducible assumption) | assumption)
                  obtain ⟨ad107, e107, hx107_0⟩ := Kd.at_string HR0.out (ji5) p107 q107
                  obtain rfl : ad106 = ad107 := (by injection e107)
                  replace p107 := eq_true p107
                  replace q107 := eq_true q107
                  go_wp2_with (first | (go_at_call 82; (with_reducible refine (cmp_Less_string.calls (rdOf ByteArray.empty l0 x3_1) (rdOf ByteArray.empty l0 (ji5)) true _ A8.out).mono ?_); rintro e w' ⟨rfl, ⟨nd, rfl⟩⟩; (try first | exact ⟨rfl, _, World.drewN_drewN _ _ _⟩ | exact ⟨rfl, _, Eq.trans (World.drewN_drewN _ _ _) (congrArg (World.drewN _) (Nat.add_assoc _ _ _))⟩)))
                  repeat (go_quiet (first | (go_at_call 82; (with_reducible refine (cmp_Less_string.calls (rdOf ByteArray.empty l0 x3_1) (rdOf ByteArray.empty l0 (ji5)) true _ A8.out).mono ?_); rintro e w' ⟨rfl, ⟨nd, rfl⟩⟩; (try first | exact ⟨rfl, _, World.drewN_drewN _ _ _⟩ | exact ⟨rfl, _, Eq.trans (World.drewN_drewN _ _ _) (congrArg (World.drewN _) (Nat.add_assoc _ _ _))⟩))); try go_wp2_with (first | (go_at_call 82; (with_reducible refine (cmp_Less_string.calls (rdOf ByteArray.empty l0 x3_1) (rdOf ByteArray.empty l0 (ji5)) true _ A8.out).mono ?_); rintro e w' ⟨rfl, ⟨nd, rfl⟩⟩; (try first | exact ⟨rfl, _, World.drewN_drewN _ _ _⟩ | exact ⟨rfl, _, Eq.trans (World.drewN_drewN _ _ _) (congrArg (World.drewN _) (Nat.add_assoc _ _ _))⟩))))
                  go_ret
                  exact ⟨by first | rfl | (simp; done) | (simp only [← hji5] <;> (first | rfl | simp)) | (simp [*]; done), by repeat (first | exact Drawn0.refl _ | apply Drawn0.step)⟩
                · replace c9 := Bool.eq_false_iff.mpr c9
                  subst c9
                  have H1 : (slices_IsSorted_string_string.l0 k1 l0 ji5) = some r := by rw [if_neg (show ¬ (false = true) by decide)] at H; exact H
                  clear H
                  have H := H1
                  clear H1
                  have H' := Aside0.mk H
                  clear H
                  have p106 : 0 ≤ (x3_1 : Int) := of_decide_eq_true (by first | (with_reducible assumption) | assumption)
                  have q106 : x3_1 < (l0.length : Int) := of_decide_eq_true (by first | (with_reducible assumption) | assumption)
                  obtain ⟨ad106, e106, hx106_0⟩ := Kd.at_string HR0.out x3_1 p106 q106
                  cases e106
                  replace p106 := eq_true p106
                  replace q106 := eq_true q106
                  have p107 : 0 ≤ ((ji5) : Int) := of_decide_eq_true (by first | (with_reducible assumption) | assumption)
                  have q107 : (ji5) < (l0.length : Int) := of_decide_eq_true (by first | (with_reducible assumption) | assumption)
                  obtain ⟨ad107, e107, hx107_0⟩ := Kd.at_string HR0.out (ji5) p107 q107
                  obtain rfl : ad106 = ad107 := (by injection e107)
                  replace p107 := eq_true p107
                  replace q107 := eq_true q107
                  go_wp2_with (first | (go_at_call 82; (with_reducible refine (cmp_Less_string.calls (rdOf ByteArray.empty l0 x3_1) (rdOf ByteArray.empty l0 (ji5)) false _ A8.out).mono ?_); rintro e w' ⟨rfl, ⟨nd, rfl⟩⟩; (try first | exact ⟨rfl, _, World.drewN_drewN _ _ _⟩ | exact ⟨rfl, _, Eq.trans (World.drewN_drewN _ _ _) (congrArg (World.drewN _) (Nat.add_assoc _ _ _))⟩)))
                  repeat (go_quiet (first | (go_at_call 82; (with_reducible refine (cmp_Less_string.calls (rdOf ByteArray.empty l0 x3_1) (rdOf ByteArray.empty l0 (ji5)) false _ A8.out).mono ?_); rintro e w' ⟨rfl, ⟨nd, rfl⟩⟩; (try first | exact ⟨rfl, _, World.drewN_drewN _ _ _⟩ | exact ⟨rfl, _, Eq.trans (World.drewN_drewN _ _ _) (congrArg (World.drewN _) (Nat.add_assoc _ _ _))⟩))); try go_wp2_with (first | (go_at_call 82; (with_reducible refine (cmp_Less_string.calls (rdOf ByteArray.empty l0 x3_1) (rdOf ByteArray.empty l0 (ji5)) false _ A8.out).mono ?_); rintro e w' ⟨rfl, ⟨nd, rfl⟩⟩; (try first | exact ⟨rfl, _, World.drewN_drewN _ _ _⟩ | exact ⟨rfl, _, Eq.trans (World.drewN_drewN _ _ _) (congrArg (World.drewN _) (Nat.add_assoc _ _ _))⟩))))
                  go_roundg k1
                  case measure => have := HK1.out; omega
                  case rel => exact ⟨(ji5), (by first | rfl | (simp; done) | (simp only [← hji5] <;> (first | rfl | simp)) | (simp [*]; done)), H', ⟨by have := HK1.out; omega⟩, by repeat (first | exact Drawn0.refl _ | apply Drawn0.step)⟩
              · rw [if_neg c7] at H
                exact absurd H (by simp)
            · rw [if_neg c6] at H
              exact absurd H (by simp)
          · rw [if_neg c4] at H
            exact absurd H (by simp)
        · rw [if_neg c3] at H
          exact absurd H (by simp)
      · rw [if_neg c2] at H
        have c2b0 : decide (0 < x3_1) = false := decide_eq_false c2
        clear c2
        obtain rfl := Option.some.inj H
        go_wp2
        repeat (go_quiet (fail); try go_wp2)
        go_ret
        exact ⟨by first | rfl | (simp; done) | (simp [*]; done), by repeat (first | exact Drawn0.refl _ | apply Drawn0.step)⟩

end Go.Proofs.Ytdpigeineephlaa.Prt
namespace Go.Proofs.Ytdpigeineephlaa.Nam
open Go.RowKit Go.Proofs.YtdpigeineephlaaW.PrintWords Go.Proofs.YtdpigeineephlaaW.PrintLast Go.Proofs.YtdpigeineephlaaW.PrintMore Go.Proofs.Ytdpigeineephlaa.Num Go.Proofs.Ytdpigeineephlaa.Prt
set_option linter.unusedVariables false
set_option linter.unusedSimpArgs false

theorem less_tri : ∀ x y : List UInt8, Op.bytesLess x y = true ↔ ¬ (Op.bytesLess y x = true) ∧ x ≠ y
  | [], [] => by simp [Op.bytesLess]
  | _ :: _, [] => by simp [Op.bytesLess]
  | [], _ :: _ => by simp [Op.bytesLess]
  | a :: x, b :: y => by
    have ih := less_tri x y
    simp only [Op.bytesLess, Bool.or_eq_true, Bool.and_eq_true, decide_eq_true_eq, beq_iff_eq, ne_eq, List.cons.injEq, not_or, not_and]
    have h1 : a < b ↔ a.toNat < b.toNat := UInt8.lt_iff_toNat_lt
    have h2 : b < a ↔ b.toNat < a.toNat := UInt8.lt_iff_toNat_lt
    have h3 : a = b ↔ a.toNat = b.toNat := ⟨fun h => by rw [h], UInt8.toNat_inj.1⟩
    have h4 : b = a ↔ b.toNat = a.toNat := ⟨fun h => by rw [h], UInt8.toNat_inj.1⟩
    rw [h1, h2, h3, h4, ih]
    constructor
    · rintro (h | ⟨h, g1, g2⟩)
      · exact ⟨⟨by omega, fun e => by omega⟩, fun e => by omega⟩
      · exact ⟨⟨by omega, fun _ => g1⟩, fun _ => g2⟩
    · rintro ⟨⟨g1, g2⟩, g3⟩
      by_cases e : a.toNat = b.toNat
      · exact .inr ⟨e, g2 e.symm, g3 e⟩
      · exact .inl (by omega)
theorem lessS_iff (a b : ByteArray) : lessS a b = (!lessS b a && decide (a.data.toList ≠ b.data.toList)) := by
  have h := less_tri a.toList b.toList
  unfold lessS
  rw [Bool.eq_iff_iff, h, Bool.and_eq_true, Bool.not_eq_true', decide_eq_true_iff, Lib.toList_data, Lib.toList_data, Bool.not_eq_true]
theorem rise_all (l : List ByteArray) : riseB l = (List.range (l.length - 1)).all fun j => lessS (l.getD j ByteArray.empty) (l.getD (j + 1) ByteArray.empty) := by
  induction l with
  | nil => rfl
  | cons a r ih =>
    cases r with
    | nil => rfl
    | cons b s =>
      rw [riseB, ih]
      simp only [List.length_cons, Nat.add_sub_cancel]
      rw [List.range_succ_eq_map, List.all_cons, List.all_map]
      rfl
/-- No text is less than the one before it. -/
def sortedB (l : List ByteArray) : Bool := (List.range (l.length - 1)).all fun j => !lessS (l.getD (j + 1) ByteArray.empty) (l.getD j ByteArray.empty)
/-- No text is the one before it. -/
def apartB (l : List ByteArray) : Bool := (List.range (l.length - 1)).all fun j => decide ((l.getD j ByteArray.empty).data.toList ≠ (l.getD (j + 1) ByteArray.empty).data.toList)
theorem rise_parts (l : List ByteArray) : riseB l = (sortedB l && apartB l) := by
  unfold sortedB apartB
  rw [rise_all, Bool.eq_iff_iff, Bool.and_eq_true, List.all_eq_true, List.all_eq_true, List.all_eq_true]
  constructor
  · intro h
    refine ⟨fun j hj => ?_, fun j hj => ?_⟩
    · have := h j hj; rw [lessS_iff, Bool.and_eq_true] at this; exact this.1
    · have := h j hj; rw [lessS_iff, Bool.and_eq_true] at this; exact this.2
  · rintro ⟨h1, h2⟩ j hj
    rw [lessS_iff, h1 j hj, h2 j hj]; rfl
theorem less_val (a b : ByteArray) : cmp_Less_string.f a b = some (lessS a b) := by
  unfold cmp_Less_string.f cmp_isNaN_string.f
  simp only [Option.bind_some, bne_self_eq_false, Bool.false_eq_true, if_false]
  rfl
theorem sorted_loop (l : List ByteArray) (hl : l.length ≤ 9223372036854775807) : ∀ (i k : Nat), i + 1 ≤ l.length → i < k → slices_IsSorted_string_string.l0 k l (i : Int) = some ((List.range i).all fun j => !lessS (l.getD (j + 1) ByteArray.empty) (l.getD j ByteArray.empty)) := by
  intro i
  induction i with
  | zero =>
    intro k hi hk
    obtain ⟨k, rfl⟩ : ∃ m, k = m + 1 := ⟨k - 1, by omega⟩
    rw [slices_IsSorted_string_string.l0, if_neg (by omega)]; rfl
  | succ i ih =>
    intro k hi hk
    obtain ⟨k, rfl⟩ : ∃ m, k = m + 1 := ⟨k - 1, by omega⟩
    have e1 : wrap64 (((i + 1 : Nat) : Int) - 1) = (i : Int) := by rw [wrapI (by omega) (by omega)]; omega
    rw [slices_IsSorted_string_string.l0, if_pos (by omega), if_pos (by omega), if_pos (by omega), e1, if_pos (by omega), if_pos (by omega), less_val, List.range_succ, List.all_append]
    simp only [Option.bind_some]
    have e2 : lessS (rdOf ByteArray.empty l ((i + 1 : Nat) : Int)) (rdOf ByteArray.empty l (i : Int)) = lessS (l.getD (i + 1) ByteArray.empty) (l.getD i ByteArray.empty) := rfl
    rw [e2]
    cases hs : lessS (l.getD (i + 1) ByteArray.empty) (l.getD i ByteArray.empty) with
    | true => rw [if_pos rfl]; simp only [List.all_cons, List.all_nil, hs]; simp
    | false => rw [if_neg (by decide), ih k (by omega) (by omega)]; simp only [List.all_cons, List.all_nil, hs]; simp
theorem sorted_val (l : List ByteArray) (hl : l.length ≤ 9223372036854775807) : slices_IsSorted_string_string.f (l.length + 1) l = some (sortedB l) := by
  unfold slices_IsSorted_string_string.f sortedB
  cases h : l.length with
  | zero =>
    have e : wrap64 (((0 : Nat) : Int) - 1) = -1 := by rw [wrapI (by omega) (by omega)]; rfl
    rw [e, slices_IsSorted_string_string.l0, if_neg (by omega)]; rfl
  | succ n =>
    have e : wrap64 (((n + 1 : Nat) : Int) - 1) = (n : Int) := by rw [wrapI (by omega) (by omega)]; omega
    rw [e, sorted_loop l hl n (n + 1 + 1) (by omega) (by omega)]; rfl
/-- Of texts that are all apart none goes. -/
theorem compact_len (l : List ByteArray) : ((Lib.compact (Lib.strsOf (fun i => l.getD i ByteArray.empty) l.length)).length == l.length) = apartB l := by
  obtain ⟨d, hd⟩ : ∃ d, d = (Lib.strsOf (fun i => l.getD i ByteArray.empty) l.length).toArray := ⟨_, rfl⟩
  have hz : ∀ j, j < l.length → d[j]! = (l.getD j ByteArray.empty).data.toList := by
    intro j hj
    rw [hd]
    unfold Lib.strsOf
    simp [hj]
  have e : (Lib.compact (Lib.strsOf (fun i => l.getD i ByteArray.empty) l.length)).length = ((List.range l.length).filter (Lib.keeps d)).length := by
    unfold Lib.compact Lib.compactUpTo
    rw [List.length_map, Lib.strsOf_length, hd]
  rw [e, Bool.eq_iff_iff, beq_iff_eq]
  unfold apartB
  rw [List.all_eq_true]
  have h2 : ((List.range l.length).filter (Lib.keeps d)).length = l.length ↔ ∀ a ∈ List.range l.length, Lib.keeps d a = true := by
    have := List.length_filter_eq_length_iff (p := Lib.keeps d) (l := List.range l.length)
    rwa [List.length_range] at this
  rw [h2]
  unfold Lib.keeps
  constructor
  · intro h j hj
    rw [List.mem_range] at hj
    have h3 := h (j + 1) (List.mem_range.2 (by omega))
    rw [decide_eq_true_iff] at h3 ⊢
    rcases h3 with h3 | h3
    · omega
    · rw [hz (j + 1) (by omega), Nat.add_sub_cancel, hz j (by omega)] at h3
      exact fun e => h3 e.symm
  · intro h j hj
    rw [List.mem_range] at hj
    rw [decide_eq_true_iff]
    by_cases h0 : j = 0
    · exact .inl h0
    · refine .inr ?_
      obtain ⟨i, rfl⟩ : ∃ i, j = i + 1 := ⟨j - 1, by omega⟩
      have h3 := h i (List.mem_range.2 (by omega))
      rw [decide_eq_true_iff] at h3
      rw [hz (i + 1) (by omega), Nat.add_sub_cancel, hz i (by omega)]
      exact fun e => h3 e.symm
end Go.Proofs.Ytdpigeineephlaa.Nam
namespace Go.Proofs.Ytdpigeineephlaa.Nam
open Go.RowKit Go.Proofs.YtdpigeineephlaaW.PrintWords Go.Proofs.YtdpigeineephlaaW.PrintLast Go.Proofs.YtdpigeineephlaaW.PrintMore Go.Proofs.Ytdpigeineephlaa.Num Go.Proofs.Ytdpigeineephlaa.Prt
set_option linter.unusedVariables false
set_option linter.unusedSimpArgs false

theorem cells_of (A : Option Addr) (l : List ByteArray) (w : World) (hC : Kd.C Kd.string w A l.length l) (h0 : 0 < l.length) : ∃ b off, A = some ⟨b, off, none⟩ ∧ ∀ j, j < l.length → w.cell? ⟨b, off + j, none⟩ = some (.string (l.getD j ByteArray.empty)) := by
  obtain ⟨ad, e_, hx⟩ := Kd.at_string hC ((0 : Nat) : Int) (by omega) (by omega)
  subst e_
  obtain ⟨b, off, spot⟩ := ad
  have hs := World.cell?_spot hx
  simp only [Int.toNat_natCast, Addr.add, if_pos rfl] at hs
  subst hs
  refine ⟨b, off, rfl, fun j hj => ?_⟩
  obtain ⟨ad, e_, hx⟩ := Kd.at_string hC (j : Int) (by omega) (by omega)
  cases e_
  rw [Int.toNat_natCast] at hx
  have e : (⟨b, off, none⟩ : Addr).add j = ⟨b, off + j, none⟩ := by
    unfold Addr.add
    by_cases h : j = 0
    · subst h; rfl
    · rw [if_neg h]
  rw [e] at hx
  rw [hx]; rfl
theorem own_slice {w : World} {base n : Nat} {v : Value} {xs : List Value} (h : w.ownsRow base 9 1 v n xs) (hv : v ≠ .slice none 0 0) : ∃ g cap, v = .slice (some ⟨g, 0, none⟩) n cap ∧ base ≤ g ∧ n ≤ cap := by
  rcases h.2 with ⟨e, _⟩ | ⟨g, cap, cur, e, h1, h2, h3, h4, h5, h6⟩
  · exact absurd e hv
  · exact ⟨g, cap, e, h1, h3⟩
theorem rise_calls (A : Option Addr) (c : Nat) (l : List ByteArray) (w : World) (hC : Kd.C Kd.string w A l.length l) (hc : l.length ≤ c) (hl : l.length ≤ 1000000) :
    Calls Try.prog 59 #[.slice A l.length c] w fun e w' => e = .returned (.bool (riseB l)) ∧ Below w.heap.size w w' := by
  have HR := Aside0.mk (rise_parts l)
  have HCL := Aside0.mk (compact_len l)
  have HSO := Aside0.mk (slices_IsSorted_string_string.calls (l.length + 1) A c l (sortedB l) w hC hc (sorted_val l (by omega)))
  have HC := Aside0.mk hC
  clear hC hc
  go_enter Try.func59, Try.ntmps59
  go_wp2_with fail
  refine HSO.out.mono ?_
  rintro e w1 ⟨rfl, hd⟩
  have HB1 := Aside0.mk hd.below
  clear hd HSO
  cases hs : sortedB l with
  | false =>
    have HR2 := Aside0.mk (show riseB l = false by rw [HR.out, hs]; rfl)
    clear hs
    go_wp2
    go_ret
    exact ⟨by rw [HR2.out]; rfl, HB1.out⟩
  | true =>
  have HR2 := Aside0.mk (show riseB l = apartB l by rw [HR.out, hs]; rfl)
  clear hs HR
  by_cases h0 : l.length = 0
  · have HAP := Aside0.mk (show apartB l = true by unfold apartB; rw [h0]; rfl)
    have h0' : (l.length : Int) = 0 := by omega
    cases A with
    | none =>
      have HT1 := Aside0.mk (Try.slices_Clone_string_nil l.length c w1)
      have HT2 := Aside0.mk (Try.slices_Compact_string_empty none 0 w1)
      have d0 : ((0 : Int) == (l.length : Int)) = true := beq_iff_eq.mpr h0'.symm
      clear h0 h0'
      go_wp2_with fail
      refine HT1.out.mono ?_
      rintro e w2 ⟨rfl, rfl⟩
      go_wp2_with fail
      refine HT2.out.mono ?_
      rintro e w3 ⟨rfl, rfl⟩
      go_wp2
      go_ret
      exact ⟨by rw [HR2.out, HAP.out]; rfl, HB1.out⟩
    | some ad =>
      have HT1 : Aside0 (Calls Try.prog 76 #[.slice (some ad) l.length c] w1 fun e w' => ∃ v', e = .returned v' ∧ w'.ownsRow w1.heap.size 9 1 v' 0 [] ∧ v' ≠ .slice none 0 0 ∧ Below w1.heap.size w1 w') := ⟨by rw [h0]; exact Try.slices_Clone_string_zero ad c w1⟩
      have d0 : ((0 : Int) == (l.length : Int)) = true := beq_iff_eq.mpr h0'.symm
      clear h0 h0'
      go_wp2_with fail
      refine HT1.out.mono ?_
      rintro e w2 ⟨v, rfl, ho, hv, hb⟩
      obtain ⟨g, cap, rfl, hg, hcap⟩ := own_slice ho hv
      have HB2 := Aside0.mk (below_step HB1.out hb)
      clear ho hv hb hg
      have HT2 := Aside0.mk (Try.slices_Compact_string_empty (some ⟨g, 0, none⟩) cap w2)
      go_wp2_with fail
      refine HT2.out.mono ?_
      rintro e w3 ⟨rfl, rfl⟩
      go_wp2
      go_ret
      exact ⟨by rw [HR2.out, HAP.out]; rfl, HB2.out⟩
  · obtain ⟨b, off, rfl, hcell⟩ := cells_of A l w1 (Kd.C_below HC.out HB1.out) (by omega)
    have HT1 := Aside0.mk (Try.slices_Clone_string b off l.length c l w1 (Nat.le_refl _) (by omega) hcell)
    clear hcell h0
    go_wp2_with fail
    refine HT1.out.mono ?_
    rintro e w2 ⟨v, rfl, ho, hv, hb⟩
    obtain ⟨g, cap, rfl, hg, hcap⟩ := own_slice ho hv
    have HB2 := Aside0.mk (below_step HB1.out hb)
    have HG := Aside0.mk (show w.heap.size ≤ g from Nat.le_trans HB1.out.size hg)
    have HT2 := Aside0.mk (Try.slices_Compact_string_cells g 0 l.length cap (fun i => l.getD i ByteArray.empty) w2 (by omega) hcap (fun i hi => by
      have h1 := World.ownsRow.cellAt ho i (by omega)
      rw [Nat.zero_add, h1, List.take_length, List.getElem?_map, List.getElem?_eq_getElem hi, List.getD_eq_getElem?_getD, List.getElem?_eq_getElem hi]; rfl) (fun j hj => by rw [Nat.zero_add]; exact World.ownsRow.frozenAt ho j))
    clear ho hv hb hg hcap HT1
    go_wp2_with fail
    refine HT2.out.mono ?_
    rintro e w3 ⟨rfl, q, rfl⟩
    clear HT2
    obtain ⟨m, hm⟩ : ∃ m, m = (Lib.compact (Lib.strsOf (fun i => l.getD i ByteArray.empty) l.length)).length := ⟨_, rfl⟩
    have HM : Aside0 (((m : Int) == (l.length : Int)) = apartB l) := ⟨by
      rw [← HCL.out, ← hm, Bool.eq_iff_iff, beq_iff_eq, beq_iff_eq]; omega⟩
    rw [← hm]
    clear hm
    go_wp2
    go_ret
    exact ⟨by rw [HR2.out, ← HM.out]; rfl, Go.below_setCells HG.out _ _ _ (pw_below_drewN HB2.out q)⟩
end Go.Proofs.Ytdpigeineephlaa.Nam
namespace Go.Proofs.Ytdpigeineephlaa.Prt
open Go.RowKit Go.Proofs.YtdpigeineephlaaW.PrintWords Go.Proofs.YtdpigeineephlaaW.PrintLast Go.Proofs.YtdpigeineephlaaW.PrintMore Go.Proofs.Ytdpigeineephlaa.Num Go.Proofs.Ytdpigeineephlaa.Nam
set_option linter.unusedVariables false
set_option linter.unusedSimpArgs false
def query_rise.f (l0 : List ByteArray) : Option (Bool) := if l0.length ≤ 1000000 then some (riseB l0) else none
theorem query_rise.calls (A0 : Option Addr) (c0 : Nat) (l0 : List ByteArray) (r : Bool) (w : World) (hr0 : Kd.C Kd.string w A0 l0.length l0) (hc0 : l0.length ≤ c0) (h : query_rise.f l0 = some r) :
    Calls Try.prog 59 #[.slice A0 l0.length c0] w fun e w' => e = .returned (.bool r) ∧ Below w.heap.size w w' := by
  unfold query_rise.f at h
  by_cases hc : l0.length ≤ 1000000
  · rw [if_pos hc] at h
    obtain rfl := Option.some.inj h
    exact rise_calls A0 c0 l0 w hr0 hc0 hc
  · rw [if_neg hc] at h; cases h
end Go.Proofs.Ytdpigeineephlaa.Prt
namespace Go.Proofs.Ytdpigeineephlaa.Prt
open Go.RowKit Go.Proofs.YtdpigeineephlaaW.PrintWords Go.Proofs.YtdpigeineephlaaW.PrintLast Go.Proofs.YtdpigeineephlaaW.PrintMore
attribute [local go_sem] max2_int min2_int max_two min_two max_three min_three max_four min_four   -- for this text's walks alone
set_option linter.unusedVariables false
set_option linter.unusedSimpArgs false

def query_May_3.f (l0_0 : List ByteArray) (l0_1 : List ByteArray) : Option (Bool) := (query_rise.f l0_0).bind fun t110 => (if t110 = true then ((query_rise.f l0_1).bind fun t111 => (some (!t111))) else (some true))
set_option maxHeartbeats 8000000 in
set_option maxRecDepth 100000 in
theorem query_May_3.calls (A0_0 : Option Addr) (c0_0 : Nat) (l0_0 : List ByteArray) (A0_1 : Option Addr) (c0_1 : Nat) (l0_1 : List ByteArray) (r : Bool) (w : World) (hr0_0 : Kd.C Kd.string w A0_0 l0_0.length l0_0) (hc0_0 : l0_0.length ≤ c0_0) (hr0_1 : Kd.C Kd.string w A0_1 l0_1.length l0_1) (hc0_1 : l0_1.length ≤ c0_1) (h : query_May_3.f l0_0 l0_1 = some r) :
    Calls Try.prog 58 #[.agg #[.slice A0_0 l0_0.length c0_0, .slice A0_1 l0_1.length c0_1]] w fun e w' => e = .returned (.bool r) ∧ Below w.heap.size w w' := by
  have hu60 := Try.underlying60
  have HR0_0 := Aside0.mk hr0_0
  have HC0_0 := Aside0.mk hc0_0
  clear hr0_0 hc0_0
  have HR0_1 := Aside0.mk hr0_1
  have HC0_1 := Aside0.mk hc0_1
  clear hr0_1 hc0_1
  have HB := Aside0.mk (Below.refl w.heap.size w)
  have H : ((query_rise.f l0_0).bind fun t110 => (if t110 = true then ((query_rise.f l0_1).bind fun t111 => (some (!t111))) else (some true))) = some r := h
  clear h
  replace H := Option.bind_eq_some_iff.mp H
  obtain ⟨t110, A20, H⟩ := H
  replace H : (if t110 = true then ((query_rise.f l0_1).bind fun t111 => (some (!t111))) else (some true)) = some r := H
  have A2 := Aside0.mk A20
  clear A20
  by_cases c3 : t110 = true
  · subst c3
    have H1 : ((query_rise.f l0_1).bind fun t111 => (some (!t111))) = some r := by rw [if_pos rfl] at H; exact H
    clear H
    have H := H1
    clear H1
    replace H := Option.bind_eq_some_iff.mp H
    obtain ⟨t111, A40, H⟩ := H
    replace H : (some (!t111)) = some r := H
    have A4 := Aside0.mk A40
    clear A40
    obtain rfl := Option.some.inj H
    go_enter Try.func58, Try.ntmps58
    go_wp2_with (first | ((with_reducible refine gate_dst (N := 1) rfl ?_); refine box_event ?hg (N := 1) ?hd (cs := #[.slice A0_0 l0_0.length c0_0, .slice A0_1 l0_1.length c0_1]) (t := 60) ?hr ?_; (case hd => rfl); (case hg => rfl); (case hr => first | (go_simp; done) | (go_simp; rfl)); intro gb109 hg w5 hbox hb; have n0_ := Aside0.mk (below_step (by repeat (first | (with_reducible first | exact HB.out | apply below_alloc | apply pw_below_drewN | apply below_drew1) | exact HB.out)) hb); have n1_ := Aside0.mk (hbox); have n2_ := Aside0.mk ((by rw [hg]; exact (below_size (by repeat (first | (with_reducible first | exact HB.out | apply below_alloc | apply pw_below_drewN | apply below_drew1) | exact HB.out))) : w.heap.size ≤ gb109)); have n3_ := Aside0.mk ((by rw [hg]; exact (below_size (by repeat (first | (with_reducible first | exact HB.out | apply below_alloc | apply pw_below_drewN | apply below_drew1) | exact HB.out))) : w.heap.size ≤ gb109)); clear HB; have HB := n0_; have BK109 := n1_; have GW109 := n2_; have GE109 := n3_; clear n0_ n1_ n2_ n3_; clear hb hbox hg; have hcz6_0 : w5.cell? ⟨gb109, 0, none⟩ = some (.slice A0_0 l0_0.length c0_0) := (blk_cell BK109.out 0).trans rfl; have hcz6_1 : w5.cell? ⟨gb109, 1, none⟩ = some (.slice A0_1 l0_1.length c0_1) := (blk_cell BK109.out 1).trans rfl; have hfz6_0 := blk_frozen BK109.out 0; have hfz6_1 := blk_frozen BK109.out 1) | ((with_reducible refine gate_callee (f := 59) rfl ?_); refine goesL_ (some 5) rfl rfl Try.func59 (by kernel_rfl) rfl #[.slice A0_0 l0_0.length c0_0] rfl (by (try simp only [List.map_toArray, List.map_cons, List.map_nil]); first | done | rfl | (simp only [List.length_drop, List.length_take]; rfl)) ?_; (with_reducible refine (query_rise.calls _ _ l0_0 true _ ?side1 ?side2 A2.out).mono ?_); (case side1 => repeat (first | exact (Kd.C_below HR0_0.out HB.out) | (with_reducible refine Kd.C_alloc ?_ _) | (with_reducible refine Kd.C_drewN ?_ _) | (with_reducible refine Kd.C_drew ?_))); (case side2 => exact HC0_0.out); rintro e w7 ⟨rfl, hb⟩; refine ⟨_, rfl, ?_⟩; have n0_ := Aside0.mk (blk_below (g := gb109) (o := .cells #[.slice A0_0 l0_0.length c0_0, .slice A0_1 l0_1.length c0_1] 60 (0, 0)) (by (with_reducible repeat (first | refine blk_drewN ?_ _ | refine blk_drew ?_ | refine blk_alloc ?_ _)); exact BK109.out) hb); have n1_ := Aside0.mk (below_step (by repeat (first | (with_reducible first | exact HB.out | apply below_alloc | apply pw_below_drewN | apply below_drew1 | refine below_set ?_ GE109.out) | exact HB.out)) hb); clear BK109; clear HB; have BK109 := n0_; have HB := n1_; clear n0_ n1_; (try clear hb); (try clear hb2); (try clear hk); (try clear hi); have hcz8_0 : w7.cell? ⟨gb109, 0, none⟩ = some (.slice A0_0 l0_0.length c0_0) := (blk_cell BK109.out 0).trans rfl; have hcz8_1 : w7.cell? ⟨gb109, 1, none⟩ = some (.slice A0_1 l0_1.length c0_1) := (blk_cell BK109.out 1).trans rfl; have hfz8_0 := blk_frozen BK109.out 0; have hfz8_1 := blk_frozen BK109.out 1) | (go_at_call 59; (with_reducible refine (query_rise.calls _ _ l0_1 t111 _ ?side1 ?side2 A4.out).mono ?_); (case side1 => repeat (first | exact (Kd.C_below HR0_1.out HB.out) | (with_reducible refine Kd.C_alloc ?_ _) | (with_reducible refine Kd.C_drewN ?_ _) | (with_reducible refine Kd.C_drew ?_))); (case side2 => exact HC0_1.out); rintro e w9 ⟨rfl, hb⟩; have n0_ := Aside0.mk (blk_below (g := gb109) (o := .cells #[.slice A0_0 l0_0.length c0_0, .slice A0_1 l0_1.length c0_1] 60 (0, 0)) (by (with_reducible repeat (first | refine blk_drewN ?_ _ | refine blk_drew ?_ | refine blk_alloc ?_ _)); exact BK109.out) hb); have n1_ := Aside0.mk (below_step (by repeat (first | (with_reducible first | exact HB.out | apply below_alloc | apply pw_below_drewN | apply below_drew1 | refine below_set ?_ GE109.out) | exact HB.out)) hb); clear BK109; clear HB; have BK109 := n0_; have HB := n1_; clear n0_ n1_; (try clear hb); (try clear hb2); (try clear hk); (try clear hi)))
    go_ret
    exact ⟨by first | rfl | (simp [errW_none, errW_some] <;> rfl) | (simp [*, errW_none, errW_some] <;> rfl), by repeat (first | (with_reducible first | exact HB.out | apply below_alloc | apply pw_below_drewN | apply below_drew1 | refine below_set ?_ GE109.out) | exact HB.out)⟩
  · replace c3 := Bool.eq_false_iff.mpr c3
    subst c3
    have H1 : (some true) = some r := by rw [if_neg (show ¬ (false = true) by decide)] at H; exact H
    clear H
    have H := H1
    clear H1
    obtain rfl := Option.some.inj H
    go_enter Try.func58, Try.ntmps58
    go_wp2_with (first | ((with_reducible refine gate_dst (N := 1) rfl ?_); refine box_event ?hg (N := 1) ?hd (cs := #[.slice A0_0 l0_0.length c0_0, .slice A0_1 l0_1.length c0_1]) (t := 60) ?hr ?_; (case hd => rfl); (case hg => rfl); (case hr => first | (go_simp; done) | (go_simp; rfl)); intro gb109 hg w10 hbox hb; have n0_ := Aside0.mk (below_step (by repeat (first | (with_reducible first | exact HB.out | apply below_alloc | apply pw_below_drewN | apply below_drew1) | exact HB.out)) hb); have n1_ := Aside0.mk (hbox); have n2_ := Aside0.mk ((by rw [hg]; exact (below_size (by repeat (first | (with_reducible first | exact HB.out | apply below_alloc | apply pw_below_drewN | apply below_drew1) | exact HB.out))) : w.heap.size ≤ gb109)); have n3_ := Aside0.mk ((by rw [hg]; exact (below_size (by repeat (first | (with_reducible first | exact HB.out | apply below_alloc | apply pw_below_drewN | apply below_drew1) | exact HB.out))) : w.heap.size ≤ gb109)); clear HB; have HB := n0_; have BK109 := n1_; have GW109 := n2_; have GE109 := n3_; clear n0_ n1_ n2_ n3_; clear hb hbox hg; have hcz11_0 : w10.cell? ⟨gb109, 0, none⟩ = some (.slice A0_0 l0_0.length c0_0) := (blk_cell BK109.out 0).trans rfl; have hcz11_1 : w10.cell? ⟨gb109, 1, none⟩ = some (.slice A0_1 l0_1.length c0_1) := (blk_cell BK109.out 1).trans rfl; have hfz11_0 := blk_frozen BK109.out 0; have hfz11_1 := blk_frozen BK109.out 1) | ((with_reducible refine gate_callee (f := 59) rfl ?_); refine goesL_ (some 5) rfl rfl Try.func59 (by kernel_rfl) rfl #[.slice A0_0 l0_0.length c0_0] rfl (by (try simp only [List.map_toArray, List.map_cons, List.map_nil]); first | done | rfl | (simp only [List.length_drop, List.length_take]; rfl)) ?_; (with_reducible refine (query_rise.calls _ _ l0_0 false _ ?side1 ?side2 A2.out).mono ?_); (case side1 => repeat (first | exact (Kd.C_below HR0_0.out HB.out) | (with_reducible refine Kd.C_alloc ?_ _) | (with_reducible refine Kd.C_drewN ?_ _) | (with_reducible refine Kd.C_drew ?_))); (case side2 => exact HC0_0.out); rintro e w12 ⟨rfl, hb⟩; refine ⟨_, rfl, ?_⟩; have n0_ := Aside0.mk (blk_below (g := gb109) (o := .cells #[.slice A0_0 l0_0.length c0_0, .slice A0_1 l0_1.length c0_1] 60 (0, 0)) (by (with_reducible repeat (first | refine blk_drewN ?_ _ | refine blk_drew ?_ | refine blk_alloc ?_ _)); exact BK109.out) hb); have n1_ := Aside0.mk (below_step (by repeat (first | (with_reducible first | exact HB.out | apply below_alloc | apply pw_below_drewN | apply below_drew1 | refine below_set ?_ GE109.out) | exact HB.out)) hb); clear BK109; clear HB; have BK109 := n0_; have HB := n1_; clear n0_ n1_; (try clear hb); (try clear hb2); (try clear hk); (try clear hi)))
    go_ret
    exact ⟨by first | rfl | (simp [errW_none, errW_some] <;> rfl) | (simp [*, errW_none, errW_some] <;> rfl), by repeat (first | (with_reducible first | exact HB.out | apply below_alloc | apply pw_below_drewN | apply below_drew1 | refine below_set ?_ GE109.out) | exact HB.out)⟩

end Go.Proofs.Ytdpigeineephlaa.Prt
