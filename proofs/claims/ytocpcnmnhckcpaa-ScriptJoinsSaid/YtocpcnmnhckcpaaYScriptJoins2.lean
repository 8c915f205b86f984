/- The common imports of the walks of this seat; no theorem. General lemmas for the walks: make with a capacity of its own. Numbers and texts as bytes: the plain functions (no program in sight). Strings and lists of bytes. Walks of package num: the functions that lay numbers down. The reference's text behind bytes: its walk. Walks of package num and of its reference: the readers. Walks of package num and of its reference: texts taken. Functions of the program, told as plain functions, with their walks: written by a program of this claim's out of the translation. Names as lists of bytes: what is a name, and what runes Go's decoder makes of its bytes; what the reference's functions come to. Whether a text is a name, or a tag: what the program's functions answer. Predicates over rows: plain laws. Rows of texts that rise; tags. The contracts of numbers and texts as bytes, in the form that the printed functions ask. Texts as bytes, one behind the other. The reference's names, in closed form. The reference's tags, in closed form. The reference's rows of texts: they rise, they are the same: in closed form. What readers take, in plain words; rows beside a reader. bytes.Equal. strings.Builder: WriteByte, WriteString, String. evcode.times: a closure, called as many times as a number tells. What stands in memory while an event is taken. The closures of evcode.Take: a tag, a field is taken. Predicates over rows: slices.ContainsFunc at a closure; the closures of event.May. -/
import Derived.Test.YtocpcnmnhckcpaaProg
import Derived.Below
import Derived.Deep.Draws
import Derived.Deep.AppendLies
import Derived.Maps.AppendAt
import Derived.OwnWalk
import Derived.Laws.BytesArg
import Derived.Laws.MakeOwn
import Derived.Laws.OwnMore
import Derived.Deep.OwnRows
import Derived.Tactics
import Derived.Lib.ConvBytes
import Derived.Laws.Slices
import Derived.WalkKit
import Derived.KernelRfl
import Derived.RowKit3
import Derived.Deep.LoopGhost
import Derived.Deep.QuietTactic
import Derived.BigQuiet
import Derived.WideLaws
import Derived.Deep.DeepCutAuto
import Derived.Deep.CutBlock
import Derived.Deep.RegionHeld3
import Derived.Laws.Rows
import Derived.Lib.AppendStr
import Derived.ArgAppend
import Derived.Laws.IdiomCopy
import Derived.OrdersHeld
import Derived.Laws.BitsLemmas
import Derived.RowKit
import Derived.Outline
import Derived.Laws.BitsAllLaws
import Derived.Laws.StructEq
import Derived.Laws.Cover1
import Derived.Test.YtocpcnmnhckcpaaShelf
import Derived.Lib.OthersKept
import Derived.Shelf.Abstract
import Derived.Test.YtocpcnmnhckcpaaYScriptJoins1

namespace Go.Proofs.Ytocpcnmnhckcpaa.Gen
open Go.RowKit Go.Proofs.YtocpcnmnhckcpaaW.PrintWords Go.Proofs.YtocpcnmnhckcpaaW.PrintLast Go.Proofs.YtocpcnmnhckcpaaW.PrintMore
set_option linter.unusedVariables false
set_option linter.unusedSimpArgs false

section
variable {P : Program} {ops : Array Oper} {rest : List Oper} {o : Oper} {a : Act} {Q : Exit → Act → World → Prop} {α : Type}
/-- make([]T, n, c): n elements, each z0. -/
theorem R_makeCap (d : Kd α) {w0 W : World} (base e : Nat) (hgd : o.guard = none) (t : TypeId) (x y : Operand) (ho : o.op = .makeSlice t x y) (n c : Int) (hx : a.eval x = .int .i64 n) (hy : a.eval y = .int .i64 c)
    (ht : P.underlying t = some (.slice e)) (z : Value) (bytes : Nat) (hinfo : (P.info? e).map (fun i => (i.zero, i.size, i.bytes)) = some (some z, d.sz, bytes)) (hz : z.cells.size = d.sz) (hs0 : 0 < d.sz) (hb0 : 0 < bytes)
    (z0 : α) (hzero : ∀ W' base' ok', d.M W' base' ok' z0 z.cells.toList) (h0 : 0 ≤ n) (hnc : n ≤ c) (hl : c.toNat * bytes ≤ 281474976710656) (HB : Below base w0 W) (hbase : base ≤ W.heap.size)
    (h : ∀ v1 w1, d.R e w1 W.heap.size (fun _ => True) v1 (List.replicate n.toNat z0) → Below base w0 w1 → W.grownBy w1 none → (∃ b, v1.ownBlock = some b ∧ W.heap.size ≤ b) → wpList P ops Q rest (a.put o.dst v1) w1) : wpList P ops Q (o :: rest) a W := by
  obtain ⟨m, rfl⟩ := Int.eq_ofNat_of_zero_le h0
  obtain ⟨k, rfl⟩ := Int.eq_ofNat_of_zero_le (Int.le_trans h0 hnc)
  simp only [Int.toNat_natCast] at hl h
  have hmk : m ≤ k := by omega
  obtain ⟨i0, hi, hzz⟩ := Option.map_eq_some_iff.1 hinfo
  simp only [Prod.mk.injEq] at hzz
  obtain ⟨hz0, hz1, hz2⟩ := hzz
  have hm : k ≤ 281474976710656 := Nat.le_trans (Nat.le_mul_of_pos_right _ hb0) hl
  have hr := run_make (P := P) W t e i0 z ht hi hz0 .i64 .i64 (m : Int) (k : Int) (by omega) (by omega)
    (by
      have h3 : ((i0.bytes * k : Nat) : Int) ≤ 281474976710656 := by rw [hz2, Nat.mul_comm]; omega
      rwa [Int.natCast_mul] at h3) (by omega)
  simp only [Int.toNat_natCast] at hr
  rw [hz1] at hr
  refine Kd.event_run hgd (by simp [execOp, ho, hx, hy, hr]; exact ⟨rfl, rfl⟩) (h _ _ ⟨fun _ _ => trivial, (madeCells z.cells (m * d.sz)).toList, ?_, ?_⟩ (HB.alloc hbase _) (World.grownBy_alloc W _ none) ⟨W.heap.size, by simp [Value.ownBlock], Nat.le_refl _⟩)
  · rw [List.length_replicate]
    refine ⟨by simp [size_madeCells], .inr ⟨W.heap.size, k, madeCells z.cells (k * d.sz), rfl, Nat.le_refl _, heap_alloc_new W _, hmk, by simp only [maxLen]; omega, size_madeCells _ _, ?_⟩⟩
    have hle : m * d.sz ≤ k * d.sz := Nat.mul_le_mul_right _ hmk
    apply List.ext_getElem
    · simp only [List.length_take, Array.length_toList, size_madeCells]; omega
    · intro i h1 h2
      simp [madeCells]
  · exact Kd.reps_made hz hs0 (hzero _ _ _) m
/-- append(v, s...), s a string. -/
theorem R_append_str {w0 W : World} (base : Nat) (hgd : o.guard = none) (s x : Operand) (t u e : TypeId)
    (ho : o.op = .call { callee := .builtin .append, args := #[s, x], argTypes := #[t, u] })
    (ht : P.underlying t = some (.slice e)) (hu : P.underlying u = some .string) (hinfo : (P.info? e).map (fun i => (i.zero, i.size, i.bytes)) = some (some (.int .u8 0), 1, 1))
    (v : Value) (xs : List Int) (y : ByteArray) (hs : a.eval s = v) (hx : a.eval x = .string y)
    (HO : (Kd.int .u8).R e W base (fun _ => True) v xs) (HB : Below base w0 W) (hbase : base ≤ W.heap.size) (hl : xs.length + y.size ≤ 140737488355328)
    (h : ∀ v1 w1, (Kd.int .u8).R e w1 base (fun _ => True) v1 (xs ++ bytesOf y) → Below base w0 w1 → W.grownBy w1 v.ownBlock → wpList P ops Q rest (a.put o.dst v1) w1) :
    wpList P ops Q (o :: rest) a W :=
  print_append_str base hgd s x t u e ho ht hu hinfo v xs y hs hx (Kd.own_of_R HO) HB hbase hl (fun v1 w1 hw hb hg => h v1 w1 (Kd.R_of_own hw (fun _ _ => trivial)) hb hg)
/-- string(b) -/
theorem ev_string {W : World} (hgd : o.guard = none) (src dst e : TypeId) (x : Operand) (ho : o.op = .convert src dst x) (hs : P.underlying src = some (.slice e)) (hd : P.underlying dst = some .string) (he : P.underlying e = some (.int .u8))
    {A : Option Addr} {n c : Nat} {xs : List Int} (hx : a.eval x = .slice A n c) (HR : (Kd.int .u8).C W A n xs)
    (h : wpList P ops Q rest (a.put o.dst (.string (strOfNums xs))) W) :
    wpList P ops Q (o :: rest) a W := by
  refine Kd.event_run hgd (v := .string (strOfNums xs)) (w1 := W) ?_ h
  have hr := Kd.C_string (P := P) (c := c) hs he hd HR
  simp [execOp, ho, hx, hr]
/-- string(b), told as the string that it is. -/
theorem ev_string' {W : World} (s : ByteArray) (hgd : o.guard = none) (src dst e : TypeId) (x : Operand) (ho : o.op = .convert src dst x) (hs : P.underlying src = some (.slice e)) (hd : P.underlying dst = some .string) (he : P.underlying e = some (.int .u8))
    {A : Option Addr} {n c : Nat} {xs : List Int} (hx : a.eval x = .slice A n c) (HR : (Kd.int .u8).C W A n xs) (hS : strOfNums xs = s)
    (h : wpList P ops Q rest (a.put o.dst (.string s)) W) :
    wpList P ops Q (o :: rest) a W := by
  subst hS; exact ev_string hgd src dst e x ho hs hd he hx HR h
end
end Go.Proofs.Ytocpcnmnhckcpaa.Gen
namespace Go.Proofs.Ytocpcnmnhckcpaa.Num

/-- A number from 0 on, seven bits at a time. -/
def encN (u : Nat) : List Int := if h : u < 128 then [(u : Int)] else ((u % 128 + 128 : Nat) : Int) :: encN (u / 128)
termination_by u
decreasing_by omega
def zz (x : Int) : Nat := if x < 0 then (2 * (-(x + 1)) + 1).toNat else (2 * x).toNat
def unzz (u : Nat) : Int := if u % 2 = 1 then -((u / 2 : Nat) : Int) - 1 else ((u / 2 : Nat) : Int)
/-- A number's bytes. -/
def enc (x : Int) : List Int := encN (zz x)
/-- A text's bytes. -/
def encT (s : List Int) : List Int := enc s.length ++ s
/-- From digit i on. -/
def decU : Nat → List Int → Option (Nat × List Int)
  | _, [] => none
  | i, c :: r => if 10 ≤ i then none else if 128 ≤ c then (decU (i + 1) r).bind fun q => some (q.1 * 128 + (c - 128).toNat, q.2) else if c = 0 ∧ 0 < i ∨ i = 9 ∧ 1 < c then none else some (c.toNat, r)
def dec (b : List Int) : Option (Int × List Int) := (decU 0 b).bind fun q => some (unzz q.1, q.2)
def decT (b : List Int) : Option (List Int × List Int) := (dec b).bind fun q => if q.1 < 0 ∨ (q.2.length : Int) < q.1 then none else some (q.2.take q.1.toNat, q.2.drop q.1.toNat)
def isBytes (b : List Int) : Prop := ∀ c ∈ b, 0 ≤ c ∧ c < 256

theorem encN_lt {u : Nat} (h : u < 128) : encN u = [(u : Int)] := by rw [encN, dif_pos h]
theorem encN_ge {u : Nat} (h : 128 ≤ u) : encN u = ((u % 128 + 128 : Nat) : Int) :: encN (u / 128) := by rw [encN, dif_neg (by omega)]
theorem encN_len (n : Nat) : ∀ u, u < 128 ^ (n + 1) → (encN u).length ≤ n + 1 := by
  induction n with
  | zero => intro u hu; rw [encN_lt (by simpa using hu)]; simp
  | succ n ih =>
    intro u hu
    by_cases h : u < 128
    · rw [encN_lt h]; simp
    · rw [encN_ge (by omega)]
      have := ih (u / 128) (by rw [Nat.div_lt_iff_lt_mul (by decide)]; rw [Nat.pow_succ] at hu; exact hu)
      simp only [List.length_cons]; omega
theorem encN_len10 {u : Nat} (h : u < 18446744073709551616) : (encN u).length ≤ 10 := encN_len 9 u (Nat.lt_of_lt_of_le h (by decide))
theorem encN_bytes : ∀ u, isBytes (encN u) := by
  intro u
  induction u using Nat.strongRecOn with
  | ind u ih =>
    by_cases hu : u < 128
    · rw [encN_lt hu]; intro c hc; rw [List.mem_singleton.1 hc]; omega
    · rw [encN_ge (by omega)]
      intro c hc
      rcases List.mem_cons.1 hc with rfl | hc
      · omega
      · exact ih _ (by omega) c hc

theorem decU_enc : ∀ (u i : Nat) (r : List Int), i < 10 → u < 2 * 128 ^ (9 - i) → (i = 0 ∨ 0 < u) → decU i (encN u ++ r) = some (u, r) := by
  intro u
  induction u using Nat.strongRecOn with
  | ind u ih =>
    intro i r hi hu h0
    by_cases h : u < 128
    · rw [encN_lt h, List.singleton_append, decU, if_neg (by omega), if_neg (by omega), if_neg ?_]
      · simp
      · rintro (⟨h1, h2⟩ | ⟨rfl, h2⟩)
        · omega
        · simp at hu; omega
    · have hi9 : i ≤ 8 := by
        rcases Nat.lt_or_ge i 9 with h1 | h1
        · omega
        · obtain rfl : i = 9 := by omega
          simp at hu; omega
      rw [encN_ge (by omega), List.cons_append, decU, if_neg (by omega), if_pos (by omega), ih (u / 128) (by omega) (i + 1) r (by omega) ?_ (.inr (by omega))]
      · simp only [Option.bind_some, Option.some.injEq, Prod.mk.injEq, and_true]; omega
      · have e : 9 - i = (9 - (i + 1)) + 1 := by omega
        rw [e, Nat.pow_succ] at hu
        omega
theorem decU_sound : ∀ (b : List Int) (i u : Nat) (r : List Int), isBytes b → decU i b = some (u, r) → b = encN u ++ r ∧ i < 10 ∧ u < 2 * 128 ^ (9 - i) ∧ (i = 0 ∨ 0 < u) := by
  intro b
  induction b with
  | nil => intro i u r _ h; simp [decU] at h
  | cons c b ih =>
    intro i u r hb h
    have hc := hb c List.mem_cons_self
    have hb' : isBytes b := fun x hx => hb x (List.mem_cons_of_mem _ hx)
    rw [decU] at h
    by_cases h1 : 10 ≤ i
    · rw [if_pos h1] at h; simp at h
    rw [if_neg h1] at h
    by_cases h2 : 128 ≤ c
    · rw [if_pos h2] at h
      obtain ⟨⟨v, r'⟩, hq, he⟩ := Option.bind_eq_some_iff.1 h
      simp only [Option.some.injEq, Prod.mk.injEq] at he
      obtain ⟨rfl, rfl⟩ := he
      obtain ⟨g1, g2, g3, g4⟩ := ih (i + 1) v r' hb' hq
      have hv : 0 < v := by omega
      have hv2 : v < 2 * 128 ^ (9 - (i + 1)) := g3
      have e : 9 - i = (9 - (i + 1)) + 1 := by omega
      refine ⟨?_, by omega, ?_, .inr (by omega)⟩
      · rw [encN_ge (by omega), g1]
        have h3 : (v * 128 + (c - 128).toNat) / 128 = v := by omega
        have h4 : (((v * 128 + (c - 128).toNat) % 128 + 128 : Nat) : Int) = c := by omega
        rw [h3, h4]; simp
      · rw [e, Nat.pow_succ]; omega
    · rw [if_neg h2] at h
      by_cases h3 : c = 0 ∧ 0 < i ∨ i = 9 ∧ 1 < c
      · rw [if_pos h3] at h; simp at h
      · rw [if_neg h3] at h
        simp only [Option.some.injEq, Prod.mk.injEq] at h
        obtain ⟨rfl, rfl⟩ := h
        refine ⟨?_, by omega, ?_, by omega⟩
        · rw [encN_lt (by omega)]; simp; omega
        · rcases Nat.lt_or_ge i 9 with h5 | h5
          · have e : 9 - i = (8 - i) + 1 := by omega
            have hp : 1 ≤ 128 ^ (8 - i) := Nat.pos_of_ne_zero (by simp)
            rw [e, Nat.pow_succ]; omega
          · obtain rfl : i = 9 := by omega
            simp; omega
theorem zz_lt {x : Int} (h1 : -9223372036854775808 ≤ x) (h2 : x ≤ 9223372036854775807) : zz x < 18446744073709551616 := by unfold zz; split <;> omega
theorem unzz_zz (x : Int) : unzz (zz x) = x := by
  unfold unzz zz
  split <;> split <;> omega
theorem zz_unzz (u : Nat) : zz (unzz u) = u := by
  unfold unzz zz
  split <;> split <;> omega
theorem unzz_range {u : Nat} (h : u < 18446744073709551616) : -9223372036854775808 ≤ unzz u ∧ unzz u ≤ 9223372036854775807 := by unfold unzz; split <;> omega
def i64 (x : Int) : Prop := -9223372036854775808 ≤ x ∧ x ≤ 9223372036854775807

theorem enc_len {x : Int} (h : i64 x) : (enc x).length ≤ 10 := encN_len10 (zz_lt h.1 h.2)
theorem enc_bytes (x : Int) : isBytes (enc x) := encN_bytes _
theorem dec_enc {x : Int} (h : i64 x) (r : List Int) : dec (enc x ++ r) = some (x, r) := by
  unfold dec enc
  rw [decU_enc (zz x) 0 r (by omega) (Nat.lt_of_lt_of_le (zz_lt h.1 h.2) (by decide)) (.inl rfl)]
  simp [unzz_zz]
theorem dec_sound {b r : List Int} {x : Int} (hb : isBytes b) (h : dec b = some (x, r)) : b = enc x ++ r ∧ i64 x := by
  unfold dec at h
  obtain ⟨⟨u, r'⟩, hq, he⟩ := Option.bind_eq_some_iff.1 h
  simp only [Option.some.injEq, Prod.mk.injEq] at he
  obtain ⟨rfl, rfl⟩ := he
  obtain ⟨g1, _, g3, _⟩ := decU_sound b 0 u r' hb hq
  refine ⟨by unfold enc; rw [zz_unzz]; exact g1, unzz_range (Nat.lt_of_lt_of_le g3 (by decide))⟩
theorem isBytes_append {a b : List Int} : isBytes (a ++ b) ↔ isBytes a ∧ isBytes b := by
  unfold isBytes
  constructor
  · exact fun h => ⟨fun c hc => h c (List.mem_append_left _ hc), fun c hc => h c (List.mem_append_right _ hc)⟩
  · rintro ⟨h1, h2⟩ c hc
    rcases List.mem_append.1 hc with hc | hc
    · exact h1 c hc
    · exact h2 c hc
theorem decT_encT {s : List Int} (hs : s.length ≤ 9223372036854775807) (r : List Int) : decT (encT s ++ r) = some (s, r) := by
  unfold decT encT
  rw [List.append_assoc, dec_enc ⟨by omega, by omega⟩]
  simp only [Option.bind_some]
  rw [if_neg (by simp; omega)]
  simp
theorem decT_sound {b s r : List Int} (hb : isBytes b) (h : decT b = some (s, r)) : b = encT s ++ r ∧ s.length ≤ 9223372036854775807 := by
  unfold decT at h
  obtain ⟨⟨n, r'⟩, hq, he⟩ := Option.bind_eq_some_iff.1 h
  obtain ⟨g1, g2, g3⟩ := dec_sound hb hq
  simp only at he
  by_cases h1 : n < 0 ∨ (r'.length : Int) < n
  · rw [if_pos h1] at he; simp at he
  · rw [if_neg h1] at he
    simp only [Option.some.injEq, Prod.mk.injEq] at he
    obtain ⟨rfl, rfl⟩ := he
    have hl : (r'.take n.toNat).length = n.toNat := by rw [List.length_take]; omega
    refine ⟨?_, by omega⟩
    unfold encT
    rw [hl, List.append_assoc, List.take_append_drop, g1]
    congr 2; omega

theorem xor_ones (a : Nat) (h : a < 18446744073709551616) : a ^^^ 18446744073709551615 = 18446744073709551615 - a := by
  have h1 : 18446744073709551615 = 2 ^ 64 - 1 := by decide
  apply Nat.eq_of_testBit_eq
  intro i
  rw [Nat.testBit_xor, h1, Nat.testBit_two_pow_sub_one, show 2 ^ 64 - 1 - a = 2 ^ 64 - (a + 1) from by omega, Nat.testBit_two_pow_sub_succ (by simpa using h)]
  by_cases hi : i < 64
  · simp [hi]
  · have : a.testBit i = false := Nat.testBit_lt_two_pow (Nat.lt_of_lt_of_le h (by
      have := Nat.pow_le_pow_right (n := 2) (by decide) (show 64 ≤ i by omega)
      simpa using this))
    simp [hi, this]
theorem zz_code {a : Int} (h : i64 a) : bits BinOp.xor .u64 (IntKind.u64.wrap (IntKind.u64.wrap a * 2)) (IntKind.u64.wrap (a / 9223372036854775808)) = (zz a : Int) := by
  obtain ⟨h1, h2⟩ := h
  unfold zz
  by_cases hn : a < 0
  · have e1 : IntKind.u64.wrap (IntKind.u64.wrap a * 2) = ((2 * (a + 9223372036854775808)).toNat : Int) := by rw [IntKind.wrap_u64, IntKind.wrap_u64]; omega
    have e2 : IntKind.u64.wrap (a / 9223372036854775808) = ((18446744073709551615 : Nat) : Int) := by rw [IntKind.wrap_u64]; omega
    rw [e1, e2, u64_xor_nat _ _ (by omega) (by omega), xor_ones _ (by omega), if_pos hn]
    omega
  · have e1 : IntKind.u64.wrap (IntKind.u64.wrap a * 2) = ((2 * a).toNat : Int) := by rw [IntKind.wrap_u64, IntKind.wrap_u64]; omega
    have e2 : IntKind.u64.wrap (a / 9223372036854775808) = ((0 : Nat) : Int) := by rw [IntKind.wrap_u64]; omega
    rw [e1, e2, u64_xor_nat _ _ (by omega) (by omega), if_neg hn]
    simp
theorem or_128 (u : Nat) : bits BinOp.or .u8 ((u : Int) % 256) 128 = ((u % 128 + 128 : Nat) : Int) := by
  have e : ((u : Int) % 256) = ((u % 256 : Nat) : Int) := by omega
  have e2 : (128 : Int) = ((128 : Nat) : Int) := rfl
  rw [e, e2, u8_or_nat _ _ (by omega) (by decide)]
  have h : ∀ n : Nat, n < 256 → n ||| 128 = n % 128 + 128 := by decide +kernel
  rw [h _ (by omega)]
  omega

def valU : List Int → Nat
  | [] => 0
  | c :: r => (c % 128).toNat + 128 * valU r
theorem valU_snoc (l : List Int) (c : Int) : valU (l ++ [c]) = valU l + 128 ^ l.length * (c % 128).toNat := by
  induction l with
  | nil => simp [valU]
  | cons d l ih => simp only [List.cons_append, valU, ih, List.length_cons, Nat.pow_succ]; rw [Nat.mul_add, Nat.add_assoc]; congr 2; rw [← Nat.mul_assoc, Nat.mul_comm 128]
theorem take_snoc (l : List Int) (i : Nat) (h : i < l.length) : l.take (i + 1) = l.take i ++ [l.getD i 0] := by
  rw [List.take_succ_eq_append_getElem h, List.getD_eq_getElem?_getD, List.getElem?_eq_getElem h]; rfl
theorem valU_take (l : List Int) (i : Nat) (h : i < l.length) : valU (l.take (i + 1)) = valU (l.take i) + 128 ^ i * (l.getD i 0 % 128).toNat := by
  rw [take_snoc l i h, valU_snoc, List.length_take, Nat.min_eq_left (by omega)]
theorem valU_lt (l : List Int) : valU l < 128 ^ l.length := by
  induction l with
  | nil => simp [valU]
  | cons c l ih => simp only [valU, List.length_cons, Nat.pow_succ]; omega
theorem valU_take_lt (l : List Int) (i : Nat) (h : i ≤ l.length) : valU (l.take i) < 128 ^ i := by
  have := valU_lt (l.take i)
  rwa [List.length_take, Nat.min_eq_left h] at this
/-- All of the first i bytes say that there is more. -/
def allMore (l : List Int) (i : Nat) : Prop := ∀ j, j < i → 128 ≤ l.getD j 0
theorem allMore_zero (l : List Int) : allMore l 0 := fun j hj => by omega
theorem allMore_succ {l : List Int} {i : Nat} (h : allMore l i) (hi : 128 ≤ l.getD i 0) : allMore l (i + 1) := fun j hj => by
  rcases Nat.lt_or_ge j i with h1 | h1
  · exact h j h1
  · obtain rfl : j = i := by omega
    exact hi
theorem allMore_tail {c : Int} {l : List Int} {i : Nat} (h : allMore (c :: l) (i + 1)) : 128 ≤ c ∧ allMore l i :=
  ⟨h 0 (by omega), fun j hj => by have := h (j + 1) (by omega); simpa using this⟩
theorem decU_skip : ∀ (i k : Nat) (l : List Int), isBytes l → allMore l i → i ≤ l.length → k + i ≤ 10 →
    decU k l = (decU (k + i) (l.drop i)).bind fun q => some (valU (l.take i) + 128 ^ i * q.1, q.2) := by
  intro i
  induction i with
  | zero => intro k l _ _ _ _; simp [valU]; cases decU k l <;> rfl
  | succ i ih =>
    intro k l hb hm hl hk
    cases l with
    | nil => simp at hl
    | cons c l =>
      obtain ⟨h1, h2⟩ := allMore_tail hm
      have hc := hb c List.mem_cons_self
      rw [decU, if_neg (by omega), if_pos h1, ih (k + 1) l (fun x hx => hb x (List.mem_cons_of_mem _ hx)) h2 (by simpa using hl) (by omega)]
      rw [show k + 1 + i = k + (i + 1) by omega, List.drop_succ_cons, List.take_succ_cons]
      cases decU (k + (i + 1)) (l.drop i) with
      | none => rfl
      | some q =>
        simp only [Option.bind_some, Option.some.injEq, Prod.mk.injEq, and_true, valU]
        have h3 : (c % 128).toNat = (c - 128).toNat := by omega
        rw [h3, Nat.pow_succ, Nat.add_mul, Nat.mul_comm (valU _) 128, Nat.mul_right_comm]
        omega
theorem dec_hit {l : List Int} {i : Nat} (hb : isBytes l) (hm : allMore l i) (hi : i < l.length) (h10 : i < 10) (hc : l.getD i 0 < 128) (h0 : ¬ (l.getD i 0 = 0 ∧ 0 < i)) (h9 : ¬ (i = 9 ∧ 1 < l.getD i 0)) :
    dec l = some (unzz (valU (l.take (i + 1))), l.drop (i + 1)) := by
  have hd : l.drop i = l.getD i 0 :: l.drop (i + 1) := by
    rw [List.drop_eq_getElem_cons hi, List.getD_eq_getElem?_getD, List.getElem?_eq_getElem hi]; rfl
  have hr := hb _ (List.getElem_mem hi)
  have hg : l.getD i 0 = l[i] := by rw [List.getD_eq_getElem?_getD, List.getElem?_eq_getElem hi]; rfl
  unfold dec
  rw [decU_skip i 0 l hb hm (by omega) (by omega), hd, decU, if_neg (by omega), if_neg (by omega), if_neg (by omega), valU_take l i hi]
  simp only [Option.bind_some]
  have h3 : (l.getD i 0).toNat = (l.getD i 0 % 128).toNat := by omega
  rw [h3]
theorem dec_end {l : List Int} {i : Nat} (hb : isBytes l) (hm : allMore l i) (hi : i ≤ l.length) (h10 : i ≤ 10) (he : i = 10 ∨ i = l.length) : dec l = none := by
  unfold dec
  rw [decU_skip i 0 l hb hm hi (by omega)]
  have h : decU (0 + i) (l.drop i) = none := by
    rcases he with rfl | rfl
    · cases l.drop 10 with
      | nil => rfl
      | cons c r => rw [decU, if_pos (by omega)]
    · rw [List.drop_length]; rfl
  rw [h]; rfl
theorem dec_bad {l : List Int} {i : Nat} (hb : isBytes l) (hm : allMore l i) (hi : i < l.length) (h10 : i < 10) (hc : l.getD i 0 < 128) (h : (l.getD i 0 = 0 ∧ 0 < i) ∨ (i = 9 ∧ 1 < l.getD i 0)) : dec l = none := by
  have hd : l.drop i = l.getD i 0 :: l.drop (i + 1) := by
    rw [List.drop_eq_getElem_cons hi, List.getD_eq_getElem?_getD, List.getElem?_eq_getElem hi]; rfl
  unfold dec
  rw [decU_skip i 0 l hb hm (by omega) (by omega), hd, decU, if_neg (by omega), if_neg (by omega), if_pos (by omega)]
  rfl
theorem getD_bytes {l : List Int} (hb : isBytes l) (i : Nat) : 0 ≤ l.getD i 0 ∧ l.getD i 0 < 256 := by
  rw [List.getD_eq_getElem?_getD]
  rcases Nat.lt_or_ge i l.length with h | h
  · rw [List.getElem?_eq_getElem h]; exact hb _ (List.getElem_mem h)
  · rw [List.getElem?_eq_none h]; simp
theorem andNot_128 {c : Int} (h0 : 0 ≤ c) (h1 : c < 256) : bits BinOp.andNot .u8 c 128 = c % 128 := by
  have e : c = (c.toNat : Int) := by omega
  rw [e, show (128 : Int) = ((128 : Nat) : Int) from rfl, u8_andNot_nat _ _ (by omega) (by decide)]
  have h : ∀ n : Nat, n < 256 → n &&& (255 - 128) = n % 128 := by decide +kernel
  rw [h _ (by omega)]
  omega
theorem or_digit' (u c i : Nat) (hu : u < 128 ^ i) (hp : c * 2 ^ (7 * i) < 18446744073709551616) (hi : i ≤ 9) : bits BinOp.or .u64 (u : Int) ((c * 2 ^ (7 * i) : Nat) : Int) = ((u + 128 ^ i * c : Nat) : Int) := by
  have e : 128 ^ i = 2 ^ (7 * i) := by rw [Nat.pow_mul]
  have hu2 : u < 18446744073709551616 := by
    have h1 : 128 ^ i ≤ 128 ^ 9 := Nat.pow_le_pow_right (by decide) hi
    omega
  rw [u64_or_nat _ _ hu2 hp, e, Nat.or_comm, Nat.mul_comm c, ← Nat.two_pow_add_eq_or_of_lt (by rw [← e]; exact hu)]
  omega
theorem or_step {u i : Nat} {d : Int} (hu : u < 18446744073709551616) (h0 : 0 ≤ d) (h1 : d < 256) :
    ∃ u' : Nat, bits BinOp.or .u64 (u : Int) (IntKind.u64.wrap (IntKind.u64.wrap (bits BinOp.andNot .u8 d 128) * 2 ^ (7 * i))) = (u' : Int) ∧ u' < 18446744073709551616 ∧
      (u < 128 ^ i → (i ≤ 8 ∨ i = 9 ∧ d ≤ 1) → u' = u + 128 ^ i * (d % 128).toNat) := by
  rw [andNot_128 h0 h1]
  have e1 : IntKind.u64.wrap (d % 128) = (((d % 128).toNat : Nat) : Int) := by rw [IntKind.wrap_u64]; omega
  rw [e1]
  obtain ⟨c, hc⟩ : ∃ c, c = (d % 128).toNat := ⟨_, rfl⟩
  rw [← hc]
  have e2 : ((c : Int) * 2 ^ (7 * i)) = ((c * 2 ^ (7 * i) : Nat) : Int) := by rw [Int.natCast_mul, Int.natCast_pow]; rfl
  rw [e2]
  have e3 : IntKind.u64.wrap ((c * 2 ^ (7 * i) : Nat) : Int) = ((c * 2 ^ (7 * i) % 18446744073709551616 : Nat) : Int) := by rw [IntKind.wrap_u64]; omega
  rw [e3]
  refine ⟨u ||| (c * 2 ^ (7 * i) % 18446744073709551616), u64_or_nat _ _ hu (Nat.mod_lt _ (by decide)), Nat.or_lt_two_pow (n := 64) hu (Nat.mod_lt _ (by decide)), fun g1 g2 => ?_⟩
  have hp : c * 2 ^ (7 * i) < 18446744073709551616 := by
    rcases g2 with g2 | ⟨rfl, g2⟩
    · have h1 : 2 ^ (7 * i) ≤ 2 ^ 56 := Nat.pow_le_pow_right (by decide) (by omega)
      have h2 : c * 2 ^ (7 * i) ≤ 127 * 2 ^ 56 := Nat.mul_le_mul (by omega) h1
      omega
    · have h3 : c ≤ 1 := by omega
      have h2 : c * 2 ^ (7 * 9) ≤ 1 * 2 ^ (7 * 9) := Nat.mul_le_mul h3 (Nat.le_refl _)
      omega
  have h4 := or_digit' u c i g1 hp (by omega)
  rw [u64_or_nat _ _ hu hp] at h4
  rw [Nat.mod_eq_of_lt hp]
  omega
theorem xor_i64_zero (n : Nat) (h : n < 9223372036854775808) : bits BinOp.xor .i64 (n : Int) 0 = (n : Int) := by
  show IntKind.i64.wrap ((BitVec.ofInt 64 (n : Int) ^^^ BitVec.ofInt 64 0).toNat : Int) = _
  have h1 : (BitVec.ofInt 64 (n : Int)).toNat = n := by
    rw [BitVec.ofInt_natCast, BitVec.toNat_ofNat]; exact Nat.mod_eq_of_lt (by omega)
  have h2 : (BitVec.ofInt 64 0).toNat = 0 := by rfl
  rw [BitVec.toNat_xor, h1, h2, Nat.xor_zero, IntKind.wrap_i64]
  omega
theorem xor_i64_ones (n : Nat) (h : n < 9223372036854775808) : bits BinOp.xor .i64 (n : Int) (-1) = -(n : Int) - 1 := by
  show IntKind.i64.wrap ((BitVec.ofInt 64 (n : Int) ^^^ BitVec.ofInt 64 (-1)).toNat : Int) = _
  have h1 : (BitVec.ofInt 64 (n : Int)).toNat = n := by
    rw [BitVec.ofInt_natCast, BitVec.toNat_ofNat]; exact Nat.mod_eq_of_lt (by omega)
  have h2 : (BitVec.ofInt 64 (-1)).toNat = 18446744073709551615 := by rfl
  rw [BitVec.toNat_xor, h1, h2, xor_ones _ (by omega), IntKind.wrap_i64]
  omega
theorem unzz_code (u : Nat) (h : u < 18446744073709551616) : bits BinOp.xor .i64 ((u : Int) / 2) (Go.RowKit.wrap64 (-Go.RowKit.wrap64 (bits BinOp.and .u64 (u : Int) 1))) = unzz u := by
  have e0 : bits BinOp.and .u64 (u : Int) 1 = ((u % 2 : Nat) : Int) := by
    rw [show (1 : Int) = ((1 : Nat) : Int) from rfl, u64_and_nat _ _ h (by decide), Nat.and_one_is_mod]
  have e1 : (u : Int) / 2 = ((u / 2 : Nat) : Int) := by omega
  rw [e0, e1]
  unfold unzz
  rcases Nat.mod_two_eq_zero_or_one u with h0 | h0
  · rw [h0, if_neg (by omega)]
    have e2 : Go.RowKit.wrap64 (-Go.RowKit.wrap64 ((0 : Nat) : Int)) = 0 := by unfold Go.RowKit.wrap64; decide
    rw [e2, xor_i64_zero _ (by omega)]
  · rw [h0, if_pos rfl]
    have e2 : Go.RowKit.wrap64 (-Go.RowKit.wrap64 ((1 : Nat) : Int)) = -1 := by unfold Go.RowKit.wrap64; decide
    rw [e2, xor_i64_ones _ (by omega)]
end Go.Proofs.Ytocpcnmnhckcpaa.Num
namespace Go.Proofs.Ytocpcnmnhckcpaa.Num
open Go.RowKit Go.Proofs.YtocpcnmnhckcpaaW.PrintWords Go.Proofs.YtocpcnmnhckcpaaW.PrintLast Go.Proofs.YtocpcnmnhckcpaaW.PrintMore
set_option linter.unusedVariables false
set_option linter.unusedSimpArgs false

theorem ret_i64 {a b : Int} (h : a = b) : Ending.returned (.int .i64 a) = .returned (.int .i64 b) := by rw [h]
theorem strOfNums_toList (l : List Int) : (strOfNums l).toList = l.map fun n => UInt8.ofNat n.toNat := ByteArray.toList_mk _
theorem bytesOf_isBytes (s : ByteArray) : isBytes (bytesOf s) := by
  intro c hc
  obtain ⟨b, _, rfl⟩ := List.mem_map.1 hc
  have := b.toNat_lt
  omega
theorem bytesOf_strOfNums {l : List Int} (h : isBytes l) : bytesOf (strOfNums l) = l := by
  unfold bytesOf
  rw [strOfNums_data, List.map_map]
  have : ∀ c ∈ l, ((fun b : UInt8 => (b.toNat : Int)) ∘ fun n : Int => UInt8.ofNat n.toNat) c = c := by
    intro c hc
    have h1 := h c hc
    simp only [Function.comp, UInt8.toNat_ofNat']
    omega
  exact (List.map_congr_left this).trans (List.map_id' _)
theorem strOfNums_bytesOf (s : ByteArray) : strOfNums (bytesOf s) = s := by
  have : (strOfNums (bytesOf s)).data.toList = s.data.toList := by
    rw [strOfNums_data]
    unfold bytesOf
    rw [List.map_map]
    have : ∀ c ∈ s.data.toList, ((fun n : Int => UInt8.ofNat n.toNat) ∘ fun b : UInt8 => (b.toNat : Int)) c = c := by
      intro c _
      simp only [Function.comp, Int.toNat_natCast, UInt8.ofNat_toNat]
    exact (List.map_congr_left this).trans (List.map_id' _)
  exact congrArg ByteArray.mk (Array.toList_inj.1 this)
theorem toList_inj {a b : ByteArray} (h : a.toList = b.toList) : a = b := by
  rw [ByteArray.toList_eq, ByteArray.toList_eq] at h
  exact congrArg ByteArray.mk (Array.toList_inj.1 h)
theorem bytesOf_inj {a b : ByteArray} (h : bytesOf a = bytesOf b) : a = b := by rw [← strOfNums_bytesOf a, ← strOfNums_bytesOf b, h]
theorem strOfNums_inj {a b : List Int} (ha : isBytes a) (hb : isBytes b) (h : strOfNums a = strOfNums b) : a = b := by rw [← bytesOf_strOfNums ha, ← bytesOf_strOfNums hb, h]
theorem str_beq {a b : List Int} (ha : isBytes a) (hb : isBytes b) : ((strOfNums a).toList == (strOfNums b).toList) = decide (a = b) := by
  rw [Bool.eq_iff_iff, beq_iff_eq, decide_eq_true_iff]
  exact ⟨fun h => strOfNums_inj ha hb (toList_inj h), fun h => by rw [h]⟩
theorem str_beq' (s t : ByteArray) : (s.toList == t.toList) = decide (s = t) := by
  rw [Bool.eq_iff_iff, beq_iff_eq, decide_eq_true_iff]
  exact ⟨toList_inj, fun h => by rw [h]⟩
theorem str_append (a b : List Int) : strOfNums (a ++ b) = strOfNums a ++ strOfNums b := by
  apply bytesOf_inj
  unfold bytesOf strOfNums
  simp
end Go.Proofs.Ytocpcnmnhckcpaa.Num
namespace Go.Proofs.Ytocpcnmnhckcpaa.Num
open Go.RowKit Go.Proofs.YtocpcnmnhckcpaaW.PrintWords Go.Proofs.YtocpcnmnhckcpaaW.PrintLast Go.Proofs.YtocpcnmnhckcpaaW.PrintMore
set_option linter.unusedVariables false
set_option linter.unusedSimpArgs false

theorem info_u8 : (Try.prog.info? 5).map (fun i => (i.zero, i.size, i.bytes)) = some (some (.int .u8 0), 1, 1) := by kernel_rfl
theorem size_u8 : (Try.prog.info? 5).map (·.size) = some 1 := by kernel_rfl

theorem put_calls (A0 : Option Addr) (c0 : Nat) (l0 : List Int) (a1 : Int) (w : World) (hr0 : Kd.C (Kd.int .u8) w A0 l0.length l0) (hc0 : l0.length ≤ c0) (h1 : -9223372036854775808 ≤ a1) (h2 : a1 ≤ 9223372036854775807) (hl : l0.length ≤ 140737488350000) :
    Calls Try.prog 22 #[.slice A0 l0.length c0, .int .i64 a1] w fun e w' => ∃ v0_ : Value, e = .returned (v0_) ∧ Kd.R (Kd.int .u8) 5 w' w.heap.size (fun _ => True) v0_ (l0 ++ enc a1) ∧ Below w.heap.size w w' := by
  have HR0 := Aside0.mk hr0
  have HC0 := Aside0.mk hc0
  clear hr0 hc0
  have HB := Aside0.mk (Below.refl w.heap.size w)
  go_enter Try.func22, Try.ntmps22
  go_wp2_with (first
    | ((with_reducible refine gate_dst (N := 12) rfl ?_); refine Gen.R_makeCap (Kd.int .u8) (w0 := w) w.heap.size 5 rfl 41 (.tmp 8) (.tmp 11) rfl (l0.length : Int) ((l0.length : Int) + 10) rfl rfl Try.underlying41 (.int .u8 0) 1 info_u8 rfl (by decide) (by decide) 0 (fun _ _ _ => rfl) (by omega) (by omega) (by omega) (by repeat (first | (with_reducible first | exact HB.out | apply below_alloc | apply pw_below_drewN | apply below_drew1) | exact HB.out)) (below_size (by repeat (first | (with_reducible first | exact HB.out | apply below_alloc | apply pw_below_drewN | apply below_drew1) | exact HB.out))) ?_; intro v1 w1 ho hb hg hat; have n0_ := Aside0.mk hb; have n1_ := Aside0.mk ho; clear HB; have HB := n0_; have HO1 := n1_; clear n0_ n1_ ho hb hg hat)
    | ((with_reducible refine gate_builtin (b := .copy) (xs := #[.tmp 13, .tmp 14]) rfl ?_); refine Kd.R_copy (enc := Value.int .u8) (h1 := fun _ => rfl) (0 : Int) (w0 := w) w.heap.size rfl (.tmp 13) (.tmp 14) 41 41 5 rfl Try.underlying41 size_u8 v1 (List.replicate (l0.length : Int).toNat 0) l0 A0 l0.length c0 (fun _ => True) rfl rfl (by (with_reducible repeat (first | apply Kd.R_alloc | apply Kd.R_drewN | apply Kd.R_drew)); exact HO1.out) (by repeat (first | exact (Kd.C_below HR0.out HB.out) | (with_reducible refine Kd.C_alloc ?_ _) | (with_reducible refine Kd.C_drewN ?_ _) | (with_reducible refine Kd.C_drew ?_))) (by repeat (first | (with_reducible first | exact HB.out | apply below_alloc | apply pw_below_drewN | apply below_drew1) | exact HB.out)) (below_size (by repeat (first | (with_reducible first | exact HB.out | apply below_alloc | apply pw_below_drewN | apply below_drew1) | exact HB.out))) ?_; intro w2 ho hb hg; have n0_ := Aside0.mk hb; have n1_ := Aside0.mk ho; clear HB HO1; have HB := n0_; have HO2 := n1_; clear n0_ n1_ ho hb hg))
  have hz := zz_lt h1 h2
  have HL := Aside0.mk (enc_len ⟨h1, h2⟩)
  rw [zz_code ⟨h1, h2⟩]
  have HO2' : Aside0 (Kd.R (Kd.int .u8) 5 w2 w.heap.size (fun _ => True) v1 l0) := ⟨by
    have e := HO2.out
    simp only [Int.toNat_natCast, List.length_replicate, Nat.min_self, List.take_length, List.drop_replicate, Nat.sub_self, List.replicate_zero, List.append_nil] at e
    exact e⟩
  clear HO2
  go_loopg [5, 6] (zz a1) (fun u v5 v6 w' => ∃ x : List Int, v6 = .int .u64 (u : Int) ∧ Aside0 (x ++ encN u = l0 ++ enc a1) ∧ Aside0 (u < 18446744073709551616) ∧ Aside0 (Kd.R (Kd.int .u8) 5 w' w.heap.size (fun _ => True) v5 x) ∧ Aside0 (Below w.heap.size w w'))
  case atStart => exact ⟨l0, rfl, ⟨rfl⟩, ⟨hz⟩, HO2', HB⟩
  case round =>
    obtain ⟨x, rfl, HE, HU, HO, HB⟩ := hrel
    have hu := HU.out
    have HX : Aside0 (x.length ≤ 140737488350020) := ⟨by
      have e := congrArg List.length HE.out
      simp only [List.length_append] at e
      have := HL.out; omega⟩
    by_cases hc : 128 ≤ gk
    · have hd : decide ((128 : Int) ≤ (gk : Int)) = true := decide_eq_true (by omega)
      go_wp2_with (first | ((with_reducible refine gate_builtin (b := .append) (xs := #[.tmp 27, .tmp 31]) rfl ?_); at_builtin; refine Kd.R_append (Kd.int .u8) (w0 := w) w.heap.size rfl (.tmp 27) (.tmp 31) 41 5 (.int .u8 0) 1 rfl Try.underlying41 info_u8 rfl (by decide) (by omega) u5 x (bits BinOp.or IntKind.u8 ((gk : Int) % 256) 128) [(.int .u8 (bits BinOp.or IntKind.u8 ((gk : Int) % 256) 128))] (fun _ => True) (fun _ => False) rfl rfl ?aP (fun _ hk => hk.elim) ?aF ?aO ?aB ?aS ?aL ?_; (case aP => exact rfl); (case aB => exact (by repeat (first | (with_reducible first | exact HB.out | apply below_alloc | apply pw_below_drewN | apply below_drew1) | exact HB.out))); (case aF => exact (fun _ _ => trivial)); (case aO => exact (by (with_reducible repeat (first | apply Kd.R_alloc | apply Kd.R_drewN | apply Kd.R_drew)); exact HO.out)); (case aS => exact (below_size (by repeat (first | (with_reducible first | exact HB.out | apply below_alloc | apply pw_below_drewN | apply below_drew1) | exact HB.out)))); (case aL => have := HX.out; omega); intro v8 w8 ho hb hg hat; have n0_ := Aside0.mk (hb); have n1_ := Aside0.mk (ho); clear HB; clear HO; have HB := n0_; have HO8 := n1_; clear n0_ n1_; clear ho hb hg hat))
      go_roundg (gk / 128)
      case measure => omega
      case rel =>
        refine ⟨_, rfl, ⟨?_⟩, ⟨by omega⟩, ⟨(by (with_reducible repeat (first | apply Kd.R_alloc | apply Kd.R_drewN | apply Kd.R_drew)); exact HO8.out)⟩, ⟨(by repeat (first | (with_reducible first | exact HB.out | apply below_alloc | apply pw_below_drewN | apply below_drew1) | exact HB.out))⟩⟩
        rw [← HE.out, encN_ge hc, or_128, List.append_assoc]; rfl
    · have hd : decide ((128 : Int) ≤ (gk : Int)) = false := decide_eq_false (by omega)
      go_wp2_with (first | ((with_reducible refine gate_builtin (b := .append) (xs := #[.tmp 33, .tmp 36]) rfl ?_); at_builtin; refine Kd.R_append (Kd.int .u8) (w0 := w) w.heap.size rfl (.tmp 33) (.tmp 36) 41 5 (.int .u8 0) 1 rfl Try.underlying41 info_u8 rfl (by decide) (by omega) u5 x ((gk : Int)) [(.int .u8 ((gk : Int)))] (fun _ => True) (fun _ => False) rfl rfl ?aP (fun _ hk => hk.elim) ?aF ?aO ?aB ?aS ?aL ?_; (case aP => exact rfl); (case aB => exact (by repeat (first | (with_reducible first | exact HB.out | apply below_alloc | apply pw_below_drewN | apply below_drew1) | exact HB.out))); (case aF => exact (fun _ _ => trivial)); (case aO => exact (by (with_reducible repeat (first | apply Kd.R_alloc | apply Kd.R_drewN | apply Kd.R_drew)); exact HO.out)); (case aS => exact (below_size (by repeat (first | (with_reducible first | exact HB.out | apply below_alloc | apply pw_below_drewN | apply below_drew1) | exact HB.out)))); (case aL => have := HX.out; omega); intro v8 w8 ho hb hg hat; have n0_ := Aside0.mk (hb); have n1_ := Aside0.mk (ho); clear HB; clear HO; have HB := n0_; have HO8 := n1_; clear n0_ n1_; clear ho hb hg hat))
      go_ret
      refine ⟨_, rfl, ?_, (by repeat (first | (with_reducible first | exact HB.out | apply below_alloc | apply pw_below_drewN | apply below_drew1) | exact HB.out))⟩
      have e : x ++ [(gk : Int)] = l0 ++ enc a1 := by rw [← HE.out, encN_lt (by omega)]
      rw [← e]
      exact (by (with_reducible repeat (first | apply Kd.R_alloc | apply Kd.R_drewN | apply Kd.R_drew)); exact HO8.out)

theorem putText_calls (A0 : Option Addr) (c0 : Nat) (l0 : List Int) (s : ByteArray) (w : World) (hr0 : Kd.C (Kd.int .u8) w A0 l0.length l0) (hc0 : l0.length ≤ c0) (hl : l0.length + s.size ≤ 140737488349000) :
    Calls Try.prog 24 #[.slice A0 l0.length c0, .string s] w fun e w' => ∃ v0_ : Value, e = .returned (v0_) ∧ Kd.R (Kd.int .u8) 5 w' w.heap.size (fun _ => True) v0_ (l0 ++ encT (bytesOf s)) ∧ Below w.heap.size w w' := by
  have HL : Aside0 ((enc (s.size : Int)).length ≤ 10) := ⟨enc_len ⟨by omega, by omega⟩⟩
  go_enter Try.func24, Try.ntmps24
  go_wp2_with (first
    | (go_at_call 22; refine (put_calls A0 c0 l0 (s.size : Int) w hr0 hc0 (by omega) (by omega) (by omega)).mono ?_; rintro e w1 ⟨v1, rfl, ho, hb⟩; have HB := Aside0.mk hb; have HO1 := Aside0.mk ho; clear ho hb)
    | ((with_reducible refine gate_builtin (b := .append) (xs := #[.tmp 8, .tmp 9]) rfl ?_); at_builtin; refine Gen.R_append_str (w0 := w) w.heap.size rfl (.tmp 8) (.tmp 9) 41 9 5 rfl Try.underlying41 Try.underlying9 info_u8 v1 (l0 ++ enc (s.size : Int)) s rfl rfl ?aO ?aB ?aS ?aL ?_; (case aB => exact (by repeat (first | (with_reducible first | exact HB.out | apply below_alloc | apply pw_below_drewN | apply below_drew1) | exact HB.out))); (case aO => exact (by (with_reducible repeat (first | apply Kd.R_alloc | apply Kd.R_drewN | apply Kd.R_drew)); exact HO1.out)); (case aS => exact (below_size (by repeat (first | (with_reducible first | exact HB.out | apply below_alloc | apply pw_below_drewN | apply below_drew1) | exact HB.out)))); (case aL => have := HL.out; simp only [List.length_append]; omega); intro v2 w2 ho hb hg; have n0_ := Aside0.mk (hb); have n1_ := Aside0.mk (ho); clear HB; clear HO1; have HB := n0_; have HO2 := n1_; clear n0_ n1_; clear ho hb hg))
  go_ret
  refine ⟨_, rfl, ?_, (by repeat (first | (with_reducible first | exact HB.out | apply below_alloc | apply pw_below_drewN | apply below_drew1) | exact HB.out))⟩
  unfold encT
  rw [bytesOf_length, ← List.append_assoc]
  exact (by (with_reducible repeat (first | apply Kd.R_alloc | apply Kd.R_drewN | apply Kd.R_drew)); exact HO2.out)

end Go.Proofs.Ytocpcnmnhckcpaa.Num
namespace Go.Proofs.Ytocpcnmnhckcpaa.Num
open Go.RowKit Go.Proofs.YtocpcnmnhckcpaaW.PrintWords Go.Proofs.YtocpcnmnhckcpaaW.PrintLast Go.Proofs.YtocpcnmnhckcpaaW.PrintMore
set_option linter.unusedVariables false
set_option linter.unusedSimpArgs false

end Go.Proofs.Ytocpcnmnhckcpaa.Num
namespace Go.Proofs.Ytocpcnmnhckcpaa.Num
open Go.RowKit Go.Proofs.YtocpcnmnhckcpaaW.PrintWords Go.Proofs.YtocpcnmnhckcpaaW.PrintLast Go.Proofs.YtocpcnmnhckcpaaW.PrintMore
set_option linter.unusedVariables false
set_option linter.unusedSimpArgs false
attribute [local go_sem] max2_int min2_int max_two min_two

/-- A reader (of type T) at block g of W: it reads l; its bytes, if there are some, lie in a block of P. -/
def Rd (T : Nat) (P : Nat → Prop) (W : World) (g : Nat) (l : List Int) (bad : Bool) : Prop :=
  ∃ A c, W.heap[g]? = some (.cells #[.slice A l.length c, .bool bad] T (0, 0)) ∧ l.length ≤ c ∧ Kd.C (Kd.int .u8) W A l.length l ∧ (∀ ad, A = some ad → 0 < l.length → P ad.block) ∧ ¬ P g
section
variable {T : Nat} {P : Nat → Prop} {W W1 : World} {g g' : Nat} {l : List Int} {bad : Bool}
theorem Rd.below (h : Rd T P W g l bad) (hb : Below W.heap.size W W1) : Rd T P W1 g l bad := by
  obtain ⟨A, c, h1, h2, h3, h4⟩ := h
  exact ⟨A, c, blk_below h1 hb, h2, Kd.C_below h3 hb, h4⟩
theorem Rd.kept (h : Rd T P W g l bad) (hk : KeepBut W W1 g' none) (hne : g ≠ g') (hP : ¬ P g') : Rd T P W1 g l bad := by
  obtain ⟨A, c, h1, h2, h3, h4, h5⟩ := h
  exact ⟨A, c, hk.blk h1 hne (by simp), h2, Kd.C_keep (0 : Int) h3 hk (fun ad e hn he => hP (he ▸ h4 ad e hn)), h4, h5⟩
theorem Rd.drewN (h : Rd T P W g l bad) (m : Nat) : Rd T P (W.drewN m) g l bad := h.below (pw_below_drewN (Below.refl _ _) m)
theorem Rd.lt (h : Rd T P W g l bad) : g < W.heap.size := by obtain ⟨A, c, h1, _⟩ := h; exact blk_lt h1
theorem Rd.len (h : Rd T P W g l bad) : l.length ≤ 9223372036854775807 := by obtain ⟨A, c, _, _, h4, _⟩ := h; exact Kd.C_max h4
end
/-- 'xs[m:]' of a slice that is read: A' is a letter, in the same block. -/
theorem cutL {P : Program} (t e : TypeId) (kl : IntKind) {i : TypeInfo} (ht : P.underlying t = some (.slice e)) (hi : P.info? e = some i) (hsz : i.size = 1) (A : Option Addr) (n c m : Nat) (hm : m ≤ n) :
    ∃ A' : Option Addr, (∀ W : World, (Instr.slice t (.slice A n c) (some (.int kl (m : Int))) none none).run P W = .ok (.slice A' (n - m) (c - m)) W) ∧
      (∀ (w : World) (xs : List Int), n ≤ c → (Kd.int .u8).C w A n xs → (Kd.int .u8).C w A' (n - m) (xs.drop m)) ∧ ∀ ad, A' = some ad → ∃ ad0, A = some ad0 ∧ ad.block = ad0.block := by
  refine ⟨if c = m then A else A.map (·.add m), fun W => ?_, fun w xs hc h => ?_, fun ad he => ?_⟩
  · have hel : P.elem t = e := by simp [Program.elem, ht]
    have hu : P.underlying t = some (.slice (P.elem t)) := by rw [hel]; exact ht
    rw [run_slice_l W t A n c hu kl (m : Int) (Int.natCast_nonneg _) (by omega), hel]
    simp [sizeOf, typeInfo, hi, hsz, sliced, Result.andThen]
  · exact Kd.C_of_reads (d := (0 : Int)) (h1 := fun _ => rfl) (ReadsInt.drop_ (Kd.reads_of_C (enc := Value.int .u8) (d := (0 : Int)) (h1 := fun _ => rfl) h) m hm hc)
  · by_cases h : c = m
    · rw [if_pos h] at he; exact ⟨ad, he, rfl⟩
    · rw [if_neg h] at he
      obtain ⟨ad0, h1, h2⟩ := Option.map_eq_some_iff.1 he
      exact ⟨ad0, h1, by rw [← h2]; unfold Addr.add; split <;> rfl⟩
theorem belowSet {g j : Nat} {w w' : World} (h : Below g w w') (v : Value) : Below g w (w'.setCell ⟨g, j, none⟩ v) := h.setCell (p := ⟨g, j, none⟩) (Nat.le_refl g) v

theorem fail_calls (P : Nat → Prop) (w : World) (g : Nat) (l : List Int) (bad : Bool) (hI : Rd 98 P w g l bad) :
    Calls Try.prog 48 #[.pointer (some ⟨g, 0, none⟩)] w fun e w' => e = .returned (.tuple #[]) ∧ Rd 98 P w' g [] true ∧ Below g w w' ∧ KeepBut w w' g none := by
  obtain ⟨A, c, hblk, hc, hr, hP, hg⟩ := hI
  have hc0 := blk_cell hblk 0
  have hc1 := blk_cell hblk 1
  have hf0 := blk_frozen hblk 0
  have hf1 := blk_frozen hblk 1
  have HK := Aside0.mk hblk
  have HG := Aside0.mk hg
  clear hblk hr hc hP hg
  go_enter Try.func48, Try.ntmps48
  go_wp2
  go_end0
  have h2 := blk_set (blk_set HK.out 0 (.slice none 0 0)) 1 (.bool true)
  exact ⟨rfl, ⟨none, 0, by simpa using h2, Nat.le_refl _, Kd.C_nil _ _, (fun _ h _ => by cases h), HG.out⟩, belowSet (belowSet (Below.refl g w) _) _, ((KeepBut.refl w g none).set_ 0 _).set_ 1 _⟩
theorem newReader_calls (A0 : Option Addr) (c0 : Nat) (l0 : List Int) (w : World) (hr0 : Kd.C (Kd.int .u8) w A0 l0.length l0) (hc0 : l0.length ≤ c0) :
    Calls Try.prog 29 #[.slice A0 l0.length c0] w fun e w' => ∃ g : Nat, e = .returned (.pointer (some ⟨g, 0, none⟩)) ∧ Rd 98 (fun k => k < w.heap.size) w' g l0 false ∧ Below w.heap.size w w' ∧ w.heap.size ≤ g := by
  have hu := Try.underlying98
  have HR0 := Aside0.mk hr0
  have HC0 := Aside0.mk hc0
  clear hr0 hc0
  go_enter Try.func29, Try.ntmps29
  go_wp2_with (first | ((with_reducible refine gate_dst (N := 5) rfl ?_); refine box_event ?hg (N := 5) ?hd (cs := #[.slice A0 l0.length c0, .bool false]) (t := 98) ?hr ?_; (case hd => rfl); (case hg => rfl); (case hr => first | (go_simp; done) | (go_simp; rfl)); intro g hg w2 hbox hb; have n1_ := Aside0.mk hbox; have n2_ := Aside0.mk hb; have n3_ := Aside0.mk hg; clear hg hbox hb))
  go_ret
  exact ⟨_, rfl, ⟨A0, c0, n1_.out, HC0.out, Kd.C_below HR0.out n2_.out, fun ad e hn => Kd.C_lt (e ▸ HR0.out) hn (by decide), by rw [n3_.out]; exact Nat.lt_irrefl _⟩, n2_.out, by rw [n3_.out]; exact Nat.le_refl _⟩

theorem bad_calls (P : Nat → Prop) (w : World) (g : Nat) (l : List Int) (bad : Bool) (hI : Rd 98 P w g l bad) :
    Calls Try.prog 34 #[.pointer (some ⟨g, 0, none⟩)] w fun e w' => e = .returned (.bool bad) ∧ w = w' := by
  obtain ⟨A, c, hblk, hc, hr, hP, hg⟩ := hI
  have hc1 : w.cell? ⟨g, 1, none⟩ = some (.bool bad) := blk_cell hblk 1
  clear hblk hg hc hr hP
  go_enter Try.func34, Try.ntmps34
  go_wp2
  go_ret
  exact ⟨rfl, rfl⟩

/-- What a reader is, behind a number. -/
def aft (l : List Int) : List Int := match dec l with | none => [] | some q => q.2
def numOf (l : List Int) : Int := match dec l with | none => 0 | some q => q.1
def badOf (l : List Int) (bad : Bool) : Bool := bad || (dec l).isNone

theorem num_calls (P : Nat → Prop) (w : World) (g : Nat) (l : List Int) (bad : Bool) (hI : Rd 98 P w g l bad) (hb : isBytes l) :
    Calls Try.prog 30 #[.pointer (some ⟨g, 0, none⟩)] w fun e w' => e = .returned (.int .i64 (numOf l)) ∧ Rd 98 P w' g (aft l) (badOf l bad) ∧ Below g w w' ∧ KeepBut w w' g none := by
  have HN := hI.len
  have HI0 := Aside0.mk hI
  obtain ⟨A, c, hblk, hc, hr, hP, hg⟩ := hI
  have hc0 : w.cell? ⟨g, 0, none⟩ = some (.slice A l.length c) := blk_cell hblk 0
  have HK := Aside0.mk hblk
  have HG := Aside0.mk hg
  have HC := Aside0.mk hc
  have HR := Aside0.mk hr
  have HP := Aside0.mk hP
  have HBY := Aside0.mk hb
  clear hblk hr hg hb hc hP
  go_enter Try.func30, Try.ntmps30
  go_upto_region 2 with (fail)
  obtain ⟨m, hm1⟩ : ∃ m : Nat, m = min 10 l.length := ⟨min 10 l.length, rfl⟩
  have HM1 := Aside0.mk hm1
  clear hm1
  go_cut [11, 12] (fun v11 v12 wc => v11 = .int .i64 (m : Int) ∧ v12 = .int .i64 0 ∧ w = wc)
  case first =>
    go_wp2
    all_goals go_meet
    case rel => exact ⟨by have := HM1.out; congr 1; omega, rfl, rfl⟩
    case rel => exact ⟨by have := HM1.out; congr 1; omega, rfl, rfl⟩
  case rest =>
  obtain ⟨rfl, rfl, rfl⟩ := hcut
  go_wp2_with fail
  go_loopg [3, 12] m (fun k v3 v12 w' => ∃ i u : Nat, v12 = .int .i64 (i : Int) ∧ v3 = .int .u64 (u : Int) ∧ Aside0 (i + k = m) ∧ Aside0 (allMore l i) ∧ Aside0 (i ≤ 9 → u = valU (l.take i)) ∧ Aside0 (u < 18446744073709551616) ∧ Drawn0 w w')
  case atStart => exact ⟨0, 0, rfl, rfl, ⟨by omega⟩, ⟨allMore_zero _⟩, ⟨fun _ => rfl⟩, ⟨by omega⟩, Drawn0.refl _⟩
  case round =>
    obtain ⟨i, u, rfl, rfl, HE, HM, HU, HU2, ⟨m1, rfl⟩⟩ := hrel
    have hu2 := HU2.out
    have hm10 : m ≤ 10 := by have := HM1.out; omega
    have hml : m ≤ l.length := by have := HM1.out; omega
    by_cases hlt : i < m
    · have hg := getD_bytes HBY.out i
      obtain ⟨ad, rfl, hx⟩ := Kd.at_int HR.out (i : Int) (by omega) (by omega)
      rw [Int.toNat_natCast] at hx
      obtain ⟨d, hd0⟩ : ∃ d, d = rd l (i : Int) := ⟨_, rfl⟩
      have hd1 : l.getD i 0 = d := by rw [hd0]; rfl
      rw [← hd0] at hx
      have HD := Aside0.mk hd1
      clear hd0
      rw [hd1] at hg
      clear hd1
      have hb1 : decide ((i : Int) < (m : Int)) = true := decide_eq_true (by omega)
      obtain ⟨u', hor, hu', hst⟩ := or_step (u := u) (i := i) hu2 hg.1 hg.2
      have HST := Aside0.mk hst
      have hvl := valU_take_lt l i (by omega)
      have HVL := Aside0.mk hvl
      clear hst hvl
      by_cases h128 : 128 ≤ d
      · have hd : decide ((128 : Int) ≤ d) = true := decide_eq_true h128
        go_wp2_with fail
        go_roundg (m - (i + 1))
        case measure => have := HE.out; omega
        case rel =>
          refine ⟨i + 1, u', by go_num, rfl, ⟨by omega⟩, ⟨allMore_succ HM.out (by rw [HD.out]; exact h128)⟩, ⟨fun h => ?_⟩, ⟨hu'⟩, by repeat (first | exact Drawn0.refl _ | apply Drawn0.step)⟩
          rw [valU_take l i (by omega), HD.out, ← HU.out (by omega)]
          exact HST.out (by rw [HU.out (by omega)]; exact HVL.out) (.inl (by omega))
      · have hd : decide ((128 : Int) ≤ d) = false := decide_eq_false h128
        have hd' : d < 128 := by omega
        have hf0 : w.frozen? ⟨g, 0, none⟩ = false := blk_frozen HK.out 0
        obtain ⟨i0, hi0⟩ : ∃ i0, Try.prog.info? 5 = some i0 ∧ i0.size = 1 := by obtain ⟨i0, h1, h2⟩ := Option.map_eq_some_iff.1 size_u8; exact ⟨i0, h1, h2⟩
        obtain ⟨A', hcut, hA', hAb⟩ := cutL (P := Try.prog) 41 5 .i64 Try.underlying41 hi0.1 hi0.2 (some ad) l.length c (i + 1) (by omega)
        have hcut1 : ∀ W : World, (Instr.slice 41 (.slice (some ad) l.length c) (some (.int .i64 ((i : Int) + 1))) none none).run Try.prog W = .ok (.slice A' (l.length - (i + 1)) (c - (i + 1))) W := hcut
        have HA := Aside0.mk (hA' w l HC.out HR.out)
        have HAB := Aside0.mk hAb
        have hz := unzz_code u' hu'
        clear hcut hA' hi0 hAb
        by_cases hz : d = 0
        · have e1 : (d == 0) = true := beq_iff_eq.mpr hz
          by_cases hi0 : 0 < i
          · have e2 : decide ((0 : Int) < (i : Int)) = true := decide_eq_true (by omega)
            have hn : dec l = none := dec_bad HBY.out HM.out (by omega) (by omega) (by rw [HD.out]; exact hd') (.inl (by rw [HD.out]; exact ⟨hz, hi0⟩))
            have HN1 := Aside0.mk hn
            clear hn hz
            try clear h9
            go_wp2_with (first | (go_at_call 48; refine (fail_calls P _ g l bad (Rd.drewN HI0.out m1)).mono ?_; rintro e w2 ⟨rfl, hI2, hb2, hk2⟩; have n1_ := Aside0.mk hI2; have n2_ := Aside0.mk hb2; have n3_ := Aside0.mk hk2; clear hI2 hb2 hk2))
            go_ret
            refine ⟨ret_i64 (by unfold numOf; rw [HN1.out]), by unfold aft badOf; rw [HN1.out]; simpa using n1_.out, (pw_below_drewN (Below.refl g w) m1).trans n2_.out, n3_.out⟩
          · have e2 : decide ((0 : Int) < (i : Int)) = false := decide_eq_false (by omega)
            have e3 : ((i : Int) == 9) = false := beq_eq_false_iff_ne.mpr (by omega)
            have hy : dec l = some (unzz (valU (l.take (i + 1))), l.drop (i + 1)) := dec_hit HBY.out HM.out (by omega) (by omega) (by rw [HD.out]; exact hd') (by omega) (by omega)
            have hy2 : u' = valU (l.take (i + 1)) := by
              rw [valU_take l i (by omega), HD.out, ← HU.out (by omega)]
              exact HST.out (by rw [HU.out (by omega)]; exact HVL.out) (by omega)
            have HY := Aside0.mk hy
            have HY2 := Aside0.mk hy2
            clear hy hy2 hz
            try clear h9
            go_wp2
            go_ret
            refine ⟨ret_i64 (by unfold numOf; rw [HY.out, HY2.out]), ?_, belowSet (pw_below_drewN (Below.refl g w) m1) _, (KeepBut.refl w g none).set_ 0 _⟩
            have hs := blk_set (blk_drewN HK.out m1) 0 (.slice A' (l.length - (i + 1)) (c - (i + 1)))
            unfold aft badOf; rw [HY.out]
            have hbl : ∀ ad, A' = some ad → 0 < (l.drop (i + 1)).length → P ad.block := fun ad e hn => by
              obtain ⟨ad0, h1, h2⟩ := HAB.out ad e
              rw [h2]; exact HP.out ad0 h1 (by rw [List.length_drop] at hn; omega)
            exact ⟨A', c - (i + 1), by simpa using hs, by simp only [List.length_drop]; have := HC.out; omega, Kd.C_keep (0 : Int) (by simp only [List.length_drop]; exact HA.out) ((KeepBut.refl w g none).set_ 0 _) (fun ad e hn he => HG.out (he ▸ hbl ad e hn)), hbl, HG.out⟩
        · have e1 : (d == 0) = false := beq_eq_false_iff_ne.mpr hz
          by_cases h9 : i = 9
          · have e3 : ((i : Int) == 9) = true := beq_iff_eq.mpr (by omega)
            by_cases h1 : 1 < d
            · have e4 : decide ((1 : Int) < d) = true := decide_eq_true h1
              have hn : dec l = none := dec_bad HBY.out HM.out (by omega) (by omega) (by rw [HD.out]; exact hd') (.inr (by rw [HD.out]; exact ⟨h9, h1⟩))
              have HN1 := Aside0.mk hn
              clear hn hz
              try clear h9
              go_wp2_with (first | (go_at_call 48; refine (fail_calls P _ g l bad (Rd.drewN HI0.out m1)).mono ?_; rintro e w2 ⟨rfl, hI2, hb2, hk2⟩; have n1_ := Aside0.mk hI2; have n2_ := Aside0.mk hb2; have n3_ := Aside0.mk hk2; clear hI2 hb2 hk2))
              go_ret
              refine ⟨ret_i64 (by unfold numOf; rw [HN1.out]), by unfold aft badOf; rw [HN1.out]; simpa using n1_.out, (pw_below_drewN (Below.refl g w) m1).trans n2_.out, n3_.out⟩
            · have e4 : decide ((1 : Int) < d) = false := decide_eq_false h1
              have hy : dec l = some (unzz (valU (l.take (i + 1))), l.drop (i + 1)) := dec_hit HBY.out HM.out (by omega) (by omega) (by rw [HD.out]; exact hd') (by rw [HD.out]; omega) (by rw [HD.out]; omega)
              have hy2 : u' = valU (l.take (i + 1)) := by
                rw [valU_take l i (by omega), HD.out, ← HU.out (by omega)]
                exact HST.out (by rw [HU.out (by omega)]; exact HVL.out) (by omega)
              have HY := Aside0.mk hy
              have HY2 := Aside0.mk hy2
              clear hy hy2 hz
              try clear h9
              go_wp2
              go_ret
              refine ⟨ret_i64 (by unfold numOf; rw [HY.out, HY2.out]), ?_, belowSet (pw_below_drewN (Below.refl g w) m1) _, (KeepBut.refl w g none).set_ 0 _⟩
              have hs := blk_set (blk_drewN HK.out m1) 0 (.slice A' (l.length - (i + 1)) (c - (i + 1)))
              unfold aft badOf; rw [HY.out]
              have hbl : ∀ ad, A' = some ad → 0 < (l.drop (i + 1)).length → P ad.block := fun ad e hn => by
                obtain ⟨ad0, h1, h2⟩ := HAB.out ad e
                rw [h2]; exact HP.out ad0 h1 (by rw [List.length_drop] at hn; omega)
              exact ⟨A', c - (i + 1), by simpa using hs, by simp only [List.length_drop]; have := HC.out; omega, Kd.C_keep (0 : Int) (by simp only [List.length_drop]; exact HA.out) ((KeepBut.refl w g none).set_ 0 _) (fun ad e hn he => HG.out (he ▸ hbl ad e hn)), hbl, HG.out⟩
          · have e3 : ((i : Int) == 9) = false := beq_eq_false_iff_ne.mpr (by omega)
            have hy : dec l = some (unzz (valU (l.take (i + 1))), l.drop (i + 1)) := dec_hit HBY.out HM.out (by omega) (by omega) (by rw [HD.out]; exact hd') (by rw [HD.out]; omega) (by omega)
            have hy2 : u' = valU (l.take (i + 1)) := by
              rw [valU_take l i (by omega), HD.out, ← HU.out (by omega)]
              exact HST.out (by rw [HU.out (by omega)]; exact HVL.out) (by omega)
            have HY := Aside0.mk hy
            have HY2 := Aside0.mk hy2
            clear hy hy2 hz
            try clear h9
            go_wp2
            go_ret
            refine ⟨ret_i64 (by unfold numOf; rw [HY.out, HY2.out]), ?_, belowSet (pw_below_drewN (Below.refl g w) m1) _, (KeepBut.refl w g none).set_ 0 _⟩
            have hs := blk_set (blk_drewN HK.out m1) 0 (.slice A' (l.length - (i + 1)) (c - (i + 1)))
            unfold aft badOf; rw [HY.out]
            have hbl : ∀ ad, A' = some ad → 0 < (l.drop (i + 1)).length → P ad.block := fun ad e hn => by
              obtain ⟨ad0, h1, h2⟩ := HAB.out ad e
              rw [h2]; exact HP.out ad0 h1 (by rw [List.length_drop] at hn; omega)
            exact ⟨A', c - (i + 1), by simpa using hs, by simp only [List.length_drop]; have := HC.out; omega, Kd.C_keep (0 : Int) (by simp only [List.length_drop]; exact HA.out) ((KeepBut.refl w g none).set_ 0 _) (fun ad e hn he => HG.out (he ▸ hbl ad e hn)), hbl, HG.out⟩
    · have hb1 : decide ((i : Int) < (m : Int)) = false := decide_eq_false (by omega)
      have hn : dec l = none := dec_end HBY.out HM.out (by have := HE.out; omega) (by have := HE.out; omega) (by have := HM1.out; have := HE.out; omega)
      have HN1 := Aside0.mk hn
      clear hn
      go_wp2_with (first | (go_at_call 48; refine (fail_calls P _ g l bad (Rd.drewN HI0.out m1)).mono ?_; rintro e w2 ⟨rfl, hI2, hb2, hk2⟩; have n1_ := Aside0.mk hI2; have n2_ := Aside0.mk hb2; have n3_ := Aside0.mk hk2; clear hI2 hb2 hk2))
      go_ret
      refine ⟨ret_i64 (by unfold numOf; rw [HN1.out]), by unfold aft badOf; rw [HN1.out]; simpa using n1_.out, (pw_below_drewN (Below.refl g w) m1).trans n2_.out, n3_.out⟩
end Go.Proofs.Ytocpcnmnhckcpaa.Num
namespace Go.Proofs.Ytocpcnmnhckcpaa.Num
open Go.RowKit Go.Proofs.YtocpcnmnhckcpaaW.PrintWords Go.Proofs.YtocpcnmnhckcpaaW.PrintLast Go.Proofs.YtocpcnmnhckcpaaW.PrintMore
set_option linter.unusedVariables false
set_option linter.unusedSimpArgs false
attribute [local go_sem] max2_int min2_int max_two min_two

def textOf (l : List Int) : ByteArray := match decT l with | none => ByteArray.empty | some q => strOfNums q.1
def aftT (l : List Int) : List Int := match decT l with | none => [] | some q => q.2
def badT (l : List Int) (bad : Bool) : Bool := bad || (decT l).isNone
theorem aft_bytes {l : List Int} (h : isBytes l) : isBytes (aft l) := by
  unfold aft
  cases hd : dec l with
  | none => intro c hc; simp at hc
  | some q => have := (dec_sound h hd).1; rw [this] at h; exact (isBytes_append.1 h).2
theorem numOf_i64 {l : List Int} (h : isBytes l) : i64 (numOf l) := by
  unfold numOf
  cases hd : dec l with
  | none => exact ⟨by simp, by simp⟩
  | some q => exact (dec_sound h hd).2

theorem num_calls' (x : Int) (P : Nat → Prop) (w : World) (g : Nat) (l : List Int) (bad : Bool) (hI : Rd 98 P w g l bad) (hb : isBytes l) (hx : numOf l = x) :
    Calls Try.prog 30 #[.pointer (some ⟨g, 0, none⟩)] w fun e w' => e = .returned (.int .i64 x) ∧ Rd 98 P w' g (aft l) (badOf l bad) ∧ Below g w w' ∧ KeepBut w w' g none := by
  subst hx; exact num_calls P w g l bad hI hb
theorem keep_step {w w1 w2 : World} {g : Nat} (h : KeepBut w w1 g none) (k : KeepBut w1 w2 g none) : KeepBut w w2 g none := h.trans k (.inl rfl)
theorem decT_num {l : List Int} {n : Nat} (h : numOf l = (n : Int)) (hn : n ≤ (aft l).length) (hs : (dec l).isSome = true) : decT l = some ((aft l).take n, (aft l).drop n) := by
  unfold numOf aft at *
  unfold decT
  cases hd : dec l with
  | none => rw [hd] at hs; simp at hs
  | some q =>
    rw [hd] at h hn
    simp only at h hn
    simp only [Option.bind_some]
    rw [if_neg (by omega), h]; simp
theorem decT_none0 {l : List Int} (h : (dec l).isSome = false) : decT l = none := by
  unfold decT
  cases hd : dec l with
  | none => rfl
  | some q => rw [hd] at h; simp at h
theorem decT_none1 {l : List Int} (h : numOf l < 0 ∨ ((aft l).length : Int) < numOf l) : decT l = none := by
  unfold numOf aft at *
  unfold decT
  cases hd : dec l with
  | none => rfl
  | some q => rw [hd] at h; simp only at h; simp only [Option.bind_some]; rw [if_pos h]
theorem num_none {l : List Int} (h : (dec l).isSome = false) : numOf l = 0 ∧ aft l = [] ∧ ∀ b, badOf l b = true := by
  unfold numOf aft badOf
  cases hd : dec l with
  | none => exact ⟨rfl, rfl, fun b => by simp⟩
  | some q => rw [hd] at h; simp at h
theorem bad_some {l : List Int} (h : (dec l).isSome = true) (b : Bool) : badOf l b = b := by
  unfold badOf
  cases hd : dec l with
  | none => rw [hd] at h; simp at h
  | some q => simp

/-- A text is taken: both readers go alike from the number on. -/
theorem textEnd {l : List Int} (n : Nat) (h : numOf l = (n : Int)) (hn : n ≤ (aft l).length) (bad : Bool) :
    textOf l = strOfNums ((aft l).take n) ∧ aftT l = (aft l).drop n ∧ badT l bad = badOf l bad := by
  cases hs : (dec l).isSome with
  | true =>
    have hd := decT_num h hn hs
    unfold textOf aftT badT
    rw [hd, bad_some hs]
    exact ⟨rfl, rfl, by simp⟩
  | false =>
    have hd := decT_none0 hs
    obtain ⟨h1, h2, h3⟩ := num_none hs
    unfold textOf aftT badT
    rw [hd, h2, h3]
    exact ⟨by simp [strOfNums]; rfl, by simp, by simp⟩
theorem textNone {l : List Int} (h : numOf l < 0 ∨ ((aft l).length : Int) < numOf l) (bad : Bool) : textOf l = ByteArray.empty ∧ aftT l = [] ∧ badT l bad = true := by
  unfold textOf aftT badT
  rw [decT_none1 h]
  exact ⟨rfl, rfl, by simp⟩

theorem take_C {w : World} {A : Option Addr} {l : List Int} {n : Nat} (h : (Kd.int .u8).C w A l.length l) (hn : n ≤ l.length) : (Kd.int .u8).C w A n (l.take n) := by
  have h2 := Kd.C_take h hn
  rwa [List.length_take, Nat.min_eq_left hn] at h2
theorem info_size : ∃ i0, Try.prog.info? 5 = some i0 ∧ i0.size = 1 := by obtain ⟨i0, h1, h2⟩ := Option.map_eq_some_iff.1 size_u8; exact ⟨i0, h1, h2⟩
set_option maxRecDepth 100000 in
theorem text_calls (P : Nat → Prop) (w : World) (g : Nat) (l : List Int) (bad : Bool) (hI : Rd 98 P w g l bad) (hb : isBytes l) :
    Calls Try.prog 31 #[.pointer (some ⟨g, 0, none⟩)] w fun e w' => e = .returned (.string (textOf l)) ∧ Rd 98 P w' g (aftT l) (badT l bad) ∧ Below g w w' ∧ KeepBut w w' g none := by
  have hn64 := numOf_i64 hb
  obtain ⟨x, hx⟩ : ∃ x, numOf l = x := ⟨_, rfl⟩
  rw [hx] at hn64
  obtain ⟨hx1, hx2⟩ := hn64
  have HX := Aside0.mk hx
  by_cases hneg : x < 0
  · have e1 : decide (x < 0) = true := decide_eq_true hneg
    obtain ⟨t1, t2, t3⟩ := textNone (l := l) (.inl (by omega)) bad
    rw [t1, t2, t3]
    go_enter Try.func31, Try.ntmps31
    go_wp2_with (first | (go_at_call 30; refine (num_calls' x P w g l bad hI hb hx).mono ?_; rintro e w1 ⟨rfl, hI2, hb2, hk2⟩; have HI2 := Aside0.mk hI2; obtain ⟨A, c, hblk, hc, hr, hP, hg⟩ := hI2; have hc0 : w1.cell? ⟨g, 0, none⟩ = some (.slice A (aft l).length c) := blk_cell hblk 0; have hf0 : w1.frozen? ⟨g, 0, none⟩ = false := blk_frozen hblk 0; have HBK := Aside0.mk hblk; have HG := Aside0.mk hg; have HC := Aside0.mk hc; have HR := Aside0.mk hr; have HP := Aside0.mk hP; have HB := Aside0.mk hb2; have HK := Aside0.mk hk2; clear hblk hg hc hr hb2 hk2 hP) | (go_at_call 48; refine (fail_calls P _ g (aft l) (badOf l bad) HI2.out).mono ?_; rintro e w2 ⟨rfl, hI3, hb2, hk2⟩; have n1_ := Aside0.mk hI3; have n2_ := Aside0.mk (HB.out.trans hb2); have n3_ := Aside0.mk (keep_step HK.out hk2); clear hI3 hb2 hk2))
    go_ret
    exact ⟨rfl, n1_.out, n2_.out, n3_.out⟩
  · have e1 : decide (x < 0) = false := decide_eq_false hneg
    by_cases hbig : ((aft l).length : Int) < x
    · have e2 : decide (((aft l).length : Int) < x) = true := decide_eq_true hbig
      obtain ⟨t1, t2, t3⟩ := textNone (l := l) (.inr (by omega)) bad
      rw [t1, t2, t3]
      go_enter Try.func31, Try.ntmps31
      go_wp2_with (first | (go_at_call 30; refine (num_calls' x P w g l bad hI hb hx).mono ?_; rintro e w1 ⟨rfl, hI2, hb2, hk2⟩; have HI2 := Aside0.mk hI2; obtain ⟨A, c, hblk, hc, hr, hP, hg⟩ := hI2; have hc0 : w1.cell? ⟨g, 0, none⟩ = some (.slice A (aft l).length c) := blk_cell hblk 0; have hf0 : w1.frozen? ⟨g, 0, none⟩ = false := blk_frozen hblk 0; have HBK := Aside0.mk hblk; have HG := Aside0.mk hg; have HC := Aside0.mk hc; have HR := Aside0.mk hr; have HP := Aside0.mk hP; have HB := Aside0.mk hb2; have HK := Aside0.mk hk2; clear hblk hg hc hr hb2 hk2 hP) | (go_at_call 48; refine (fail_calls P _ g (aft l) (badOf l bad) HI2.out).mono ?_; rintro e w2 ⟨rfl, hI3, hb2, hk2⟩; have n1_ := Aside0.mk hI3; have n2_ := Aside0.mk (HB.out.trans hb2); have n3_ := Aside0.mk (keep_step HK.out hk2); clear hI3 hb2 hk2))
      go_ret
      exact ⟨rfl, n1_.out, n2_.out, n3_.out⟩
    · have e2 : decide (((aft l).length : Int) < x) = false := decide_eq_false hbig
      obtain ⟨n, rfl⟩ := Int.eq_ofNat_of_zero_le (show 0 ≤ x by omega)
      obtain ⟨t1, t2, t3⟩ := textEnd (l := l) n hx (by omega) bad
      rw [t1, t2, t3]
      have hna : n ≤ (aft l).length := by omega
      go_enter Try.func31, Try.ntmps31
      go_wp2_with (first | (go_at_call 30; refine (num_calls' (n : Int) P w g l bad hI hb hx).mono ?_; rintro e w1 ⟨rfl, hI2, hb2, hk2⟩; have HI2 := Aside0.mk hI2; obtain ⟨A, c, hblk, hc, hr, hP, hg⟩ := hI2; have hc0 : w1.cell? ⟨g, 0, none⟩ = some (.slice A (aft l).length c) := blk_cell hblk 0; have hf0 : w1.frozen? ⟨g, 0, none⟩ = false := blk_frozen hblk 0; have HBK := Aside0.mk hblk; have HG := Aside0.mk hg; have HC := Aside0.mk hc; have HR := Aside0.mk hr; have HP := Aside0.mk hP; have HB := Aside0.mk hb2; have HK := Aside0.mk hk2; clear hblk hg hc hr hb2 hk2 hP; have hnc : n ≤ c := (by have := HC.out; omega); have hcv := Kd.C_string (P := Try.prog) (c := c) Try.underlying41 Try.underlying5 Try.underlying9 (take_C HR.out hna); obtain ⟨i0, hi0, hi1⟩ := info_size; obtain ⟨A', hcut, hA', hAb⟩ := cutL (P := Try.prog) 41 5 .i64 Try.underlying41 hi0 hi1 A (aft l).length c n hna; have HA := Aside0.mk (hA' w1 (aft l) HC.out HR.out); have HAB := Aside0.mk hAb; clear hA' hi0 hi1 hAb))
      go_ret
      have hs := blk_set HBK.out 0 (.slice A' ((aft l).length - n) (c - n))
      have hbl : ∀ ad, A' = some ad → 0 < ((aft l).drop n).length → P ad.block := fun ad e hn => by
        obtain ⟨ad0, h1, h2⟩ := HAB.out ad e
        rw [h2]; exact HP.out ad0 h1 (by rw [List.length_drop] at hn; omega)
      refine ⟨rfl, ⟨A', c - n, by simpa using hs, by simp only [List.length_drop]; (have := HC.out; omega), Kd.C_keep (0 : Int) (by simp only [List.length_drop]; exact HA.out) ((KeepBut.refl w1 g none).set_ 0 _) (fun ad e hn he => HG.out (he ▸ hbl ad e hn)), hbl, HG.out⟩, belowSet HB.out _, HK.out.set_ 0 _⟩

end Go.Proofs.Ytocpcnmnhckcpaa.Num
namespace Go.Proofs.Ytocpcnmnhckcpaa.Prt
open Go.RowKit Go.Proofs.YtocpcnmnhckcpaaW.PrintWords Go.Proofs.YtocpcnmnhckcpaaW.PrintLast Go.Proofs.YtocpcnmnhckcpaaW.PrintMore
attribute [local go_sem] max2_int min2_int max_two min_two max_three min_three max_four min_four   -- for this text's walks alone
set_option linter.unusedVariables false
set_option linter.unusedSimpArgs false



def errW : Option Int → Value
  | none => .nilIface
  | some c => .iface 0 (.int .i64 c)
theorem errW_none : errW none = .nilIface := rfl
theorem errW_some (c : Int) : errW (some c) = .iface 0 (.int .i64 c) := rfl

theorem info9 : (Try.prog.info? 9).map (fun i => (i.zero, i.size, i.bytes)) = some (some (.string ⟨#[]⟩), 1, 16) := by kernel_rfl
structure S90 where
  f0 : ByteArray
  f1 : Int
def z90 : S90 := ⟨(⟨#[]⟩ : ByteArray), (0 : Int)⟩
def k90 : Kd S90 := Kd.iso (Kd.pair Kd.string (Kd.int .i64)) (fun x : S90 => (x.f0, x.f1))
theorem k90_open {w : World} {x : S90} {cs : List Value} (h : k90.K w x cs) : cs = [.string x.f0, .int .i64 x.f1] := by
  obtain ⟨_, _, rfl, rfl, rfl⟩ := h
  exact rfl
theorem k90_mkM (w : World) (base : Nat) (ok : Nat → Prop) (x : S90)  : k90.M w base ok x [.string x.f0, .int .i64 x.f1] := ⟨[.string x.f0], [.int .i64 x.f1], rfl, rfl, rfl⟩
def rd_T90 (xs : List S90) (i : Int) : S90 := xs.getD i.toNat z90
theorem at_T90 {w : World} {A : Option Addr} {n : Nat} {xs : List S90} (h : Kd.C k90 w A n xs) (i : Int) (h0 : 0 ≤ i) (h1 : i < n) : ∃ ad , A = some ad ∧ w.cell? (ad.add (i.toNat * 2)) = some (.string (rd_T90 xs i).f0) ∧ w.cell? ⟨(ad.add (i.toNat * 2)).block, (ad.add (i.toNat * 2)).off + 1, none⟩ = some (.int .i64 (rd_T90 xs i).f1) := by
  obtain ⟨ad, c, e, _, hK, hc0⟩ := Kd.C_get h z90 i h0 h1
  have hc : ∀ j u, c[j]? = some u → w.cell? (ad.add (i.toNat * 2 + j)) = some u := hc0
  obtain rfl := k90_open hK
  exact ⟨ad, e, hc 0 _ rfl, by rw [← add_field _ _ 1 (by omega)]; exact hc 1 _ rfl⟩

structure S31 where
  f0 : ByteArray
  f1 : ByteArray
  f2 : (List ByteArray)
  f3 : (List S90)
def z31 : S31 := ⟨(⟨#[]⟩ : ByteArray), (⟨#[]⟩ : ByteArray), ([] : List ByteArray), ([] : List S90)⟩
def k31 : Kd S31 := Kd.iso (Kd.pair Kd.string (Kd.pair Kd.string (Kd.pair (Kd.slice 9 Kd.string) (Kd.slice 90 k90)))) (fun x : S31 => (x.f0, x.f1, x.f2, x.f3))
theorem k31_open {w : World} {x : S31} {cs : List Value} (h : k31.K w x cs) : ∃ A2 c2 A3 c3, cs = [.string x.f0, .string x.f1, .slice A2 x.f2.length c2, .slice A3 x.f3.length c3] ∧ x.f2.length ≤ c2 ∧ Kd.string.C w A2 x.f2.length x.f2 ∧ x.f3.length ≤ c3 ∧ k90.C w A3 x.f3.length x.f3 := by
  obtain ⟨_, _, rfl, rfl, ⟨_, _, rfl, rfl, ⟨_, _, rfl, ⟨A2, c2, rfl, l2, g2⟩, ⟨A3, c3, rfl, l3, g3⟩⟩⟩⟩ := h
  exact ⟨A2, c2, A3, c3, rfl, l2, g2, l3, g3⟩
theorem k31_mk (w : World) (x : S31) {A2 : Option Addr} {c2 : Nat} (l2 : x.f2.length ≤ c2) (g2 : Kd.string.C w A2 x.f2.length x.f2) {A3 : Option Addr} {c3 : Nat} (l3 : x.f3.length ≤ c3) (g3 : k90.C w A3 x.f3.length x.f3) : k31.K w x [.string x.f0, .string x.f1, .slice A2 x.f2.length c2, .slice A3 x.f3.length c3] := ⟨[.string x.f0], [.string x.f1, .slice A2 x.f2.length c2, .slice A3 x.f3.length c3], rfl, rfl, ⟨[.string x.f1], [.slice A2 x.f2.length c2, .slice A3 x.f3.length c3], rfl, rfl, ⟨[.slice A2 x.f2.length c2], [.slice A3 x.f3.length c3], rfl, ⟨A2, c2, rfl, l2, g2⟩, ⟨A3, c3, rfl, l3, g3⟩⟩⟩⟩
theorem k31_mkM (w : World) (base : Nat) (ok : Nat → Prop) (x : S31) {v2 : Value} (g2 : Kd.string.R 9 w base ok v2 x.f2) {v3 : Value} (g3 : k90.R 90 w base ok v3 x.f3) : k31.M w base ok x [.string x.f0, .string x.f1, v2, v3] := ⟨[.string x.f0], [.string x.f1, v2, v3], rfl, rfl, ⟨[.string x.f1], [v2, v3], rfl, rfl, ⟨[v2], [v3], rfl, ⟨v2, rfl, g2⟩, ⟨v3, rfl, g3⟩⟩⟩⟩
structure S92 where
  f0 : (List ByteArray)
  f1 : (List ByteArray)
def z92 : S92 := ⟨([] : List ByteArray), ([] : List ByteArray)⟩
def k92 : Kd S92 := Kd.iso (Kd.pair (Kd.slice 9 Kd.string) (Kd.slice 9 Kd.string)) (fun x : S92 => (x.f0, x.f1))
theorem k92_open {w : World} {x : S92} {cs : List Value} (h : k92.K w x cs) : ∃ A0 c0 A1 c1, cs = [.slice A0 x.f0.length c0, .slice A1 x.f1.length c1] ∧ x.f0.length ≤ c0 ∧ Kd.string.C w A0 x.f0.length x.f0 ∧ x.f1.length ≤ c1 ∧ Kd.string.C w A1 x.f1.length x.f1 := by
  obtain ⟨_, _, rfl, ⟨A0, c0, rfl, l0, g0⟩, ⟨A1, c1, rfl, l1, g1⟩⟩ := h
  exact ⟨A0, c0, A1, c1, rfl, l0, g0, l1, g1⟩
theorem k92_mkM (w : World) (base : Nat) (ok : Nat → Prop) (x : S92) {v0 : Value} (g0 : Kd.string.R 9 w base ok v0 x.f0) {v1 : Value} (g1 : Kd.string.R 9 w base ok v1 x.f1) : k92.M w base ok x [v0, v1] := ⟨[v0], [v1], rfl, ⟨v0, rfl, g0⟩, ⟨v1, rfl, g1⟩⟩
def rd_T92 (xs : List S92) (i : Int) : S92 := xs.getD i.toNat z92
theorem at_T92 {w : World} {A : Option Addr} {n : Nat} {xs : List S92} (h : Kd.C k92 w A n xs) (i : Int) (h0 : 0 ≤ i) (h1 : i < n) : ∃ ad A0 c0 A1 c1, A = some ad ∧ w.cell? (ad.add (i.toNat * 2)) = some (.slice A0 (rd_T92 xs i).f0.length c0) ∧ w.cell? ⟨(ad.add (i.toNat * 2)).block, (ad.add (i.toNat * 2)).off + 1, none⟩ = some (.slice A1 (rd_T92 xs i).f1.length c1) ∧ (rd_T92 xs i).f0.length ≤ c0 ∧ Kd.string.C w A0 (rd_T92 xs i).f0.length (rd_T92 xs i).f0 ∧ (rd_T92 xs i).f1.length ≤ c1 ∧ Kd.string.C w A1 (rd_T92 xs i).f1.length (rd_T92 xs i).f1 := by
  obtain ⟨ad, c, e, _, hK, hc0⟩ := Kd.C_get h z92 i h0 h1
  have hc : ∀ j u, c[j]? = some u → w.cell? (ad.add (i.toNat * 2 + j)) = some u := hc0
  obtain ⟨A0, c0, A1, c1, rfl, l0, g0, l1, g1⟩ := k92_open hK
  exact ⟨ad, A0, c0, A1, c1, e, hc 0 _ rfl, by rw [← add_field _ _ 1 (by omega)]; exact hc 1 _ rfl, l0, g0, l1, g1⟩

structure S34 where
  f0 : (List S92)
def z34 : S34 := ⟨([] : List S92)⟩
def k34 : Kd S34 := Kd.iso (Kd.slice 92 k92) (fun x : S34 => x.f0)
theorem k34_open {w : World} {x : S34} {cs : List Value} (h : k34.K w x cs) : ∃ A0 c0, cs = [.slice A0 x.f0.length c0] ∧ x.f0.length ≤ c0 ∧ k92.C w A0 x.f0.length x.f0 := by
  obtain ⟨A0, c0, rfl, l0, g0⟩ := h
  exact ⟨A0, c0, rfl, l0, g0⟩
theorem k34_mk (w : World) (x : S34) {A0 : Option Addr} {c0 : Nat} (l0 : x.f0.length ≤ c0) (g0 : k92.C w A0 x.f0.length x.f0) : k34.K w x [.slice A0 x.f0.length c0] := ⟨A0, c0, rfl, l0, g0⟩
theorem k34_mkM (w : World) (base : Nat) (ok : Nat → Prop) (x : S34) {v0 : Value} (g0 : k92.R 92 w base ok v0 x.f0) : k34.M w base ok x [v0] := ⟨v0, rfl, g0⟩
structure S36 where
  f0 : Int
  f1 : Int
  f2 : Int
  f3 : Int
  f4 : ByteArray
  f5 : S31
  f6 : S34
def z36 : S36 := ⟨(0 : Int), (0 : Int), (0 : Int), (0 : Int), (⟨#[]⟩ : ByteArray), z31, z34⟩
def k36 : Kd S36 := Kd.iso (Kd.pair (Kd.int .i64) (Kd.pair (Kd.int .i64) (Kd.pair (Kd.int .i64) (Kd.pair (Kd.int .i64) (Kd.pair Kd.string (Kd.pair k31 k34)))))) (fun x : S36 => (x.f0, x.f1, x.f2, x.f3, x.f4, x.f5, x.f6))
theorem k36_open {w : World} {x : S36} {cs : List Value} (h : k36.K w x cs) : ∃ A7 c7 A8 c8 A9 c9, cs = [.int .i64 x.f0, .int .i64 x.f1, .int .i64 x.f2, .int .i64 x.f3, .string x.f4, .string x.f5.f0, .string x.f5.f1, .slice A7 x.f5.f2.length c7, .slice A8 x.f5.f3.length c8, .slice A9 x.f6.f0.length c9] ∧ x.f5.f2.length ≤ c7 ∧ Kd.string.C w A7 x.f5.f2.length x.f5.f2 ∧ x.f5.f3.length ≤ c8 ∧ k90.C w A8 x.f5.f3.length x.f5.f3 ∧ x.f6.f0.length ≤ c9 ∧ k92.C w A9 x.f6.f0.length x.f6.f0 := by
  obtain ⟨_, _, rfl, rfl, ⟨_, _, rfl, rfl, ⟨_, _, rfl, rfl, ⟨_, _, rfl, rfl, ⟨_, _, rfl, rfl, ⟨_, _, rfl, s5, s9⟩⟩⟩⟩⟩⟩ := h
  obtain ⟨A7, c7, A8, c8, rfl, l7, g7, l8, g8⟩ := k31_open s5
  obtain ⟨A9, c9, rfl, l9, g9⟩ := k34_open s9
  exact ⟨A7, c7, A8, c8, A9, c9, rfl, l7, g7, l8, g8, l9, g9⟩
theorem k36_mk (w : World) (x : S36) {A7 : Option Addr} {c7 : Nat} (l7 : x.f5.f2.length ≤ c7) (g7 : Kd.string.C w A7 x.f5.f2.length x.f5.f2) {A8 : Option Addr} {c8 : Nat} (l8 : x.f5.f3.length ≤ c8) (g8 : k90.C w A8 x.f5.f3.length x.f5.f3) {A9 : Option Addr} {c9 : Nat} (l9 : x.f6.f0.length ≤ c9) (g9 : k92.C w A9 x.f6.f0.length x.f6.f0) : k36.K w x [.int .i64 x.f0, .int .i64 x.f1, .int .i64 x.f2, .int .i64 x.f3, .string x.f4, .string x.f5.f0, .string x.f5.f1, .slice A7 x.f5.f2.length c7, .slice A8 x.f5.f3.length c8, .slice A9 x.f6.f0.length c9] := ⟨[.int .i64 x.f0], [.int .i64 x.f1, .int .i64 x.f2, .int .i64 x.f3, .string x.f4, .string x.f5.f0, .string x.f5.f1, .slice A7 x.f5.f2.length c7, .slice A8 x.f5.f3.length c8, .slice A9 x.f6.f0.length c9], rfl, rfl, ⟨[.int .i64 x.f1], [.int .i64 x.f2, .int .i64 x.f3, .string x.f4, .string x.f5.f0, .string x.f5.f1, .slice A7 x.f5.f2.length c7, .slice A8 x.f5.f3.length c8, .slice A9 x.f6.f0.length c9], rfl, rfl, ⟨[.int .i64 x.f2], [.int .i64 x.f3, .string x.f4, .string x.f5.f0, .string x.f5.f1, .slice A7 x.f5.f2.length c7, .slice A8 x.f5.f3.length c8, .slice A9 x.f6.f0.length c9], rfl, rfl, ⟨[.int .i64 x.f3], [.string x.f4, .string x.f5.f0, .string x.f5.f1, .slice A7 x.f5.f2.length c7, .slice A8 x.f5.f3.length c8, .slice A9 x.f6.f0.length c9], rfl, rfl, ⟨[.string x.f4], [.string x.f5.f0, .string x.f5.f1, .slice A7 x.f5.f2.length c7, .slice A8 x.f5.f3.length c8, .slice A9 x.f6.f0.length c9], rfl, rfl, ⟨[.string x.f5.f0, .string x.f5.f1, .slice A7 x.f5.f2.length c7, .slice A8 x.f5.f3.length c8], [.slice A9 x.f6.f0.length c9], rfl, (k31_mk w x.f5 l7 g7 l8 g8), (k34_mk w x.f6 l9 g9)⟩⟩⟩⟩⟩⟩
theorem k36_mkM (w : World) (base : Nat) (ok : Nat → Prop) (x : S36) {v7 : Value} (g7 : Kd.string.R 9 w base ok v7 x.f5.f2) {v8 : Value} (g8 : k90.R 90 w base ok v8 x.f5.f3) {v9 : Value} (g9 : k92.R 92 w base ok v9 x.f6.f0) : k36.M w base ok x [.int .i64 x.f0, .int .i64 x.f1, .int .i64 x.f2, .int .i64 x.f3, .string x.f4, .string x.f5.f0, .string x.f5.f1, v7, v8, v9] := ⟨[.int .i64 x.f0], [.int .i64 x.f1, .int .i64 x.f2, .int .i64 x.f3, .string x.f4, .string x.f5.f0, .string x.f5.f1, v7, v8, v9], rfl, rfl, ⟨[.int .i64 x.f1], [.int .i64 x.f2, .int .i64 x.f3, .string x.f4, .string x.f5.f0, .string x.f5.f1, v7, v8, v9], rfl, rfl, ⟨[.int .i64 x.f2], [.int .i64 x.f3, .string x.f4, .string x.f5.f0, .string x.f5.f1, v7, v8, v9], rfl, rfl, ⟨[.int .i64 x.f3], [.string x.f4, .string x.f5.f0, .string x.f5.f1, v7, v8, v9], rfl, rfl, ⟨[.string x.f4], [.string x.f5.f0, .string x.f5.f1, v7, v8, v9], rfl, rfl, ⟨[.string x.f5.f0, .string x.f5.f1, v7, v8], [v9], rfl, (k31_mkM w base ok x.f5 g7 g8), (k34_mkM w base ok x.f6 g9)⟩⟩⟩⟩⟩⟩
def rd_T36 (xs : List S36) (i : Int) : S36 := xs.getD i.toNat z36
theorem at_T36 {w : World} {A : Option Addr} {n : Nat} {xs : List S36} (h : Kd.C k36 w A n xs) (i : Int) (h0 : 0 ≤ i) (h1 : i < n) : ∃ ad A7 c7 A8 c8 A9 c9, A = some ad ∧ w.cell? (ad.add (i.toNat * 10)) = some (.int .i64 (rd_T36 xs i).f0) ∧ w.cell? ⟨(ad.add (i.toNat * 10)).block, (ad.add (i.toNat * 10)).off + 1, none⟩ = some (.int .i64 (rd_T36 xs i).f1) ∧ w.cell? ⟨(ad.add (i.toNat * 10)).block, (ad.add (i.toNat * 10)).off + 2, none⟩ = some (.int .i64 (rd_T36 xs i).f2) ∧ w.cell? ⟨(ad.add (i.toNat * 10)).block, (ad.add (i.toNat * 10)).off + 3, none⟩ = some (.int .i64 (rd_T36 xs i).f3) ∧ w.cell? ⟨(ad.add (i.toNat * 10)).block, (ad.add (i.toNat * 10)).off + 4, none⟩ = some (.string (rd_T36 xs i).f4) ∧ w.cell? ⟨(ad.add (i.toNat * 10)).block, (ad.add (i.toNat * 10)).off + 5, none⟩ = some (.string (rd_T36 xs i).f5.f0) ∧ w.cell? ⟨(ad.add (i.toNat * 10)).block, (ad.add (i.toNat * 10)).off + 6, none⟩ = some (.string (rd_T36 xs i).f5.f1) ∧ w.cell? ⟨(ad.add (i.toNat * 10)).block, (ad.add (i.toNat * 10)).off + 7, none⟩ = some (.slice A7 (rd_T36 xs i).f5.f2.length c7) ∧ w.cell? ⟨(ad.add (i.toNat * 10)).block, (ad.add (i.toNat * 10)).off + 8, none⟩ = some (.slice A8 (rd_T36 xs i).f5.f3.length c8) ∧ w.cell? ⟨(ad.add (i.toNat * 10)).block, (ad.add (i.toNat * 10)).off + 9, none⟩ = some (.slice A9 (rd_T36 xs i).f6.f0.length c9) ∧ (rd_T36 xs i).f5.f2.length ≤ c7 ∧ Kd.string.C w A7 (rd_T36 xs i).f5.f2.length (rd_T36 xs i).f5.f2 ∧ (rd_T36 xs i).f5.f3.length ≤ c8 ∧ k90.C w A8 (rd_T36 xs i).f5.f3.length (rd_T36 xs i).f5.f3 ∧ (rd_T36 xs i).f6.f0.length ≤ c9 ∧ k92.C w A9 (rd_T36 xs i).f6.f0.length (rd_T36 xs i).f6.f0 := by
  obtain ⟨ad, c, e, _, hK, hc0⟩ := Kd.C_get h z36 i h0 h1
  have hc : ∀ j u, c[j]? = some u → w.cell? (ad.add (i.toNat * 10 + j)) = some u := hc0
  obtain ⟨A7, c7, A8, c8, A9, c9, rfl, l7, g7, l8, g8, l9, g9⟩ := k36_open hK
  exact ⟨ad, A7, c7, A8, c8, A9, c9, e, hc 0 _ rfl, by rw [← add_field _ _ 1 (by omega)]; exact hc 1 _ rfl, by rw [← add_field _ _ 2 (by omega)]; exact hc 2 _ rfl, by rw [← add_field _ _ 3 (by omega)]; exact hc 3 _ rfl, by rw [← add_field _ _ 4 (by omega)]; exact hc 4 _ rfl, by rw [← add_field _ _ 5 (by omega)]; exact hc 5 _ rfl, by rw [← add_field _ _ 6 (by omega)]; exact hc 6 _ rfl, by rw [← add_field _ _ 7 (by omega)]; exact hc 7 _ rfl, by rw [← add_field _ _ 8 (by omega)]; exact hc 8 _ rfl, by rw [← add_field _ _ 9 (by omega)]; exact hc 9 _ rfl, l7, g7, l8, g8, l9, g9⟩

end Go.Proofs.Ytocpcnmnhckcpaa.Prt
namespace Go.Proofs.Ytocpcnmnhckcpaa.Nam
open Go.RowKit Go.Proofs.YtocpcnmnhckcpaaW.PrintWords Go.Proofs.YtocpcnmnhckcpaaW.PrintLast Go.Proofs.YtocpcnmnhckcpaaW.PrintMore Go.Proofs.Ytocpcnmnhckcpaa.Num Go.Proofs.Ytocpcnmnhckcpaa.Prt
set_option linter.unusedVariables false
set_option linter.unusedSimpArgs false

def plainC (c : Int) : Bool := decide (97 ≤ c ∧ c ≤ 122) || decide (48 ≤ c ∧ c ≤ 57) || decide (c = 45) || decide (c = 95)
def two (c d : Int) : Bool := decide (c = 195 ∧ (d = 169 ∨ d = 184 ∨ d = 159)) || decide (c = 206 ∧ d = 187)
/-- What two bytes are folded to. -/
def big (c d : Int) : List Int := if c = 195 ∧ d = 137 then [195, 169] else if c = 195 ∧ d = 152 then [195, 184] else if c = 206 ∧ d = 155 then [206, 187] else []
/-- How many bytes the letter at the head has. -/
def letD : List Int → Nat
  | [] => 0
  | [c] => if plainC c then 1 else 0
  | c :: d :: _ => if plainC c then 1 else if two c d then 2 else 0
def bigD : List Int → List Int
  | c :: d :: _ => big c d
  | _ => []
theorem bytes_extract (s : ByteArray) (i j : Nat) : bytesOf (s.extract i j) = ((bytesOf s).drop i).take (j - i) := by
  unfold bytesOf
  rw [ByteArray.data_extract, Array.toList_extract, List.extract_eq_take_drop, List.map_take, List.map_drop]
theorem bytes_length (s : ByteArray) : (bytesOf s).length = s.size := by unfold bytesOf; rw [List.length_map, Array.length_toList]; rfl
theorem wrap_small {n : Int} (h0 : -9223372036854775808 ≤ n) (h1 : n ≤ 9223372036854775807) : wrap64 n = n := by unfold wrap64; omega
theorem drop_cons (l : List Int) (i : Nat) (h : i < l.length) : l.drop i = l.getD i 0 :: l.drop (i + 1) := by
  rw [List.drop_eq_getElem_cons h, List.getD_eq_getElem?_getD, List.getElem?_eq_getElem h]; rfl
theorem letD_le (l : List Int) : letD l ≤ l.length ∧ letD l ≤ 2 := by
  match l with
  | [] => simp [letD]
  | [c] => simp only [letD, List.length_cons, List.length_nil]; split <;> omega
  | c :: d :: r => simp only [letD, List.length_cons]; (repeat' split) <;> omega
def lettersOnly (l : List Int) : Bool := if h : letD l = 0 then l.isEmpty else lettersOnly (l.drop (letD l))
termination_by l.length
decreasing_by
  have := letD_le l
  rw [List.length_drop]; omega
theorem lettersOnly_nil : lettersOnly [] = true := by rw [lettersOnly]; rfl
theorem lettersOnly_bad {l : List Int} (h : letD l = 0) (hl : l ≠ []) : lettersOnly l = false := by rw [lettersOnly, dif_pos h]; cases l with | nil => exact absurd rfl hl | cons c r => rfl
theorem lettersOnly_step {l : List Int} (h : letD l ≠ 0) : lettersOnly l = lettersOnly (l.drop (letD l)) := by rw [lettersOnly, dif_neg h]
def notFirst (c : Int) : Bool := decide (48 ≤ c ∧ c ≤ 57) || decide (c = 45)
def mayL (l : List Int) : Bool := decide (1 ≤ l.length ∧ l.length ≤ 24) && !notFirst (l.getD 0 0) && lettersOnly l
/-- What is folded at the head: the bytes laid, and how many are taken. -/
def stepL (l : List Int) : List Int × Nat :=
  let c := l.getD 0 0
  if 0 < letD l then (l.take (letD l), letD l)
  else if 65 ≤ c ∧ c ≤ 90 then ([c + 32], 1)
  else if c = 32 ∨ c = 46 ∨ c = 47 then ([45], 1)
  else if bigD l ≠ [] then (bigD l, 2)
  else ([], 1)
theorem bigD_len (l : List Int) : bigD l = [] ∨ ((bigD l).length = 2 ∧ 2 ≤ l.length) := by
  match l with
  | [] => exact .inl rfl
  | [c] => exact .inl rfl
  | c :: d :: r => simp only [bigD, big, List.length_cons]; (repeat' split) <;> simp
theorem stepL_len {l : List Int} (hl : l ≠ []) : 1 ≤ (stepL l).2 ∧ (stepL l).2 ≤ l.length ∧ (stepL l).1.length ≤ (stepL l).2 := by
  have h1 := letD_le l
  have h2 := bigD_len l
  have h3 : 1 ≤ l.length := List.length_pos_iff.2 hl
  simp only [stepL]
  repeat' split
  · rw [List.length_take]; omega
  · simp; omega
  · simp; omega
  · rcases h2 with h | ⟨h, h'⟩
    · contradiction
    · exact ⟨Nat.le_succ 1, h', Nat.le_of_eq h⟩
  · simp; omega
def foldL (l : List Int) : List Int := if h : l = [] then [] else (stepL l).1 ++ foldL (l.drop (stepL l).2)
termination_by l.length
decreasing_by
  have := stepL_len h
  rw [List.length_drop]; omega
theorem foldL_step {l : List Int} (h : l ≠ []) : foldL l = (stepL l).1 ++ foldL (l.drop (stepL l).2) := by rw [foldL, dif_neg h]
theorem strOfNums_size' (l : List Int) : (strOfNums l).size = l.length := by unfold strOfNums; show (List.toArray _).size = _; simp
/-- The bytes of a letter's rune. -/
def encR (r : Int) : List Int := if r ≤ 127 then [r] else [192 + r / 64, 128 + r % 64]
theorem dec_sum (s : ByteArray) (i : Nat) (hi : i < s.size) :
    ((s.get! i).toNat < 128 ∧ (Utf8.decode s i).1 = (s.get! i).toNat ∧ (Utf8.decode s i).2 = 1) ∨
    (128 ≤ (s.get! i).toNat ∧ i + 1 < s.size ∧ (s.get! i).toNat / 32 = 6 ∧ (s.get! (i + 1)).toNat / 64 = 2 ∧ (Utf8.decode s i).1 = ((s.get! i).toNat % 32) * 64 + (s.get! (i + 1)).toNat % 64 ∧ 128 ≤ ((s.get! i).toNat % 32) * 64 + (s.get! (i + 1)).toNat % 64 ∧ (Utf8.decode s i).2 = 2) ∨
    (128 ≤ (s.get! i).toNat ∧ ((Utf8.decode s i).1 = 65533 ∨ 2048 ≤ (Utf8.decode s i).1) ∧ 1 ≤ (Utf8.decode s i).2 ∧ i + (Utf8.decode s i).2 ≤ s.size ∧ (∀ k, 1 ≤ k → k < (Utf8.decode s i).2 → (s.get! (i + k)).toNat / 64 = 2) ∧ ¬ (i + 1 < s.size ∧ (s.get! i).toNat / 32 = 6 ∧ (s.get! (i + 1)).toNat / 64 = 2 ∧ 128 ≤ ((s.get! i).toNat % 32) * 64 + (s.get! (i + 1)).toNat % 64)) := by
  obtain ⟨f, hf⟩ : ∃ f : Nat → Nat, ∀ k, (s.get! (i + k)).toNat = f k := ⟨fun k => (s.get! (i + k)).toNat, fun _ => rfl⟩
  have h00 : (s.get! i).toNat = f 0 := hf 0
  unfold Utf8.decode
  simp only [hf, h00]
  clear h00 hf
  generalize f 0 = b0
  by_cases h0 : b0 < 128
  · rw [if_pos h0]; exact .inl ⟨h0, rfl, rfl⟩
  · rw [if_neg h0]
    right
    by_cases h1 : (b0 / 32 == 6 && (decide (i + 1 < s.size) && f 1 / 64 == 2)) = true
    · rw [if_pos h1]
      simp only [Bool.and_eq_true, beq_iff_eq, decide_eq_true_eq] at h1
      by_cases h2 : b0 % 32 * 64 + f 1 % 64 ≥ 128
      · rw [if_pos h2]; exact .inl ⟨by omega, h1.2.1, h1.1, h1.2.2, rfl, h2, rfl⟩
      · rw [if_neg h2]; exact .inr ⟨by omega, .inl rfl, Nat.le_refl _, by simp only; omega, fun k hk hk2 => by simp only at hk2; omega, fun h => by omega⟩
    · rw [if_neg h1]
      simp only [Bool.and_eq_true, beq_iff_eq, decide_eq_true_eq] at h1
      right
      have hno : ¬ (i + 1 < s.size ∧ b0 / 32 = 6 ∧ f 1 / 64 = 2 ∧ 128 ≤ b0 % 32 * 64 + f 1 % 64) := fun h => h1 ⟨h.2.1, h.1, h.2.2.1⟩
      have bad : 128 ≤ b0 ∧ ((65533 : Nat) = 65533 ∨ 2048 ≤ (65533 : Nat)) ∧ 1 ≤ 1 ∧ i + 1 ≤ s.size ∧ (∀ k, 1 ≤ k → k < 1 → f k / 64 = 2) ∧ ¬ (i + 1 < s.size ∧ b0 / 32 = 6 ∧ f 1 / 64 = 2 ∧ 128 ≤ b0 % 32 * 64 + f 1 % 64) :=
        ⟨by omega, .inl rfl, Nat.le_refl _, by omega, fun k hk hk2 => by omega, hno⟩
      by_cases h3 : (b0 / 16 == 14 && (decide (i + 1 < s.size) && f 1 / 64 == 2) && (decide (i + 2 < s.size) && f 2 / 64 == 2)) = true
      · rw [if_pos h3]
        simp only [Bool.and_eq_true, beq_iff_eq, decide_eq_true_eq] at h3
        split
        · rename_i h4
          simp only [Bool.and_eq_true, decide_eq_true_eq] at h4
          exact ⟨by omega, .inr h4.1, Nat.succ_le_succ (Nat.zero_le _), by simp only; omega, fun k hk hk2 => by
            simp only at hk2
            rcases (show k = 1 ∨ k = 2 by omega) with rfl | rfl
            · exact h3.1.2.2
            · exact h3.2.2, hno⟩
        · exact bad
      · rw [if_neg h3]
        by_cases h5 : (b0 / 8 == 30 && (decide (i + 1 < s.size) && f 1 / 64 == 2) && (decide (i + 2 < s.size) && f 2 / 64 == 2) && (decide (i + 3 < s.size) && f 3 / 64 == 2)) = true
        · rw [if_pos h5]
          simp only [Bool.and_eq_true, beq_iff_eq, decide_eq_true_eq] at h5
          split
          · rename_i h4
            simp only [Bool.and_eq_true, decide_eq_true_eq] at h4
            exact ⟨by omega, .inr (by omega), Nat.succ_le_succ (Nat.zero_le _), by simp only; omega, fun k hk hk2 => by
              simp only at hk2
              rcases (show k = 1 ∨ k = 2 ∨ k = 3 by omega) with rfl | rfl | rfl
              · exact h5.1.1.2.2
              · exact h5.1.2.2
              · exact h5.2.2, hno⟩
          · exact bad
        · rw [if_neg h5]
          exact bad
def letR (c : Int) : Bool := plainC c || decide (c = 233 ∨ c = 248 ∨ c = 223 ∨ c = 955)
def smallR (c : Int) : Int := if c = 32 ∨ c = 46 ∨ c = 47 then 45 else if c = 201 then 233 else if c = 216 then 248 else if c = 923 then 955 else if letR c then c else if 65 ≤ c ∧ c ≤ 90 then c + 32 else 65533
theorem plain_range {c : Int} (h : plainC c = true) : 45 ≤ c ∧ c ≤ 122 ∧ c ≠ 46 ∧ c ≠ 47 := by
  unfold plainC at h
  simp only [Bool.or_eq_true, decide_eq_true_eq] at h
  omega
theorem two_iff {c d : Int} : two c d = true ↔ (c = 195 ∧ (d = 169 ∨ d = 184 ∨ d = 159)) ∨ (c = 206 ∧ d = 187) := by unfold two; simp
theorem gb (s : ByteArray) (j : Nat) (h : j < s.size) : (bytesOf s).getD j 0 = ((s.get! j).toNat : Int) := by
  unfold bytesOf
  have h2 : j < s.data.size := h
  rw [List.getD_eq_getElem?_getD, List.getElem?_map, Array.getElem?_toList, Array.getElem?_eq_getElem h2]
  have e : s.get! j = s.data[j] := by
    show s.data[j]! = _
    rw [getElem!_pos s.data j h2]
  rw [e]; rfl
theorem skip1 (c : Int) (r : List Int) (h : letD (c :: r) = 0) (hb : bigD (c :: r) = []) (hc : 128 ≤ c) : foldL (c :: r) = foldL r := by
  rw [foldL_step (by simp)]
  have e : stepL (c :: r) = ([], 1) := by
    unfold stepL
    simp only [h, hb, List.getD_cons_zero]
    rw [if_neg (by decide), if_neg (by omega), if_neg (by omega), if_neg (by simp)]
  rw [e]; rfl
theorem skipC (d : Int) (r : List Int) (h1 : 128 ≤ d) (h2 : d < 192) : foldL (d :: r) = foldL r := by
  have hp : ¬ plainC d = true := fun h => by have := plain_range h; omega
  refine skip1 d r ?_ ?_ h1
  · cases r with
    | nil => simp [letD, hp]
    | cons e t =>
      simp only [letD, if_neg hp]
      rw [if_neg (fun h => by rw [two_iff] at h; omega)]
  · cases r with
    | nil => rfl
    | cons e t => simp only [bigD, big]; rw [if_neg (by omega), if_neg (by omega), if_neg (by omega)]
theorem letD_pos1 {c : Int} {r : List Int} (h : plainC c = true) : letD (c :: r) = 1 := by
  cases r with
  | nil => simp [letD, h]
  | cons d t => simp [letD, h]
theorem letD0 {c : Int} {r : List Int} (hp : ¬ plainC c = true) (h1 : c ≠ 195) (h2 : c ≠ 206) : letD (c :: r) = 0 ∧ bigD (c :: r) = [] := by
  cases r with
  | nil => exact ⟨by simp [letD, hp], rfl⟩
  | cons d t =>
    refine ⟨?_, ?_⟩
    · simp only [letD, if_neg hp]
      rw [if_neg (fun h => by rw [two_iff] at h; omega)]
    · simp only [bigD, big]; rw [if_neg (by omega), if_neg (by omega), if_neg (by omega)]
theorem letR_small {r : Int} (h : letR r = true) : smallR r = r := by
  have h0 := h
  unfold letR at h
  simp only [Bool.or_eq_true, decide_eq_true_eq] at h
  unfold smallR
  have hr : r ≠ 32 ∧ r ≠ 46 ∧ r ≠ 47 ∧ r ≠ 201 ∧ r ≠ 216 ∧ r ≠ 923 := by
    rcases h with h | h
    · have := plain_range h; omega
    · omega
  rw [if_neg (by omega), if_neg (by omega), if_neg (by omega), if_neg (by omega), if_pos h0]
/-- What the next rune is, told by the bytes at hand. -/
theorem rune_cases (s : ByteArray) (i : Nat) (hi : i < s.size) (L : List Int) (hL : L = (bytesOf s).drop i) (r : Int) (w : Nat) (hr : r = ((Utf8.decode s i).1 : Int)) (hw : w = (Utf8.decode s i).2) :
    1 ≤ w ∧ i + w ≤ s.size ∧ ((0 < letD L ∧ w = letD L ∧ letR r = true ∧ encR r = L.take w ∧ smallR r = r ∧ ((0 ≤ r ∧ r ≤ 127) ∨ r = 233 ∨ r = 248 ∨ r = 223 ∨ r = 955) ∧ (r ≤ 57 ↔ notFirst (L.getD 0 0) = true)) ∨
      (letD L = 0 ∧ letR r = false ∧ ((smallR r ≠ 65533 ∧ encR (smallR r) = (stepL L).1 ∧ w = (stepL L).2 ∧ ((0 ≤ smallR r ∧ smallR r ≤ 127) ∨ smallR r = 233 ∨ smallR r = 248 ∨ smallR r = 223 ∨ smallR r = 955)) ∨ (smallR r = 65533 ∧ foldL L = foldL (L.drop w))))) := by
  have hlen : (bytesOf s).length = s.size := bytes_length s
  have hc := gb s i hi
  rw [drop_cons _ i (by omega), hc] at hL
  generalize hb0 : (s.get! i).toNat = b0 at *
  have hb : b0 < 256 := by rw [← hb0]; exact UInt8.toNat_lt _
  rcases dec_sum s i hi with ⟨h1, h2, h3⟩ | ⟨h1, h2, h3, h4, h5, h6, h7⟩ | ⟨h1, h2, h3, h4, h5, h6⟩
  · rw [hb0] at h1 h2
    rw [h2] at hr
    rw [h3] at hw
    subst hr; subst hw
    refine ⟨Nat.le_refl _, by omega, ?_⟩
    by_cases hp : plainC (b0 : Int) = true
    · left
      have hl : letR (b0 : Int) = true := by unfold letR; rw [hp]; rfl
      have hpr := plain_range hp
      have e1 : letD L = 1 := by rw [hL]; exact letD_pos1 hp
      refine ⟨by omega, e1.symm, hl, ?_, letR_small hl, .inl ⟨by omega, by omega⟩, ?_⟩
      · unfold encR; rw [if_pos (by omega), hL]; rfl
      · rw [hL, List.getD_cons_zero]; unfold notFirst; simp only [Bool.or_eq_true, decide_eq_true_eq]; omega
    · right
      obtain ⟨e1, e2⟩ := letD0 (r := (bytesOf s).drop (i + 1)) hp (by omega) (by omega)
      rw [← hL] at e1 e2
      have hl : letR (b0 : Int) = false := by
        unfold letR
        have : plainC (b0 : Int) = false := by simpa using hp
        rw [this, Bool.false_or]
        exact decide_eq_false (by omega)
      refine ⟨e1, hl, ?_⟩
      have hg : L.getD 0 0 = (b0 : Int) := by rw [hL]; rfl
      by_cases hs : (b0 : Int) = 32 ∨ (b0 : Int) = 46 ∨ (b0 : Int) = 47
      · left
        have e : smallR (b0 : Int) = 45 := by unfold smallR; rw [if_pos hs]
        rw [e]
        refine ⟨by decide, ?_, ?_, by omega⟩
        · unfold stepL; simp only [e1, hg]; rw [if_neg (by decide), if_neg (by omega), if_pos hs]; rfl
        · unfold stepL; simp only [e1, hg]; rw [if_neg (by decide), if_neg (by omega), if_pos hs]
      · by_cases hu : 65 ≤ (b0 : Int) ∧ (b0 : Int) ≤ 90
        · left
          have e : smallR (b0 : Int) = (b0 : Int) + 32 := by unfold smallR; rw [if_neg hs, if_neg (by omega), if_neg (by omega), if_neg (by omega), if_neg (by rw [hl]; decide), if_pos hu]
          rw [e]
          refine ⟨by omega, ?_, ?_, by omega⟩
          · unfold stepL; simp only [e1, hg]; rw [if_neg (by decide), if_pos hu]; unfold encR; rw [if_pos (by omega)]
          · unfold stepL; simp only [e1, hg]; rw [if_neg (by decide), if_pos hu]
        · right
          have e : smallR (b0 : Int) = 65533 := by unfold smallR; rw [if_neg hs, if_neg (by omega), if_neg (by omega), if_neg (by omega), if_neg (by rw [hl]; decide), if_neg hu]
          refine ⟨e, ?_⟩
          have hne : L ≠ [] := by rw [hL]; simp
          rw [foldL_step hne]
          have e3 : stepL L = ([], 1) := by unfold stepL; simp only [e1, hg, e2]; rw [if_neg (by decide), if_neg hu, if_neg hs, if_neg (by simp)]
          rw [e3]; rfl
  · rw [hb0] at h1 h3 h5 h6
    have hd := gb s (i + 1) h2
    rw [drop_cons _ (i + 1) (by omega), hd] at hL
    generalize hb1 : (s.get! (i + 1)).toNat = b1 at *
    have hbb : b1 < 256 := by rw [← hb1]; exact UInt8.toNat_lt _
    rw [h5] at hr
    rw [h7] at hw
    subst hw
    refine ⟨by omega, by omega, ?_⟩
    have hp : ¬ plainC (b0 : Int) = true := fun h => by have := plain_range h; omega
    have hrp : plainC r = false := by
      cases h : plainC r with
      | false => rfl
      | true => have := plain_range h; omega
    by_cases ht : two (b0 : Int) (b1 : Int) = true
    · left
      have e1 : letD L = 2 := by rw [hL]; simp only [letD, if_neg hp, if_pos ht]
      rw [two_iff] at ht
      have hl : letR r = true := by unfold letR; rw [hrp, Bool.false_or]; exact decide_eq_true (by omega)
      refine ⟨by omega, e1.symm, hl, ?_, letR_small hl, .inr (by omega), ?_⟩
      · unfold encR; rw [if_neg (by omega), hL]
        show _ = [(b0 : Int), (b1 : Int)]
        congr 1
        · omega
        · congr 1; omega
      · rw [hL, List.getD_cons_zero]; unfold notFirst; simp only [Bool.or_eq_true, decide_eq_true_eq]; omega
    · right
      have e1 : letD L = 0 := by rw [hL]; simp only [letD, if_neg hp, if_neg ht]
      have ht' : ¬ (((b0 : Int) = 195 ∧ ((b1 : Int) = 169 ∨ (b1 : Int) = 184 ∨ (b1 : Int) = 159)) ∨ ((b0 : Int) = 206 ∧ (b1 : Int) = 187)) := fun h => ht (two_iff.2 h)
      have hl : letR r = false := by unfold letR; rw [hrp, Bool.false_or]; exact decide_eq_false (by omega)
      refine ⟨e1, hl, ?_⟩
      have hg : L.getD 0 0 = (b0 : Int) := by rw [hL]; rfl
      have step2 : ∀ o, big (b0 : Int) (b1 : Int) = o → o ≠ [] → stepL L = (o, 2) := by
        intro o ho hno
        have e2 : bigD L = o := by rw [hL]; exact ho
        unfold stepL; simp only [e1, hg, e2]; rw [if_neg (by decide), if_neg (by omega), if_neg (by omega), if_pos hno]
      by_cases g1 : r = 201
      · left
        have e : smallR r = 233 := by unfold smallR; rw [if_neg (by omega), if_pos g1]
        have e3 := step2 [195, 169] (by unfold big; rw [if_pos (by omega)]) (by simp)
        rw [e, e3]
        exact ⟨by decide, rfl, rfl, by decide⟩
      · by_cases g2 : r = 216
        · left
          have e : smallR r = 248 := by unfold smallR; rw [if_neg (by omega), if_neg g1, if_pos g2]
          have e3 := step2 [195, 184] (by unfold big; rw [if_neg (by omega), if_pos (by omega)]) (by simp)
          rw [e, e3]
          exact ⟨by decide, rfl, rfl, by decide⟩
        · by_cases g3 : r = 923
          · left
            have e : smallR r = 955 := by unfold smallR; rw [if_neg (by omega), if_neg g1, if_neg g2, if_pos g3]
            have e3 := step2 [206, 187] (by unfold big; rw [if_neg (by omega), if_neg (by omega), if_pos (by omega)]) (by simp)
            rw [e, e3]
            exact ⟨by decide, rfl, rfl, by decide⟩
          · right
            have e : smallR r = 65533 := by unfold smallR; rw [if_neg (by omega), if_neg g1, if_neg g2, if_neg g3, if_neg (by rw [hl]; decide), if_neg (by omega)]
            have e2 : bigD L = [] := by rw [hL]; simp only [bigD, big]; rw [if_neg (by omega), if_neg (by omega), if_neg (by omega)]
            refine ⟨e, ?_⟩
            rw [hL] at e1 e2 ⊢
            rw [skip1 _ _ e1 e2 (by omega), skipC _ _ (by omega) (by omega)]; rfl
  · rw [hb0] at h1 h6
    rw [← hw] at h3 h4 h5
    refine ⟨h3, h4, .inr ?_⟩
    have hp : ¬ plainC (b0 : Int) = true := fun h => by have := plain_range h; omega
    have hrp : plainC r = false := by
      cases h : plainC r with
      | false => rfl
      | true => have := plain_range h; omega
    have hl : letR r = false := by unfold letR; rw [hrp, Bool.false_or]; exact decide_eq_false (by omega)
    have e12 : letD L = 0 ∧ bigD L = [] := by
      rw [hL]
      by_cases hi1 : i + 1 < s.size
      · have hd := gb s (i + 1) hi1
        rw [drop_cons _ (i + 1) (by omega), hd]
        generalize hb1 : (s.get! (i + 1)).toNat = b1 at *
        have hbb : b1 < 256 := by rw [← hb1]; exact UInt8.toNat_lt _
        have hno : ¬ (((b0 : Int) = 195 ∨ (b0 : Int) = 206) ∧ 128 ≤ b1 ∧ b1 < 192) := fun h => h6 ⟨hi1, by omega, by omega, by omega⟩
        refine ⟨?_, ?_⟩
        · simp only [letD, if_neg hp]
          rw [if_neg (fun h => by rw [two_iff] at h; omega)]
        · simp only [bigD, big]; rw [if_neg (by omega), if_neg (by omega), if_neg (by omega)]
      · have : (bytesOf s).drop (i + 1) = [] := List.drop_eq_nil_of_le (by omega)
        rw [this]
        exact ⟨by simp [letD, hp], rfl⟩
    refine ⟨e12.1, hl, .inr ⟨?_, ?_⟩⟩
    · unfold smallR; rw [if_neg (by omega), if_neg (by omega), if_neg (by omega), if_neg (by omega), if_neg (by rw [hl]; decide), if_neg (by omega)]
    · have key : ∀ j, 1 ≤ j → j ≤ w → foldL L = foldL (L.drop j) := by
        intro j
        induction j with
        | zero => intro h; omega
        | succ j ih =>
          intro _ hj
          by_cases hj0 : j = 0
          · subst hj0
            have e1 := e12.1; have e2 := e12.2
            rw [hL] at e1 e2 ⊢
            exact skip1 _ _ e1 e2 (by omega)
          · rw [ih (by omega) (by omega)]
            have hcj := h5 j (by omega) (by omega)
            have hij : i + j < s.size := by omega
            have hgj := gb s (i + j) hij
            have e : L.drop j = (bytesOf s).drop (i + j) := by rw [hL, ← hc, ← drop_cons _ i (by omega), List.drop_drop]
            have e' : L.drop (j + 1) = (bytesOf s).drop (i + j + 1) := by rw [hL, ← hc, ← drop_cons _ i (by omega), List.drop_drop]; rfl
            have hbb : (s.get! (i + j)).toNat < 256 := UInt8.toNat_lt _
            rw [e, e', drop_cons _ (i + j) (by omega), hgj]
            exact skipC _ _ (by omega) (by omega)
      exact key w h3 (Nat.le_refl _)
end Go.Proofs.Ytocpcnmnhckcpaa.Nam
namespace Go.Proofs.Ytocpcnmnhckcpaa.Prt
open Go.RowKit Go.Proofs.YtocpcnmnhckcpaaW.PrintWords Go.Proofs.YtocpcnmnhckcpaaW.PrintLast Go.Proofs.YtocpcnmnhckcpaaW.PrintMore
attribute [local go_sem] max2_int min2_int max_two min_two max_three min_three max_four min_four   -- for this text's walks alone
set_option linter.unusedVariables false
set_option linter.unusedSimpArgs false

mutual
def name_letter.j1 : Nat → Int → Option (Bool)
  | 0, _ => none
  | k + 1, x0 => if x0 = 45 then (some true) else (if x0 = 95 then (some true) else (if x0 = 233 then (some true) else (if x0 = 248 then (some true) else (if x0 = 223 then (some true) else (if x0 = 955 then (some true) else (some false))))))
def name_letter.j0 : Nat → Int → Bool → Option (Bool)
  | 0, _, _ => none
  | k + 1, x0, x3 => if x3 = true then (some true) else (if 48 ≤ x0 then (if x0 ≤ 57 then (some true) else (name_letter.j1 k x0)) else (name_letter.j1 k x0))
end
def name_letter.f (k : Nat) (a0 : Int) : Option (Bool) := if 97 ≤ a0 then (name_letter.j0 k a0 (decide (a0 ≤ 122))) else (name_letter.j0 k a0 false)
set_option maxHeartbeats 8000000 in
set_option maxRecDepth 100000 in
theorem name_letter.calls (k : Nat) (a0 : Int) (r : Bool) (w : World) (h : name_letter.f k a0 = some r) :
    Calls Try.prog 82 #[.int .i32 a0] w fun e w' => e = .returned (.bool r) ∧ Drawn0 w w' := by
  have H : (if 97 ≤ a0 then (name_letter.j0 k a0 (decide (a0 ≤ 122))) else (name_letter.j0 k a0 false)) = some r := h
  clear h
  have HC2 := Aside0.mk H
  clear H
  go_enter Try.func82, Try.ntmps82
  go_upto_block 0 with (fail)
  go_cut [] (fun wc => ∃ (kq : Nat), Aside0 (name_letter.j1 kq a0 = some r) ∧ Aside0 (kq ≤ k) ∧ Drawn0 w wc)
  case first =>
    have H := HC2.out
    clear HC2
    have HC3 := Aside0.mk H
    clear H
    go_upto_region 1 with (fail)
    go_cut [3] (fun v3 wc => ∃ (kq : Nat) (x3_2 : Bool), v3 = .bool x3_2 ∧ Aside0 (name_letter.j0 kq a0 x3_2 = some r) ∧ Aside0 (kq ≤ k) ∧ Drawn0 w wc)
    case first =>
      have H := HC3.out
      clear HC3
      by_cases c4 : 97 ≤ a0
      · rw [if_pos c4] at H
        have c4b0 : decide (97 ≤ a0) = true := decide_eq_true c4
        clear c4
        (first | rw [c4b0] | (simp only [i64_w, i32_w]; rw [c4b0]) | skip)
        have H' := Aside0.mk H
        clear H
        go_wp2
        go_meet
        case rel => exact ⟨_, (decide (a0 ≤ 122)), (by first | rfl | (simp; done) | (simp [*]; done)), H', ⟨by first | omega | exact Nat.le_refl _⟩, by repeat (first | exact Drawn0.refl _ | apply Drawn0.step)⟩
      · rw [if_neg c4] at H
        have c4b0 : decide (97 ≤ a0) = false := decide_eq_false c4
        clear c4
        (first | rw [c4b0] | (simp only [i64_w, i32_w]; rw [c4b0]) | skip)
        have H' := Aside0.mk H
        clear H
        go_wp2
        go_meet
        case rel => exact ⟨_, (false), (by first | rfl | (simp; done) | (simp [*]; done)), H', ⟨by first | omega | exact Nat.le_refl _⟩, by repeat (first | exact Drawn0.refl _ | apply Drawn0.step)⟩
    case rest =>
      clear HC3
      try clear p2
      try clear c4
      try clear c4b0
      obtain ⟨kq, x3_2, rfl, HA, HJ2, ⟨mc2, rfl⟩⟩ := hcut
      cases kq with
      | zero => exact absurd HA.out (by simp [name_letter.j0])
      | succ kj2 =>
        have H := HA.out
        clear HA
        simp only [name_letter.j0] at H
        by_cases c5 : x3_2 = true
        · subst c5
          have H1 : (some true) = some r := by rw [if_pos rfl] at H; exact H
          clear H
          have H := H1
          clear H1
          obtain rfl := Option.some.inj H
          go_wp2
          go_ret
          exact ⟨by first | rfl | (simp; done) | (simp [*]; done), by repeat (first | exact Drawn0.refl _ | apply Drawn0.step)⟩
        · replace c5 := Bool.eq_false_iff.mpr c5
          subst c5
          have H1 : (if 48 ≤ a0 then (if a0 ≤ 57 then (some true) else (name_letter.j1 kj2 a0)) else (name_letter.j1 kj2 a0)) = some r := by rw [if_neg (show ¬ (false = true) by decide)] at H; exact H
          clear H
          have H := H1
          clear H1
          by_cases c6 : 48 ≤ a0
          · rw [if_pos c6] at H
            have c6b0 : decide (48 ≤ a0) = true := decide_eq_true c6
            clear c6
            by_cases c7 : a0 ≤ 57
            · rw [if_pos c7] at H
              have c7b0 : decide (a0 ≤ 57) = true := decide_eq_true c7
              clear c7
              obtain rfl := Option.some.inj H
              go_wp2
              go_ret
              exact ⟨by first | rfl | (simp; done) | (simp [*]; done), by repeat (first | exact Drawn0.refl _ | apply Drawn0.step)⟩
            · rw [if_neg c7] at H
              have c7b0 : decide (a0 ≤ 57) = false := decide_eq_false c7
              clear c7
              have H' := Aside0.mk H
              clear H
              go_wp2
              go_meet
              case rel => exact ⟨_, H', ⟨by have := HJ2.out; first | omega | exact Nat.le_refl _⟩, by repeat (first | exact Drawn0.refl _ | apply Drawn0.step)⟩
          · rw [if_neg c6] at H
            have c6b0 : decide (48 ≤ a0) = false := decide_eq_false c6
            clear c6
            have H' := Aside0.mk H
            clear H
            go_wp2
            go_meet
            case rel => exact ⟨_, H', ⟨by have := HJ2.out; first | omega | exact Nat.le_refl _⟩, by repeat (first | exact Drawn0.refl _ | apply Drawn0.step)⟩
  case rest =>
    clear HC2
    try clear c2
    try clear p2
    try clear c4
    try clear c4b0
    try clear c5
    try clear c6
    try clear c6b0
    try clear c7
    try clear c7b0
    try clear p2
    obtain ⟨kq, HA, HJ1, ⟨mc1, rfl⟩⟩ := hcut
    cases kq with
    | zero => exact absurd HA.out (by simp [name_letter.j1])
    | succ kj1 =>
      have H := HA.out
      clear HA
      simp only [name_letter.j1] at H
      by_cases c8 : a0 = 45
      · rw [if_pos c8] at H
        have c8b0 : (a0 == 45) = true := beq_iff_eq.mpr c8
        have c8b1 : (a0 != 45) = false := bne_eq_false_iff_eq.mpr c8
        clear c8
        obtain rfl := Option.some.inj H
        go_wp2
        go_ret
        exact ⟨by first | rfl | (simp; done) | (simp [*]; done), by repeat (first | exact Drawn0.refl _ | apply Drawn0.step)⟩
      · rw [if_neg c8] at H
        have c8b0 : (a0 == 45) = false := beq_eq_false_iff_ne.mpr c8
        have c8b1 : (a0 != 45) = true := bne_iff_ne.mpr c8
        by_cases c9 : a0 = 95
        · rw [if_pos c9] at H
          have c9b0 : (a0 == 95) = true := beq_iff_eq.mpr c9
          have c9b1 : (a0 != 95) = false := bne_eq_false_iff_eq.mpr c9
          clear c9
          obtain rfl := Option.some.inj H
          go_wp2
          go_ret
          exact ⟨by first | rfl | (simp; done) | (simp [*]; done), by repeat (first | exact Drawn0.refl _ | apply Drawn0.step)⟩
        · rw [if_neg c9] at H
          have c9b0 : (a0 == 95) = false := beq_eq_false_iff_ne.mpr c9
          have c9b1 : (a0 != 95) = true := bne_iff_ne.mpr c9
          by_cases c10 : a0 = 233
          · rw [if_pos c10] at H
            have c10b0 : (a0 == 233) = true := beq_iff_eq.mpr c10
            have c10b1 : (a0 != 233) = false := bne_eq_false_iff_eq.mpr c10
            clear c10
            obtain rfl := Option.some.inj H
            go_wp2
            go_ret
            exact ⟨by first | rfl | (simp; done) | (simp [*]; done), by repeat (first | exact Drawn0.refl _ | apply Drawn0.step)⟩
          · rw [if_neg c10] at H
            have c10b0 : (a0 == 233) = false := beq_eq_false_iff_ne.mpr c10
            have c10b1 : (a0 != 233) = true := bne_iff_ne.mpr c10
            by_cases c11 : a0 = 248
            · rw [if_pos c11] at H
              have c11b0 : (a0 == 248) = true := beq_iff_eq.mpr c11
              have c11b1 : (a0 != 248) = false := bne_eq_false_iff_eq.mpr c11
              clear c11
              obtain rfl := Option.some.inj H
              go_wp2
              go_ret
              exact ⟨by first | rfl | (simp; done) | (simp [*]; done), by repeat (first | exact Drawn0.refl _ | apply Drawn0.step)⟩
            · rw [if_neg c11] at H
              have c11b0 : (a0 == 248) = false := beq_eq_false_iff_ne.mpr c11
              have c11b1 : (a0 != 248) = true := bne_iff_ne.mpr c11
              by_cases c12 : a0 = 223
              · rw [if_pos c12] at H
                have c12b0 : (a0 == 223) = true := beq_iff_eq.mpr c12
                have c12b1 : (a0 != 223) = false := bne_eq_false_iff_eq.mpr c12
                clear c12
                obtain rfl := Option.some.inj H
                go_wp2
                go_ret
                exact ⟨by first | rfl | (simp; done) | (simp [*]; done), by repeat (first | exact Drawn0.refl _ | apply Drawn0.step)⟩
              · rw [if_neg c12] at H
                have c12b0 : (a0 == 223) = false := beq_eq_false_iff_ne.mpr c12
                have c12b1 : (a0 != 223) = true := bne_iff_ne.mpr c12
                by_cases c13 : a0 = 955
                · rw [if_pos c13] at H
                  have c13b0 : (a0 == 955) = true := beq_iff_eq.mpr c13
                  have c13b1 : (a0 != 955) = false := bne_eq_false_iff_eq.mpr c13
                  clear c13
                  obtain rfl := Option.some.inj H
                  go_wp2
                  go_ret
                  exact ⟨by first | rfl | (simp; done) | (simp [*]; done), by repeat (first | exact Drawn0.refl _ | apply Drawn0.step)⟩
                · rw [if_neg c13] at H
                  have c13b0 : (a0 == 955) = false := beq_eq_false_iff_ne.mpr c13
                  have c13b1 : (a0 != 955) = true := bne_iff_ne.mpr c13
                  obtain rfl := Option.some.inj H
                  go_wp2
                  go_ret
                  exact ⟨by first | rfl | (simp; done) | (simp [*]; done), by repeat (first | exact Drawn0.refl _ | apply Drawn0.step)⟩

end Go.Proofs.Ytocpcnmnhckcpaa.Prt
namespace Go.Proofs.Ytocpcnmnhckcpaa.Nam
open Go.RowKit Go.Proofs.YtocpcnmnhckcpaaW.PrintWords Go.Proofs.YtocpcnmnhckcpaaW.PrintLast Go.Proofs.YtocpcnmnhckcpaaW.PrintMore Go.Proofs.Ytocpcnmnhckcpaa.Num Go.Proofs.Ytocpcnmnhckcpaa.Prt
set_option linter.unusedVariables false
set_option linter.unusedSimpArgs false

theorem letter_fn (c : Int) : name_letter.f 2 c = some (letR c) := by
  unfold name_letter.f letR plainC
  simp only [name_letter.j0, name_letter.j1]
  repeat' split
  all_goals first | contradiction | (congr 1; rw [Bool.eq_iff_iff]; simp at *; omega) | skip
theorem letter_calls (c : Int) (w : World) : Calls Try.prog 82 #[.int .i32 c] w fun e w' => e = .returned (.bool (letR c)) ∧ Drawn0 w w' := name_letter.calls 2 c _ w (letter_fn c)
theorem may_calls (s : ByteArray) (w : World) (hs : s.size ≤ 9223372036854775807) :
    Calls Try.prog 62 #[.string s] w fun e w' => e = .returned (.bool (mayL (bytesOf s))) ∧ Below w.heap.size w w' := by
  have hlen : (bytesOf s).length = s.size := bytes_length s
  by_cases h0 : s.size = 0
  · have e : mayL (bytesOf s) = false := by unfold mayL; rw [hlen, decide_eq_false (by omega)]; rfl
    have hb : ((s.size : Int) == 0) = true := beq_iff_eq.mpr (by omega)
    rw [e]
    go_enter Try.func62, Try.ntmps62
    go_wp2
    go_ret
    exact ⟨rfl, Below.refl _ _⟩
  · by_cases h24 : 24 < s.size
    · have e : mayL (bytesOf s) = false := by unfold mayL; rw [hlen, decide_eq_false (by omega)]; rfl
      have hb : ((s.size : Int) == 0) = false := beq_eq_false_iff_ne.mpr (by omega)
      have hb2 : decide ((24 : Int) < (s.size : Int)) = true := decide_eq_true (by omega)
      rw [e]
      go_enter Try.func62, Try.ntmps62
      go_wp2
      go_ret
      exact ⟨rfl, Below.refl _ _⟩
    · have hb : ((s.size : Int) == 0) = false := beq_eq_false_iff_ne.mpr (by omega)
      have hb2 : decide ((24 : Int) < (s.size : Int)) = false := decide_eq_false (by omega)
      have HE : Aside0 (mayL (bytesOf s) = (!notFirst ((bytesOf s).getD 0 0) && lettersOnly (bytesOf s))) := ⟨by unfold mayL; rw [hlen, decide_eq_true (by omega)]; rfl⟩
      obtain ⟨b, hbr⟩ : ∃ b, mayL (bytesOf s) = b := ⟨_, rfl⟩
      rw [hbr]
      rw [hbr] at HE
      clear hbr
      go_enter Try.func62, Try.ntmps62
      go_wp2_with fail
      go_loopw [] (fun wr => ∃ pos : Nat, wr.heap[w.heap.size]? = some (.stringIter s pos) ∧ Aside0 (Below w.heap.size w wr) ∧ Aside0 (lettersOnly (bytesOf s) = lettersOnly ((bytesOf s).drop pos)) ∧ Aside0 (0 < pos → notFirst ((bytesOf s).getD 0 0) = false)) (fun wr => s.size - wr.iterPos w.heap.size)
      case atStart =>
        refine ⟨0, ?_, ⟨(Below.refl _ w).alloc (Nat.le_refl _) _⟩, ⟨by rw [List.drop_zero]⟩, ⟨fun h => by omega⟩⟩
        have := World.iter_heap w s 0
        simpa using this
      case round =>
        obtain ⟨pos, hit, HB, HL, HF⟩ := hrel
        by_cases hp : pos < s.size
        · have hnx := fun ty => Lib.run_next_any_at (P := Try.prog) wr w.heap.size s pos ty hit hp
          obtain ⟨r, hr⟩ : ∃ r : Int, r = ((Utf8.decode s pos).1 : Int) := ⟨_, rfl⟩
          obtain ⟨n, hn⟩ : ∃ n : Nat, n = (Utf8.decode s pos).2 := ⟨_, rfl⟩
          obtain ⟨hw1, hw2, hcase⟩ := rune_cases s pos hp _ rfl r n hr hn
          simp only [← hr, ← hn] at hnx
          have HIT := Aside0.mk (Lib.iterAt_heap wr w.heap.size s pos (pos + n) hit)
          have HB2 := Aside0.mk (Lib.below_iterAt HB.out (k := w.heap.size) (Nat.le_refl _) s (pos + n))
          have hlet := letter_calls r
          have hne : (bytesOf s).drop pos ≠ [] := fun e => by have := congrArg List.length e; rw [List.length_drop, hlen] at this; simp at this; omega
          clear hr hn
          rcases hcase with ⟨a1, a2, a3, _, _, _, a7⟩ | ⟨b1, b2, _⟩
          · rw [a3] at hlet
            have HSTEP : Aside0 (lettersOnly (bytesOf s) = lettersOnly ((bytesOf s).drop (pos + n))) := ⟨by rw [HL.out, lettersOnly_step (by omega), List.drop_drop, a2]⟩
            clear a1 a2 hne
            by_cases hz : pos = 0
            · have hz1 : ((pos : Int) == 0) = true := beq_iff_eq.mpr (by omega)
              rw [hz, List.drop_zero] at a7
              clear hz
              by_cases h57 : r ≤ 57
              · have hd : decide (r ≤ 57) = true := decide_eq_true h57
                have hb' : b = false := by rw [HE.out, a7.1 h57]; rfl
                subst hb'
                clear a7 a3
                go_wp2_with (go_at_call 82; refine (hlet _).mono ?_; rintro e w3 ⟨rfl, ⟨m1, rfl⟩⟩)
                go_ret
                exact ⟨rfl, (by repeat (first | (with_reducible first | exact HB2.out | apply below_alloc | apply pw_below_drewN | apply below_drew1) | exact HB2.out))⟩
              · have hd : decide (r ≤ 57) = false := decide_eq_false h57
                have hnf : notFirst ((bytesOf s).getD 0 0) = false := by
                  cases h : notFirst ((bytesOf s).getD 0 0) with
                  | false => rfl
                  | true => exact absurd (a7.2 h) h57
                clear a7 a3
                go_wp2_with (go_at_call 82; refine (hlet _).mono ?_; rintro e w3 ⟨rfl, ⟨m1, rfl⟩⟩)
                go_roundw
                case rel => exact ⟨pos + n, HIT.out, ⟨(by repeat (first | (with_reducible first | exact HB2.out | apply below_alloc | apply pw_below_drewN | apply below_drew1) | exact HB2.out))⟩, HSTEP, ⟨fun _ => hnf⟩⟩
                case measure =>
                  simp only [World.iterPos, World.drewN, World.drew, HIT.out, hit]
                  omega
            · have hz1 : ((pos : Int) == 0) = false := beq_eq_false_iff_ne.mpr (by omega)
              have hnf := HF.out (by omega)
              clear a7 a3 hz
              go_wp2_with (go_at_call 82; refine (hlet _).mono ?_; rintro e w3 ⟨rfl, ⟨m1, rfl⟩⟩)
              go_roundw
              case rel => exact ⟨pos + n, HIT.out, ⟨(by repeat (first | (with_reducible first | exact HB2.out | apply below_alloc | apply pw_below_drewN | apply below_drew1) | exact HB2.out))⟩, HSTEP, ⟨fun _ => hnf⟩⟩
              case measure =>
                simp only [World.iterPos, World.drewN, World.drew, HIT.out, hit]
                omega
          · rw [b2] at hlet
            have hb' : b = false := by rw [HE.out, HL.out, lettersOnly_bad b1 hne, Bool.and_false]
            subst hb'
            go_wp2_with (go_at_call 82; refine (hlet _).mono ?_; rintro e w3 ⟨rfl, ⟨m1, rfl⟩⟩)
            go_ret
            exact ⟨rfl, (by repeat (first | (with_reducible first | exact HB2.out | apply below_alloc | apply pw_below_drewN | apply below_drew1) | exact HB2.out))⟩
        · have hnx := fun ty => Lib.run_next_end_at (P := Try.prog) wr w.heap.size s pos ty hit hp
          have hd : (bytesOf s).drop pos = [] := List.drop_eq_nil_of_le (by omega)
          have hb' : b = true := by rw [HE.out, HL.out, hd, lettersOnly_nil, HF.out (by omega)]; rfl
          subst hb'
          go_wp2_with fail
          go_ret
          exact ⟨rfl, HB.out⟩
theorem lo1 {c : Int} {r : List Int} (h : plainC c = true) : lettersOnly (c :: r) = lettersOnly r := by
  rw [lettersOnly_step (by rw [letD_pos1 h]; decide), letD_pos1 h]; rfl
theorem letD_two {c d : Int} {r : List Int} (h : two c d = true) : letD (c :: d :: r) = 2 := by
  have hp : ¬ plainC c = true := fun h2 => by rw [two_iff] at h; have := plain_range h2; omega
  simp only [letD, if_neg hp, if_pos h]
theorem lo2 {c d : Int} {r : List Int} (h : two c d = true) : lettersOnly (c :: d :: r) = lettersOnly r := by
  rw [lettersOnly_step (by rw [letD_two h]; decide), letD_two h]; rfl
theorem bytes_append (a b : ByteArray) : bytesOf (a ++ b) = bytesOf a ++ bytesOf b := by
  rw [← strOfNums_bytesOf a, ← strOfNums_bytesOf b, ← str_append, bytesOf_strOfNums (isBytes_append.2 ⟨bytesOf_isBytes a, bytesOf_isBytes b⟩), strOfNums_bytesOf, strOfNums_bytesOf]
/-- The contracts, told of a value by a name. -/
theorem mayC (b : Bool) (s : ByteArray) (w : World) (hs : s.size ≤ 9223372036854775807) (h : mayL (bytesOf s) = b) :
    Calls Try.prog 62 #[.string s] w fun e w' => e = .returned (.bool b) ∧ Below w.heap.size w w' := by
  subst h; exact may_calls s w (by omega)
theorem may_parts {l : List Int} (h : mayL l = true) : 1 ≤ l.length ∧ l.length ≤ 24 ∧ notFirst (l.getD 0 0) = false ∧ lettersOnly l = true := by
  unfold mayL at h
  simp only [Bool.and_eq_true, decide_eq_true_eq, Bool.not_eq_true'] at h
  exact ⟨h.1.1.1, h.1.1.2, h.1.2, h.2⟩
theorem letters_no58 : ∀ (n : Nat) (l : List Int), l.length ≤ n → lettersOnly l = true → (58 : Int) ∉ l := by
  intro n
  induction n with
  | zero =>
    intro l h _
    obtain rfl : l = [] := List.length_eq_zero_iff.1 (by omega)
    simp
  | succ n ih =>
    intro l hn ha
    match l, ha, hn with
    | [], _, _ => simp
    | [c], ha, _ =>
      by_cases hp : plainC c = true
      · intro hx
        rw [List.mem_singleton] at hx
        subst hx
        exact absurd hp (by decide)
      · rw [lettersOnly_bad (by simp [letD, hp]) (by simp)] at ha; cases ha
    | c :: d :: r, ha, hn =>
      simp only [List.length_cons] at hn
      by_cases hp : plainC c = true
      · rw [lo1 hp] at ha
        have h2 := ih (d :: r) (by simp only [List.length_cons]; omega) ha
        intro hx
        rcases List.mem_cons.1 hx with e | hx
        · subst e; exact absurd hp (by decide)
        · exact h2 hx
      · by_cases ht : two c d = true
        · rw [lo2 ht] at ha
          have h2 := ih r (by omega) ha
          rw [two_iff] at ht
          intro hx
          rcases List.mem_cons.1 hx with e | hx
          · omega
          · rcases List.mem_cons.1 hx with e | hx
            · omega
            · exact h2 hx
        · rw [lettersOnly_bad (by simp only [letD, if_neg hp, if_neg ht]) (by simp)] at ha; cases ha
theorem may_no58 {s : ByteArray} (h : mayL (bytesOf s) = true) : (58 : Int) ∉ bytesOf s := letters_no58 _ _ (Nat.le_refl _) (may_parts h).2.2.2
theorem mem58 (s : ByteArray) : (58 : Int) ∈ bytesOf s ↔ (58 : UInt8) ∈ s.data.toList := by
  unfold bytesOf
  rw [List.mem_map]
  constructor
  · rintro ⟨b, hb, e⟩
    have : b = 58 := by
      apply UInt8.toNat.inj
      show b.toNat = 58
      omega
    rwa [this] at hb
  · intro h
    exact ⟨58, h, rfl⟩
theorem ix_none : ∀ l : List UInt8, (58 : UInt8) ∉ l → Lib.indexByte l 58 = -1 := by
  intro l
  induction l with
  | nil => intro _; rfl
  | cons b r ih =>
    intro h
    rw [List.mem_cons, not_or] at h
    have e : (b == 58) = false := beq_eq_false_iff_ne.mpr (fun e => h.1 e.symm)
    simp only [Lib.indexByte, e, ih h.2]
    rfl
theorem ix_some : ∀ (a b : List UInt8), (58 : UInt8) ∉ a → Lib.indexByte (a ++ 58 :: b) 58 = (a.length : Int) := by
  intro a
  induction a with
  | nil => intro b _; rfl
  | cons c r ih =>
    intro b h
    rw [List.mem_cons, not_or] at h
    have e : (c == 58) = false := beq_eq_false_iff_ne.mpr (fun e => h.1 e.symm)
    have e2 : ((r.length : Int) == -1) = false := beq_eq_false_iff_ne.mpr (by omega)
    show Lib.indexByte (c :: (r ++ 58 :: b)) 58 = _
    simp only [Lib.indexByte, e, ih b h.2, e2, List.length_cons]
    simp
/-- A text and its first colon. -/
theorem split58 (s : ByteArray) : (58 : Int) ∉ bytesOf s ∨ ∃ k v : ByteArray, s = k ++ (⟨#[58]⟩ : ByteArray) ++ v ∧ (58 : Int) ∉ bytesOf k ∧ k.size + v.size + 1 = s.size := by
  have key : ∀ l : List Int, isBytes l → (58 : Int) ∉ l ∨ ∃ a b, l = a ++ 58 :: b ∧ (58 : Int) ∉ a := by
    intro l
    induction l with
    | nil => intro _; exact .inl (by simp)
    | cons c r ih =>
      intro h
      by_cases hc : c = 58
      · exact .inr ⟨[], r, by rw [hc]; rfl, by simp⟩
      · rcases ih (fun x hx => h x (by simp [hx])) with h1 | ⟨a, b, h1, h2⟩
        · exact .inl (by rw [List.mem_cons, not_or]; exact ⟨fun e => hc e.symm, h1⟩)
        · exact .inr ⟨c :: a, b, by rw [h1]; rfl, by rw [List.mem_cons, not_or]; exact ⟨fun e => hc e.symm, h2⟩⟩
  rcases key (bytesOf s) (bytesOf_isBytes s) with h | ⟨a, b, h1, h2⟩
  · exact .inl h
  · right
    have hby := bytesOf_isBytes s
    rw [h1] at hby
    obtain ⟨ha, hb⟩ := isBytes_append.1 hby
    have hb2 : isBytes b := fun c hc => hb c (by simp [hc])
    have e58 : (⟨#[58]⟩ : ByteArray) = strOfNums [58] := rfl
    refine ⟨strOfNums a, strOfNums b, ?_, by rw [bytesOf_strOfNums ha]; exact h2, ?_⟩
    · rw [e58, ← str_append, ← str_append, List.append_assoc, List.singleton_append, ← h1, strOfNums_bytesOf]
    · rw [strOfNums_size', strOfNums_size', ← bytes_length s, h1, List.length_append, List.length_cons]; omega
theorem data_cat (k v : ByteArray) : (k ++ (⟨#[58]⟩ : ByteArray) ++ v).data.toList = k.data.toList ++ 58 :: v.data.toList := by
  rw [ByteArray.data_append, ByteArray.data_append, Array.toList_append, Array.toList_append, List.append_assoc]; rfl
theorem ext_head (k v : ByteArray) : (k ++ (⟨#[58]⟩ : ByteArray) ++ v).extract 0 k.size = k := by
  apply bytesOf_inj
  rw [bytes_extract, List.drop_zero, Nat.sub_zero, ByteArray.append_assoc, bytes_append, ← bytes_length k, List.take_left]
theorem ext_tail (k v : ByteArray) (n : Nat) (hn : n = (k ++ (⟨#[58]⟩ : ByteArray) ++ v).size) : (k ++ (⟨#[58]⟩ : ByteArray) ++ v).extract (k.size + 1) n = v := by
  apply bytesOf_inj
  have hk : (k ++ (⟨#[58]⟩ : ByteArray)).size = k.size + 1 := by rw [ByteArray.size_append]; rfl
  rw [bytes_extract, hn, ByteArray.size_append, hk, bytes_append, ← hk, ← bytes_length, List.drop_left, List.take_of_length_le (by rw [bytes_length]; omega)]
open Go.Proofs.YtocpcnmnhckcpaaW.PrintLast
def D41.T3 : Bool × List (List Nat × List Nat) := (true, [([], []), ([], []), ([0, 1], [0, 1]), ([], []), ([], []), ([], []), ([5], [5]), ([4, 6], [4, 6]), ([3, 7], [3, 7]), ([2, 0, 1, 2], [2]), ([8, 9, 0, 1, 2, 3, 4, 5, 6, 7, 8, 9], [8]), ([10, 0, 1, 2, 3, 4, 5, 6, 7, 8, 9, 10], [])])
def D41.B3 : List Nat := [0, 0, 3, 0, 0, 0, 32, 112, 248, 7, 1023, 2047]
theorem D41.tab3 : rtab .any (opsOf Try.f41 3) = D41.T3 := by kernel_rfl
theorem D41.bits3 : waitsOk D41.T3.2 D41.B3 = true := by kernel_rfl
set_option maxRecDepth 100000 in
theorem icut_yes (k v s : ByteArray) (w : World) (hs : s = k ++ (⟨#[58]⟩ : ByteArray) ++ v) (hk : (58 : Int) ∉ bytesOf k) (hz : s.size ≤ 9223372036854775807) (hkz : k.size + 1 ≤ s.size) :
    Calls Try.prog 41 #[.string s, .string ⟨#[58]⟩] w fun e w' => e = .returned (.tuple #[.string k, .string v, .bool true]) ∧ Below w.heap.size w w' := by
  have HE := Aside0.mk (show s.extract 0 k.size = k by rw [hs]; exact ext_head k v)
  have HT := Aside0.mk (show s.extract (k.size + 1) s.size = v by have := ext_tail k v s.size (by rw [hs]); rwa [← hs] at this)
  have hix : Lib.indexByte s.data.toList 58 = (k.size : Int) := by rw [hs, data_cat, ix_some _ _ (fun h => hk ((mem58 k).2 h)), Array.length_toList]; rfl
  have HIX := Aside0.mk hix
  clear hix hs hk
  have h0 : decide ((0 : Int) ≤ (k.size : Int)) = true := decide_eq_true (by omega)
  go_enter Try.func41, Try.ntmps41
  go_wp2_with fail
  have hC := Try.stringslite_Index_one s 58 w
  rw [HIX.out] at hC
  refine hC.mono ?_
  rintro e w1 ⟨rfl, rfl⟩
  have HBB := Aside0.mk (below_drew (Below.refl w1.heap.size w1))
  have hl1 : ¬ s.size < k.size := by omega
  have hl2 : (0 : Int) ≤ (k.size : Int) + 1 := by omega
  have hl3 : ¬ (s.size : Int) < (k.size : Int) + 1 := by omega
  have HL4 := Aside0.mk (wrap_small (n := (k.size : Int) + 1) (by omega) (by omega))
  go_wp2_with fail
  refine start_ (n := 12) (S := fun w' => True) (ds := []) #[false, false, false, false, false, false, false, false, false, false, false, false] (by kernel_rfl) rfl rfl trivial (fun hHeld => ?_); refine with_tabW D41.tab3 D41.bits3 (fun HT_ HW_ => ?_)
  refine inv_at [0, 1, 2, 3, 4, 5, 6, 7, 8, 9, 10, 11] (fun a0_ b a w' => a = putSel a0_ b [(0, 13, .string s), (1, 14, .int .i64 (k.size : Int)), (2, 15, .string (s.extract 0 k.size)), (3, 16, .string s), (4, 17, .int .i64 (k.size : Int)), (5, 18, .string ⟨#[58]⟩), (6, 19, .int .i64 1), (7, 20, .int .i64 ((k.size : Int) + 1)), (8, 21, .string (s.extract (k.size + 1) s.size)), (9, 4, .string (s.extract 0 k.size)), (10, 5, .string (s.extract (k.size + 1) s.size)), (11, 6, (Value.bool true))] ∧ (Below w1.heap.size w1 w')) HT_.out HW_.out (by kernel_rfl) (by kernel_rfl) ?_ ?_ ?_
  · exact ⟨by simp only [putSel, Bool.false_eq_true, if_false], HBB.out⟩
  · clear HT_ HW_ hHeld
    clear HBB
    refine steps_cons ?_ ?_
    · intro b a w' hI_ hb_ hon hoff
      refine ⟨_, rfl, fun K hK => ?_⟩
      obtain ⟨ha, Q_HBB⟩ := hI_
      have e0 : a.tmps[0]? = some (.string s) := by rw [ha]; exact (putSel_off rfl).trans rfl
      replace ha := Aside0.mk ha
      have HBB := Aside0.mk Q_HBB
      refine value_ (w1 := w') (v := .string s) (by rfl) rfl ?_ ?_
      · go_simp
        (try simp only [i64_w])
        try (first | rfl | assumption)
      refine hK.out _ _ ⟨(by rw [ha.out]; exact putSel_upk 0 hb_ rfl rfl rfl), Q_HBB⟩
    refine steps_cons ?_ ?_
    · intro b a w' hI_ hb_ hon hoff
      refine ⟨_, rfl, fun K hK => ?_⟩
      obtain ⟨ha, Q_HBB⟩ := hI_
      have e7 : a.tmps[7]? = some (.int .i64 (k.size : Int)) := by rw [ha]; exact (putSel_off rfl).trans rfl
      replace ha := Aside0.mk ha
      have HBB := Aside0.mk Q_HBB
      refine value_ (w1 := w') (v := .int .i64 (k.size : Int)) (by rfl) rfl ?_ ?_
      · go_simp
        (try simp only [i64_w])
        try (first | rfl | assumption)
      refine hK.out _ _ ⟨(by rw [ha.out]; exact putSel_upk 1 hb_ rfl rfl rfl), Q_HBB⟩
    refine steps_cons ?_ ?_
    · intro b a w' hI_ hb_ hon hoff
      refine ⟨_, rfl, fun K hK => ?_⟩
      obtain ⟨ha, Q_HBB⟩ := hI_
      have e13 : a.tmps[13]? = some (.string s) := by rw [ha]; exact putSel_on (e := (0, 13, .string s)) 0 rfl rfl (hon 0 (by kernel_rfl)) rfl
      have e14 : a.tmps[14]? = some (.int .i64 (k.size : Int)) := by rw [ha]; exact putSel_on (e := (1, 14, .int .i64 (k.size : Int))) 1 rfl rfl (hon 1 (by kernel_rfl)) rfl
      replace ha := Aside0.mk ha
      have HBB := Aside0.mk Q_HBB
      refine value_ (w1 := w') (v := .string (s.extract 0 k.size)) (by rfl) rfl ?_ ?_
      · go_simp
        (try simp only [i64_w])
        try (first | rfl | assumption)
      refine hK.out _ _ ⟨(by rw [ha.out]; exact putSel_upk 2 hb_ rfl rfl rfl), Q_HBB⟩
    refine steps_cons ?_ ?_
    · intro b a w' hI_ hb_ hon hoff
      refine ⟨_, rfl, fun K hK => ?_⟩
      obtain ⟨ha, Q_HBB⟩ := hI_
      have e0 : a.tmps[0]? = some (.string s) := by rw [ha]; exact (putSel_off rfl).trans rfl
      replace ha := Aside0.mk ha
      have HBB := Aside0.mk Q_HBB
      refine value_ (w1 := w') (v := .string s) (by rfl) rfl ?_ ?_
      · go_simp
        (try simp only [i64_w])
        try (first | rfl | assumption)
      refine hK.out _ _ ⟨(by rw [ha.out]; exact putSel_upk 3 hb_ rfl rfl rfl), Q_HBB⟩
    refine steps_cons ?_ ?_
    · intro b a w' hI_ hb_ hon hoff
      refine ⟨_, rfl, fun K hK => ?_⟩
      obtain ⟨ha, Q_HBB⟩ := hI_
      have e7 : a.tmps[7]? = some (.int .i64 (k.size : Int)) := by rw [ha]; exact (putSel_off rfl).trans rfl
      replace ha := Aside0.mk ha
      have HBB := Aside0.mk Q_HBB
      refine value_ (w1 := w') (v := .int .i64 (k.size : Int)) (by rfl) rfl ?_ ?_
      · go_simp
        (try simp only [i64_w])
        try (first | rfl | assumption)
      refine hK.out _ _ ⟨(by rw [ha.out]; exact putSel_upk 4 hb_ rfl rfl rfl), Q_HBB⟩
    refine steps_cons ?_ ?_
    · intro b a w' hI_ hb_ hon hoff
      refine ⟨_, rfl, fun K hK => ?_⟩
      obtain ⟨ha, Q_HBB⟩ := hI_
      have e1 : a.tmps[1]? = some (.string ⟨#[58]⟩) := by rw [ha]; exact (putSel_off rfl).trans rfl
      replace ha := Aside0.mk ha
      have HBB := Aside0.mk Q_HBB
      refine value_ (w1 := w') (v := .string ⟨#[58]⟩) (by rfl) rfl ?_ ?_
      · go_simp
        (try simp only [i64_w])
        try (first | rfl | assumption)
      refine hK.out _ _ ⟨(by rw [ha.out]; exact putSel_upk 5 hb_ rfl rfl rfl), Q_HBB⟩
    refine steps_cons ?_ ?_
    · intro b a w' hI_ hb_ hon hoff
      refine ⟨_, rfl, fun K hK => ?_⟩
      obtain ⟨ha, Q_HBB⟩ := hI_
      have e18 : a.tmps[18]? = some (.string ⟨#[58]⟩) := by rw [ha]; exact putSel_on (e := (5, 18, .string ⟨#[58]⟩)) 5 rfl rfl (hon 5 (by kernel_rfl)) rfl
      replace ha := Aside0.mk ha
      have HBB := Aside0.mk Q_HBB
      refine value_ (w1 := w') (v := .int .i64 1) (by rfl) rfl ?_ ?_
      · go_simp
        (try simp only [i64_w])
        try (first | rfl | assumption)
      refine hK.out _ _ ⟨(by rw [ha.out]; exact putSel_upk 6 hb_ rfl rfl rfl), Q_HBB⟩
    refine steps_cons ?_ ?_
    · intro b a w' hI_ hb_ hon hoff
      refine ⟨_, rfl, fun K hK => ?_⟩
      obtain ⟨ha, Q_HBB⟩ := hI_
      have e17 : a.tmps[17]? = some (.int .i64 (k.size : Int)) := by rw [ha]; exact putSel_on (e := (4, 17, .int .i64 (k.size : Int))) 4 rfl rfl (hon 4 (by kernel_rfl)) rfl
      have e19 : a.tmps[19]? = some (.int .i64 1) := by rw [ha]; exact putSel_on (e := (6, 19, .int .i64 1)) 6 rfl rfl (hon 6 (by kernel_rfl)) rfl
      replace ha := Aside0.mk ha
      have HBB := Aside0.mk Q_HBB
      have hl4 := HL4.out
      refine value_ (w1 := w') (v := .int .i64 ((k.size : Int) + 1)) (by rfl) rfl ?_ ?_
      · go_simp
        (try simp only [i64_w])
        try (first | rfl | assumption)
      refine hK.out _ _ ⟨(by rw [ha.out]; exact putSel_upk 7 hb_ rfl rfl rfl), Q_HBB⟩
    refine steps_cons ?_ ?_
    · intro b a w' hI_ hb_ hon hoff
      refine ⟨_, rfl, fun K hK => ?_⟩
      obtain ⟨ha, Q_HBB⟩ := hI_
      have e16 : a.tmps[16]? = some (.string s) := by rw [ha]; exact putSel_on (e := (3, 16, .string s)) 3 rfl rfl (hon 3 (by kernel_rfl)) rfl
      have e20 : a.tmps[20]? = some (.int .i64 ((k.size : Int) + 1)) := by rw [ha]; exact putSel_on (e := (7, 20, .int .i64 ((k.size : Int) + 1))) 7 rfl rfl (hon 7 (by kernel_rfl)) rfl
      replace ha := Aside0.mk ha
      have HBB := Aside0.mk Q_HBB
      refine value_ (w1 := w') (v := .string (s.extract (k.size + 1) s.size)) (by rfl) rfl ?_ ?_
      · go_simp
        (try simp only [i64_w])
        try (first | rfl | assumption)
      refine hK.out _ _ ⟨(by rw [ha.out]; exact putSel_upk 8 hb_ rfl rfl rfl), Q_HBB⟩
    refine steps_cons ?_ ?_
    · intro b a w' hI_ hb_ hon hoff
      refine ⟨_, rfl, fun K hK => ?_⟩
      obtain ⟨ha, Q_HBB⟩ := hI_
      have e15 : a.tmps[15]? = some (.string (s.extract 0 k.size)) := by rw [ha]; exact putSel_on (e := (2, 15, .string (s.extract 0 k.size))) 2 rfl rfl (hon 2 (by kernel_rfl)) rfl
      replace ha := Aside0.mk ha
      have HBB := Aside0.mk Q_HBB
      refine value_ (w1 := w') (v := .string (s.extract 0 k.size)) (by rfl) rfl ?_ ?_
      · go_simp
        (try simp only [i64_w])
        try (first | rfl | assumption)
      refine hK.out _ _ ⟨(by rw [ha.out]; exact putSel_upk 9 hb_ rfl rfl rfl), Q_HBB⟩
    refine steps_cons ?_ ?_
    · intro b a w' hI_ hb_ hon hoff
      refine ⟨_, rfl, fun K hK => ?_⟩
      obtain ⟨ha, Q_HBB⟩ := hI_
      have e21 : a.tmps[21]? = some (.string (s.extract (k.size + 1) s.size)) := by rw [ha]; exact putSel_on (e := (8, 21, .string (s.extract (k.size + 1) s.size))) 8 rfl rfl (hon 8 (by kernel_rfl)) rfl
      replace ha := Aside0.mk ha
      have HBB := Aside0.mk Q_HBB
      refine value_ (w1 := w') (v := .string (s.extract (k.size + 1) s.size)) (by rfl) rfl ?_ ?_
      · go_simp
        (try simp only [i64_w])
        try (first | rfl | assumption)
      refine hK.out _ _ ⟨(by rw [ha.out]; exact putSel_upk 10 hb_ rfl rfl rfl), Q_HBB⟩
    refine steps_cons ?_ ?_
    · intro b a w' hI_ hb_ hon hoff
      refine ⟨_, rfl, fun K hK => ?_⟩
      obtain ⟨ha, Q_HBB⟩ := hI_
      replace ha := Aside0.mk ha
      have HBB := Aside0.mk Q_HBB
      refine value_ (w1 := w') (v := (Value.bool true)) (by rfl) rfl ?_ ?_
      · go_simp
        (try simp only [i64_w])
        try (first | rfl | assumption)
      refine hK.out _ _ ⟨(by rw [ha.out]; exact putSel_upk 11 hb_ rfl rfl rfl), Q_HBB⟩
    exact steps_nil
  rintro b a wz hall ⟨ha, Q_HBB⟩
  clear HBB
  have hb0_ := hall 0 (by kernel_rfl)
  have hb1_ := hall 1 (by kernel_rfl)
  have hb2_ := hall 2 (by kernel_rfl)
  have hb3_ := hall 3 (by kernel_rfl)
  have hb4_ := hall 4 (by kernel_rfl)
  have hb5_ := hall 5 (by kernel_rfl)
  have hb6_ := hall 6 (by kernel_rfl)
  have hb7_ := hall 7 (by kernel_rfl)
  have hb8_ := hall 8 (by kernel_rfl)
  have hb9_ := hall 9 (by kernel_rfl)
  have hb10_ := hall 10 (by kernel_rfl)
  have hb11_ := hall 11 (by kernel_rfl)
  subst ha
  simp only [putSel, hb0_, hb1_, hb2_, hb3_, hb4_, hb5_, hb6_, hb7_, hb8_, hb9_, hb10_, hb11_, if_true, Act.put, List.setIfInBounds_toArray, List.set_cons_zero, List.set_cons_succ]
  have HBB := Aside0.mk Q_HBB
  clear Q_HBB
  clear hall hb0_ hb1_ hb2_ hb3_ hb4_ hb5_ hb6_ hb7_ hb8_ hb9_ hb10_ hb11_
  go_wp2
  go_ret3
  exact ⟨by first | rfl | (rw [HE.out, HT.out]; rfl) | rw [HE.out, HT.out], HBB.out⟩
set_option maxRecDepth 100000 in
theorem icut_no (s : ByteArray) (w : World) (hk : (58 : Int) ∉ bytesOf s) :
    Calls Try.prog 41 #[.string s, .string ⟨#[58]⟩] w fun e w' => e = .returned (.tuple #[.string s, .string ⟨#[]⟩, .bool false]) ∧ Below w.heap.size w w' := by
  have hix : Lib.indexByte s.data.toList 58 = -1 := ix_none _ (fun h => hk ((mem58 s).2 h))
  go_enter Try.func41, Try.ntmps41
  go_wp2_with fail
  have hC := Try.stringslite_Index_one s 58 w
  rw [hix] at hC
  refine hC.mono ?_
  rintro e w1 ⟨rfl, rfl⟩
  go_wp2
  go_ret3
  exact ⟨rfl, by repeat (first | exact Below.refl _ _ | apply below_drew | apply pw_below_drewN)⟩
set_option maxRecDepth 100000 in
theorem cut_yes (k v s : ByteArray) (w : World) (hs : s = k ++ (⟨#[58]⟩ : ByteArray) ++ v) (hk : (58 : Int) ∉ bytesOf k) (hz : s.size ≤ 9223372036854775807) (hkz : k.size + 1 ≤ s.size) :
    Calls Try.prog 18 #[.string s, .string ⟨#[58]⟩] w fun e w' => e = .returned (.tuple #[.string k, .string v, .bool true]) ∧ Below w.heap.size w w' := by
  have HB := Aside0.mk (Below.refl w.heap.size w)
  have HS := Aside0.mk hs
  have HK := Aside0.mk hk
  clear hs hk
  go_enter Try.func18, Try.ntmps18
  go_wp2_with fail
  refine (icut_yes k v s _ HS.out HK.out hz hkz).mono ?_

  rintro e w_ ⟨rfl, hb⟩
  have n_ := Aside0.mk (below_step (by repeat (first | (with_reducible first | exact HB.out | apply below_alloc | apply pw_below_drewN | apply below_drew1) | exact HB.out)) hb); clear HB hb; have HB := n_; clear n_
  go_wp2
  go_ret3
  exact ⟨rfl, (by repeat (first | (with_reducible first | exact HB.out | apply below_alloc | apply pw_below_drewN | apply below_drew1) | exact HB.out))⟩
set_option maxRecDepth 100000 in
theorem cut_no (s : ByteArray) (w : World) (hk : (58 : Int) ∉ bytesOf s) :
    Calls Try.prog 18 #[.string s, .string ⟨#[58]⟩] w fun e w' => e = .returned (.tuple #[.string s, .string ⟨#[]⟩, .bool false]) ∧ Below w.heap.size w w' := by
  have HB := Aside0.mk (Below.refl w.heap.size w)
  have HK := Aside0.mk hk
  clear hk
  go_enter Try.func18, Try.ntmps18
  go_wp2_with fail
  refine (icut_no s _ HK.out).mono ?_

  rintro e w_ ⟨rfl, hb⟩
  have n_ := Aside0.mk (below_step (by repeat (first | (with_reducible first | exact HB.out | apply below_alloc | apply pw_below_drewN | apply below_drew1) | exact HB.out)) hb); clear HB hb; have HB := n_; clear n_
  go_wp2
  go_ret3
  exact ⟨rfl, (by repeat (first | (with_reducible first | exact HB.out | apply below_alloc | apply pw_below_drewN | apply below_drew1) | exact HB.out))⟩
theorem may_empty : mayL (bytesOf ⟨#[]⟩) = false := rfl
set_option maxRecDepth 100000 in
theorem partsYes (k v s : ByteArray) (w : World) (hs : s = k ++ (⟨#[58]⟩ : ByteArray) ++ v) (hk : mayL (bytesOf k) = true) (hv : mayL (bytesOf v) = true) (hz : s.size ≤ 9223372036854775807) :
    Calls Try.prog 85 #[.string s] w fun e w' => e = .returned (.tuple #[.string k, .string v, .bool true]) ∧ Below w.heap.size w w' := by
  have HB := Aside0.mk (Below.refl w.heap.size w)
  have HS := Aside0.mk hs
  have HK := Aside0.mk hk
  have HV := Aside0.mk hv
  have hsz : s.size = k.size + 1 + v.size := by rw [hs, ByteArray.size_append, ByteArray.size_append]; rfl
  clear hs hk hv
  have hk1 : k.size ≤ 9223372036854775807 := by omega
  have hv1 : v.size ≤ 9223372036854775807 := by omega
  have HZ : Aside0 (k.size + 1 ≤ s.size) := ⟨by omega⟩
  clear hsz
  go_enter Try.func85, Try.ntmps85
  go_wp2_with fail
  refine (cut_yes k v s _ HS.out (may_no58 HK.out) hz HZ.out).mono ?_

  rintro e w_ ⟨rfl, hb⟩
  have n_ := Aside0.mk (below_step (by repeat (first | (with_reducible first | exact HB.out | apply below_alloc | apply pw_below_drewN | apply below_drew1) | exact HB.out)) hb); clear HB hb; have HB := n_; clear n_
  go_wp2_with fail
  refine (mayC true k _ hk1 HK.out).mono ?_

  rintro e w_ ⟨rfl, hb⟩
  have n_ := Aside0.mk (below_step (by repeat (first | (with_reducible first | exact HB.out | apply below_alloc | apply pw_below_drewN | apply below_drew1) | exact HB.out)) hb); clear HB hb; have HB := n_; clear n_
  go_wp2_with fail
  refine (mayC true v _ hv1 HV.out).mono ?_

  rintro e w_ ⟨rfl, hb⟩
  have n_ := Aside0.mk (below_step (by repeat (first | (with_reducible first | exact HB.out | apply below_alloc | apply pw_below_drewN | apply below_drew1) | exact HB.out)) hb); clear HB hb; have HB := n_; clear n_
  go_wp2
  go_ret3
  exact ⟨rfl, (by repeat (first | (with_reducible first | exact HB.out | apply below_alloc | apply pw_below_drewN | apply below_drew1) | exact HB.out))⟩
set_option maxRecDepth 100000 in
theorem partsNo (s : ByteArray) (w : World) (h : ∀ k v : ByteArray, s = k ++ (⟨#[58]⟩ : ByteArray) ++ v → mayL (bytesOf k) = true → mayL (bytesOf v) = false) (hz : s.size ≤ 9223372036854775807) :
    Calls Try.prog 85 #[.string s] w fun e w' => e = .returned (.tuple #[.string ⟨#[]⟩, .string ⟨#[]⟩, .bool false]) ∧ Below w.heap.size w w' := by
  have HB := Aside0.mk (Below.refl w.heap.size w)
  rcases split58 s with hn | ⟨k, v, hs, hk, hsz⟩
  · have HN := Aside0.mk hn
    clear h hn
    go_enter Try.func85, Try.ntmps85
    go_wp2_with fail
    refine (cut_no s _ HN.out).mono ?_

    rintro e w_ ⟨rfl, hb⟩
    have n_ := Aside0.mk (below_step (by repeat (first | (with_reducible first | exact HB.out | apply below_alloc | apply pw_below_drewN | apply below_drew1) | exact HB.out)) hb); clear HB hb; have HB := n_; clear n_
    go_wp2_with fail
    cases hm : mayL (bytesOf s) with
    | false =>
      refine (mayC false s _ hz hm).mono ?_

      rintro e w_ ⟨rfl, hb⟩
      have n_ := Aside0.mk (below_step (by repeat (first | (with_reducible first | exact HB.out | apply below_alloc | apply pw_below_drewN | apply below_drew1) | exact HB.out)) hb); clear HB hb; have HB := n_; clear n_
      go_wp2
      go_ret3
      exact ⟨rfl, (by repeat (first | (with_reducible first | exact HB.out | apply below_alloc | apply pw_below_drewN | apply below_drew1) | exact HB.out))⟩
    | true =>
      refine (mayC true s _ hz hm).mono ?_

      rintro e w_ ⟨rfl, hb⟩
      have n_ := Aside0.mk (below_step (by repeat (first | (with_reducible first | exact HB.out | apply below_alloc | apply pw_below_drewN | apply below_drew1) | exact HB.out)) hb); clear HB hb; have HB := n_; clear n_
      go_wp2_with fail
      refine (mayC false _ _ (by decide) may_empty).mono ?_

      rintro e w_ ⟨rfl, hb⟩
      have n_ := Aside0.mk (below_step (by repeat (first | (with_reducible first | exact HB.out | apply below_alloc | apply pw_below_drewN | apply below_drew1) | exact HB.out)) hb); clear HB hb; have HB := n_; clear n_
      go_wp2
      go_ret3
      exact ⟨rfl, (by repeat (first | (with_reducible first | exact HB.out | apply below_alloc | apply pw_below_drewN | apply below_drew1) | exact HB.out))⟩
  · have HH := Aside0.mk (h k v hs)
    have HS := Aside0.mk hs
    have HK := Aside0.mk hk
    clear h hs hk
    have hk1 : k.size ≤ 9223372036854775807 := by omega
    have hv1 : v.size ≤ 9223372036854775807 := by omega
    have HZ : Aside0 (k.size + 1 ≤ s.size) := ⟨by omega⟩
    clear hsz
    go_enter Try.func85, Try.ntmps85
    go_wp2_with fail
    refine (cut_yes k v s _ HS.out HK.out hz HZ.out).mono ?_

    rintro e w_ ⟨rfl, hb⟩
    have n_ := Aside0.mk (below_step (by repeat (first | (with_reducible first | exact HB.out | apply below_alloc | apply pw_below_drewN | apply below_drew1) | exact HB.out)) hb); clear HB hb; have HB := n_; clear n_
    go_wp2_with fail
    cases hm : mayL (bytesOf k) with
    | false =>
      refine (mayC false k _ hk1 hm).mono ?_

      rintro e w_ ⟨rfl, hb⟩
      have n_ := Aside0.mk (below_step (by repeat (first | (with_reducible first | exact HB.out | apply below_alloc | apply pw_below_drewN | apply below_drew1) | exact HB.out)) hb); clear HB hb; have HB := n_; clear n_
      go_wp2
      go_ret3
      exact ⟨rfl, (by repeat (first | (with_reducible first | exact HB.out | apply below_alloc | apply pw_below_drewN | apply below_drew1) | exact HB.out))⟩
    | true =>
      refine (mayC true k _ hk1 hm).mono ?_

      rintro e w_ ⟨rfl, hb⟩
      have n_ := Aside0.mk (below_step (by repeat (first | (with_reducible first | exact HB.out | apply below_alloc | apply pw_below_drewN | apply below_drew1) | exact HB.out)) hb); clear HB hb; have HB := n_; clear n_
      go_wp2_with fail
      refine (mayC false v _ hv1 (HH.out hm)).mono ?_

      rintro e w_ ⟨rfl, hb⟩
      have n_ := Aside0.mk (below_step (by repeat (first | (with_reducible first | exact HB.out | apply below_alloc | apply pw_below_drewN | apply below_drew1) | exact HB.out)) hb); clear HB hb; have HB := n_; clear n_
      go_wp2
      go_ret3
      exact ⟨rfl, (by repeat (first | (with_reducible first | exact HB.out | apply below_alloc | apply pw_below_drewN | apply below_drew1) | exact HB.out))⟩
/-- Whether a text is a tag. -/
def IsTag (s : ByteArray) : Prop := ∃ k v : ByteArray, s = k ++ (⟨#[58]⟩ : ByteArray) ++ v ∧ mayL (bytesOf k) = true ∧ mayL (bytesOf v) = true
set_option maxRecDepth 100000 in
theorem mayTagYes (s : ByteArray) (w : World) (h : IsTag s) (hz : s.size ≤ 9223372036854775807) :
    Calls Try.prog 65 #[.string s] w fun e w' => e = .returned (.bool true) ∧ Below w.heap.size w w' := by
  obtain ⟨k, v, hs, hk, hv⟩ := h
  have HB := Aside0.mk (Below.refl w.heap.size w)
  have HS := Aside0.mk hs
  clear hs
  go_enter Try.func65, Try.ntmps65
  go_wp2_with fail
  refine (partsYes k v s _ HS.out hk hv hz).mono ?_

  rintro e w_ ⟨rfl, hb⟩
  have n_ := Aside0.mk (below_step (by repeat (first | (with_reducible first | exact HB.out | apply below_alloc | apply pw_below_drewN | apply below_drew1) | exact HB.out)) hb); clear HB hb; have HB := n_; clear n_
  go_wp2
  go_ret
  exact ⟨rfl, (by repeat (first | (with_reducible first | exact HB.out | apply below_alloc | apply pw_below_drewN | apply below_drew1) | exact HB.out))⟩
theorem noTag {s : ByteArray} (h : ¬ IsTag s) : ∀ k v : ByteArray, s = k ++ (⟨#[58]⟩ : ByteArray) ++ v → mayL (bytesOf k) = true → mayL (bytesOf v) = false := by
  intro k v hs hk
  cases hv : mayL (bytesOf v) with
  | false => rfl
  | true => exact absurd ⟨k, v, hs, hk, hv⟩ h
set_option maxRecDepth 100000 in
theorem mayTagNo (s : ByteArray) (w : World) (h : ¬ IsTag s) (hz : s.size ≤ 9223372036854775807) :
    Calls Try.prog 65 #[.string s] w fun e w' => e = .returned (.bool false) ∧ Below w.heap.size w w' := by
  have HB := Aside0.mk (Below.refl w.heap.size w)
  have HN := Aside0.mk (noTag h)
  clear h
  go_enter Try.func65, Try.ntmps65
  go_wp2_with fail
  refine (partsNo s _ HN.out hz).mono ?_

  rintro e w_ ⟨rfl, hb⟩
  have n_ := Aside0.mk (below_step (by repeat (first | (with_reducible first | exact HB.out | apply below_alloc | apply pw_below_drewN | apply below_drew1) | exact HB.out)) hb); clear HB hb; have HB := n_; clear n_
  go_wp2
  go_ret
  exact ⟨rfl, (by repeat (first | (with_reducible first | exact HB.out | apply below_alloc | apply pw_below_drewN | apply below_drew1) | exact HB.out))⟩
end Go.Proofs.Ytocpcnmnhckcpaa.Nam
namespace Go.Proofs.Ytocpcnmnhckcpaa.Nam
open Go.RowKit Go.Proofs.YtocpcnmnhckcpaaW.PrintWords Go.Proofs.YtocpcnmnhckcpaaW.PrintLast Go.Proofs.YtocpcnmnhckcpaaW.PrintMore Go.Proofs.Ytocpcnmnhckcpaa.Num Go.Proofs.Ytocpcnmnhckcpaa.Prt
set_option linter.unusedVariables false
set_option linter.unusedSimpArgs false

theorem take_any {α : Type} (p : α → Bool) (l : List α) (i : Nat) (h : i < l.length) (d : α) : (l.take (i + 1)).any p = ((l.take i).any p || p (l.getD i d)) := by
  rw [List.take_succ_eq_append_getElem h, List.any_append, List.getD_eq_getElem?_getD, List.getElem?_eq_getElem h]; simp
theorem take_any_all {α : Type} (p : α → Bool) (l : List α) (i : Nat) (h : l.length ≤ i) : (l.take i).any p = l.any p := by rw [List.take_of_length_le h]
theorem any_of_take {α : Type} {p : α → Bool} {l : List α} {i : Nat} (h : (l.take i).any p = true) : l.any p = true := by
  obtain ⟨x, hx, hp⟩ := List.any_eq_true.1 h
  exact List.any_eq_true.2 ⟨x, List.mem_of_mem_take hx, hp⟩
theorem getD_mem' {α : Type} {l : List α} {i : Nat} (h : i < l.length) (d : α) : l.getD i d ∈ l := by
  rw [List.getD_eq_getElem?_getD, List.getElem?_eq_getElem h]; exact List.getElem_mem h
end Go.Proofs.Ytocpcnmnhckcpaa.Nam
namespace Go.Proofs.Ytocpcnmnhckcpaa.Nam
open Go.RowKit Go.Proofs.YtocpcnmnhckcpaaW.PrintWords Go.Proofs.YtocpcnmnhckcpaaW.PrintLast Go.Proofs.YtocpcnmnhckcpaaW.PrintMore Go.Proofs.Ytocpcnmnhckcpaa.Num Go.Proofs.Ytocpcnmnhckcpaa.Prt
set_option linter.unusedVariables false
set_option linter.unusedSimpArgs false

def lessS (a b : ByteArray) : Bool := Op.bytesLess a.toList b.toList
def riseB : List ByteArray → Bool
  | a :: b :: r => lessS a b && riseB (b :: r)
  | _ => true
theorem wrapI {n : Int} (h0 : -9223372036854775808 ≤ n) (h1 : n ≤ 9223372036854775807) : wrap64 n = n := by unfold wrap64; omega
theorem drop_two {α : Type} (l : List α) (i : Nat) (d : α) (h : i + 1 < l.length) : l.drop i = l.getD i d :: l.getD (i + 1) d :: l.drop (i + 2) := by
  rw [List.drop_eq_getElem_cons (by omega), List.drop_eq_getElem_cons h, List.getD_eq_getElem?_getD, List.getElem?_eq_getElem (by omega), List.getD_eq_getElem?_getD, List.getElem?_eq_getElem h]; rfl
theorem rise_step (l : List ByteArray) (i : Nat) (h : i + 1 < l.length) : riseB (l.drop i) = (lessS (l.getD i ByteArray.empty) (l.getD (i + 1) ByteArray.empty) && riseB (l.drop (i + 1))) := by
  rw [drop_two l i ByteArray.empty h, riseB]
  congr 2
  rw [List.drop_eq_getElem_cons h, List.getD_eq_getElem?_getD, List.getElem?_eq_getElem h]; rfl
theorem rise_end (l : List ByteArray) (i : Nat) (h : l.length ≤ i + 1) : riseB (l.drop i) = true := by
  match hl : l.drop i with
  | [] => rfl
  | [a] => rfl
  | a :: b :: r =>
    have := congrArg List.length hl
    rw [List.length_drop] at this
    simp only [List.length_cons] at this
    omega
/-- Whether bytes are a tag: a name, a colon, a name. -/
def tagL (l : List Int) : Bool := mayL (l.takeWhile fun c => c != 58) && match l.dropWhile fun c => c != 58 with
  | [] => false
  | _ :: v => mayL v
def tagB (s : ByteArray) : Bool := tagL (bytesOf s)
theorem take58 : ∀ (a b : List Int), (58 : Int) ∉ a → ((a ++ 58 :: b).takeWhile fun c => c != 58) = a ∧ ((a ++ 58 :: b).dropWhile fun c => c != 58) = 58 :: b := by
  intro a b
  induction a with
  | nil => intro _; simp
  | cons c r ih =>
    intro h
    rw [List.mem_cons, not_or] at h
    have hc : (c != 58) = true := bne_iff_ne.2 (fun e => h.1 e.symm)
    obtain ⟨h1, h2⟩ := ih h.2
    simp only [List.cons_append, List.takeWhile_cons, List.dropWhile_cons, hc, if_true, h1, h2]
    exact ⟨trivial, trivial⟩
theorem drop58 : ∀ (a : List Int), (58 : Int) ∉ a → (a.dropWhile fun c => c != 58) = [] := by
  intro a
  induction a with
  | nil => intro _; rfl
  | cons c r ih =>
    intro h
    rw [List.mem_cons, not_or] at h
    have hc : (c != 58) = true := bne_iff_ne.2 (fun e => h.1 e.symm)
    simp only [List.dropWhile_cons, hc, if_true]
    exact ih h.2
theorem bytes_cat (k v : ByteArray) : bytesOf (k ++ (⟨#[58]⟩ : ByteArray) ++ v) = bytesOf k ++ 58 :: bytesOf v := by
  rw [bytes_append, bytes_append, List.append_assoc]; rfl
theorem tagL_cut (a b : List Int) (h : (58 : Int) ∉ a) : tagL (a ++ 58 :: b) = (mayL a && mayL b) := by
  unfold tagL
  obtain ⟨h1, h2⟩ := take58 a b h
  rw [h1, h2]
theorem tagL_no (a : List Int) (h : (58 : Int) ∉ a) : tagL a = false := by
  unfold tagL
  rw [drop58 a h]; simp
theorem tagB_iff (s : ByteArray) : tagB s = true ↔ IsTag s := by
  unfold tagB
  constructor
  · intro h
    rcases split58 s with hn | ⟨k, v, hs, hk, hz⟩
    · rw [tagL_no _ hn] at h; cases h
    · rw [hs, bytes_cat, tagL_cut _ _ hk, Bool.and_eq_true] at h
      exact ⟨k, v, hs, h.1, h.2⟩
  · rintro ⟨k, v, hs, h1, h2⟩
    rw [hs, bytes_cat, tagL_cut _ _ (may_no58 h1), h1, h2]; rfl
theorem mayTag_calls (s : ByteArray) (w : World) (hz : s.size ≤ 9223372036854775807) :
    Calls Try.prog 65 #[.string s] w fun e w' => e = .returned (.bool (tagB s)) ∧ Below w.heap.size w w' := by
  by_cases h : IsTag s
  · rw [(tagB_iff s).2 h]; exact mayTagYes s w h hz
  · have e : tagB s = false := by cases hb : tagB s with | false => rfl | true => exact absurd ((tagB_iff s).1 hb) h
    rw [e]; exact mayTagNo s w h hz
end Go.Proofs.Ytocpcnmnhckcpaa.Nam
namespace Go.Proofs.Ytocpcnmnhckcpaa.Prt
open Go.RowKit Go.Proofs.YtocpcnmnhckcpaaW.PrintWords Go.Proofs.YtocpcnmnhckcpaaW.PrintLast Go.Proofs.YtocpcnmnhckcpaaW.PrintMore Go.Proofs.Ytocpcnmnhckcpaa.Num
set_option linter.unusedVariables false
set_option linter.unusedSimpArgs false

def num_Put.f (l0 : List Int) (a1 : Int) : Option (List Int) := if l0.length ≤ 140737488350000 ∧ -9223372036854775808 ≤ a1 ∧ a1 ≤ 9223372036854775807 then some (l0 ++ enc a1) else none
theorem num_Put.calls (A0 : Option Addr) (c0 : Nat) (l0 : List Int) (a1 : Int) (r : List Int) (w : World) (hr0 : Kd.C (Kd.int .u8) w A0 l0.length l0) (hc0 : l0.length ≤ c0) (h : num_Put.f l0 a1 = some r) :
    Calls Try.prog 22 #[.slice A0 l0.length c0, .int .i64 a1] w fun e w' => ∃ v0_ : Value, e = .returned (v0_) ∧ Kd.R (Kd.int .u8) 5 w' w.heap.size (fun _ => True) v0_ r ∧ Below w.heap.size w w' := by
  unfold num_Put.f at h
  by_cases hc : l0.length ≤ 140737488350000 ∧ -9223372036854775808 ≤ a1 ∧ a1 ≤ 9223372036854775807
  · rw [if_pos hc] at h
    obtain rfl := Option.some.inj h
    exact put_calls A0 c0 l0 a1 w hr0 hc0 hc.2.1 hc.2.2 hc.1
  · rw [if_neg hc] at h; cases h
def num_PutText.f (l0 : List Int) (a1 : ByteArray) : Option (List Int) := if l0.length + a1.size ≤ 140737488349000 then some (l0 ++ encT (bytesOf a1)) else none
theorem num_PutText.calls (A0 : Option Addr) (c0 : Nat) (l0 : List Int) (a1 : ByteArray) (r : List Int) (w : World) (hr0 : Kd.C (Kd.int .u8) w A0 l0.length l0) (hc0 : l0.length ≤ c0) (h : num_PutText.f l0 a1 = some r) :
    Calls Try.prog 24 #[.slice A0 l0.length c0, .string a1] w fun e w' => ∃ v0_ : Value, e = .returned (v0_) ∧ Kd.R (Kd.int .u8) 5 w' w.heap.size (fun _ => True) v0_ r ∧ Below w.heap.size w w' := by
  unfold num_PutText.f at h
  by_cases hc : l0.length + a1.size ≤ 140737488349000
  · rw [if_pos hc] at h
    obtain rfl := Option.some.inj h
    exact putText_calls A0 c0 l0 a1 w hr0 hc0 hc
  · rw [if_neg hc] at h; cases h
end Go.Proofs.Ytocpcnmnhckcpaa.Prt
namespace Go.Proofs.Ytocpcnmnhckcpaa.Prt
open Go.RowKit Go.Proofs.YtocpcnmnhckcpaaW.PrintWords Go.Proofs.YtocpcnmnhckcpaaW.PrintLast Go.Proofs.YtocpcnmnhckcpaaW.PrintMore Go.Proofs.Ytocpcnmnhckcpaa.Num Go.Proofs.Ytocpcnmnhckcpaa.Nam
set_option linter.unusedVariables false
set_option linter.unusedSimpArgs false

def encTs (l : List ByteArray) : List Int := l.flatMap fun s => encT (bytesOf s)
theorem encT_len (s : ByteArray) (h : s.size ≤ 9223372036854775807) : (encT (bytesOf s)).length ≤ 10 + s.size := by
  unfold encT
  have := enc_len (x := ((bytesOf s).length : Int)) ⟨by omega, by rw [bytes_length]; omega⟩
  rw [List.length_append, bytes_length] at *; omega
theorem may_size {s : ByteArray} (h : mayL (bytesOf s) = true) : s.size ≤ 24 := by have := (may_parts h).2.1; rwa [bytes_length] at this
theorem tag_size {s : ByteArray} (h : tagB s = true) : s.size ≤ 49 := by
  obtain ⟨k, v, hs, h1, h2⟩ := (tagB_iff s).1 h
  have := may_size h1
  have := may_size h2
  rw [hs, ByteArray.size_append, ByteArray.size_append]
  show k.size + 1 + v.size ≤ 49
  omega
theorem encTs_bytes (a : List ByteArray) : isBytes (encTs a) := by
  induction a with
  | nil => intro c hc; simp [encTs] at hc
  | cons x r ih =>
    have e : encTs (x :: r) = encT (bytesOf x) ++ encTs r := by unfold encTs; rw [List.flatMap_cons]
    rw [e]
    exact isBytes_append.2 ⟨isBytes_append.2 ⟨enc_bytes _, bytesOf_isBytes x⟩, ih⟩
end Go.Proofs.Ytocpcnmnhckcpaa.Prt
namespace Go.Proofs.Ytocpcnmnhckcpaa.Prt
open Go.RowKit Go.Proofs.YtocpcnmnhckcpaaW.PrintWords Go.Proofs.YtocpcnmnhckcpaaW.PrintLast Go.Proofs.YtocpcnmnhckcpaaW.PrintMore Go.Proofs.Ytocpcnmnhckcpaa.Num Go.Proofs.Ytocpcnmnhckcpaa.Nam
set_option linter.unusedVariables false
set_option linter.unusedSimpArgs false

end Go.Proofs.Ytocpcnmnhckcpaa.Prt
namespace Go.Proofs.Ytocpcnmnhckcpaa.Prt
open Go.RowKit Go.Proofs.YtocpcnmnhckcpaaW.PrintWords Go.Proofs.YtocpcnmnhckcpaaW.PrintLast Go.Proofs.YtocpcnmnhckcpaaW.PrintMore Go.Proofs.Ytocpcnmnhckcpaa.Num Go.Proofs.Ytocpcnmnhckcpaa.Nam
set_option linter.unusedVariables false
set_option linter.unusedSimpArgs false

end Go.Proofs.Ytocpcnmnhckcpaa.Prt
namespace Go.Proofs.Ytocpcnmnhckcpaa.Prt
open Go.RowKit Go.Proofs.YtocpcnmnhckcpaaW.PrintWords Go.Proofs.YtocpcnmnhckcpaaW.PrintLast Go.Proofs.YtocpcnmnhckcpaaW.PrintMore
attribute [local go_sem] max2_int min2_int max_two min_two max_three min_three max_four min_four   -- for this text's walks alone
set_option linter.unusedVariables false
set_option linter.unusedSimpArgs false

def registrarref04_Texts.l0 : Nat → List ByteArray → List ByteArray → Int → Option (Bool)
  | 0, _, _, _ => none
  | k + 1, x0, x1, x5 => if x5 < (x0.length : Int) then (if 0 ≤ x5 then (if x5 < (x1.length : Int) then (if (rdOf ByteArray.empty x0 x5).toList = (rdOf ByteArray.empty x1 x5).toList then (registrarref04_Texts.l0 k x0 x1 (wrap64 (x5 + 1))) else (some false)) else (none)) else (none)) else (some true)
def registrarref04_Texts.f (k : Nat) (l0 : List ByteArray) (l1 : List ByteArray) : Option (Bool) := if (l0.length : Int) = (l1.length : Int) then (registrarref04_Texts.l0 k l0 l1 0) else (some false)
set_option maxHeartbeats 8000000 in
set_option maxRecDepth 100000 in
theorem registrarref04_Texts.calls (k : Nat) (A0 : Option Addr) (c0 : Nat) (l0 : List ByteArray) (A1 : Option Addr) (c1 : Nat) (l1 : List ByteArray) (r : Bool) (w : World) (hr0 : Kd.C Kd.string w A0 l0.length l0) (hc0 : l0.length ≤ c0) (hr1 : Kd.C Kd.string w A1 l1.length l1) (hc1 : l1.length ≤ c1) (h : registrarref04_Texts.f k l0 l1 = some r) :
    Calls Try.prog 44 #[.slice A0 l0.length c0, .slice A1 l1.length c1] w fun e w' => e = .returned (.bool r) ∧ Drawn0 w w' := by
  have HR0 := Aside0.mk hr0
  have HC0 := Aside0.mk hc0
  clear hr0 hc0
  have HR1 := Aside0.mk hr1
  have HC1 := Aside0.mk hc1
  clear hr1 hc1
  have H : (if (l0.length : Int) = (l1.length : Int) then (registrarref04_Texts.l0 k l0 l1 0) else (some false)) = some r := h
  clear h
  by_cases c3 : (l0.length : Int) = (l1.length : Int)
  · rw [if_pos c3] at H
    have c3b0 : ((l0.length : Int) == (l1.length : Int)) = true := beq_iff_eq.mpr c3
    have c3b1 : ((l0.length : Int) != (l1.length : Int)) = false := bne_eq_false_iff_eq.mpr c3
    have c3b2 : (l0.length == l1.length) = true := by first | simpa using c3 | (simp at c3 ⊢; omega)
    clear c3
    have H' := Aside0.mk H
    clear H
    go_enter Try.func44, Try.ntmps44
    go_wp2
    repeat (go_quiet (fail); try go_wp2)
    go_loopg [5] k (fun kq v5 w' => ∃ (x5_1 : Int), v5 = .int .i64 x5_1 ∧ Aside0 (registrarref04_Texts.l0 kq l0 l1 x5_1 = some r) ∧ Aside0 (kq ≤ k) ∧ Drawn0 w w')
    case atStart => exact ⟨(0), (by first | rfl | (simp; done) | (simp [*]; done)), H', ⟨Nat.le_refl _⟩, by repeat (first | exact Drawn0.refl _ | apply Drawn0.step)⟩
    case round =>
      clear H'
      try clear c1
      try clear p2
      try clear c3
      try clear c3b0
      try clear c3b1
      try clear c3b2
      obtain ⟨x5_1, rfl, HA, HK1, ⟨m1, rfl⟩⟩ := hrel
      cases gk with
      | zero => exact absurd HA.out (by simp [registrarref04_Texts.l0])
      | succ k1 =>
        have H := HA.out
        clear HA
        simp only [registrarref04_Texts.l0] at H
        by_cases c4 : x5_1 < (l0.length : Int)
        · rw [if_pos c4] at H
          have c4b0 : decide (x5_1 < (l0.length : Int)) = true := decide_eq_true c4
          clear c4
          by_cases c5 : 0 ≤ x5_1
          · rw [if_pos c5] at H
            have c5b0 : decide (0 ≤ x5_1) = true := decide_eq_true c5
            clear c5
            by_cases c6 : x5_1 < (l1.length : Int)
            · rw [if_pos c6] at H
              have c6b0 : decide (x5_1 < (l1.length : Int)) = true := decide_eq_true c6
              clear c6
              by_cases c7 : (rdOf ByteArray.empty l0 x5_1).toList = (rdOf ByteArray.empty l1 x5_1).toList
              · rw [if_pos c7] at H
                have c7b0 : ((rdOf ByteArray.empty l0 x5_1).toList == (rdOf ByteArray.empty l1 x5_1).toList) = true := beq_iff_eq.mpr c7
                have c7b1 : ((rdOf ByteArray.empty l0 x5_1).toList != (rdOf ByteArray.empty l1 x5_1).toList) = false := bne_eq_false_iff_eq.mpr c7
                clear c7
                have H' := Aside0.mk H
                clear H
                have p156 : 0 ≤ (x5_1 : Int) := of_decide_eq_true (by first | (with_reducible assumption) | assumption)
                have q156 : x5_1 < (l0.length : Int) := of_decide_eq_true (by first | (with_reducible assumption) | assumption)
                obtain ⟨ad156, e156, hx156_0⟩ := Kd.at_string HR0.out x5_1 p156 q156
                cases e156
                replace p156 := eq_true p156
                replace q156 := eq_true q156
                have p157 : 0 ≤ (x5_1 : Int) := of_decide_eq_true (by first | (with_reducible assumption) | assumption)
                have q157 : x5_1 < (l1.length : Int) := of_decide_eq_true (by first | (with_reducible assumption) | assumption)
                obtain ⟨ad157, e157, hx157_0⟩ := Kd.at_string HR1.out x5_1 p157 q157
                cases e157
                replace p157 := eq_true p157
                replace q157 := eq_true q157
                go_wp2
                repeat (go_quiet (fail); try go_wp2)
                go_roundg k1
                case measure => have := HK1.out; omega
                case rel => exact ⟨(wrap64 (x5_1 + 1)), (by first | rfl | (simp; done) | (simp [*]; done)), H', ⟨by have := HK1.out; omega⟩, by repeat (first | exact Drawn0.refl _ | apply Drawn0.step)⟩
              · rw [if_neg c7] at H
                have c7b0 : ((rdOf ByteArray.empty l0 x5_1).toList == (rdOf ByteArray.empty l1 x5_1).toList) = false := beq_eq_false_iff_ne.mpr c7
                have c7b1 : ((rdOf ByteArray.empty l0 x5_1).toList != (rdOf ByteArray.empty l1 x5_1).toList) = true := bne_iff_ne.mpr c7
                obtain rfl := Option.some.inj H
                have p156 : 0 ≤ (x5_1 : Int) := of_decide_eq_true (by first | (with_reducible assumption) | assumption)
                have q156 : x5_1 < (l0.length : Int) := of_decide_eq_true (by first | (with_reducible assumption) | assumption)
                obtain ⟨ad156, e156, hx156_0⟩ := Kd.at_string HR0.out x5_1 p156 q156
                cases e156
                replace p156 := eq_true p156
                replace q156 := eq_true q156
                have p157 : 0 ≤ (x5_1 : Int) := of_decide_eq_true (by first | (with_reducible assumption) | assumption)
                have q157 : x5_1 < (l1.length : Int) := of_decide_eq_true (by first | (with_reducible assumption) | assumption)
                obtain ⟨ad157, e157, hx157_0⟩ := Kd.at_string HR1.out x5_1 p157 q157
                cases e157
                replace p157 := eq_true p157
                replace q157 := eq_true q157
                go_wp2
                repeat (go_quiet (fail); try go_wp2)
                go_ret
                exact ⟨by first | rfl | (simp; done) | (simp [*]; done), by repeat (first | exact Drawn0.refl _ | apply Drawn0.step)⟩
            · rw [if_neg c6] at H
              exact absurd H (by simp)
          · rw [if_neg c5] at H
            exact absurd H (by simp)
        · rw [if_neg c4] at H
          have c4b0 : decide (x5_1 < (l0.length : Int)) = false := decide_eq_false c4
          clear c4
          obtain rfl := Option.some.inj H
          go_wp2
          repeat (go_quiet (fail); try go_wp2)
          go_ret
          exact ⟨by first | rfl | (simp; done) | (simp [*]; done), by repeat (first | exact Drawn0.refl _ | apply Drawn0.step)⟩
  · rw [if_neg c3] at H
    have c3b0 : ((l0.length : Int) == (l1.length : Int)) = false := beq_eq_false_iff_ne.mpr c3
    have c3b1 : ((l0.length : Int) != (l1.length : Int)) = true := bne_iff_ne.mpr c3
    have c3b2 : (l0.length == l1.length) = false := by first | simpa using c3 | (simp at c3 ⊢; omega)
    obtain rfl := Option.some.inj H
    go_enter Try.func44, Try.ntmps44
    go_wp2
    repeat (go_quiet (fail); try go_wp2)
    go_ret
    exact ⟨by first | rfl | (simp; done) | (simp [*]; done), by repeat (first | exact Drawn0.refl _ | apply Drawn0.step)⟩

end Go.Proofs.Ytocpcnmnhckcpaa.Prt
namespace Go.Proofs.Ytocpcnmnhckcpaa.Prt
open Go.RowKit Go.Proofs.YtocpcnmnhckcpaaW.PrintWords Go.Proofs.YtocpcnmnhckcpaaW.PrintLast Go.Proofs.YtocpcnmnhckcpaaW.PrintMore Go.Proofs.Ytocpcnmnhckcpaa.Num Go.Proofs.Ytocpcnmnhckcpaa.Nam
set_option linter.unusedVariables false
set_option linter.unusedSimpArgs false

theorem succW (i : Nat) (h : i < 9223372036854775807) : wrap64 ((i : Int) + 1) = ((i + 1 : Nat) : Int) := by rw [wrapI (by omega) (by omega)]; omega
theorem rdOf_mem {l : List ByteArray} {i : Nat} (h : i < l.length) : rdOf ByteArray.empty l (i : Int) ∈ l := getD_mem' h _
theorem drop_rd (l : List ByteArray) (i : Nat) (h : i < l.length) : l.drop i = rdOf ByteArray.empty l (i : Int) :: l.drop (i + 1) := by
  rw [List.drop_eq_getElem_cons h]
  unfold rdOf
  rw [Int.toNat_natCast, List.getD_eq_getElem?_getD, List.getElem?_eq_getElem h]; rfl
/-- Two rows are the same, element by element. -/
def eqL {α : Type} (e : α → α → Bool) : List α → List α → Bool
  | [], [] => true
  | a :: r, b :: s => e a b && eqL e r s
  | _, _ => false
theorem eqL_iff {α : Type} {e : α → α → Bool} (h : ∀ x y, e x y = true ↔ x = y) : ∀ a b, eqL e a b = true ↔ a = b
  | [], [] => by simp [eqL]
  | a :: r, b :: s => by simp [eqL, h, eqL_iff h r s]
  | [], _ :: _ => by simp [eqL]
  | _ :: _, [] => by simp [eqL]
theorem eqL_len {α : Type} {e : α → α → Bool} : ∀ a b, a.length ≠ b.length → eqL e a b = false
  | [], [], h => absurd rfl h
  | a :: r, b :: s, h => by rw [eqL, eqL_len r s (fun h2 => h (by simp [h2])), Bool.and_false]
  | [], _ :: _, _ => rfl
  | _ :: _, [], _ => rfl
def eqS (a b : ByteArray) : Bool := a.toList == b.toList
theorem eqS_iff (a b : ByteArray) : eqS a b = true ↔ a = b := by unfold eqS; rw [beq_iff_eq]; exact ⟨toList_inj, fun h => by rw [h]⟩
theorem texts_loop (a b : List ByteArray) (hl : a.length ≤ 9223372036854775807) (hab : a.length = b.length) : ∀ (n i k : Nat), i + n = a.length → n < k → registrarref04_Texts.l0 k a b (i : Int) = some (eqL eqS (a.drop i) (b.drop i)) := by
  intro n
  induction n with
  | zero =>
    intro i k hi hk
    obtain ⟨k, rfl⟩ : ∃ m, k = m + 1 := ⟨k - 1, by omega⟩
    rw [registrarref04_Texts.l0, if_neg (by omega), List.drop_eq_nil_of_le (by omega), List.drop_eq_nil_of_le (by omega)]; rfl
  | succ n ih =>
    intro i k hi hk
    obtain ⟨k, rfl⟩ : ∃ m, k = m + 1 := ⟨k - 1, by omega⟩
    rw [registrarref04_Texts.l0, if_pos (by omega), if_pos (by omega), if_pos (by omega), drop_rd a i (by omega), drop_rd b i (by omega), eqL]
    by_cases he : (rdOf ByteArray.empty a (i : Int)).toList = (rdOf ByteArray.empty b (i : Int)).toList
    · rw [if_pos he, succW i (by omega), ih (i + 1) k (by omega) (by omega)]
      have : eqS (rdOf ByteArray.empty a (i : Int)) (rdOf ByteArray.empty b (i : Int)) = true := beq_iff_eq.2 he
      rw [this]; rfl
    · rw [if_neg he]
      have : eqS (rdOf ByteArray.empty a (i : Int)) (rdOf ByteArray.empty b (i : Int)) = false := beq_eq_false_iff_ne.2 he
      rw [this]; rfl
def registrarref04_TextsG.f (l0 : List ByteArray) (l1 : List ByteArray) : Option (Bool) := if l0.length ≤ 9223372036854775807 then some (eqL eqS l0 l1) else none
theorem registrarref04_TextsG.val {l0 l1 : List ByteArray} {r : Bool} (h : registrarref04_TextsG.f l0 l1 = some r) : ∃ k, registrarref04_Texts.f k l0 l1 = some r := by
  unfold registrarref04_TextsG.f at h
  by_cases hc : l0.length ≤ 9223372036854775807
  · rw [if_pos hc] at h
    rw [← h]
    refine ⟨l0.length + 1, ?_⟩
    unfold registrarref04_Texts.f
    by_cases hl : l0.length = l1.length
    · rw [if_pos (by omega)]
      exact texts_loop l0 l1 hc hl l0.length 0 (l0.length + 1) (by omega) (by omega)
    · rw [if_neg (by omega), eqL_len _ _ hl]
  · rw [if_neg hc] at h; cases h
theorem registrarref04_TextsG.calls (A0 : Option Addr) (c0 : Nat) (l0 : List ByteArray) (A1 : Option Addr) (c1 : Nat) (l1 : List ByteArray) (r : Bool) (w : World) (hr0 : Kd.C Kd.string w A0 l0.length l0) (hc0 : l0.length ≤ c0) (hr1 : Kd.C Kd.string w A1 l1.length l1) (hc1 : l1.length ≤ c1) (h : registrarref04_TextsG.f l0 l1 = some r) :
    Calls Try.prog 44 #[.slice A0 l0.length c0, .slice A1 l1.length c1] w fun e w' => e = .returned (.bool r) ∧ Drawn0 w w' := by
  obtain ⟨k, hk⟩ := registrarref04_TextsG.val h
  exact registrarref04_Texts.calls k A0 c0 l0 A1 c1 l1 r w hr0 hc0 hr1 hc1 hk
end Go.Proofs.Ytocpcnmnhckcpaa.Prt
namespace Go.Proofs.Ytocpcnmnhckcpaa.Num
open Go.RowKit Go.Proofs.YtocpcnmnhckcpaaW.PrintWords Go.Proofs.YtocpcnmnhckcpaaW.PrintLast Go.Proofs.YtocpcnmnhckcpaaW.PrintMore Go.Proofs.Ytocpcnmnhckcpaa.Prt Go.Proofs.Ytocpcnmnhckcpaa.Nam
set_option linter.unusedVariables false
set_option linter.unusedSimpArgs false

theorem R_off' {α : Type} {d : Kd α} {e N B : Nat} {w w' : World} {v : Value} {l : List α} (h : d.R e w N (fun _ => True) v l) (hB : B < N) (hk : KeepBut w w' B none) : d.R e w' N (fun _ => True) v l :=
  Kd.R_mono (Kd.R_keep (Kd.R_bound h) hk (fun k hk => by have := hk.2.1; omega)) (fun _ _ => trivial)
theorem R_set {α : Type} {d : Kd α} {e N t E : Nat} {w : World} {v : Value} {l : List α} {cells : Array Value} (h : d.R e w N (fun _ => True) v l) (hb : w.heap[E]? = some (.cells cells t (0, 0))) (ht : ∀ q, q ∈ e :: d.E → q ≠ t) (i : Nat) (u : Value) : d.R e (w.setCell ⟨E, i, none⟩ u) N (fun _ => True) v l :=
  Kd.R_mono (Kd.R_far (p := ⟨E, i, none⟩) (Kd.R_types h hb ht) (fun k hk => hk.2) u) (fun _ _ => trivial)
theorem Rd.grown {T : Nat} {P : Nat → Prop} {W W1 : World} {g : Nat} {l : List Int} {bad : Bool} {row : Option Nat} (h : Rd T P W g l bad) (hg : W.grownBy W1 row) (hne : some g ≠ row) (hP : ∀ k, P k → some k ≠ row) : Rd T P W1 g l bad := by
  obtain ⟨A, c, h1, h2, h3, h4, h5⟩ := h
  refine ⟨A, c, blk_grown h1 hg hne, h2, ?_, h4, h5⟩
  cases row with
  | none =>
    have hk : KeepBut W W1 g none := KeepBut.of_grown hg g
    exact Kd.C_keep (0 : Int) h3 hk (fun ad e hn he => h5 (he ▸ h4 ad e hn))
  | some b =>
    have hk : KeepBut W W1 b none := ⟨hg.size, fun i hi hb _ => hg.block i hi (by simpa using hb)⟩
    exact Kd.C_keep (0 : Int) h3 hk (fun ad e hn he => by have := hP _ (h4 ad e hn); rw [he] at this; exact this rfl)
theorem blk_ne {w : World} {a b t u : Nat} {cs ds : Array Value} (h : w.heap[a]? = some (.cells cs t (0, 0))) (h2 : w.heap[b]? = some (.cells ds u (0, 0))) (ht : t ≠ u) : a ≠ b := by
  rintro rfl
  rw [h] at h2
  injection h2 with h2
  injection h2 with _ h3
  exact ht h3

theorem ne_base {N g : Nat} {v : Value} (hb : ∀ k, v.ownBlock = some k → N ≤ k) (hg : g < N) : some g ≠ v.ownBlock := fun e => by have := hb g e.symm; omega
theorem info_str : (Try.prog.info? 9).map (fun i => (i.zero, i.size, i.bytes)) = some (some (.string ⟨#[]⟩), 1, 16) := by kernel_rfl
theorem aftT_bytes {l : List Int} (h : isBytes l) : isBytes (aftT l) := by
  unfold aftT
  cases hd : decT l with
  | none => intro c hc; simp at hc
  | some q =>
    obtain ⟨s, r⟩ := q
    have := (decT_sound h hd).1
    rw [this] at h
    exact (isBytes_append.1 h).2
theorem aft_len (l : List Int) (hb : isBytes l) : (aft l).length ≤ l.length := by
  unfold aft
  cases hd : dec l with
  | none => simp
  | some q =>
    obtain ⟨x, r⟩ := q
    have := (dec_sound hb hd).1
    rw [this]; simp
theorem aftT_len (l : List Int) (hb : isBytes l) : (aftT l).length ≤ l.length := by
  unfold aftT
  cases hd : decT l with
  | none => simp
  | some q =>
    obtain ⟨x, r⟩ := q
    have := (decT_sound hb hd).1
    rw [this]; simp
theorem textOf_size (l : List Int) (hb : isBytes l) : (textOf l).size ≤ l.length := by
  unfold textOf
  cases hd : decT l with
  | none => exact Nat.zero_le _
  | some q =>
    obtain ⟨x, r⟩ := q
    have h1 := (decT_sound hb hd).1
    have h2 : (strOfNums x).size = x.length := strOfNums_size' x
    show (strOfNums x).size ≤ _
    rw [h2, h1]; unfold encT; simp; omega
/-- What a call leaves that was handed a reader. -/
def Out (w w' : World) (P : Nat → Prop) (g : Nat) (l : List Int) (b : Bool) : Prop := Rd 98 P w' g l b ∧ Below g w w' ∧ KeepBut w w' g none
theorem Out.set {w w' : World} {P : Nat → Prop} {g : Nat} {l : List Int} {bad : Bool} (h : Out w w' P g l bad) (hg : g < w.heap.size) (hP : ∀ k, P k → k < w.heap.size) {Q : Nat} (hQ : w.heap.size ≤ Q) (i : Nat) (u : Value) : Out w (w'.setCell ⟨Q, i, none⟩ u) P g l bad :=
  ⟨h.1.kept ((KeepBut.refl w' Q none).set_ i _) (by omega) (fun hp => by have := hP Q hp; omega), h.2.1.setCell (p := ⟨Q, i, none⟩) (by show g ≤ Q; omega) _, keep_far h.2.2 hQ _⟩
/-- So many texts taken. -/
def takeTs : Nat → List Int → Bool → List ByteArray × List Int × Bool
  | 0, l, b => ([], l, b)
  | n + 1, l, b => ((takeTs n l b).1 ++ [textOf (takeTs n l b).2.1], aftT (takeTs n l b).2.1, badT (takeTs n l b).2.1 (takeTs n l b).2.2)
theorem takeTs_len (l : List Int) (b : Bool) : ∀ n, (takeTs n l b).1.length = n
  | 0 => rfl
  | n + 1 => by simp only [takeTs, List.length_append, List.length_singleton, takeTs_len l b n]
theorem takeTs_left (l : List Int) (b : Bool) (hb : isBytes l) : ∀ n, isBytes (takeTs n l b).2.1 ∧ (takeTs n l b).2.1.length ≤ l.length ∧ ∀ x ∈ (takeTs n l b).1, x.size ≤ l.length
  | 0 => ⟨hb, Nat.le_refl _, fun x hx => by simp [takeTs] at hx⟩
  | n + 1 => by
    obtain ⟨h1, h2, h3⟩ := takeTs_left l b hb n
    refine ⟨aftT_bytes h1, Nat.le_trans (aftT_len _ h1) h2, fun x hx => ?_⟩
    simp only [takeTs] at hx
    rcases List.mem_append.1 hx with hx | hx
    · exact h3 x hx
    · rw [List.mem_singleton.1 hx]; exact Nat.le_trans (textOf_size _ h1) h2
end Go.Proofs.Ytocpcnmnhckcpaa.Num
namespace Go.Proofs.Ytocpcnmnhckcpaa.Prt
open Go.RowKit Go.Proofs.YtocpcnmnhckcpaaW.PrintWords Go.Proofs.YtocpcnmnhckcpaaW.PrintLast Go.Proofs.YtocpcnmnhckcpaaW.PrintMore Go.Proofs.Ytocpcnmnhckcpaa.Num Go.Proofs.Ytocpcnmnhckcpaa.Nam
set_option linter.unusedVariables false
set_option linter.unusedSimpArgs false
theorem numOf_good {l : List Int} {b : Bool} (hb : isBytes l) (h : badOf l b = false) : b = false ∧ l = enc (numOf l) ++ aft l ∧ i64 (numOf l) := by
  unfold badOf at h
  cases hd : dec l with
  | none => rw [hd] at h; simp at h
  | some q =>
    obtain ⟨x, r⟩ := q
    rw [hd] at h
    obtain ⟨h1, h2⟩ := dec_sound hb hd
    have e1 : numOf l = x := by unfold numOf; rw [hd]
    have e2 : aft l = r := by unfold aft; rw [hd]
    rw [e1, e2]
    exact ⟨by simpa using h, h1, h2⟩
theorem textOf_good {l : List Int} {b : Bool} (hb : isBytes l) (h : badT l b = false) : b = false ∧ l = encT (bytesOf (textOf l)) ++ aftT l := by
  unfold badT at h
  cases hd : decT l with
  | none => rw [hd] at h; simp at h
  | some q =>
    obtain ⟨x, r⟩ := q
    rw [hd] at h
    obtain ⟨h1, h2⟩ := decT_sound hb hd
    have hx : isBytes x := by rw [h1] at hb; unfold encT at hb; exact (isBytes_append.1 (isBytes_append.1 hb).1).2
    have e1 : textOf l = strOfNums x := by unfold textOf; rw [hd]
    have e2 : aftT l = r := by unfold aftT; rw [hd]
    rw [e1, e2, bytesOf_strOfNums hx]
    exact ⟨by simpa using h, h1⟩
/-- What was laid down is taken. -/
theorem textOf_enc {s : ByteArray} (hs : s.size ≤ 9223372036854775807) (r : List Int) (b : Bool) : textOf (encT (bytesOf s) ++ r) = s ∧ aftT (encT (bytesOf s) ++ r) = r ∧ badT (encT (bytesOf s) ++ r) b = b := by
  unfold textOf aftT badT
  rw [decT_encT (by rw [bytes_length]; exact hs)]
  exact ⟨strOfNums_bytesOf s, rfl, by simp⟩
theorem numOf_enc {x : Int} (h : i64 x) (r : List Int) (b : Bool) : numOf (enc x ++ r) = x ∧ aft (enc x ++ r) = r ∧ badOf (enc x ++ r) b = b := by
  unfold numOf aft badOf
  rw [dec_enc h]
  exact ⟨rfl, rfl, by simp⟩
theorem encTs_snoc (a : List ByteArray) (x : ByteArray) : encTs (a ++ [x]) = encTs a ++ encT (bytesOf x) := by unfold encTs; simp
theorem takeTs_good (l : List Int) (b : Bool) (hb : isBytes l) : ∀ n, (takeTs n l b).2.2 = false → b = false ∧ l = encTs (takeTs n l b).1 ++ (takeTs n l b).2.1
  | 0, h => ⟨h, rfl⟩
  | n + 1, h => by
    simp only [takeTs] at h ⊢
    obtain ⟨h1, h2⟩ := textOf_good (takeTs_left l b hb n).1 h
    obtain ⟨h3, h4⟩ := takeTs_good l b hb n h1
    refine ⟨h3, ?_⟩
    rw [encTs_snoc, List.append_assoc, ← h2]; exact h4
theorem takeTs_enc (a : List ByteArray) (ha : ∀ x ∈ a, x.size ≤ 9223372036854775807) (r : List Int) (b : Bool) : ∀ n, n ≤ a.length → takeTs n (encTs a ++ r) b = (a.take n, encTs (a.drop n) ++ r, b)
  | 0, _ => by simp [takeTs]
  | n + 1, h => by
    have ih := takeTs_enc a ha r b n (by omega)
    have hd := drop_rd a n (by omega)
    have hx := ha _ (rdOf_mem (l := a) (i := n) (by omega))
    simp only [takeTs, ih]
    have e : encTs (a.drop n) ++ r = encT (bytesOf (rdOf ByteArray.empty a (n : Int))) ++ (encTs (a.drop (n + 1)) ++ r) := by
      rw [hd]; unfold encTs; rw [List.flatMap_cons, List.append_assoc]
    rw [e]
    obtain ⟨h1, h2, h3⟩ := textOf_enc hx (encTs (a.drop (n + 1)) ++ r) b
    rw [h1, h2, h3]
    refine Prod.ext ?_ rfl
    show a.take n ++ [rdOf ByteArray.empty a (n : Int)] = a.take (n + 1)
    rw [List.take_succ_eq_append_getElem (by omega)]
    unfold rdOf
    rw [Int.toNat_natCast, List.getD_eq_getElem?_getD, List.getElem?_eq_getElem (by omega)]; rfl
end Go.Proofs.Ytocpcnmnhckcpaa.Prt
namespace Go.Proofs.Ytocpcnmnhckcpaa.Prt
open Go.RowKit Go.Proofs.YtocpcnmnhckcpaaW.PrintWords Go.Proofs.YtocpcnmnhckcpaaW.PrintLast Go.Proofs.YtocpcnmnhckcpaaW.PrintMore Go.Proofs.Ytocpcnmnhckcpaa.Num Go.Proofs.Ytocpcnmnhckcpaa.Nam
set_option linter.unusedVariables false
set_option linter.unusedSimpArgs false

/-- Strings of bytes are alike just if the bytes are. -/
theorem bytes_eq {a b : List Int} (ha : isBytes a) (hb : isBytes b) : ((strOfNums a).toList == (strOfNums b).toList) = decide (a = b) := str_beq ha hb
theorem equal_calls (A : Option Addr) (c : Nat) (l : List Int) (A' : Option Addr) (c' : Nat) (l' : List Int) (w : World) (hr : Kd.C (Kd.int .u8) w A l.length l) (hc : l.length ≤ c) (hr' : Kd.C (Kd.int .u8) w A' l'.length l') (hc' : l'.length ≤ c') (hb : isBytes l) (hb' : isBytes l') :
    Calls Try.prog 35 #[.slice A l.length c, .slice A' l'.length c'] w fun e w' => e = .returned (.bool (decide (l = l'))) ∧ w = w' := by
  have HR := Aside0.mk hr
  have HR' := Aside0.mk hr'
  have HE := Aside0.mk (bytes_eq hb hb')
  clear hr hr' hb hb' hc hc'
  go_enter Try.func35, Try.ntmps35
  go_wp2_with (first | ((with_reducible refine gate_dst (N := 6) rfl ?_); (try (refine gate_guard (by rfl) ?_; dsimp only)); refine Gen.ev_string' (strOfNums l) rfl 41 9 5 (.tmp 5) rfl Try.underlying41 Try.underlying9 Try.underlying5 rfl HR.out rfl ?_) | ((with_reducible refine gate_dst (N := 8) rfl ?_); (try (refine gate_guard (by rfl) ?_; dsimp only)); refine Gen.ev_string' (strOfNums l') rfl 41 9 5 (.tmp 7) rfl Try.underlying41 Try.underlying9 Try.underlying5 rfl HR'.out rfl ?_))
  go_ret
  exact ⟨by rw [← HE.out]; rfl, rfl⟩
theorem S_set {α : Type} {d : Kd α} {e N t E : Nat} {w : World} {v : Value} {l : List α} {cells : Array Value} (h : Kd.S d e w N (fun _ => True) v l) (hb : w.heap[E]? = some (.cells cells t (0, 0))) (ht : ∀ q, q ∈ e :: d.E → q ≠ t) (i : Nat) (u : Value) : Kd.S d e (w.setCell ⟨E, i, none⟩ u) N (fun _ => True) v l :=
  Kd.S_mono (Kd.S_far (p := ⟨E, i, none⟩) (Kd.S_types h hb ht) (fun k hk => hk.2) u) (fun _ _ => trivial)
end Go.Proofs.Ytocpcnmnhckcpaa.Prt
namespace Go.Proofs.Ytocpcnmnhckcpaa.Prt
open Go.RowKit Go.Proofs.YtocpcnmnhckcpaaW.PrintWords Go.Proofs.YtocpcnmnhckcpaaW.PrintLast Go.Proofs.YtocpcnmnhckcpaaW.PrintMore Go.Proofs.Ytocpcnmnhckcpaa.Num Go.Proofs.Ytocpcnmnhckcpaa.Nam
set_option linter.unusedVariables false
set_option linter.unusedSimpArgs false

theorem sizeBuilder : (Try.prog.info? 50).map (·.size) = some 2 := by kernel_rfl
theorem liesBuilder : liesAt Try.prog Try.prog.depth 50 (2 / Try.prog.cellsOf 50) 0 50 1 = true := by kernel_rfl
set_option maxRecDepth 100000 in
theorem copyCheck_calls (B : Nat) (v p : Value) (w : World) (hb : w.heap[B]? = some (.cells #[p, v] 50 (0, 0))) (hp : p = .pointer none ∨ p = .pointer (some ⟨B, 0, none⟩)) :
    Calls Try.prog 36 #[.pointer (some ⟨B, 0, none⟩)] w fun e w' => e = .returned (.tuple #[]) ∧ w'.heap[B]? = some (.cells #[.pointer (some ⟨B, 0, none⟩), v] 50 (0, 0)) ∧ KeepBut w w' B none ∧ Below B w w' := by
  have hc0 : w.cell? ⟨B, 0, none⟩ = some p := blk_cell hb 0
  have hf0 := blk_frozen hb 0
  have hu := Try.underlying50
  have hsh : w.shape? B = some (50, 2) := by simp [World.shape?, hb]
  obtain ⟨j, hj, hjs⟩ := Option.map_eq_some_iff.1 sizeBuilder
  have HK := Aside0.mk hb
  clear hb
  rcases hp with rfl | rfl
  · go_enter Try.func36, Try.ntmps36
    go_wp2
    rw [Lib.run_to_unsafe w ⟨B, 0, none⟩ Try.underlying48 Try.underlying106 hj (by rw [hjs]; decide) hsh (Nat.zero_lt_succ 1)]
    simp only [Result.andThen]
    rw [Oper.upon_value]
    go_wp2
    rw [run_callFunc_extern Try.func56 (by kernel_rfl) (by kernel_rfl) (by kernel_rfl) (e := Extern.AbiNoEscape.same) (by kernel_rfl)]
    rw [Lib.run_noEscape]
    simp only [Result.andThen]
    rw [Oper.upon_value]
    go_wp2
    rw [Lib.run_from_unsafe w ⟨B, 0, none⟩ Try.underlying106 Try.underlying48 hj hsh liesBuilder]
    simp only [Result.andThen]
    rw [Oper.upon_value]
    go_wp2
    go_end0
    exact ⟨rfl, by have h := blk_set HK.out 0 (.pointer (some ⟨B, 0, none⟩)); simpa using h, (KeepBut.refl w B none).set_ 0 _, (Below.refl B w).setCell (p := ⟨B, 0, none⟩) (Nat.le_refl B) _⟩
  · go_enter Try.func36, Try.ntmps36
    go_wp2
    rw [Lib.run_neq_ptr_same w _ Try.underlying48 hj]
    go_wp2
    go_end0
    exact ⟨rfl, HK.out, KeepBut.refl _ _ _, Below.refl _ _⟩
/-- What a builder at block B of N blocks leaves of the blocks below N. -/
structure Low (N B : Nat) (w w' : World) : Prop where
  os : w'.os = w.os
  tape : w'.tape = w.tape
  output : w'.output = w.output
  size : w.heap.size ≤ w'.heap.size
  block : ∀ k, k < N → k ≠ B → w'.heap[k]? = w.heap[k]?
theorem Low.refl {N B : Nat} {w : World} : Low N B w w := ⟨rfl, rfl, rfl, Nat.le_refl _, fun _ _ _ => rfl⟩
theorem Low.trans {N B : Nat} {a b c : World} (h : Low N B a b) (k : Low N B b c) : Low N B a c :=
  ⟨k.os.trans h.os, k.tape.trans h.tape, k.output.trans h.output, Nat.le_trans h.size k.size, fun i hi hb => (k.block i hi hb).trans (h.block i hi hb)⟩
theorem Low.below {N B M : Nat} {a b : World} (h : Low N B a b) (hM : M ≤ N) (hB : M ≤ B) : Below M a b := ⟨h.os, h.tape, h.output, h.size, fun k hk => h.block k (by omega) (by omega)⟩
theorem Low.up {N B : Nat} {a b c : World} (h : Low N B a b) (hN : N ≤ b.heap.size) (k : Below b.heap.size b c) : Low N B a c :=
  ⟨k.os.trans h.os, k.tape.trans h.tape, k.output.trans h.output, Nat.le_trans h.size k.size, fun i hi hb => (k.block i (Nat.lt_of_lt_of_le hi hN)).trans (h.block i hi hb)⟩
def Bld (N B : Nat) (l : List Int) (w : World) : Prop :=
  ∃ p v, w.heap[B]? = some (.cells #[p, v] 50 (0, 0)) ∧ (p = .pointer none ∨ p = .pointer (some ⟨B, 0, none⟩)) ∧ Kd.R (Kd.int .u8) 5 w N (fun _ => True) v l ∧ B < N ∧ N ≤ w.heap.size
theorem Bld.start {N B : Nat} {w : World} (hb : w.heap[B]? = some (.cells #[.pointer none, .slice none 0 0] 50 (0, 0))) (hN : N = w.heap.size) : Bld N B [] w :=
  ⟨_, _, hb, .inl rfl, Kd.R_nil _ _ _ _ _, by rw [hN]; exact blk_lt hb, by omega⟩
theorem Bld.up {N B : Nat} {l : List Int} {w w' : World} (h : Bld N B l w) (hb : Below w.heap.size w w') : Bld N B l w' := by
  obtain ⟨p, v, h1, h2, h3, h4, h5⟩ := h
  exact ⟨p, v, blk_below h1 hb, h2, Kd.R_below h3 hb, h4, Nat.le_trans h5 hb.size⟩
set_option maxRecDepth 100000 in
theorem writeByte_calls (N B : Nat) (l : List Int) (r : Int) (w : World) (hl : l.length ≤ 1000000000000) (hb : Bld N B l w) :
    Calls Try.prog 37 #[.pointer (some ⟨B, 0, none⟩), .int .u8 r] w fun e w' => (∃ v, e = .returned v) ∧ Bld N B (l ++ [r]) w' ∧ Low N B w w' := by
  obtain ⟨p, v, hblk, hp, hR, hBN, hN⟩ := hb
  have hu := Try.underlying50
  obtain ⟨A, c, rfl, hc, hC⟩ := Kd.R_reads hR
  have HR0 := Aside0.mk hR
  have HP := Aside0.mk hp
  have HK0 := Aside0.mk hblk
  clear hC hc hR hp hblk
  go_enter Try.func37, Try.ntmps37
  go_wp2_with fail
  refine (copyCheck_calls B _ p w HK0.out HP.out).mono ?_
  rintro e w1 ⟨rfl, h1, h2, h3⟩
  have hc1 : w1.cell? ⟨B, 1, none⟩ = some (.slice A l.length c) := blk_cell h1 1
  have HK1 := Aside0.mk h1
  have HR1 := Aside0.mk (R_off' HR0.out hBN h2)
  have HKB := Aside0.mk h2
  have HBE := Aside0.mk h3
  have hN1 : N ≤ w1.heap.size := Nat.le_trans hN h2.1
  clear h1 h2 h3 HR0 HK0
  go_upto_region 3 with (first | ((with_reducible refine gate_builtin (b := .append) (xs := #[.tmp 11, .tmp 13]) rfl ?_); at_builtin; refine Kd.R_append (Kd.int .u8) (w0 := w1) N rfl (.tmp 11) (.tmp 13) 41 5 (.int .u8 0) 1 rfl Try.underlying41 info_u8 rfl (by decide) (by omega) (.slice A l.length c) l r [.int .u8 r] (fun _ => True) (fun _ => False) rfl rfl rfl (fun _ hk => hk.elim) (fun _ _ => trivial) HR1.out (Below.refl _ _) hN1 (by omega) ?_; intro v2 w2 ho hb hg hat; obtain ⟨lr, hlr⟩ : ∃ lr, lr = l ++ [r] := ⟨_, rfl⟩; rw [← hlr] at ho; have HLR := Aside0.mk hlr; clear hlr; have HO2 := Aside0.mk ho; have HB2 := Aside0.mk hb; obtain ⟨A2, c2, e2⟩ := Kd.R_slice ho; subst e2; have hK2 := (hb.block B hBN).trans HK1.out; have HK2 := Aside0.mk hK2; have hf1 := blk_frozen hK2 1; have hcz := blk_cell hK2 1; clear ho hb hg hat hK2))
  have hs := blk_set HK2.out 1 (.slice A2 lr.length c2)
  have n1_ : Aside0 (Bld N B lr (w2.setCell ⟨B, 1, none⟩ (.slice A2 lr.length c2))) := ⟨⟨_, _, by simpa using hs, .inr rfl, R_off' HO2.out hBN ((KeepBut.refl w2 B none).set_ 1 _), hBN, by have := HB2.out.size; rw [World.size_setCell]; omega⟩⟩
  have n2_ : Aside0 (Low N B w (w2.setCell ⟨B, 1, none⟩ (.slice A2 lr.length c2))) := ⟨⟨HB2.out.os.trans HBE.out.os, HB2.out.tape.trans HBE.out.tape, HB2.out.output.trans HBE.out.output, by have := HB2.out.size; have := HKB.out.1; rw [World.size_setCell]; omega, fun k hk hne => (((KeepBut.refl w2 B none).set_ 1 _).2 k (by have := HB2.out.size; omega) hne (by simp)).trans ((HB2.out.block k hk).trans (HKB.out.2 k (by omega) hne (by simp)))⟩⟩
  clear hs HK2 HB2 HO2 HKB HBE HR1 HK1 hf1 hcz hc1
  generalize w2.setCell ⟨B, 1, none⟩ (.slice A2 lr.length c2) = w3 at n1_ n2_ ⊢
  go_wp2
  go_ret
  exact ⟨⟨_, rfl⟩, by rw [← HLR.out]; exact n1_.out, n2_.out⟩
set_option maxRecDepth 100000 in
theorem writeString_calls (N B : Nat) (l : List Int) (s : ByteArray) (w : World) (hl : l.length + s.size ≤ 1000000000000) (hb : Bld N B l w) :
    Calls Try.prog 14 #[.pointer (some ⟨B, 0, none⟩), .string s] w fun e w' => (∃ v, e = .returned v) ∧ Bld N B (l ++ bytesOf s) w' ∧ Low N B w w' := by
  obtain ⟨p, v, hblk, hp, hR, hBN, hN⟩ := hb
  have hu := Try.underlying50
  obtain ⟨A, c, rfl, hc, hC⟩ := Kd.R_reads hR
  have HR0 := Aside0.mk hR
  have HP := Aside0.mk hp
  have HK0 := Aside0.mk hblk
  clear hC hc hR hp hblk
  go_enter Try.func14, Try.ntmps14
  go_wp2_with fail
  refine (copyCheck_calls B _ p w HK0.out HP.out).mono ?_
  rintro e w1 ⟨rfl, h1, h2, h3⟩
  have hc1 : w1.cell? ⟨B, 1, none⟩ = some (.slice A l.length c) := blk_cell h1 1
  have HK1 := Aside0.mk h1
  have HR1 := Aside0.mk (R_off' HR0.out hBN h2)
  have HKB := Aside0.mk h2
  have HBE := Aside0.mk h3
  have hN1 : N ≤ w1.heap.size := Nat.le_trans hN h2.1
  clear h1 h2 h3 HR0 HK0
  go_upto_region 3 with (first | ((with_reducible refine gate_builtin (b := .append) (xs := #[.tmp 12, .tmp 13]) rfl ?_); at_builtin; refine Gen.R_append_str (w0 := w1) N rfl (.tmp 12) (.tmp 13) 41 9 5 rfl Try.underlying41 Try.underlying9 info_u8 (.slice A l.length c) l s rfl rfl HR1.out (Below.refl _ _) hN1 (by omega) ?_; intro v2 w2 ho hb hg; obtain ⟨lr, hlr⟩ : ∃ lr, lr = l ++ bytesOf s := ⟨_, rfl⟩; rw [← hlr] at ho; have HLR := Aside0.mk hlr; clear hlr; have HO2 := Aside0.mk ho; have HB2 := Aside0.mk hb; obtain ⟨A2, c2, e2⟩ := Kd.R_slice ho; subst e2; have hK2 := (hb.block B hBN).trans HK1.out; have HK2 := Aside0.mk hK2; have hf1 := blk_frozen hK2 1; have hcz := blk_cell hK2 1; clear ho hb hg hK2))
  have hs := blk_set HK2.out 1 (.slice A2 lr.length c2)
  have n1_ : Aside0 (Bld N B lr (w2.setCell ⟨B, 1, none⟩ (.slice A2 lr.length c2))) := ⟨⟨_, _, by simpa using hs, .inr rfl, R_off' HO2.out hBN ((KeepBut.refl w2 B none).set_ 1 _), hBN, by have := HB2.out.size; rw [World.size_setCell]; omega⟩⟩
  have n2_ : Aside0 (Low N B w (w2.setCell ⟨B, 1, none⟩ (.slice A2 lr.length c2))) := ⟨⟨HB2.out.os.trans HBE.out.os, HB2.out.tape.trans HBE.out.tape, HB2.out.output.trans HBE.out.output, by have := HB2.out.size; have := HKB.out.1; rw [World.size_setCell]; omega, fun k hk hne => (((KeepBut.refl w2 B none).set_ 1 _).2 k (by have := HB2.out.size; omega) hne (by simp)).trans ((HB2.out.block k hk).trans (HKB.out.2 k (by omega) hne (by simp)))⟩⟩
  clear hs HK2 HB2 HO2 HKB HBE HR1 HK1 hf1 hcz hc1
  generalize w2.setCell ⟨B, 1, none⟩ (.slice A2 lr.length c2) = w3 at n1_ n2_ ⊢
  go_wp2
  go_ret2
  exact ⟨⟨_, rfl⟩, by rw [← HLR.out]; exact n1_.out, n2_.out⟩
theorem byteCells_nums (l : List Int) (h : isBytes l) : Lib.byteCells (l.map fun n => UInt8.ofNat n.toNat) = l.map fun n => Value.int .u8 n := by
  unfold Lib.byteCells
  rw [List.map_map]
  apply List.map_congr_left
  intro c hc
  have := h c hc
  simp only [Function.comp, UInt8.toNat_ofNat']
  congr 1; omega
theorem inner_of (l : List Int) (inner : List Value) (Q : Int → List Value → Prop) (hQ : ∀ x c, Q x c → c = [.int .u8 x]) (h : Reps Q 1 l inner) : inner = l.map fun n => Value.int .u8 n := by
  obtain ⟨h1, h2⟩ := h
  apply List.ext_getElem?
  intro j
  rw [List.getElem?_map]
  rcases Nat.lt_or_ge j l.length with hj | hj
  · have h3 := hQ _ _ (h2 j l[j] (List.getElem?_eq_getElem hj))
    have h4 := congrArg (fun c : List Value => c[0]?) h3
    simp only [List.getElem?_take, List.getElem?_drop, Nat.mul_one, Nat.add_zero] at h4
    rw [List.getElem?_eq_getElem hj]
    simpa using h4
  · rw [List.getElem?_eq_none (by omega), List.getElem?_eq_none hj]; rfl
theorem string_calls (N B : Nat) (l : List Int) (w : World) (hl : isBytes l) (hb : Bld N B l w) :
    Calls Try.prog 16 #[.pointer (some ⟨B, 0, none⟩)] w fun e w' => e = .returned (.string (strOfNums l)) ∧ Below B w w' := by
  obtain ⟨p, v, hblk, hp, hR, hBN, hN⟩ := hb
  have hown : w.ownsRow B 5 1 v (l.map fun n => Value.int .u8 n).length (l.map fun n => Value.int .u8 n) := by
    obtain ⟨_, inner, ho, hreps⟩ := hR
    have e := inner_of l inner _ (fun x c h => h) hreps
    subst e
    rw [List.length_map]
    obtain ⟨g1, g2⟩ := ho
    refine ⟨g1, ?_⟩
    rcases g2 with g2 | ⟨g, cap, cur, e1, e2, e3⟩
    · exact .inl g2
    · exact .inr ⟨g, cap, cur, e1, by omega, e3⟩
  have hne : v.ownBlock ≠ some B := fun e => by have := Kd.R_base hR B e; omega
  have hI : Lib.IsBuilderF 50 5 B B (Lib.byteCells (l.map fun n => UInt8.ofNat n.toNat)) w := by
    apply Lib.IsBuilderF.of
    rw [byteCells_nums l hl]
    rcases hp with rfl | rfl
    · exact .inl ⟨Nat.le_refl _, v, hblk, hown, hne⟩
    · exact .inr ⟨Nat.le_refl _, v, hblk, hown, hne⟩
  refine (Try.Builder_String_any_k B B _ w hI (by omega)).mono ?_
  rintro e w1 ⟨rfl, _, h2, _⟩
  exact ⟨rfl, h2⟩
end Go.Proofs.Ytocpcnmnhckcpaa.Prt
namespace Go.Proofs.Ytocpcnmnhckcpaa.Num
open Go.RowKit Go.Proofs.YtocpcnmnhckcpaaW.PrintWords Go.Proofs.YtocpcnmnhckcpaaW.PrintLast Go.Proofs.YtocpcnmnhckcpaaW.PrintMore
set_option linter.unusedVariables false
set_option linter.unusedSimpArgs false

theorem times_calls (Inv : Nat → World → Prop) (most : Int) (G : Nat) (q1 q2 : Value) (P : Nat → Prop) (w : World) (g : Nat) (l : List Int) (bad : Bool) (hI : Rd 98 P w g l bad) (hb : isBytes l) (hm0 : 0 ≤ most) (hm1 : most ≤ 1000)
    (hent : ∀ (xs : Array Value) (W : World), (callFunc G xs).run Try.prog W = .ok (.enter G xs) W)
    (h0 : ∀ w1, Rd 98 P w1 g (aft l) (badOf l bad) → Below g w w1 → KeepBut w w1 g none → Inv 0 w1)
    (hs : ∀ i w1, i < (numOf l).toNat → numOf l ≤ most → Inv i w1 → Calls Try.prog G #[q1, q2] w1 fun e w2 => e = .returned (.tuple #[]) ∧ Inv (i + 1) w2) :
    Calls Try.prog 49 #[.pointer (some ⟨g, 0, none⟩), .int .i64 most, .func (.func G) #[] #[q1, q2]] w fun e w' =>
      ((numOf l < 0 ∨ most < numOf l) ∧ e = .returned (.bool false) ∧ Rd 98 P w' g (aft l) (badOf l bad) ∧ Below g w w' ∧ KeepBut w w' g none) ∨ (0 ≤ numOf l ∧ numOf l ≤ most ∧ e = .returned (.bool true) ∧ Inv (numOf l).toNat w') := by
  obtain ⟨x, hx⟩ : ∃ x, numOf l = x := ⟨_, rfl⟩
  have hr := numOf_i64 hb
  rw [hx] at hr hs ⊢
  obtain ⟨hr1, hr2⟩ := hr
  have HN := Aside0.mk (num_calls' x P w g l bad hI hb hx)
  have H0 := Aside0.mk h0
  have HS := Aside0.mk hs
  clear hI hb h0 hs hx
  by_cases hneg : x < 0
  · have hd : decide (x < 0) = true := decide_eq_true hneg
    go_enter Try.func49, Try.ntmps49
    go_wp2_with fail
    refine HN.out.mono ?_
    rintro e w1 ⟨rfl, hI1, hb1, hk1⟩
    have n1_ := Aside0.mk hI1
    have n2_ := Aside0.mk hb1
    have n3_ := Aside0.mk hk1
    clear hI1 hb1 hk1
    go_wp2
    go_ret
    exact .inl ⟨.inl hneg, rfl, n1_.out, n2_.out, n3_.out⟩
  have hd : decide (x < 0) = false := decide_eq_false hneg
  by_cases hbig : most < x
  · have hd2 : decide (most < x) = true := decide_eq_true hbig
    go_enter Try.func49, Try.ntmps49
    go_wp2_with fail
    refine HN.out.mono ?_
    rintro e w1 ⟨rfl, hI1, hb1, hk1⟩
    have n1_ := Aside0.mk hI1
    have n2_ := Aside0.mk hb1
    have n3_ := Aside0.mk hk1
    clear hI1 hb1 hk1
    go_wp2
    go_ret
    exact .inl ⟨.inr hbig, rfl, n1_.out, n2_.out, n3_.out⟩
  have hd2 : decide (most < x) = false := decide_eq_false hbig
  obtain ⟨n, rfl⟩ := Int.eq_ofNat_of_zero_le (Int.not_lt.1 hneg)
  rw [Int.toNat_natCast] at HS ⊢
  go_enter Try.func49, Try.ntmps49
  go_wp2_with fail
  refine HN.out.mono ?_
  rintro e w1 ⟨rfl, hI1, hb1, hk1⟩
  have n1_ := Aside0.mk (H0.out w1 hI1 hb1 hk1)
  clear hI1 hb1 hk1
  go_wp2
  go_loopg [18] n (fun k v18 w' => ∃ i : Nat, v18 = .int .i64 (i : Int) ∧ Aside0 (i + k = n) ∧ Aside0 (Inv i w'))
  case atStart => exact ⟨0, rfl, ⟨by omega⟩, n1_⟩
  case round =>
    obtain ⟨i, rfl, HE, HI⟩ := hrel
    by_cases hlt : i < n
    · have hb1 : decide ((i : Int) < (n : Int)) = true := decide_eq_true (by omega)
      have HC := Aside0.mk (HS.out i wr hlt (by omega) HI.out)
      go_wp2_with fail
      refine HC.out.mono ?_
      rintro e w2 ⟨rfl, hi2⟩
      have n2_ := Aside0.mk hi2
      clear hi2
      go_wp2
      go_roundg (n - (i + 1))
      case measure => have := HE.out; omega
      case rel => exact ⟨i + 1, by go_num, ⟨by have := HE.out; omega⟩, n2_⟩
    · have hb1 : decide ((i : Int) < (n : Int)) = false := decide_eq_false (by omega)
      go_wp2
      go_ret
      refine .inr ⟨by omega, by omega, rfl, ?_⟩
      have : i = n := by have := HE.out; omega
      rw [← this]; exact HI.out
end Go.Proofs.Ytocpcnmnhckcpaa.Num
namespace Go.Proofs.Ytocpcnmnhckcpaa.Num
open Go.RowKit Go.Proofs.YtocpcnmnhckcpaaW.PrintWords Go.Proofs.YtocpcnmnhckcpaaW.PrintLast Go.Proofs.YtocpcnmnhckcpaaW.PrintMore Go.Proofs.Ytocpcnmnhckcpaa.Prt
set_option linter.unusedVariables false
set_option linter.unusedSimpArgs false

/-- A reader's pointer in block Rb, an event's parts in block E; what the call w0 found is kept, but for the reader. -/
structure Tk (w0 w : World) (P : Nat → Prop) (g E Rb : Nat) (l : List Int) (bad : Bool) (s t : ByteArray) (v2 : Value) (tags : List ByteArray) (v3 : Value) (fl : List S90) : Prop where
  rd : Rd 98 P w g l bad
  hE : w.heap[E]? = some (.cells #[.string s, .string t, v2, v3] 31 (0, 0))
  hR : w.heap[Rb]? = some (.cells #[.pointer (some ⟨g, 0, none⟩)] 70 (0, 0))
  r2 : Kd.string.R 9 w w0.heap.size (fun _ => True) v2 tags
  r3 : k90.R 90 w w0.heap.size (fun _ => True) v3 fl
  keep : KeepBut w0 w g none
  below : Below g w0 w
  gN : g < w0.heap.size
  NE : w0.heap.size ≤ E
  NR : Rb ≠ g
  PN : ∀ k, P k → k < w0.heap.size
  by_ : isBytes l
section
variable {w0 w w1 : World} {P : Nat → Prop} {g E Rb : Nat} {l l' : List Int} {bad bad' : Bool} {s t : ByteArray} {v2 v3 : Value} {tags : List ByteArray} {fl : List S90}
theorem Tk.read (h : Tk w0 w P g E Rb l bad s t v2 tags v3 fl) (hr : Rd 98 P w1 g l' bad') (hb : Below g w w1) (hk : KeepBut w w1 g none) (hy : isBytes l') : Tk w0 w1 P g E Rb l' bad' s t v2 tags v3 fl :=
  ⟨hr, hk.blk h.hE (by have := h.gN; have := h.NE; omega) (by simp), hk.blk h.hR h.NR (by simp), R_off' h.r2 h.gN hk, R_off' h.r3 h.gN hk, h.keep.trans hk (.inl rfl), h.below.trans hb, h.gN, h.NE, h.NR, h.PN, hy⟩
theorem Tk.up (h : Tk w0 w P g E Rb l bad s t v2 tags v3 fl) (hb : Below w.heap.size w w1) : Tk w0 w1 P g E Rb l bad s t v2 tags v3 fl :=
  ⟨h.rd.below hb, blk_below h.hE hb, blk_below h.hR hb, Kd.R_below h.r2 hb, Kd.R_below h.r3 hb, h.keep.trans (KeepBut.of_below hb g none) (.inl rfl), h.below.trans (hb.mono (Nat.le_of_lt h.rd.lt)), h.gN, h.NE, h.NR, h.PN, h.by_⟩
theorem Tk.alloc (h : Tk w0 w P g E Rb l bad s t v2 tags v3 fl) (o : Obj) : Tk w0 (w.alloc o) P g E Rb l bad s t v2 tags v3 fl := h.up (below_alloc (Below.refl _ _) o)
theorem Tk.drew (h : Tk w0 w P g E Rb l bad s t v2 tags v3 fl) : Tk w0 w.drew P g E Rb l bad s t v2 tags v3 fl := h.up (below_drew (Below.refl _ _))
theorem Tk.notP (h : Tk w0 w P g E Rb l bad s t v2 tags v3 fl) : ¬ P E := fun hp => by have := h.PN E hp; have := h.NE; omega
theorem Tk.set0 (h : Tk w0 w P g E Rb l bad s t v2 tags v3 fl) (s' : ByteArray) : Tk w0 (w.setCell ⟨E, 0, none⟩ (.string s')) P g E Rb l bad s' t v2 tags v3 fl :=
  ⟨h.rd.kept ((KeepBut.refl w E none).set_ 0 _) (by have := h.gN; have := h.NE; omega) h.notP, by simpa using blk_set h.hE 0 (.string s'), blk_far h.hR (blk_ne h.hR h.hE (by decide)) _, R_set h.r2 h.hE (by decide) 0 _, R_set h.r3 h.hE (by decide) 0 _, keep_far h.keep h.NE _, h.below.setCell (p := ⟨E, 0, none⟩) (Nat.le_trans (Nat.le_of_lt h.gN) h.NE) _, h.gN, h.NE, h.NR, h.PN, h.by_⟩
theorem Tk.set1 (h : Tk w0 w P g E Rb l bad s t v2 tags v3 fl) (t' : ByteArray) : Tk w0 (w.setCell ⟨E, 1, none⟩ (.string t')) P g E Rb l bad s t' v2 tags v3 fl :=
  ⟨h.rd.kept ((KeepBut.refl w E none).set_ 1 _) (by have := h.gN; have := h.NE; omega) h.notP, by simpa using blk_set h.hE 1 (.string t'), blk_far h.hR (blk_ne h.hR h.hE (by decide)) _, R_set h.r2 h.hE (by decide) 1 _, R_set h.r3 h.hE (by decide) 1 _, keep_far h.keep h.NE _, h.below.setCell (p := ⟨E, 1, none⟩) (Nat.le_trans (Nat.le_of_lt h.gN) h.NE) _, h.gN, h.NE, h.NR, h.PN, h.by_⟩
theorem Tk.side (h : Tk w0 w P g E Rb l bad s t v2 tags v3 fl) {B : Nat} (hB : w0.heap.size ≤ B) (h1 : B ≠ E) (h2 : B ≠ Rb) (h3 : some B ≠ v2.ownBlock) (h4 : some B ≠ v3.ownBlock) (i : Nat) (u : Value) : Tk w0 (w.setCell ⟨B, i, none⟩ u) P g E Rb l bad s t v2 tags v3 fl :=
  ⟨h.rd.kept ((KeepBut.refl w B none).set_ i _) (by have := h.gN; omega) (fun hp => by have := h.PN B hp; omega), blk_far h.hE (Ne.symm h1) _, blk_far h.hR (Ne.symm h2) _, Kd.R_mono (Kd.R_far (p := ⟨B, i, none⟩) (Kd.R_far1 h.r2 rfl h3) (fun k hk => hk.2) u) (fun _ _ => trivial), Kd.R_mono (Kd.R_far (p := ⟨B, i, none⟩) (Kd.R_far1 h.r3 rfl h4) (fun k hk => hk.2) u) (fun _ _ => trivial),
    keep_far h.keep hB _, h.below.setCell (p := ⟨B, i, none⟩) (Nat.le_trans (Nat.le_of_lt h.gN) hB) _, h.gN, h.NE, h.NR, h.PN, h.by_⟩
theorem keep_grown {v : Value} (h : KeepBut w0 w g none) (hg : w.grownBy w1 v.ownBlock) (hb : ∀ k, v.ownBlock = some k → w0.heap.size ≤ k) : KeepBut w0 w1 g none :=
  ⟨Nat.le_trans h.1 hg.size, fun i hi hne hr => (hg.block i (by have := h.1; omega) (fun e => by have := hb i e.symm; omega)).trans (h.2 i hi hne hr)⟩
/-- A tag behind the others, and stored. -/
theorem Tk.push2 (h : Tk w0 w P g E Rb l bad s t v2 tags v3 fl) {v : Value} {x : ByteArray} (hr : Kd.string.R 9 w1 w0.heap.size (fun _ => True) v (tags ++ [x])) (hb : Below w0.heap.size w w1) (hg : w.grownBy w1 v2.ownBlock) :
    Tk w0 (w1.setCell ⟨E, 2, none⟩ v) P g E Rb l bad s t v (tags ++ [x]) v3 fl := by
  have base := Kd.R_base h.r2
  have hE1 : w1.heap[E]? = some (.cells #[.string s, .string t, v2, v3] 31 (0, 0)) := blk_grown h.hE hg (Kd.R_ne h.r2 h.hE (by decide))
  have hR1 := blk_grown h.hR hg (Kd.R_ne h.r2 h.hR (by decide))
  have r31 : k90.R 90 w1 w0.heap.size (fun _ => True) v3 fl := Kd.R_mono (Kd.R_grown (Kd.R_apart' h.r3 (Kd.R_typed h.r2) (by decide)) hg (fun k hk => hk.2)) (fun _ _ => trivial)
  have rd1 := h.rd.grown hg (ne_base base h.gN) (fun k hk => ne_base base (h.PN k hk))
  exact ⟨rd1.kept ((KeepBut.refl w1 E none).set_ 2 _) (by have := h.gN; have := h.NE; omega) h.notP, by simpa using blk_set hE1 2 v, blk_far hR1 (blk_ne hR1 hE1 (by decide)) _, R_set hr hE1 (by decide) 2 _, R_set r31 hE1 (by decide) 2 _,
    keep_far (keep_grown h.keep hg base) h.NE _, (h.below.trans (hb.mono (Nat.le_of_lt h.gN))).setCell (p := ⟨E, 2, none⟩) (Nat.le_trans (Nat.le_of_lt h.gN) h.NE) _, h.gN, h.NE, h.NR, h.PN, h.by_⟩
/-- A field behind the others, and stored. -/
theorem Tk.push3 (h : Tk w0 w P g E Rb l bad s t v2 tags v3 fl) {v : Value} {x : S90} (hr : k90.R 90 w1 w0.heap.size (fun _ => True) v (fl ++ [x])) (hb : Below w0.heap.size w w1) (hg : w.grownBy w1 v3.ownBlock) :
    Tk w0 (w1.setCell ⟨E, 3, none⟩ v) P g E Rb l bad s t v2 tags v (fl ++ [x]) := by
  have base := Kd.R_base h.r3
  have hE1 : w1.heap[E]? = some (.cells #[.string s, .string t, v2, v3] 31 (0, 0)) := blk_grown h.hE hg (Kd.R_ne h.r3 h.hE (by decide))
  have hR1 := blk_grown h.hR hg (Kd.R_ne h.r3 h.hR (by decide))
  have r21 : Kd.string.R 9 w1 w0.heap.size (fun _ => True) v2 tags := Kd.R_mono (Kd.R_grown (Kd.R_apart' h.r2 (Kd.R_typed h.r3) (by decide)) hg (fun k hk => hk.2)) (fun _ _ => trivial)
  have rd1 := h.rd.grown hg (ne_base base h.gN) (fun k hk => ne_base base (h.PN k hk))
  exact ⟨rd1.kept ((KeepBut.refl w1 E none).set_ 3 _) (by have := h.gN; have := h.NE; omega) h.notP, by simpa using blk_set hE1 3 v, blk_far hR1 (blk_ne hR1 hE1 (by decide)) _, R_set r21 hE1 (by decide) 3 _, R_set hr hE1 (by decide) 3 _,
    keep_far (keep_grown h.keep hg base) h.NE _, (h.below.trans (hb.mono (Nat.le_of_lt h.gN))).setCell (p := ⟨E, 3, none⟩) (Nat.le_trans (Nat.le_of_lt h.gN) h.NE) _, h.gN, h.NE, h.NR, h.PN, h.by_⟩
end
end Go.Proofs.Ytocpcnmnhckcpaa.Num
namespace Go.Proofs.Ytocpcnmnhckcpaa.Num
open Go.RowKit Go.Proofs.YtocpcnmnhckcpaaW.PrintWords Go.Proofs.YtocpcnmnhckcpaaW.PrintLast Go.Proofs.YtocpcnmnhckcpaaW.PrintMore Go.Proofs.Ytocpcnmnhckcpaa.Prt
set_option linter.unusedVariables false
set_option linter.unusedSimpArgs false

def D50.T0 : Bool × List (List Nat × List Nat) := (true, [([], []), ([0], [0]), ([], []), ([2], [2]), ([3], [3]), ([1, 4, 3], [1, 4]), ([0, 1, 2, 3, 4, 5], []), ([6, 5, 5, 0, 1, 2, 3, 4, 5], [5, 6])])
def D50.B0 : List Nat := [0, 1, 0, 4, 12, 31, 63, 127]
theorem D50.tab0 : rtab .any (opsOf Try.f50 0) = D50.T0 := by kernel_rfl
theorem D50.bits0 : waitsOk D50.T0.2 D50.B0 = true := by kernel_rfl
set_option maxRecDepth 100000 in
theorem tag_calls (w0 w : World) (P : Nat → Prop) (g E Rb : Nat) (l : List Int) (bad : Bool) (s t : ByteArray) (v2 : Value) (tags : List ByteArray) (v3 : Value) (fl : List S90) (h : Tk w0 w P g E Rb l bad s t v2 tags v3 fl) (hl : tags.length ≤ 1000) :
    Calls Try.prog 50 #[.pointer (some ⟨E, 0, none⟩), .pointer (some ⟨Rb, 0, none⟩)] w fun e w' => e = .returned (.tuple #[]) ∧ ∃ v, Tk w0 w' P g E Rb (aftT l) (badT l bad) s t v (tags ++ [textOf l]) v3 fl := by
  have HT := Aside0.mk h
  clear h
  have hu31 := Try.underlying31
  go_enter Try.func50, Try.ntmps50
  go_wp2_with fail
  refine start_ (n := 8) (S := fun w' => w'.cell? ⟨E, 2, none⟩ = some v2 ∧ w'.cell? ⟨Rb, 0, none⟩ = some (.pointer (some ⟨g, 0, none⟩))) (ds := [7]) #[false, false, false, false, false, false, false, false] (by kernel_rfl) rfl rfl ⟨(blk_cell HT.out.drew.hE 2).trans rfl, (blk_cell HT.out.drew.hR 0).trans rfl⟩ (fun hHeld => ?_); refine with_tabW D50.tab0 D50.bits0 (fun HT_ HW_ => ?_)
  have HT1 := Aside0.mk HT.out.drew
  clear HT
  generalize w.drew = w1 at HT1 hHeld ⊢
  refine pure_ (i := 0) (N := some 2) (v := ?_) (a' := ?_) #[true, false, false, false, false, false, false, false] rfl rfl (any_of HT_.out (by kernel_rfl)) (fun _ _ _ h => h) (Or.inl ⟨by rfl, ?_⟩) ?_ ?_
  rotate_left
  · intro w'
    go_simp
    with_reducible rfl
  rotate_left
  · simp only [Act.put, List.setIfInBounds_toArray, List.set_cons_zero, List.set_cons_succ, i64_w, i32_w]
    rfl
  refine take_ (i := 1) (N := some 3) (v := ?_) (a' := ?_) #[true, true, false, false, false, false, false, false] rfl rfl (take_ofW HT_.out HW_.out (by kernel_rfl)) (fun _ _ _ h => h) (Or.inl ⟨by rfl, ?_⟩) hHeld ?_ ?_
  rotate_left
  · rintro w' ⟨s0, s1⟩
    go_simp
    with_reducible rfl
  rotate_left
  · simp only [Act.put, List.setIfInBounds_toArray, List.set_cons_zero, List.set_cons_succ, i64_w, i32_w]
    rfl
  refine take_ (i := 2) (N := some 4) (v := ?_) (a' := ?_) #[true, true, true, false, false, false, false, false] rfl rfl (take_ofW HT_.out HW_.out (by kernel_rfl)) (fun _ _ _ h => h) (Or.inl ⟨by rfl, ?_⟩) hHeld ?_ ?_
  rotate_left
  · rintro w' ⟨s0, s1⟩
    go_simp
    with_reducible rfl
  rotate_left
  · simp only [Act.put, List.setIfInBounds_toArray, List.set_cons_zero, List.set_cons_succ, i64_w, i32_w]
    rfl
  refine one_ (i := 3) (N := some 5) #[true, true, true, true, false, false, false, false] rfl rfl (one_of HT_.out (by kernel_rfl)) (by decide) (fun K hK => ?_)
  refine goes_ Try.func31 (by kernel_rfl) rfl #[.pointer (some ⟨g, 0, none⟩)] (by rfl) rfl rfl (by (try simp only [List.map_toArray, List.map_cons, List.map_nil]); first | done | rfl) ?_
  with_reducible refine (text_calls P w1 g l bad HT1.out.rd HT1.out.by_).mono ?_
  rintro e w2 ⟨rfl, hI, hb, hk⟩
  refine ⟨_, rfl, ?_⟩
  have HT2 := Aside0.mk (HT1.out.read hI hb hk (aftT_bytes HT1.out.by_))
  clear HT1 hI hb hk
  refine hK.out _ _ ⟨(blk_cell HT2.out.hE 2).trans rfl, (blk_cell HT2.out.hR 0).trans rfl⟩ (fun hHeld => ?_)
  clear hK K
  refine norm_ (a' := ?_) ?_ ?_
  rotate_left
  · show Act.put _ (some 5) _ = _
    simp only [Act.put, List.setIfInBounds_toArray, List.set_cons_zero, List.set_cons_succ, i64_w, i32_w]
    rfl
  obtain ⟨x, hx⟩ : ∃ x, x = textOf l := ⟨_, rfl⟩
  rw [← hx]
  have HX := Aside0.mk hx
  clear hx
  refine one_ (i := 4) (N := some 6) #[true, true, true, true, true, false, false, false] rfl rfl (one_of HT_.out (by kernel_rfl)) (by decide) (fun K hK => ?_)
  refine event_step (by rfl) (v := .slice (some ⟨w2.heap.size, 0, none⟩) 1 1) (w1 := w2.alloc (.cells #[.string x] 9)) ?_ ?_
  · first | (go_simp; done) | (go_simp; rfl)
  refine hK.out _ _ ⟨(blk_cell (HT2.out.alloc _).hE 2).trans rfl, (blk_cell (HT2.out.alloc _).hR 0).trans rfl⟩ (fun hHeld => ?_)
  clear hK K
  refine norm_ (a' := ?_) ?_ ?_
  rotate_left
  · show Act.put _ (some 6) _ = _
    simp only [Act.put, List.setIfInBounds_toArray, List.set_cons_zero, List.set_cons_succ, i64_w, i32_w]
    rfl
  refine one_ (i := 5) (N := some 7) #[true, true, true, true, true, true, false, false] rfl rfl (one_of HT_.out (by kernel_rfl)) (by decide) (fun K hK => ?_)
  refine Kd.R_append_step Kd.string (w0 := w2) w0.heap.size (by rfl) (.tmp 3) (.tmp 6) 28 9 (.string ⟨#[]⟩) 16 rfl Try.underlying28 info_str rfl (by decide) (by omega) v2 tags x [.string x] (fun _ => True) (fun _ => False) rfl rfl rfl (fun _ hk => hk.elim) (fun _ _ => trivial) HT2.out.r2 (Below.refl _ _) HT2.out.keep.1 (by omega) ?_
  intro v w3 ho hb hg hat
  have HO := Aside0.mk ho
  have HBl := Aside0.mk hb
  have HG := Aside0.mk hg
  clear ho hb hg hat
  refine hK.out _ _ ⟨(blk_cell (blk_grown HT2.out.hE HG.out (Kd.R_ne HT2.out.r2 HT2.out.hE (by decide))) 2).trans rfl, (blk_cell (blk_grown HT2.out.hR HG.out (Kd.R_ne HT2.out.r2 HT2.out.hR (by decide))) 0).trans rfl⟩ (fun hHeld => ?_)
  clear hK K
  refine norm_ (a' := ?_) ?_ ?_
  rotate_left
  · show Act.put _ (some 7) _ = _
    simp only [Act.put, List.setIfInBounds_toArray, List.set_cons_zero, List.set_cons_succ, i64_w, i32_w]
    rfl
  refine pure_ (i := 6) (N := some 8) (v := ?_) (a' := ?_) #[true, true, true, true, true, true, true, false] rfl rfl (any_of HT_.out (by kernel_rfl)) (fun _ _ _ h => h) (Or.inl ⟨by rfl, ?_⟩) ?_ ?_
  rotate_left
  · intro w'
    go_simp
    with_reducible rfl
  rotate_left
  · simp only [Act.put, List.setIfInBounds_toArray, List.set_cons_zero, List.set_cons_succ, i64_w, i32_w]
    rfl
  refine last_ (i := 7) (N := none) #[true, true, true, true, true, true, true, true] rfl rfl (one_of HT_.out (by kernel_rfl)) (by decide) (fun K hK => ?_)
  obtain ⟨Av, cv, ev_⟩ := Kd.R_slice HO.out
  subst ev_
  have hfz := blk_frozen (blk_grown HT2.out.hE HG.out (Kd.R_ne HT2.out.r2 HT2.out.hE (by decide))) 2
  have hce := (blk_cell (blk_grown HT2.out.hE HG.out (Kd.R_ne HT2.out.r2 HT2.out.hE (by decide))) 2)
  refine skip_ (w1 := w3.setCell ⟨E, 2, none⟩ (.slice Av (tags ++ [x]).length cv)) (by rfl) rfl ?_ ?_
  · first | (go_simp; done) | (go_simp; rfl)
  refine hK.out _ _ ?_
  clear hK K
  refine done_ (by kernel_rfl) ?_
  clear HT_ HW_ hHeld
  go_wp2
  go_end0
  refine ⟨rfl, .slice Av (tags ++ [x]).length cv, ?_⟩
  rw [← HX.out]
  exact HT2.out.push2 HO.out HBl.out HG.out

theorem info_field : (Try.prog.info? 90).map (fun i => (i.zero, i.size, i.bytes)) = some (some (.agg #[.string ⟨#[]⟩, .int .i64 0]), 2, 24) := by kernel_rfl
set_option maxRecDepth 100000 in
theorem field_calls (w0 w : World) (P : Nat → Prop) (g E Rb : Nat) (l : List Int) (bad : Bool) (s t : ByteArray) (v2 : Value) (tags : List ByteArray) (v3 : Value) (fl : List S90) (h : Tk w0 w P g E Rb l bad s t v2 tags v3 fl) (hl : fl.length ≤ 1000) :
    Calls Try.prog 51 #[.pointer (some ⟨Rb, 0, none⟩), .pointer (some ⟨E, 0, none⟩)] w fun e w' => e = .returned (.tuple #[]) ∧ ∃ v, Tk w0 w' P g E Rb (aft (aftT l)) (badOf (aftT l) (badT l bad)) s t v2 tags v (fl ++ [⟨textOf l, numOf (aftT l)⟩]) := by
  have HT := Aside0.mk h
  clear h
  have hu31 := Try.underlying31
  have hu90 := Try.underlying90
  have hr0 := (blk_cell HT.out.hR 0)
  go_enter Try.func51, Try.ntmps51
  go_wp2_with fail
  refine (text_calls P w g l bad HT.out.rd HT.out.by_).mono ?_
  rintro e w1 ⟨rfl, hI, hb, hk⟩
  have HT1 := Aside0.mk (HT.out.read hI hb hk (aftT_bytes HT.out.by_))
  clear HT hI hb hk hr0
  obtain ⟨x, hx⟩ : ∃ x, x = textOf l := ⟨_, rfl⟩
  rw [← hx]
  have HX := Aside0.mk hx
  clear hx
  have hr0 := (blk_cell HT1.out.hR 0)
  go_wp2_with (first | ((with_reducible refine gate_dst (N := 2) rfl ?_); refine box_event ?hg (N := 2) ?hd (cs := #[.string (⟨#[]⟩ : ByteArray), .int .i64 0]) (t := 90) ?hr ?_; (case hd => rfl); (case hg => rfl); (case hr => first | (go_simp; done) | (go_simp; rfl)); intro B hg w2 hbox hb; have HNB := Aside0.mk (show some B ≠ v3.ownBlock by intro e_; have := Kd.R_lt HT1.out.r3 B e_.symm; omega); have HT2 := Aside0.mk (HT1.out.up hb); have HBX := Aside0.mk hbox; have HGE := Aside0.mk (show w0.heap.size ≤ B by rw [hg]; exact HT1.out.keep.1); clear HT1 hg hbox hb; clear hr0; have hr0 := (blk_cell HT2.out.hR 0); have hb0 := blk_cell HBX.out 0; have hb1 := blk_cell HBX.out 1; have hfz0 := blk_frozen HBX.out 0; have hfz1 := blk_frozen HBX.out 1; have hne1 := blk_ne HT2.out.hR HBX.out (by decide); have hne2 := blk_ne HBX.out HT2.out.hR (by decide)))
  have hneE := blk_ne HBX.out HT2.out.hE (by decide)
  have HN2 := Aside0.mk (Kd.R_ne HT2.out.r2 HBX.out (by decide))
  have HT3 := Aside0.mk ((HT2.out.side HGE.out hneE hne2 HN2.out HNB.out 0 (.string x)).side HGE.out hneE hne2 HN2.out HNB.out 1 (.int .i64 0))
  have HB3 := Aside0.mk (blk_put (cs' := #[.string x, .int .i64 0]) (blk_put (cs' := #[.string x, .int .i64 0]) HBX.out 0 (.string x) rfl) 1 (.int .i64 0) rfl)
  clear HT2 HBX hr0 hb0 hb1 hfz0 hfz1
  generalize (w2.setCell ⟨B, 0, none⟩ (.string x)).setCell ⟨B, 1, none⟩ (.int .i64 0) = w3 at HT3 HB3 ⊢
  refine (num_calls P w3 g (aftT l) (badT l bad) HT3.out.rd HT3.out.by_).mono ?_
  rintro e w4 ⟨rfl, hI, hb, hk⟩
  have HB4 := Aside0.mk (hk.blk HB3.out (by have := HT3.out.gN; have := HGE.out; omega) (by simp))
  have HT4 := Aside0.mk (HT3.out.read hI hb hk (aft_bytes HT3.out.by_))
  clear HT3 HB3 hI hb hk
  obtain ⟨n, hn⟩ : ∃ n, n = numOf (aftT l) := ⟨_, rfl⟩
  rw [← hn]
  have HNU := Aside0.mk hn
  clear hn
  have HT5 := Aside0.mk (HT4.out.side HGE.out hneE hne2 HN2.out HNB.out 1 (.int .i64 n))
  have HB5 := Aside0.mk (blk_put (cs' := #[.string x, .int .i64 n]) HB4.out 1 (.int .i64 n) rfl)
  have hb0 := blk_cell HB4.out 0
  have hb1 := blk_cell HB4.out 1
  have hfz1 := blk_frozen HB4.out 1
  go_upto_region 2 with (fail)
  clear hb0 hb1 hfz1 HT4 HB4
  generalize w4.setCell ⟨B, 1, none⟩ (.int .i64 n) = w5 at HT5 HB5 ⊢
  have he3 := blk_cell HT5.out.hE 3
  have hc0 := blk_cell HB5.out 0
  have hc1 := blk_cell HB5.out 1
  obtain ⟨A3, c3, e3⟩ := Kd.R_slice HT5.out.r3
  subst e3
  go_wp2_with (first | ((with_reducible refine gate_builtin (b := .append) (xs := #[.tmp 10, .tmp 12]) rfl ?_); at_builtin; refine Kd.R_append k90 (w0 := _) w0.heap.size rfl (.tmp 10) (.tmp 12) 29 90 (.agg #[.string ⟨#[]⟩, .int .i64 0]) 24 rfl Try.underlying29 info_field rfl (by decide) (by omega) (.slice A3 fl.length c3) fl ⟨x, n⟩ [.string x, .int .i64 n] (fun _ => True) (fun _ => False) rfl rfl (k90_mkM _ _ _ _) (fun _ hk => hk.elim) (fun _ _ => trivial) HT5.out.r3 (Below.refl _ _) HT5.out.keep.1 (by omega) ?_; intro v w6 ho hb hg hat; have HO := Aside0.mk ho; have HBl := Aside0.mk hb; have HG := Aside0.mk hg; clear ho hb hg hat; obtain ⟨Av, cv, ev_⟩ := Kd.R_slice HO.out; subst ev_; have hfz := blk_frozen (blk_grown HT5.out.hE HG.out (Kd.R_ne HT5.out.r3 HT5.out.hE (by decide))) 3; have hce := (blk_cell (blk_grown HT5.out.hE HG.out (Kd.R_ne HT5.out.r3 HT5.out.hE (by decide))) 3)))
  go_end0
  refine ⟨rfl, .slice Av (fl.length + 1) cv, ?_⟩
  rw [← HX.out, ← HNU.out]
  have hq := HT5.out.push3 HO.out HBl.out HG.out
  rw [List.length_append, List.length_singleton] at hq
  exact hq
end Go.Proofs.Ytocpcnmnhckcpaa.Num
namespace Go.Proofs.Ytocpcnmnhckcpaa.Prt
open Go.RowKit Go.Proofs.YtocpcnmnhckcpaaW.PrintWords Go.Proofs.YtocpcnmnhckcpaaW.PrintLast Go.Proofs.YtocpcnmnhckcpaaW.PrintMore
attribute [local go_sem] max2_int min2_int max_two min_two max_three min_three max_four min_four   -- for this text's walks alone
set_option linter.unusedVariables false
set_option linter.unusedSimpArgs false

def event_names.l0 : Nat → List ByteArray → List (S90) → Int → Int → Option (List ByteArray)
  | 0, _, _, _, _ => none
  | k + 1, x3, x6, x7, x8 => if x8 < x7 then (if 0 ≤ x8 then (if x8 < (x6.length : Int) then (if x3.length < 8796093022208 then (event_names.l0 k (x3 ++ [(rd_T90 x6 x8).f0]) x6 x7 (wrap64 (x8 + 1))) else (none)) else (none)) else (none)) else (some x3)
def event_names.f (k : Nat) (l0 : List (S90)) : Option (List ByteArray) := event_names.l0 k ([] : List ByteArray) l0 (l0.length : Int) 0
set_option maxHeartbeats 8000000 in
set_option maxRecDepth 100000 in
theorem event_names.calls (k : Nat) (A0 : Option Addr) (c0 : Nat) (l0 : List (S90)) (r : List ByteArray) (w : World) (hr0 : Kd.C k90 w A0 l0.length l0) (hc0 : l0.length ≤ c0) (h : event_names.f k l0 = some r) :
    Calls Try.prog 60 #[.slice A0 l0.length c0] w fun e w' => ∃ v0_ : Value, e = .returned (v0_) ∧ Kd.R Kd.string 9 w' w.heap.size (fun _ => True) v0_ r ∧ Below w.heap.size w w' := by
  have hu90 := Try.underlying90
  have HR0 := Aside0.mk hr0
  have HC0 := Aside0.mk hc0
  clear hr0 hc0
  have HB := Aside0.mk (Below.refl w.heap.size w)
  have H : (event_names.l0 k ([] : List ByteArray) l0 (l0.length : Int) 0) = some r := h
  clear h
  have H' := Aside0.mk H
  clear H
  go_enter Try.func60, Try.ntmps60
  go_wp2
  go_loopg [3, 8] k (fun kq v3 v8 w' => ∃ (x3_1 : List ByteArray) (x8_1 : Int), v8 = .int .i64 x8_1 ∧ Aside0 (event_names.l0 kq x3_1 l0 (l0.length : Int) x8_1 = some r) ∧ Aside0 (kq ≤ k) ∧ Aside0 (Kd.R Kd.string 9 w' w.heap.size (fun _ => True) v3 x3_1) ∧ Aside0 (Below w.heap.size w w'))
  case atStart => exact ⟨(([] : List ByteArray)), (0), (by first | rfl | (simp; done) | (simp [*]; done)), H', ⟨Nat.le_refl _⟩, ⟨by first | exact Kd.R_nil _ _ _ _ _ | exact Kd.N_nil _ _ _ _ _ | exact Kd.V_nil _ _ _ _ _ | exact Kd.Q_nil _ _ _ _ _ | exact Kd.S_nil _ _ _ _ _⟩, ⟨by repeat (first | (with_reducible first | exact HB.out | apply below_alloc | apply pw_below_drewN | apply below_drew1) | exact HB.out)⟩⟩
  case round =>
    clear H'
    obtain ⟨x3_1, x8_1, rfl, HA, HK1, HO_3, HB⟩ := hrel
    cases gk with
    | zero => exact absurd HA.out (by simp [event_names.l0])
    | succ k1 =>
      have H := HA.out
      clear HA
      simp only [event_names.l0] at H
      by_cases c2 : x8_1 < (l0.length : Int)
      · rw [if_pos c2] at H
        have c2b0 : decide (x8_1 < (l0.length : Int)) = true := decide_eq_true c2
        clear c2
        by_cases c3 : 0 ≤ x8_1
        · rw [if_pos c3] at H
          have c3b0 : decide (0 ≤ x8_1) = true := decide_eq_true c3
          clear c3
          by_cases c4 : x8_1 < (l0.length : Int)
          · rw [if_pos c4] at H
            have c4b0 : decide (x8_1 < (l0.length : Int)) = true := decide_eq_true c4
            clear c4
            by_cases c5 : x3_1.length < 8796093022208
            · rw [if_pos c5] at H
              have LMc5 := Aside0.mk c5
              clear c5
              obtain ⟨y145, hy145⟩ : ∃ y_ : List ByteArray, y_ = (x3_1 ++ [(rd_T90 l0 x8_1).f0]) := ⟨_, rfl⟩
              replace H : (event_names.l0 k1 y145 l0 (l0.length : Int) (wrap64 (x8_1 + 1))) = some r := by first | (rw [hy145]; with_reducible exact H) | (have H2_ := (Option.bind_some _ _).symm.trans H; rw [hy145]; with_reducible exact H2_) | (have H2_ := (Option.bind_some _ _).symm.trans H; with_reducible exact H2_) | with_reducible exact H | (rw [hy145]; exact H) | exact H
              have Ny145 := Aside0.mk hy145
              clear hy145
              have H' := Aside0.mk H
              clear H
              have p143 : 0 ≤ (x8_1 : Int) := of_decide_eq_true (by first | (with_reducible assumption) | assumption)
              have q143 : x8_1 < (l0.length : Int) := of_decide_eq_true (by first | (with_reducible assumption) | assumption)
              obtain ⟨ad143, e143, hx143_0, hx143_1⟩ := at_T90 HR0.out x8_1 p143 q143
              cases e143
              replace hx143_0 := (HB.out.cell (World.block_lt_of_cell? w _ hx143_0)).trans hx143_0
              replace hx143_1 := (HB.out.cell (World.block_lt_of_cell? w _ hx143_1)).trans hx143_1
              replace p143 := eq_true p143
              replace q143 := eq_true q143
              go_wp2_with (first | ((with_reducible refine gate_dst (N := 5) rfl ?_); refine box_event ?hg (N := 5) ?hd (cs := #[.string (⟨#[]⟩ : ByteArray), .int .i64 0]) (t := 90) ?hr ?_; (case hd => rfl); (case hg => rfl); (case hr => first | (go_simp; done) | (go_simp; rfl)); intro gb144 hg w6 hbox hb; have n0_ := Aside0.mk (Kd.R_below (by (with_reducible repeat (first | apply Kd.R_alloc | apply Kd.R_drewN | apply Kd.R_drew)); exact HO_3.out) hb); have n1_ := Aside0.mk (below_step (by repeat (first | (with_reducible first | exact HB.out | apply below_alloc | apply pw_below_drewN | apply below_drew1) | exact HB.out)) hb); have n2_ := Aside0.mk (hbox); have n3_ := Aside0.mk ((by rw [hg]; exact (below_size (by repeat (first | (with_reducible first | exact HB.out | apply below_alloc | apply pw_below_drewN | apply below_drew1) | exact HB.out))) : w.heap.size ≤ gb144)); have n4_ := Aside0.mk ((by rw [hg]; exact (below_size (by repeat (first | (with_reducible first | exact HB.out | apply below_alloc | apply pw_below_drewN | apply below_drew1) | exact HB.out))) : w.heap.size ≤ gb144)); clear HO_3; clear HB; have HO_3 := n0_; have HB := n1_; have BK144 := n2_; have GW144 := n3_; have GE144 := n4_; clear n0_ n1_ n2_ n3_ n4_; clear hb hbox hg; have hcz7_0 : w6.cell? ⟨gb144, 0, none⟩ = some (.string (⟨#[]⟩ : ByteArray)) := (blk_cell BK144.out 0).trans rfl; have hcz7_1 : w6.cell? ⟨gb144, 1, none⟩ = some (.int .i64 0) := (blk_cell BK144.out 1).trans rfl; have hfz7_0 := blk_frozen BK144.out 0; have hfz7_1 := blk_frozen BK144.out 1) | ((with_reducible refine gate_builtin (b := .append) (xs := #[.tmp 12, .tmp 15]) rfl ?_); at_builtin; refine Kd.R_append Kd.string (w0 := w) w.heap.size rfl (.tmp 12) (.tmp 15) 28 9 (.string ⟨#[]⟩) 16 rfl Try.underlying28 info9 rfl (by decide) (by omega) u3 x3_1 ((rd_T90 l0 x8_1).f0) [.string ((rd_T90 l0 x8_1).f0)] (fun _ => True) (fun _ => False) rfl (by first | (go_simp; done) | (go_simp; rfl)) ?aP (fun _ hk => hk.elim) ?aF ?aO ?aB ?aS ?aL ?_; (case aP => exact rfl); (case aB => exact (by repeat (first | (with_reducible first | exact HB.out | apply below_alloc | apply pw_below_drewN | apply below_drew1 | refine below_set ?_ GE144.out) | exact HB.out))); (case aF => exact (fun _ _ => trivial)); (case aO => exact (by (with_reducible repeat (first | apply Kd.R_alloc | apply Kd.R_drewN | apply Kd.R_drew)); exact Kd.R_mono (Kd.R_far (p := ⟨gb144, 1, none⟩) (Kd.R_far (p := ⟨gb144, 0, none⟩) (Kd.R_types HO_3.out BK144.out (by decide)) (fun _ hk => hk.2) (.string ((rd_T90 l0 x8_1).f0))) (fun _ hk => hk.2) (.int .i64 ((rd_T90 l0 x8_1).f1))) (fun _ hk => trivial))); (case aS => exact (below_size (by repeat (first | (with_reducible first | exact HB.out | apply below_alloc | apply pw_below_drewN | apply below_drew1 | refine below_set ?_ GE144.out) | exact HB.out)))); (case aL => have := LMc5.out; omega); intro v146 w8 ho hb hg hat; rw [← Ny145.out] at ho; have n0_ := Aside0.mk (blk_grown (g := gb144) (o := .cells #[.string ((rd_T90 l0 x8_1).f0), .int .i64 ((rd_T90 l0 x8_1).f1)] 90 (0, 0)) (by (with_reducible repeat (first | refine blk_drewN ?_ _ | refine blk_drew ?_ | refine blk_alloc ?_ _)); refine blk_put (cs := #[.string ((rd_T90 l0 x8_1).f0), .int .i64 0]) ?_ 1 _ rfl; (with_reducible repeat (first | refine blk_drewN ?_ _ | refine blk_drew ?_ | refine blk_alloc ?_ _)); refine blk_put (cs := #[.string (⟨#[]⟩ : ByteArray), .int .i64 0]) ?_ 0 _ rfl; (with_reducible repeat (first | refine blk_drewN ?_ _ | refine blk_drew ?_ | refine blk_alloc ?_ _)); exact BK144.out) hg (Kd.R_ne HO_3.out BK144.out (by decide))); have n1_ := Aside0.mk (hb); have n2_ := Aside0.mk (ho); clear BK144; clear HB; clear HO_3; have BK144 := n0_; have HB := n1_; have HO147 := n2_; clear n0_ n1_ n2_; clear ho hb hg hat))
              go_roundg k1
              case measure => have := HK1.out; omega
              case rel => exact ⟨(y145), (wrap64 (x8_1 + 1)), (by first | rfl | (simp; done) | (simp [*]; done)), H', ⟨by have := HK1.out; omega⟩, ⟨by (with_reducible repeat (first | apply Kd.R_alloc | apply Kd.R_drewN | apply Kd.R_drew)); exact HO147.out⟩, ⟨by repeat (first | (with_reducible first | exact HB.out | apply below_alloc | apply pw_below_drewN | apply below_drew1 | refine below_set ?_ GE144.out) | exact HB.out)⟩⟩
            · rw [if_neg c5] at H
              exact absurd H (by simp)
          · rw [if_neg c4] at H
            exact absurd H (by simp)
        · rw [if_neg c3] at H
          exact absurd H (by simp)
      · rw [if_neg c2] at H
        have c2b0 : decide (x8_1 < (l0.length : Int)) = false := decide_eq_false c2
        clear c2
        obtain rfl := Option.some.inj H
        go_wp2
        go_ret
        exact ⟨_, by first | rfl | (simp [errW_none, errW_some] <;> rfl) | (simp [*, errW_none, errW_some] <;> rfl), by (with_reducible repeat (first | apply Kd.R_alloc | apply Kd.R_drewN | apply Kd.R_drew)); exact HO_3.out, by repeat (first | (with_reducible first | exact HB.out | apply below_alloc | apply pw_below_drewN | apply below_drew1) | exact HB.out)⟩

end Go.Proofs.Ytocpcnmnhckcpaa.Prt
namespace Go.Proofs.Ytocpcnmnhckcpaa.Nam
open Go.RowKit Go.Proofs.YtocpcnmnhckcpaaW.PrintWords Go.Proofs.YtocpcnmnhckcpaaW.PrintLast Go.Proofs.YtocpcnmnhckcpaaW.PrintMore Go.Proofs.Ytocpcnmnhckcpaa.Num Go.Proofs.Ytocpcnmnhckcpaa.Prt
set_option linter.unusedVariables false
set_option linter.unusedSimpArgs false

/-- slices.IndexFunc, at a closure. -/
theorem idxStr (p : ByteArray → Bool) (G : Nat) (q : Value) (A : Option Addr) (c : Nat) (l : List ByteArray) (w : World) (hC : Kd.C Kd.string w A l.length l)
    (hent : ∀ (xs : Array Value) (W : World), (callFunc G xs).run Try.prog W = .ok (.enter G xs) W)
    (hf : ∀ x ∈ l, ∀ w1, Below w.heap.size w w1 → Calls Try.prog G #[.string x, q] w1 fun e w2 => e = .returned (.bool (p x)) ∧ Below w1.heap.size w1 w2) :
    Calls Try.prog 83 #[.slice A l.length c, .func (.func G) #[] #[q]] w fun e w' => ∃ r : Int, e = .returned (.int .i64 r) ∧ decide (0 ≤ r) = l.any p ∧ Below w.heap.size w w' := by
  have HC := Aside0.mk hC
  have HF := Aside0.mk hf
  have hn := Kd.C_max hC
  clear hC hf
  go_enter Try.func83, Try.ntmps83
  go_wp2
  go_loopg [8] (l.length) (fun k v8 w' => ∃ i : Nat, v8 = .int .i64 (i : Int) ∧ Aside0 (i + k = l.length) ∧ Aside0 ((l.take i).any p = false) ∧ Aside0 (Below w.heap.size w w'))
  case atStart => exact ⟨0, rfl, ⟨by omega⟩, ⟨by simp⟩, ⟨Below.refl _ _⟩⟩
  case round =>
    obtain ⟨i, rfl, HE, HN, HB⟩ := hrel
    by_cases hlt : i < l.length
    · have hb1 : decide ((i : Int) < (l.length : Int)) = true := decide_eq_true (by omega)
      obtain ⟨ad, e_, hx⟩ := Kd.at_string (Kd.C_below HC.out HB.out) (i : Int) (by omega) (by omega)
      cases e_
      rw [Int.toNat_natCast] at hx
      obtain ⟨x, hx0⟩ : ∃ x, x = rdOf ByteArray.empty l (i : Int) := ⟨_, rfl⟩
      rw [← hx0] at hx
      have hxm : x ∈ l := by rw [hx0]; exact getD_mem' hlt _
      have hstep : (l.take (i + 1)).any p = p x := by rw [take_any p l i hlt ByteArray.empty, HN.out, hx0]; rfl
      have HS := Aside0.mk hstep
      have HCALL := Aside0.mk (HF.out x hxm wr HB.out)
      clear hx0 hxm hstep
      cases hp : p x with
      | true =>
        have HP := Aside0.mk hp
        clear hp
        go_wp2_with fail
        refine HCALL.out.mono ?_
        rintro e w2 ⟨rfl, hb2⟩
        rw [HP.out]
        have HB2 := Aside0.mk hb2
        clear hb2
        go_wp2
        go_ret
        refine ⟨_, rfl, ?_, below_step HB.out HB2.out⟩
        rw [any_of_take (HS.out.trans HP.out)]
        exact decide_eq_true (by omega)
      | false =>
        have HP := Aside0.mk hp
        clear hp
        go_wp2_with fail
        refine HCALL.out.mono ?_
        rintro e w2 ⟨rfl, hb2⟩
        rw [HP.out]
        have HB2 := Aside0.mk hb2
        clear hb2
        go_wp2
        go_roundg (l.length - (i + 1))
        case measure => have := HE.out; omega
        case rel => exact ⟨i + 1, by go_num, ⟨by have := HE.out; omega⟩, ⟨HS.out.trans HP.out⟩, ⟨below_step HB.out HB2.out⟩⟩
    · have hb1 : decide ((i : Int) < (l.length : Int)) = false := decide_eq_false (by omega)
      go_wp2
      go_ret
      refine ⟨_, rfl, ?_, HB.out⟩
      have := HN.out
      rw [take_any_all p l i (by omega)] at this
      rw [this]; rfl

/-- slices.IndexFunc over fields, at a closure that captured nothing. -/
theorem idxFld (p : S90 → Bool) (G : Nat) (A : Option Addr) (c : Nat) (l : List S90) (w : World) (hC : Kd.C k90 w A l.length l)
    (hent : ∀ (xs : Array Value) (W : World), (callFunc G xs).run Try.prog W = .ok (.enter G xs) W)
    (hf : ∀ x ∈ l, ∀ w1, Below w.heap.size w w1 → Calls Try.prog G #[.agg #[.string x.f0, .int .i64 x.f1]] w1 fun e w2 => e = .returned (.bool (p x)) ∧ Below w1.heap.size w1 w2) :
    Calls Try.prog 86 #[.slice A l.length c, .func (.func G) #[] #[]] w fun e w' => ∃ r : Int, e = .returned (.int .i64 r) ∧ decide (0 ≤ r) = l.any p ∧ Below w.heap.size w w' := by
  have HC := Aside0.mk hC
  have HF := Aside0.mk hf
  have hn := Kd.C_max hC
  clear hC hf
  have hu90 := Try.underlying90
  go_enter Try.func86, Try.ntmps86
  go_wp2
  go_loopg [8] (l.length) (fun k v8 w' => ∃ i : Nat, v8 = .int .i64 (i : Int) ∧ Aside0 (i + k = l.length) ∧ Aside0 ((l.take i).any p = false) ∧ Aside0 (Below w.heap.size w w'))
  case atStart => exact ⟨0, rfl, ⟨by omega⟩, ⟨by simp⟩, ⟨Below.refl _ _⟩⟩
  case round =>
    obtain ⟨i, rfl, HE, HN, HB⟩ := hrel
    by_cases hlt : i < l.length
    · have hb1 : decide ((i : Int) < (l.length : Int)) = true := decide_eq_true (by omega)
      obtain ⟨ad, e_, hx, hx1⟩ := at_T90 (Kd.C_below HC.out HB.out) (i : Int) (by omega) (by omega)
      cases e_
      rw [Int.toNat_natCast] at hx hx1
      obtain ⟨x, hx0⟩ : ∃ x, x = rd_T90 l (i : Int) := ⟨_, rfl⟩
      rw [← hx0] at hx hx1
      have hxm : x ∈ l := by rw [hx0]; exact getD_mem' hlt _
      have hstep : (l.take (i + 1)).any p = p x := by rw [take_any p l i hlt z90, HN.out, hx0]; rfl
      have HS := Aside0.mk hstep
      have HCALL := Aside0.mk (HF.out x hxm wr HB.out)
      clear hx0 hxm hstep
      cases hp : p x with
      | true =>
        have HP := Aside0.mk hp
        clear hp
        go_wp2_with fail
        refine HCALL.out.mono ?_
        rintro e w2 ⟨rfl, hb2⟩
        rw [HP.out]
        have HB2 := Aside0.mk hb2
        clear hb2
        go_wp2
        go_ret
        refine ⟨_, rfl, ?_, below_step HB.out HB2.out⟩
        rw [any_of_take (HS.out.trans HP.out)]
        exact decide_eq_true (by omega)
      | false =>
        have HP := Aside0.mk hp
        clear hp
        go_wp2_with fail
        refine HCALL.out.mono ?_
        rintro e w2 ⟨rfl, hb2⟩
        rw [HP.out]
        have HB2 := Aside0.mk hb2
        clear hb2
        go_wp2
        go_roundg (l.length - (i + 1))
        case measure => have := HE.out; omega
        case rel => exact ⟨i + 1, by go_num, ⟨by have := HE.out; omega⟩, ⟨HS.out.trans HP.out⟩, ⟨below_step HB.out HB2.out⟩⟩
    · have hb1 : decide ((i : Int) < (l.length : Int)) = false := decide_eq_false (by omega)
      go_wp2
      go_ret
      refine ⟨_, rfl, ?_, HB.out⟩
      have := HN.out
      rw [take_any_all p l i (by omega)] at this
      rw [this]; rfl

theorem contStr (p : ByteArray → Bool) (G : Nat) (q : Value) (A : Option Addr) (c : Nat) (l : List ByteArray) (w : World) (hC : Kd.C Kd.string w A l.length l)
    (hent : ∀ (xs : Array Value) (W : World), (callFunc G xs).run Try.prog W = .ok (.enter G xs) W)
    (hf : ∀ x ∈ l, ∀ w1, Below w.heap.size w w1 → Calls Try.prog G #[.string x, q] w1 fun e w2 => e = .returned (.bool (p x)) ∧ Below w1.heap.size w1 w2) :
    Calls Try.prog 63 #[.slice A l.length c, .func (.func G) #[] #[q]] w fun e w' => e = .returned (.bool (l.any p)) ∧ Below w.heap.size w w' := by
  have H := idxStr p G q A c l w hC hent hf
  clear hC hent hf
  go_enter Try.func63, Try.ntmps63
  go_wp2_with fail
  refine H.mono ?_
  rintro e w2 ⟨r, rfl, hd, hb⟩
  go_wp2
  go_ret
  exact ⟨by first | rw [hd] | rfl | assumption, hb⟩
theorem contFld (p : S90 → Bool) (G : Nat) (A : Option Addr) (c : Nat) (l : List S90) (w : World) (hC : Kd.C k90 w A l.length l)
    (hent : ∀ (xs : Array Value) (W : World), (callFunc G xs).run Try.prog W = .ok (.enter G xs) W)
    (hf : ∀ x ∈ l, ∀ w1, Below w.heap.size w w1 → Calls Try.prog G #[.agg #[.string x.f0, .int .i64 x.f1]] w1 fun e w2 => e = .returned (.bool (p x)) ∧ Below w1.heap.size w1 w2) :
    Calls Try.prog 67 #[.slice A l.length c, .func (.func G) #[] #[]] w fun e w' => e = .returned (.bool (l.any p)) ∧ Below w.heap.size w w' := by
  have H := idxFld p G  A c l w hC hent hf
  clear hC hent hf
  go_enter Try.func67, Try.ntmps67
  go_wp2_with fail
  refine H.mono ?_
  rintro e w2 ⟨r, rfl, hd, hb⟩
  go_wp2
  go_ret
  exact ⟨by first | rw [hd] | rfl | assumption, hb⟩

end Go.Proofs.Ytocpcnmnhckcpaa.Nam
namespace Go.Proofs.Ytocpcnmnhckcpaa.Prt
open Go.RowKit Go.Proofs.YtocpcnmnhckcpaaW.PrintWords Go.Proofs.YtocpcnmnhckcpaaW.PrintLast Go.Proofs.YtocpcnmnhckcpaaW.PrintMore
attribute [local go_sem] max2_int min2_int max_two min_two max_three min_three max_four min_four   -- for this text's walks alone
set_option linter.unusedVariables false
set_option linter.unusedSimpArgs false

def event_May_1.f (a0_0 : ByteArray) (a0_1 : Int) : Option (Bool) := if a0_1 < (-1099511627776) then (some true) else (some (decide (a0_1 > 1099511627776)))
set_option maxHeartbeats 8000000 in
set_option maxRecDepth 100000 in
theorem event_May_1.calls (a0_0 : ByteArray) (a0_1 : Int) (r : Bool) (w : World) (h : event_May_1.f a0_0 a0_1 = some r) :
    Calls Try.prog 61 #[.agg #[.string a0_0, .int .i64 a0_1]] w fun e w' => e = .returned (.bool r) ∧ Below w.heap.size w w' := by
  have hu90 := Try.underlying90
  have HB := Aside0.mk (Below.refl w.heap.size w)
  have H : (if a0_1 < (-1099511627776) then (some true) else (some (decide (a0_1 > 1099511627776)))) = some r := h
  clear h
  by_cases c2 : a0_1 < (-1099511627776)
  · rw [if_pos c2] at H
    have c2b0 : decide (a0_1 < (-1099511627776)) = true := decide_eq_true c2
    clear c2
    obtain rfl := Option.some.inj H
    go_enter Try.func61, Try.ntmps61
    go_wp2_with (first | ((with_reducible refine gate_dst (N := 1) rfl ?_); refine box_event ?hg (N := 1) ?hd (cs := #[.string a0_0, .int .i64 a0_1]) (t := 90) ?hr ?_; (case hd => rfl); (case hg => rfl); (case hr => first | (go_simp; done) | (go_simp; rfl)); intro gb101 hg w3 hbox hb; have n0_ := Aside0.mk (below_step (by repeat (first | (with_reducible first | exact HB.out | apply below_alloc | apply pw_below_drewN | apply below_drew1) | exact HB.out)) hb); have n1_ := Aside0.mk (hbox); have n2_ := Aside0.mk ((by rw [hg]; exact (below_size (by repeat (first | (with_reducible first | exact HB.out | apply below_alloc | apply pw_below_drewN | apply below_drew1) | exact HB.out))) : w.heap.size ≤ gb101)); have n3_ := Aside0.mk ((by rw [hg]; exact (below_size (by repeat (first | (with_reducible first | exact HB.out | apply below_alloc | apply pw_below_drewN | apply below_drew1) | exact HB.out))) : w.heap.size ≤ gb101)); clear HB; have HB := n0_; have BK101 := n1_; have GW101 := n2_; have GE101 := n3_; clear n0_ n1_ n2_ n3_; clear hb hbox hg; have hcz4_0 : w3.cell? ⟨gb101, 0, none⟩ = some (.string a0_0) := (blk_cell BK101.out 0).trans rfl; have hcz4_1 : w3.cell? ⟨gb101, 1, none⟩ = some (.int .i64 a0_1) := (blk_cell BK101.out 1).trans rfl; have hfz4_0 := blk_frozen BK101.out 0; have hfz4_1 := blk_frozen BK101.out 1))
    go_ret
    exact ⟨by first | rfl | (simp [errW_none, errW_some] <;> rfl) | (simp [*, errW_none, errW_some] <;> rfl), by repeat (first | (with_reducible first | exact HB.out | apply below_alloc | apply pw_below_drewN | apply below_drew1 | refine below_set ?_ GE101.out) | exact HB.out)⟩
  · rw [if_neg c2] at H
    have c2b0 : decide (a0_1 < (-1099511627776)) = false := decide_eq_false c2
    clear c2
    obtain rfl := Option.some.inj H
    go_enter Try.func61, Try.ntmps61
    go_wp2_with (first | ((with_reducible refine gate_dst (N := 1) rfl ?_); refine box_event ?hg (N := 1) ?hd (cs := #[.string a0_0, .int .i64 a0_1]) (t := 90) ?hr ?_; (case hd => rfl); (case hg => rfl); (case hr => first | (go_simp; done) | (go_simp; rfl)); intro gb101 hg w5 hbox hb; have n0_ := Aside0.mk (below_step (by repeat (first | (with_reducible first | exact HB.out | apply below_alloc | apply pw_below_drewN | apply below_drew1) | exact HB.out)) hb); have n1_ := Aside0.mk (hbox); have n2_ := Aside0.mk ((by rw [hg]; exact (below_size (by repeat (first | (with_reducible first | exact HB.out | apply below_alloc | apply pw_below_drewN | apply below_drew1) | exact HB.out))) : w.heap.size ≤ gb101)); have n3_ := Aside0.mk ((by rw [hg]; exact (below_size (by repeat (first | (with_reducible first | exact HB.out | apply below_alloc | apply pw_below_drewN | apply below_drew1) | exact HB.out))) : w.heap.size ≤ gb101)); clear HB; have HB := n0_; have BK101 := n1_; have GW101 := n2_; have GE101 := n3_; clear n0_ n1_ n2_ n3_; clear hb hbox hg; have hcz6_0 : w5.cell? ⟨gb101, 0, none⟩ = some (.string a0_0) := (blk_cell BK101.out 0).trans rfl; have hcz6_1 : w5.cell? ⟨gb101, 1, none⟩ = some (.int .i64 a0_1) := (blk_cell BK101.out 1).trans rfl; have hfz6_0 := blk_frozen BK101.out 0; have hfz6_1 := blk_frozen BK101.out 1))
    go_ret
    exact ⟨by first | rfl | (simp [errW_none, errW_some] <;> rfl) | (simp [*, errW_none, errW_some] <;> rfl), by repeat (first | (with_reducible first | exact HB.out | apply below_alloc | apply pw_below_drewN | apply below_drew1 | refine below_set ?_ GE101.out) | exact HB.out)⟩

end Go.Proofs.Ytocpcnmnhckcpaa.Prt
namespace Go.Proofs.Ytocpcnmnhckcpaa.Prt
open Go.RowKit Go.Proofs.YtocpcnmnhckcpaaW.PrintWords Go.Proofs.YtocpcnmnhckcpaaW.PrintLast Go.Proofs.YtocpcnmnhckcpaaW.PrintMore
attribute [local go_sem] max2_int min2_int max_two min_two max_three min_three max_four min_four   -- for this text's walks alone
set_option linter.unusedVariables false
set_option linter.unusedSimpArgs false

def event_rise.l0 : Nat → List ByteArray → List ByteArray → Int → Int → Option (Bool)
  | 0, _, _, _, _ => none
  | k + 1, x0, x5, x6, x7 => if x7 < x6 then (if 0 ≤ x7 then (if x7 < (x5.length : Int) then (if x7 > 0 then (if 0 ≤ (wrap64 (x7 - 1)) then (if (wrap64 (x7 - 1)) < (x0.length : Int) then (if ((Op.bytesLess ((rdOf ByteArray.empty x0 (wrap64 (x7 - 1))).toList) ((rdOf ByteArray.empty x5 x7).toList)) = true) then (event_rise.l0 k x0 x5 x6 (wrap64 (x7 + 1))) else (some false)) else (none)) else (none)) else (event_rise.l0 k x0 x5 x6 (wrap64 (x7 + 1)))) else (none)) else (none)) else (some true)
def event_rise.f (k : Nat) (l0 : List ByteArray) : Option (Bool) := event_rise.l0 k l0 l0 (l0.length : Int) 0
set_option maxHeartbeats 8000000 in
set_option maxRecDepth 100000 in
theorem event_rise.calls (k : Nat) (A0 : Option Addr) (c0 : Nat) (l0 : List ByteArray) (r : Bool) (w : World) (hr0 : Kd.C Kd.string w A0 l0.length l0) (hc0 : l0.length ≤ c0) (h : event_rise.f k l0 = some r) :
    Calls Try.prog 66 #[.slice A0 l0.length c0] w fun e w' => e = .returned (.bool r) ∧ Drawn0 w w' := by
  have HR0 := Aside0.mk hr0
  have HC0 := Aside0.mk hc0
  clear hr0 hc0
  have H : (event_rise.l0 k l0 l0 (l0.length : Int) 0) = some r := h
  clear h
  have H' := Aside0.mk H
  clear H
  go_enter Try.func66, Try.ntmps66
  go_wp2
  go_loopg [7] k (fun kq v7 w' => ∃ (x7_1 : Int), v7 = .int .i64 x7_1 ∧ Aside0 (event_rise.l0 kq l0 l0 (l0.length : Int) x7_1 = some r) ∧ Aside0 (kq ≤ k) ∧ Drawn0 w w')
  case atStart => exact ⟨(0), (by first | rfl | (simp; done) | (simp [*]; done)), H', ⟨Nat.le_refl _⟩, by repeat (first | exact Drawn0.refl _ | apply Drawn0.step)⟩
  case round =>
    clear H'
    obtain ⟨x7_1, rfl, HA, HK1, ⟨m1, rfl⟩⟩ := hrel
    cases gk with
    | zero => exact absurd HA.out (by simp [event_rise.l0])
    | succ k1 =>
      have H := HA.out
      clear HA
      simp only [event_rise.l0] at H
      by_cases c2 : x7_1 < (l0.length : Int)
      · rw [if_pos c2] at H
        have c2b0 : decide (x7_1 < (l0.length : Int)) = true := decide_eq_true c2
        clear c2
        by_cases c3 : 0 ≤ x7_1
        · rw [if_pos c3] at H
          have c3b0 : decide (0 ≤ x7_1) = true := decide_eq_true c3
          clear c3
          by_cases c4 : x7_1 < (l0.length : Int)
          · rw [if_pos c4] at H
            have c4b0 : decide (x7_1 < (l0.length : Int)) = true := decide_eq_true c4
            clear c4
            by_cases c5 : x7_1 > 0
            · rw [if_pos c5] at H
              have c5b0 : decide (0 < x7_1) = true := decide_eq_true c5
              clear c5
              obtain ⟨ji6, hji6⟩ : ∃ j_ : Int, (wrap64 (x7_1 - 1)) = j_ := ⟨_, rfl⟩
              replace H : (if 0 ≤ (ji6) then (if (ji6) < (l0.length : Int) then (if ((Op.bytesLess ((rdOf ByteArray.empty l0 (ji6)).toList) ((rdOf ByteArray.empty l0 x7_1).toList)) = true) then (event_rise.l0 k1 l0 l0 (l0.length : Int) (wrap64 (x7_1 + 1))) else (some false)) else (none)) else (none)) = some r := by first | (rw [hji6] at H; exact H) | (simp only [hji6] at H ⊢; exact H)
              have hji6w : (IntKind.i64.wrap (x7_1 - 1)) = ji6 := (i64_w _).trans hji6
              by_cases c7 : 0 ≤ (ji6)
              · rw [if_pos c7] at H
                have c7b0 : decide (0 ≤ (ji6)) = true := decide_eq_true c7
                clear c7
                by_cases c8 : (ji6) < (l0.length : Int)
                · rw [if_pos c8] at H
                  have c8b0 : decide ((ji6) < (l0.length : Int)) = true := decide_eq_true c8
                  clear c8
                  by_cases c9 : ((Op.bytesLess ((rdOf ByteArray.empty l0 (ji6)).toList) ((rdOf ByteArray.empty l0 x7_1).toList)) = true)
                  · rw [if_pos c9] at H
                    have c9b0 : (Op.bytesLess ((rdOf ByteArray.empty l0 (ji6)).toList) ((rdOf ByteArray.empty l0 x7_1).toList)) = true := c9
                    clear c9
                    have H' := Aside0.mk H
                    clear H
                    have p148 : 0 ≤ (x7_1 : Int) := of_decide_eq_true (by first | (with_reducible assumption) | assumption)
                    have q148 : x7_1 < (l0.length : Int) := of_decide_eq_true (by first | (with_reducible assumption) | assumption)
                    obtain ⟨ad148, e148, hx148_0⟩ := Kd.at_string HR0.out x7_1 p148 q148
                    cases e148
                    replace p148 := eq_true p148
                    replace q148 := eq_true q148
                    have p149 : 0 ≤ ((ji6) : Int) := of_decide_eq_true (by first | (with_reducible assumption) | assumption)
                    have q149 : (ji6) < (l0.length : Int) := of_decide_eq_true (by first | (with_reducible assumption) | assumption)
                    obtain ⟨ad149, e149, hx149_0⟩ := Kd.at_string HR0.out (ji6) p149 q149
                    obtain rfl : ad148 = ad149 := (by injection e149)
                    replace p149 := eq_true p149
                    replace q149 := eq_true q149
                    go_wp2
                    go_roundg k1
                    case measure => have := HK1.out; omega
                    case rel => exact ⟨(wrap64 (x7_1 + 1)), (by first | rfl | (simp; done) | (simp [*]; done)), H', ⟨by have := HK1.out; omega⟩, by repeat (first | exact Drawn0.refl _ | apply Drawn0.step)⟩
                  · rw [if_neg c9] at H
                    have c9b0 : (Op.bytesLess ((rdOf ByteArray.empty l0 (ji6)).toList) ((rdOf ByteArray.empty l0 x7_1).toList)) = false := by simpa using c9
                    clear c9
                    obtain rfl := Option.some.inj H
                    have p148 : 0 ≤ (x7_1 : Int) := of_decide_eq_true (by first | (with_reducible assumption) | assumption)
                    have q148 : x7_1 < (l0.length : Int) := of_decide_eq_true (by first | (with_reducible assumption) | assumption)
                    obtain ⟨ad148, e148, hx148_0⟩ := Kd.at_string HR0.out x7_1 p148 q148
                    cases e148
                    replace p148 := eq_true p148
                    replace q148 := eq_true q148
                    have p149 : 0 ≤ ((ji6) : Int) := of_decide_eq_true (by first | (with_reducible assumption) | assumption)
                    have q149 : (ji6) < (l0.length : Int) := of_decide_eq_true (by first | (with_reducible assumption) | assumption)
                    obtain ⟨ad149, e149, hx149_0⟩ := Kd.at_string HR0.out (ji6) p149 q149
                    obtain rfl : ad148 = ad149 := (by injection e149)
                    replace p149 := eq_true p149
                    replace q149 := eq_true q149
                    go_wp2
                    go_ret
                    exact ⟨by first | rfl | (simp; done) | (simp only [← hji6] <;> (first | rfl | simp)) | (simp [*]; done), by repeat (first | exact Drawn0.refl _ | apply Drawn0.step)⟩
                · rw [if_neg c8] at H
                  exact absurd H (by simp)
              · rw [if_neg c7] at H
                exact absurd H (by simp)
            · rw [if_neg c5] at H
              have c5b0 : decide (0 < x7_1) = false := decide_eq_false c5
              clear c5
              have H' := Aside0.mk H
              clear H
              have p148 : 0 ≤ (x7_1 : Int) := of_decide_eq_true (by first | (with_reducible assumption) | assumption)
              have q148 : x7_1 < (l0.length : Int) := of_decide_eq_true (by first | (with_reducible assumption) | assumption)
              obtain ⟨ad148, e148, hx148_0⟩ := Kd.at_string HR0.out x7_1 p148 q148
              cases e148
              replace p148 := eq_true p148
              replace q148 := eq_true q148
              go_wp2
              go_roundg k1
              case measure => have := HK1.out; omega
              case rel => exact ⟨(wrap64 (x7_1 + 1)), (by first | rfl | (simp; done) | (simp [*]; done)), H', ⟨by have := HK1.out; omega⟩, by repeat (first | exact Drawn0.refl _ | apply Drawn0.step)⟩
          · rw [if_neg c4] at H
            exact absurd H (by simp)
        · rw [if_neg c3] at H
          exact absurd H (by simp)
      · rw [if_neg c2] at H
        have c2b0 : decide (x7_1 < (l0.length : Int)) = false := decide_eq_false c2
        clear c2
        obtain rfl := Option.some.inj H
        go_wp2
        go_ret
        exact ⟨by first | rfl | (simp; done) | (simp [*]; done), by repeat (first | exact Drawn0.refl _ | apply Drawn0.step)⟩

end Go.Proofs.Ytocpcnmnhckcpaa.Prt
