/- Strings and lists of bytes. -/
import Derived.Test.YtkbnckpcllfikaaB0
import Derived.Test.YtkbnckpcllfikaaP1
import Derived.Laws.StructEq
namespace Go.Proofs.Ytkbnckpcllfikaa.Num
open Go.RowKit Go.Proofs.YtkbnckpcllfikaaW.PrintWords Go.Proofs.YtkbnckpcllfikaaW.PrintLast Go.Proofs.YtkbnckpcllfikaaW.PrintMore
set_option linter.unusedVariables false
set_option linter.unusedSimpArgs false

theorem ret_i64 {a b : Int} (h : a = b) : Ending.returned (.int .i64 a) = .returned (.int .i64 b) := by rw [h]
theorem ret_bool {a b : Bool} (h : a = b) : Ending.returned (.bool a) = .returned (.bool b) := by rw [h]
theorem ret_str {a b : ByteArray} (h : a = b) : Ending.returned (.string a) = .returned (.string b) := by rw [h]
theorem strOfNums_toList (l : List Int) : (strOfNums l).toList = l.map fun n => UInt8.ofNat n.toNat := ByteArray.toList_mk _
theorem bytesOf_isBytes (s : ByteArray) : isBytes (bytesOf s) := by
  intro c hc
  obtain ⟨b, _, rfl⟩ := List.mem_map.1 hc
  have := b.toNat_lt
  omega
theorem bytesOf_strOfNums {l : List Int} (h : isBytes l) : bytesOf (strOfNums l) = l := by
  unfold bytesOf
  rw [strOfNums_data, List.map_map]
  have : ∀ c ∈ l, ((fun b : UInt8 => (b.toNat : Int)) ∘ fun n : Int => UInt8.ofNat n.toNat) c = c := by
    intro c hc
    have h1 := h c hc
    simp only [Function.comp, UInt8.toNat_ofNat']
    omega
  exact (List.map_congr_left this).trans (List.map_id' _)
theorem strOfNums_bytesOf (s : ByteArray) : strOfNums (bytesOf s) = s := by
  have : (strOfNums (bytesOf s)).data.toList = s.data.toList := by
    rw [strOfNums_data]
    unfold bytesOf
    rw [List.map_map]
    have : ∀ c ∈ s.data.toList, ((fun n : Int => UInt8.ofNat n.toNat) ∘ fun b : UInt8 => (b.toNat : Int)) c = c := by
      intro c _
      simp only [Function.comp, Int.toNat_natCast, UInt8.ofNat_toNat]
    exact (List.map_congr_left this).trans (List.map_id' _)
  exact congrArg ByteArray.mk (Array.toList_inj.1 this)
theorem toList_inj {a b : ByteArray} (h : a.toList = b.toList) : a = b := by
  rw [ByteArray.toList_eq, ByteArray.toList_eq] at h
  exact congrArg ByteArray.mk (Array.toList_inj.1 h)
theorem bytesOf_inj {a b : ByteArray} (h : bytesOf a = bytesOf b) : a = b := by rw [← strOfNums_bytesOf a, ← strOfNums_bytesOf b, h]
theorem strOfNums_inj {a b : List Int} (ha : isBytes a) (hb : isBytes b) (h : strOfNums a = strOfNums b) : a = b := by rw [← bytesOf_strOfNums ha, ← bytesOf_strOfNums hb, h]
theorem str_beq {a b : List Int} (ha : isBytes a) (hb : isBytes b) : ((strOfNums a).toList == (strOfNums b).toList) = decide (a = b) := by
  rw [Bool.eq_iff_iff, beq_iff_eq, decide_eq_true_iff]
  exact ⟨fun h => strOfNums_inj ha hb (toList_inj h), fun h => by rw [h]⟩
theorem str_beq' (s t : ByteArray) : (s.toList == t.toList) = decide (s = t) := by
  rw [Bool.eq_iff_iff, beq_iff_eq, decide_eq_true_iff]
  exact ⟨toList_inj, fun h => by rw [h]⟩
theorem enc_beq {x y : Int} (hx : i64 x) (hy : i64 y) : ((strOfNums (enc x)).toList == (strOfNums (enc y)).toList) = (x == y) := by
  rw [str_beq (enc_bytes x) (enc_bytes y), Bool.eq_iff_iff, decide_eq_true_iff, beq_iff_eq]
  exact ⟨enc_inj hx hy, fun h => by rw [h]⟩
theorem str_append (a b : List Int) : strOfNums (a ++ b) = strOfNums a ++ strOfNums b := by
  apply bytesOf_inj
  unfold bytesOf strOfNums
  simp
end Go.Proofs.Ytkbnckpcllfikaa.Num
