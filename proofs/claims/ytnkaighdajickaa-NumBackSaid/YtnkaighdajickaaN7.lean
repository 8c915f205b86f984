/- Two readers at once: the program's and the reference's. -/
import Derived.Test.YtnkaighdajickaaN6
namespace Go.Proofs.Ytnkaighdajickaa.Num
open Go.RowKit Go.Proofs.YtnkaighdajickaaW.PrintWords Go.Proofs.YtnkaighdajickaaW.PrintLast Go.Proofs.YtnkaighdajickaaW.PrintMore
set_option linter.unusedVariables false
set_option linter.unusedSimpArgs false

theorem Rd.weaken {T : Nat} {P Q : Nat → Prop} {W : World} {g : Nat} {l : List Int} {bad : Bool} (h : Rd T P W g l bad) (hP : ∀ k, P k → Q k) (hg : ¬ Q g) : Rd T Q W g l bad := by
  obtain ⟨A, c, h1, h2, h3, h4, _⟩ := h
  exact ⟨A, c, h1, h2, h3, fun ad e hn => hP _ (h4 ad e hn), hg⟩
theorem own_base' {e base : Nat} {w : World} {ok : Nat → Prop} {xs : List Int} {A : Option Addr} {n c : Nat} (h : U8.R e w base ok (.slice A n c) xs) : ∀ ad, A = some ad → base ≤ ad.block := fun ad ha => by subst ha; exact Kd.R_base h _ rfl
theorem Rd.cells {T : Nat} {P : Nat → Prop} {W : World} {g : Nat} {l : List Int} {bad : Bool} (h : Rd T P W g l bad) : ∃ A c, W.cell? ⟨g, 0, none⟩ = some (.slice A l.length c) ∧ W.cell? ⟨g, 1, none⟩ = some (.bool bad) := by
  obtain ⟨A, c, h1, _⟩ := h
  exact ⟨A, c, blk_cell h1 0, blk_cell h1 1⟩
theorem aftT_bytes {l : List Int} (h : isBytes l) : isBytes (aftT l) := by
  unfold aftT
  cases hd : decT l with
  | none => intro c hc; simp at hc
  | some q => have := (decT_sound h hd).1; rw [this] at h; exact (isBytes_append.1 h).2
end Go.Proofs.Ytnkaighdajickaa.Num
