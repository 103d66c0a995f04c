/- Arrays among the arguments. Conditions: none. -/
import Derived.Test.YtbfoamlmlbmmnaaPl
import Derived.OpenShut
namespace Px
open Go Go.RowKit
set_option linter.unusedVariables false
theorem CellsH.of_eq {r : Nat → Prop} {w : World} {A B : List VP} {cs : List Value} (h : CellsH r w A cs) (e : A = B) : CellsH r w B cs := e ▸ h
theorem Opn.array {P : Program} {α : Type} [Inhabited α] {t E : TypeId} {N n m : Nat} {e : α → List VP} {R : α → Prop} (ht : P.underlying t = some (.array N E)) (hn : P.cellsOf E = n) (hm : P.cellsOf t = m) (hmn : m = N * n) (he : Opn P E n e R) :
    Opn P t m (fun f => arr N e f) (fun f : Nat → α => ∀ i, i < N → R (f i)) := by
  intro H enc w sp held fuel cs x h
  obtain ⟨xs, k, _, _, hl, hx, hel⟩ := DataW.trod_array ht h
  rw [hm] at hl
  rw [hn] at hel
  have hat : ∀ i, ∃ y : α, i < N → R y ∧ CellsH (fun b => b < w.heap.size) w (e y) ((cs.drop (i * n)).take n) := by
    intro i
    by_cases hi : i < N
    · have h1 := hel i hi
      rw [List.getElem?_eq_getElem (by omega)] at h1
      obtain ⟨_, y, hR, hc⟩ := he _ _ _ _ _ _ _ _ h1
      exact ⟨y, fun _ => ⟨hR, hc⟩⟩
    · exact ⟨default, fun h => absurd h hi⟩
  have hf : ∃ f : Nat → α, ∀ i, i < N → R (f i) ∧ CellsH (fun b => b < w.heap.size) w (e (f i)) ((cs.drop (i * n)).take n) := ⟨fun i => Classical.choose (hat i), fun i => Classical.choose_spec (hat i)⟩
  obtain ⟨f, hf⟩ := hf
  refine ⟨hl, f, fun i hi => (hf i hi).1, ?_⟩
  have key : ∀ d i, N - i = d → i ≤ N → CellsH (fun b => b < w.heap.size) w ((List.range' i (N - i)).flatMap fun j => e (f j)) (cs.drop (i * n)) := by
    intro d
    induction d with
    | zero =>
      intro i hd hi
      have : i = N := by omega
      subst this
      rw [Nat.sub_self]
      exact CellsH.tile0 (by rw [hl, hmn])
    | succ d ih =>
      intro i hd hi
      rw [hd, List.range'_succ, List.flatMap_cons]
      have h2 := ih (i + 1) (by omega) (by omega)
      rw [show N - (i + 1) = d by omega, Nat.add_mul, Nat.one_mul] at h2
      exact CellsH.tile (hf i (by omega)).2 h2
  have := key N 0 (by omega) (by omega)
  rw [Nat.zero_mul, List.drop_zero, Nat.sub_zero, ← List.range_eq_range'] at this
  exact this
end Px
