/- Short names of the laws that the read-out proofs use. Conditions: none. -/
import Derived.Test.YtbfoamlmlbmmnaaPl
namespace Px
open Go Go.RowKit
set_option linter.unusedVariables false
def getSl (s : Slots) : List Nat → Option (List (Nat × VP))
  | [] => some []
  | k :: ks => match s k, getSl s ks with
    | some A, some L => some ((k, A) :: L)
    | _, _ => none
def getOb (objs : List HP) : List Nat → Option (List HP)
  | [] => some []
  | i :: is => match objs[i]?, getOb objs is with
    | some A, some L => some (A :: L)
    | _, _ => none
theorem getSl_le {s : Slots} : ∀ {ks : List Nat} {L : List (Nat × VP)}, getSl s ks = some L → SlotsLe s L
  | [], L, h => by cases h; trivial
  | k :: ks, L, h => by
    unfold getSl at h
    cases hk : s k with
    | none => rw [hk] at h; cases h
    | some A =>
      cases hr : getSl s ks with
      | none => rw [hk, hr] at h; cases h
      | some L' =>
        rw [hk, hr] at h
        cases h
        exact ⟨⟨A, hk, Ent.refl⟩, getSl_le hr⟩
theorem getOb_sel {objs : List HP} : ∀ {is : List Nat} {O : List HP}, getOb objs is = some O → ObjsSel objs is O
  | [], O, h => by cases h; trivial
  | i :: is, O, h => by
    unfold getOb at h
    cases hk : objs[i]? with
    | none => rw [hk] at h; cases h
    | some A =>
      cases hr : getOb objs is with
      | none => rw [hk, hr] at h; cases h
      | some L' =>
        rw [hk, hr] at h
        cases h
        exact ⟨⟨A, hk, EntH.refl⟩, getOb_sel hr⟩
theorem sl {s : Slots} {L : List (Nat × VP)} (h : getSl s (L.map (·.1)) = some L) : SlotsLe s L := getSl_le h
theorem ol {objs : List HP} {is : List Nat} {O : List HP} (h : getOb objs is = some O) : ObjsSel objs is O := getOb_sel h
section short
variable {P : Program} {C : Cx P} {s : St} {Q : Exit → Act → World → Prop} {x y c : Code} {e : Exit} {ops : Array Oper} {i : Nat} {rest : List Nat} {o : Oper}
theorem al (ks is : List Nat) {L : List (Nat × VP)} {O : List HP} (hL : getSl s.slots ks = some L) (hO : getOb s.objs is = some O) (hn : nodupB is = true) (h : AtX C ⟨Slots.of L, O⟩ e Q) : AtX C s e Q :=
  AtX.le' L is O (getSl_le hL) (getOb_sel hO) hn h
theorem cl (ks is : List Nat) {L : List (Nat × VP)} {O : List HP} (hL : getSl s.slots ks = some L) (hO : getOb s.objs is = some O) (hn : nodupB is = true) (h : CodeT C c ⟨Slots.of L, O⟩ Q) : CodeT C c s Q :=
  CodeT.le' L is O (getSl_le hL) (getOb_sel hO) hn h
theorem cq {x : VP} (ho : ops[i]? = some o) (hg : o.guard = none) (hr : inRange C o = true) (hq : OpQ C o s x)
    (h : RunOps C ops rest ⟨s.slots.set o.dst x, s.objs⟩ Q) : RunOps C ops (i :: rest) s Q := RunOps.cons_q x ho hg hr hq h
theorem cg {x : VP} {g : Bool} {j : Nat} {want : Bool} {t : Nat} (ho : ops[i]? = some o) (hg : o.guard = some (j, want)) (hr : inRange C o = true)
    (hj : (ops[j]?).bind (·.dst) = some t) (ht : s.slots t = some (bv g)) (hq : g = want → OpQ C o s x)
    (h : RunOps C ops rest ⟨s.slots.set o.dst (cnd (g = want) x), s.objs⟩ Q) : RunOps C ops (i :: rest) s Q := RunOps.cons_g x g ho hg hr hj ht hq h
theorem rn (h : AtX C s .normal Q) : RunOps C ops [] s Q := RunOps.nil h
theorem sq (h : CodeT C y s Q) : AtX C s .normal (Exit.then (y.wp P Q) Q) := AtX.seq h
theorem cs (h : CodeT C x s (Exit.then (y.wp P Q) Q)) : CodeT C (.seq x y) s Q := CodeT.seq h
theorem cr {id : Nat} (l : List Nat) (hl : List.range ops.size = l) (h : RunOps C ops l s Q) : CodeT C (.region id ops false) s Q := CodeT.region' l hl h
theorem mv {t : Nat} {A : VP} (h : s.slots t = some A) : Ev s (.tmp t) A := Ev.tmp h
end short
end Px
