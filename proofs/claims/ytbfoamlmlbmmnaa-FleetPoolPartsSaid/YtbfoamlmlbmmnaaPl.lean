/- From the readings of the arguments to what is known of them; the end of a law. Conditions: none. -/
import Derived.Test.YtbfoamlmlbmmnaaPk
import Derived.ProofKit
import Derived.JoinedOf
import Derived.ChangeSame
import Derived.WideKeyArgs
namespace Px
open Go Go.RowKit Go.ChangeShapes Go.WideShapes Go.ChangeAt
set_option linter.unusedSimpArgs false
set_option linter.unusedVariables false

/-- The memory below the call's own reads as before. -/
theorem trodAll_below {H : Type} {enc : TypeId × Value → H} {P : Program} (hl : laidOutB P = true) {W W' : World} (hb : Below W.heap.size W W') {sp : Nat → Bool} : ∀ {ts : List TypeId} {vs : List Value} {ds : List (DataW H)} {ps : List MemPlace},
    (∀ t ∈ ts, P.readableRec t = true ∧ t < P.types.size) → DataW.TrodAll enc P W 0 (fun _ => true) true ts vs ds ps → (∀ p ∈ ps, p.block < W.heap.size) → (∀ p ∈ ps, sp p.block = true) → DataW.TrodAll enc P W' 0 sp true ts vs ds ps
  | [], [], [], _, _, h, _, _ => h
  | t :: ts, v :: vs, d :: ds, ps, ht, ⟨p, q, h1, h2, e⟩, hlt, hs =>
    ⟨p, q, WideElems.Trod_stays hl (ht t (List.mem_cons_self)).1 (ht t (List.mem_cons_self)).2 h1 (fun x hx => hb.same (hlt x (by rw [e]; exact List.mem_append_left _ hx))) (fun x hx => hs x (by rw [e]; exact List.mem_append_left _ hx)),
      trodAll_below hl hb (fun t' ht' => ht t' (List.mem_cons_of_mem _ ht')) h2 (fun x hx => hlt x (by rw [e]; exact List.mem_append_right _ hx)) (fun x hx => hs x (by rw [e]; exact List.mem_append_right _ hx)), e⟩
  | [], _ :: _, _, _, _, h, _, _ => h.elim
  | [], [], _ :: _, _, _, h, _, _ => h.elim
  | _ :: _, [], _, _, _, h, _, _ => h.elim
  | _ :: _, _ :: _, [], _, _, h, _, _ => h.elim

/-- A law that returned true and left what it was given as it was. -/
theorem post_law {H : Type} {enc : TypeId × Value → H} {P : Program} {f : Func} {s : ChangeSpec} {apart fresh handsOn again : Bool} {W W' : World} {args : Array Value} {ds : List (DataW H)} {before : List MemPlace} {tb : TypeId}
    (hW : DataW.Whole enc P f.params.toList s.vars apart W args.toList ds [] before) (hsv : s.vars = []) (hres : (s.fn H (ds ++ [])).results = [.lit (.bool true)]) (harg : (s.fn H (ds ++ [])).args = ds) (hvar : (s.fn H (ds ++ [])).vars = [])
    (hrt : f.resultTypes = #[tb]) (htb : P.underlying tb = some .bool) (hl : laidOutB P = true) (hread : ∀ t ∈ f.params.toList, P.readableRec t = true ∧ t < P.types.size) (hb : Below W.heap.size W W') :
    s.post enc P f apart fresh handsOn again W args (.bool true) W' := by
  have hlt : ∀ p ∈ before, p.block < W.heap.size := fun p hp => hW.lt p hp
  have hW0 := hW
  obtain ⟨p, q, hA, hV, he, hz, hn⟩ := hW
  rw [hsv] at hV
  obtain ⟨_, rfl⟩ := trodVars_none hV
  rw [List.append_nil] at he
  subst he
  have hres' : ∀ (b : Nat) (sp : Nat → Bool) (hd : Bool), DataW.TrodAll enc P W' b sp hd f.resultTypes.toList ((Value.bool true).resultList f.resultTypes.size) (s.fn H (ds ++ [])).results [] := fun b sp hd => by
    rw [hres, hrt]
    exact trodAll_mk1 (shut_bool htb _)
  have hargs : ∀ sp : Nat → Bool, (∀ p ∈ before, sp p.block = true) → DataW.TrodAll enc P W' 0 sp true f.params.toList args.toList (s.fn H (ds ++ [])).args before := fun sp hs => by
    rw [harg]
    exact trodAll_below hl hb hread hA hlt hs
  have hvars : ∀ sp : Nat → Bool, DataW.TrodVars enc P W' sp s.vars (s.fn H (ds ++ [])).vars [] := fun sp => by
    rw [hsv, hvar]; rfl
  have hold : ∀ p ∈ before, (fun b => decide (b < W.heap.size)) p.block = true := fun p hp => by simpa using hlt p hp
  refine ⟨ds, [], before, [], before, [], hW0, hres' _ _ _, hargs _ hold, hvars _, World.keptBut_mono (fun p hp => ⟨hp, by simp [hp]⟩) (hb.frame (· ∈ before)), fun _ => ?_⟩
  refine ⟨ok_one (by rw [hrt]) rfl (okWide_bool_mk htb _), _, _, ([] ++ before) ++ [], ⟨[] ++ before, [], trodAll_append (hargs _ (fun _ _ => rfl)) (hres' _ _ _), hvars _, rfl, ?_, ?_⟩, ?_⟩
  · intro b off hp
    have hp' : MemPlace.cell b off ∈ before := by simpa using hp
    rw [hb.frozen (hlt _ hp')]
    exact hz b off hp'
  · intro ha
    simpa using hn ha
  · intro p hp _
    simpa using hp

/-- Whatever reads as a value of type t is known by e, and R holds of it. -/
def Opn (P : Program) {α : Type} (t : TypeId) (n : Nat) (e : α → List VP) (R : α → Prop) : Prop :=
  ∀ (H : Type) (enc : TypeId × Value → H) (w : World) (sp : Nat → Bool) (held : Bool) (fuel : Nat) (cs : List Value) (x : DataW H × List MemPlace),
    DataW.trod enc P w 0 sp held fuel t cs = some x → cs.length = n ∧ ∃ y : α, R y ∧ CellsH (fun b => b < w.heap.size) w (e y) cs
def RI (k : IntKind) (n : Int) : Prop := k.min ≤ n ∧ n ≤ k.max
theorem cells1 {r : Nat → Prop} {w : World} {A : VP} {v : Value} (h : A.h r w v) (h1 : v.oneCell' = true) : CellsH r w [A] [v] := ⟨rfl, fun j B hj => by
  cases j with
  | zero => simp at hj; subst hj; exact ⟨v, rfl, h, h1⟩
  | succ j => simp at hj⟩
theorem Opn.int {P : Program} {t : TypeId} {k : IntKind} (ht : P.underlying t = some (.int k)) : Opn P t 1 (fun n => [iv k n]) (RI k) := by
  intro H enc w sp held fuel cs x h
  obtain ⟨n, rfl, _, hw⟩ := DataW.trod_int ht h
  simp only [Lit.wf, Bool.and_eq_true, decide_eq_true_eq] at hw
  exact ⟨rfl, n, hw, cells1 rfl rfl⟩
theorem Opn.bool {P : Program} {t : TypeId} (ht : P.underlying t = some .bool) : Opn P t 1 (fun b => [bv b]) (fun _ => True) := by
  intro H enc w sp held fuel cs x h
  obtain ⟨n, rfl, _⟩ := DataW.trod_bool ht h
  exact ⟨rfl, n, trivial, cells1 rfl rfl⟩
theorem Opn.string {P : Program} {t : TypeId} (ht : P.underlying t = some .string) : Opn P t 1 (fun s => [eqv (.string s)]) (fun s => s.size ≤ maxLen) := by
  intro H enc w sp held fuel cs x h
  obtain ⟨n, rfl, _, hs⟩ := DataW.trod_string ht h
  exact ⟨rfl, n, hs, cells1 rfl rfl⟩
theorem list_of {α : Type} {Q : Nat → α → Prop} : ∀ (n : Nat), (∀ i, i < n → ∃ y, Q i y) → ∃ l : List α, l.length = n ∧ ∀ i y, l[i]? = some y → Q i y
  | 0, _ => ⟨[], rfl, fun i y h => by simp at h⟩
  | n + 1, h => by
    obtain ⟨l, hl, hq⟩ := list_of n (fun i hi => h i (by omega))
    obtain ⟨y, hy⟩ := h n (by omega)
    refine ⟨l ++ [y], by simp [hl], fun i z hz => ?_⟩
    rw [List.getElem?_append] at hz
    split at hz
    · exact hq i z hz
    · rename_i hge
      have : i = n := by
        have := (List.getElem?_eq_some_iff.1 hz).1
        simp at this; omega
      subst this
      simp [hl] at hz
      subst hz; exact hy
def RL {α : Type} (R : α → Prop) (l : List α) : Prop := (∀ y ∈ l, R y) ∧ l.length ≤ maxLen
theorem Opn.slice {P : Program} {α : Type} {t E : TypeId} {n : Nat} {e : α → List VP} {R : α → Prop} (ht : P.underlying t = some (.slice E)) (hn : P.cellsOf E = n) (hp : 0 < n) (he : Opn P E n e R) :
    Opn P t 1 (fun l => [ro e n l]) (RL R) := by
  intro H enc w sp held fuel cs x h
  rcases DataW.trod_slice ht h with ⟨rfl, _⟩ | ⟨a, len, cap, elems, rest, m, rfl, rfl, _, _, hle, hcap, hlen, hel, _, _⟩
  · exact ⟨rfl, [], ⟨by simp, by simp⟩, cells1 (.inl ⟨⟨none, 0, rfl⟩, rfl⟩) rfl⟩
  · have hat : ∀ i, i < len → ∃ cs, cs.length = n ∧ (∃ y, R y ∧ CellsH (fun b => b < w.heap.size) w (e y) cs) ∧ ∀ j, j < n → w.cell? ((a.add (i * n)).add j) = cs[j]? := by
      intro i hi
      have hE := hel i hi
      rw [List.getElem?_eq_getElem (by omega), hn] at hE
      simp only [Option.bind_eq_some_iff] at hE
      obtain ⟨cs, hc, hy⟩ := hE
      obtain ⟨hcl, y, hR, hcells⟩ := he _ _ _ _ _ _ _ _ hy
      simp only [World.cells?, Nat.zero_le, if_true] at hc
      exact ⟨cs, hcl, ⟨y, hR, hcells⟩, fun j hj => by simpa using mapM_some_get hc j j (by simp [hj])⟩
    by_cases h0 : len = 0
    · subst h0
      exact ⟨rfl, [], ⟨by simp, by simp⟩, cells1 (.inl ⟨⟨_, _, rfl⟩, rfl⟩) rfl⟩
    have hspot : a.spot = none := by
      obtain ⟨cs, hcl, _, hget⟩ := hat 0 (by omega)
      have := hget 0 hp
      rw [List.getElem?_eq_getElem (by omega)] at this
      simpa [Addr.add] using World.cell?_spot this
    obtain ⟨b, o, s⟩ := a
    simp only at hspot
    subst hspot
    have hone : ∀ i, i < len → ∃ y, R y ∧ b < w.heap.size ∧ CellsRd w (fun b => b < w.heap.size) b (o + i * n) (e y) := by
      intro i hi
      obtain ⟨cs, hcl, ⟨y, hR, hcells⟩, hget⟩ := hat i hi
      have hget' : ∀ j, j < n → w.cell? ⟨b, o + i * n + j, none⟩ = cs[j]? := fun j hj => by
        have := hget j hj
        rwa [Addr.add_lit, Addr.add_lit] at this
      refine ⟨y, hR, ?_, fun j A hj => ?_⟩
      · have h1 := hget' 0 hp
        rw [List.getElem?_eq_getElem (by omega)] at h1
        unfold World.cell? at h1
        split at h1
        · rename_i hb
          exact (Array.getElem?_eq_some_iff.1 hb).1
        · cases h1
      · obtain ⟨u, hu, hA, h1⟩ := hcells.2 j A hj
        have hjn : j < n := by
          have := (List.getElem?_eq_some_iff.1 hu).1
          omega
        exact ⟨u, by rw [hget' j hjn, hu], hA, h1⟩
    obtain ⟨l, hll, hlq⟩ := list_of len hone
    refine ⟨rfl, l, ⟨fun y hy => ?_, by omega⟩, cells1 ?_ rfl⟩
    · obtain ⟨i, hi⟩ := List.getElem?_of_mem hy
      exact (hlq i y hi).1
    · exact .inr ⟨b, o, cap, by rw [hll], fun i x hi => ⟨(hlq i x hi).2.1, (hlq i x hi).2.2⟩⟩
/-- A struct's fields: type, offset, cells. -/
def tfields (P : Program) (t : TypeId) : Option (List (TypeId × Nat × Nat)) := match P.underlying t with
  | some (.struct fs) => some (fs.toList.map fun f => (f.type, f.offset, P.cellsOf f.type))
  | _ => none
theorem trod_fields {H : Type} {enc : TypeId × Value → H} {P : Program} {w : World} {sp : Nat → Bool} {held : Bool} {fuel : Nat} {t : TypeId} {cs : List Value} {x : DataW H × List MemPlace} {L : List (TypeId × Nat × Nat)}
    (h : tfields P t = some L) (hd : DataW.trod enc P w 0 sp held fuel t cs = some x) : cs.length = P.cellsOf t ∧ ∃ n, ∀ (i ty off m : Nat), L[i]? = some (ty, off, m) → ∃ y, DataW.trod enc P w 0 sp held n ty ((cs.drop off).take m) = some y := by
  unfold tfields at h
  split at h
  · rename_i fs hu
    simp only [Option.some.injEq] at h; subst h
    obtain ⟨xs, n, rfl, _, hl, hn, hf⟩ := DataW.trod_struct hu hd
    refine ⟨hl, n, fun i ty off m hi => ?_⟩
    rw [List.getElem?_map, Option.map_eq_some_iff] at hi
    obtain ⟨f, hfi, he⟩ := hi
    simp only [Prod.mk.injEq] at he
    obtain ⟨rfl, rfl, rfl⟩ := he
    have hfi' : fs[i]? = some f := by simpa using hfi
    have hlt : i < xs.length := by
      have := (Array.getElem?_eq_some_iff.1 hfi').1
      omega
    exact ⟨_, (hf i f hfi').trans (List.getElem?_eq_getElem hlt)⟩
  · cases h
theorem CellsH.tile {r : Nat → Prop} {w : World} {A B : List VP} {cs : List Value} {off m : Nat} (c : CellsH r w A ((cs.drop off).take m)) (d : CellsH r w B (cs.drop (off + m))) : CellsH r w (A ++ B) (cs.drop off) := by
  have := c.append d
  rwa [← List.drop_drop, List.take_append_drop] at this
theorem CellsH.tile0 {r : Nat → Prop} {w : World} {cs : List Value} {n : Nat} (h : cs.length = n) : CellsH r w [] (cs.drop n) := by
  rw [List.drop_of_length_le (by omega)]
  exact ⟨rfl, fun j A hj => by simp at hj⟩

theorem arg_agg {H : Type} {enc : TypeId × Value → H} {P : Program} {W : World} {sp : Nat → Bool} {held : Bool} {base n : Nat} {α : Type} {t : TypeId} {e : α → List VP} {R : α → Prop} {v : Value} {d : DataW H} {p : List MemPlace}
    (hu : (match P.underlying t with | some (.struct _) => true | _ => false) = true) (ho : Opn P t n e R) (hv : Value.okWide P W .any base t v) (h : DataW.Trod enc P W 0 sp held t v d p) : ∃ y, R y ∧ (agg (e y)).h (fun b => b < W.heap.size) W v := by
  obtain ⟨fuel, hf⟩ := h
  obtain ⟨_, y, hR, hc⟩ := ho _ _ _ _ _ _ _ _ hf
  unfold Value.okWide at hv
  split at hu
  · rename_i fs hus
    rw [hus] at hv
    obtain ⟨cs, rfl, _⟩ := hv
    exact ⟨y, hR, cs, rfl, hc⟩
  · cases hu
theorem arg_int {H : Type} {enc : TypeId × Value → H} {P : Program} {W : World} {sp : Nat → Bool} {held : Bool} {base : Nat} {t : TypeId} {k : IntKind} {v : Value} {d : DataW H} {p : List MemPlace}
    (hu : P.underlying t = some (.int k)) (hv : Value.okWide P W .any base t v) (h : DataW.Trod enc P W 0 sp held t v d p) : ∃ y, RI k y ∧ (iv k y).h (fun b => b < W.heap.size) W v := by
  obtain ⟨n, rfl, _, _, hw⟩ := open_int hu hv h
  simp only [Lit.wf, Bool.and_eq_true, decide_eq_true_eq] at hw
  exact ⟨n, hw, rfl⟩
theorem law_calls {P : Program} {f : FuncId} {As : List VP} {vs : Array Value} {W : World} (h : PureT P f As (fun x news => x = bv true ∧ news = [])) (hl : vs.size = As.length)
    (hA : ∀ (i : Nat) (A : VP), As[i]? = some A → A.h (fun b => b < W.heap.size) W (vs.getD i undef)) : Calls P f vs W (fun e W' => e = .returned (.bool true) ∧ Below W.heap.size W W') := by
  refine (h (fun b => b < W.heap.size) W vs (fun _ hb => hb) hl hA).mono ?_
  rintro e w' ⟨v, x, news, r', S', rfl, _, hw, hx, rfl, rfl⟩
  have hx' : v = .bool true := hx
  exact ⟨by rw [hx'], hw.below⟩
end Px
