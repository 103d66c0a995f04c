/- The statement on the parts of a pool: what was read out of it answers true. Conditions: none. -/
import Derived.Test.YtbfoamlmlbmmnaaRp
namespace Px
open Go
set_option linter.unusedVariables false
set_option linter.unusedSimpArgs false
set_option maxRecDepth 100000
theorem chkPool_ok {x : Pool} (h : chkPool x = 0) : chkNet x.fNetwork = 0 ∧ chkFleet x.fFleet = 0 ∧ bigPool x = false ∧ badPool x = false := by
  unfold chkPool at h
  by_cases hn : chkNet x.fNetwork = 0
  case neg => rw [if_pos hn] at h; exact absurd h hn
  by_cases hf : chkFleet x.fFleet = 0
  case neg => rw [if_neg (fun e : chkNet x.fNetwork ≠ 0 => e hn), if_pos hf] at h; exact absurd h hf
  rw [if_neg (fun e : chkNet x.fNetwork ≠ 0 => e hn), if_neg (fun e : chkFleet x.fFleet ≠ 0 => e hf)] at h
  cases hb : bigPool x with
  | true => rw [hb] at h; cases h
  | false =>
    cases hc : badPool x with
    | true => rw [hb, hc] at h; cases h
    | false => exact ⟨hn, hf, rfl, rfl⟩
theorem chkPool_of {x : Pool} (hn : chkNet x.fNetwork = 0) (hf : chkFleet x.fFleet = 0) : chkPool x = bif bigPool x then 2 else bif badPool x then 1 else 0 := by
  unfold chkPool
  rw [if_neg (fun e : chkNet x.fNetwork ≠ 0 => e hn), if_neg (fun e : chkFleet x.fFleet ≠ 0 => e hf)]
theorem chkPool_bad {x : Pool} (hn : chkNet x.fNetwork = 0) (hf : chkFleet x.fFleet = 0) (hb : badPool x = true) : (chkPool x != 0) = true := by
  rw [chkPool_of hn hf, hb]
  cases bigPool x <;> rfl
theorem badPool_f {x : Pool} (h : badPool x = false) : (x.fRailways.length : Int) ≠ 0 ∧ (∀ r ∈ x.fReaders, badReader x.fNetwork.fPlaces.length r = false) ∧ (∀ s ∈ x.fShippers, badShipper x.fNetwork s = false) ∧
    (∀ w ∈ x.fFleet.fWagons, w.fHome < (x.fNetwork.fPlaces.length : Int)) ∧ (∀ r ∈ x.fRailways, badRail r = false) := by
  unfold badPool at h
  simp only [Bool.or_eq_false_iff, List.any_eq_false, beq_eq_false_iff_ne, decide_eq_true_eq, Bool.not_eq_true] at h
  obtain ⟨⟨⟨⟨⟨⟨h1, h2⟩, h3⟩, h4⟩, _⟩, _⟩, h7⟩ := h
  exact ⟨h1, h2, h3, fun w hw => by have := h4 w hw; omega, h7⟩
theorem mem_setAt {α : Type} {l : List α} {k : Int} (h0 : 0 ≤ k) (h1 : k < (l.length : Int)) (y : α) : y ∈ setAt l k y := by
  have : k.toNat < l.length := by omega
  exact List.mem_of_getElem? (i := k.toNat) (by simp [setAt, this])
theorem any_app_true {α : Type} (p : α → Bool) (l : List α) (y : α) (h : p y = true) : (l ++ [y]).any p = true := by
  rw [List.any_append]; simp [h]
theorem fleetPoolParts_true (x : Pool) (which : Int) (hx : RPool x) (hw : RI .i64 which) : ∃ φ, law09_FleetPoolParts φ x which = some true := by
  refine ⟨1000000, ?_⟩
  have h8 : 800000 < 1000000 := by omega
  unfold law09_FleetPoolParts
  rw [sane_any _ (by omega), Option.bind_some, if_neg (by simp)]
  obtain ⟨b, hb, _⟩ := law09_few_eq 1000000 x.fFleet
  rw [hb, Option.bind_some]
  cases b with
  | false => rw [gcall_f (by simp)]; rfl
  | true =>
  rw [gcall_t (by simp), fleet_CheckPool_eq _ h8, Option.bind_some]
  show (if (!true || chkPool x != 0) = true then some true else _) = _
  by_cases h : chkPool x ≠ 0
  · rw [if_pos (by simp [h])]
  replace h : chkPool x = 0 := Decidable.not_not.1 h
  obtain ⟨hn, hf, hbig, hbad⟩ := chkPool_ok h
  obtain ⟨hr0, hrd, hsh, hho, hra⟩ := badPool_f hbad
  obtain ⟨n1, n2, _, _⟩ := chkNet_ok hn
  obtain ⟨f1, f2, f3, f4, _, f6, _⟩ := chkFleet_ok hf
  have hbig' := hbig
  simp only [bigPool, Bool.or_eq_false_iff, decide_eq_false_iff_not] at hbig'
  rw [if_neg (by simp [h]), network_Check_eq _ (by omega), Option.bind_some, hn, gcall_t (by simp), fleet_Check_eq _ (by omega), Option.bind_some, hf, if_neg (by simpa using hr0)]
  refine loop_up0 (fun n i (_ : Unit) => law09_FleetPoolParts_L127 1000000 x (law09_FleetPoolParts_j26 1000000 x which) n i) x.fRailways.length (fun _ _ => True) (fun o => o = some true) ?_ ?_ _ () trivial (by omega)
  · intro n i _ hi _ hs
    have hm := hra _ (gt_mem (l := x.fRailways) (i := (i : Int)) (by omega) (by omega))
    simp only [badRail, Bool.or_eq_false_iff, Bool.not_eq_false'] at hm
    rw [law09_FleetPoolParts_L127, if_pos (by simp; omega), ck_pos ⟨by omega, by omega⟩, sign_Valid_eq _ (by omega), Option.bind_some, hm.2, gcall_t (by simp), calendar_Check_eq _ h8, Option.bind_some, hm.1, if_neg (by simp), W_id (by omega) (by omega)]
    exact hs () trivial
  intro n _ _
  rw [law09_FleetPoolParts_L127, if_neg (by simp)]
  unfold law09_FleetPoolParts_j26
  refine loop_up0 (fun n i (_ : Unit) => law09_FleetPoolParts_L109 1000000 x (law09_FleetPoolParts_j27 1000000 x which) n i) x.fFleet.fWagons.length (fun _ _ => True) (fun o => o = some true) ?_ ?_ _ () trivial (by omega)
  · intro n i _ hi _ hs
    have hm := gt_mem (l := x.fFleet.fWagons) (i := (i : Int)) (by omega) (by omega)
    have h1 := hho _ hm
    have h2 := f6 _ hm
    simp only [okWagon, Bool.and_eq_true, bet_iff] at h2
    rw [law09_FleetPoolParts_L109, if_pos (by simp; omega), ck_pos ⟨by omega, by omega⟩, if_neg (by simp; omega), W_id (by omega) (by omega)]
    exact hs () trivial
  intro n _ _
  rw [law09_FleetPoolParts_L109, if_neg (by simp)]
  unfold law09_FleetPoolParts_j27
  have hU : U (x.fRailways.length : Int) = x.fRailways.length := U_id (by omega) (by omega)
  have hu : 0 ≤ U which := by rw [U_def]; omega
  have hlt := Int.emod_lt_of_pos (U which) (by omega : 0 < (x.fRailways.length : Int))
  have hge := Int.emod_nonneg (U which) (by omega : (x.fRailways.length : Int) ≠ 0)
  have hk : W ((U which).tmod (U (x.fRailways.length : Int))) = U which % (x.fRailways.length : Int) := by
    rw [hU, Int.tmod_eq_emod_of_nonneg hu]; exact W_id (by omega) (by omega)
  rw [ck_pos (by rw [hU]; exact hr0), ck_pos (by simp [fits]; omega), hk, ck_pos ⟨hge, by simpa using hlt⟩, ck_pos (by simp [fits]; omega), ck_pos (by simp [fits]; omega)]
  unfold law09_FleetPoolParts_j38
  rw [hk]
  simp only [List.nil_append]
  have hkm := gt_mem (l := x.fRailways) hge hlt
  have hkr := hra _ hkm
  simp only [badRail, Bool.or_eq_false_iff, Bool.not_eq_false'] at hkr
  generalize U which % (x.fRailways.length : Int) = k at *
  have hkey := hkr.2
  simp only [okKey, Bool.and_eq_true, decide_eq_true_eq] at hkey
  have hUk : U (2305843009213690799 - (gt x.fRailways k).fKey) = 2305843009213690799 - (gt x.fRailways k).fKey := U_id (by omega) (by omega)
  rw [fleet_CheckPool_eq _ h8, Option.bind_some, hUk]
  have hb1 : chkPool ⟨x.fNetwork, x.fFleet, x.fReaders, x.fShippers, setAt x.fRailways k ⟨2305843009213690799 - (gt x.fRailways k).fKey, (gt x.fRailways k).fCalendar⟩⟩ = 1 := by
    refine (chkPool_of (x := ⟨x.fNetwork, x.fFleet, x.fReaders, x.fShippers, setAt x.fRailways k ⟨2305843009213690799 - (gt x.fRailways k).fKey, (gt x.fRailways k).fCalendar⟩⟩) hn hf).trans ?_
    have e1 : bigPool ⟨x.fNetwork, x.fFleet, x.fReaders, x.fShippers, setAt x.fRailways k ⟨2305843009213690799 - (gt x.fRailways k).fKey, (gt x.fRailways k).fCalendar⟩⟩ = false := by
      unfold bigPool at hbig ⊢
      rw [setAt_len]; exact hbig
    have e2 : badPool ⟨x.fNetwork, x.fFleet, x.fReaders, x.fShippers, setAt x.fRailways k ⟨2305843009213690799 - (gt x.fRailways k).fKey, (gt x.fRailways k).fCalendar⟩⟩ = true := by
      unfold badPool
      rw [Bool.or_eq_true]
      right
      rw [List.any_eq_true]
      refine ⟨_, mem_setAt hge hlt _, ?_⟩
      unfold badRail
      rw [neg_no_key hkr.2]; simp
    rw [e1, e2]; rfl
  rw [hb1, gcall_t (by simp), fleet_CheckPool_eq _ h8, Option.bind_some]
  have hb2 : (chkPool ⟨x.fNetwork, x.fFleet, x.fReaders ++ [⟨(x.fNetwork.fPlaces.length : Int), 0, 0⟩], x.fShippers, x.fRailways⟩ != 0) = true := by
    refine chkPool_bad hn hf ?_
    unfold badPool
    have : badReader (x.fNetwork.fPlaces.length : Int) ⟨(x.fNetwork.fPlaces.length : Int), 0, 0⟩ = true := by
      unfold badReader
      have : bet (x.fNetwork.fPlaces.length : Int) 0 ((x.fNetwork.fPlaces.length : Int) - 1) = false := by rw [← Bool.not_eq_true, bet_iff]; omega
      simp [this]
    simp only
    rw [any_app_true _ _ _ this]; simp
  rw [if_neg (by simpa using hb2)]
  refine loop_up0 (fun n i (_ : Unit) => law09_FleetPoolParts_L48 1000000 x (law09_FleetPoolParts_j46 1000000) n i) x.fNetwork.fPlaces.length (fun _ _ => True) (fun o => o = some true) ?_ ?_ _ () trivial (by omega)
  · intro n i _ hi _ hs
    rw [law09_FleetPoolParts_L48, if_pos (by simp; omega), ck_pos ⟨by omega, by omega⟩]
    cases hkd : (gt x.fNetwork.fPlaces i).fKind != 4 with
    | false => rw [if_neg (by simp), W_id (by omega) (by omega)]; exact hs () trivial
    | true =>
      rw [if_pos rfl, ck_pos (by simp [fits]; omega), ck_pos (by simp [fits]; omega), fleet_CheckPool_eq _ h8, Option.bind_some, List.nil_append]
      refine congrArg some (chkPool_bad (x := ⟨x.fNetwork, x.fFleet, x.fReaders, _, x.fRailways⟩) hn hf ?_)
      unfold badPool
      have : badShipper x.fNetwork ⟨(i : Int)⟩ = true := by unfold badShipper; rw [hkd]; simp
      simp only
      rw [any_app_true _ _ _ this]; simp
  · intro n _ _
    rw [law09_FleetPoolParts_L48, if_neg (by simp)]; rfl
end Px
