/- What CheckPool says of a pool, and the statements on pools. Conditions: none. -/
import Derived.Test.YtbfoamlmlbmmnaaRn
import Derived.Test.YtbfoamlmlbmmnaaRl
namespace Px
open Go
set_option linter.unusedVariables false
set_option linter.unusedSimpArgs false
set_option maxRecDepth 100000
theorem fits_ex (φ : Nat) (h : 5000 < φ) (i c w : Int) : fleet_Fits φ ⟨[⟨60000, 0, 0, 0, 0, 6, 100, 20⟩, ⟨50000, 0, 0, 0, 0, 0, 1, 0⟩, ⟨40000, 0, 0, 0, 0, 0, 1, 0⟩], [⟨0, 0, 0, 0, 1000000⟩], [⟨0, 1, 5⟩, ⟨1, 2, 7⟩, ⟨0, 2, 20⟩], [⟨1, 2, 90⟩]⟩ i c w = some (fitsOf ⟨[⟨60000, 0, 0, 0, 0, 6, 100, 20⟩, ⟨50000, 0, 0, 0, 0, 0, 1, 0⟩, ⟨40000, 0, 0, 0, 0, 0, 1, 0⟩], [⟨0, 0, 0, 0, 1000000⟩], [⟨0, 1, 5⟩, ⟨1, 2, 7⟩, ⟨0, 2, 20⟩], [⟨1, 2, 90⟩]⟩ i c w) := by
  refine fleet_Fits_eq φ h _ ?_ i c w
  intro t ht
  simp at ht
  rcases ht with rfl | rfl | rfl <;> simp
theorem sane_any (φ : Nat) (h : 5000 < φ) : law09_sane φ = some true := by
  have hs := sane_true
  have h5 : 5000 < 100000 := by omega
  unfold law09_sane law09_example at hs ⊢
  simp only [Option.bind_some, fleet_Given_eq _ h5, fleet_Clean_eq _ h5, fleet_Worth_eq _ h5] at hs
  simp only [Option.bind_some, fleet_Given_eq _ h, fleet_Clean_eq _ h, fleet_Worth_eq _ h]
  have hg : (givenOf ⟨[⟨60000, 0, 0, 0, 0, 6, 100, 20⟩, ⟨50000, 0, 0, 0, 0, 0, 1, 0⟩, ⟨40000, 0, 0, 0, 0, 0, 1, 0⟩], [⟨0, 0, 0, 0, 1000000⟩], [⟨0, 1, 5⟩, ⟨1, 2, 7⟩, ⟨0, 2, 20⟩], [⟨1, 2, 90⟩]⟩ 0) = ([⟨0, 0, 0⟩, ⟨0, 1, 5⟩, ⟨0, 2, 12⟩], 0) := by kernel_rfl
  rw [hg, SameSwaps_self _ _ (by simp) (by simp)] at hs
  rw [hg, SameSwaps_self _ _ (by simp; omega) (by simp)]
  simp only [fits_ex _ h5] at hs
  simp only [fits_ex _ h]
  exact hs
/-- A loop that gathers a flag. -/
theorem loop_or {α ρ : Type} [Inhabited α] (L : Nat → Bool → Int → Option ρ) (k : Bool → Option ρ) (l : List α) (p : α → Bool)
    (step : ∀ (n i : Nat) (s : Bool), i < l.length → L (n + 1) s i = L n (s || p (gt l i)) ((i : Int) + 1)) (done : ∀ n s, L (n + 1) s l.length = k s) (n : Nat) (s : Bool) (hn : l.length < n) : L n s 0 = k (s || l.any p) := by
  refine loop_up0 (fun n i t => L n t i) l.length (fun i t => t = (s || (l.take i).any p)) (fun o => o = k (s || l.any p)) ?_ ?_ n s (by simp) hn
  · intro n i t hi ht hs
    rw [step n i t hi]
    exact hs _ (by rw [any_take_succ _ _ _ hi, ht, Bool.or_assoc])
  · intro n t ht
    rw [List.take_length] at ht
    rw [done, ht]
def badReader (n : Int) (r : Reader) : Bool := (((!bet r.fPlace 0 (n - 1)) || decide (r.fLow < (-1000))) || decide (r.fHigh < r.fLow)) || decide (1000 < r.fHigh)
def badShipper (x : Network) (s : Shipper) : Bool := (!bet s.fPlace 0 ((x.fPlaces.length : Int) - 1)) || ((gt x.fPlaces s.fPlace).fKind != 4)
def badRail (r : RailwayInfo) : Bool := !okCal r.fCalendar || !okKey r.fKey
def badPool (x : Pool) : Bool :=
  ((((((x.fRailways.length : Int) == 0) || x.fReaders.any (badReader x.fNetwork.fPlaces.length)) || x.fShippers.any (badShipper x.fNetwork)) || x.fFleet.fWagons.any (fun w => decide ((x.fNetwork.fPlaces.length : Int) ≤ w.fHome))) ||
  x.fNetwork.fPlaces.any (fun p => decide ((x.fRailways.length : Int) ≤ p.fRailway) || decide ((x.fRailways.length : Int) ≤ p.fOther))) || x.fNetwork.fEdges.any (fun e => decide ((x.fRailways.length : Int) ≤ e.fRailway)) || x.fRailways.any badRail
def bigPool (x : Pool) : Bool := (decide (256 < (x.fReaders.length : Int)) || decide (256 < (x.fShippers.length : Int))) || decide (16 < (x.fRailways.length : Int))
/-- What CheckPool answers. -/
def chkPool (x : Pool) : Int := if chkNet x.fNetwork ≠ 0 then chkNet x.fNetwork else if chkFleet x.fFleet ≠ 0 then chkFleet x.fFleet else bif bigPool x then 2 else bif badPool x then 1 else 0
theorem fleet_CheckPool_eq (φ : Nat) (hφ : 800000 < φ) (x : Pool) : fleet_CheckPool φ x = some (chkPool x) := by
  unfold fleet_CheckPool chkPool
  rw [network_Check_eq _ (by omega), Option.bind_some]
  by_cases hn : chkNet x.fNetwork = 0
  case neg => rw [if_pos (by simp [hn]), if_pos hn]
  rw [if_neg (by simp [hn]), if_neg (fun e : chkNet x.fNetwork ≠ 0 => e hn), fleet_Check_eq _ (by omega), Option.bind_some]
  by_cases hf : chkFleet x.fFleet = 0
  case neg => rw [if_pos (by simp [hf]), if_pos hf]
  rw [if_neg (by simp [hf]), if_neg (fun e : chkFleet x.fFleet ≠ 0 => e hf)]
  cases hb : bigPool x with
  | true =>
    have e : (((decide (256 < (x.fReaders.length : Int)) || decide (256 < (x.fShippers.length : Int))) || decide (16 < (x.fRailways.length : Int)))) = bigPool x := rfl
    rw [e, hb]; rfl
  | false =>
    have hb' : ¬ (((decide (256 < (x.fReaders.length : Int)) || decide (256 < (x.fShippers.length : Int))) || decide (16 < (x.fRailways.length : Int))) = true) := by
      rw [show (((decide (256 < (x.fReaders.length : Int)) || decide (256 < (x.fShippers.length : Int))) || decide (16 < (x.fRailways.length : Int)))) = bigPool x from rfl, hb]; simp
    rw [if_neg hb']
    simp only [Bool.or_eq_true, decide_eq_true_eq, not_or] at hb'
    obtain ⟨n1, n2, _, _⟩ := chkNet_ok hn
    obtain ⟨f1, f2, _⟩ := chkFleet_ok hf
    have hp : W ((x.fNetwork.fPlaces.length : Int) - 1) = (x.fNetwork.fPlaces.length : Int) - 1 := W_id (by omega) (by omega)
    rw [loop_or (fleet_CheckPool_L114 φ x (fleet_CheckPool_j19 φ x)) (fleet_CheckPool_j19 φ x) x.fReaders (badReader x.fNetwork.fPlaces.length) ?_ ?_ φ _ (by omega)]
    rotate_left
    · intro n i s hi
      rw [fleet_CheckPool_L114, if_pos (by simp; omega), ck_pos ⟨by omega, by omega⟩, hp, W_id (by omega) (by omega)]
      unfold badReader
      cases s with
      | true => rw [gcall_f (by simp)]; rfl
      | false => rw [gcall_t rfl]; rfl
    · intro n s; rw [fleet_CheckPool_L114, if_neg (by simp)]
    unfold fleet_CheckPool_j19
    rw [loop_or (fleet_CheckPool_L90 φ x (fleet_CheckPool_j21 φ x)) (fleet_CheckPool_j21 φ x) x.fShippers (badShipper x.fNetwork) ?_ ?_ φ _ (by omega)]
    rotate_left
    · intro n i s hi
      rw [fleet_CheckPool_L90, if_pos (by simp; omega), ck_pos ⟨by omega, by omega⟩, hp, W_id (by omega) (by omega)]
      unfold badShipper
      cases s with
      | true => rw [gcall_f (by simp), Option.bind_some, ck_pos (by simp)]; rfl
      | false =>
        rw [gcall_t rfl, fleet_between_eq, Option.bind_some]
        cases hbt : bet (gt x.fShippers i).fPlace 0 ((x.fNetwork.fPlaces.length : Int) - 1) with
        | true => rw [ck_pos (fun _ => by have := bet_t hbt; omega)]; rfl
        | false => rw [ck_pos (by simp)]; rfl
    · intro n s; rw [fleet_CheckPool_L90, if_neg (by simp)]
    unfold fleet_CheckPool_j21
    rw [loop_or (fleet_CheckPool_L78 φ x (fleet_CheckPool_j23 φ x)) (fleet_CheckPool_j23 φ x) x.fFleet.fWagons (fun w => decide ((x.fNetwork.fPlaces.length : Int) ≤ w.fHome)) ?_ ?_ φ _ (by omega)]
    rotate_left
    · intro n i s hi
      rw [fleet_CheckPool_L78, if_pos (by simp; omega), ck_pos ⟨by omega, by omega⟩, W_id (by omega) (by omega)]
    · intro n s; rw [fleet_CheckPool_L78, if_neg (by simp)]
    unfold fleet_CheckPool_j23
    rw [loop_or (fleet_CheckPool_L62 φ x (fleet_CheckPool_j25 φ x)) (fleet_CheckPool_j25 φ x) x.fNetwork.fPlaces (fun p => decide ((x.fRailways.length : Int) ≤ p.fRailway) || decide ((x.fRailways.length : Int) ≤ p.fOther)) ?_ ?_ φ _ (by omega)]
    rotate_left
    · intro n i s hi
      rw [fleet_CheckPool_L62, if_pos (by simp; omega), ck_pos ⟨by omega, by omega⟩, W_id (by omega) (by omega), Bool.or_assoc]
    · intro n s; rw [fleet_CheckPool_L62, if_neg (by simp)]
    unfold fleet_CheckPool_j25
    rw [loop_or (fleet_CheckPool_L51 φ x (fleet_CheckPool_j27 φ x)) (fleet_CheckPool_j27 φ x) x.fNetwork.fEdges (fun e => decide ((x.fRailways.length : Int) ≤ e.fRailway)) ?_ ?_ φ _ (by omega)]
    rotate_left
    · intro n i s hi
      rw [fleet_CheckPool_L51, if_pos (by simp; omega), ck_pos ⟨by omega, by omega⟩, W_id (by omega) (by omega)]
    · intro n s; rw [fleet_CheckPool_L51, if_neg (by simp)]
    unfold fleet_CheckPool_j27
    rw [loop_or (fleet_CheckPool_L33 φ x (fleet_CheckPool_j29 φ)) (fleet_CheckPool_j29 φ) x.fRailways badRail ?_ ?_ φ _ (by omega)]
    rotate_left
    · intro n i s hi
      rw [fleet_CheckPool_L33, if_pos (by simp; omega), ck_pos ⟨by omega, by omega⟩, W_id (by omega) (by omega)]
      unfold badRail
      cases s with
      | true => rw [gcall_f (by simp), Option.bind_some, gcall_f (by simp)]; rfl
      | false =>
        rw [gcall_t rfl, calendar_Check_eq _ hφ, Option.bind_some]
        cases okCal (gt x.fRailways i).fCalendar with
        | false => rw [gcall_f (by simp)]; rfl
        | true => rw [gcall_t (by simp), sign_Valid_eq _ (by omega)]; rfl
    · intro n s; rw [fleet_CheckPool_L33, if_neg (by simp)]
    show fleet_CheckPool_j29 φ (badPool x) = _
    unfold fleet_CheckPool_j29
    cases badPool x <;> rfl
theorem ref09_ends_eq (φ : Nat) (hφ : 800000 < φ) (x : Pool) (h1 : x.fNetwork.fPlaces.length ≤ 512) (h2 : x.fFleet.fWagons.length ≤ 4096) (h3 : x.fReaders.length ≤ 256) (h4 : x.fShippers.length ≤ 256) :
    ref09_ends φ x = some (!((x.fReaders.any (badReader x.fNetwork.fPlaces.length) || x.fShippers.any (badShipper x.fNetwork)) || x.fFleet.fWagons.any (fun w => decide ((x.fNetwork.fPlaces.length : Int) ≤ w.fHome)))) := by
  have hp : W ((x.fNetwork.fPlaces.length : Int) - 1) = (x.fNetwork.fPlaces.length : Int) - 1 := W_id (by omega) (by omega)
  unfold ref09_ends
  rw [loop_any (ref09_ends_L33 φ x (ref09_ends_j3 φ x)) (ref09_ends_j3 φ x) (some false) x.fReaders (badReader x.fNetwork.fPlaces.length) ?_ ?_ φ (by omega)]
  rotate_left
  · intro n i hi
    rw [ref09_ends_L33, if_pos (by simp; omega), ck_pos ⟨by omega, by omega⟩, hp, W_id (by omega) (by omega), ref09_within_eq, Option.bind_some]
    show (if badReader x.fNetwork.fPlaces.length (gt x.fReaders i) = true then some false else _) = _
    cases badReader x.fNetwork.fPlaces.length (gt x.fReaders i) <;> rfl
  · intro n; rw [ref09_ends_L33, if_neg (by simp)]
  unfold ref09_ends_j3
  rw [loop_any (ref09_ends_L12 φ x (ref09_ends_j4 φ x)) (ref09_ends_j4 φ x) (some false) x.fShippers (badShipper x.fNetwork) ?_ ?_ φ (by omega)]
  rotate_left
  · intro n i hi
    rw [ref09_ends_L12, if_pos (by simp; omega), ck_pos ⟨by omega, by omega⟩, hp, W_id (by omega) (by omega), ref09_within_eq, Option.bind_some, ck_pos (fun h => by
      simp only [Bool.not_eq_false'] at h
      have := bet_t h; omega)]
    show (if badShipper x.fNetwork (gt x.fShippers i) = true then some false else _) = _
    cases badShipper x.fNetwork (gt x.fShippers i) <;> rfl
  · intro n; rw [ref09_ends_L12, if_neg (by simp)]
  unfold ref09_ends_j4
  rw [loop_any (ref09_ends_L7 φ x (ref09_ends_j5 φ)) (ref09_ends_j5 φ) (some false) x.fFleet.fWagons (fun w => decide ((x.fNetwork.fPlaces.length : Int) ≤ w.fHome)) ?_ ?_ φ (by omega)]
  rotate_left
  · intro n i hi
    rw [ref09_ends_L7, if_pos (by simp; omega), ck_pos ⟨by omega, by omega⟩, W_id (by omega) (by omega)]
    cases decide ((x.fNetwork.fPlaces.length : Int) ≤ (gt x.fFleet.fWagons i).fHome) <;> rfl
  · intro n; rw [ref09_ends_L7, if_neg (by simp)]
  cases x.fReaders.any (badReader x.fNetwork.fPlaces.length) <;> cases x.fShippers.any (badShipper x.fNetwork) <;> cases x.fFleet.fWagons.any (fun w => decide ((x.fNetwork.fPlaces.length : Int) ≤ w.fHome)) <;> rfl
theorem ref09_roads_eq (φ : Nat) (hφ : 800000 < φ) (x : Pool) (h1 : x.fNetwork.fPlaces.length ≤ 512) (h2 : x.fNetwork.fEdges.length ≤ 2048) :
    ref09_roads φ x = some (!(x.fNetwork.fPlaces.any (fun p => decide ((x.fRailways.length : Int) ≤ p.fRailway) || decide ((x.fRailways.length : Int) ≤ p.fOther)) || x.fNetwork.fEdges.any (fun e => decide ((x.fRailways.length : Int) ≤ e.fRailway)))) := by
  unfold ref09_roads
  rw [loop_any (ref09_roads_L11 φ x (ref09_roads_j3 φ x)) (ref09_roads_j3 φ x) (some false) x.fNetwork.fPlaces (fun p => decide ((x.fRailways.length : Int) ≤ p.fRailway) || decide ((x.fRailways.length : Int) ≤ p.fOther)) ?_ ?_ φ (by omega)]
  rotate_left
  · intro n i hi
    rw [ref09_roads_L11, if_pos (by simp; omega), ck_pos ⟨by omega, by omega⟩, W_id (by omega) (by omega)]
    cases decide ((x.fRailways.length : Int) ≤ (gt x.fNetwork.fPlaces i).fRailway) || decide ((x.fRailways.length : Int) ≤ (gt x.fNetwork.fPlaces i).fOther) <;> rfl
  · intro n; rw [ref09_roads_L11, if_neg (by simp)]
  unfold ref09_roads_j3
  rw [loop_any (ref09_roads_L6 φ x (ref09_roads_j4 φ)) (ref09_roads_j4 φ) (some false) x.fNetwork.fEdges (fun e => decide ((x.fRailways.length : Int) ≤ e.fRailway)) ?_ ?_ φ (by omega)]
  rotate_left
  · intro n i hi
    rw [ref09_roads_L6, if_pos (by simp; omega), ck_pos ⟨by omega, by omega⟩, W_id (by omega) (by omega)]
    cases decide ((x.fRailways.length : Int) ≤ (gt x.fNetwork.fEdges i).fRailway) <;> rfl
  · intro n; rw [ref09_roads_L6, if_neg (by simp)]
  cases x.fNetwork.fPlaces.any (fun p => decide ((x.fRailways.length : Int) ≤ p.fRailway) || decide ((x.fRailways.length : Int) ≤ p.fOther)) <;> cases x.fNetwork.fEdges.any (fun e => decide ((x.fRailways.length : Int) ≤ e.fRailway)) <;> rfl
theorem ref09_CheckPool_eq (φ : Nat) (hφ : 800000 < φ) (x : Pool) : ref09_CheckPool φ x = some (chkPool x) := by
  unfold ref09_CheckPool chkPool
  rw [ref08_Check_eq _ (by omega), Option.bind_some]
  by_cases hn : chkNet x.fNetwork = 0
  case neg => rw [if_pos (by simp [hn]), if_pos hn]
  rw [if_neg (by simp [hn]), if_neg (fun e : chkNet x.fNetwork ≠ 0 => e hn), ref09_Check_eq _ (by omega), Option.bind_some]
  by_cases hf : chkFleet x.fFleet = 0
  case neg => rw [if_pos (by simp [hf]), if_pos hf]
  rw [if_neg (by simp [hf]), if_neg (fun e : chkFleet x.fFleet ≠ 0 => e hf)]
  cases hb : bigPool x with
  | true =>
    have e : (((decide (256 < (x.fReaders.length : Int)) || decide (256 < (x.fShippers.length : Int))) || decide (16 < (x.fRailways.length : Int)))) = bigPool x := rfl
    rw [e, hb]; rfl
  | false =>
    have hb' : ¬ (((decide (256 < (x.fReaders.length : Int)) || decide (256 < (x.fShippers.length : Int))) || decide (16 < (x.fRailways.length : Int))) = true) := by
      rw [show (((decide (256 < (x.fReaders.length : Int)) || decide (256 < (x.fShippers.length : Int))) || decide (16 < (x.fRailways.length : Int)))) = bigPool x from rfl, hb]; simp
    rw [if_neg hb']
    simp only [Bool.or_eq_true, decide_eq_true_eq, not_or] at hb'
    obtain ⟨n1, n2, _, _⟩ := chkNet_ok hn
    obtain ⟨f1, f2, _⟩ := chkFleet_ok hf
    rw [ref09_ends_eq φ hφ _ n1 f2 (by omega) (by omega), Option.bind_some, ref09_roads_eq φ hφ _ n1 n2]
    have hL : ref09_CheckPool_L28 φ x (ref09_CheckPool_j25 φ x) φ 0 = bif x.fRailways.any badRail then some 1 else ref09_CheckPool_j25 φ x := by
      refine loop_any (ref09_CheckPool_L28 φ x (ref09_CheckPool_j25 φ x)) (ref09_CheckPool_j25 φ x) (some 1) x.fRailways badRail ?_ ?_ φ (by omega)
      · intro n i hi
        rw [ref09_CheckPool_L28, if_pos (by simp; omega), ck_pos ⟨by omega, by omega⟩, W_id (by omega) (by omega), ref06_Check_eq _ hφ, Option.bind_some]
        unfold badRail
        cases okCal (gt x.fRailways i).fCalendar with
        | false => rw [gcall_f (by simp)]; rfl
        | true =>
          rw [gcall_t (by simp), ref03_Valid_eq _ (by omega), Option.bind_some]
          cases okKey (gt x.fRailways i).fKey <;> rfl
      · intro n; rw [ref09_CheckPool_L28, if_neg (by simp)]
    rw [hL]
    unfold ref09_CheckPool_j25 badPool
    cases x.fReaders.any (badReader x.fNetwork.fPlaces.length) <;> cases x.fShippers.any (badShipper x.fNetwork) <;> cases x.fFleet.fWagons.any (fun w => decide ((x.fNetwork.fPlaces.length : Int) ≤ w.fHome)) <;>
      cases x.fNetwork.fPlaces.any (fun p => decide ((x.fRailways.length : Int) ≤ p.fRailway) || decide ((x.fRailways.length : Int) ≤ p.fOther)) <;> cases x.fNetwork.fEdges.any (fun e => decide ((x.fRailways.length : Int) ≤ e.fRailway)) <;>
      cases x.fRailways.any badRail <;> cases ((x.fRailways.length : Int) == 0) <;> rfl
theorem fleetMatchesPool_true (x : Pool) (hx : RPool x) : ∃ φ, law09_FleetMatchesPool φ x = some true := by
  refine ⟨1000000 + x.fRailways.length, ?_⟩
  have h8 : 800000 < 1000000 + x.fRailways.length := by omega
  have hlen : x.fRailways.length ≤ maxLen := hx.2.2.2.2.1.2
  unfold law09_FleetMatchesPool
  rw [sane_any _ (by omega), Option.bind_some, if_neg (by simp)]
  obtain ⟨b, hb, _⟩ := law09_few_eq (1000000 + x.fRailways.length) x.fFleet
  rw [hb, Option.bind_some]
  split
  · rfl
  · refine loop_up0 (fun n i (_ : Unit) => law09_FleetMatchesPool_L39 (1000000 + x.fRailways.length) x (law09_FleetMatchesPool_j35 (1000000 + x.fRailways.length) x) n i) x.fRailways.length (fun _ _ => True) (fun o => o = some true) ?_ ?_ _ () trivial (by omega)
    · intro n i _ hi _ hs
      rw [law09_FleetMatchesPool_L39, if_pos (by simp; omega), ck_pos ⟨by omega, by omega⟩, W_up hlen hi]
      split
      · rfl
      · exact hs () trivial
    · intro n _ _
      rw [law09_FleetMatchesPool_L39, if_neg (by simp)]
      unfold law09_FleetMatchesPool_j35
      rw [fleet_CheckPool_eq _ h8, ref09_CheckPool_eq _ h8]
      simp
end Px
