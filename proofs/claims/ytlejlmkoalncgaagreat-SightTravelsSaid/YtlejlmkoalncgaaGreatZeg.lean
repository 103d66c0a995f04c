/- A part of the proof of sightTravels_holds. Conditions: none. -/
import Derived.Test.YtlejlmkoalncgaaGreatZef
section
namespace Px
open Go
set_option linter.unusedVariables false
set_option linter.unusedSimpArgs false
theorem ztm (φ : Nat) (hφ : 800000 < φ) (x : z2) (a b : z0b) : ∃ t, z3c φ x a b = some (t, ()) ∧ 0 ≤ t ∧ t ≤ 1073741825 := by
  unfold z3c
  split
  · exact ⟨_, rfl, by omega, by omega⟩
  · obtain ⟨t, e, h, h1, h2⟩ := zfg φ hφ x a.place b.place
    rw [h, Option.bind_some]
    split
    · exact ⟨_, rfl, by omega, by omega⟩
    · exact ⟨_, rfl, h1, by omega⟩
/-- The least travel time as Build takes it. -/
def tvl (φ : Nat) (x : z2) (a b : z0b) : Int := ((z3c φ x a b).getD default).1
theorem zz3 (φ : Nat) (hφ : 800000 < φ) (x : z2) (a b : z0b) : z3c φ x a b = some (tvl φ x a b, ()) ∧ 0 ≤ tvl φ x a b ∧ tvl φ x a b ≤ 1073741825 := by
  obtain ⟨t, h, h1, h2⟩ := ztm φ hφ x a b
  unfold tvl
  rw [h]
  exact ⟨rfl, h1, h2⟩
def y0 : Nat → Ref := fun _ => (default : Ref)
def y1 (r : Ref) : Nat → Ref := upd (fun _ => (default : Ref)) 0 r
def y2 (r q : Ref) : Nat → Ref := upd (upd (fun _ => (default : Ref)) 0 r) 1 q
/-- Which readers are used. -/
def zr7 (m : List (Int × Int)) (e : z1) : List (Int × Int) := if 0 ≤ e.reader then mset m e.reader 0 else m
def ziz (m : List (Int × Int)) (t : List z1) : List (Int × Int) := t.foldl zr7 m
def used (ts : List (List z1)) : List (Int × Int) := ts.foldl ziz []
/-- What is built. -/
structure BS where
  v : Int
  b : List z8
  y : List (Nat → Ref)
  e : List z0u
structure RS where
  v : Int
  m : List (Int × Int)
  b : List z8
  y : List (Nat → Ref)
def znh (rs : List z21) (i : Nat) (s : RS) : RS :=
  if (mget s.m (i : Int)).isSome = true then ⟨s.v + 1, mset s.m (i : Int) s.v, s.b ++ [⟨0, s.v, 0 - (gt rs (i : Int)).low⟩, ⟨s.v, 0, (gt rs (i : Int)).high⟩], s.y ++ [y0, y0]⟩ else s
def rdsN (rs : List z21) (m : List (Int × Int)) : Nat → RS
  | 0 => ⟨1, m, [], []⟩
  | n + 1 => znh rs n (rdsN rs m n)
def rv (m : List (Int × Int)) (e : z1) : Int := (mget m e.reader).getD default
def evB (m : List (Int × Int)) (v : Int) (e : z1) : List z8 :=
  if e.reader < 0 then [⟨0, v, e.visit.early⟩, ⟨v, 0, 0 - e.visit.early⟩]
  else [⟨rv m e, v, e.visit.early⟩, ⟨v, rv m e, 0 - e.visit.early⟩, ⟨0, v, 1073741824⟩, ⟨v, 0, 0⟩]
def evY (e : z1) : List (Nat → Ref) := List.replicate (if e.reader < 0 then 2 else 4) (y1 e.visit.ref)
def trB (tv : z0b → z0b → Int) (v : Int) (pr : Option z0b) (e : z1) : List z8 :=
  match pr with
  | none => []
  | some a => [⟨v, v - 1, 0 - tv a e.visit⟩]
def trY (pr : Option z0b) (e : z1) : List (Nat → Ref) :=
  match pr with
  | none => []
  | some a => [y2 a.ref e.visit.ref]
def zit (tv : z0b → z0b → Int) (m : List (Int × Int)) (pr : Option z0b) (e : z1) (s : BS) : BS :=
  ⟨s.v + 1, s.b ++ evB m s.v e ++ trB tv s.v pr e, s.y ++ evY e ++ trY pr e, s.e ++ [⟨e.visit.wagon, e.visit.place, s.v, e.visit.ref, e.visit.stay⟩]⟩
def bEv (tv : z0b → z0b → Int) (m : List (Int × Int)) : Option z0b → List z1 → BS → BS
  | _, [], s => s
  | pr, e :: t, s => bEv tv m (some e.visit) t (zit tv m pr e s)
def bAll (tv : z0b → z0b → Int) (rs : List z21) (ts : List (List z1)) : BS :=
  ts.foldl (fun s t => bEv tv (rdsN rs (used ts) rs.length).m none t s) ⟨(rdsN rs (used ts) rs.length).v, (rdsN rs (used ts) rs.length).b, (rdsN rs (used ts) rs.length).y, []⟩
def bEnd (s : BS) : z05 × Int × Unit := if 512 < s.v ∨ 4096 < s.b.length then (⟨0, [], [], []⟩, 2, ()) else (⟨s.v, s.b, s.y, s.e⟩, 0, ())
def z01 (p : Pool) (l : List zc) : List (List z1) := (List.range p.fleet.wagons.length).map fun (w : Nat) => zbg p l (w : Int)
theorem z9s (rs : List z21) (m : List (Int × Int)) : ∀ n, 1 ≤ (rdsN rs m n).v ∧ (rdsN rs m n).v ≤ 1 + n ∧ (rdsN rs m n).b.length ≤ 2 * n ∧ (rdsN rs m n).y.length ≤ 2 * n
  | 0 => ⟨by simp [rdsN], by simp [rdsN], by simp [rdsN], by simp [rdsN]⟩
  | n + 1 => by
    obtain ⟨h1, h2, h3, h4⟩ := z9s rs m n
    simp only [rdsN, znh]
    split
    · refine ⟨?_, ?_, ?_, ?_⟩ <;> simp <;> omega
    · refine ⟨?_, ?_, ?_, ?_⟩ <;> omega
theorem y00 (m : List (Int × Int)) (v : Int) (e : z1) : (evB m v e).length ≤ 4 := by
  unfold evB; split <;> simp
theorem y02 (e : z1) : (evY e).length ≤ 4 := by
  unfold evY; split <;> simp
theorem y0m (tv : z0b → z0b → Int) (v : Int) (pr : Option z0b) (e : z1) : (trB tv v pr e).length ≤ 1 := by
  cases pr <;> simp [trB]
theorem y0l (pr : Option z0b) (e : z1) : (trY pr e).length ≤ 1 := by
  cases pr <;> simp [trY]
/-- How much there is. -/
structure BB (n : Nat) (s : BS) : Prop where
  v0 : 1 ≤ s.v
  v1 : s.v ≤ 257 + n
  b : s.b.length ≤ 512 + 5 * n
  y : s.y.length ≤ 512 + 5 * n
  e : s.e.length ≤ n
theorem BB.step {n : Nat} {s : BS} (h : BB n s) (tv m pr e) : BB (n + 1) (zit tv m pr e s) := by
  have h1 := y00 m s.v e
  have h2 := y02 e
  have h3 := y0m tv s.v pr e
  have h4 := y0l pr e
  obtain ⟨a, b, c, d, f⟩ := h
  unfold zit
  constructor
  · show 1 ≤ s.v + 1; omega
  · show s.v + 1 ≤ 257 + ((n + 1 : Nat) : Int); omega
  · show (s.b ++ evB m s.v e ++ trB tv s.v pr e).length ≤ _
    rw [List.length_append, List.length_append]; omega
  · show (s.y ++ evY e ++ trY pr e).length ≤ _
    rw [List.length_append, List.length_append]; omega
  · show (s.e ++ [_]).length ≤ _
    rw [List.length_append]; simp; omega
theorem BB.ev (tv m) : ∀ (t : List z1) (n : Nat) (pr : Option z0b) (s : BS), BB n s → BB (n + t.length) (bEv tv m pr t s)
  | [], n, pr, s, h => h
  | e :: t, n, pr, s, h => by
    have := BB.ev tv m t (n + 1) (some e.visit) (zit tv m pr e s) (h.step tv m pr e)
    rw [show n + (e :: t).length = n + 1 + t.length by simp; omega]
    exact this
section
variable (φ : Nat)
/-- The two bounds of a reader. -/
theorem y5b (hφ : 10 < φ) (k) (x55 x56 x57 x58 x59 x60 x61 x62 x63 x64 x65 x66 x67 x68) (B : List z8) (x70 x71 x72 x73) (b : List z8) (y : List (Nat → Ref)) (x76 x77 x78 x79) (hB : B.length ≤ 4) (hb : b.length ≤ 50000000) (hy : y.length ≤ 50000000) :
    z1r φ k φ (B.length : Int) 0 x55 x56 x57 x58 x59 x60 x61 x62 x63 x64 x65 x66 x67 x68 B x70 x71 x72 x73 b y x76 x77 x78 x79 = k x55 x56 x57 (W (x58 + 1)) x70 x71 (W (x67 + 1)) x72 x77 x78 x79 (b ++ B) (y ++ List.replicate B.length x68) x76 := by
  refine zy (fun n i (s : List z8 × List (Nat → Ref)) => z1r φ k n (B.length : Int) i x55 x56 x57 x58 x59 x60 x61 x62 x63 x64 x65 x66 x67 x68 B x70 x71 x72 x73 s.1 s.2 x76 x77 x78 x79) B.length (fun i s => s.1 = b ++ B.take i ∧ s.2 = y ++ List.replicate i x68) (fun o => o = k x55 x56 x57 (W (x58 + 1)) x70 x71 (W (x67 + 1)) x72 x77 x78 x79 (b ++ B) (y ++ List.replicate B.length x68) x76) ?_ ?_ φ (b, y) ⟨by simp, by simp⟩ (by omega)
  · intro n i s hi ⟨h1, h2⟩ hs
    rw [z1r, if_pos (by simp; omega), z6 ⟨by omega, by omega⟩, z6 (zdb (by rw [h1]; simp; omega) (by omega)), z6 (zdb (by rw [h2]; simp; omega) (by omega)), W_id (by omega) (by omega)]
    exact hs (_, _) ⟨by rw [h1, z17 B i hi, List.append_assoc], by rw [h2, List.replicate_succ', List.append_assoc]⟩
  · intro n s ⟨h1, h2⟩
    rw [z1r, if_neg (by simp), h1, h2, List.take_length]
theorem y3r (hφ : 10 < φ) (k) (x137 x138 x139 x140 x141 x142 x143 x144 x145 x146 x147 x148 x149 x150 x151 x152 x153 x154 x155 x156 x157) (B : List z8) (x159 x160 x161 x162 x163) (b : List z8) (y : List (Nat → Ref)) (x166 x167 x168 x169) (hB : B.length ≤ 4) (hb : b.length ≤ 50000000) (hy : y.length ≤ 50000000) :
    z1f φ k φ (B.length : Int) 0 x137 x138 x139 x140 x141 x142 x143 x144 x145 x146 x147 x148 x149 x150 x151 x152 x153 x154 x155 x156 x157 B x159 x160 x161 x162 x163 b y x166 x167 x168 x169 = k x137 x138 x139 x140 x141 x142 (W (x143 + 1)) x159 x160 x156 x161 x167 x168 x169 (b ++ B) (y ++ List.replicate B.length x157) x166 := by
  refine zy (fun n i (s : List z8 × List (Nat → Ref)) => z1f φ k n (B.length : Int) i x137 x138 x139 x140 x141 x142 x143 x144 x145 x146 x147 x148 x149 x150 x151 x152 x153 x154 x155 x156 x157 B x159 x160 x161 x162 x163 s.1 s.2 x166 x167 x168 x169) B.length (fun i s => s.1 = b ++ B.take i ∧ s.2 = y ++ List.replicate i x157) (fun o => o = k x137 x138 x139 x140 x141 x142 (W (x143 + 1)) x159 x160 x156 x161 x167 x168 x169 (b ++ B) (y ++ List.replicate B.length x157) x166) ?_ ?_ φ (b, y) ⟨by simp, by simp⟩ (by omega)
  · intro n i s hi ⟨h1, h2⟩ hs
    rw [z1f, if_pos (by simp; omega), z6 ⟨by omega, by omega⟩, z6 (zdb (by rw [h1]; simp; omega) (by omega)), z6 (zdb (by rw [h2]; simp; omega) (by omega)), W_id (by omega) (by omega)]
    exact hs (_, _) ⟨by rw [h1, z17 B i hi, List.append_assoc], by rw [h2, List.replicate_succ', List.append_assoc]⟩
  · intro n s ⟨h1, h2⟩
    rw [z1f, if_neg (by simp), h1, h2, List.take_length]
theorem y3o (hφ : 10 < φ) (k) (x173 x174 x175 x176 x177 x178 x179 x180 x181 x182 x183) (B : List z8) (x185 x186 x187 x188) (b : List z8) (y : List (Nat → Ref)) (x191 x192 x193 x194) (hB : B.length ≤ 4) (hb : b.length ≤ 50000000) (hy : y.length ≤ 50000000) :
    z1e φ k φ (B.length : Int) 0 x173 x174 x175 x176 x177 x178 x179 x180 x181 x182 x183 B x185 x186 x187 x188 b y x191 x192 x193 x194 = z0f φ k x173 x174 x175 x176 x177 x178 x179 x180 x181 x185 x186 x182 x187 x188 x192 x193 x194 (b ++ B) (y ++ List.replicate B.length x183) x191 := by
  refine zy (fun n i (s : List z8 × List (Nat → Ref)) => z1e φ k n (B.length : Int) i x173 x174 x175 x176 x177 x178 x179 x180 x181 x182 x183 B x185 x186 x187 x188 s.1 s.2 x191 x192 x193 x194) B.length (fun i s => s.1 = b ++ B.take i ∧ s.2 = y ++ List.replicate i x183) (fun o => o = z0f φ k x173 x174 x175 x176 x177 x178 x179 x180 x181 x185 x186 x182 x187 x188 x192 x193 x194 (b ++ B) (y ++ List.replicate B.length x183) x191) ?_ ?_ φ (b, y) ⟨by simp, by simp⟩ (by omega)
  · intro n i s hi ⟨h1, h2⟩ hs
    rw [z1e, if_pos (by simp; omega), z6 ⟨by omega, by omega⟩, z6 (zdb (by rw [h1]; simp; omega) (by omega)), z6 (zdb (by rw [h2]; simp; omega) (by omega)), W_id (by omega) (by omega)]
    exact hs (_, _) ⟨by rw [h1, z17 B i hi, List.append_assoc], by rw [h2, List.replicate_succ', List.append_assoc]⟩
  · intro n s ⟨h1, h2⟩
    rw [z1e, if_neg (by simp), h1, h2, List.take_length]
theorem y2e (hφ : 10 < φ) (k) (x173 x174 x175 x176 x177 x178 x179 x180 x181 x182 x183) (B : List z8) (x185 x186 x187 x188) (b : List z8) (y : List (Nat → Ref)) (x191 x192 x193 x194) (hB : B.length ≤ 4) (hb : b.length ≤ 50000000) (hy : y.length ≤ 50000000) :
    z1g φ k φ (B.length : Int) 0 x173 x174 x175 x176 x177 x178 x179 x180 x181 x182 x183 B x185 x186 x187 x188 b y x191 x192 x193 x194 = z0f φ k x173 x174 x175 x176 x177 x178 x179 x180 x181 x185 x186 x182 x187 x188 x192 x193 x194 (b ++ B) (y ++ List.replicate B.length x183) x191 := by
  refine zy (fun n i (s : List z8 × List (Nat → Ref)) => z1g φ k n (B.length : Int) i x173 x174 x175 x176 x177 x178 x179 x180 x181 x182 x183 B x185 x186 x187 x188 s.1 s.2 x191 x192 x193 x194) B.length (fun i s => s.1 = b ++ B.take i ∧ s.2 = y ++ List.replicate i x183) (fun o => o = z0f φ k x173 x174 x175 x176 x177 x178 x179 x180 x181 x185 x186 x182 x187 x188 x192 x193 x194 (b ++ B) (y ++ List.replicate B.length x183) x191) ?_ ?_ φ (b, y) ⟨by simp, by simp⟩ (by omega)
  · intro n i s hi ⟨h1, h2⟩ hs
    rw [z1g, if_pos (by simp; omega), z6 ⟨by omega, by omega⟩, z6 (zdb (by rw [h1]; simp; omega) (by omega)), z6 (zdb (by rw [h2]; simp; omega) (by omega)), W_id (by omega) (by omega)]
    exact hs (_, _) ⟨by rw [h1, z17 B i hi, List.append_assoc], by rw [h2, List.replicate_succ', List.append_assoc]⟩
  · intro n s ⟨h1, h2⟩
    rw [z1g, if_neg (by simp), h1, h2, List.take_length]
/-- The travel zaq and what follows it. -/
theorem ztv (hφ : 800000 < φ) (k) (T : List z1) (n : Nat) (hn : n < T.length) (x115 x116 x117 x118 x119 x120) (x122 : Pool) (x123 : Int) (x125 : List (Int × Int)) (e : z1) (pr : Option z0b) (hpr : pr = if 0 < n then some (gt T ((n : Int) - 1)).visit else none) (x127 x128 x129) (b : List z8) (y : List (Nat → Ref)) (x132) (hb : b.length ≤ 50000000) (hy : y.length ≤ 50000000) (h15 : 0 ≤ x115 ∧ x115 ≤ 100000000) (hT : n ≤ 100000000) :
    z0f φ k T (n : Int) x115 x116 x117 x118 x119 x120 (n : Int) x122 x123 (x115 + 1) x125 e x127 x128 x129 b y x132 =
      k T x116 x117 x118 x119 x120 ((n + 1 : Nat) : Int) x122 x123 (x115 + 1) x125 x127 x128 x129 (b ++ trB (tvl φ x122.network) x115 pr e) (y ++ trY pr e) x132 := by
  have hW : W ((n : Int) + 1) = ((n + 1 : Nat) : Int) := by rw [W_id (by omega) (by omega)]; omega
  unfold z0f
  by_cases h : 0 < n
  · obtain ⟨ht, t1, t2⟩ := zz3 φ hφ x122.network (gt T ((n : Int) - 1)).visit e.visit
    rw [if_pos (by simp; omega), W_id (x := (n : Int) - 1) (by omega) (by omega), z6 ⟨by omega, by omega⟩, ht, Option.bind_some, W_id (x := x115 - 1) (by omega) (by omega)]
    rw [hpr, if_pos h]
    simp only [trB, trY]
    generalize tvl φ x122.network (gt T ((n : Int) - 1)).visit e.visit = tt at *
    rw [W_id (x := 0 - tt) (by omega) (by omega)]
    refine (y3r φ (by omega) k T x116 x117 x118 x119 x120 (n : Int) _ _ _ _ _ _ _ _ _ _ _ _ _ _ ([⟨x115, x115 - 1, 0 - tt⟩] : List z8) x122 x123 x125 _ _ b y x132 x127 x128 x129 (by simp) hb hy).trans ?_
    rw [hW]
    rfl
  · rw [if_neg (by simp; omega), hW, hpr, if_neg h]
    simp only [trB, trY, List.append_nil]
/-- One zbg. -/
theorem zs3 (hφ : 800000 < φ) (k) (x96 x97 x98) (T : List z1) (hE : ∀ e ∈ T, 0 ≤ e.visit.early ∧ e.visit.early ≤ 1073741824) (x102 : Pool) (x103 : Int) (m : List (Int × Int)) (g1 g2 g3) (hT : T.length ≤ 2000) :
    ∀ (n i N : Nat) (s : BS), T.length < n + i → i ≤ T.length → BB N s → N ≤ 8300000 + i →
      zw φ k n T x96 x97 x98 T (T.length : Int) (i : Int) x102 x103 s.v m g1 g2 g3 s.b s.y s.e =
        (fun s' : BS => k x96 x97 (W (x98 + 1)) x102 x103 s'.v m g1 g2 g3 s'.b s'.y s'.e) (bEv (tvl φ x102.network) m (if 0 < i then some (gt T ((i : Int) - 1)).visit else none) (T.drop i) s) := by
  intro n
  induction n with
  | zero => intro i N s h1 h2; exfalso; omega
  | succ n ih =>
    intro i N s h1 h2 hB hN
    obtain ⟨v0, v1, b1, b2, b3⟩ := hB
    by_cases hi : i < T.length
    · obtain ⟨e0, e1⟩ := hE _ (z6o (l := T) (i := (i : Int)) (by omega) (by omega))
      have hWv : W (s.v + 1) = s.v + 1 := W_id (by omega) (by omega)
      have hWe : W (0 - (gt T (i : Int)).visit.early) = 0 - (gt T (i : Int)).visit.early := W_id (by omega) (by omega)
      have hnext := ih (i + 1) (N + 1) (zit (tvl φ x102.network) m (if 0 < i then some (gt T ((i : Int) - 1)).visit else none) (gt T (i : Int)) s) (by omega) (by omega) (BB.step ⟨v0, v1, b1, b2, b3⟩ _ _ _ _) (by omega)
      rw [if_pos (show 0 < i + 1 by omega), show ((i + 1 : Nat) : Int) - 1 = (i : Int) by omega] at hnext
      rw [zu1 T i hi]
      refine Eq.trans ?_ hnext
      rw [zw, if_pos (by simp; omega), z6 ⟨by omega, by omega⟩, z6 (zdb (by simp; omega) (by omega)), hWv, hWe]
      by_cases hr : (gt T (i : Int)).reader < 0
      · rw [if_pos (by simpa using hr)]
        refine (y3o φ (by omega) (zw φ k n) T (i : Int) s.v x96 x97 x98 T (T.length : Int) (i : Int) (s.v + 1) (y1 (gt T (i : Int)).visit.ref) ([⟨0, s.v, (gt T (i : Int)).visit.early⟩, ⟨s.v, 0, 0 - (gt T (i : Int)).visit.early⟩] : List z8) x102 x103 m (gt T (i : Int)) s.b s.y _ g1 g2 g3 (by simp) (by omega) (by omega)).trans ?_
        refine (ztv φ hφ (zw φ k n) T i hi s.v x96 x97 x98 T (T.length : Int) x102 x103 m (gt T (i : Int)) _ rfl g1 g2 g3 _ _ _ (by simp; omega) (by simp; omega) ⟨by omega, by omega⟩ (by omega)).trans ?_
        simp only [zit, evB, evY, if_pos hr]
        rfl
      · rw [if_neg (by simpa using hr)]
        refine (y2e φ (by omega) (zw φ k n) T (i : Int) s.v x96 x97 x98 T (T.length : Int) (i : Int) (s.v + 1) (y1 (gt T (i : Int)).visit.ref) ([⟨rv m (gt T (i : Int)), s.v, (gt T (i : Int)).visit.early⟩, ⟨s.v, rv m (gt T (i : Int)), 0 - (gt T (i : Int)).visit.early⟩, ⟨0, s.v, 1073741824⟩, ⟨s.v, 0, 0⟩] : List z8) x102 x103 m (gt T (i : Int)) s.b s.y _ g1 g2 g3 (by simp) (by omega) (by omega)).trans ?_
        refine (ztv φ hφ (zw φ k n) T i hi s.v x96 x97 x98 T (T.length : Int) x102 x103 m (gt T (i : Int)) _ rfl g1 g2 g3 _ _ _ (by simp; omega) (by simp; omega) ⟨by omega, by omega⟩ (by omega)).trans ?_
        simp only [zit, evB, evY, if_neg hr]
        rfl
    · have : i = T.length := by omega
      subst this
      rw [zw, if_neg (by simp), List.drop_length]
      rfl
/-- All tracks. -/
theorem zo6 (hφ : 800000 < φ) (ts : List (List z1)) (hE : ∀ T ∈ ts, T.length ≤ 2000 ∧ ∀ e ∈ T, 0 ≤ e.visit.early ∧ e.visit.early ≤ 1073741824) (hts : ts.length ≤ 4096) (x84 : Pool) (x85 : Int) (m : List (Int × Int)) (g1 g2 g3) (s : BS) (hs : BB 0 s) :
    z13 φ φ ts (ts.length : Int) 0 x84 x85 s.v m g1 g2 g3 s.b s.y s.e = some (bEnd (ts.foldl (fun s t => bEv (tvl φ x84.network) m none t s) s)) := by
  refine zy (fun n i (s : BS) => z13 φ n ts (ts.length : Int) i x84 x85 s.v m g1 g2 g3 s.b s.y s.e) ts.length (fun i s' => BB (2000 * i) s' ∧ s' = (ts.take i).foldl (fun s t => bEv (tvl φ x84.network) m none t s) s) (fun o => o = some (bEnd (ts.foldl (fun s t => bEv (tvl φ x84.network) m none t s) s))) ?_ ?_ φ s ⟨hs, rfl⟩ (by omega)
  · intro n i s' hi ⟨h1, h2⟩ hk
    obtain ⟨q1, q2⟩ := hE _ (z6o (l := ts) (i := (i : Int)) (by omega) (by omega))
    rw [z13, if_pos (by simp; omega), z6 ⟨by omega, by omega⟩]
    have := zs3 φ hφ (z13 φ n) ts (ts.length : Int) (i : Int) (gt ts (i : Int)) q2 x84 x85 m g1 g2 g3 q1 φ 0 (2000 * i) s' (by omega) (by omega) h1 (by omega)
    refine this.trans ?_
    simp only [W_id (x := (i : Int) + 1) (by omega) (by omega), List.drop_zero]
    rw [if_neg (by omega)]
    refine hk _ ⟨?_, ?_⟩
    · have := BB.ev (tvl φ x84.network) m (gt ts (i : Int)) (2000 * i) none s' h1
      obtain ⟨a, b, c, d, f⟩ := this
      exact ⟨a, by omega, by omega, by omega, by omega⟩
    · rw [z17 ts i hi, List.foldl_append, ← h2]; rfl
  · intro n s' ⟨h1, h2⟩
    rw [List.take_length] at h2
    rw [z13, if_neg (by simp), ← h2]
    unfold bEnd
    by_cases h : 512 < s'.v ∨ 4096 < s'.b.length
    · rw [if_pos (by simp; omega), if_pos h]
    · rw [if_neg (by simp; omega), if_neg h]
/-- The readers. -/
theorem zm3 (hφ : 800000 < φ) (ts : List (List z1)) (hE : ∀ T ∈ ts, T.length ≤ 2000 ∧ ∀ e ∈ T, 0 ≤ e.visit.early ∧ e.visit.early ≤ 1073741824) (hts : ts.length ≤ 4096) (p : Pool) (hp : p.readers.length ≤ 256) (hr : ∀ r ∈ p.readers, -1000 ≤ r.low ∧ r.low ≤ 1000) (x43 : Int) (m : List (Int × Int)) (g1 g2) :
    z0q φ φ ts p.readers (p.readers.length : Int) 0 p x43 1 m g1 g2 [] [] [] [] = some (bEnd (ts.foldl (fun s t => bEv (tvl φ p.network) (rdsN p.readers m p.readers.length).m none t s) ⟨(rdsN p.readers m p.readers.length).v, (rdsN p.readers m p.readers.length).b, (rdsN p.readers m p.readers.length).y, []⟩)) := by
  refine zy (fun n i (s : RS) => z0q φ n ts p.readers (p.readers.length : Int) i p x43 s.v s.m g1 g2 [] s.b s.y []) p.readers.length (fun i s => s = rdsN p.readers m i) (fun o => o = _) ?_ ?_ φ ⟨1, m, [], []⟩ rfl (by omega)
  · intro n i s hi hs hk
    obtain ⟨a1, a2, a3, a4⟩ := z9s p.readers m i
    rw [← hs] at a1 a2 a3 a4
    obtain ⟨r1, r2⟩ := hr _ (z6o (l := p.readers) (i := (i : Int)) (by omega) (by omega))
    have hk' := hk (rdsN p.readers m (i + 1)) rfl
    simp only [rdsN, znh] at hk'
    rw [← hs] at hk'
    have hW : W ((i : Int) + 1) = (i : Int) + 1 := W_id (by omega) (by omega)
    rw [z0q, if_pos (by simp; omega), z6 ⟨by omega, by omega⟩]
    by_cases h : (mget s.m (i : Int)).isSome = true
    · rw [if_pos h] at hk' ⊢
      have hWl : W (0 - (gt p.readers (i : Int)).low) = 0 - (gt p.readers (i : Int)).low := W_id (by omega) (by omega)
      rw [hWl]
      refine (y5b φ (by omega) (z0q φ n) ts p.readers (p.readers.length : Int) (i : Int) _ _ _ _ _ _ _ _ _ _ ([⟨0, s.v, 0 - (gt p.readers (i : Int)).low⟩, ⟨s.v, 0, (gt p.readers (i : Int)).high⟩] : List z8) p x43 (mset s.m (i : Int) s.v) _ s.b s.y [] g1 g2 [] (by simp) (by omega) (by omega)).trans ?_
      rw [hW, W_id (x := s.v + 1) (by omega) (by omega)]
      exact hk'
    · rw [if_neg h] at hk' ⊢
      rw [hW]
      exact hk'
  · intro n s hs
    rw [z0q, if_neg (by simp), ← hs]
    obtain ⟨a1, a2, a3, a4⟩ := z9s p.readers m p.readers.length
    rw [← hs] at a1 a2 a3 a4
    exact zo6 φ hφ ts hE hts p x43 s.m g1 g2 [] ⟨s.v, s.b, s.y, []⟩ ⟨a1, by show s.v ≤ _; omega, by show s.b.length ≤ _; omega, by show s.y.length ≤ _; omega, by simp⟩
/-- One track's readers. -/
theorem zvr (k) (x20 x21 x22 x23) (T : List z1) (hT : T.length ≤ 2000) (hφ : 800000 < φ) (x27 x28 x29 x30 x31 x32 x33 x34 x35 x36) :
    z14 φ k φ x20 x21 x22 x23 T (T.length : Int) 0 x27 x28 x29 x30 x31 x32 x33 x34 x35 x36 = k x20 x21 x22 (W (x23 + 1)) x27 x28 x29 (ziz x30 T) x31 x32 x33 x34 x35 x36 := by
  refine zy (fun n i (m : List (Int × Int)) => z14 φ k n x20 x21 x22 x23 T (T.length : Int) i x27 x28 x29 m x31 x32 x33 x34 x35 x36) T.length (fun i m => m = ziz x30 (T.take i)) (fun o => o = _) ?_ ?_ φ x30 rfl (by omega)
  · intro n i m hi hm hk
    have hk' := hk (ziz x30 (T.take (i + 1))) rfl
    rw [z17 T i hi] at hk'
    simp only [ziz, List.foldl_append, List.foldl_cons, List.foldl_nil] at hk' hm
    rw [← hm] at hk'
    rw [z14, if_pos (by simp; omega), z6 ⟨by omega, by omega⟩, W_id (by omega) (by omega)]
    unfold zr7 at hk'
    by_cases h : 0 ≤ (gt T (i : Int)).reader
    · rw [if_pos h] at hk'
      rw [if_pos (by simpa using h)]
      exact hk'
    · rw [if_neg h] at hk'
      rw [if_neg (by simpa using h)]
      exact hk'
  · intro n m hm
    rw [List.take_length] at hm
    rw [z14, if_neg (by simp), hm]
theorem zva {p : Pool} {r : zc} (h : zpv p r.item) {i : Int} {x : z1} (hx : x ∈ evs p r i) : 0 ≤ x.visit.early ∧ x.visit.early ≤ 1073741824 := by
  have hf := h.from_
  have ht := h.to
  unfold evs at hx
  split at hx
  · simp only [List.mem_singleton] at hx; subst hx
    simp only [z57]; omega
  · split at hx
    · simp only [List.mem_cons, List.not_mem_nil, or_false] at hx
      rcases hx with rfl | rfl <;> simp only [z57] <;> omega
    · split at hx
      · simp only [List.mem_singleton] at hx; subst hx
        simp only [z57]; omega
      · cases hx
theorem zlt : ∀ {t : List z1} {m : List (Int × Bool)} {x : z1}, x ∈ zlb t m → ∃ y ∈ t, ∃ b, x = zf6 y b
  | [], m, x, h => by cases h
  | e :: t, m, x, h => by
    rcases List.mem_cons.1 h with rfl | h
    · exact ⟨e, List.mem_cons_self, _, rfl⟩
    · obtain ⟨y, hy, b, hb⟩ := zlt h
      exact ⟨y, List.mem_cons_of_mem _ hy, b, hb⟩
theorem zdu {p : Pool} {l : List zc} {w : Int} {x : z1} (h : x ∈ zbg p l w) : ∃ y ∈ uns p l w, ∃ b, x = zf6 y b := by
  obtain ⟨y, hy, b, hb⟩ := zlt h
  exact ⟨y, (z2h _ _).mem_iff.1 hy, b, hb⟩
theorem zm9 {p : Pool} (hc : z1w p = 0) {l : List zc} (hl : FewL l) {w : Int} {x : z1} (h : x ∈ zbg p l w) : 0 ≤ x.visit.early ∧ x.visit.early ≤ 1073741824 := by
  obtain ⟨y, hy, b, rfl⟩ := zdu h
  obtain ⟨h1, h2, _, h3, h4⟩ := zlr hl.len hy
  show 0 ≤ y.visit.early ∧ y.visit.early ≤ 1073741824
  exact zva (ze3 hc (hl.gt h1 h2) h3) h4
/-- What Build answers. -/
theorem zy0 (hφ : 800000 < φ) (p : Pool) {l : List zc} (hl : FewL l) :
    z64 φ p l = some (if z1w p = 0 then bEnd (bAll (tvl φ p.network) p.readers (z01 p l)) else (⟨0, [], [], []⟩, z1w p, ())) := by
  unfold z64
  rw [z8k φ hφ, Option.bind_some]
  by_cases hc : z1w p = 0
  case neg => rw [if_pos (by simpa using hc), if_neg hc]
  rw [if_neg (by simp [hc]), if_pos hc, zuc φ hφ hc hl, Option.bind_some]
  obtain ⟨_, hf, hr1, _⟩ := zc2 hc
  obtain ⟨_, f2, _⟩ := z82 hf
  have hrd := (zjc hc).1
  show z15 φ φ (z01 p l) (z01 p l) ((z01 p l).length : Int) 0 p 0 1 [] [] [] [] [] [] [] = _
  have hlen : (z01 p l).length ≤ 4096 := by unfold z01; simp; omega
  have hE : ∀ T ∈ z01 p l, T.length ≤ 2000 ∧ ∀ e ∈ T, 0 ≤ e.visit.early ∧ e.visit.early ≤ 1073741824 := by
    intro T hT
    unfold z01 at hT
    obtain ⟨w, _, rfl⟩ := List.mem_map.1 hT
    exact ⟨zvm hl.len _, fun e he => zm9 hc hl he⟩
  generalize z01 p l = ts at *
  refine zy (fun n i (m : List (Int × Int)) => z15 φ n ts ts (ts.length : Int) i p 0 1 m [] [] [] [] [] []) ts.length (fun i m => m = (ts.take i).foldl ziz []) (fun o => o = some (bEnd (bAll (tvl φ p.network) p.readers ts))) ?_ ?_ φ [] rfl (by omega)
  · intro n i m hi hm hk
    rw [z15, if_pos (by simp; omega), z6 ⟨by omega, by omega⟩]
    rw [zvr φ (z15 φ n) ts ts (ts.length : Int) (i : Int) (gt ts (i : Int)) (hE _ (z6o (by omega) (by omega))).1 hφ, W_id (by omega) (by omega)]
    exact hk _ (by rw [z17 ts i hi, List.foldl_append, ← hm]; rfl)
  · intro n m hm
    rw [List.take_length] at hm
    rw [z15, if_neg (by simp)]
    refine (zm3 φ hφ ts hE hlen p hr1 (fun r hr => ?_) 0 m [] []).trans ?_
    · have := hrd r hr; omega
    · rw [hm]; rfl
end
end Px
end
section
namespace Px
open Go
set_option linter.unusedVariables false
set_option linter.unusedSimpArgs false
/-- All Refs are different. -/
def zid (l : List zc) : Prop := l.Pairwise fun a b => a.ref ≠ b.ref
/-- The first report with a Ref. -/
def idx : List zc → Ref → Int
  | [], _ => 0
  | r :: l, q => if r.ref.railway = q.railway ∧ r.ref.no = q.no then 0 else idx l q + 1
theorem zzj {a b : Ref} : a = b ↔ a.railway = b.railway ∧ a.no = b.no := by
  cases a; cases b; simp
theorem zsi : ∀ {l : List zc}, zid l → ∀ i : Nat, i < l.length → idx l (gt l (i : Int)).ref = (i : Int)
  | [], h, i, hi => by simp at hi
  | r :: l, h, 0, hi => by
    show idx (r :: l) r.ref = 0
    simp [idx]
  | r :: l, h, i + 1, hi => by
    have hi' : i < l.length := by simpa using hi
    have e : gt (r :: l) ((i + 1 : Nat) : Int) = gt l (i : Int) := by
      rw [z7s hi, z7s hi']; rfl
    have h' := List.pairwise_cons.1 h
    rw [e]
    unfold idx
    rw [if_neg (fun q => h'.1 (gt l (i : Int)) (z6o (by omega) (by omega)) (zzj.2 q)), zsi h'.2 i hi']
    omega
theorem zlp (φ : Nat) (hφ : 2000 < φ) (l : List zc) (hl : l.length ≤ 1000) : ∃ b, z5g φ l = some (b, ()) ∧ (b = true → zid l) := by
  have key : (∀ i j : Nat, j < i → i < l.length → (gt l (i : Int)).ref ≠ (gt l (j : Int)).ref) → zid l := by
    intro h
    unfold zid
    rw [List.pairwise_iff_getElem]
    intro i j hi hj hij e
    refine h j i hij hj ?_
    rw [z7s hi, z7s hj, e]
  unfold z5g
  refine zy (fun n i (_ : Unit) => z0r φ n l i) l.length (fun n _ => ∀ i j : Nat, j < i → i < n → (gt l (i : Int)).ref ≠ (gt l (j : Int)).ref) (fun o => ∃ b, o = some (b, ()) ∧ (b = true → zid l)) ?_ ?_ φ () (fun i j h1 h2 => by omega) (by omega)
  · intro n i _ hi hI hk
    rw [z0r, if_pos (by simp; omega)]
    refine zy (fun m j (_ : Unit) => z19 φ (z0r φ n) m l (i : Int) j) i (fun j _ => ∀ j' : Nat, j' < j → (gt l (i : Int)).ref ≠ (gt l (j' : Int)).ref) (fun o => ∃ b, o = some (b, ()) ∧ (b = true → zid l)) ?_ ?_ φ () (fun j h1 => by omega) (by omega)
    · intro m j _ hj hJ hs
      rw [z19, if_pos (by simp; omega), z6 ⟨by omega, by omega⟩, z6 ⟨by omega, by omega⟩, W_id (by omega) (by omega)]
      split
      · exact ⟨false, rfl, fun h => by cases h⟩
      · rename_i hne
        refine hs () fun j' hj' => ?_
        by_cases e : j' = j
        · subst e
          intro q
          exact hne (by rw [q]; simp)
        · exact hJ j' (by omega)
    · intro m _ hJ
      rw [z19, if_neg (by simp), W_id (by omega) (by omega)]
      refine hk () fun i' j' h1 h2 => ?_
      by_cases e : i' = i
      · subst e; exact hJ j' h1
      · exact hI i' j' h1 (by omega)
  · intro n _ hI
    rw [z0r, if_neg (by simp)]
    exact ⟨true, rfl, fun _ => key fun i j h1 h2 => hI i j h1 h2⟩
end Px
end
section
namespace Px
set_option linter.unusedVariables false
namespace BF
section
variable {β : Type} (si sj : β → Nat) (sw : β → Int)
abbrev X := Nat → Option Int
def ltO (a : Int) : Option Int → Bool
  | none => true
  | some b => decide (a < b)
def imp (x : X) (b : β) : Bool := match x (si b) with
  | none => false
  | some a => ltO (a + sw b) (x (sj b))
def rlx (x : X) (b : β) : X := match x (si b) with
  | none => x
  | some a => if ltO (a + sw b) (x (sj b)) = true then fun v => if v = sj b then some (a + sw b) else x v else x
def rnd (L : List β) (x : X) : X := L.foldl (rlx si sj sw) x
def rnds (L : List β) (x : X) : Nat → X
  | 0 => x
  | n + 1 => rnd si sj sw L (rnds L x n)
/-- Walks: their length, their end, their sum. -/
inductive Wk (x0 : X) (L : List β) : Nat → Nat → Int → Prop where
  | nil {v : Nat} {c : Int} : x0 v = some c → Wk x0 L 0 v c
  | step {m : Nat} {c : Int} {b : β} : Wk x0 L m (si b) c → b ∈ L → Wk x0 L (m + 1) (sj b) (c + sw b)
def le (o : Option Int) (c : Int) : Prop := ∃ a, o = some a ∧ a ≤ c
variable {si sj sw}
theorem rlx_not {x : X} {b : β} (h : imp si sj sw x b = false) : rlx si sj sw x b = x := by
  unfold imp at h; unfold rlx
  cases hx : x (si b) with
  | none => rfl
  | some a => rw [hx] at h; simp only at h ⊢; rw [if_neg (by rw [h]; simp)]
theorem rlx_imp {x : X} {b : β} (h : imp si sj sw x b = true) : ∃ a, x (si b) = some a ∧ ltO (a + sw b) (x (sj b)) = true ∧ rlx si sj sw x b = fun v => if v = sj b then some (a + sw b) else x v := by
  unfold imp at h; unfold rlx
  cases hx : x (si b) with
  | none => rw [hx] at h; cases h
  | some a => rw [hx] at h; simp only at h ⊢; exact ⟨a, rfl, h, by rw [if_pos h]⟩
theorem rlx_mono {x : X} {b : β} {v : Nat} {c : Int} (h : le (x v) c) : le (rlx si sj sw x b v) c := by
  cases hi : imp si sj sw x b with
  | false => rw [rlx_not hi]; exact h
  | true =>
    obtain ⟨a, ha, hl, e⟩ := rlx_imp hi
    rw [e]
    simp only
    split
    · rename_i hv; subst hv
      obtain ⟨d, hd, hc⟩ := h
      rw [hd] at hl
      simp only [ltO, decide_eq_true_eq] at hl
      exact ⟨_, rfl, by omega⟩
    · exact h
theorem rlx_new {x : X} {b : β} {c : Int} (h : le (x (si b)) c) : le (rlx si sj sw x b (sj b)) (c + sw b) := by
  obtain ⟨a, ha, hc⟩ := h
  cases hi : imp si sj sw x b with
  | false =>
    rw [rlx_not hi]
    unfold imp at hi
    rw [ha] at hi
    simp only at hi
    cases hx : x (sj b) with
    | none => rw [hx] at hi; cases hi
    | some d => rw [hx] at hi; simp only [ltO, decide_eq_false_iff_not] at hi; exact ⟨d, rfl, by omega⟩
  | true =>
    obtain ⟨a', ha', hl, e⟩ := rlx_imp hi
    rw [ha] at ha'; cases ha'
    rw [e]
    exact ⟨_, if_pos rfl, by omega⟩
theorem rnd_mono {v : Nat} {c : Int} : ∀ (L : List β) (x : X), le (x v) c → le (rnd si sj sw L x v) c
  | [], x, h => h
  | b :: L, x, h => rnd_mono L _ (rlx_mono h)
theorem rnd_new {c : Int} : ∀ (L : List β) (x : X) (b : β), b ∈ L → le (x (si b)) c → le (rnd si sj sw L x (sj b)) (c + sw b)
  | b' :: L, x, b, hb, h => by
    rcases List.mem_cons.1 hb with rfl | hb
    · exact rnd_mono L _ (rlx_new h)
    · exact rnd_new L _ b hb (rlx_mono h)
theorem rnds_mono (L : List β) {x : X} {v : Nat} {c : Int} (h : le (x v) c) : ∀ n, le (rnds si sj sw L x n v) c
  | 0 => h
  | n + 1 => rnd_mono L _ (rnds_mono L h n)
theorem rnds_low {L : List β} {x0 : X} : ∀ (k m v : Nat) (c : Int), Wk si sj sw x0 L m v c → m ≤ k → le (rnds si sj sw L x0 k v) c
  | k, 0, v, c, h, hm => by cases h with | nil h => exact rnds_mono L ⟨c, h, Int.le_refl _⟩ k
  | k + 1, m + 1, v, c, h, hm => by
    cases h with
    | step h hb => exact rnd_new L _ _ hb (rnds_low k m _ _ h (by omega))
/-- Every value is the sum of a walk. -/
def Inv (si sj : β → Nat) (sw : β → Int) (x0 : X) (L : List β) (x : X) : Prop := ∀ v a, x v = some a → ∃ m, Wk si sj sw x0 L m v a
theorem Inv.rlx {x0 x : X} {L : List β} {b : β} (h : Inv si sj sw x0 L x) (hb : b ∈ L) : Inv si sj sw x0 L (rlx si sj sw x b) := by
  cases hi : imp si sj sw x b with
  | false => rw [rlx_not hi]; exact h
  | true =>
    obtain ⟨a, ha, hl, e⟩ := rlx_imp hi
    intro v d hv
    rw [e] at hv
    simp only at hv
    split at hv
    · rename_i hj; subst hj
      cases hv
      obtain ⟨m, hm⟩ := h _ _ ha
      exact ⟨_, .step hm hb⟩
    · exact h v d hv
theorem Inv.rnd {x0 : X} {L : List β} : ∀ (M : List β) (x : X), (∀ b ∈ M, b ∈ L) → Inv si sj sw x0 L x → Inv si sj sw x0 L (rnd si sj sw M x)
  | [], x, _, h => h
  | b :: M, x, hM, h => Inv.rnd M _ (fun b hb => hM b (List.mem_cons_of_mem _ hb)) (h.rlx (hM b (List.mem_cons_self ..)))
theorem Inv.rnds {x0 : X} {L : List β} : ∀ n, Inv si sj sw x0 L (rnds si sj sw L x0 n)
  | 0 => fun v a h => ⟨0, .nil h⟩
  | n + 1 => Inv.rnd L _ (fun _ h => h) (Inv.rnds n)
theorem least {Q : Nat → Prop} : ∀ n, Q n → ∃ m, Q m ∧ ∀ k, Q k → m ≤ k := by
  intro n
  induction n using Nat.strongRecOn with
  | _ n ih =>
    intro h
    by_cases hk : ∃ k, k < n ∧ Q k
    · obtain ⟨k, hk, hq⟩ := hk; exact ih k hk hq
    · exact ⟨n, h, fun k hq => Nat.le_of_not_lt fun hl => hk ⟨k, hl, hq⟩⟩
/-- A solution: no zaq is broken; all walks are bounded below by it. -/
structure Feas (si sj : β → Nat) (sw : β → Int) (x0 : X) (L : List β) (n : Nat) : Prop where
  ex : ∃ (p : Nat → Int) (C : Int), (∀ b ∈ L, p (sj b) ≤ p (si b) + sw b) ∧ ∀ v c, x0 v = some c → p v - c ≤ C
  j : ∀ b ∈ L, sj b < n
  z : ∀ v c, x0 v = some c → v < n
theorem Wk.lt {x0 : X} {L : List β} {n : Nat} (F : Feas si sj sw x0 L n) {m v : Nat} {c : Int} (h : Wk si sj sw x0 L m v c) : v < n := by
  cases h with
  | nil h => exact F.z _ _ h
  | step h hb => exact F.j _ hb
theorem Wk.low {x0 : X} {L : List β} {p : Nat → Int} {C : Int} (h1 : ∀ b ∈ L, p (sj b) ≤ p (si b) + sw b) (h2 : ∀ v c, x0 v = some c → p v - c ≤ C) : ∀ {m v : Nat} {c : Int}, Wk si sj sw x0 L m v c → p v - c ≤ C
  | 0, _, _, .nil h => h2 _ _ h
  | _ + 1, _, _, .step h hb => by have := Wk.low h1 h2 h; have := h1 _ hb; omega
/-- The least sum, and the least length among those. -/
structure Mn (si sj : β → Nat) (sw : β → Int) (x0 : X) (L : List β) (v m : Nat) (c : Int) : Prop where
  w : Wk si sj sw x0 L m v c
  lo : ∀ m' c', Wk si sj sw x0 L m' v c' → c ≤ c'
  sh : ∀ m', Wk si sj sw x0 L m' v c → m ≤ m'
theorem Mn.ex {x0 : X} {L : List β} {n : Nat} (F : Feas si sj sw x0 L n) {m v : Nat} {c : Int} (h : Wk si sj sw x0 L m v c) : ∃ m c, Mn si sj sw x0 L v m c := by
  obtain ⟨p, C, h1, h2⟩ := F.ex
  obtain ⟨k, ⟨m1, c1, hk, hw⟩, hl⟩ := least (Q := fun k => ∃ m c, (C - (p v - c)).toNat = k ∧ Wk si sj sw x0 L m v c) _ ⟨m, c, rfl, h⟩
  obtain ⟨m2, hm, hm2⟩ := least (Q := fun m => Wk si sj sw x0 L m v c1) m1 hw
  refine ⟨m2, c1, hm, fun m' c' h' => ?_, hm2⟩
  have := hl _ ⟨m', c', rfl, h'⟩
  have := Wk.low h1 h2 hw
  have := Wk.low h1 h2 h'
  omega
theorem Mn.pred {x0 : X} {L : List β} {v m : Nat} {c : Int} (h : Mn si sj sw x0 L v (m + 1) c) : ∃ u d, Mn si sj sw x0 L u m d := by
  obtain ⟨w, hc, hm⟩ := h
  cases w with
  | @step _ d b hw hb =>
    refine ⟨si b, d, hw, fun m' c' h' => ?_, fun m' h' => ?_⟩
    · have := hc _ _ (.step h' hb); omega
    · have := hm _ (.step h' hb); omega
theorem Mn.all {x0 : X} {L : List β} : ∀ {m v : Nat} {c : Int}, Mn si sj sw x0 L v m c → ∀ k, k ≤ m → ∃ u d, Mn si sj sw x0 L u k d
  | 0, v, c, h, k, hk => by have : k = 0 := by omega
                            subst this; exact ⟨v, c, h⟩
  | m + 1, v, c, h, k, hk => by
    by_cases e : k = m + 1
    · subst e; exact ⟨v, c, h⟩
    · obtain ⟨u, d, h'⟩ := h.pred; exact Mn.all h' k (by omega)
theorem Mn.uniq {x0 : X} {L : List β} {v m m' : Nat} {c c' : Int} (h : Mn si sj sw x0 L v m c) (h' : Mn si sj sw x0 L v m' c') : c = c' ∧ m = m' := by
  have e : c = c' := Int.le_antisymm (h.lo _ _ h'.w) (h'.lo _ _ h.w)
  subst e
  exact ⟨rfl, Nat.le_antisymm (h.sh _ h'.w) (h'.sh _ h.w)⟩
theorem holes : ∀ (n M : Nat) (R : Nat → Nat → Prop), (∀ k k' u, R k u → R k' u → k = k') → (∀ k, k < M → ∃ u, u < n ∧ R k u) → M ≤ n
  | 0, M, R, _, h => by
    cases M with
    | zero => exact Nat.le_refl _
    | succ M => obtain ⟨u, hu, _⟩ := h 0 (by omega); omega
  | n + 1, M, R, hR, h => by
    by_cases hk : ∃ k, k < M ∧ R k n
    · obtain ⟨k0, hk0, hr⟩ := hk
      have := holes n (M - 1) (fun k u => R (if k < k0 then k else k + 1) u) (fun k k' u h1 h2 => by
        have := hR _ _ _ h1 h2
        split at this <;> split at this <;> omega) fun k hk => by
        obtain ⟨u, hu, hru⟩ := h (if k < k0 then k else k + 1) (by split <;> omega)
        refine ⟨u, ?_, hru⟩
        by_cases e : u = n
        · subst e
          have := hR _ _ _ hru hr
          split at this <;> omega
        · omega
      omega
    · have := holes n M R hR fun k hk' => by
        obtain ⟨u, hu, hru⟩ := h k hk'
        exact ⟨u, by
          by_cases e : u = n
          · subst e; exact (hk ⟨k, hk', hru⟩).elim
          · omega, hru⟩
      omega
theorem Mn.short {x0 : X} {L : List β} {n : Nat} (F : Feas si sj sw x0 L n) {m v : Nat} {c : Int} (h : Mn si sj sw x0 L v m c) : m < n :=
  holes n (m + 1) (fun k u => ∃ d, Mn si sj sw x0 L u k d) (fun k k' u ⟨_, a⟩ ⟨_, b⟩ => (a.uniq b).2) fun k hk => by
    obtain ⟨u, d, hu⟩ := h.all k (by omega)
    exact ⟨u, hu.w.lt F, d, hu⟩
/-- After n - 1 rounds nothing is lowered any more. -/
theorem done {x0 : X} {L : List β} {n : Nat} (F : Feas si sj sw x0 L n) {k : Nat} (hk : n ≤ k + 1) : ∀ b ∈ L, imp si sj sw (rnds si sj sw L x0 k) b = false := by
  intro b hb
  unfold imp
  cases hx : rnds si sj sw L x0 k (si b) with
  | none => rfl
  | some a =>
    obtain ⟨m, hm⟩ := Inv.rnds k _ _ hx
    obtain ⟨m', d, hd⟩ := Mn.ex F (.step hm hb)
    obtain ⟨e, he, hed⟩ := rnds_low k m' _ _ hd.w (by have := hd.short F; omega)
    have := hd.lo _ _ (.step hm hb)
    rw [he]
    simp only [ltO, decide_eq_false_iff_not]
    omega
/-- No zaq lowers anything. -/
def Fix (si sj : β → Nat) (sw : β → Int) (L : List β) (x : X) : Prop := ∀ b ∈ L, imp si sj sw x b = false
theorem Fix.le {L : List β} {x : X} (h : Fix si sj sw L x) {b : β} (hb : b ∈ L) {a : Int} (ha : x (si b) = some a) : ∃ d, x (sj b) = some d ∧ d ≤ a + sw b := by
  have := h b hb
  unfold imp at this
  rw [ha] at this
  simp only at this
  cases hx : x (sj b) with
  | none => rw [hx] at this; cases this
  | some d => rw [hx] at this; simp only [ltO, decide_eq_false_iff_not] at this; exact ⟨d, rfl, by omega⟩
end
end BF
end Px
end
section
namespace Px
open Go
set_option linter.unusedVariables false
set_option linter.unusedSimpArgs false
theorem zh5 (φ : Nat) : ∀ (n m N : Nat), m ≤ N → N < n + m → 1 ≤ m ∨ N = 0 → N ≤ 5000 → z2r φ n (m : Int) (List.replicate m (-1) ++ List.replicate (N - m) (default : Int)) = some (List.replicate N (-1), ())
  | 0, m, N, h1, h2, _, _ => by omega
  | n + 1, m, N, h1, h2, h3, h4 => by
    have hlen : (List.replicate m (-1 : Int) ++ List.replicate (N - m) (default : Int)).length = N := by simp; omega
    rw [z2r, hlen]
    by_cases h : m < N
    · rw [if_pos (by simp; omega), z6 ⟨by omega, by omega, by omega⟩, z6 ⟨by omega, by omega, by omega⟩]
      have e1 : z4e (List.replicate m (-1 : Int) ++ List.replicate (N - m) (default : Int)) ((0 : Int).toNat) ((m : Int).toNat) = List.replicate m (-1) := by
        simp [z4e, List.take_append]
      rw [e1, List.length_replicate]
      have e2 : ((N : Int).toNat - (m : Int).toNat) = N - m := by omega
      have e3 : W ((m : Int) + ((min m (N - m) : Nat) : Int)) = ((m + min m (N - m) : Nat) : Int) := by rw [W_id (by omega) (by omega)]; omega
      rw [e2, e3]
      have e4 : cpy (List.replicate m (-1 : Int) ++ List.replicate (N - m) (default : Int)) ((m : Int).toNat) (N - m) (List.replicate m (-1)) = List.replicate (m + min m (N - m)) (-1) ++ List.replicate (N - (m + min m (N - m))) (default : Int) := by
        unfold cpy
        rw [Int.toNat_natCast, List.length_replicate, List.take_append_of_le_length (by simp), List.take_of_length_le (by simp), List.take_replicate, List.drop_append, List.drop_of_length_le (by simp), List.drop_replicate, List.length_replicate, List.nil_append]
        rw [show min (min m (N - m)) m = min m (N - m) by omega, List.replicate_append_replicate]
        congr 2
        omega
      rw [e4]
      exact zh5 φ n (m + min m (N - m)) N (by omega) (by omega) (by omega) h4
    · rw [if_neg (by simp; omega)]
      have : m = N := by omega
      subst this
      simp
theorem zv0 (φ : Nat) (n : Nat) (hn : n ≤ 5000) (hφ : 5001 < φ) : z2j φ [-1] (n : Int) = some (List.replicate n (-1), ()) := by
  unfold z2j zlg
  rw [if_neg (by simp), show (([-1] : List Int).length : Int) = 1 from rfl, U_id (x := 1) (by omega) (by omega), U_id (x := (n : Int)) (by omega) (by omega), zpn φ 1 n (by omega) (by omega) (by omega) (by omega)]
  simp only [Option.bind_some, Int.one_mul]
  have e1 : (n : Int) / 18446744073709551616 = 0 := by omega
  have e2 : (n : Int) % 18446744073709551616 = n := by omega
  rw [e1, e2, if_neg (by simp; omega), W_id (by omega) (by omega), z6 (mk_t _ _ (by omega) (by omega) (by omega))]
  rw [Int.toNat_natCast]
  have e3 : cpy (List.replicate n (default : Int)) 0 ((List.replicate n (default : Int)).length - 0) [-1] = List.replicate (min 1 n) (-1) ++ List.replicate (n - min 1 n) (default : Int) := by
    cases n with
    | zero => rfl
    | succ n => simp [cpy, show min 1 (n + 1) = 1 by omega]
  rw [e3, List.length_replicate]
  exact zh5 φ φ (min 1 n) n (by omega) (by omega) (by omega) hn
/-- The state of a round. -/
structure LS where
  x : List Int
  y : List Int
  z : Int
def stp (b : z8) (i : Int) (s : LS) : LS := if gt s.x b.i + b.w < gt s.x b.j then ⟨zz s.x b.j (gt s.x b.i + b.w), zz s.y b.j i, i⟩ else s
def rndL (L : List z8) : Nat → LS → LS
  | 0, s => s
  | m + 1, s => stp (gt L (m : Int)) m (rndL L m s)
def lowR (L : List z8) : Nat → LS → LS
  | 0, s => s
  | k + 1, s => if (rndL L L.length ⟨s.x, s.y, -1⟩).z < 0 then rndL L L.length ⟨s.x, s.y, -1⟩ else lowR L k (rndL L L.length ⟨s.x, s.y, -1⟩)
def low (n : Nat) (L : List z8) : LS := lowR L n ⟨List.replicate n 0, List.replicate n (-1), -1⟩
def okBd (n : Nat) (b : z8) : Prop := 0 ≤ b.i ∧ b.i < (n : Int) ∧ 0 ≤ b.j ∧ b.j < (n : Int) ∧ -1099511627776 ≤ b.w ∧ b.w ≤ 1099511627776
/-- How low the values may be after c steps. -/
structure LB (n c : Nat) (s : LS) : Prop where
  lx : s.x.length = n
  ly : s.y.length = n
  bd : ∀ i : Int, 0 ≤ i → i < (n : Int) → -(1099511627776 * (c : Int)) ≤ gt s.x i ∧ gt s.x i ≤ 0
theorem LB.up {n c d : Nat} {s : LS} (h : LB n c s) (hd : c ≤ d) : LB n d s := ⟨h.lx, h.ly, fun i h0 h1 => by have := h.bd i h0 h1; omega⟩
theorem LB.stp {n c : Nat} {s : LS} (h : LB n c s) {b : z8} (hb : okBd n b) (i : Int) : LB n (c + 1) (stp b i s) := by
  unfold Px.stp
  obtain ⟨a1, a2, a3, a4, a5, a6⟩ := hb
  have hx := h.lx
  have hy := h.ly
  split
  · rename_i hlt
    refine ⟨by rw [z24]; exact hx, by rw [z24]; exact hy, fun k h0 h1 => ?_⟩
    have q1 := h.bd b.i a1 a2
    have q2 := h.bd k h0 h1
    have q3 := h.bd b.j a3 a4
    rw [z11 _ _ _ _ a3 (by rw [hx]; exact a4) h0]
    split <;> omega
  · exact h.up (by omega)
theorem LB.rnd {n c : Nat} {s : LS} (h : LB n c s) {L : List z8} (hL : ∀ b ∈ L, okBd n b) : ∀ m, m ≤ L.length → LB n (c + m) (rndL L m s)
  | 0, _ => h
  | m + 1, hm => (LB.rnd h hL m (by omega)).stp (hL _ (z6o (by omega) (by omega))) m
/-- One round of the program. -/
theorem zx3 (φ : Nat) (k : List z8 → Int → Int → Int → List Int → List Int → Option (List Int × List Int × Int × Unit)) (L : List z8) (n : Nat) (r : Int) (c : Nat) (s : LS) (hs : LB n c s) (hL : ∀ b ∈ L, okBd n b) (hl : L.length ≤ 5000) (hc : c + L.length ≤ 2100000) (hφ : 5001 < φ) :
    z16 φ k φ L s.z n r L (L.length : Int) 0 s.x s.y = if (rndL L L.length s).z < 0 then some ((rndL L L.length s).x, (rndL L L.length s).y, (rndL L L.length s).z, ()) else k L (rndL L L.length s).z n (W (r + 1)) (rndL L L.length s).x (rndL L L.length s).y := by
  refine zy (fun f i (t : LS) => z16 φ k f L t.z n r L (L.length : Int) i t.x t.y) L.length (fun i t => t = rndL L i s) (fun o => o = _) ?_ ?_ φ s rfl (by omega)
  · intro f i t hi ht hk
    have hB := hs.rnd hL i (by omega)
    rw [← ht] at hB
    obtain ⟨a1, a2, a3, a4, a5, a6⟩ := hL _ (z6o (l := L) (i := (i : Int)) (by omega) (by omega))
    have q1 := hB.bd _ a1 a2
    have q2 := hB.bd _ a3 a4
    have hx := hB.lx
    have hy := hB.ly
    have hk' := hk (stp (gt L (i : Int)) i t) (by rw [ht]; rfl)
    rw [z16, if_pos (by simp; omega), z6 ⟨by omega, by omega⟩, z6 ⟨a1, by rw [hx]; exact a2⟩, z6 ⟨a3, by rw [hx]; exact a4⟩, W_id (x := gt t.x (gt L (i : Int)).i + (gt L (i : Int)).w) (by omega) (by omega)]
    unfold stp at hk'
    by_cases h : gt t.x (gt L (i : Int)).i + (gt L (i : Int)).w < gt t.x (gt L (i : Int)).j
    · rw [if_pos h] at hk'
      rw [if_pos (by simpa using h), z37, z6 ⟨a3, by rw [hx]; exact a4⟩, z6 ⟨a3, by rw [hy]; exact a4⟩, W_id (x := (i : Int) + 1) (by omega) (by omega)]
      exact hk'
    · rw [if_neg h] at hk'
      rw [if_neg (by simpa using h), W_id (x := (i : Int) + 1) (by omega) (by omega)]
      exact hk'
  · intro f t ht
    subst ht
    rw [z16, if_neg (by simp)]
    by_cases h : (rndL L L.length s).z < 0
    · rw [if_pos (by simpa using h), if_pos h]; rfl
    · rw [if_neg (by simpa using h), if_neg h]
theorem zmm (φ : Nat) (L : List z8) (n : Nat) (hn : n ≤ 512) (hL : ∀ b ∈ L, okBd n b) (hl : L.length ≤ 4096) (hφ : 5001 < φ) :
    ∀ (f k : Nat) (s : LS), LB n (k * L.length) s → k ≤ n → n < f + k → z2i φ f L s.z n (k : Int) s.x s.y = some ((lowR L (n - k) s).x, (lowR L (n - k) s).y, (lowR L (n - k) s).z, ())
  | 0, k, s, _, h1, h2 => by omega
  | f + 1, k, s, hs, h1, h2 => by
    rw [z2i]
    by_cases h : k < n
    · have hs1 : LB n (k * L.length) ⟨s.x, s.y, -1⟩ := ⟨hs.lx, hs.ly, hs.bd⟩
      have hb := Nat.mul_le_mul (show k + 1 ≤ 512 by omega) hl
      rw [Nat.add_mul, Nat.one_mul] at hb
      rw [if_pos (by simp; omega)]
      have := zx3 φ (z2i φ f) L n (k : Int) _ ⟨s.x, s.y, -1⟩ hs1 hL (by omega) (by omega) hφ
      refine this.trans ?_
      rw [show n - k = (n - (k + 1)) + 1 by omega, lowR, W_id (x := (k : Int) + 1) (by omega) (by omega)]
      have hs2 := hs1.rnd hL L.length (Nat.le_refl _)
      split
      · rfl
      · exact zmm φ L n hn hL hl hφ f (k + 1) _ (hs2.up (by rw [Nat.add_mul, Nat.one_mul]; omega)) (by omega) (by omega)
    · rw [if_neg (by simp; omega), show n - k = 0 by omega]; rfl
theorem lb0 (n : Nat) : LB n 0 ⟨List.replicate n 0, List.replicate n (-1), -1⟩ := ⟨by simp, by simp, fun i h0 h1 => by rw [show gt (LS.x ⟨List.replicate n 0, List.replicate n (-1), -1⟩) i = 0 from z4j n 0 i h0 h1]; omega⟩
theorem zvw (φ : Nat) (hφ : 5001 < φ) (L : List z8) (n : Nat) (hn : n ≤ 512) (hL : ∀ b ∈ L, okBd n b) (hl : L.length ≤ 4096) : z9r φ (n : Int) L = some ((low n L).x, (low n L).y, (low n L).z, ()) := by
  unfold z9r z36 z2v
  rw [z6 (mk_t _ _ (by omega) (by omega) (by omega)), zv0 φ n (by omega) hφ, Option.bind_some, Int.toNat_natCast]
  have := zmm φ L n hn hL hl hφ φ 0 ⟨List.replicate n 0, List.replicate n (-1), -1⟩ ((lb0 n).up (by omega)) (by omega) (by omega)
  exact this
/-- The first error of a system. -/
def ziw (n : Int) (b : z8) : Bool := (((decide ((min2 b.i b.j) < 0) || decide (n ≤ max2 b.i b.j)) || decide (b.w < (-1099511627776))) || decide (1099511627776 < b.w))
def chkD (n : Int) (L : List z8) : Int := if n < 1 then 1 else if 512 < n ∨ 4096 < L.length then 2 else bif L.any (ziw n) then 1 else 0
theorem znm {n : Nat} {b : z8} : ziw n b = false ↔ okBd n b := by
  unfold ziw okBd
  simp only [Bool.or_eq_false_iff, decide_eq_false_iff_not, zw0, y1s]
  have : ¬ ((n : Int) ≤ max2 b.i b.j) ↔ b.i < n ∧ b.j < n := by unfold max2; split <;> omega
  rw [this]
  omega
theorem zkm (φ : Nat) (hφ : 5001 < φ) (n : Int) (L : List z8) : zbr φ n L = some (chkD n L, ()) := by
  unfold zbr chkD
  by_cases h1 : n < 1
  · rw [if_pos (by simpa using h1), if_pos h1]
  · rw [if_neg (by simpa using h1), if_neg h1]
    by_cases h2 : 512 < n ∨ 4096 < L.length
    · rw [if_pos (by simp; omega), if_pos h2]
    · rw [if_neg (by simp; omega), if_neg h2]
      have := zgn (fun f i => z3h φ f n L (L.length : Int) i) (some (0, ())) (some (1, ())) L (ziw n) (fun f i hi => by
          rw [z3h, if_pos (by simp; omega), z6 ⟨by omega, by omega⟩, W_id (by omega) (by omega)]
          show (if ziw n (gt L (i : Int)) = true then _ else _) = _
          cases ziw n (gt L (i : Int)) <;> rfl) (fun f => by
          rw [z3h, if_neg (by simp)]) φ (by omega)
      rw [this]; cases L.any (ziw n) <;> rfl
theorem y1k {n : Int} {L : List z8} (h : chkD n L = 0) : ∃ m : Nat, n = m ∧ 1 ≤ m ∧ m ≤ 512 ∧ L.length ≤ 4096 ∧ ∀ b ∈ L, okBd m b := by
  unfold chkD at h
  split at h
  · cases h
  · split at h
    · cases h
    · refine ⟨n.toNat, by omega, by omega, by omega, by omega, fun b hb => ?_⟩
      cases ha : L.any (ziw n) with
      | true => rw [ha] at h; cases h
      | false =>
        rw [← znm, show ((n.toNat : Nat) : Int) = n by omega]
        cases hbb : ziw n b with
        | false => rfl
        | true => rw [List.any_eq_false] at ha; exact absurd hbb (ha b hb)
theorem y03 {n : Nat} {L : List z8} (h1 : 1 ≤ n) (h2 : n ≤ 512) (h3 : L.length ≤ 4096) (h4 : ∀ b ∈ L, okBd n b) : chkD n L = 0 := by
  unfold chkD
  rw [if_neg (by omega), if_neg (by omega)]
  have : L.any (ziw n) = false := by
    rw [List.any_eq_false]
    intro b hb h
    rw [znm.2 (h4 b hb)] at h; cases h
  rw [this]; rfl
theorem zkb (φ : Nat) (hφ : 5001 < φ) (n : Int) (L : List z8) : z9c φ n L = some (if chkD n L ≠ 0 then ([], chkD n L, ()) else if 0 ≤ (low n.toNat L).z then ([], 230, ()) else ((low n.toNat L).x, 0, ())) := by
  unfold z9c
  rw [zkm φ hφ, Option.bind_some]
  by_cases h : chkD n L = 0
  · rw [if_neg (by simpa using h), if_neg (by simpa using h)]
    obtain ⟨m, rfl, h1, h2, h3, h4⟩ := y1k h
    rw [zvw φ hφ L m h2 h4 h3, Option.bind_some, Int.toNat_natCast]
    by_cases hz : 0 ≤ (low m L).z
    · rw [if_pos (by simpa using hz), if_pos hz]
    · rw [if_neg (by simpa using hz), if_neg hz]
  · rw [if_pos (by simpa using h), if_pos (by simpa using h)]
end Px
end
section
namespace Px
open Go
set_option linter.unusedVariables false
set_option linter.unusedSimpArgs false
def bI (b : z8) : Nat := b.i.toNat
def bJ (b : z8) : Nat := b.j.toNat
def bW (b : z8) : Int := b.w
def xf (x : List Int) : BF.X := fun v => if v < x.length then some (gt x (v : Int)) else none
theorem zwx {x : List Int} {i : Int} (h0 : 0 ≤ i) (h : i < (x.length : Int)) : xf x i.toNat = some (gt x i) := by
  unfold xf
  rw [if_pos (by omega), show ((i.toNat : Nat) : Int) = i by omega]
theorem zvk {n : Nat} {s : LS} (hx : s.x.length = n) {b : z8} (hb : okBd n b) (i : Int) :
    xf (stp b i s).x = BF.rlx bI bJ bW (xf s.x) b ∧ (BF.imp bI bJ bW (xf s.x) b = true → (stp b i s).z = i) ∧ (BF.imp bI bJ bW (xf s.x) b = false → stp b i s = s) := by
  obtain ⟨a1, a2, a3, a4, _, _⟩ := hb
  have e1 : xf s.x (bI b) = some (gt s.x b.i) := zwx a1 (by rw [hx]; exact a2)
  have e2 : xf s.x (bJ b) = some (gt s.x b.j) := zwx a3 (by rw [hx]; exact a4)
  have ei : BF.imp bI bJ bW (xf s.x) b = decide (gt s.x b.i + b.w < gt s.x b.j) := by
    unfold BF.imp; rw [e1, e2]; rfl
  have er : BF.rlx bI bJ bW (xf s.x) b = if gt s.x b.i + b.w < gt s.x b.j then fun v => if v = bJ b then some (gt s.x b.i + b.w) else xf s.x v else xf s.x := by
    unfold BF.rlx; rw [e1, e2]; simp only [BF.ltO, bW]
    by_cases h : gt s.x b.i + b.w < gt s.x b.j <;> simp [h]
  rw [ei, er]
  unfold stp
  by_cases h : gt s.x b.i + b.w < gt s.x b.j
  · rw [if_pos h, if_pos h]
    refine ⟨?_, fun _ => rfl, fun q => by simp [h] at q⟩
    funext v
    unfold xf
    rw [z24]
    simp only
    by_cases hv : v < s.x.length
    · rw [if_pos hv, if_pos hv, z11 _ _ _ _ a3 (by rw [hx]; exact a4) (by omega)]
      by_cases e : v = bJ b
      · rw [if_pos e, if_pos (by unfold bJ at e; omega)]
      · rw [if_neg e, if_neg (by unfold bJ at e; omega)]
    · rw [if_neg hv, if_neg hv, if_neg (fun e => hv (by rw [hx, e]; unfold bJ; omega))]
  · rw [if_neg h, if_neg h]
    exact ⟨rfl, fun q => by simp [h] at q, fun _ => rfl⟩
theorem zc6 {n : Nat} {s : LS} (hs : s.x.length = n) {L : List z8} : ∀ m, (rndL L m s).x.length = n
  | 0 => hs
  | m + 1 => by
    have := zc6 hs (L := L) m
    unfold rndL stp
    split
    · simp only [z24]; exact this
    · exact this
theorem zsp {n : Nat} {s : LS} (hs : s.x.length = n) {L : List z8} (hL : ∀ b ∈ L, okBd n b) : ∀ m, m ≤ L.length → xf (rndL L m s).x = (L.take m).foldl (BF.rlx bI bJ bW) (xf s.x)
  | 0, _ => rfl
  | m + 1, hm => by
    have ih := zsp hs hL m (by omega)
    rw [z17 L m (by omega), List.foldl_append, ← ih]
    exact (zvk (zc6 hs m) (hL _ (z6o (by omega) (by omega))) m).1
theorem zze {n : Nat} {s : LS} (hs : s.x.length = n) {L : List z8} (hL : ∀ b ∈ L, okBd n b) (hz : s.z = -1) : ∀ m, m ≤ L.length →
    ((rndL L m s).z < 0 → rndL L m s = s ∧ ∀ k : Nat, k < m → BF.imp bI bJ bW (xf s.x) (gt L (k : Int)) = false) ∧ -1 ≤ (rndL L m s).z ∧ (rndL L m s).z < m
  | 0, _ => ⟨fun _ => ⟨rfl, fun k hk => by omega⟩, by rw [show (rndL L 0 s).z = s.z from rfl]; omega, by rw [show (rndL L 0 s).z = s.z from rfl]; omega⟩
  | m + 1, hm => by
    obtain ⟨h1, h2, h3⟩ := zze hs hL hz m (by omega)
    obtain ⟨q1, q2, q3⟩ := zvk (zc6 hs m) (hL _ (z6o (l := L) (i := (m : Int)) (by omega) (by omega))) m
    change _ ∧ -1 ≤ (stp (gt L (m : Int)) m (rndL L m s)).z ∧ (stp (gt L (m : Int)) m (rndL L m s)).z < _
    cases hi : BF.imp bI bJ bW (xf (rndL L m s).x) (gt L (m : Int)) with
    | true =>
      have := q2 hi
      refine ⟨fun h => ?_, by omega, by omega⟩
      change (stp (gt L (m : Int)) m (rndL L m s)).z < 0 at h
      omega
    | false =>
      have e := q3 hi
      rw [e]
      refine ⟨fun h => ?_, h2, by omega⟩
      change (stp (gt L (m : Int)) m (rndL L m s)).z < 0 at h
      rw [e] at h
      obtain ⟨e2, h4⟩ := h1 h
      refine ⟨by change stp (gt L (m : Int)) m (rndL L m s) = s; rw [e, e2], fun k hk => ?_⟩
      by_cases hkm : k = m
      · subst hkm; rw [e2] at hi; exact hi
      · exact h4 k (by omega)
theorem zmc {n : Nat} {s : LS} (hs : s.x.length = n) {L : List z8} (hL : ∀ b ∈ L, okBd n b) (hz : s.z = -1) (hf : ∀ b ∈ L, BF.imp bI bJ bW (xf s.x) b = false) : ∀ m, m ≤ L.length → rndL L m s = s
  | 0, _ => rfl
  | m + 1, hm => by
    have ih := zmc hs hL hz hf m (by omega)
    have hb := z6o (l := L) (i := (m : Int)) (by omega) (by omega)
    change stp (gt L (m : Int)) m (rndL L m s) = s
    rw [ih]
    exact (zvk hs (hL _ hb) m).2.2 (hf _ hb)
/-- At the start. -/
def xz (n : Nat) : BF.X := fun v => if v < n then some 0 else none
theorem y3y (n : Nat) : xf (List.replicate n 0) = xz n := by
  funext v
  unfold xf xz
  rw [List.length_replicate]
  split
  · rw [z4j _ _ _ (by omega) (by omega)]
  · rfl
theorem zvo {n : Nat} {L : List z8} (hL : ∀ b ∈ L, okBd n b) : ∀ (f k : Nat) (s : LS), s.x.length = n → xf s.x = BF.rnds bI bJ bW L (xz n) k → (lowR L f s).x.length = n ∧
    (((lowR L f s).z < 0 → f ≠ 0 ∨ s.z < 0) → ((lowR L f s).z < 0 → f ≠ 0) → ((lowR L f s).z < 0 → BF.Fix bI bJ bW L (xf (lowR L f s).x) ∧ ∃ k', xf (lowR L f s).x = BF.rnds bI bJ bW L (xz n) k')) ∧
    (0 ≤ (lowR L f s).z → f ≠ 0 → ¬ BF.Feas bI bJ bW (xz n) L n ∨ k + f < n) ∧ (f ≠ 0 → -1 ≤ (lowR L f s).z ∧ (lowR L f s).z < L.length)
  | 0, k, s, hs, hx => ⟨hs, fun _ h2 h => absurd rfl (h2 h), fun _ h => absurd rfl h, fun h => absurd rfl h⟩
  | f + 1, k, s, hs, hx => by
    have hs1 : (LS.mk s.x s.y (-1)).x.length = n := hs
    obtain ⟨h1, h2, h3⟩ := zze hs1 hL rfl L.length (Nat.le_refl _)
    have hr := zsp hs1 hL L.length (Nat.le_refl _)
    rw [List.take_length] at hr
    have hr2 : xf (rndL L L.length ⟨s.x, s.y, -1⟩).x = BF.rnds bI bJ bW L (xz n) (k + 1) := by
      rw [hr, show xf (LS.mk s.x s.y (-1)).x = _ from hx]; rfl
    have hq : ¬ (rndL L L.length ⟨s.x, s.y, -1⟩).z < 0 → n ≤ k + 1 → ¬ BF.Feas bI bJ bW (xz n) L n := fun hz hk F => by
      have := zmc hs1 hL rfl (fun b hb => by
        have := BF.done F hk b hb
        rw [← hx] at this; exact this) L.length (Nat.le_refl _)
      rw [this] at hz
      exact hz (by show (-1 : Int) < 0; omega)
    unfold lowR
    split
    · rename_i hz
      obtain ⟨e1, e2⟩ := h1 hz
      refine ⟨zc6 hs1 _, fun _ _ _ => ⟨fun b hb => ?_, k + 1, hr2⟩, fun h => by omega, fun _ => ⟨h2, h3⟩⟩
      rw [e1]
      obtain ⟨i, hi, rfl⟩ := zz2 hb
      exact e2 i hi
    · rename_i hz
      by_cases hf : f = 0
      · subst hf
        refine ⟨zc6 hs1 _, fun _ _ h => absurd h hz, fun _ _ => ?_, fun _ => ⟨h2, h3⟩⟩
        by_cases hk : n ≤ k + 1
        · exact .inl (hq hz hk)
        · exact .inr (by omega)
      · obtain ⟨i1, i2, i3, i4⟩ := zvo hL f (k + 1) _ (zc6 hs1 L.length) hr2
        refine ⟨i1, fun _ _ h => i2 (fun _ => .inl hf) (fun _ => hf) h, fun h _ => ?_, fun _ => i4 hf⟩
        rcases i3 h hf with h | h
        · exact .inl h
        · exact .inr (by omega)
/-- What the solver leaves. -/
structure y4b (n : Nat) (L : List z8) : Prop where
  len : (low n L).x.length = n
  fix : (low n L).z < 0 → BF.Fix bI bJ bW L (xf (low n L).x)
  rnd : (low n L).z < 0 → ∃ k, xf (low n L).x = BF.rnds bI bJ bW L (xz n) k
  cyc : 0 ≤ (low n L).z → ¬ BF.Feas bI bJ bW (xz n) L n
  lo : -1 ≤ (low n L).z
  hi : (low n L).z < L.length
theorem zyk {n : Nat} {L : List z8} (h1 : 1 ≤ n) (hL : ∀ b ∈ L, okBd n b) : y4b n L := by
  obtain ⟨i1, i2, i3, i4⟩ := zvo hL n 0 ⟨List.replicate n 0, List.replicate n (-1), -1⟩ (by simp) (y3y n)
  have hn : n ≠ 0 := by omega
  refine ⟨i1, fun h => (i2 (fun _ => .inl hn) (fun _ => hn) h).1, fun h => (i2 (fun _ => .inl hn) (fun _ => hn) h).2, fun h => ?_, (i4 hn).1, (i4 hn).2⟩
  rcases i3 h hn with h | h
  · exact h
  · omega
/-- The solution breaks no zaq. -/
theorem y0g {n : Nat} {L : List z8} (h1 : 1 ≤ n) (hL : ∀ b ∈ L, okBd n b) (hz : (low n L).z < 0) {b : z8} (hb : b ∈ L) : gt (low n L).x b.j - gt (low n L).x b.i ≤ b.w := by
  have h := zyk h1 hL
  obtain ⟨a1, a2, a3, a4, _, _⟩ := hL b hb
  obtain ⟨d, hd, hl⟩ := (h.fix hz).le hb (zwx a1 (by rw [h.len]; exact a2))
  have e : xf (low n L).x (bJ b) = some (gt (low n L).x b.j) := zwx a3 (by rw [h.len]; exact a4)
  rw [e] at hd
  cases hd
  unfold bW at hl
  omega
end Px
end
section
namespace Px
open Go
set_option linter.unusedVariables false
set_option linter.unusedSimpArgs false
def evE (v : Int) (e : z1) : z0u := ⟨e.visit.wagon, e.visit.place, v, e.visit.ref, e.visit.stay⟩
def evsE : Int → List z1 → List z0u
  | _, [] => []
  | v, e :: t => evE v e :: evsE (v + 1) t
def bnds (tv : z0b → z0b → Int) (m : List (Int × Int)) : Option z0b → Int → List z1 → List z8
  | _, _, [] => []
  | pr, v, e :: t => evB m v e ++ trB tv v pr e ++ bnds tv m (some e.visit) (v + 1) t
theorem zx2 (tv m) : ∀ (t : List z1) (pr) (s : BS), (bEv tv m pr t s).v = s.v + t.length
  | [], pr, s => by simp [bEv]
  | e :: t, pr, s => by
    rw [bEv, zx2 tv m t]
    simp only [zit, List.length_cons]; omega
theorem zxl (tv m) : ∀ (t : List z1) (pr) (s : BS), (bEv tv m pr t s).b = s.b ++ bnds tv m pr s.v t
  | [], pr, s => by simp [bEv, bnds]
  | e :: t, pr, s => by
    rw [bEv, zxl tv m t]
    simp only [zit, bnds, List.append_assoc]
theorem zsa (tv m) : ∀ (t : List z1) (pr) (s : BS), (bEv tv m pr t s).e = s.e ++ evsE s.v t
  | [], pr, s => by simp [bEv, evsE]
  | e :: t, pr, s => by
    rw [bEv, zsa tv m t]
    simp only [zit, evsE, evE, List.append_assoc, List.cons_append, List.nil_append]
theorem zqx : ∀ (t : List z1) (v : Int), (evsE v t).length = t.length
  | [], v => rfl
  | e :: t, v => by simp [evsE, zqx t]
theorem zhd : ∀ (t : List z1) (v : Int) (i : Nat), (evsE v t)[i]? = (t[i]?).map (evE (v + i))
  | [], v, i => by simp [evsE]
  | e :: t, v, 0 => by simp [evsE]
  | e :: t, v, i + 1 => by
    simp only [evsE, List.getElem?_cons_succ]
    rw [zhd t (v + 1) i]
    congr 2; omega
/-- The bounds of the event i of a zbg, and the one that leads to it. -/
theorem zl3 (tv m) : ∀ (t : List z1) (pr) (v : Int) (i : Nat) (e : z1), t[i]? = some e → ∀ b ∈ evB m (v + i) e, b ∈ bnds tv m pr v t
  | [], pr, v, i, e, h, b, hb => by simp at h
  | x :: t, pr, v, 0, e, h, b, hb => by
    simp at h; subst h
    rw [show v + ((0 : Nat) : Int) = v by omega] at hb
    simp only [bnds]
    exact List.mem_append_left _ (List.mem_append_left _ hb)
  | x :: t, pr, v, i + 1, e, h, b, hb => by
    simp only [bnds]
    refine List.mem_append_right _ (zl3 tv m t _ (v + 1) i e (by simpa using h) b ?_)
    rw [show v + 1 + (i : Int) = v + ((i + 1 : Nat) : Int) by omega]; exact hb
theorem zss (tv m) : ∀ (t : List z1) (pr) (v : Int) (i : Nat) (a e : z1), t[i]? = some a → t[i + 1]? = some e → (⟨v + i + 1, v + i, 0 - tv a.visit e.visit⟩ : z8) ∈ bnds tv m pr v t
  | [], pr, v, i, a, e, h, _ => by simp at h
  | [x], pr, v, 0, a, e, h, h2 => by simp at h2
  | x :: y :: t, pr, v, 0, a, e, h, h2 => by
    simp at h h2; subst h; subst h2
    simp only [bnds, trB]
    refine List.mem_append_right _ (List.mem_append_left _ (List.mem_append_right _ (List.mem_singleton.2 ?_)))
    simp
  | x :: t, pr, v, i + 1, a, e, h, h2 => by
    have := zss tv m t (some x.visit) (v + 1) i a e (by simpa using h) (by simpa using h2)
    simp only [bnds]
    refine List.mem_append_right _ ?_
    rw [show v + ((i + 1 : Nat) : Int) + 1 = v + 1 + (i : Int) + 1 by omega, show v + ((i + 1 : Nat) : Int) = v + 1 + (i : Int) by omega]
    exact this
theorem zjg (tv m) : ∀ (t : List z1) (pr) (v : Int) (b : z8), b ∈ bnds tv m pr v t → ∃ i : Nat, ∃ e : z1, t[i]? = some e ∧ (b ∈ evB m (v + i) e ∨ ∃ a : z0b, (0 < i ∨ pr.isSome = true) ∧ b = ⟨v + i, v + i - 1, 0 - tv a e.visit⟩)
  | [], pr, v, b, h => by simp [bnds] at h
  | x :: t, pr, v, b, h => by
    simp only [bnds, List.mem_append] at h
    rcases h with (h | h) | h
    · exact ⟨0, x, rfl, .inl (by rw [show v + ((0 : Nat) : Int) = v by omega]; exact h)⟩
    · cases pr with
      | none => simp [trB] at h
      | some a =>
        simp only [trB, List.mem_singleton] at h
        exact ⟨0, x, rfl, .inr ⟨a, .inr rfl, by rw [h]; simp⟩⟩
    · obtain ⟨i, e, hi, hb⟩ := zjg tv m t _ _ b h
      refine ⟨i + 1, e, by simpa using hi, ?_⟩
      rw [show v + ((i + 1 : Nat) : Int) = v + 1 + (i : Int) by omega]
      rcases hb with hb | ⟨a, _, hb⟩
      · exact .inl hb
      · exact .inr ⟨a, .inl (by omega), hb⟩
def fB (tv : z0b → z0b → Int) (m : List (Int × Int)) (ts : List (List z1)) (s : BS) : BS := ts.foldl (fun s t => bEv tv m none t s) s
theorem zyo (tv m) (A B : List (List z1)) (s : BS) : fB tv m (A ++ B) s = fB tv m B (fB tv m A s) := List.foldl_append ..
theorem ze9 (tv m) : ∀ (ts : List (List z1)) (s : BS), s.v ≤ (fB tv m ts s).v ∧ (∃ b, (fB tv m ts s).b = s.b ++ b) ∧ ∃ e, (fB tv m ts s).e = s.e ++ e
  | [], s => ⟨Int.le_refl _, ⟨[], by simp [fB]⟩, [], by simp [fB]⟩
  | t :: ts, s => by
    obtain ⟨h1, ⟨b, h2⟩, e, h3⟩ := ze9 tv m ts (bEv tv m none t s)
    have e1 : fB tv m (t :: ts) s = fB tv m ts (bEv tv m none t s) := rfl
    rw [e1]
    rw [zx2] at h1
    rw [zxl] at h2
    rw [zsa] at h3
    exact ⟨by omega, ⟨_, by rw [h2, List.append_assoc]⟩, _, by rw [h3, List.append_assoc]⟩
/-- A zbg within the whole: its first variable, its bounds, its events. -/
theorem zjr (tv m) (A B : List (List z1)) (t : List z1) (s : BS) : s.v ≤ (fB tv m A s).v ∧ (fB tv m A s).v + t.length ≤ (fB tv m (A ++ t :: B) s).v ∧
    (∀ b ∈ bnds tv m none (fB tv m A s).v t, b ∈ (fB tv m (A ++ t :: B) s).b) ∧ ∃ e, (fB tv m (A ++ t :: B) s).e = (fB tv m A s).e ++ (evsE (fB tv m A s).v t ++ e) := by
  have e1 : fB tv m (A ++ t :: B) s = fB tv m B (bEv tv m none t (fB tv m A s)) := by rw [zyo]; rfl
  obtain ⟨h1, ⟨b, h2⟩, e, h3⟩ := ze9 tv m B (bEv tv m none t (fB tv m A s))
  rw [e1]
  rw [zx2] at h1
  rw [zxl] at h2
  rw [zsa] at h3
  refine ⟨(ze9 tv m A s).1, h1, fun x hx => ?_, e, by rw [h3, List.append_assoc]⟩
  rw [h2]
  exact List.mem_append_left _ (List.mem_append_right _ hx)
theorem zun (tv m) : ∀ (ts : List (List z1)) (s : BS) (b : z8), b ∈ (fB tv m ts s).b → b ∈ s.b ∨ ∃ A t B, ts = A ++ t :: B ∧ b ∈ bnds tv m none (fB tv m A s).v t
  | [], s, b, h => .inl h
  | t :: ts, s, b, h => by
    have e1 : fB tv m (t :: ts) s = fB tv m ts (bEv tv m none t s) := rfl
    rw [e1] at h
    rcases zun tv m ts _ b h with h2 | ⟨A, t', B, e2, h2⟩
    · rw [zxl] at h2
      rcases List.mem_append.1 h2 with h2 | h2
      · exact .inl h2
      · exact .inr ⟨[], t, ts, rfl, h2⟩
    · exact .inr ⟨t :: A, t', B, by rw [e2]; rfl, h2⟩
theorem zon (tv m) : ∀ (ts : List (List z1)) (s : BS) (x : z0u), x ∈ (fB tv m ts s).e → x ∈ s.e ∨ ∃ A t B, ts = A ++ t :: B ∧ x ∈ evsE (fB tv m A s).v t
  | [], s, b, h => .inl h
  | t :: ts, s, b, h => by
    have e1 : fB tv m (t :: ts) s = fB tv m ts (bEv tv m none t s) := rfl
    rw [e1] at h
    rcases zon tv m ts _ b h with h2 | ⟨A, t', B, e2, h2⟩
    · rw [zsa] at h2
      rcases List.mem_append.1 h2 with h2 | h2
      · exact .inl h2
      · exact .inr ⟨[], t, ts, rfl, h2⟩
    · exact .inr ⟨t :: A, t', B, by rw [e2]; rfl, h2⟩
/-- The variables of the readers. -/
theorem zq6 (rs : List z21) (m : List (Int × Int)) : ∀ n : Nat, (∀ i : Nat, i < n → (mget m (i : Int)).isSome = true → ∃ v, mget (rdsN rs m n).m (i : Int) = some v ∧ 1 ≤ v ∧ v < (rdsN rs m n).v) ∧ ∀ k : Int, (n : Int) ≤ k → mget (rdsN rs m n).m k = mget m k
  | 0 => ⟨fun i h => by omega, fun k _ => rfl⟩
  | n + 1 => by
    obtain ⟨h1, h2⟩ := zq6 rs m n
    have hv := (z9s rs m n).1
    have h3 := h2 (n : Int) (Int.le_refl _)
    simp only [rdsN, znh]
    split
    · rename_i hs
      refine ⟨fun i hi hm => ?_, fun k hk => ?_⟩
      · simp only [zdm]
        by_cases e : i = n
        · subst e; exact ⟨_, if_pos rfl, hv, by omega⟩
        · obtain ⟨v, q1, q2, q3⟩ := h1 i (by omega) hm
          exact ⟨v, by rw [if_neg (by omega)]; exact q1, q2, by omega⟩
      · simp only [zdm]
        rw [if_neg (by omega)]; exact h2 k (by omega)
    · rename_i hs
      refine ⟨fun i hi hm => ?_, fun k hk => h2 k (by omega)⟩
      by_cases e : i = n
      · subst e; rw [h3] at hs; exact absurd hm hs
      · exact h1 i (by omega) hm
theorem zs2 {m : List (Int × Int)} {e : z1} {k : Int} (h : (mget m k).isSome = true) : (mget (zr7 m e) k).isSome = true := by
  unfold zr7
  split
  · rw [zdm]; split
    · rfl
    · exact h
  · exact h
theorem zel : ∀ (t : List z1) {m : List (Int × Int)} {k : Int}, (mget m k).isSome = true → (mget (ziz m t) k).isSome = true
  | [], m, k, h => h
  | e :: t, m, k, h => zel t (zs2 h)
theorem zly : ∀ (t : List z1) (m : List (Int × Int)) (e : z1), e ∈ t → 0 ≤ e.reader → (mget (ziz m t) e.reader).isSome = true
  | x :: t, m, e, he, h => by
    rcases List.mem_cons.1 he with rfl | he
    · refine zel t (m := zr7 m e) ?_
      unfold zr7
      rw [if_pos h, zdm, if_pos rfl]; rfl
    · exact zly t _ e he h
theorem zsy (ts : List (List z1)) {k : Int} : ∀ {m : List (Int × Int)}, (mget m k).isSome = true → (mget (ts.foldl ziz m) k).isSome = true := by
  induction ts with
  | nil => intro m h; exact h
  | cons t ts ih => intro m h; rw [List.foldl_cons]; exact ih (zel t h)
theorem zy2 (ts : List (List z1)) : ∀ (m : List (Int × Int)) (t : List z1) (e : z1), t ∈ ts → e ∈ t → 0 ≤ e.reader → (mget (ts.foldl ziz m) e.reader).isSome = true := by
  induction ts with
  | nil => intro m t e ht; cases ht
  | cons x ts ih =>
    intro m t e ht he h
    rw [List.foldl_cons]
    rcases List.mem_cons.1 ht with e1 | ht
    · subst e1
      exact zsy ts (zly t m e he h)
    · exact ih _ t e ht he h
/-- What is known of the events of all tracks. -/
structure TsOK (rs : List z21) (ts : List (List z1)) : Prop where
  early : ∀ t ∈ ts, ∀ e ∈ t, 0 ≤ e.visit.early ∧ e.visit.early ≤ 1073741824
  reader : ∀ t ∈ ts, ∀ e ∈ t, e.reader < (rs.length : Int)
  rs : ∀ r ∈ rs, -1000 ≤ r.low ∧ r.low ≤ r.high ∧ r.high ≤ 1000
abbrev rdM (rs : List z21) (ts : List (List z1)) : List (Int × Int) := (rdsN rs (used ts) rs.length).m
abbrev rd0 (rs : List z21) (ts : List (List z1)) : BS := ⟨(rdsN rs (used ts) rs.length).v, (rdsN rs (used ts) rs.length).b, (rdsN rs (used ts) rs.length).y, []⟩
theorem zgv (tv) (rs : List z21) (ts : List (List z1)) : bAll tv rs ts = fB tv (rdM rs ts) ts (rd0 rs ts) := rfl
theorem y57 {rs : List z21} {ts : List (List z1)} (h : TsOK rs ts) {t : List z1} (ht : t ∈ ts) {e : z1} (he : e ∈ t) (hr : 0 ≤ e.reader) : mget (rdM rs ts) e.reader = some (rv (rdM rs ts) e) ∧ 1 ≤ rv (rdM rs ts) e ∧ rv (rdM rs ts) e < (rd0 rs ts).v := by
  have h2 := h.reader t ht e he
  have := zy2 ts [] t e ht he hr
  obtain ⟨v, q1, q2, q3⟩ := (zq6 rs (used ts) rs.length).1 e.reader.toNat (by omega) (by rw [show ((e.reader.toNat : Nat) : Int) = e.reader by omega]; exact this)
  rw [show ((e.reader.toNat : Nat) : Int) = e.reader by omega] at q1
  have e1 : rv (rdM rs ts) e = v := by unfold rv; rw [show mget (rdM rs ts) e.reader = some v from q1]; rfl
  rw [e1]
  exact ⟨q1, q2, q3⟩
/-- The readers' bounds. -/
theorem zz0 (rs : List z21) (m : List (Int × Int)) : ∀ n : Nat, n ≤ rs.length → ∀ b ∈ (rdsN rs m n).b, ∃ r ∈ rs, ∃ v, 1 ≤ v ∧ v < (rdsN rs m n).v ∧ (b = ⟨0, v, 0 - r.low⟩ ∨ b = ⟨v, 0, r.high⟩)
  | 0, _, b, hb => by simp [rdsN] at hb
  | n + 1, hn, b, hb => by
    have hv := (z9s rs m n).1
    have ih := zz0 rs m n (by omega)
    simp only [rdsN, znh] at hb ⊢
    split at hb
    · rename_i hs
      rw [if_pos hs]
      simp only [List.mem_append, List.mem_cons, List.not_mem_nil, or_false] at hb
      rcases hb with hb | rfl | rfl
      · obtain ⟨r, hr, v, q1, q2, q3⟩ := ih b hb
        exact ⟨r, hr, v, q1, by simp only; omega, q3⟩
      · exact ⟨_, z6o (l := rs) (i := (n : Int)) (by omega) (by omega), _, hv, by simp only; omega, .inl rfl⟩
      · exact ⟨_, z6o (l := rs) (i := (n : Int)) (by omega) (by omega), _, hv, by simp only; omega, .inr rfl⟩
    · rename_i hs
      rw [if_neg hs]
      exact ih b hb
theorem y2u {rs : List z21} {ts : List (List z1)} (h : TsOK rs ts) {t : List z1} (ht : t ∈ ts) {e : z1} (he : e ∈ t) {v : Int} (hv : (rd0 rs ts).v ≤ v) {n : Nat} (hn : v < (n : Int)) {b : z8} (hb : b ∈ evB (rdM rs ts) v e) : okBd n b := by
  have h1 := h.early t ht e he
  have h0 := (z9s rs (used ts) rs.length).1
  change 1 ≤ (rd0 rs ts).v at h0
  unfold evB at hb
  split at hb
  · simp only [List.mem_cons, List.not_mem_nil, or_false] at hb
    rcases hb with rfl | rfl <;> exact ⟨by simp only; omega, by simp only; omega, by simp only; omega, by simp only; omega, by simp only; omega, by simp only; omega⟩
  · rename_i hr
    obtain ⟨_, q1, q2⟩ := y57 h ht he (by omega)
    simp only [List.mem_cons, List.not_mem_nil, or_false] at hb
    rcases hb with rfl | rfl | rfl | rfl <;> exact ⟨by simp only; omega, by simp only; omega, by simp only; omega, by simp only; omega, by simp only; omega, by simp only; omega⟩
/-- All bounds are in range. -/
theorem y0a {tv : z0b → z0b → Int} (htv : ∀ a b, 0 ≤ tv a b ∧ tv a b ≤ 1073741825) {rs : List z21} {ts : List (List z1)} (h : TsOK rs ts) : 1 ≤ (bAll tv rs ts).v ∧ ∀ b ∈ (bAll tv rs ts).b, okBd (bAll tv rs ts).v.toNat b := by
  have h0 := (z9s rs (used ts) rs.length).1
  change 1 ≤ (rd0 rs ts).v at h0
  rw [zgv]
  obtain ⟨m1, m2, m3⟩ := ze9 tv (rdM rs ts) ts (rd0 rs ts)
  refine ⟨by omega, fun b hb => ?_⟩
  rcases zun tv (rdM rs ts) ts _ b hb with hb | ⟨A, t, B, rfl, hb⟩
  · obtain ⟨r, hr, v, q1, q2, q3⟩ := zz0 rs (used ts) rs.length (Nat.le_refl _) b hb
    change v < (rd0 rs ts).v at q2
    have := h.rs r hr
    rcases q3 with rfl | rfl <;> exact ⟨by simp only; omega, by simp only; omega, by simp only; omega, by simp only; omega, by simp only; omega, by simp only; omega⟩
  · obtain ⟨k1, k2, k3, k4⟩ := zjr tv (rdM rs (A ++ t :: B)) A B t (rd0 rs (A ++ t :: B))
    obtain ⟨i, e, hi, hb⟩ := zjg tv _ t none _ b hb
    have hlt := (List.getElem?_eq_some_iff.1 hi).1
    have hte : t ∈ A ++ t :: B := by simp
    have hee : e ∈ t := List.mem_of_getElem? hi
    rcases hb with hb | ⟨a, ha, rfl⟩
    · exact y2u h hte hee (by omega) (by omega) hb
    · have := htv a e.visit
      have hi0 : 0 < i := ha.resolve_right (by simp)
      exact ⟨by simp only; omega, by simp only; omega, by simp only; omega, by simp only; omega, by simp only; omega, by simp only; omega⟩
section
variable {X : Int → Int} {m : List (Int × Int)} {v : Int} {e : z1}
theorem zta (hX : ∀ b ∈ evB m v e, X b.j - X b.i ≤ b.w) (he : 0 ≤ e.visit.early ∧ e.visit.early ≤ 1073741824) : 0 ≤ X v - X 0 ∧ X v - X 0 ≤ 1073741824 := by
  unfold evB at hX
  split at hX
  · have h1 := hX ⟨0, v, e.visit.early⟩ (by simp)
    have h2 := hX ⟨v, 0, 0 - e.visit.early⟩ (by simp)
    simp only at h1 h2; omega
  · have h1 := hX ⟨0, v, 1073741824⟩ (by simp)
    have h2 := hX ⟨v, 0, 0⟩ (by simp)
    simp only at h1 h2; omega
theorem zpx (hX : ∀ b ∈ evB m v e, X b.j - X b.i ≤ b.w) (he : 0 ≤ e.reader) : X v - X (rv m e) = e.visit.early := by
  unfold evB at hX
  rw [if_neg (by omega)] at hX
  have h1 := hX ⟨rv m e, v, e.visit.early⟩ (by simp)
  have h2 := hX ⟨v, rv m e, 0 - e.visit.early⟩ (by simp)
  simp only at h1 h2; omega
end
theorem zma {p : Pool} (hc : z1w p = 0) {l : List zc} (hl : FewL l) {w : Int} {x : z1} (h : x ∈ zbg p l w) : x.reader < (p.readers.length : Int) := by
  obtain ⟨y, hy, b, rfl⟩ := zdu h
  obtain ⟨h1, h2, _, h3, h4⟩ := zlr hl.len hy
  show y.reader < _
  have ho := ze3 hc (hl.gt h1 h2) h3
  unfold evs at h4
  split at h4
  · rename_i hk
    simp only [List.mem_singleton] at h4
    rw [h4]; exact (ho.read hk).2
  · split at h4
    · simp only [List.mem_cons, List.not_mem_nil, or_false] at h4
      rcases h4 with q | q <;> rw [q] <;> simp only <;> omega
    · split at h4
      · simp only [List.mem_singleton] at h4
        rw [h4]; simp only; omega
      · cases h4
theorem tsOK {p : Pool} (hc : z1w p = 0) {l : List zc} (hl : FewL l) : TsOK p.readers (z01 p l) := by
  refine ⟨fun t ht e he => ?_, fun t ht e he => ?_, fun r hr => ?_⟩
  · obtain ⟨w, _, rfl⟩ := List.mem_map.1 ht; exact zm9 hc hl he
  · obtain ⟨w, _, rfl⟩ := List.mem_map.1 ht; exact zma hc hl he
  · have := (zjc hc).1 r hr; omega
end Px
end
section
namespace Px
open Go
theorem y2a : zbu 100000000 = some (true, ()) := by kernel_rfl
end Px
end
section
namespace Px
open Go
set_option linter.unusedVariables false
set_option linter.unusedSimpArgs false
theorem y2f {α : Type} [Inhabited α] {l : List α} {i : Nat} (h : i < l.length) : l[i]? = some (gt l (i : Int)) := by rw [z7s h]; exact List.getElem?_eq_getElem h
end Px
end
section
namespace Px
open Go
set_option linter.unusedVariables false
set_option linter.unusedSimpArgs false
theorem zu8 {n : Nat} {L : List z8} (hL : ∀ b ∈ L, okBd n b) : ∀ (f c : Nat) (s : LS), LB n c s → LB n (c + f * L.length) (lowR L f s)
  | 0, c, s, h => h.up (by omega)
  | f + 1, c, s, h => by
    have h1 : LB n c ⟨s.x, s.y, -1⟩ := ⟨h.lx, h.ly, h.bd⟩
    have h2 := h1.rnd hL L.length (Nat.le_refl _)
    have e : c + (f + 1) * L.length = c + L.length + f * L.length := by rw [Nat.add_mul, Nat.one_mul]; omega
    unfold lowR
    rw [e]
    split
    · exact h2.up (by omega)
    · exact zu8 hL f _ _ h2
theorem y35 {n : Nat} {L : List z8} (hn : n ≤ 512) (hl : L.length ≤ 4096) (hL : ∀ b ∈ L, okBd n b) {i : Int} (h0 : 0 ≤ i) (h1 : i < (n : Int)) : -2305843009213693952 ≤ gt (low n L).x i ∧ gt (low n L).x i ≤ 0 := by
  have h := zu8 hL n 0 _ (lb0 n)
  have hm := Nat.mul_le_mul hn hl
  have := (h.up (d := 2097152) (by omega)).bd i h0 h1
  have e : (1099511627776 : Int) * ((2097152 : Nat) : Int) = 2305843009213693952 := by decide
  rw [e] at this
  exact this
theorem y2o {φ : Nat} (hφ : 800000 < φ) {x : z2} {a b : z0b} (h : tvl φ x a b < 1073741825) : ∃ t, zo φ x a.place b.place = some (t, 0, ()) ∧ tvl φ x a b = t := by
  unfold tvl z3c at h ⊢
  split at h
  · simp at h
  · rename_i hc
    rw [if_neg hc]
    obtain ⟨t, e, hb, _, _⟩ := zfg φ hφ x a.place b.place
    rw [hb, Option.bind_some] at h
    rw [hb, Option.bind_some]
    split at h
    · simp at h
    · rename_i he
      rw [if_neg he]
      simp only [bne_iff_ne, ne_eq, Decidable.not_not] at he
      subst he
      exact ⟨t, rfl, rfl⟩
theorem zop {α : Type} {A B : List α} {i : Nat} {a b : α} (h1 : (A ++ B)[i]? = some a) (h2 : (A ++ B)[i + 1]? = some b) : (A[i]? = some a ∧ A[i + 1]? = some b) ∨ (a ∈ A ∧ B[0]? = some b) ∨ ∃ k, B[k]? = some a ∧ B[k + 1]? = some b := by
  by_cases q : i + 1 < A.length
  · rw [List.getElem?_append_left q] at h2
    rw [List.getElem?_append_left (by omega)] at h1
    exact .inl ⟨h1, h2⟩
  · rw [List.getElem?_append_right (by omega)] at h2
    by_cases q2 : i < A.length
    · rw [List.getElem?_append_left q2] at h1
      refine .inr (.inl ⟨List.mem_of_getElem? h1, ?_⟩)
      rwa [show i + 1 - A.length = 0 by omega] at h2
    · rw [List.getElem?_append_right (by omega)] at h1
      refine .inr (.inr ⟨i - A.length, h1, ?_⟩)
      rwa [show i + 1 - A.length = i - A.length + 1 by omega] at h2
def y1c (ts : List (List z1)) : Prop := ts.Pairwise fun t t' => ∀ x ∈ t, ∀ y ∈ t', x.visit.wagon ≠ y.visit.wagon
/-- Events that follow each other, of one wagon, are of one zbg. -/
theorem zsf (tv m) (s : BS) (hs : s.e = []) : ∀ (n : Nat) (ts : List (List z1)), ts.length = n → y1c ts → ∀ (i : Nat) (a b : z0u), (fB tv m ts s).e[i]? = some a → (fB tv m ts s).e[i + 1]? = some b → a.wagon = b.wagon →
    ∃ A t B, ∃ k : Nat, ∃ x y, ts = A ++ t :: B ∧ t[k]? = some x ∧ t[k + 1]? = some y ∧ a = evE ((fB tv m A s).v + (k : Int)) x ∧ b = evE ((fB tv m A s).v + ((k + 1 : Nat) : Int)) y
  | 0, ts, hn, _, i, a, b, h1, h2, _ => by
    have : ts = [] := List.eq_nil_of_length_eq_zero hn
    subst this
    simp [fB, hs] at h1
  | n + 1, ts, hn, hA, i, a, b, h1, h2, hw => by
    rcases List.eq_nil_or_concat ts with rfl | ⟨us, t, rfl⟩
    · simp at hn
    · rw [List.concat_eq_append] at *
      have e1 : fB tv m (us ++ [t]) s = bEv tv m none t (fB tv m us s) := by rw [zyo]; rfl
      rw [e1, zsa] at h1 h2
      have hA2 := List.pairwise_append.1 hA
      rcases zop h1 h2 with ⟨q1, q2⟩ | ⟨q1, q2⟩ | ⟨k, q1, q2⟩
      · obtain ⟨A, t', B, k, x, y, r1, r2⟩ := zsf tv m s hs n us (by simpa using hn) hA2.1 i a b q1 q2 hw
        exact ⟨A, t', B ++ [t], k, x, y, by rw [r1]; simp, r2⟩
      · exfalso
        rw [zhd] at q2
        obtain ⟨y, hy, rfl⟩ := Option.map_eq_some_iff.1 q2
        rcases zon tv m us s a q1 with h | ⟨A, t', B, r1, r2⟩
        · rw [hs] at h; cases h
        · obtain ⟨j, hj⟩ := List.getElem?_of_mem r2
          rw [zhd] at hj
          obtain ⟨x, hx, rfl⟩ := Option.map_eq_some_iff.1 hj
          exact hA2.2.2 t' (by rw [r1]; simp) t (by simp) x (List.mem_of_getElem? hx) y (List.mem_of_getElem? hy) hw
      · rw [zhd] at q1 q2
        obtain ⟨x, hx, rfl⟩ := Option.map_eq_some_iff.1 q1
        obtain ⟨y, hy, rfl⟩ := Option.map_eq_some_iff.1 q2
        exact ⟨us, t, [], k, x, y, rfl, hx, hy, rfl, rfl⟩
theorem zhb {p : Pool} {l : List zc} (hl : FewL l) {w : Int} {x : z1} (h : x ∈ zbg p l w) : x.visit.wagon = w := by
  obtain ⟨y, hy, b, rfl⟩ := zdu h
  exact (zlr hl.len hy).2.2.1
theorem zmo (p : Pool) {l : List zc} (hl : FewL l) : y1c (z01 p l) := by
  unfold y1c z01
  rw [List.pairwise_map]
  refine List.pairwise_lt_range.imp fun {a b} hab x hx y hy => ?_
  rw [zhb hl hx, zhb hl hy]
  omega
/-- An event's variable and bounds. -/
theorem y1q {tv : z0b → z0b → Int} {rs : List z21} {ts : List (List z1)} {ev : z0u} (h : ev ∈ (bAll tv rs ts).e) : ∃ t ∈ ts, ∃ x ∈ t, ∃ v, ev = evE v x ∧ 1 ≤ v ∧ v < (bAll tv rs ts).v ∧ ∀ b ∈ evB (rdM rs ts) v x, b ∈ (bAll tv rs ts).b := by
  rw [zgv] at h ⊢
  have h0 := (z9s rs (used ts) rs.length).1
  change 1 ≤ (rd0 rs ts).v at h0
  rcases zon tv (rdM rs ts) ts _ ev h with h | ⟨A, t, B, rfl, h⟩
  · cases h
  · obtain ⟨k1, k2, k3, k4⟩ := zjr tv (rdM rs (A ++ t :: B)) A B t (rd0 rs (A ++ t :: B))
    obtain ⟨i, hi⟩ := List.getElem?_of_mem h
    rw [zhd] at hi
    obtain ⟨x, hx, rfl⟩ := Option.map_eq_some_iff.1 hi
    have hlt := (List.getElem?_eq_some_iff.1 hx).1
    exact ⟨t, by simp, x, List.mem_of_getElem? hx, _, rfl, by omega, by omega, fun b hb => k3 b (zl3 tv _ t none _ i x hx b hb)⟩
theorem zsd (φ : Nat) (x : z05) (r : Ref) (hx : x.events.length ≤ 10000) (hφ : 10001 < φ) : ∃ u, z9b φ x r = some (u, ()) ∧ (u = -1 ∨ ∃ ev ∈ x.events, ev.ref = r ∧ ev.var = u) := by
  unfold z9b
  refine zy (fun n i (_ : Unit) => z3j φ n i x r) x.events.length (fun i _ => True) (fun o => ∃ u, o = some (u, ()) ∧ (u = -1 ∨ ∃ ev ∈ x.events, ev.ref = r ∧ ev.var = u)) ?_ ?_ φ () trivial (by omega)
  · intro n i _ hi _ hk
    rw [z3j, if_pos (by simp; omega), z6 ⟨by omega, by omega⟩, W_id (by omega) (by omega)]
    split
    · rename_i h
      rw [z6 ⟨by omega, by omega⟩]
      simp only [Bool.and_true, Bool.and_eq_true, beq_iff_eq] at h
      exact ⟨_, rfl, .inr ⟨_, z6o (l := x.events) (i := (i : Int)) (by omega) (by omega), by rw [zzj]; exact h, rfl⟩⟩
    · exact hk () trivial
  · intro n _ _
    rw [z3j, if_neg (by simp)]
    exact ⟨_, rfl, .inl rfl⟩
theorem zy8 {l : List zc} (hd : zid l) {i j : Int} (hi : 0 ≤ i) (hi' : i < (l.length : Int)) (hj : 0 ≤ j) (hj' : j < (l.length : Int)) (h : (gt l i).ref = (gt l j).ref) : i = j := by
  have h1 := zsi hd i.toNat (by omega)
  have h2 := zsi hd j.toNat (by omega)
  rw [show ((i.toNat : Nat) : Int) = i by omega] at h1
  rw [show ((j.toNat : Nat) : Int) = j by omega] at h2
  rw [h] at h1
  omega
/-- The event of a read. -/
theorem zuv {p : Pool} (hc : z1w p = 0) {l : List zc} (hl : FewL l) (hd : zid l) {t : List z1} (ht : t ∈ z01 p l) {x : z1} (hx : x ∈ t) {i : Int} (hi : 0 ≤ i) (hi' : i < (l.length : Int)) (hr : x.visit.ref = (gt l i).ref) (hk : (gt l i).item.kind = 1) :
    x.reader = (gt l i).item.other ∧ 0 ≤ x.reader ∧ x.visit.early = (gt l i).item.from_ ∧ 0 ≤ (gt l i).item.from_ ∧ (gt l i).item.from_ ≤ 1073741824 := by
  obtain ⟨w, _, rfl⟩ := List.mem_map.1 ht
  obtain ⟨y, hy, b, rfl⟩ := zdu hx
  obtain ⟨a1, a2, a3, a4, a5⟩ := zlr hl.len hy
  obtain ⟨r1, r2, r3⟩ := zc1 a5
  have e : y.report = i := zy8 hd a1 a2 hi hi' (by rw [← r3]; exact hr)
  have ho := ze3 hc (hl.gt a1 a2) a4
  rw [e] at a5 ho
  unfold evs at a5
  rw [if_pos hk, List.mem_singleton] at a5
  have h1 := ho.read hk
  have h2 := ho.from_ (by omega)
  show y.reader = _ ∧ 0 ≤ y.reader ∧ y.visit.early = _ ∧ _
  rw [a5]
  exact ⟨rfl, h1.1, rfl, h2.1, h2.2⟩
/-- What a solution is. -/
structure Sol (s : BS) (x : List Int) : Prop where
  len : (x.length : Int) = s.v
  sat : ∀ b ∈ s.b, gt x b.j - gt x b.i ≤ b.w
  bd : ∀ i : Int, 0 ≤ i → i < s.v → -2305843009213693952 ≤ gt x i ∧ gt x i ≤ 0
theorem zx4 {tv : z0b → z0b → Int} {p : Pool} (hc : z1w p = 0) {l : List zc} (hl : FewL l) (hd : zid l) {x : List Int} (hx : Sol (bAll tv p.readers (z01 p l)) x) {i j : Int} (hi : 0 ≤ i) (hi' : i < (l.length : Int)) (hj : 0 ≤ j) (hj' : j < (l.length : Int))
    (ki : (gt l i).item.kind = 1) (kj : (gt l j).item.kind = 1) (hij : (gt l i).item.other = (gt l j).item.other) {a b : z0u} (ha : a ∈ (bAll tv p.readers (z01 p l)).e) (hb : b ∈ (bAll tv p.readers (z01 p l)).e) (ra : a.ref = (gt l i).ref) (rb : b.ref = (gt l j).ref) :
    W (gt x a.var - gt x b.var) = W ((gt l i).item.from_ - (gt l j).item.from_) := by
  obtain ⟨t, ht, y, hy, v, rfl, v1, v2, hv⟩ := y1q ha
  obtain ⟨u, hu, z, hz, w, rfl, w1, w2, hw⟩ := y1q hb
  obtain ⟨a1, a2, a3, a4, a5⟩ := zuv hc hl hd ht hy hi hi' ra ki
  obtain ⟨b1, b2, b3, b4, b5⟩ := zuv hc hl hd hu hz hj hj' rb kj
  have q1 := zpx (X := gt x) (fun c hc => hx.sat c (hv c hc)) a2
  have q2 := zpx (X := gt x) (fun c hc => hx.sat c (hw c hc)) b2
  have e : rv (rdM p.readers (z01 p l)) y = rv (rdM p.readers (z01 p l)) z := by unfold rv; rw [a1, b1, hij]
  rw [e] at q1
  show W (gt x v - gt x w) = _
  congr 1
  omega
theorem zlx (φ : Nat) (hφ : 60000000 < φ) {tv : z0b → z0b → Int} {p : Pool} (hc : z1w p = 0) {l : List zc} (hl : FewL l) (hl5 : l.length ≤ 500) (hd : zid l) {s : BS} (hs : s = bAll tv p.readers (z01 p l)) (he : s.e.length ≤ 10000) {x : List Int} (hx : Sol s x) :
    z4m φ l ⟨s.v, s.b, s.y, s.e⟩ x = some (true, ()) := by
  unfold z4m
  refine zy (fun n i (_ : Unit) => z0o φ n l x i ⟨s.v, s.b, s.y, s.e⟩) l.length (fun i _ => True) (fun o => o = some (true, ())) ?_ ?_ φ () trivial (by omega)
  · intro n i _ hi _ hk
    rw [z0o, if_pos (by simp; omega)]
    refine zy (fun n2 k (_ : Unit) => z0h φ (z0o φ n) n2 l x (i : Int) k ⟨s.v, s.b, s.y, s.e⟩) i (fun i _ => True) (fun o => o = some (true, ())) ?_ ?_ φ () trivial (by omega)
    · intro n2 k _ hk2 _ hkk
      rw [z0h, if_pos (by simp; omega), z6 ⟨by omega, by omega⟩, z6 ⟨by omega, by omega⟩, W_id (x := (k : Int) + 1) (by omega) (by omega)]
      split
      · exact hkk () trivial
      · rename_i hcond
        simp only [Bool.or_eq_true, bne_iff_ne, ne_eq, not_or, Decidable.not_not] at hcond
        obtain ⟨⟨k1, k2⟩, k3⟩ := hcond
        obtain ⟨u, hu, hu2⟩ := zsd φ ⟨s.v, s.b, s.y, s.e⟩ (gt l (i : Int)).ref he (by omega)
        obtain ⟨v, hv, hv2⟩ := zsd φ ⟨s.v, s.b, s.y, s.e⟩ (gt l (k : Int)).ref he (by omega)
        rw [hu, Option.bind_some, hv, Option.bind_some]
        have hcc : ((((decide ((0 : Int) ≤ u)) && (decide ((0 : Int) ≤ v))) && (decide ((u : Int) < (x.length : Int)))) && (decide ((v : Int) < (x.length : Int)))) = true ↔ 0 ≤ u ∧ 0 ≤ v ∧ u < x.length ∧ v < x.length := by
          simp only [Bool.and_eq_true, decide_eq_true_eq]; omega
        rw [z6 (fun h => by have := hcc.1 h; omega), z6 (fun h => by have := hcc.1 h; omega), if_neg]
        · exact hkk () trivial
        · intro h
          rw [Bool.and_eq_true, hcc] at h
          obtain ⟨⟨u0, v0, u1, v1⟩, h⟩ := h
          rcases hu2 with q | ⟨ea, ha, ra, va⟩
          · omega
          rcases hv2 with q | ⟨eb, hb, rb, vb⟩
          · omega
          simp only [bne_iff_ne, ne_eq] at h
          apply h
          rw [← va, ← vb]
          subst hs
          exact zx4 hc hl hd hx (by omega) (by omega) (by omega) (by omega) k1 k2 k3 ha hb ra rb
    · intro n2 _ _
      rw [z0h, if_neg (by simp), W_id (by omega) (by omega)]
      exact hk () trivial
  · intro n _ _
    rw [z0o, if_neg (by simp)]
theorem y1u {φ : Nat} (hφ : 800000 < φ) {p : Pool} (hc : z1w p = 0) {l : List zc} (hl : FewL l) {s : BS} (hs : s = bAll (tvl φ p.network) p.readers (z01 p l)) {x : List Int} (hx : Sol s x) {i : Nat} {a b : z0u} (ha : s.e[i]? = some a) (hb : s.e[i + 1]? = some b) (hw : a.wagon = b.wagon) :
    ∃ t, zo φ p.network a.place b.place = some (t, 0, ()) ∧ t ≤ gt x b.var - gt x a.var := by
  have hT := tsOK hc hl
  subst hs
  rw [zgv] at ha hb
  obtain ⟨A, t, B, k, y, z, e1, hy, hz, rfl, rfl⟩ := zsf (tvl φ p.network) (rdM p.readers (z01 p l)) (rd0 p.readers (z01 p l)) rfl _ (z01 p l) rfl (zmo p hl) i a b ha hb hw
  have hsat := hx.sat
  rw [zgv] at hsat
  have ht : t ∈ z01 p l := by rw [e1]; simp
  obtain ⟨k1, k2, k3, k4⟩ := zjr (tvl φ p.network) (rdM p.readers (z01 p l)) A B t (rd0 p.readers (z01 p l))
  rw [← e1] at k3
  have q1 := zta (X := gt x) (fun c hc => hsat c (k3 c (zl3 _ _ t none _ k y hy c hc))) (hT.early t ht y (List.mem_of_getElem? hy))
  have q2 := zta (X := gt x) (fun c hc => hsat c (k3 c (zl3 _ _ t none _ (k + 1) z hz c hc))) (hT.early t ht z (List.mem_of_getElem? hz))
  have q3 := hsat _ (k3 _ (zss (tvl φ p.network) (rdM p.readers (z01 p l)) t none _ k y z hy hz))
  generalize (fB (tvl φ p.network) (rdM p.readers (z01 p l)) A (rd0 p.readers (z01 p l))).v = v at *
  simp only at q3
  rw [show v + ((k + 1 : Nat) : Int) = v + k + 1 by omega] at q2 ⊢
  obtain ⟨n, hn, hn2⟩ := y2o (a := y.visit) (b := z.visit) (x := p.network) hφ (by omega)
  exact ⟨n, hn, by show n ≤ gt x (v + k + 1) - gt x (v + k); omega⟩
theorem zzd {tv : z0b → z0b → Int} {rs : List z21} {ts : List (List z1)} {ev : z0u} (h : ev ∈ (bAll tv rs ts).e) : 1 ≤ ev.var ∧ ev.var < (bAll tv rs ts).v := by
  obtain ⟨t, ht, y, hy, v, rfl, v1, v2, hv⟩ := y1q h
  exact ⟨v1, v2⟩
theorem zol (φ : Nat) (hφ : 60000000 < φ) {p : Pool} (hc : z1w p = 0) {l : List zc} (hl : FewL l) (hl5 : l.length ≤ 500) (hd : zid l) {s : BS} (hs : s = bAll (tvl φ p.network) p.readers (z01 p l)) (he : s.e.length ≤ 10000) {x : List Int} (hx : Sol s x) :
    zx φ φ l x 1 p ⟨s.v, s.b, s.y, s.e⟩ = some (true, ()) := by
  have hclock := zlx φ hφ hc hl hl5 hd hs he hx
  refine zpa (fun n i (_ : Unit) => zx φ n l x i p ⟨s.v, s.b, s.y, s.e⟩) (max 1 s.e.length) (fun i _ => 1 ≤ i) (fun o => o = some (true, ())) ?_ ?_ φ 1 () (by omega) (by omega) (by omega)
  · intro n i _ hi hi1 hk
    have hW : W ((i : Int) - 1) = ((i - 1 : Nat) : Int) := by rw [W_id (by omega) (by omega)]; omega
    have ha := y2f (l := s.e) (i := i - 1) (by omega)
    have hb := y2f (l := s.e) (i := i) (by omega)
    have hva := zzd (tv := tvl φ p.network) (rs := p.readers) (ts := z01 p l) (ev := gt s.e ((i - 1 : Nat) : Int)) (by rw [← hs]; exact List.mem_of_getElem? ha)
    have hvb := zzd (tv := tvl φ p.network) (rs := p.readers) (ts := z01 p l) (ev := gt s.e (i : Int)) (by rw [← hs]; exact List.mem_of_getElem? hb)
    rw [← hs] at hva hvb
    have hxl := hx.len
    rw [zx, if_pos (by simp; omega), hW, z6 ⟨by omega, by simp only; omega⟩, z6 ⟨by omega, by simp only; omega⟩, if_neg (by
      simp only [Bool.or_eq_true, decide_eq_true_eq]; omega)]
    obtain ⟨n', e', hbt, n0, n1⟩ := zfg φ (by omega) p.network (gt s.e ((i - 1 : Nat) : Int)).place (gt s.e (i : Int)).place
    simp only
    rw [hbt, Option.bind_some, z6 (fun _ => ⟨by omega, by omega⟩), z6 (fun _ => ⟨by omega, by omega⟩), W_id (x := (i : Int) + 1) (by omega) (by omega), if_neg]
    · exact hk () (by omega)
    · intro h
      simp only [Bool.and_eq_true, beq_iff_eq, Bool.or_eq_true, bne_iff_ne, ne_eq, decide_eq_true_eq] at h
      obtain ⟨hw, h⟩ := h
      obtain ⟨n2, h2, h3⟩ := y1u (by omega) hc hl hs hx ha (by rw [show i - 1 + 1 = i by omega]; exact hb) hw
      rw [hbt] at h2
      simp only [Option.some.injEq, Prod.mk.injEq, and_true] at h2
      have b1 := hx.bd (gt s.e ((i - 1 : Nat) : Int)).var (by omega) (by omega)
      have b2 := hx.bd (gt s.e (i : Int)).var (by omega) (by omega)
      rw [W_id (by omega) (by omega)] at h
      omega
  · intro n _ _
    rw [zx, if_neg (by simp only [decide_eq_true_eq]; omega), hclock, Option.bind_some]
theorem zio (φ : Nat) (p : Pool) (l : List zc) : (z2e φ).F (p, l, ()) = z23 φ p l := rfl
theorem zsn (tv m) : ∀ (ts : List (List z1)) (s : BS), (fB tv m ts s).e.length ≤ s.e.length + ((fB tv m ts s).v - s.v).toNat
  | [], s => by simp [fB]
  | t :: ts, s => by
    have ih := zsn tv m ts (bEv tv m none t s)
    have hm := (ze9 tv m ts (bEv tv m none t s)).1
    have e1 : fB tv m (t :: ts) s = fB tv m ts (bEv tv m none t s) := rfl
    rw [e1]
    rw [zx2] at ih hm
    rw [zsa, List.length_append, zqx] at ih
    omega
theorem zsk (tv) (rs : List z21) (ts : List (List z1)) : ((bAll tv rs ts).e.length : Int) ≤ (bAll tv rs ts).v := by
  have h0 := (z9s rs (used ts) rs.length).1
  change 1 ≤ (rd0 rs ts).v at h0
  have := zsn tv (rdM rs ts) ts (rd0 rs ts)
  have hm := (ze9 tv (rdM rs ts) ts (rd0 rs ts)).1
  rw [zgv]
  simp only [rd0, List.length_nil] at this
  simp only [rd0] at hm h0 ⊢
  omega
theorem zf3 (x : Tup TT [30, 38]) (h : y25 TV 30 [30, 38] x) : ∃ φ, (z2e φ).F x = some (true, ()) := by
  obtain ⟨p, l, _⟩ := x
  change List zc at l
  change Pool at p
  suffices key : ∃ φ, z23 φ p l = some (true, ()) by
    obtain ⟨φ, h⟩ := key
    exact ⟨φ, (zio φ p l).trans h⟩
  suffices key : ∀ φ : Nat, 60000000 < φ → zbu φ = some (true, ()) → z23 φ p l = some (true, ()) from ⟨100000000, key _ (by omega) y2a⟩
  intro φ hφ hsane
  unfold z23
  obtain ⟨bf, hbf, hfew⟩ := y3v φ (by omega) p l
  rw [hsane, Option.bind_some, if_neg (by simp), hbf, Option.bind_some]
  cases bf with
  | false => rw [gz_f (by simp), Option.bind_some, if_pos (by simp)]
  | true =>
  obtain ⟨hl, hlen, _⟩ := hfew rfl
  obtain ⟨bd, hbd1, hbd2⟩ := zlp φ (by omega) l (by omega)
  rw [gz_t (by simp), hbd1, Option.bind_some]
  cases bd with
  | false => rw [if_pos (by simp)]
  | true =>
  have hd := hbd2 rfl
  rw [if_neg (by simp), zy0 φ (by omega) p hl, Option.bind_some]
  by_cases hc : z1w p = 0
  case neg =>
    rw [if_neg hc]
    simp only
    rw [zkb φ (by omega), Option.bind_some, if_pos (by simp [hc])]
    simp [hc]
  rw [if_pos hc]
  have htv : ∀ a b, 0 ≤ tvl φ p.network a b ∧ tvl φ p.network a b ≤ 1073741825 := fun a b => (zz3 φ (by omega) p.network a b).2
  have hT := tsOK hc hl
  obtain ⟨v1, hbd⟩ := y0a htv hT
  have hel := zsk (tvl φ p.network) p.readers (z01 p l)
  have hend := fun x he hx => zol φ hφ hc hl (by omega) hd (s := bAll (tvl φ p.network) p.readers (z01 p l)) rfl he (x := x) hx
  generalize bAll (tvl φ p.network) p.readers (z01 p l) = s at *
  unfold bEnd
  by_cases hlim : 512 < s.v ∨ 4096 < s.b.length
  · rw [if_pos hlim]
    simp only
    rw [zkb φ (by omega), Option.bind_some, if_pos (by simp)]
    simp
  rw [if_neg hlim]
  simp only
  have hn : chkD s.v s.b = 0 := by
    have := y03 (n := s.v.toNat) (L := s.b) (by omega) (by omega) (by omega) hbd
    rwa [show ((s.v.toNat : Nat) : Int) = s.v by omega] at this
  have hsol : z9c φ s.v s.b = some (if 0 ≤ (low s.v.toNat s.b).z then ([], 230, ()) else ((low s.v.toNat s.b).x, 0, ())) := by
    rw [zkb φ (by omega), if_neg (by simp [hn])]
  rw [hsol, Option.bind_some]
  by_cases hz : 0 ≤ (low s.v.toNat s.b).z
  · rw [if_pos hz, if_pos (by simp)]
    simp
  · rw [if_neg hz, if_neg (by simp)]
    have hlow := zyk (n := s.v.toNat) (L := s.b) (by omega) hbd
    have hll : (((low s.v.toNat s.b).x.length : Nat) : Int) = s.v := by rw [hlow.len]; omega
    simp only
    rw [if_neg (by simp [hll])]
    refine hend _ (by omega) ⟨hll, fun b hb => y0g (by omega) hbd (by omega) hb, fun i h0 h1 => y35 (by omega) (by omega) hbd h0 (by omega)⟩
end Px
end
