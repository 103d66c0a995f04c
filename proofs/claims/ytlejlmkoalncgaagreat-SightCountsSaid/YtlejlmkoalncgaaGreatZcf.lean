/- A part of the proof of sightCounts_holds. Conditions: none. -/
import Derived.Test.YtlejlmkoalncgaaGreatZce
section
namespace Px
open Go
set_option linter.unusedVariables false
set_option linter.unusedSimpArgs false
theorem zui (φ : Nat) (hφ : 800000 < φ) (x : z7) (a b : z1f) : ∃ t, z5k φ x a b = some (t, ()) ∧ 0 ≤ t ∧ t ≤ 1073741825 := by
  unfold z5k
  split
  · exact ⟨_, rfl, by omega, by omega⟩
  · obtain ⟨t, e, h, h1, h2⟩ := zu1 φ hφ x a.place b.place
    rw [h, Option.bind_some]
    split
    · exact ⟨_, rfl, by omega, by omega⟩
    · exact ⟨_, rfl, h1, by omega⟩
/-- The least travel time as Build takes it. -/
def tvl (φ : Nat) (x : z7) (a b : z1f) : Int := ((z5k φ x a b).getD default).1
theorem y4b (φ : Nat) (hφ : 800000 < φ) (x : z7) (a b : z1f) : z5k φ x a b = some (tvl φ x a b, ()) ∧ 0 ≤ tvl φ x a b ∧ tvl φ x a b ≤ 1073741825 := by
  obtain ⟨t, h, h1, h2⟩ := zui φ hφ x a b
  unfold tvl
  rw [h]
  exact ⟨rfl, h1, h2⟩
def y0 : Nat → Ref := fun _ => (default : Ref)
def y1 (r : Ref) : Nat → Ref := upd (fun _ => (default : Ref)) 0 r
def y2 (r q : Ref) : Nat → Ref := upd (upd (fun _ => (default : Ref)) 0 r) 1 q
/-- Which readers are used. -/
def y2i (m : List (Int × Int)) (e : z1) : List (Int × Int) := if 0 ≤ e.reader then mset m e.reader 0 else m
def zkc (m : List (Int × Int)) (t : List z1) : List (Int × Int) := t.foldl y2i m
def used (ts : List (List z1)) : List (Int × Int) := ts.foldl zkc []
/-- What is built. -/
structure BS where
  v : Int
  b : List zo
  y : List (Nat → Ref)
  e : List z1w
structure RS where
  v : Int
  m : List (Int × Int)
  b : List zo
  y : List (Nat → Ref)
def zve (rs : List z7z) (i : Nat) (s : RS) : RS :=
  if (mget s.m (i : Int)).isSome = true then ⟨s.v + 1, mset s.m (i : Int) s.v, s.b ++ [⟨0, s.v, 0 - (gt rs (i : Int)).low⟩, ⟨s.v, 0, (gt rs (i : Int)).high⟩], s.y ++ [y0, y0]⟩ else s
def rdsN (rs : List z7z) (m : List (Int × Int)) : Nat → RS
  | 0 => ⟨1, m, [], []⟩
  | n + 1 => zve rs n (rdsN rs m n)
def rv (m : List (Int × Int)) (e : z1) : Int := (mget m e.reader).getD default
def evB (m : List (Int × Int)) (v : Int) (e : z1) : List zo :=
  if e.reader < 0 then [⟨0, v, e.visit.early⟩, ⟨v, 0, 0 - e.visit.early⟩]
  else [⟨rv m e, v, e.visit.early⟩, ⟨v, rv m e, 0 - e.visit.early⟩, ⟨0, v, 1073741824⟩, ⟨v, 0, 0⟩]
def evY (e : z1) : List (Nat → Ref) := List.replicate (if e.reader < 0 then 2 else 4) (y1 e.visit.ref)
def trB (tv : z1f → z1f → Int) (v : Int) (pr : Option z1f) (e : z1) : List zo :=
  match pr with
  | none => []
  | some a => [⟨v, v - 1, 0 - tv a e.visit⟩]
def trY (pr : Option z1f) (e : z1) : List (Nat → Ref) :=
  match pr with
  | none => []
  | some a => [y2 a.ref e.visit.ref]
def znt (tv : z1f → z1f → Int) (m : List (Int × Int)) (pr : Option z1f) (e : z1) (s : BS) : BS :=
  ⟨s.v + 1, s.b ++ evB m s.v e ++ trB tv s.v pr e, s.y ++ evY e ++ trY pr e, s.e ++ [⟨e.visit.wagon, e.visit.place, s.v, e.visit.ref, e.visit.stay⟩]⟩
def bEv (tv : z1f → z1f → Int) (m : List (Int × Int)) : Option z1f → List z1 → BS → BS
  | _, [], s => s
  | pr, e :: t, s => bEv tv m (some e.visit) t (znt tv m pr e s)
def bAll (tv : z1f → z1f → Int) (rs : List z7z) (ts : List (List z1)) : BS :=
  ts.foldl (fun s t => bEv tv (rdsN rs (used ts) rs.length).m none t s) ⟨(rdsN rs (used ts) rs.length).v, (rdsN rs (used ts) rs.length).b, (rdsN rs (used ts) rs.length).y, []⟩
def bEnd (s : BS) : z04 × Int × Unit := if 512 < s.v ∨ 4096 < s.b.length then (⟨0, [], [], []⟩, 2, ()) else (⟨s.v, s.b, s.y, s.e⟩, 0, ())
def z34 (p : Pool) (l : List z6) : List (List z1) := (List.range p.fleet.wagons.length).map fun (w : Nat) => zaj p l (w : Int)
theorem zna (rs : List z7z) (m : List (Int × Int)) : ∀ n, 1 ≤ (rdsN rs m n).v ∧ (rdsN rs m n).v ≤ 1 + n ∧ (rdsN rs m n).b.length ≤ 2 * n ∧ (rdsN rs m n).y.length ≤ 2 * n
  | 0 => ⟨by simp [rdsN], by simp [rdsN], by simp [rdsN], by simp [rdsN]⟩
  | n + 1 => by
    obtain ⟨h1, h2, h3, h4⟩ := zna rs m n
    simp only [rdsN, zve]
    split
    · refine ⟨?_, ?_, ?_, ?_⟩ <;> simp <;> omega
    · refine ⟨?_, ?_, ?_, ?_⟩ <;> omega
theorem y3c (m : List (Int × Int)) (v : Int) (e : z1) : (evB m v e).length ≤ 4 := by
  unfold evB; split <;> simp
theorem y3l (e : z1) : (evY e).length ≤ 4 := by
  unfold evY; split <;> simp
theorem y3m (tv : z1f → z1f → Int) (v : Int) (pr : Option z1f) (e : z1) : (trB tv v pr e).length ≤ 1 := by
  cases pr <;> simp [trB]
theorem y3t (pr : Option z1f) (e : z1) : (trY pr e).length ≤ 1 := by
  cases pr <;> simp [trY]
/-- How much there is. -/
structure BB (n : Nat) (s : BS) : Prop where
  v0 : 1 ≤ s.v
  v1 : s.v ≤ 257 + n
  b : s.b.length ≤ 512 + 5 * n
  y : s.y.length ≤ 512 + 5 * n
  e : s.e.length ≤ n
theorem BB.step {n : Nat} {s : BS} (h : BB n s) (tv m pr e) : BB (n + 1) (znt tv m pr e s) := by
  have h1 := y3c m s.v e
  have h2 := y3l e
  have h3 := y3m tv s.v pr e
  have h4 := y3t pr e
  obtain ⟨a, b, c, d, f⟩ := h
  unfold znt
  constructor
  · show 1 ≤ s.v + 1; omega
  · show s.v + 1 ≤ 257 + ((n + 1 : Nat) : Int); omega
  · show (s.b ++ evB m s.v e ++ trB tv s.v pr e).length ≤ _
    rw [List.length_append, List.length_append]; omega
  · show (s.y ++ evY e ++ trY pr e).length ≤ _
    rw [List.length_append, List.length_append]; omega
  · show (s.e ++ [_]).length ≤ _
    rw [List.length_append]; simp; omega
theorem BB.ev (tv m) : ∀ (t : List z1) (n : Nat) (pr : Option z1f) (s : BS), BB n s → BB (n + t.length) (bEv tv m pr t s)
  | [], n, pr, s, h => h
  | e :: t, n, pr, s, h => by
    have := BB.ev tv m t (n + 1) (some e.visit) (znt tv m pr e s) (h.step tv m pr e)
    rw [show n + (e :: t).length = n + 1 + t.length by simp; omega]
    exact this
section
variable (φ : Nat)
/-- The two bounds of a reader. -/
theorem y62 (hφ : 10 < φ) (k) (x55 x56 x57 x58 x59 x60 x61 x62 x63 x64 x65 x66 x67 x68) (B : List zo) (x70 x71 x72 x73) (b : List zo) (y : List (Nat → Ref)) (x76 x77 x78 x79) (hB : B.length ≤ 4) (hb : b.length ≤ 50000000) (hy : y.length ≤ 50000000) :
    z21 φ k φ (B.length : Int) 0 x55 x56 x57 x58 x59 x60 x61 x62 x63 x64 x65 x66 x67 x68 B x70 x71 x72 x73 b y x76 x77 x78 x79 = k x55 x56 x57 (W (x58 + 1)) x70 x71 (W (x67 + 1)) x72 x77 x78 x79 (b ++ B) (y ++ List.replicate B.length x68) x76 := by
  refine z01 (fun n i (s : List zo × List (Nat → Ref)) => z21 φ k n (B.length : Int) i x55 x56 x57 x58 x59 x60 x61 x62 x63 x64 x65 x66 x67 x68 B x70 x71 x72 x73 s.1 s.2 x76 x77 x78 x79) B.length (fun i s => s.1 = b ++ B.take i ∧ s.2 = y ++ List.replicate i x68) (fun o => o = k x55 x56 x57 (W (x58 + 1)) x70 x71 (W (x67 + 1)) x72 x77 x78 x79 (b ++ B) (y ++ List.replicate B.length x68) x76) ?_ ?_ φ (b, y) ⟨by simp, by simp⟩ (by omega)
  · intro n i s hi ⟨h1, h2⟩ hs
    rw [z21, if_pos (by simp; omega), z2 ⟨by omega, by omega⟩, z2 (zet (by rw [h1]; simp; omega) (by omega)), z2 (zet (by rw [h2]; simp; omega) (by omega)), W_id (by omega) (by omega)]
    exact hs (_, _) ⟨by rw [h1, z1a B i hi, List.append_assoc], by rw [h2, List.replicate_succ', List.append_assoc]⟩
  · intro n s ⟨h1, h2⟩
    rw [z21, if_neg (by simp), h1, h2, List.take_length]
theorem y4p (hφ : 10 < φ) (k) (x137 x138 x139 x140 x141 x142 x143 x144 x145 x146 x147 x148 x149 x150 x151 x152 x153 x154 x155 x156 x157) (B : List zo) (x159 x160 x161 x162 x163) (b : List zo) (y : List (Nat → Ref)) (x166 x167 x168 x169) (hB : B.length ≤ 4) (hb : b.length ≤ 50000000) (hy : y.length ≤ 50000000) :
    z1q φ k φ (B.length : Int) 0 x137 x138 x139 x140 x141 x142 x143 x144 x145 x146 x147 x148 x149 x150 x151 x152 x153 x154 x155 x156 x157 B x159 x160 x161 x162 x163 b y x166 x167 x168 x169 = k x137 x138 x139 x140 x141 x142 (W (x143 + 1)) x159 x160 x156 x161 x167 x168 x169 (b ++ B) (y ++ List.replicate B.length x157) x166 := by
  refine z01 (fun n i (s : List zo × List (Nat → Ref)) => z1q φ k n (B.length : Int) i x137 x138 x139 x140 x141 x142 x143 x144 x145 x146 x147 x148 x149 x150 x151 x152 x153 x154 x155 x156 x157 B x159 x160 x161 x162 x163 s.1 s.2 x166 x167 x168 x169) B.length (fun i s => s.1 = b ++ B.take i ∧ s.2 = y ++ List.replicate i x157) (fun o => o = k x137 x138 x139 x140 x141 x142 (W (x143 + 1)) x159 x160 x156 x161 x167 x168 x169 (b ++ B) (y ++ List.replicate B.length x157) x166) ?_ ?_ φ (b, y) ⟨by simp, by simp⟩ (by omega)
  · intro n i s hi ⟨h1, h2⟩ hs
    rw [z1q, if_pos (by simp; omega), z2 ⟨by omega, by omega⟩, z2 (zet (by rw [h1]; simp; omega) (by omega)), z2 (zet (by rw [h2]; simp; omega) (by omega)), W_id (by omega) (by omega)]
    exact hs (_, _) ⟨by rw [h1, z1a B i hi, List.append_assoc], by rw [h2, List.replicate_succ', List.append_assoc]⟩
  · intro n s ⟨h1, h2⟩
    rw [z1q, if_neg (by simp), h1, h2, List.take_length]
theorem y4c (hφ : 10 < φ) (k) (x173 x174 x175 x176 x177 x178 x179 x180 x181 x182 x183) (B : List zo) (x185 x186 x187 x188) (b : List zo) (y : List (Nat → Ref)) (x191 x192 x193 x194) (hB : B.length ≤ 4) (hb : b.length ≤ 50000000) (hy : y.length ≤ 50000000) :
    z1n φ k φ (B.length : Int) 0 x173 x174 x175 x176 x177 x178 x179 x180 x181 x182 x183 B x185 x186 x187 x188 b y x191 x192 x193 x194 = z0i φ k x173 x174 x175 x176 x177 x178 x179 x180 x181 x185 x186 x182 x187 x188 x192 x193 x194 (b ++ B) (y ++ List.replicate B.length x183) x191 := by
  refine z01 (fun n i (s : List zo × List (Nat → Ref)) => z1n φ k n (B.length : Int) i x173 x174 x175 x176 x177 x178 x179 x180 x181 x182 x183 B x185 x186 x187 x188 s.1 s.2 x191 x192 x193 x194) B.length (fun i s => s.1 = b ++ B.take i ∧ s.2 = y ++ List.replicate i x183) (fun o => o = z0i φ k x173 x174 x175 x176 x177 x178 x179 x180 x181 x185 x186 x182 x187 x188 x192 x193 x194 (b ++ B) (y ++ List.replicate B.length x183) x191) ?_ ?_ φ (b, y) ⟨by simp, by simp⟩ (by omega)
  · intro n i s hi ⟨h1, h2⟩ hs
    rw [z1n, if_pos (by simp; omega), z2 ⟨by omega, by omega⟩, z2 (zet (by rw [h1]; simp; omega) (by omega)), z2 (zet (by rw [h2]; simp; omega) (by omega)), W_id (by omega) (by omega)]
    exact hs (_, _) ⟨by rw [h1, z1a B i hi, List.append_assoc], by rw [h2, List.replicate_succ', List.append_assoc]⟩
  · intro n s ⟨h1, h2⟩
    rw [z1n, if_neg (by simp), h1, h2, List.take_length]
theorem y53 (hφ : 10 < φ) (k) (x173 x174 x175 x176 x177 x178 x179 x180 x181 x182 x183) (B : List zo) (x185 x186 x187 x188) (b : List zo) (y : List (Nat → Ref)) (x191 x192 x193 x194) (hB : B.length ≤ 4) (hb : b.length ≤ 50000000) (hy : y.length ≤ 50000000) :
    z1k φ k φ (B.length : Int) 0 x173 x174 x175 x176 x177 x178 x179 x180 x181 x182 x183 B x185 x186 x187 x188 b y x191 x192 x193 x194 = z0i φ k x173 x174 x175 x176 x177 x178 x179 x180 x181 x185 x186 x182 x187 x188 x192 x193 x194 (b ++ B) (y ++ List.replicate B.length x183) x191 := by
  refine z01 (fun n i (s : List zo × List (Nat → Ref)) => z1k φ k n (B.length : Int) i x173 x174 x175 x176 x177 x178 x179 x180 x181 x182 x183 B x185 x186 x187 x188 s.1 s.2 x191 x192 x193 x194) B.length (fun i s => s.1 = b ++ B.take i ∧ s.2 = y ++ List.replicate i x183) (fun o => o = z0i φ k x173 x174 x175 x176 x177 x178 x179 x180 x181 x185 x186 x182 x187 x188 x192 x193 x194 (b ++ B) (y ++ List.replicate B.length x183) x191) ?_ ?_ φ (b, y) ⟨by simp, by simp⟩ (by omega)
  · intro n i s hi ⟨h1, h2⟩ hs
    rw [z1k, if_pos (by simp; omega), z2 ⟨by omega, by omega⟩, z2 (zet (by rw [h1]; simp; omega) (by omega)), z2 (zet (by rw [h2]; simp; omega) (by omega)), W_id (by omega) (by omega)]
    exact hs (_, _) ⟨by rw [h1, z1a B i hi, List.append_assoc], by rw [h2, List.replicate_succ', List.append_assoc]⟩
  · intro n s ⟨h1, h2⟩
    rw [z1k, if_neg (by simp), h1, h2, List.take_length]
/-- The travel zf8 and what follows it. -/
theorem zwu (hφ : 800000 < φ) (k) (T : List z1) (n : Nat) (hn : n < T.length) (x115 x116 x117 x118 x119 x120) (x122 : Pool) (x123 : Int) (x125 : List (Int × Int)) (e : z1) (pr : Option z1f) (hpr : pr = if 0 < n then some (gt T ((n : Int) - 1)).visit else none) (x127 x128 x129) (b : List zo) (y : List (Nat → Ref)) (x132) (hb : b.length ≤ 50000000) (hy : y.length ≤ 50000000) (h15 : 0 ≤ x115 ∧ x115 ≤ 100000000) (hT : n ≤ 100000000) :
    z0i φ k T (n : Int) x115 x116 x117 x118 x119 x120 (n : Int) x122 x123 (x115 + 1) x125 e x127 x128 x129 b y x132 =
      k T x116 x117 x118 x119 x120 ((n + 1 : Nat) : Int) x122 x123 (x115 + 1) x125 x127 x128 x129 (b ++ trB (tvl φ x122.network) x115 pr e) (y ++ trY pr e) x132 := by
  have hW : W ((n : Int) + 1) = ((n + 1 : Nat) : Int) := by rw [W_id (by omega) (by omega)]; omega
  unfold z0i
  by_cases h : 0 < n
  · obtain ⟨ht, t1, t2⟩ := y4b φ hφ x122.network (gt T ((n : Int) - 1)).visit e.visit
    rw [if_pos (by simp; omega), W_id (x := (n : Int) - 1) (by omega) (by omega), z2 ⟨by omega, by omega⟩, ht, Option.bind_some, W_id (x := x115 - 1) (by omega) (by omega)]
    rw [hpr, if_pos h]
    simp only [trB, trY]
    generalize tvl φ x122.network (gt T ((n : Int) - 1)).visit e.visit = tt at *
    rw [W_id (x := 0 - tt) (by omega) (by omega)]
    refine (y4p φ (by omega) k T x116 x117 x118 x119 x120 (n : Int) _ _ _ _ _ _ _ _ _ _ _ _ _ _ ([⟨x115, x115 - 1, 0 - tt⟩] : List zo) x122 x123 x125 _ _ b y x132 x127 x128 x129 (by simp) hb hy).trans ?_
    rw [hW]
    rfl
  · rw [if_neg (by simp; omega), hW, hpr, if_neg h]
    simp only [trB, trY, List.append_nil]
/-- One zaj. -/
theorem zu8 (hφ : 800000 < φ) (k) (x96 x97 x98) (T : List z1) (hE : ∀ e ∈ T, 0 ≤ e.visit.early ∧ e.visit.early ≤ 1073741824) (x102 : Pool) (x103 : Int) (m : List (Int × Int)) (g1 g2 g3) (hT : T.length ≤ 2000) :
    ∀ (n i N : Nat) (s : BS), T.length < n + i → i ≤ T.length → BB N s → N ≤ 8300000 + i →
      z02 φ k n T x96 x97 x98 T (T.length : Int) (i : Int) x102 x103 s.v m g1 g2 g3 s.b s.y s.e =
        (fun s' : BS => k x96 x97 (W (x98 + 1)) x102 x103 s'.v m g1 g2 g3 s'.b s'.y s'.e) (bEv (tvl φ x102.network) m (if 0 < i then some (gt T ((i : Int) - 1)).visit else none) (T.drop i) s) := by
  intro n
  induction n with
  | zero => intro i N s h1 h2; exfalso; omega
  | succ n ih =>
    intro i N s h1 h2 hB hN
    obtain ⟨v0, v1, b1, b2, b3⟩ := hB
    by_cases hi : i < T.length
    · obtain ⟨e0, e1⟩ := hE _ (zhe (l := T) (i := (i : Int)) (by omega) (by omega))
      have hWv : W (s.v + 1) = s.v + 1 := W_id (by omega) (by omega)
      have hWe : W (0 - (gt T (i : Int)).visit.early) = 0 - (gt T (i : Int)).visit.early := W_id (by omega) (by omega)
      have hnext := ih (i + 1) (N + 1) (znt (tvl φ x102.network) m (if 0 < i then some (gt T ((i : Int) - 1)).visit else none) (gt T (i : Int)) s) (by omega) (by omega) (BB.step ⟨v0, v1, b1, b2, b3⟩ _ _ _ _) (by omega)
      rw [if_pos (show 0 < i + 1 by omega), show ((i + 1 : Nat) : Int) - 1 = (i : Int) by omega] at hnext
      rw [zrm T i hi]
      refine Eq.trans ?_ hnext
      rw [z02, if_pos (by simp; omega), z2 ⟨by omega, by omega⟩, z2 (zet (by simp; omega) (by omega)), hWv, hWe]
      by_cases hr : (gt T (i : Int)).reader < 0
      · rw [if_pos (by simpa using hr)]
        refine (y4c φ (by omega) (z02 φ k n) T (i : Int) s.v x96 x97 x98 T (T.length : Int) (i : Int) (s.v + 1) (y1 (gt T (i : Int)).visit.ref) ([⟨0, s.v, (gt T (i : Int)).visit.early⟩, ⟨s.v, 0, 0 - (gt T (i : Int)).visit.early⟩] : List zo) x102 x103 m (gt T (i : Int)) s.b s.y _ g1 g2 g3 (by simp) (by omega) (by omega)).trans ?_
        refine (zwu φ hφ (z02 φ k n) T i hi s.v x96 x97 x98 T (T.length : Int) x102 x103 m (gt T (i : Int)) _ rfl g1 g2 g3 _ _ _ (by simp; omega) (by simp; omega) ⟨by omega, by omega⟩ (by omega)).trans ?_
        simp only [znt, evB, evY, if_pos hr]
        rfl
      · rw [if_neg (by simpa using hr)]
        refine (y53 φ (by omega) (z02 φ k n) T (i : Int) s.v x96 x97 x98 T (T.length : Int) (i : Int) (s.v + 1) (y1 (gt T (i : Int)).visit.ref) ([⟨rv m (gt T (i : Int)), s.v, (gt T (i : Int)).visit.early⟩, ⟨s.v, rv m (gt T (i : Int)), 0 - (gt T (i : Int)).visit.early⟩, ⟨0, s.v, 1073741824⟩, ⟨s.v, 0, 0⟩] : List zo) x102 x103 m (gt T (i : Int)) s.b s.y _ g1 g2 g3 (by simp) (by omega) (by omega)).trans ?_
        refine (zwu φ hφ (z02 φ k n) T i hi s.v x96 x97 x98 T (T.length : Int) x102 x103 m (gt T (i : Int)) _ rfl g1 g2 g3 _ _ _ (by simp; omega) (by simp; omega) ⟨by omega, by omega⟩ (by omega)).trans ?_
        simp only [znt, evB, evY, if_neg hr]
        rfl
    · have : i = T.length := by omega
      subst this
      rw [z02, if_neg (by simp), List.drop_length]
      rfl
/-- All tracks. -/
theorem zrd (hφ : 800000 < φ) (ts : List (List z1)) (hE : ∀ T ∈ ts, T.length ≤ 2000 ∧ ∀ e ∈ T, 0 ≤ e.visit.early ∧ e.visit.early ≤ 1073741824) (hts : ts.length ≤ 4096) (x84 : Pool) (x85 : Int) (m : List (Int × Int)) (g1 g2 g3) (s : BS) (hs : BB 0 s) :
    z1b φ φ ts (ts.length : Int) 0 x84 x85 s.v m g1 g2 g3 s.b s.y s.e = some (bEnd (ts.foldl (fun s t => bEv (tvl φ x84.network) m none t s) s)) := by
  refine z01 (fun n i (s : BS) => z1b φ n ts (ts.length : Int) i x84 x85 s.v m g1 g2 g3 s.b s.y s.e) ts.length (fun i s' => BB (2000 * i) s' ∧ s' = (ts.take i).foldl (fun s t => bEv (tvl φ x84.network) m none t s) s) (fun o => o = some (bEnd (ts.foldl (fun s t => bEv (tvl φ x84.network) m none t s) s))) ?_ ?_ φ s ⟨hs, rfl⟩ (by omega)
  · intro n i s' hi ⟨h1, h2⟩ hk
    obtain ⟨q1, q2⟩ := hE _ (zhe (l := ts) (i := (i : Int)) (by omega) (by omega))
    rw [z1b, if_pos (by simp; omega), z2 ⟨by omega, by omega⟩]
    have := zu8 φ hφ (z1b φ n) ts (ts.length : Int) (i : Int) (gt ts (i : Int)) q2 x84 x85 m g1 g2 g3 q1 φ 0 (2000 * i) s' (by omega) (by omega) h1 (by omega)
    refine this.trans ?_
    simp only [W_id (x := (i : Int) + 1) (by omega) (by omega), List.drop_zero]
    rw [if_neg (by omega)]
    refine hk _ ⟨?_, ?_⟩
    · have := BB.ev (tvl φ x84.network) m (gt ts (i : Int)) (2000 * i) none s' h1
      obtain ⟨a, b, c, d, f⟩ := this
      exact ⟨a, by omega, by omega, by omega, by omega⟩
    · rw [z1a ts i hi, List.foldl_append, ← h2]; rfl
  · intro n s' ⟨h1, h2⟩
    rw [List.take_length] at h2
    rw [z1b, if_neg (by simp), ← h2]
    unfold bEnd
    by_cases h : 512 < s'.v ∨ 4096 < s'.b.length
    · rw [if_pos (by simp; omega), if_pos h]
    · rw [if_neg (by simp; omega), if_neg h]
/-- The readers. -/
theorem znu (hφ : 800000 < φ) (ts : List (List z1)) (hE : ∀ T ∈ ts, T.length ≤ 2000 ∧ ∀ e ∈ T, 0 ≤ e.visit.early ∧ e.visit.early ≤ 1073741824) (hts : ts.length ≤ 4096) (p : Pool) (hp : p.readers.length ≤ 256) (hr : ∀ r ∈ p.readers, -1000 ≤ r.low ∧ r.low ≤ 1000) (x43 : Int) (m : List (Int × Int)) (g1 g2) :
    z0u φ φ ts p.readers (p.readers.length : Int) 0 p x43 1 m g1 g2 [] [] [] [] = some (bEnd (ts.foldl (fun s t => bEv (tvl φ p.network) (rdsN p.readers m p.readers.length).m none t s) ⟨(rdsN p.readers m p.readers.length).v, (rdsN p.readers m p.readers.length).b, (rdsN p.readers m p.readers.length).y, []⟩)) := by
  refine z01 (fun n i (s : RS) => z0u φ n ts p.readers (p.readers.length : Int) i p x43 s.v s.m g1 g2 [] s.b s.y []) p.readers.length (fun i s => s = rdsN p.readers m i) (fun o => o = _) ?_ ?_ φ ⟨1, m, [], []⟩ rfl (by omega)
  · intro n i s hi hs hk
    obtain ⟨a1, a2, a3, a4⟩ := zna p.readers m i
    rw [← hs] at a1 a2 a3 a4
    obtain ⟨r1, r2⟩ := hr _ (zhe (l := p.readers) (i := (i : Int)) (by omega) (by omega))
    have hk' := hk (rdsN p.readers m (i + 1)) rfl
    simp only [rdsN, zve] at hk'
    rw [← hs] at hk'
    have hW : W ((i : Int) + 1) = (i : Int) + 1 := W_id (by omega) (by omega)
    rw [z0u, if_pos (by simp; omega), z2 ⟨by omega, by omega⟩]
    by_cases h : (mget s.m (i : Int)).isSome = true
    · rw [if_pos h] at hk' ⊢
      have hWl : W (0 - (gt p.readers (i : Int)).low) = 0 - (gt p.readers (i : Int)).low := W_id (by omega) (by omega)
      rw [hWl]
      refine (y62 φ (by omega) (z0u φ n) ts p.readers (p.readers.length : Int) (i : Int) _ _ _ _ _ _ _ _ _ _ ([⟨0, s.v, 0 - (gt p.readers (i : Int)).low⟩, ⟨s.v, 0, (gt p.readers (i : Int)).high⟩] : List zo) p x43 (mset s.m (i : Int) s.v) _ s.b s.y [] g1 g2 [] (by simp) (by omega) (by omega)).trans ?_
      rw [hW, W_id (x := s.v + 1) (by omega) (by omega)]
      exact hk'
    · rw [if_neg h] at hk' ⊢
      rw [hW]
      exact hk'
  · intro n s hs
    rw [z0u, if_neg (by simp), ← hs]
    obtain ⟨a1, a2, a3, a4⟩ := zna p.readers m p.readers.length
    rw [← hs] at a1 a2 a3 a4
    exact zrd φ hφ ts hE hts p x43 s.m g1 g2 [] ⟨s.v, s.b, s.y, []⟩ ⟨a1, by show s.v ≤ _; omega, by show s.b.length ≤ _; omega, by show s.y.length ≤ _; omega, by simp⟩
/-- One track's readers. -/
theorem zvd (k) (x20 x21 x22 x23) (T : List z1) (hT : T.length ≤ 2000) (hφ : 800000 < φ) (x27 x28 x29 x30 x31 x32 x33 x34 x35 x36) :
    z17 φ k φ x20 x21 x22 x23 T (T.length : Int) 0 x27 x28 x29 x30 x31 x32 x33 x34 x35 x36 = k x20 x21 x22 (W (x23 + 1)) x27 x28 x29 (zkc x30 T) x31 x32 x33 x34 x35 x36 := by
  refine z01 (fun n i (m : List (Int × Int)) => z17 φ k n x20 x21 x22 x23 T (T.length : Int) i x27 x28 x29 m x31 x32 x33 x34 x35 x36) T.length (fun i m => m = zkc x30 (T.take i)) (fun o => o = _) ?_ ?_ φ x30 rfl (by omega)
  · intro n i m hi hm hk
    have hk' := hk (zkc x30 (T.take (i + 1))) rfl
    rw [z1a T i hi] at hk'
    simp only [zkc, List.foldl_append, List.foldl_cons, List.foldl_nil] at hk' hm
    rw [← hm] at hk'
    rw [z17, if_pos (by simp; omega), z2 ⟨by omega, by omega⟩, W_id (by omega) (by omega)]
    unfold y2i at hk'
    by_cases h : 0 ≤ (gt T (i : Int)).reader
    · rw [if_pos h] at hk'
      rw [if_pos (by simpa using h)]
      exact hk'
    · rw [if_neg h] at hk'
      rw [if_neg (by simpa using h)]
      exact hk'
  · intro n m hm
    rw [List.take_length] at hm
    rw [z17, if_neg (by simp), hm]
theorem zvb {p : Pool} {r : z6} (h : zs0 p r.item) {i : Int} {x : z1} (hx : x ∈ evs p r i) : 0 ≤ x.visit.early ∧ x.visit.early ≤ 1073741824 := by
  have hf := h.from_
  have ht := h.to
  unfold evs at hx
  split at hx
  · simp only [List.mem_singleton] at hx; subst hx
    simp only [z6g]; omega
  · split at hx
    · simp only [List.mem_cons, List.not_mem_nil, or_false] at hx
      rcases hx with rfl | rfl <;> simp only [z6g] <;> omega
    · split at hx
      · simp only [List.mem_singleton] at hx; subst hx
        simp only [z6g]; omega
      · cases hx
theorem zps : ∀ {t : List z1} {m : List (Int × Bool)} {x : z1}, x ∈ zhz t m → ∃ y ∈ t, ∃ b, x = zee y b
  | [], m, x, h => by cases h
  | e :: t, m, x, h => by
    rcases List.mem_cons.1 h with rfl | h
    · exact ⟨e, List.mem_cons_self, _, rfl⟩
    · obtain ⟨y, hy, b, hb⟩ := zps h
      exact ⟨y, List.mem_cons_of_mem _ hy, b, hb⟩
theorem zvr {p : Pool} {l : List z6} {w : Int} {x : z1} (h : x ∈ zaj p l w) : ∃ y ∈ uns p l w, ∃ b, x = zee y b := by
  obtain ⟨y, hy, b, hb⟩ := zps h
  exact ⟨y, (z2b _ _).mem_iff.1 hy, b, hb⟩
theorem zxi {p : Pool} (hc : z1s p = 0) {l : List z6} (hl : FewL l) {w : Int} {x : z1} (h : x ∈ zaj p l w) : 0 ≤ x.visit.early ∧ x.visit.early ≤ 1073741824 := by
  obtain ⟨y, hy, b, rfl⟩ := zvr h
  obtain ⟨h1, h2, _, h3, h4⟩ := y0q hl.len hy
  show 0 ≤ y.visit.early ∧ y.visit.early ≤ 1073741824
  exact zvb (zop hc (hl.gt h1 h2) h3) h4
/-- What Build answers. -/
theorem znf (hφ : 800000 < φ) (p : Pool) {l : List z6} (hl : FewL l) :
    z1m φ p l = some (if z1s p = 0 then bEnd (bAll (tvl φ p.network) p.readers (z34 p l)) else (⟨0, [], [], []⟩, z1s p, ())) := by
  unfold z1m
  rw [z5v φ hφ, Option.bind_some]
  by_cases hc : z1s p = 0
  case neg => rw [if_pos (by simpa using hc), if_neg hc]
  rw [if_neg (by simp [hc]), if_pos hc, zpw φ hφ hc hl, Option.bind_some]
  obtain ⟨_, hf, hr1, _⟩ := z6w hc
  obtain ⟨_, f2, _⟩ := z37 hf
  have hrd := (ztw hc).1
  show z1d φ φ (z34 p l) (z34 p l) ((z34 p l).length : Int) 0 p 0 1 [] [] [] [] [] [] [] = _
  have hlen : (z34 p l).length ≤ 4096 := by unfold z34; simp; omega
  have hE : ∀ T ∈ z34 p l, T.length ≤ 2000 ∧ ∀ e ∈ T, 0 ≤ e.visit.early ∧ e.visit.early ≤ 1073741824 := by
    intro T hT
    unfold z34 at hT
    obtain ⟨w, _, rfl⟩ := List.mem_map.1 hT
    exact ⟨zjc hl.len _, fun e he => zxi hc hl he⟩
  generalize z34 p l = ts at *
  refine z01 (fun n i (m : List (Int × Int)) => z1d φ n ts ts (ts.length : Int) i p 0 1 m [] [] [] [] [] []) ts.length (fun i m => m = (ts.take i).foldl zkc []) (fun o => o = some (bEnd (bAll (tvl φ p.network) p.readers ts))) ?_ ?_ φ [] rfl (by omega)
  · intro n i m hi hm hk
    rw [z1d, if_pos (by simp; omega), z2 ⟨by omega, by omega⟩]
    rw [zvd φ (z1d φ n) ts ts (ts.length : Int) (i : Int) (gt ts (i : Int)) (hE _ (zhe (by omega) (by omega))).1 hφ, W_id (by omega) (by omega)]
    exact hk _ (by rw [z1a ts i hi, List.foldl_append, ← hm]; rfl)
  · intro n m hm
    rw [List.take_length] at hm
    rw [z1d, if_neg (by simp)]
    refine (znu φ hφ ts hE hlen p hr1 (fun r hr => ?_) 0 m [] []).trans ?_
    · have := hrd r hr; omega
    · rw [hm]; rfl
end
end Px
end
section
namespace Px
open Go
set_option linter.unusedVariables false
set_option linter.unusedSimpArgs false
/-- The first report with a Ref. -/
def idx : List z6 → Ref → Int
  | [], _ => 0
  | r :: l, q => if r.ref.railway = q.railway ∧ r.ref.no = q.no then 0 else idx l q + 1
def zur (x : z1) (i : Int) : z1 := ⟨x.visit, i, x.second, x.stay, x.reader⟩
def ren (κ : Int → Int) (x : z1) : z1 := zur x (κ x.report)
theorem zld (p : Pool) (r : z6) (i : Int) : evs p r i = (evs p r 0).map fun x => zur x i := by
  unfold evs
  split
  · rfl
  · split
    · rfl
    · split <;> rfl
/-- Maps whose keys are renamed. -/
def renK (κ : Int → Int) (m : List (Int × Bool)) : List (Int × Bool) := m.map fun q => (κ q.1, q.2)
def InjD (D : Int → Prop) (κ : Int → Int) : Prop := ∀ a b, D a → D b → κ a = κ b → a = b
theorem zvn {D : Int → Prop} {κ : Int → Int} (h : InjD D κ) {a b : Int} (ha : D a) (hb : D b) : (κ a == κ b) = (a == b) := by
  by_cases e : a = b
  · subst e; simp
  · have : κ a ≠ κ b := fun q => e (h a b ha hb q)
    rw [(beq_eq_false_iff_ne).2 e, (beq_eq_false_iff_ne).2 this]
theorem zt1 {D : Int → Prop} {κ : Int → Int} (h : InjD D κ) (v : Bool) {k : Int} (hk : D k) : ∀ {m : List (Int × Bool)}, (∀ q ∈ m, D q.1) → mset (renK κ m) (κ k) v = renK κ (mset m k v)
  | [], _ => rfl
  | (a, b) :: m, hm => by
    have h1 := zvn h hk (hm (a, b) List.mem_cons_self)
    have ih := zt1 h v hk (m := m) fun q hq => hm q (List.mem_cons_of_mem _ hq)
    show (bif κ k == κ a then (κ k, v) :: renK κ m else (κ a, b) :: mset (renK κ m) (κ k) v) = renK κ (bif k == a then (k, v) :: m else (a, b) :: mset m k v)
    rw [h1, ih]
    cases k == a <;> rfl
theorem zsg {D : Int → Prop} {κ : Int → Int} (h : InjD D κ) {k : Int} (hk : D k) : ∀ {m : List (Int × Bool)}, (∀ q ∈ m, D q.1) → mdel (renK κ m) (κ k) = renK κ (mdel m k)
  | [], _ => rfl
  | (a, b) :: m, hm => by
    have h1 := zvn h hk (hm (a, b) List.mem_cons_self)
    have ih := zsg h hk (m := m) fun q hq => hm q (List.mem_cons_of_mem _ hq)
    show (bif κ k == κ a then renK κ m else (κ a, b) :: mdel (renK κ m) (κ k)) = renK κ (bif k == a then m else (a, b) :: mdel m k)
    rw [h1, ih]
    cases k == a <;> rfl
theorem zsf {D : Int → Prop} {k : Int} {v : Bool} (hk : D k) : ∀ {m : List (Int × Bool)}, (∀ q ∈ m, D q.1) → ∀ q ∈ mset m k v, D q.1
  | [], _, q, hq => by
    have := List.mem_singleton.1 hq
    subst this; exact hk
  | (a, b) :: m, hm, q, hq => by
    have hq : q ∈ (bif k == a then (k, v) :: m else (a, b) :: mset m k v) := hq
    cases e : k == a <;> rw [e] at hq
    · rcases List.mem_cons.1 hq with rfl | hq
      · exact hm _ List.mem_cons_self
      · exact zsf hk (fun q hq => hm q (List.mem_cons_of_mem _ hq)) q hq
    · rcases List.mem_cons.1 hq with rfl | hq
      · exact hk
      · exact hm _ (List.mem_cons_of_mem _ hq)
theorem zt8 {D : Int → Prop} {k : Int} : ∀ {m : List (Int × Bool)}, (∀ q ∈ m, D q.1) → ∀ q ∈ mdel m k, D q.1
  | [], _, q, hq => by cases hq
  | (a, b) :: m, hm, q, hq => by
    have hq : q ∈ (bif k == a then m else (a, b) :: mdel m k) := hq
    cases e : k == a <;> rw [e] at hq
    · rcases List.mem_cons.1 hq with rfl | hq
      · exact hm _ List.mem_cons_self
      · exact zt8 (fun q hq => hm q (List.mem_cons_of_mem _ hq)) q hq
    · exact hm _ (List.mem_cons_of_mem _ hq)
theorem y01 {D : Int → Prop} {κ : Int → Int} (h : InjD D κ) {e : z1} (he : D e.report) {m : List (Int × Bool)} (hm : ∀ q ∈ m, D q.1) : covM (ren κ e) (renK κ m) = renK κ (covM e m) ∧ ∀ q ∈ covM e m, D q.1 := by
  unfold covM
  show (if (e.stay && e.second) = true then mdel (renK κ m) (κ e.report) else if e.stay = true then mset (renK κ m) (κ e.report) true else renK κ m) = _ ∧ _
  split
  · exact ⟨zsg h he hm, zt8 hm⟩
  · split
    · exact ⟨zt1 h true he hm, zsf he hm⟩
    · exact ⟨rfl, hm⟩
theorem zpd {D : Int → Prop} {κ : Int → Int} (h : InjD D κ) : ∀ {t : List z1} {m : List (Int × Bool)}, (∀ e ∈ t, D e.report) → (∀ q ∈ m, D q.1) → zhz (t.map (ren κ)) (renK κ m) = (zhz t m).map (ren κ)
  | [], _, _, _ => rfl
  | e :: t, m, ht, hm => by
    obtain ⟨h1, h2⟩ := y01 h (ht e List.mem_cons_self) hm
    have ih := zpd h (t := t) (m := covM e m) (fun x hx => ht x (List.mem_cons_of_mem _ hx)) h2
    show zee (ren κ e) (decide ((0 : Int) < ((covM (ren κ e) (renK κ m)).length : Int))) :: zhz (t.map (ren κ)) (covM (ren κ e) (renK κ m)) = _
    rw [h1, ih]
    have : (renK κ (covM e m)).length = (covM e m).length := by simp [renK]
    rw [this]
    rfl
theorem zp3 (κ : Int → Int) : ∀ (t : List z1) (m : List (Int × Int)), zkc m (t.map (ren κ)) = zkc m t
  | [], _ => rfl
  | e :: t, m => zp3 κ t (y2i m e)
theorem zwn (tv : z1f → z1f → Int) (m : List (Int × Int)) (κ : Int → Int) : ∀ (t : List z1) (pr : Option z1f) (s : BS), bEv tv m pr (t.map (ren κ)) s = bEv tv m pr t s
  | [], _, _ => rfl
  | e :: t, pr, s => zwn tv m κ t (some e.visit) (znt tv m pr e s)
/-- Tracks that differ in the numbers of reports alone. -/
inductive RenL : List (List z1) → List (List z1) → Prop where
  | nil : RenL [] []
  | cons (κ : Int → Int) (t : List z1) {a b : List (List z1)} (h : RenL a b) : RenL (t.map (ren κ) :: a) (t :: b)
theorem zzg {a b : List (List z1)} (h : RenL a b) : ∀ m, a.foldl zkc m = b.foldl zkc m := by
  induction h with
  | nil => intro m; rfl
  | cons κ t h ih => intro m; rw [List.foldl_cons, List.foldl_cons, zp3, ih]
theorem zyq {a b : List (List z1)} (h : RenL a b) (tv m) : ∀ s, a.foldl (fun s t => bEv tv m none t s) s = b.foldl (fun s t => bEv tv m none t s) s := by
  induction h with
  | nil => intro s; rfl
  | cons κ t h ih => intro s; rw [List.foldl_cons, List.foldl_cons, zwn, ih]
theorem y08 {a b : List (List z1)} (h : RenL a b) (tv rs) : bAll tv rs a = bAll tv rs b := by
  have hu : used a = used b := zzg h []
  unfold bAll
  rw [hu, zyq h]
theorem zwx (φ : Nat) (x : z04) (hb : x.bounds.length < φ) (hy : x.why.length < φ) (he : x.events.length < φ) (h3 : x.bounds.length ≤ 100000000 ∧ x.why.length ≤ 100000000 ∧ x.events.length ≤ 100000000) : zaq φ x x = some (true, ()) := by
  unfold zaq
  rw [if_neg (by simp)]
  refine z01 (fun n i (_ : Unit) => z4k φ n i x x) x.bounds.length (fun _ _ => True) (fun o => o = some (true, ())) ?_ ?_ φ () trivial hb
  · intro n i _ hi _ hs
    rw [z4k, if_pos (by simp; omega), z2 ⟨by omega, by omega⟩, z2 ⟨by omega, by omega⟩, if_neg (by simp), W_id (by omega) (by omega)]
    exact hs () trivial
  intro n _ _
  rw [z4k, if_neg (by simp)]
  clear n
  refine z01 (fun n i (_ : Unit) => z3j φ n i x x) x.why.length (fun _ _ => True) (fun o => o = some (true, ())) ?_ ?_ φ () trivial hy
  · intro n i _ hi _ hs
    rw [z3j, if_pos (by simp; omega), z2 ⟨by omega, by omega⟩, z2 ⟨by omega, by omega⟩, if_neg (by simp), W_id (by omega) (by omega)]
    exact hs () trivial
  intro n _ _
  rw [z3j, if_neg (by simp)]
  clear n
  refine z01 (fun n i (_ : Unit) => z3l φ n i x x) x.events.length (fun _ _ => True) (fun o => o = some (true, ())) ?_ ?_ φ () trivial he
  · intro n i _ hi _ hs
    rw [z3l, if_pos (by simp; omega), z2 ⟨by omega, by omega⟩, z2 ⟨by omega, by omega⟩, if_neg (by simp), W_id (by omega) (by omega)]
    exact hs () trivial
  intro n _ _
  rw [z3l, if_neg (by simp)]
/-- What Build answers is not large. -/
theorem zyf (φ : Nat) (hφ : 800000 < φ) (p : Pool) {l : List z6} (hl : FewL l) : ∃ x e, z1m φ p l = some (x, e, ()) ∧ x.bounds.length ≤ 42000000 ∧ x.why.length ≤ 42000000 ∧ x.events.length ≤ 42000000 := by
  rw [znf φ hφ p hl]
  by_cases hc : z1s p = 0
  case neg => rw [if_neg hc]; exact ⟨_, _, rfl, by simp, by simp, by simp⟩
  rw [if_pos hc]
  obtain ⟨_, hf, hr1, _⟩ := z6w hc
  obtain ⟨_, f2, _⟩ := z37 hf
  have hB : BB (2000 * 4096) (bAll (tvl φ p.network) p.readers (z34 p l)) := by
    unfold bAll
    obtain ⟨a1, a2, a3, a4⟩ := zna p.readers (used (z34 p l)) p.readers.length
    generalize rdsN p.readers (used (z34 p l)) p.readers.length = R at *
    have : ∀ (ts : List (List z1)) (n : Nat) (s : BS), (∀ T ∈ ts, T.length ≤ 2000) → BB n s → BB (n + 2000 * ts.length) (ts.foldl (fun s t => bEv (tvl φ p.network) R.m none t s) s) := by
      intro ts
      induction ts with
      | nil => intro n s _ h; exact h
      | cons T ts ih =>
        intro n s hT h
        have h1 := BB.ev (tvl φ p.network) R.m T n none s h
        have h2 := hT T List.mem_cons_self
        have h3 := ih (n + 2000) _ (fun T hq => hT T (List.mem_cons_of_mem _ hq)) (show BB (n + 2000) (bEv (tvl φ p.network) R.m none T s) by
          obtain ⟨a, b, c, d, f⟩ := h1
          exact ⟨a, by omega, by omega, by omega, by omega⟩)
        rw [List.foldl_cons, show n + 2000 * (T :: ts).length = n + 2000 + 2000 * ts.length by simp; omega]
        exact h3
    have h := this (z34 p l) 0 ⟨R.v, R.b, R.y, []⟩ (fun T hT => by
      unfold z34 at hT
      obtain ⟨w, _, rfl⟩ := List.mem_map.1 hT
      exact zjc hl.len _) ⟨a1, by show R.v ≤ _; omega, by show R.b.length ≤ _; omega, by show R.y.length ≤ _; omega, by simp⟩
    have hn : (z34 p l).length ≤ 4096 := by unfold z34; simp; omega
    obtain ⟨a, b, c, d, f⟩ := h
    exact ⟨a, by omega, by omega, by omega, by omega⟩
  obtain ⟨a, b, c, d, f⟩ := hB
  unfold bEnd
  split
  · exact ⟨_, _, rfl, by simp, by simp, by simp⟩
  · exact ⟨_, _, rfl, by show (bAll _ _ _).b.length ≤ _; omega, by show (bAll _ _ _).y.length ≤ _; omega, by show (bAll _ _ _).e.length ≤ _; omega⟩
end Px
end
section
namespace Px
open Go
set_option linter.unusedVariables false
set_option linter.unusedSimpArgs false
/-- The events of one report for a wagon. -/
def evR (p : Pool) (w : Int) (r : z6) (i : Int) : List z1 := if z6t p r.item = true ∧ r.item.wagon = w then evs p r i else []
theorem zf9 (p : Pool) (l : List z6) (w : Int) : ∀ n, unsC p l (cntN p l n) w = (List.range n).flatMap fun (j : Nat) => evR p w (gt l (j : Int)) (j : Int)
  | 0 => by simp [cntN, unsC]
  | n + 1 => by
    have ih := zf9 p l w n
    rw [znz, List.range_succ, List.flatMap_append, ← ih]
    unfold unsC
    rw [List.flatMap_append]
    congr 1
    unfold evR
    cases h : z6t p (gt l (n : Int)).item <;> simp [h]
theorem zs3 (p : Pool) (l : List z6) (w : Int) : uns p l w = (List.range l.length).flatMap fun (j : Nat) => evR p w (gt l (j : Int)) (j : Int) := zf9 p l w l.length
def up (i : Nat) (j : Int) : Int := if j < (i : Int) then j else j + 1
theorem y0l (p : Pool) (w : Int) (r : z6) (κ : Int → Int) (j : Int) : evR p w r (κ j) = (evR p w r j).map (ren κ) := by
  unfold evR
  split
  · rw [zld p r (κ j), zld p r j, List.map_map]
    rfl
  · rfl
theorem y1l (p : Pool) (a b : List z6) (r : z6) (w : Int) (hr : ∀ j, evR p w r j = []) : uns p (a ++ r :: b) w = (uns p (a ++ b) w).map (ren (up a.length)) := by
  rw [zs3, zs3, List.map_flatMap]
  have e1 : (a ++ r :: b).length = a.length + (1 + b.length) := by simp; omega
  have e2 : (a ++ b).length = a.length + b.length := by simp
  rw [e1, e2, List.range_add, List.range_add, List.range_add, List.map_append, List.flatMap_append, List.flatMap_append, List.flatMap_append]
  congr 1
  · unfold List.flatMap
    congr 1
    refine List.map_congr_left fun j hj => ?_
    have hj := List.mem_range.1 hj
    rw [z8f (by simp; omega), z8f (by simp; omega), List.getElem_append_left hj, List.getElem_append_left hj, ← y0l]
    congr 1
    unfold up
    rw [if_pos (by omega)]
  · rw [show ((List.range 1).map fun x => a.length + x) = [a.length] by rfl, List.map_map, List.flatMap_cons, List.flatMap_nil, List.append_nil, z8f (by simp), List.getElem_append_right (by omega)]
    simp only [Nat.sub_self, List.getElem_cons_zero, hr, List.nil_append]
    rw [List.flatMap_map, List.flatMap_map]
    unfold List.flatMap
    congr 1
    refine List.map_congr_left fun j hj => ?_
    have hj := List.mem_range.1 hj
    simp only [Function.comp]
    rw [z8f (by simp; omega), z8f (by simp; omega), List.getElem_append_right (by omega), List.getElem_append_right (by omega), ← y0l]
    have q1 : ∀ (h : a.length + (1 + j) - a.length < (r :: b).length) (h2 : a.length + j - a.length < b.length), (r :: b)[a.length + (1 + j) - a.length]'h = b[a.length + j - a.length]'h2 := by
      intro h h2
      have : a.length + (1 + j) - a.length = j + 1 := by omega
      simp only [this, List.getElem_cons_succ]
      congr 1
      omega
    rw [q1 (by simp; omega) (by omega)]
    congr 1
    unfold up
    rw [if_neg (by omega)]
    omega
theorem y6r (i : Nat) (a b : z1) : ltEv (ren (up i) a) (ren (up i) b) = ltEv a b := by
  unfold ltEv
  refine decide_eq_decide.2 ?_
  rw [zed, zed]
  simp only [ren, zur, up]
  have : (if a.report < (i : Int) then a.report else a.report + 1) < (if b.report < (i : Int) then b.report else b.report + 1) ↔ a.report < b.report := by
    split <;> split <;> omega
  rw [this]
theorem zvz (p : Pool) (a b : List z6) (r : z6) (w : Int) (hr : ∀ j, evR p w r j = []) : zaj p (a ++ r :: b) w = (zaj p (a ++ b) w).map (ren (up a.length)) := by
  have hS : srt p (a ++ r :: b) w = (srt p (a ++ b) w).map (ren (up a.length)) := by
    unfold srt
    rw [y1l p a b r w hr, ← zjj]
    congr 2
    funext x y
    exact y6r _ x y
  unfold zaj
  rw [hS]
  refine zpd (D := fun _ => True) (m := []) (fun x y _ _ h => ?_) (fun _ _ => trivial) (fun q hq => by cases hq)
  unfold up at h
  split at h <;> split at h <;> omega
theorem zqm (p : Pool) (a b : List z6) (r : z6) (hr : ∀ w j, evR p w r j = []) : RenL (z34 p (a ++ r :: b)) (z34 p (a ++ b)) := by
  unfold z34
  induction List.range p.fleet.wagons.length with
  | nil => exact .nil
  | cons w ws ih =>
    rw [List.map_cons, List.map_cons, zvz p a b r (w : Int) (hr _)]
    exact .cons _ _ ih
theorem zwj (φ : Nat) (hφ : 800000 < φ) (p : Pool) (a b : List z6) (r : z6) (hl : FewL (a ++ b)) (hl' : FewL (a ++ r :: b)) (hr : ∀ w j, evR p w r j = []) : z1m φ p (a ++ r :: b) = z1m φ p (a ++ b) := by
  rw [znf φ hφ p hl, znf φ hφ p hl', y08 (zqm p a b r hr)]
/-- How many events a report has. -/
def zaf (r : z6) : Nat := if r.item.kind = 2 ∨ r.item.kind = 9 then 2 else if r.item.kind = 1 ∨ r.item.kind = 3 ∨ r.item.kind = 4 ∨ r.item.kind = 6 ∨ r.item.kind = 7 then 1 else 0
theorem zqu (p : Pool) (r : z6) (i : Int) : (evs p r i).length = zaf r := by
  unfold evs zaf
  by_cases h1 : r.item.kind = 1
  · simp [h1]
  by_cases h2 : r.item.kind = 2 ∨ r.item.kind = 9
  · simp [h1, h2]
  by_cases h3 : r.item.kind = 3 ∨ r.item.kind = 4 ∨ r.item.kind = 6 ∨ r.item.kind = 7
  · simp [h1, h2, h3]
  · simp [h1, h2, h3]
theorem zpc (p : Pool) (l : List z6) (w : Int) : (zaj p l w).length = (uns p l w).length := by
  unfold zaj
  rw [zis, srt, (z2b _ _).length_eq]
end Px
end
section
namespace Px
open Go
set_option linter.unusedVariables false
set_option linter.unusedSimpArgs false
theorem z2t (φ : Nat) (a b c : Int) : zi φ a b c = some (bet a b c, ()) := rfl
theorem zjq (φ : Nat) (l : List Wash) (hl : l.length ≤ 4096) (hφ : 5000 < φ) : z7v φ l = some (bif z3u l then 0 else 1, ()) := by
  unfold z7v
  rw [z2 (mk_t _ _ (by omega) (by omega) (by omega))]
  refine z01 (fun n i t => z2u φ n l i t) l.length
    (fun i t => (List.range i).all (z2g l) = true ∧ t.length = 4096 ∧ ∀ j : Int, 0 ≤ j → j < 4096 → gt t j = (l.take i).any fun v => keyW v == j)
    (fun o => o = some (bif z3u l then 0 else 1, ())) ?_ ?_ φ _ ⟨by simp, by rw [List.length_replicate]; rfl, fun j h0 h1 => by rw [z5l _ _ _ h0 (by rw [show (4096 : Int).toNat = 4096 from rfl]; omega)]; simp⟩ (by omega)
  · intro n i t hi ⟨h1, h2, h3⟩ hs
    have hW : W ((i : Int) + 1) = (i : Int) + 1 := W_id (by omega) (by omega)
    have hsucc := z7q (z2g l) i
    have hbad : z2g l i = false → z3u l = false := by
      intro h
      unfold z3u
      rw [List.all_eq_false]
      exact ⟨i, by simp; omega, by simp [h]⟩
    rw [z2u, if_pos (by simp; omega), z2 ⟨by omega, by omega⟩]
    simp only [z2t, Option.bind_some, zp]
    have hok : zpv (gt l i) = (bet (gt l i).from_ 0 63 && bet (gt l i).to 0 63 && ((gt l i).from_ != (gt l i).to) && bet (gt l i).minutes 0 100000) := rfl
    have hne : ((gt l i).from_ == (gt l i).to) = !((gt l i).from_ != (gt l i).to) := by simp [bne]
    rw [hne]
    cases hw : zpv (gt l i) with
    | false =>
      rw [hbad (by simp [z2g, hw])]
      rw [hw] at hok
      clear hne hs h3
      generalize bet (gt l i).from_ 0 63 = a at *; generalize bet (gt l i).to 0 63 = b at *; generalize ((gt l i).from_ != (gt l i).to) = c at *; generalize bet (gt l i).minutes 0 100000 = d at *
      cases a <;> cases b <;> cases c <;> cases d <;> first | rfl | exact absurd hok (by decide)
    | true =>
      rw [hw] at hok
      have hb := hok.symm
      simp only [Bool.and_eq_true] at hb
      obtain ⟨⟨⟨b1, b2⟩, b3⟩, b4⟩ := hb
      have c1 := zog b1; have c2 := zog b2
      have e1 : W (64 * (gt l i).from_) = 64 * (gt l i).from_ := W_id (by omega) (by omega)
      have e2 : W (W (64 * (gt l i).from_) + (gt l i).to) = keyW (gt l i) := by rw [e1]; exact W_id (by omega) (by omega)
      have hk : 0 ≤ keyW (gt l i) ∧ keyW (gt l i) < 4096 := by unfold keyW; omega
      simp only [b1, b2, b3, b4, Bool.not_true, Bool.or_false, if_true, e2, Bool.or_self, Bool.false_eq_true, if_false]
      rw [z2 ⟨hk.1, by omega⟩, h3 _ hk.1 hk.2]
      have hat : z2g l i = !(l.take i).any fun v => keyW v == keyW (gt l i) := by simp only [z2g, hw, Bool.true_and]
      cases ha : (l.take i).any fun v => keyW v == keyW (gt l i) with
      | true => rw [hbad (by rw [hat, ha]; rfl)]; rfl
      | false =>
        rw [if_neg (by simp), z2 ⟨hk.1, by omega⟩, hW]
        refine hs _ ⟨by rw [hsucc, h1, hat, ha]; rfl, by rw [z3c, h2], fun j j0 j1 => ?_⟩
        rw [z1i _ _ _ _ hk.1 (by omega) j0, zbl _ _ _ hi, h3 j j0 j1]
        by_cases e : j = keyW (gt l i)
        · simp [e]
        · have : (keyW (gt l i) == j) = false := by simp; exact fun h => e h.symm
          simp [e, this]
  · intro n t ⟨h1, h2, h3⟩
    rw [z2u, if_neg (by simp)]
    unfold z3u
    rw [h1]; rfl
theorem zks (φ : Nat) (hφ : 5000 < φ) (x : z82) : zbh φ x = some (z31 x, ()) := by
  have e : (((decide (32 < (x.types.length : Int)) || decide (4096 < (x.wagons.length : Int))) || decide (1024 < (x.swaps.length : Int))) || decide (4096 < (x.washes.length : Int))) =
      (decide (32 < x.types.length) || decide (4096 < x.wagons.length) || decide (1024 < x.swaps.length) || decide (4096 < x.washes.length)) := by
    congr 1
    · congr 1
      · congr 1 <;> (apply decide_eq_decide.2; omega)
      · apply decide_eq_decide.2; omega
    · apply decide_eq_decide.2; omega
  unfold zbh z31
  rw [e]
  cases h : (decide (32 < x.types.length) || decide (4096 < x.wagons.length) || decide (1024 < x.swaps.length) || decide (4096 < x.washes.length)) with
  | true => rfl
  | false =>
    simp only [Bool.or_eq_false_iff, decide_eq_false_iff_not, Nat.not_lt] at h
    obtain ⟨⟨⟨h1, h2⟩, h3⟩, h4⟩ := h
    have hp : W ((x.types.length : Int) - 1) = (x.types.length : Int) - 1 := W_id (by omega) (by omega)
    rw [if_neg (by simp)]
    rw [z3y (fun n i => z3m φ n i x) (z2n φ φ 0 x) (some (1, ())) x.types (fun t => !zdz t) ?_ ?_ φ (by omega)]
    · rw [z3y (fun n i => z2n φ n i x) (z24 φ φ 0 x) (some (1, ())) x.wagons (fun t => !zae x.types.length t) ?_ ?_ φ (by omega)]
      · rw [z3y (fun n i => z24 φ n i x) ((z7v φ x.washes).bind fun y => some (y.1, ())) (some (1, ())) x.swaps (fun t => !zeu x.types.length t) ?_ ?_ φ (by omega)]
        · rw [zjq _ _ h4 hφ]
          simp only [Option.bind_some]
          simp only [List.any_eq_not_all_not, Bool.not_not]
          cases x.types.all zdz <;> cases x.wagons.all (zae x.types.length) <;> cases x.swaps.all (zeu x.types.length) <;> cases z3u x.washes <;> rfl
        · intro n i hi
          have hW : W ((i : Int) + 1) = (i : Int) + 1 := W_id (by omega) (by omega)
          have hne : ((gt x.swaps i).wanted == (gt x.swaps i).given) = !((gt x.swaps i).wanted != (gt x.swaps i).given) := by simp [bne]
          rw [z24, if_pos (by simp; omega), z2 ⟨by omega, by omega⟩]
          simp only [z2t, Option.bind_some, zeu, zp, hW, hp, hne]
          cases bet (gt x.swaps i).wanted 0 ((x.types.length : Int) - 1) <;> cases bet (gt x.swaps i).given 0 ((x.types.length : Int) - 1) <;> cases ((gt x.swaps i).wanted != (gt x.swaps i).given) <;>
            cases bet (gt x.swaps i).cost 0 1000000000 <;> rfl
        · intro n; rw [z24, if_neg (by simp)]
      · intro n i hi
        have hW : W ((i : Int) + 1) = (i : Int) + 1 := W_id (by omega) (by omega)
        rw [z2n, if_pos (by simp; omega), z2 ⟨by omega, by omega⟩]
        simp only [z8c, z2t, Option.bind_some, zae, zp, hW, hp]
        cases bet (gt x.wagons i).type_ 0 ((x.types.length : Int) - 1) <;> cases bet (gt x.wagons i).owner 0 63 <;> cases bet (gt x.wagons i).home 0 511 <;>
          cases bet (gt x.wagons i).built 0 1073741824 <;> cases bet (gt x.wagons i).worth 0 1099511627776 <;> rfl
      · intro n; rw [z2n, if_neg (by simp)]
    · intro n i hi
      have hW : W ((i : Int) + 1) = (i : Int) + 1 := W_id (by omega) (by omega)
      rw [z3m, if_pos (by simp; omega), z2 ⟨by omega, by omega⟩]
      simp only [z9o, z2t, Option.bind_some, zdz, zp, hW]
      cases bet (gt x.types i).load 0 1000000 <;> cases bet (gt x.types i).tare 0 1000000 <;> cases bet (gt x.types i).length 0 1000000 <;> cases bet (gt x.types i).brake 0 1000000 <;>
        cases bet (gt x.types i).gauge 0 7 <;> cases bet (gt x.types i).life 1 1073741824 <;> cases bet (gt x.types i).floor 0 100 <;> rfl
    · intro n; rw [z3m, if_neg (by simp)]
theorem y1a (b n : Nat) : pw (b % PP) n = pw b n := by unfold pw; rw [← Nat.pow_mod]
theorem y3w (b n : Nat) : pw (b * b % PP) n = pw b (2 * n) := by
  rw [y1a]; unfold pw; rw [Nat.pow_mul, Nat.pow_two]
theorem ztk (φ : Nat) : ∀ (m : Nat) (a b c n : Nat), m ≤ 64 → b < 2 ^ m → m < n → a < PP → c < PP → z1u φ n (a : Int) (b : Int) 2305843009213690799 (c : Int) = some ((((c + a * b) % PP : Nat) : Int), ()) := by
  intro m
  induction m with
  | zero =>
    intro a b c n hm64 hb hn ha hc
    obtain ⟨n, rfl⟩ : ∃ n', n = n' + 1 := ⟨n - 1, by omega⟩
    have : b = 0 := by simpa using hb
    subst this
    rw [z1u, if_neg (by simp), Nat.mul_zero, Nat.add_zero, Nat.mod_eq_of_lt hc]
  | succ m ih =>
    intro a b c n hm64 hb hn ha hc
    obtain ⟨n, rfl⟩ : ∃ n', n = n' + 1 := ⟨n - 1, by omega⟩
    by_cases h0 : b = 0
    · subst h0
      rw [z1u, if_neg (by simp), Nat.mul_zero, Nat.add_zero, Nat.mod_eq_of_lt hc]
    · rw [z1u, if_pos (by simp; omega), if_pos (by decide : (2 : Int) ≠ 0)]
      have e1 : (b : Int).tdiv 2 = ((b / 2 : Nat) : Int) := by rw [Int.tdiv_eq_ediv_of_nonneg (by omega)]; omega
      have e2 : (b : Int).tmod 2 = ((b % 2 : Nat) : Int) := by rw [Int.tmod_eq_emod_of_nonneg (by omega)]; omega
      have hbl : (b / 2 : Nat) < 2 ^ m := by rw [Nat.pow_succ] at hb; omega
      have h64 : (2 : Nat) ^ m ≤ 2 ^ 63 := Nat.pow_le_pow_right (by decide) (by omega)
      have hb2 : U ((b / 2 : Nat) : Int) = ((b / 2 : Nat) : Int) := U_id (by omega) (by omega)
      have ha0 := ha; have hc0 := hc
      unfold PP at ha hc
      have e3 : (U ((a : Int) + (a : Int))).tmod 2305843009213690799 = (((a + a) % PP : Nat) : Int) := by
        rw [U_id (by omega) (by omega), Int.tmod_eq_emod_of_nonneg (by omega)]; unfold PP; omega
      have e4 : (U ((c : Int) + (a : Int))).tmod 2305843009213690799 = (((c + a) % PP : Nat) : Int) := by
        rw [U_id (by omega) (by omega), Int.tmod_eq_emod_of_nonneg (by omega)]; unfold PP; omega
      unfold z5y
      rw [e1, e2, e3, e4, hb2]
      have hab : a * b = (a + a) * (b / 2) + a * (b % 2) := by
        conv => lhs; rw [← Nat.div_add_mod b 2]
        rw [Nat.mul_add, ← Nat.mul_assoc]; congr 1; rw [Nat.mul_two]
      have hfin : ∀ c' : Nat, (c' + (a + a) % PP * (b / 2)) % PP = (c' + (a + a) * (b / 2)) % PP := fun c' => by
        rw [Nat.add_mod, Nat.mul_mod, Nat.mod_mod, ← Nat.mul_mod, ← Nat.add_mod]
      have hlt : ∀ z : Nat, z % PP < PP := fun z => Nat.mod_lt _ (by decide)
      rcases Nat.mod_two_eq_zero_or_one b with hbit | hbit
      · rw [hbit, if_neg (by simp), z2 (by omega), if_pos (by decide : (2 : Int) ≠ 0), ih ((a + a) % PP) (b / 2) c n (by omega) hbl (by omega) (hlt _) hc0, hfin, hab, hbit, Nat.mul_zero, Nat.add_zero]
      · rw [hbit, if_pos (by simp), z2 (by omega), z2 (by omega), if_pos (by decide : (2 : Int) ≠ 0), ih ((a + a) % PP) (b / 2) ((c + a) % PP) n (by omega) hbl (by omega) (hlt _) (hlt _), hfin, hab, hbit, Nat.mul_one, Nat.mod_add_mod, show c + a + (a + a) * (b / 2) = c + ((a + a) * (b / 2) + a) by omega]
theorem ze1 (φ : Nat) (hφ : 70 < φ) (a b : Nat) (ha : a < PP) (hb : b < PP) : z92 φ (a : Int) (b : Int) 2305843009213690799 = some (((a * b % PP : Nat) : Int), ()) := by
  unfold z92
  have h64 : b < 2 ^ 64 := Nat.lt_trans hb (by decide)
  have := ztk φ 64 a b 0 φ (by omega) h64 (by omega) ha (by decide)
  rw [Nat.zero_add] at this
  exact this
theorem zza (φ : Nat) (hφ : 100 < φ) : ∀ (m : Nat) (a e c n : Nat), m ≤ 64 → e < 2 ^ m → m < n → a < PP → c < PP → z2x φ n (a : Int) (e : Int) (c : Int) = some (((c * pw a e % PP : Nat) : Int), ()) := by
  intro m
  induction m with
  | zero =>
    intro a e c n _ he hn ha hc
    obtain ⟨n, rfl⟩ : ∃ n', n = n' + 1 := ⟨n - 1, by omega⟩
    have : e = 0 := by simpa using he
    subst this
    rw [z2x, if_neg (by simp), znd, Nat.mul_one, Nat.mod_eq_of_lt hc]
  | succ m ih =>
    intro a e c n hm64 he hn ha hc
    obtain ⟨n, rfl⟩ : ∃ n', n = n' + 1 := ⟨n - 1, by omega⟩
    by_cases h0 : e = 0
    · subst h0
      rw [z2x, if_neg (by simp), znd, Nat.mul_one, Nat.mod_eq_of_lt hc]
    · rw [z2x, if_pos (by simp; omega), if_pos (by decide : (2 : Int) ≠ 0)]
      have e1 : (e : Int).tdiv 2 = ((e / 2 : Nat) : Int) := by rw [Int.tdiv_eq_ediv_of_nonneg (by omega)]; omega
      have e2 : (e : Int).tmod 2 = ((e % 2 : Nat) : Int) := by rw [Int.tmod_eq_emod_of_nonneg (by omega)]; omega
      have hel : (e / 2 : Nat) < 2 ^ m := by rw [Nat.pow_succ] at he; omega
      have h64 : (2 : Nat) ^ m ≤ 2 ^ 63 := Nat.pow_le_pow_right (by decide) (by omega)
      have hU : U ((e / 2 : Nat) : Int) = ((e / 2 : Nat) : Int) := U_id (by omega) (by omega)
      have hlt : ∀ z : Nat, z % PP < PP := fun z => Nat.mod_lt _ (by decide)
      unfold z8s
      rw [e1, e2, hU, ze1 φ (by omega) a a ha ha]
      have hab : pw a e = pw (a * a % PP) (e / 2) * pw a (e % 2) % PP := by
        rw [y3w, zvx, Nat.div_add_mod]
      rcases Nat.mod_two_eq_zero_or_one e with hbit | hbit
      · rw [hbit, if_neg (by simp), Option.bind_some, if_pos (by decide : (2 : Int) ≠ 0), ih _ _ _ n (by omega) hel (by omega) (hlt _) hc, hab, hbit, znd, Nat.mul_one, Nat.mod_eq_of_lt (zqi _ _)]
      · rw [hbit, if_pos (by simp), ze1 φ (by omega) c a hc ha, Option.bind_some, Option.bind_some, if_pos (by decide : (2 : Int) ≠ 0), ih _ _ _ n (by omega) hel (by omega) (hlt _) (hlt _), hab, hbit, y0c, Nat.mod_eq_of_lt ha]
        congr 2
        rw [Nat.mod_mul_mod, Nat.mul_mod_mod, Nat.mul_assoc, Nat.mul_comm a]
theorem zpr (φ : Nat) (hφ : 100 < φ) (b n : Nat) (hn : n < 18446744073709551616) : zfa φ (b : Int) (n : Int) = some (((pw b n : Nat) : Int), ()) := by
  unfold zfa
  rw [if_pos (by decide : (2305843009213690799 : Int) ≠ 0)]
  have hbm : ((b : Int)).tmod 2305843009213690799 = ((b % PP : Nat) : Int) := by
    rw [Int.tmod_eq_emod_of_nonneg (by omega)]; unfold PP; omega
  rw [hbm]
  have := zza φ hφ 64 (b % PP) n 1 φ (by omega) (by simpa using hn) (by omega) (Nat.mod_lt _ (by decide)) (by decide)
  rw [y1a, Nat.one_mul, Nat.mod_eq_of_lt (zqi _ _)] at this
  exact this
/-- What Valid answers. -/
theorem zkx (φ : Nat) (hφ : 100 < φ) (x : Int) : zb4 φ x = some (zth x, ()) := by
  unfold zb4 zth
  cases h : decide (2 ≤ x) && decide (x < 2305843009213690799) with
  | false => rw [gz_f (by simp)]; simp
  | true =>
    simp only [Bool.and_eq_true, decide_eq_true_eq] at h
    have := zpr φ hφ x.toNat QQ (by decide)
    rw [show ((x.toNat : Nat) : Int) = x by omega, show ((QQ : Nat) : Int) = 1152921504606845399 by decide] at this
    rw [gz_t rfl, this, Option.bind_some, zjh]
theorem zc9 (φ : Nat) (a b c : Int) : z14 φ a b c = some (bet a b c, ()) := rfl
theorem zkp (φ : Nat) (p : z5m) : zbm φ p = some (z7h p, ()) := by
  unfold zbm z7h
  simp only [zc9, Option.bind_some]
  cases bet p.kind 1 5 with
  | false => rfl
  | true =>
    rw [gz_t (by simp), Option.bind_some]
    cases bet p.railway 0 15 with
    | false => rfl
    | true =>
      rw [if_neg (by simp)]
      cases h : p.kind == 3 with
      | false => rfl
      | true => rfl
theorem zmh (φ : Nat) (e : Edge) (n : Int) (h : W (n - 1) = n - 1) : zdm φ e n = some (z8e n e, ()) := by
  unfold zdm z8e
  simp only [zc9, Option.bind_some, h, zp]
  cases bet e.a 0 (n - 1) <;> cases bet e.b 0 (n - 1) <;> cases (e.a != e.b) <;> cases bet e.railway 0 15 <;> cases bet e.minutes 1 100000 <;> cases bet e.km 0 10000 <;> rfl
theorem zkq (φ : Nat) (hφ : 5000 < φ) (x : z7) : zbn φ x = some (z81 x, ()) := by
  unfold zbn z81
  rw [zt3]
  cases h : decide (512 < x.places.length) || decide (2048 < x.edges.length) with
  | true => rfl
  | false =>
    simp only [Bool.or_eq_false_iff, decide_eq_false_iff_not, Nat.not_lt] at h
    rw [if_neg (by simp), z3y (fun n i => z3h φ n i x) (z2i φ φ 0 x) (some (1, ())) x.places (fun t => !z7h t) ?_ ?_ φ (by omega)]
    · rw [z3y (fun n i => z2i φ n i x) (some (0, ())) (some (1, ())) x.edges (fun t => !z8e x.places.length t) ?_ ?_ φ (by omega)]
      · simp only [List.any_eq_not_all_not, Bool.not_not]
        cases x.places.all z7h <;> cases x.edges.all (z8e x.places.length) <;> rfl
      · intro n i hi
        rw [z2i, if_pos (by simp; omega), z2 ⟨by omega, by omega⟩, zmh _ _ _ (W_id (by omega) (by omega)), Option.bind_some, W_id (by omega) (by omega)]
        cases z8e x.places.length (gt x.edges i) <;> rfl
      · intro n; rw [z2i, if_neg (by simp)]
    · intro n i hi
      rw [z3h, if_pos (by simp; omega), z2 ⟨by omega, by omega⟩, zkp, Option.bind_some, W_id (by omega) (by omega)]
      cases z7h (gt x.places i) <;> rfl
    · intro n; rw [z3h, if_neg (by simp)]
def z9l (l : List Int) (i : Nat) : Int := if i = 0 then -1 else gt l ((i : Int) - 1)
theorem zzf (φ : Nat) (c : z35) : ∀ (n i : Nat), -1 ≤ z9l c.holidays i → (i : Int) ≤ z9l c.holidays i + 1 → z9l c.holidays i ≤ 745654 → i ≤ c.holidays.length → 745656 ≤ (n : Int) + z9l c.holidays i → z3i φ n i c = some (bif zo1 (z9l c.holidays i) (c.holidays.drop i) then 0 else 1, ()) := by
  intro n
  induction n with
  | zero => intro i _ _ _ _ _; omega
  | succ n ih =>
    intro i hp hip hp2 hi hn
    by_cases h : i = c.holidays.length
    · rw [z3i, if_neg (by rw [h]; simp), h, List.drop_length]; rfl
    · have hW : W ((i : Int) - 1) = (i : Int) - 1 := W_id (by omega) (by omega)
      rw [z3i, if_pos (by simp; omega), z2 ⟨by omega, by omega⟩, hW, z2 (fun h => by have := h.2; simp at this; omega), zrm _ _ (by omega)]
      have hc : ((decide ((gt c.holidays i) < 0) || decide (745654 < (gt c.holidays i))) || (decide (0 < (i : Int)) && decide ((gt c.holidays i) ≤ (gt c.holidays ((i : Int) - 1))))) = !(decide (z9l c.holidays i < gt c.holidays i) && decide (gt c.holidays i ≤ 745654)) := by
        unfold z9l at *
        rw [Bool.eq_iff_iff]
        by_cases h0 : i = 0
        · subst h0; simp; omega
        · rw [if_neg h0] at *; simp; omega
      rw [hc]
      cases hb : decide (z9l c.holidays i < gt c.holidays i) && decide (gt c.holidays i ≤ 745654) with
      | false => rw [if_pos (by simp)]; simp [zo1, hb]
      | true =>
        rw [if_neg (by simp), W_id (by omega) (by omega)]
        have hpe : z9l c.holidays (i + 1) = gt c.holidays i := by
          unfold z9l
          rw [if_neg (by omega)]; congr 1; omega
        have hb' := hb
        simp only [Bool.and_eq_true, decide_eq_true_eq] at hb'
        have := ih (i + 1) (by rw [hpe]; omega) (by rw [hpe]; omega) (by rw [hpe]; omega) (by omega) (by rw [hpe]; omega)
        rw [hpe, show ((i + 1 : Nat) : Int) = (i : Int) + 1 by omega] at this
        rw [this]
        simp [zo1, hb]
theorem zkk (φ : Nat) (hφ : 800000 < φ) (c : z35) : zc6 φ c = some (bif zgu c then 0 else 1, ()) := by
  unfold zc6
  refine z01 (fun n i (_ : Unit) => z3g φ n i c) 7 (fun i _ => ((List.range i).all fun j => zft (c.open_ j)) = true) (fun o => o = some (bif zgu c then 0 else 1, ())) ?_ ?_ φ () (by simp) (by omega)
  · intro n i _ hi h hs
    rw [z3g, if_pos (by simp; omega), z2 ⟨by omega, by omega⟩, Int.toNat_natCast, zfc, W_id (by omega) (by omega)]
    cases ho : zft (c.open_ i) with
    | true =>
      rw [if_neg (by simp)]
      exact hs () (by rw [z7q, h, ho]; rfl)
    | false =>
      have : zgu c = false := by
        unfold zgu
        have : ((List.range 7).all fun j => zft (c.open_ j)) = false := by
          rw [List.all_eq_false]; exact ⟨i, by simp; omega, by simp [ho]⟩
        rw [this]; rfl
      rw [if_pos (by simp), this]; rfl
  · intro n _ h
    rw [z3g, if_neg (by simp)]
    unfold zgu
    rw [h, Bool.true_and]
    have := zzf φ c φ 0 (by simp [z9l]) (by simp [z9l]) (by simp [z9l]) (by omega) (by simp [z9l]; omega)
    simpa [z9l] using this
theorem zm5 (φ : Nat) (hφ : 800000 < φ) (x : Pool) (h1 : x.network.places.length ≤ 512) (h2 : x.fleet.wagons.length ≤ 4096) (h3 : x.readers.length ≤ 256) (h4 : x.shippers.length ≤ 256) :
    zdo φ x = some (!((x.readers.any (z4y x.network.places.length) || x.shippers.any (z4e x.network)) || x.fleet.wagons.any (fun w => decide ((x.network.places.length : Int) ≤ w.home))), ()) := by
  have hp : W ((x.network.places.length : Int) - 1) = (x.network.places.length : Int) - 1 := W_id (by omega) (by omega)
  unfold zdo
  rw [z3y (fun n i => z4i φ n (x.network.places.length : Int) i x) (z2p φ φ (x.network.places.length : Int) 0 x) (some (false, ())) x.readers (z4y x.network.places.length) ?_ ?_ φ (by omega)]
  rotate_left
  · intro n i hi
    rw [z4i, if_pos (by simp; omega), z2 ⟨by omega, by omega⟩, hp, W_id (by omega) (by omega), z2t, Option.bind_some]
    show (if z4y x.network.places.length (gt x.readers i) = true then some (false, ()) else _) = _
    cases z4y x.network.places.length (gt x.readers i) <;> rfl
  · intro n; rw [z4i, if_neg (by simp)]
  rw [z3y (fun n i => z2p φ n (x.network.places.length : Int) i x) (z2m φ φ (x.network.places.length : Int) 0 x) (some (false, ())) x.shippers (z4e x.network) ?_ ?_ φ (by omega)]
  rotate_left
  · intro n i hi
    rw [z2p, if_pos (by simp; omega), z2 ⟨by omega, by omega⟩, hp, W_id (by omega) (by omega), z2t, Option.bind_some, z2 (fun _ => ⟨by omega, by omega⟩), z2 (fun h => by
      simp only [Bool.not_eq_false'] at h
      have := zog h; omega)]
    show (if z4e x.network (gt x.shippers i) = true then some (false, ()) else _) = _
    cases z4e x.network (gt x.shippers i) <;> rfl
  · intro n; rw [z2p, if_neg (by simp)]
  rw [z3y (fun n i => z2m φ n (x.network.places.length : Int) i x) (some (true, ())) (some (false, ())) x.fleet.wagons (fun w => decide ((x.network.places.length : Int) ≤ w.home)) ?_ ?_ φ (by omega)]
  rotate_left
  · intro n i hi
    rw [z2m, if_pos (by simp; omega), z2 ⟨by omega, by omega⟩, W_id (by omega) (by omega)]
    cases decide ((x.network.places.length : Int) ≤ (gt x.fleet.wagons i).home) <;> rfl
  · intro n; rw [z2m, if_neg (by simp)]
  cases x.readers.any (z4y x.network.places.length) <;> cases x.shippers.any (z4e x.network) <;> cases x.fleet.wagons.any (fun w => decide ((x.network.places.length : Int) ≤ w.home)) <;> rfl
theorem zkr (φ : Nat) (hφ : 800000 < φ) (x : Pool) (h1 : x.network.places.length ≤ 512) (h2 : x.network.edges.length ≤ 2048) :
    zb2 φ x = some (!(x.network.places.any (fun p => decide ((x.railways.length : Int) ≤ p.railway) || decide ((x.railways.length : Int) ≤ p.other)) || x.network.edges.any (fun e => decide ((x.railways.length : Int) ≤ e.railway))), ()) := by
  unfold zb2
  rw [z3y (fun n i => z3k φ n (x.railways.length : Int) i x) (z2j φ φ (x.railways.length : Int) 0 x) (some (false, ())) x.network.places (fun p => decide ((x.railways.length : Int) ≤ p.railway) || decide ((x.railways.length : Int) ≤ p.other)) ?_ ?_ φ (by omega)]
  rotate_left
  · intro n i hi
    rw [z3k, if_pos (by simp; omega), z2 ⟨by omega, by omega⟩, W_id (by omega) (by omega)]
    cases decide ((x.railways.length : Int) ≤ (gt x.network.places i).railway) || decide ((x.railways.length : Int) ≤ (gt x.network.places i).other) <;> rfl
  · intro n; rw [z3k, if_neg (by simp)]
  rw [z3y (fun n i => z2j φ n (x.railways.length : Int) i x) (some (true, ())) (some (false, ())) x.network.edges (fun e => decide ((x.railways.length : Int) ≤ e.railway)) ?_ ?_ φ (by omega)]
  rotate_left
  · intro n i hi
    rw [z2j, if_pos (by simp; omega), z2 ⟨by omega, by omega⟩, W_id (by omega) (by omega)]
    cases decide ((x.railways.length : Int) ≤ (gt x.network.edges i).railway) <;> rfl
  · intro n; rw [z2j, if_neg (by simp)]
  cases x.network.places.any (fun p => decide ((x.railways.length : Int) ≤ p.railway) || decide ((x.railways.length : Int) ≤ p.other)) <;> cases x.network.edges.any (fun e => decide ((x.railways.length : Int) ≤ e.railway)) <;> rfl
theorem zfo (φ : Nat) (hφ : 800000 < φ) (x : Pool) : z43 φ x = some (z1s x, ()) := by
  unfold z43 z1s
  rw [zkq _ (by omega), Option.bind_some]
  by_cases hn : z81 x.network = 0
  case neg => rw [if_pos (by simp [hn]), if_pos hn]
  rw [if_neg (by simp [hn]), if_neg (fun e : z81 x.network ≠ 0 => e hn), zks _ (by omega), Option.bind_some]
  by_cases hf : z31 x.fleet = 0
  case neg => rw [if_pos (by simp [hf]), if_pos hf]
  rw [if_neg (by simp [hf]), if_neg (fun e : z31 x.fleet ≠ 0 => e hf)]
  cases hb : zbd x with
  | true =>
    have e : (((decide (256 < (x.readers.length : Int)) || decide (256 < (x.shippers.length : Int))) || decide (16 < (x.railways.length : Int)))) = zbd x := rfl
    rw [e, hb]; rfl
  | false =>
    have hb' : ¬ (((decide (256 < (x.readers.length : Int)) || decide (256 < (x.shippers.length : Int))) || decide (16 < (x.railways.length : Int))) = true) := by
      rw [show (((decide (256 < (x.readers.length : Int)) || decide (256 < (x.shippers.length : Int))) || decide (16 < (x.railways.length : Int)))) = zbd x from rfl, hb]; simp
    rw [if_neg hb']
    simp only [Bool.or_eq_true, decide_eq_true_eq, not_or] at hb'
    obtain ⟨n1, n2, _, _⟩ := zfl hn
    obtain ⟨f1, f2, _⟩ := z37 hf
    rw [zm5 φ hφ _ n1 f2 (by omega) (by omega), Option.bind_some, zkr φ hφ _ n1 n2]
    have hL : z0t φ φ 0 x = bif x.railways.any zep then some (1, ()) else (if (((x.railways.length : Int) : Int) == 0) = true then (some (1, ())) else (some (0, ()))) := by
      refine z3y (fun n i => z0t φ n i x) (if (((x.railways.length : Int) : Int) == 0) = true then (some (1, ())) else (some (0, ()))) (some (1, ())) x.railways zep ?_ ?_ φ (by omega)
      · intro n i hi
        rw [z0t, if_pos (by simp; omega), z2 ⟨by omega, by omega⟩, W_id (by omega) (by omega), zkk _ hφ, Option.bind_some, z2 (fun _ => ⟨by omega, by omega⟩)]
        unfold zep
        cases zgu (gt x.railways i).calendar with
        | false => rw [gz_f (by simp)]; rfl
        | true =>
          rw [gz_t (by simp), zkx _ (by omega), Option.bind_some]
          cases zth (gt x.railways i).key <;> rfl
      · intro n; rw [z0t, if_neg (by simp)]
    rw [hL]
    unfold ze4
    cases x.readers.any (z4y x.network.places.length) <;> cases x.shippers.any (z4e x.network) <;> cases x.fleet.wagons.any (fun w => decide ((x.network.places.length : Int) ≤ w.home)) <;>
      cases x.network.places.any (fun p => decide ((x.railways.length : Int) ≤ p.railway) || decide ((x.railways.length : Int) ≤ p.other)) <;> cases x.network.edges.any (fun e => decide ((x.railways.length : Int) ≤ e.railway)) <;>
      cases x.railways.any zep <;> cases ((x.railways.length : Int) == 0) <;> rfl
end Px
end
section
namespace Px
open Go
theorem y3x : zg5 100000000 = some (true, ()) := by kernel_rfl
end Px
end
section
namespace Px
open Go
set_option linter.unusedVariables false
set_option linter.unusedSimpArgs false
theorem y1h (φ : Nat) (hφ : 1000 < φ) (r : z6) : ∃ b, z1o φ [r] 1 = some (b, ()) ∧ (b = true → r.item.parts.length ≤ 40) := by
  unfold z1o
  rw [if_neg (by simp)]
  obtain ⟨n, rfl⟩ : ∃ n, φ = n + 1 + 1 := ⟨φ - 2, by omega⟩
  rw [z07, if_pos (by simp), z2 ⟨by omega, by simp⟩, z2 (fun _ => ⟨by omega, by simp⟩), W_id (by omega) (by omega)]
  have e : gt [r] 0 = r := rfl
  rw [e]
  split
  · exact ⟨false, rfl, fun h => by cases h⟩
  · rename_i hc
    simp only [Bool.or_eq_true, decide_eq_true_eq, not_or] at hc
    rw [z07, if_neg (by simp)]
    exact ⟨true, rfl, fun _ => by omega⟩
theorem zr3 {α : Type} (l : List α) (i : Nat) : zn l 0 i = l.take i := by simp [zn]
theorem zr4 {α : Type} (l : List α) (i : Nat) : zn l i l.length = l.drop i := by simp [zn]
theorem zyw {p : Pool} {r : z6} (h : ¬ (z6t p r.item = true ∧ (r.item.kind ≤ 4 ∨ r.item.kind = 6 ∨ r.item.kind = 7 ∨ r.item.kind = 9))) (w j : Int) : evR p w r j = [] := by
  unfold evR
  split
  · rename_i h2
    refine List.eq_nil_of_length_eq_zero ?_
    rw [zqu]
    unfold zaf
    rw [if_neg (fun q => h ⟨h2.1, by omega⟩), if_neg (fun q => h ⟨h2.1, by omega⟩)]
  · rfl
/-- The count of events up to a report. -/
def zit (p : Pool) (l : List z6) (n : Nat) (w : Int) : Nat := (unsC p l (cntN p l n) w).length
theorem zlf (p : Pool) (l : List z6) (n : Nat) (w : Int) : zit p l (n + 1) w = zit p l n w + (if z6t p (gt l (n : Int)).item = true ∧ (gt l (n : Int)).item.wagon = w then zaf (gt l (n : Int)) else 0) := by
  unfold zit
  rw [zf9, zf9, List.range_succ, List.flatMap_append, List.length_append]
  congr 1
  simp only [List.flatMap_cons, List.flatMap_nil, List.append_nil]
  unfold evR
  split
  · rw [zqu]
  · rfl
theorem zuf (φ : Nat) (k) (l : List z6) (at_ : Int) (i : Nat) (hi : i < l.length) (hl : l.length ≤ 1000) (p : Pool) (r : z6) (o : List Int) (h0 : 0 ≤ (gt l (i : Int)).item.wagon ∧ (gt l (i : Int)).item.wagon < (o.length : Int)) :
    (if (((gt l (i : Int)).item.kind : Int) == 2) = true then (z06 φ k l at_ (i : Int) ((gt l (i : Int)).item.kind) (((gt l (i : Int)).item.kind : Int) == 2) p r o) else (z06 φ k l at_ (i : Int) ((gt l (i : Int)).item.kind) (((gt l (i : Int)).item.kind : Int) == 9) p r o)) =
      k l at_ ((i : Int) + 1) p r (if zaf (gt l (i : Int)) = 0 then o else z0d o (gt l (i : Int)).item.wagon (W (gt o (gt l (i : Int)).item.wagon + (zaf (gt l (i : Int)) : Int)))) := by
  have hin : (0 : Int) ≤ (i : Int) ∧ (i : Int) < (l.length : Int) := ⟨by omega, by omega⟩
  have hW : W ((i : Int) + 1) = (i : Int) + 1 := W_id (by omega) (by omega)
  have two : ∀ b : Bool, b = true → zaf (gt l (i : Int)) = 2 → z06 φ k l at_ (i : Int) ((gt l (i : Int)).item.kind) b p r o = k l at_ ((i : Int) + 1) p r (if zaf (gt l (i : Int)) = 0 then o else z0d o (gt l (i : Int)).item.wagon (W (gt o (gt l (i : Int)).item.wagon + (zaf (gt l (i : Int)) : Int)))) := by
    intro b hb hc
    rw [z06, if_pos hb, z2 hin, z2 h0, z2 h0, hW, hc]
    rfl
  have one : ∀ b : Bool, b = true → zaf (gt l (i : Int)) = 1 → zy φ k l at_ (i : Int) b p r o = k l at_ ((i : Int) + 1) p r (if zaf (gt l (i : Int)) = 0 then o else z0d o (gt l (i : Int)).item.wagon (W (gt o (gt l (i : Int)).item.wagon + (zaf (gt l (i : Int)) : Int)))) := by
    intro b hb hc
    rw [zy, if_pos hb, z2 hin, z2 h0, z2 h0, hW, hc]
    rfl
  generalize hk : (gt l (i : Int)).item.kind = q at *
  by_cases h2 : q = 2
  · rw [if_pos (by simpa using h2)]
    exact two _ (by simpa using h2) (by unfold zaf; rw [if_pos (by omega)])
  rw [if_neg (by simpa using h2)]
  by_cases h9 : q = 9
  · exact two _ (by simpa using h9) (by unfold zaf; rw [if_pos (by omega)])
  rw [z06, if_neg (by simpa using h9)]
  by_cases h1 : q = 1
  · rw [if_pos (by simpa using h1)]
    exact one _ (by simpa using h1) (by unfold zaf; rw [if_neg (by omega), if_pos (by omega)])
  rw [if_neg (by simpa using h1)]
  by_cases h3 : q = 3
  · rw [if_pos (by simpa using h3)]
    exact one _ (by simpa using h3) (by unfold zaf; rw [if_neg (by omega), if_pos (by omega)])
  rw [if_neg (by simpa using h3)]
  by_cases h4 : q = 4
  · rw [if_pos (by simpa using h4)]
    exact one _ (by simpa using h4) (by unfold zaf; rw [if_neg (by omega), if_pos (by omega)])
  rw [if_neg (by simpa using h4)]
  by_cases h6 : q = 6
  · rw [if_pos (by simpa using h6)]
    exact one _ (by simpa using h6) (by unfold zaf; rw [if_neg (by omega), if_pos (by omega)])
  rw [if_neg (by simpa using h6)]
  by_cases h7 : q = 7
  · exact one _ (by simpa using h7) (by unfold zaf; rw [if_neg (by omega), if_pos (by omega)])
  rw [zy, if_neg (by simpa using h7), hW, if_pos (by unfold zaf; rw [if_neg (by omega), if_neg (by omega)])]
theorem zya (p : Pool) (l : List z6) (n : Nat) (w : Int) : zit p l n w ≤ 2 * n := by
  have := zdn p l w (cntN p l n)
  have := zez p l n
  unfold zit; omega
theorem zqs (φ : Nat) (hφ : 800000 < φ) {p : Pool} (hc : z1s p = 0) {l : List z6} (hl : FewL l) (at_ : Int) (r : z6) (o0 : List Int) (ho0 : o0.length ≤ 4096) (hz : ∀ w : Nat, w < o0.length → gt o0 (w : Int) = 0) :
    ∃ o : List Int, zq φ φ l at_ 0 p r o0 = z00 φ φ l at_ 0 p r o ∧ o.length = o0.length ∧ ∀ w : Nat, w < o0.length → gt o (w : Int) = (zit p l l.length (w : Int) : Int) := by
  have h1 := hl.len
  refine z01 (fun n i o => zq φ n l at_ i p r o) l.length (fun i o => o.length = o0.length ∧ ∀ w : Nat, w < o0.length → gt o (w : Int) = (zit p l i (w : Int) : Int))
    (fun out => ∃ o : List Int, out = z00 φ φ l at_ 0 p r o ∧ o.length = o0.length ∧ ∀ w : Nat, w < o0.length → gt o (w : Int) = (zit p l l.length (w : Int) : Int)) ?_ ?_ φ o0 ⟨rfl, fun w hw => by rw [hz w hw]; simp [zit, cntN, unsC]⟩ (by omega)
  · intro n i o hi ⟨g1, g2⟩ hs
    have hin : (0 : Int) ≤ (i : Int) ∧ (i : Int) < (l.length : Int) := ⟨by omega, by omega⟩
    rw [zq, if_pos (by simp; omega), z2 hin, zcs φ hφ hc (hl.gt hin.1 hin.2), Option.bind_some, z2 (fun _ => hin), z2 (fun _ => hin)]
    by_cases hcond : z6t p (gt l (i : Int)).item = true ∧ 0 ≤ (gt l (i : Int)).item.wagon ∧ (gt l (i : Int)).item.wagon < (o.length : Int)
    case neg =>
      rw [if_pos (by
        cases h : z6t p (gt l (i : Int)).item with
        | false => simp
        | true => simp [h] at hcond ⊢; omega), W_id (by omega) (by omega)]
      refine hs o ⟨g1, fun w hw => ?_⟩
      rw [g2 w hw, zlf, if_neg (fun q => hcond ⟨q.1, by omega, by omega⟩), Nat.add_zero]
    obtain ⟨c1, c2⟩ := hcond
    rw [if_neg (by simp [c1]; omega), z2 hin, zuf φ (zq φ n) l at_ i hi h1 p r o c2]
    obtain ⟨w0, hw0⟩ : ∃ w0 : Nat, (gt l (i : Int)).item.wagon = (w0 : Int) := ⟨(gt l (i : Int)).item.wagon.toNat, by omega⟩
    have hbd := zya p l i (w0 : Int)
    have hev : zaf (gt l (i : Int)) ≤ 2 := by
      rw [← zqu p _ 0]; exact zrg _ _ _
    refine hs _ ⟨?_, fun w hw => ?_⟩
    · split
      · exact g1
      · rw [z3c]; exact g1
    · rw [zlf]
      by_cases e : w = w0
      · subst e
        rw [if_pos (show z6t p (gt l (i : Int)).item = true ∧ (gt l (i : Int)).item.wagon = (w : Int) from ⟨c1, hw0⟩)]
        split
        · rename_i hz
          rw [g2 w hw, hz, Nat.add_zero]
        · rw [hw0, z1i _ _ _ _ (by omega) (by omega) (by omega), if_pos rfl, g2 w hw, W_id (by omega) (by omega)]
          omega
      · rw [if_neg (show ¬ (z6t p (gt l (i : Int)).item = true ∧ (gt l (i : Int)).item.wagon = (w : Int)) from fun q => e (by omega)), Nat.add_zero]
        split
        · exact g2 w hw
        · rw [hw0, z1i _ _ _ _ (by omega) (by omega) (by omega), if_neg (by omega)]
          exact g2 w hw
  · intro n o ⟨g1, g2⟩
    rw [zq, if_neg (by simp)]
    exact ⟨o, rfl, g1, g2⟩
theorem ztb (φ : Nat) (hφ : 60000000 < φ) (p : Pool) {l : List z6} (hl : FewL l) (hl5 : l.length ≤ 500) {r : z6} (hr : r.item.parts.length ≤ 40) (h : ∀ w j, evR p w r j = []) (i : Int) (hi : 0 ≤ i ∧ i ≤ (l.length : Int)) :
    z1c φ l i p r = some (true, ()) := by
  obtain ⟨n, rfl⟩ : ∃ n : Nat, i = (n : Int) := ⟨i.toNat, by omega⟩
  have hn : n ≤ l.length := by omega
  have e0 : zn l (0 : Int).toNat ((n : Int)).toNat = l.take n := zr3 l n
  have e1 : zn l ((n : Int)).toNat ((l.length : Int)).toNat = l.drop n := zr4 l n
  have hl' : FewL (l.take n ++ r :: l.drop n) := ⟨by simp; omega, fun x hx => by
    rcases List.mem_append.1 hx with hx | hx
    · exact hl.parts x (List.mem_of_mem_take hx)
    · rcases List.mem_cons.1 hx with rfl | hx
      · omega
      · exact hl.parts x (List.mem_of_mem_drop hx)⟩
  have hB := zwj φ (by omega) p (l.take n) (l.drop n) r (by rw [List.take_append_drop]; exact hl) hl' h
  rw [List.take_append_drop] at hB
  obtain ⟨x, e, hx, b1, b2, b3⟩ := zyf φ (by omega) p hl
  have hS := zwx φ x (by omega) (by omega) (by omega) (by omega)
  unfold z1c z1e
  rw [z2 ⟨by omega, by omega, by omega⟩, z2 ⟨by omega, by omega, by omega⟩, e0, e1, z2 (zl0 (by simp; omega) (by omega)), z2 (zl0 (by simp; omega) (by omega)), z2 (zl0 (by simp; omega) (by omega))]
  rw [show ([] ++ l.take n ++ [r] ++ l.drop n) = l.take n ++ r :: l.drop n by simp, hB, hx, Option.bind_some, Option.bind_some, gz_t (by simp), hS, Option.bind_some]
  simp
theorem zmp (φ : Nat) (hφ : 60000000 < φ) {p : Pool} (hc : z1s p = 0) {l : List z6} (hl : FewL l) (hl5 : l.length ≤ 500) {r : z6} (hr : r.item.parts.length ≤ 40) (at_ : Int) (o : List Int) (ho : o.length = p.fleet.wagons.length)
    (h : ∀ w : Nat, w < o.length → gt o (w : Int) = (zit p l l.length (w : Int) : Int)) : z00 φ φ l at_ 0 p r o = some (true, ()) := by
  obtain ⟨_, hf, _⟩ := z6w hc
  obtain ⟨_, f2, _⟩ := z37 hf
  refine z01 (fun n i (_ : Unit) => z00 φ n l at_ i p r o) o.length (fun _ _ => True) (fun x => x = some (true, ())) ?_ ?_ φ () trivial (by omega)
  · intro n i _ hi _ hs
    rw [z00, if_pos (by simp; omega), zz3 φ (by omega) p hl, Option.bind_some, z2 ⟨by omega, by omega⟩, if_pos (show z1s p = 0 ∧ 0 ≤ (i : Int) ∧ (i : Int) < (p.fleet.wagons.length : Int) from ⟨hc, by omega, by omega⟩), h i hi]
    rw [if_neg (by
      simp only [List.length_map, zpc]
      simp [zit, uns, cnt]), W_id (by omega) (by omega)]
    exact hs () trivial
  · intro n _ _
    rw [z00, if_neg (by simp), zcs φ (by omega) hc (by omega), Option.bind_some]
    split
    · rfl
    · rename_i hcond
      have hU : U (W ((l.length : Int) + 1)) = (l.length : Int) + 1 := by rw [W_id (by omega) (by omega), U_id (by omega) (by omega)]
      have hz : 0 ≤ U at_ := by rw [zts]; omega
      have t1 := Int.tmod_nonneg ((l.length : Int) + 1) hz
      have t2 := Int.tmod_lt_of_pos (U at_) (show (0 : Int) < (l.length : Int) + 1 by omega)
      rw [hU, z2 (by omega), W_id (by omega) (by omega)]
      refine ztb φ hφ p hl hl5 hr (zyw fun q => hcond ?_) _ ⟨by omega, by omega⟩
      rw [q.1]
      have := q.2
      simp
      omega
theorem znr (φ : Nat) (p : Pool) (l : List z6) (r : z6) (a : Int) : (z30 φ).F (p, l, r, a, ()) = z4d φ p l r a := rfl
theorem zho (x : Tup TT [30, 38, 37, 0]) (h : y3s TV 30 [30, 38, 37, 0] x) : ∃ φ, (z30 φ).F x = some (true, ()) := by
  obtain ⟨p, l, r, a, _⟩ := x
  change List z6 at l
  change Pool at p
  change z6 at r
  change Int at a
  suffices key : ∃ φ, z4d φ p l r a = some (true, ()) by
    obtain ⟨φ, h⟩ := key
    exact ⟨φ, (znr φ p l r a).trans h⟩
  refine ⟨100000000, ?_⟩
  unfold z4d
  obtain ⟨bf, hbf, hfew⟩ := y5f 100000000 (by omega) p l
  rw [y3x, Option.bind_some, if_neg (by simp), hbf, Option.bind_some]
  cases bf with
  | false => rw [if_neg (by simp), gz_f (by simp), Option.bind_some, if_pos (by simp)]
  | true =>
  obtain ⟨hl, hlen, _⟩ := hfew rfl
  obtain ⟨b1, hb1, hr⟩ := y1h 100000000 (by omega) r
  rw [if_pos (by simp), hb1, Option.bind_some]
  cases b1 with
  | false => rw [gz_f (by simp), Option.bind_some, if_pos (by simp)]
  | true =>
  rw [gz_t (by simp), zfo _ (by omega), Option.bind_some]
  by_cases hc : z1s p = 0
  case neg => rw [if_pos (by simp [hc])]
  rw [if_neg (by simp [hc])]
  obtain ⟨_, hf, _⟩ := z6w hc
  obtain ⟨_, f2, _⟩ := z37 hf
  rw [z2 (mk_t _ _ (by omega) (by omega) (by omega))]
  obtain ⟨o, h1, h2, h3⟩ := zqs 100000000 (by omega) hc hl a r (List.replicate ((p.fleet.wagons.length : Int)).toNat (default : Int)) (by simp; omega) (fun w hw => by rw [z5l _ _ _ (by omega) (by simpa using hw)]; rfl)
  rw [h1]
  rw [List.length_replicate, Int.toNat_natCast] at h2 h3
  exact zmp 100000000 (by omega) hc hl (by omega) (hr rfl) a o h2 (by rw [h2]; exact h3)
end Px
end
