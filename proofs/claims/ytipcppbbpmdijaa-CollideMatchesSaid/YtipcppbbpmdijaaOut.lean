/-
  The shapes that the laws draw: six outlines, scaled and turned; they are valid, also with another first vertex, and invalid turned about. Conditions: as the theorems state. No program in sight.
-/
import Derived.Test.YtipcppbbpmdijaaScl
namespace Go.Proofs.Ytipcppbbpmdijaa
open Go.RowKit Go.Sort
/-- A polygon with another first vertex. -/
def rot (j : Nat) (vs : List V2) : List V2 := vs.drop j ++ vs.take j
theorem rot_length (j : Nat) (vs : List V2) : (rot j vs).length = vs.length := by unfold rot; simp; omega
theorem rot_map (f : V2 → V2) (j : Nat) (vs : List V2) : rot j (vs.map f) = (rot j vs).map f := by unfold rot; simp [List.map_drop, List.map_take]
theorem rot_mem {j : Nat} {vs : List V2} {v : V2} : v ∈ rot j vs ↔ v ∈ vs := by
  unfold rot
  rw [List.mem_append]
  constructor
  · rintro (h | h)
    · exact List.mem_of_mem_drop h
    · exact List.mem_of_mem_take h
  · intro h
    rw [← List.take_append_drop j vs, List.mem_append] at h
    exact h.symm
theorem rot_nil {j : Nat} {vs : List V2} : rot j vs = [] ↔ vs = [] := by
  rw [← List.length_eq_zero_iff, rot_length, List.length_eq_zero_iff]
theorem vtx_rot {j k : Nat} {vs : List V2} (hk : k < vs.length) (hj : j < vs.length) : vtx (rot j vs) k = vtx vs ((k + j) % vs.length) := by
  unfold vtx rot
  rw [List.getD_eq_getElem?_getD, List.getD_eq_getElem?_getD, List.getElem?_append, List.length_drop]
  split
  · rename_i h
    rw [List.getElem?_drop, Nat.mod_eq_of_lt (by omega), Nat.add_comm]
  · rename_i h
    have e : (k + j) % vs.length = k - (vs.length - j) := by
      rw [Nat.mod_eq_sub_mod (by omega), Nat.mod_eq_of_lt (by omega)]; omega
    rw [List.getElem?_take, if_pos (by omega), e]
theorem sid_rot {j k : Nat} {vs : List V2} {d : V2} (hk : k < vs.length) (hj : j < vs.length) : sid (rot j vs) d k = sid vs d ((k + j) % vs.length) := by
  unfold sid
  rw [rot_length, vtx_rot hk hj, vtx_rot (Nat.mod_lt _ (by omega)) hj]
  congr 2
  rw [Nat.mod_add_mod, Nat.mod_add_mod]
  congr 1; omega
theorem cov_rot (R : Int) {j : Nat} {vs : List V2} (d : V2) (hj : j < vs.length) : cov R (rot j vs) d = cov R vs d := by
  have hv : vs ≠ [] := by rintro rfl; simp at hj
  have hr : rot j vs ≠ [] := fun h => hv (rot_nil.1 h)
  rw [Bool.eq_iff_iff, cov_poly hr, cov_poly hv, rot_length]
  constructor
  · intro h k hk
    have h2 := h ((k + (vs.length - j)) % vs.length) (Nat.mod_lt _ (by omega))
    rw [sid_rot (Nat.mod_lt _ (by omega)) hj, Nat.mod_add_mod] at h2
    have e : (k + (vs.length - j) + j) % vs.length = k := by
      rw [show k + (vs.length - j) + j = k + vs.length by omega, Nat.add_mod_right, Nat.mod_eq_of_lt hk]
    rwa [e] at h2
  · intro h k hk
    rw [sid_rot hk hj]
    exact h _ (Nat.mod_lt _ (by omega))
theorem mnl_rot (f : V2 → Int) (j : Nat) {vs : List V2} (hv : vs ≠ []) : mnl f (rot j vs) = mnl f vs := by
  obtain ⟨h1, v, h2, h3⟩ := mnl_spec f hv
  exact mnl_unique f (fun v hv => h1 v (rot_mem.1 hv)) ⟨v, rot_mem.2 h2, h3⟩
theorem mxl_rot (f : V2 → Int) (j : Nat) {vs : List V2} (hv : vs ≠ []) : mxl f (rot j vs) = mxl f vs := by
  obtain ⟨h1, v, h2, h3⟩ := mxl_spec f hv
  exact mxl_unique f (fun v hv => h1 v (rot_mem.1 hv)) ⟨v, rot_mem.2 h2, h3⟩

/-- The six outlines. -/
def outl : Nat → List V2
  | 0 => [(-1, -1), (1, -1), (0, 1)]
  | 1 => [(-1, -1), (1, -1), (1, 1), (-1, 1)]
  | 2 => [(0, -1), (1, 0), (0, 1), (-1, 0)]
  | 3 => [(-2, -2), (2, -2), (3, 1), (0, 3), (-3, 1)]
  | 4 => [(2, 0), (1, 2), (-1, 2), (-2, 0), (-1, -2), (1, -2)]
  | _ => [(-3, -1), (3, -1), (1, 2), (-1, 2)]
/-- The polygons that are drawn. -/
def Gen (vs : List V2) : Prop := ∃ (i j : Nat) (s : Int), i < 6 ∧ j < (outl i).length ∧ 1 ≤ s ∧ s ≤ 10000 ∧ vs = (rot j (outl i)).map (scl s)
def edgesOK (vs : List V2) : Prop := ∀ i, i < vs.length → EdgeOK vs.length i vs (vtx vs i) (vtx vs ((i + 1) % vs.length))
instance (vs : List V2) : Decidable (edgesOK vs) := by unfold edgesOK EdgeOK; infer_instance
theorem outl_len : ∀ i, i < 6 → 3 ≤ (outl i).length ∧ (outl i).length ≤ 6 := by decide
theorem outl_bd : ∀ i, i < 6 → ∀ v ∈ outl i, (-3 ≤ v.1 ∧ v.1 ≤ 3) ∧ (-3 ≤ v.2 ∧ v.2 ≤ 3) := by decide
theorem outl_ok : ∀ i, i < 6 → ∀ j, j < (outl i).length → edgesOK (rot j (outl i)) := by decide +kernel
theorem outl_rot : ∀ i, i < 6 → ∀ j, j < (outl i).length → ∀ k, k < (outl i).length → rot k (rot j (outl i)) = rot ((k + j) % (outl i).length) (outl i) := by decide +kernel
theorem outl_back : ∀ i, i < 6 → ∀ j, j < (outl i).length → ¬ edgesOK (rot j (outl i)).reverse := by decide +kernel
theorem Gen.len {vs : List V2} (h : Gen vs) : 3 ≤ vs.length ∧ vs.length ≤ 6 := by
  obtain ⟨i, j, s, hi, hj, h1, h2, rfl⟩ := h
  rw [List.length_map, rot_length]; exact outl_len i hi
theorem Gen.ne {vs : List V2} (h : Gen vs) : vs ≠ [] := by have := h.len; rintro rfl; simp at this
theorem scl_bd {s : Int} (h1 : 1 ≤ s) (h2 : s ≤ 10000) {i : Nat} (hi : i < 6) {v : V2} (hv : v ∈ outl i) : (-30000 ≤ s * v.1 ∧ s * v.1 ≤ 30000) ∧ (-30000 ≤ s * v.2 ∧ s * v.2 ≤ 30000) := by
  obtain ⟨a, b⟩ := outl_bd i hi v hv
  have p := mul_bd (a := s) (b := v.1) (A := 10000) (B := 3) (by omega) a
  have q := mul_bd (a := s) (b := v.2) (A := 10000) (B := 3) (by omega) b
  omega
theorem Gen.bd {vs : List V2} (h : Gen vs) : ∀ v ∈ vs, (-30000 ≤ v.1 ∧ v.1 ≤ 30000) ∧ (-30000 ≤ v.2 ∧ v.2 ≤ 30000) := by
  obtain ⟨i, j, s, hi, hj, h1, h2, rfl⟩ := h
  intro v hv
  obtain ⟨u, hu, rfl⟩ := List.mem_map.1 hv
  exact scl_bd h1 h2 hi (rot_mem.1 hu)
theorem Gen.ok {vs : List V2} (h : Gen vs) : VShape 0 vs := by
  have hb := h.bd
  obtain ⟨i, j, s, hi, hj, h1, h2, rfl⟩ := h
  have hl := outl_len i hi
  have hne : rot j (outl i) ≠ [] := fun e => by rw [rot_nil] at e; rw [e] at hl; simp at hl
  rw [shape_scl h1 hne, rot_length]
  refine ⟨hl.1, hl.2, fun v hv => ?_, ?_⟩
  · have := scl_bd h1 h2 hi (rot_mem.1 hv); omega
  · have := outl_ok i hi j hj
    unfold edgesOK at this
    rwa [rot_length] at this
theorem Gen.turn {vs : List V2} (h : Gen vs) {k : Nat} (hk : k < vs.length) : Gen (rot k vs) := by
  obtain ⟨i, j, s, hi, hj, h1, h2, rfl⟩ := h
  rw [List.length_map, rot_length] at hk
  refine ⟨i, (k + j) % (outl i).length, s, hi, Nat.mod_lt _ (by omega), h1, h2, ?_⟩
  rw [rot_map, outl_rot i hi j hj k hk]
theorem Gen.back {vs : List V2} (h : Gen vs) : ¬ VShape 0 vs.reverse := by
  obtain ⟨i, j, s, hi, hj, h1, h2, rfl⟩ := h
  have hl := outl_len i hi
  have hne : (rot j (outl i)).reverse ≠ [] := fun e => by rw [List.reverse_eq_nil_iff, rot_nil] at e; rw [e] at hl; simp at hl
  rw [← List.map_reverse, shape_scl h1 hne]
  rintro ⟨_, _, _, h⟩
  exact outl_back i hi j hj h

/-- The shape that a number stands for: its radius, its vertices. -/
def shK (n : Int) : Int := arnd n 1000000000
def shR (n : Int) : Int := if shK n % 3 = 0 then (if shK n / 3 % 2 = 0 then 1 + shK n / 6 % 40 else 1 + shK n / 6 % 32768) else 0
def shO (n : Int) : Nat := (shK n / 3 % 6).toNat
def shS (n : Int) : Int := if shK n % 3 = 1 then 1 + shK n / 18 % 12 else 1 + shK n / 18 % 10000
def shJ (n : Int) : Nat := (shK n / 180000 % ((outl (shO n)).length : Int)).toNat
def shV (n : Int) : List V2 := if shK n % 3 = 0 then [] else rot (shJ n) ((outl (shO n)).map (scl (shS n)))
theorem shK_bd (n : Int) : 0 ≤ shK n ∧ shK n ≤ 999999999 := arnd_bd n (by decide)
theorem shO_lt (n : Int) : shO n < 6 := by unfold shO; omega
theorem shS_bd (n : Int) : 1 ≤ shS n ∧ shS n ≤ 10000 := by unfold shS; split <;> omega
theorem shJ_lt (n : Int) : shJ n < (outl (shO n)).length := by
  have h1 := outl_len _ (shO_lt n)
  have h2 := shK_bd n
  unfold shJ
  have := Int.emod_lt_of_pos (shK n / 180000) (b := ((outl (shO n)).length : Int)) (by omega)
  have := Int.emod_nonneg (shK n / 180000) (b := ((outl (shO n)).length : Int)) (by omega)
  omega
theorem shV_gen {n : Int} (h : shK n % 3 ≠ 0) : Gen (shV n) := by
  unfold shV
  rw [if_neg h]
  refine ⟨shO n, shJ n, shS n, shO_lt n, shJ_lt n, (shS_bd n).1, (shS_bd n).2, rot_map _ _ _⟩
/-- A shape as the laws draw it: a circle, or one of the polygons. -/
def GS (R : Int) (vs : List V2) : Prop := (vs = [] ∧ 1 ≤ R ∧ R ≤ 32768) ∨ (R = 0 ∧ Gen vs)
theorem shape_gs (n : Int) : GS (shR n) (shV n) := by
  have h2 := shK_bd n
  by_cases h : shK n % 3 = 0
  · refine .inl ⟨by unfold shV; rw [if_pos h], ?_⟩
    unfold shR
    rw [if_pos h]
    split <;> omega
  · exact .inr ⟨by unfold shR; rw [if_neg h], shV_gen h⟩
theorem GS.valid {R : Int} {vs : List V2} (h : GS R vs) : VShape R vs := by
  rcases h with ⟨h1, h2⟩ | ⟨rfl, h⟩
  · exact .inl ⟨h1, h2⟩
  · exact h.ok
theorem GS.sn {R : Int} {vs : List V2} (h : GS R vs) : SN R vs := by
  rcases h with ⟨rfl, h2⟩ | ⟨rfl, h⟩
  · exact ⟨by omega, by simp, by simp⟩
  · have hb := h.bd
    have hl := h.len
    exact ⟨by omega, by omega, fun v hv => by have := hb v hv; omega⟩
end Go.Proofs.Ytipcppbbpmdijaa
