/-
What codes do when they are run, and that what is taken away does nothing. Conditions: as each theorem states them.
-/
import Derived.Test.YtpibifgllbfgmaaMDeF
import Derived.Test.YtpibifgllbfgmaaPDeadOfx10
import Derived.Test.YtpibifgllbfgmaaPDeadOfx12
set_option linter.unusedSimpArgs false
set_option linter.unusedVariables false
namespace Go.Proofs.Ytpibifgllbfgmaa.Pure
open Go.RowKit Go.Proofs.YtpibifgllbfgmaaW.PrintWords Go.Proofs.YtpibifgllbfgmaaW.PrintLast Go.Proofs.YtpibifgllbfgmaaW.PrintMore Go.Proofs.Ytpibifgllbfgmaa.Kit
open Go.Proofs.Ytpibifgllbfgmaa.PDeadOf
attribute [local go_sem] max2_int min2_int max_two min_two max_three min_three max_four min_four   -- for this text's walks alone
/-- What one code does: a value that it sets, the cells, what it tells, whether it goes to its target; it may halt, or be none's. -/
inductive Eff where
  | bad
  | halt
  | eff (v : Option Int) (out : List Int) (t : Option Int) (j : Bool)
def u64m (x : Int) : Int := x % 18446744073709551616
def vl (vs : List Int) (u : Int) : Int := vs.getD u.toNat 0
/-- The cell that a code means; -1 of none. -/
def placeS (x : S31) (vs : List Int) : Int := wrap64 (if (x.f0 = 4 ∨ x.f0 = 5) ∧ 0 ≤ x.f3 then u64m (x.f6 + vl vs x.f3) else x.f6)
def effS (ap : Int → Int → Int → Int) (x : S31) (vs out : List Int) : Eff :=
  if x.f0 = 0 then .eff (some x.f6) out none false
  else if x.f0 = 1 then .eff (some (vl vs x.f3)) out none false
  else if x.f0 = 2 then .eff (some (ap x.f1 (vl vs x.f3) (vl vs x.f4))) out none false
  else if x.f0 = 3 then .eff (some (if vl vs x.f3 = 0 then vl vs x.f5 else vl vs x.f4)) out none false
  else if x.f0 = 6 then .eff none out none true
  else if x.f0 = 7 then .eff none out none (decide (vl vs x.f3 = 0))
  else if x.f0 = 12 then .eff none out (some (vl vs x.f3)) false
  else if x.f0 = 13 then .halt
  else if x.f0 = 11 then .eff none out none false
  else if placeS x vs < 0 ∨ (out.length : Int) ≤ placeS x vs ∨ (x.f0 = 8 ∧ vl out (placeS x vs) ≠ 0) then .bad
  else if x.f0 = 4 then .eff (some (vl out (placeS x vs))) out none false
  else if x.f0 = 5 then .eff none (out.set (placeS x vs).toNat (vl vs x.f4)) none false
  else if x.f0 = 8 then .eff none (out.set (placeS x vs).toNat 1) none false
  else if x.f0 = 9 then .eff none (out.set (placeS x vs).toNat 0) none false
  else .eff none (out.set (placeS x vs).toNat (u64m (vl out (placeS x vs) + vl vs x.f3))) none false
def setV (vs : List Int) (x : S31) : Option Int → List Int
  | none => vs
  | some v => vs.set x.f2.toNat v
/-- Codes, run: cells and what was told where they halt within n steps. -/
def runS (ap : Int → Int → Int → Int) (l : List S31) : Nat → List Int → List Int → List Int → Nat → Option (List Int × List Int)
  | 0, _, _, _, _ => none
  | n + 1, vs, out, told, a => match l[a]? with
    | none => none
    | some x => match effS ap x vs out with
      | .bad => none
      | .halt => some (out, told)
      | .eff v out' t j => runS ap l n (setV vs x v) out' (told ++ t.toList) (if j = true then x.f7.toNat else a + 1)
theorem runS_more (ap : Int → Int → Int → Int) (l : List S31) : ∀ (n : Nat) (vs out told : List Int) (a : Nat) (r : List Int × List Int), runS ap l n vs out told a = some r → runS ap l (n + 1) vs out told a = some r
  | 0, _, _, _, _, _, h => by simp [runS] at h
  | n + 1, vs, out, told, a, r, h => by
    rw [runS] at h ⊢
    cases hx : l[a]? with
    | none => rw [hx] at h; simp at h
    | some x =>
      rw [hx] at h
      simp only at h ⊢
      cases hact : effS ap x vs out with
      | bad => rw [hact] at h; simp at h
      | halt => rw [hact] at h; exact h
      | eff v out' t j => rw [hact] at h; exact runS_more ap l n _ _ _ _ r h
/-- Values that agree on a list. -/
def Agree (T : List Int) (vs ws : List Int) : Prop := ∀ u ∈ T, vl vs u = vl ws u
theorem vl_set {vs : List Int} {k : Nat} {v : Int} (u : Int) (hk : k < vs.length) : vl (vs.set k v) u = if u.toNat = k then v else vl vs u := by
  unfold vl
  rw [List.getD_eq_getElem?_getD, List.getD_eq_getElem?_getD, List.getElem?_set]
  by_cases h : k = u.toNat
  · rw [if_pos h, if_pos hk, if_pos h.symm]; rfl
  · rw [if_neg h, if_neg (fun e => h e.symm)]

theorem eff_agree (ap : Int → Int → Int → Int) {x : S31} {vs ws out : List Int} (h : ∀ u ∈ usesX x, vl vs u = vl ws u) (h0 : 0 ≤ x.f0 ∧ x.f0 ≤ 13) : effS ap x vs out = effS ap x ws out := by
  have hp : placeS x vs = placeS x ws := by
    unfold placeS
    by_cases hc : (x.f0 = 4 ∨ x.f0 = 5) ∧ 0 ≤ x.f3
    · have : vl vs x.f3 = vl ws x.f3 := by
        apply h
        unfold usesX usesS
        rcases hc with ⟨hc | hc, h3⟩ <;> simp [hc, h3]
      rw [if_pos hc, if_pos hc, this]
    · rw [if_neg hc, if_neg hc]
  have hu : ∀ u, u ∈ usesX x → vl vs u = vl ws u := h
  have ho : x.f0 = 0 ∨ x.f0 = 1 ∨ x.f0 = 2 ∨ x.f0 = 3 ∨ x.f0 = 4 ∨ x.f0 = 5 ∨ x.f0 = 6 ∨ x.f0 = 7 ∨ x.f0 = 8 ∨ x.f0 = 9 ∨ x.f0 = 10 ∨ x.f0 = 11 ∨ x.f0 = 12 ∨ x.f0 = 13 := by omega
  unfold usesX usesS at hu
  unfold effS
  rw [hp]
  rcases ho with o | o | o | o | o | o | o | o | o | o | o | o | o | o <;> simp [o] at hu ⊢
  · exact hu
  · rw [hu.1, hu.2]
  · rw [hu.1, hu.2.1, hu.2.2]
  · split at hu
    · have := hu x.f4 (by simp); rw [this]
    · have := hu x.f4 (by simp); rw [this]
  · rw [hu]
  · rw [hu]
  · exact hu
theorem eff_ret (ap : Int → Int → Int → Int) (n : Nat) (N : List Bool) (x : S31) (vs out : List Int) : effS ap (retX n N x) vs out = effS ap x vs out := by
  unfold retX
  split
  · rfl
  · rfl
theorem eff_def {ap : Int → Int → Int → Int} {x : S31} {vs out out' : List Int} {v t : Option Int} {j : Bool} (h : effS ap x vs out = .eff v out' t j) (h0 : 0 ≤ x.f0 ∧ x.f0 ≤ 13) :
    (v.isSome = true ↔ defX x = true) ∧ (defX x = true → out' = out ∧ t = none ∧ j = false) ∧ (j = true → x.f0 = 6 ∨ x.f0 = 7) ∧ (j = false → x.f0 ≠ 6 ∧ x.f0 ≠ 13) := by
  have ho : x.f0 = 0 ∨ x.f0 = 1 ∨ x.f0 = 2 ∨ x.f0 = 3 ∨ x.f0 = 4 ∨ x.f0 = 5 ∨ x.f0 = 6 ∨ x.f0 = 7 ∨ x.f0 = 8 ∨ x.f0 = 9 ∨ x.f0 = 10 ∨ x.f0 = 11 ∨ x.f0 = 12 ∨ x.f0 = 13 := by omega
  unfold effS at h
  unfold defX
  rcases ho with o | o | o | o | o | o | o | o | o | o | o | o | o | o <;> simp [o] at h ⊢
  all_goals (first
    | done
    | (obtain ⟨rfl, rfl, rfl, rfl⟩ := h; simp; done)
    | (split at h <;> simp at h; obtain ⟨rfl, rfl, rfl, rfl⟩ := h; simp; done)
    | (obtain ⟨_, rfl, rfl, rfl, rfl⟩ := h; simp; done)
    | trace_state)
theorem eff_halt {ap : Int → Int → Int → Int} {x : S31} {vs out : List Int} (h : effS ap x vs out = .halt) : x.f0 = 13 := by
  unfold effS at h
  by_cases h0 : x.f0 = 0
  · rw [if_pos h0] at h; cases h
  rw [if_neg h0] at h
  by_cases h1 : x.f0 = 1
  · rw [if_pos h1] at h; cases h
  rw [if_neg h1] at h
  by_cases h2 : x.f0 = 2
  · rw [if_pos h2] at h; cases h
  rw [if_neg h2] at h
  by_cases h3 : x.f0 = 3
  · rw [if_pos h3] at h; cases h
  rw [if_neg h3] at h
  by_cases h6 : x.f0 = 6
  · rw [if_pos h6] at h; cases h
  rw [if_neg h6] at h
  by_cases h7 : x.f0 = 7
  · rw [if_pos h7] at h; cases h
  rw [if_neg h7] at h
  by_cases h12 : x.f0 = 12
  · rw [if_pos h12] at h; cases h
  rw [if_neg h12] at h
  by_cases h13 : x.f0 = 13
  · exact h13
  rw [if_neg h13] at h
  by_cases h11 : x.f0 = 11
  · rw [if_pos h11] at h; cases h
  rw [if_neg h11] at h
  by_cases hb : placeS x vs < 0 ∨ (out.length : Int) ≤ placeS x vs ∨ (x.f0 = 8 ∧ vl out (placeS x vs) ≠ 0)
  · rw [if_pos hb] at h; cases h
  rw [if_neg hb] at h
  by_cases h4 : x.f0 = 4
  · rw [if_pos h4] at h; cases h
  rw [if_neg h4] at h
  by_cases h5 : x.f0 = 5
  · rw [if_pos h5] at h; cases h
  rw [if_neg h5] at h
  by_cases h8 : x.f0 = 8
  · rw [if_pos h8] at h; cases h
  rw [if_neg h8] at h
  by_cases h9 : x.f0 = 9
  · rw [if_pos h9] at h; cases h
  rw [if_neg h9] at h
  cases h
theorem keep_at (l : List S31) (N : List Bool) (hN : N.length = l.length) : ∀ a (h : a < l.length), at_ N a = true → (keepS l N)[cnt N a]? = some (retX l.length N l[a]) := by
  have key : ∀ a, a ≤ l.length → (((l.zip N).take a).flatMap (kF l.length N)).length = cnt N a := by
    intro a
    induction a with
    | zero => intro _; simp [cnt]
    | succ a ih =>
      intro h
      rw [zip_snoc _ hN (by omega), List.length_append, ih (by omega), cnt_succ (by omega)]
      cases at_ N a <;> simp [kF]
  intro a h hat
  have e : keepS l N = ((l.zip N).take (a + 1)).flatMap (kF l.length N) ++ ((l.zip N).drop (a + 1)).flatMap (kF l.length N) := by
    rw [← List.flatMap_append, List.take_append_drop]; rfl
  rw [e, zip_snoc _ hN h, hat, List.append_assoc, List.getElem?_append_right (by rw [key a (by omega)]; exact Nat.le_refl _), key a (by omega), Nat.sub_self]
  rfl
theorem at_needS {l : List S31} {o : List Bool} (ho : o.length = l.length) {a : Nat} (h : a < l.length) : at_ (needS l o) a = stayF (tkn l o) l[a] (at_ o a) := by
  unfold needS
  have e : (List.zipWith (stayF (tkn l o)) l o)[a]? = some (stayF (tkn l o) l[a] o[a]) := by
    rw [List.getElem?_zipWith, List.getElem?_eq_getElem h, List.getElem?_eq_getElem (show a < o.length by omega)]
  have e2 : at_ o a = o[a] := by unfold at_; rw [List.getD_eq_getElem?_getD, List.getElem?_eq_getElem (show a < o.length by omega)]; rfl
  rw [e2]
  unfold at_
  rw [List.getD_eq_getElem?_getD, e]; rfl
theorem uses_tkn {l : List S31} {o : List Bool} (ho : o.length = l.length) {a : Nat} (h : a < l.length) (hat : at_ o a = true) : ∀ u ∈ usesX l[a], u ∈ tkn l o := by
  intro u hu
  unfold tkn
  rw [List.mem_flatMap]
  refine ⟨(l[a], at_ o a), List.mem_of_getElem? (zip_at ho h), ?_⟩
  unfold tkF
  rw [hat]
  exact hu
theorem tkn_nat {l : List S31} {o : List Bool} (hg : ∀ x ∈ l, gcX l.length x) : ∀ u ∈ tkn l o, 0 ≤ u := by
  intro u hu
  unfold tkn at hu
  rw [List.mem_flatMap] at hu
  obtain ⟨p, hp, hu⟩ := hu
  unfold tkF at hu
  split at hu
  · have := (hg p.1 (List.of_mem_zip (by exact hp : (p.1, p.2) ∈ l.zip o)).1).2.2.2.2.2
    unfold U16 at this
    rw [List.all_eq_true] at this
    exact (of_decide_eq_true (this u hu)).1
  · simp at hu
theorem runS_lt {ap : Int → Int → Int → Int} {l : List S31} {n : Nat} {vs out told : List Int} {a : Nat} {r : List Int × List Int} (h : runS ap l n vs out told a = some r) : a < l.length := by
  cases n with
  | zero => simp [runS] at h
  | succ n =>
    rw [runS] at h
    refine Decidable.byContradiction fun hc => ?_
    rw [List.getElem?_eq_none (by omega)] at h
    simp at h
theorem nx_next {l : List S31} {a : Nat} (h : a < l.length) (h2 : a + 1 < l.length) (hop : l[a].f0 ≠ 6 ∧ l[a].f0 ≠ 13) : a + 1 ∈ nx l a := by
  rw [nx_is h, List.mem_map]
  refine ⟨(a : Int) + 1, ?_, by omega⟩
  unfold nextS
  have : (l[a].f0 ≠ 6 ∧ l[a].f0 ≠ 13) ∧ (a : Int) + 1 < l.length := ⟨hop, by omega⟩
  split
  · split
    · simp
    · split <;> simp
  · simp
theorem nx_jump {l : List S31} {a : Nat} (h : a < l.length) (hop : l[a].f0 = 6 ∨ l[a].f0 = 7) (hg : 0 ≤ l[a].f7 ∧ l[a].f7 < l.length) : l[a].f7.toNat ∈ nx l a := by
  rw [nx_is h, List.mem_map]
  refine ⟨l[a].f7, ?_, rfl⟩
  unfold nextS
  rw [if_pos ⟨hop, hg⟩]
  split
  · split
    · simp
    · split
      · simp
      · have : l[a].f7 = (a : Int) + 1 := by omega
        rw [this]; simp
  · simp
/-- What a round takes away does nothing. -/
theorem sim {ap : Int → Int → Int → Int} {l : List S31} (hgd : goodS l) (V W : Nat) (hV : ∀ x ∈ l, defX x = true → x.f2.toNat < V) (hW : ∀ x ∈ oneS l, defX x = true → x.f2.toNat < W) :
    ∀ (n : Nat) (vs ws out told : List Int) (a : Nat) (r : List Int × List Int), Path l 0 a → Agree (tkn l (reachS l)) vs ws → vs.length = V → ws.length = W →
    runS ap l n vs out told a = some r → runS ap (oneS l) n ws out told (cnt (needS l (reachS l)) a) = some r := by
  have hg := hgd.2.2.2
  obtain ⟨hol, hor⟩ := reachS_is l
  have hone : oneS l = keepS l (needS l (reachS l)) := rfl
  have hNl := needS_len l
  have htn := tkn_nat (o := reachS l) hg
  have hat_need : ∀ a (h : a < l.length), at_ (needS l (reachS l)) a = stayF (tkn l (reachS l)) l[a] (at_ (reachS l) a) := fun a h => at_needS hol h
  have huse : ∀ a (h : a < l.length), at_ (reachS l) a = true → ∀ u ∈ usesX l[a], u ∈ tkn l (reachS l) := fun a h => uses_tkn hol h
  generalize reachS l = o at *
  generalize tkn l o = T at *
  generalize needS l o = N at *
  intro n
  induction n with
  | zero => intro vs ws out told a r _ _ _ _ h; simp [runS] at h
  | succ n ih =>
    intro vs ws out told a r hp hag hvl hwl h
    have ha := runS_lt h
    have hoa : at_ o a = true := (hor a ha).mpr hp
    have hgx := hg l[a] (List.getElem_mem ha)
    have hx : ∃ x, x = l[a] := ⟨_, rfl⟩
    rw [runS, List.getElem?_eq_getElem ha] at h
    simp only at h
    have hu := huse a ha hoa
    have hcs := cnt_succ (o := N) (i := a) (by omega)
    have hNa := hat_need a ha
    have hnext := fun (h2 : a + 1 < l.length) hop => Path.on a (a + 1) hp (nx_next ha h2 hop)
    have hjump := fun hop hg' => Path.on a l[a].f7.toNat hp (nx_jump ha hop hg')
    have hka := fun h => keep_at l N hNl a ha h
    rw [← hone] at hka
    have hVx := hV l[a] (List.getElem_mem ha)
    have hof : 0 ≤ l[a].f0 ∧ l[a].f0 ≤ 13 := ⟨hgx.1, hgx.2.1⟩
    have hto : defX l[a] = true → 0 ≤ l[a].f2 := fun hd => (hgx.2.2.2.2.1 (of_decide_eq_true hd)).1
    have htg : l[a].f0 = 6 ∨ l[a].f0 = 7 → 0 ≤ l[a].f7 ∧ l[a].f7 < l.length := hgx.2.2.2.1
    have heq : effS ap l[a] vs out = effS ap l[a] ws out := eff_agree ap (fun u hu' => hag u (hu u hu')) hof
    rw [hoa] at hNa
    generalize l[a] = x at *
    cases he : effS ap x vs out with
    | bad => rw [he] at h; simp at h
    | halt =>
      rw [he] at h heq
      have hsn : at_ N a = true := by
        rw [hNa]
        unfold stayF
        have : defX x = false := by
          have h13 : x.f0 = 13 := eff_halt he
          unfold defX; simp [h13]
        rw [this]; rfl
      rw [runS, hka hsn]
      simp only
      rw [eff_ret, ← heq]
      exact h
    | eff v out' t j =>
      rw [he] at h heq
      simp only at h
      obtain ⟨d1, d2, d3, d4⟩ := eff_def he hof
      have hal := runS_lt h
      have hset : ∀ (us : List Int) (U : Nat), us.length = U → (setV us x v).length = U := by
        intro us U hus; cases v with
        | none => exact hus
        | some z => simp [setV, hus]
      have hpath : Path l 0 (if j = true then x.f7.toNat else a + 1) := by
        cases j with
        | true => exact hjump (d3 rfl) (htg (d3 rfl))
        | false => exact hnext hal (d4 rfl)
      cases hsa : at_ N a with
      | true =>
        rw [hsa] at hcs
        rw [runS, hka hsa]
        simp only
        rw [eff_ret, ← heq]
        simp only
        have hx2 : (retX l.length N x).f2 = x.f2 := by unfold retX; split <;> rfl
        have hsv : setV ws (retX l.length N x) v = setV ws x v := by cases v with
          | none => rfl
          | some z => simp [setV, hx2]
        have hpc : (if j = true then (retX l.length N x).f7.toNat else cnt N a + 1) = cnt N (if j = true then x.f7.toNat else a + 1) := by
          cases j with
          | true =>
            simp only [if_true]
            unfold retX
            rw [if_pos ⟨d3 rfl, htg (d3 rfl)⟩]
            simp
          | false => rw [if_neg (by decide), if_neg (by decide), hcs]; simp
        rw [hsv, hpc]
        have hWx : defX x = true → x.f2.toNat < W := by
          intro hd
          have := hW (retX l.length N x) (List.mem_of_getElem? (hka hsa)) (by
            have : defX (retX l.length N x) = defX x := by unfold retX; split <;> rfl
            rw [this]; exact hd)
          rw [hx2] at this; exact this
        refine ih _ _ _ _ _ _ hpath ?_ (hset vs V hvl) (hset ws W hwl) h
        intro u huT
        cases v with
        | none => exact hag u huT
        | some z =>
          have hd := d1.mp rfl
          simp only [setV]
          rw [vl_set u (by rw [hvl]; exact hVx hd), vl_set u (by rw [hwl]; exact hWx hd), hag u huT]
      | false =>
        rw [hsa] at hcs hNa
        have hst : defX x = true ∧ x.f2 ∉ T := by
          unfold stayF at hNa
          cases hd : defX x with
          | false => rw [hd] at hNa; simp at hNa
          | true =>
            rw [hd] at hNa
            refine ⟨rfl, fun hm => ?_⟩
            rw [decide_eq_true hm] at hNa
            simp at hNa
        obtain ⟨rfl, rfl, rfl⟩ := d2 hst.1
        have hpc : cnt N (a + 1) = cnt N a := by rw [hcs]; simp
        rw [if_neg (by decide)] at h hpath
        have := ih (setV vs x v) ws out' (told ++ [].toArray.toList) (a + 1) r hpath ?_ (hset vs V hvl) hwl (by simpa using h)
        · rw [hpc] at this
          exact runS_more ap _ _ _ _ _ _ _ (by simpa using this)
        · intro u huT
          cases v with
          | none => exact hag u huT
          | some z =>
            simp only [setV]
            rw [vl_set u (by rw [hvl]; exact hVx hst.1), if_neg, hag u huT]
            intro e
            have h1 := htn u huT
            have h2 := hto hst.1
            have : u = x.f2 := by omega
            exact hst.2 (this ▸ huT)

/-- How many values codes have. -/
def valsS : List S31 → Nat
  | [] => 0
  | x :: l => max (max (if defX x = true then x.f2.toNat + 1 else 0) ((usesX x).foldl (fun n u => max n (u.toNat + 1)) 0)) (valsS l)
theorem fold_max (us : List Int) : ∀ n : Nat, n ≤ us.foldl (fun n u => max n (u.toNat + 1)) n ∧ ∀ u ∈ us, u.toNat < us.foldl (fun n u => max n (u.toNat + 1)) n := by
  induction us with
  | nil => intro n; exact ⟨Nat.le_refl _, fun u hu => by simp at hu⟩
  | cons a us ih =>
    intro n
    rw [List.foldl_cons]
    obtain ⟨h1, h2⟩ := ih (max n (a.toNat + 1))
    refine ⟨by omega, fun u hu => ?_⟩
    rcases List.mem_cons.mp hu with rfl | hu
    · omega
    · exact h2 u hu
theorem valsS_def {l : List S31} : ∀ x ∈ l, (defX x = true → x.f2.toNat < valsS l) ∧ ∀ u ∈ usesX x, u.toNat < valsS l := by
  induction l with
  | nil => intro x hx; simp at hx
  | cons a l ih =>
    intro x hx
    rw [valsS]
    rcases List.mem_cons.mp hx with rfl | hx
    · refine ⟨fun hd => by rw [if_pos hd]; omega, fun u hu => ?_⟩
      have := (fold_max (usesX x) 0).2 u hu
      omega
    · obtain ⟨h1, h2⟩ := ih x hx
      exact ⟨fun hd => by have := h1 hd; omega, fun u hu => by have := h2 u hu; omega⟩
theorem vl_zero (n : Nat) (u : Int) : vl (List.replicate n 0) u = 0 := by
  unfold vl
  rw [List.getD_eq_getElem?_getD, List.getElem?_replicate]
  split <;> rfl
theorem sim0 {ap : Int → Int → Int → Int} {l : List S31} (hgd : goodS l) (n : Nat) (out : List Int) (r : List Int × List Int) (h : runS ap l n (List.replicate (valsS l) 0) out [] 0 = some r) :
    runS ap (oneS l) n (List.replicate (valsS (oneS l)) 0) out [] 0 = some r := by
  have := sim hgd (valsS l) (valsS (oneS l)) (fun x hx => (valsS_def x hx).1) (fun x hx => (valsS_def x hx).1) n _ (List.replicate (valsS (oneS l)) 0) out [] 0 r .here (fun u _ => by rw [vl_zero, vl_zero]) (by simp) (by simp) h
  simpa [cnt] using this
theorem simL {ap : Int → Int → Int → Int} : ∀ (f : Nat) (l : List S31), goodS l → ∀ (n : Nat) (out : List Int) (r : List Int × List Int), runS ap l n (List.replicate (valsS l) 0) out [] 0 = some r →
    runS ap (ofL f l) n (List.replicate (valsS (ofL f l)) 0) out [] 0 = some r
  | 0, l, _, n, out, r, h => h
  | f + 1, l, hg, n, out, r, h => by
    rw [ofL]
    split
    · exact h
    · rename_i hc
      have hgo : goodS (oneS l) := Decidable.byContradiction fun hn => hc (.inr hn)
      exact simL f (oneS l) hgo n out r (sim0 hg n out r h)
/-- What is left of codes does what they do. -/
theorem simS {ap : Int → Int → Int → Int} {l : List S31} (n : Nat) (out : List Int) (r : List Int × List Int) (h : runS ap l n (List.replicate (valsS l) 0) out [] 0 = some r) :
    runS ap (ofS l) n (List.replicate (valsS (ofS l)) 0) out [] 0 = some r := by
  unfold ofS
  split
  · rename_i hg; exact simL l.length l hg n out r h
  · exact h
theorem mx_nat (a b : Nat) : mx (a : Int) (b : Int) = ((max a b : Nat) : Int) := by
  unfold mx; split <;> omega
theorem values_l1 (l : List S31) (i : Int) (us : List Int) (hus : ∀ u ∈ us, 0 ≤ u ∧ u ≤ 65535) (hul : us.length ≤ 3) (r : Int) (n0 : Nat) (hr : Ev (fun k => code_Values.l0 k ((us.foldl (fun n u => max n (u.toNat + 1)) n0 : Nat) : Int) l (l.length : Int) (wrap64 (i + 1))) r) :
    ∀ (m j : Nat), j + m = us.length → Ev (fun k => code_Values.l1 k (((us.take j).foldl (fun n u => max n (u.toNat + 1)) n0 : Nat) : Int) l (l.length : Int) i us (us.length : Int) (j : Int)) r := by
  intro m
  induction m with
  | zero =>
    intro j hj
    obtain rfl : j = us.length := by omega
    refine Ev.step (fun k => code_Values.l1.eq_2 ..) (Ev.neg (by omega) ?_)
    rw [List.take_length]; exact hr
  | succ m ih =>
    intro j hj
    have hlt : j < us.length := by omega
    have hu := hus us[j] (List.getElem_mem hlt)
    refine Ev.step (fun k => code_Values.l1.eq_2 ..) (Ev.pos (by omega) (Ev.pos (by omega) (Ev.pos (by omega) ?_)))
    have e1 : wrap64 (us[j] + 1) = ((us[j].toNat + 1 : Nat) : Int) := by rw [wrap_in (by omega) (by omega)]; omega
    rw [rd_get us j hlt, nxt j (by omega), e1, mx_nat]
    have := ih (j + 1) (by omega)
    rw [List.take_add_one, List.getElem?_eq_getElem hlt, List.foldl_append] at this
    exact this
def valX (x : S31) (n : Nat) : Nat := (usesX x).foldl (fun n u => max n (u.toNat + 1)) (if defX x = true then max n (x.f2.toNat + 1) else n)
theorem values_l0 (l : List S31) (hg : ∀ x ∈ l, gcX l.length x) (hl : l.length ≤ 4096) : ∀ (m i : Nat) (n : Nat), i + m = l.length → Ev (fun k => code_Values.l0 k (n : Int) l (l.length : Int) (i : Int)) (((l.drop i).foldl (fun n x => valX x n) n : Nat) : Int) := by
  intro m
  induction m with
  | zero =>
    intro i n hi
    refine Ev.step (fun k => code_Values.l0.eq_2 ..) (Ev.neg (by omega) (Ev.done ?_))
    rw [List.drop_eq_nil_of_le (by omega)]; rfl
  | succ m ih =>
    intro i n hi
    have hlt : i < l.length := by omega
    refine Ev.step (fun k => code_Values.l0.eq_2 ..) (Ev.pos (by omega) (Ev.pos (by omega) (Ev.pos (by omega) ?_)))
    rw [rdT_at l i hlt, List.drop_eq_getElem_cons hlt, List.foldl_cons]
    have hx := hg l[i] (List.getElem_mem hlt)
    obtain ⟨x, hxe⟩ : ∃ x, x = l[i] := ⟨_, rfl⟩
    rw [← hxe] at hx ⊢
    have hus : ∀ u ∈ usesX x, 0 ≤ u ∧ u ≤ 65535 := by
      have := hx.2.2.2.2.2
      unfold U16 at this
      rw [List.all_eq_true] at this
      exact fun u hu => of_decide_eq_true (this u hu)
    have hj1 : ∀ n0 : Nat, n0 = (if defX x = true then max n (x.f2.toNat + 1) else n) → Ev (fun k => code_Values.j1 k (n0 : Int) l (l.length : Int) (i : Int) x.f0 x.f1 x.f2 x.f3 x.f4 x.f5 x.f6 x.f7) (((l.drop (i + 1)).foldl (fun n x => valX x n) (valX x n) : Nat) : Int) := by
      intro n0 hn0
      refine Ev.step (fun k => code_Values.j1.eq_2 ..) (Ev.bind (uses_ev ..) ?_)
      change Ev (fun k => code_Values.l1 k (n0 : Int) l (l.length : Int) (i : Int) (usesX x) ((usesX x).length : Int) 0) _
      have hr := ih (i + 1) (valX x n) (by omega)
      rw [← nxt i (by omega)] at hr
      unfold valX at hr
      rw [← hn0] at hr
      have := values_l1 l (i : Int) (usesX x) hus (uses_len ..) _ n0 hr (usesX x).length 0 (by omega)
      unfold valX
      rw [← hn0]
      simpa using this
    refine Ev.pure (defines_is ..) ?_
    by_cases hd : x.f0 = 0 ∨ x.f0 = 1 ∨ x.f0 = 2 ∨ x.f0 = 3 ∨ x.f0 = 4
    · rw [if_pos hd]
      have h2 := hx.2.2.2.2.1 hd
      have e1 : wrap64 (x.f2 + 1) = ((x.f2.toNat + 1 : Nat) : Int) := by rw [wrap_in (by omega) (by omega)]; omega
      refine Ev.pos rfl ?_
      rw [e1, mx_nat]
      exact hj1 _ (by rw [if_pos (show defX x = true from decide_eq_true hd)])
    · rw [if_neg hd]
      refine Ev.neg (by decide) ?_
      exact hj1 _ (by rw [if_neg (by unfold defX; rw [decide_eq_false hd]; decide)])
theorem fold_from (us : List Int) : ∀ n : Nat, us.foldl (fun n u => max n (u.toNat + 1)) n = max n (us.foldl (fun n u => max n (u.toNat + 1)) 0) := by
  induction us with
  | nil => intro n; simp
  | cons a us ih => intro n; rw [List.foldl_cons, List.foldl_cons, ih (max n _), ih (max 0 _)]; omega
theorem valX_max (x : S31) (n : Nat) : valX x n = max n (valX x 0) := by
  unfold valX
  rw [fold_from, fold_from (usesX x) (if defX x = true then max 0 (x.f2.toNat + 1) else 0)]
  split <;> omega
theorem vals_fold (l : List S31) : ∀ n, l.foldl (fun n x => valX x n) n = max n (valsS l) := by
  induction l with
  | nil => intro n; simp [valsS]
  | cons a l ih =>
    intro n
    rw [List.foldl_cons, ih, valX_max, valsS]
    have : valX a 0 = max (if defX a = true then a.f2.toNat + 1 else 0) ((usesX a).foldl (fun n u => max n (u.toNat + 1)) 0) := by
      unfold valX; rw [fold_from]; split <;> omega
    omega
theorem values_ev (l : List S31) (hg : ∀ x ∈ l, gcX l.length x) (hl : l.length ≤ 4096) : Ev (fun k => code_Values.f k l) (valsS l : Int) := by
  unfold code_Values.f
  have := values_l0 l hg hl l.length 0 0 (by omega)
  rw [List.drop_zero, vals_fold] at this
  simpa using this
theorem valsS_le {l : List S31} (n : Nat) (hg : ∀ x ∈ l, gcX n x) : valsS l ≤ 65536 := by
  induction l with
  | nil => simp [valsS]
  | cons a l ih =>
    have h1 := ih (fun x hx => hg x (by simp [hx]))
    have ha := hg a (by simp)
    have hus : ∀ u ∈ usesX a, 0 ≤ u ∧ u ≤ 65535 := by
      have := ha.2.2.2.2.2
      unfold U16 at this
      rw [List.all_eq_true] at this
      exact fun u hu => of_decide_eq_true (this u hu)
    have hf : ∀ (us : List Int) (n : Nat), (∀ u ∈ us, 0 ≤ u ∧ u ≤ 65535) → n ≤ 65536 → us.foldl (fun n u => max n (u.toNat + 1)) n ≤ 65536 := by
      intro us
      induction us with
      | nil => intro n _ h; exact h
      | cons b us ihu => intro n hb hn; rw [List.foldl_cons]; exact ihu _ (fun u hu => hb u (by simp [hu])) (by have := hb b (by simp); omega)
    have h2 := hf (usesX a) 0 hus (by omega)
    have h3 : (if defX a = true then a.f2.toNat + 1 else 0) ≤ 65536 := by
      split
      · rename_i hd; have := ha.2.2.2.2.1 (of_decide_eq_true hd); omega
      · omega
    rw [valsS]; omega
theorem same_ev (a : List Int) (hl : a.length ≤ 1000000) : Ev (fun k => tautochronelaw11_Same.f k a a) true := by
  unfold tautochronelaw11_Same.f
  refine Ev.pos rfl ?_
  have key : ∀ (m i : Nat), i + m = a.length → Ev (fun k => tautochronelaw11_Same.l0 k a a (a.length : Int) (i : Int)) true := by
    intro m
    induction m with
    | zero => intro i hi; exact Ev.step (fun k => tautochronelaw11_Same.l0.eq_2 ..) (Ev.neg (by omega) (Ev.done rfl))
    | succ m ih =>
      intro i hi
      refine Ev.step (fun k => tautochronelaw11_Same.l0.eq_2 ..) (Ev.pos (by omega) (Ev.pos (by omega) (Ev.pos (by omega) (Ev.pos (by omega) (Ev.pos rfl ?_)))))
      rw [nxt i (by omega)]
      exact ih (i + 1) (by omega)
  exact key a.length 0 (by omega)

theorem apply_some (d a b : Int) (ha : 0 ≤ a ∧ a ≤ 18446744073709551615) (hb : 0 ≤ b ∧ b ≤ 18446744073709551615) : ∃ z, word_Apply.f d a b = some z ∧ 0 ≤ z ∧ z ≤ 18446744073709551615 := by
  have hw : ∀ x : Int, 0 ≤ IntKind.u64.wrap x ∧ IntKind.u64.wrap x ≤ 18446744073709551615 := fun x => by rw [IntKind.wrap_u64]; omega
  have ht : ∀ p : Bool, ∃ z, (word_truth.f p).bind (fun t => some t) = some z ∧ 0 ≤ z ∧ z ≤ 18446744073709551615 := fun p => by
    cases p
    · exact ⟨0, rfl, by decide, by decide⟩
    · exact ⟨1, rfl, by decide, by decide⟩
  have hm : 0 ≤ Int.tmod b 64 := Int.tmod_nonneg _ hb.1
  unfold word_Apply.f
  split
  · exact ⟨_, rfl, hw _⟩
  split
  · exact ⟨_, rfl, hw _⟩
  split
  · exact ⟨_, rfl, hw _⟩
  split
  · exact ⟨_, rfl, hw _⟩
  split
  · exact ⟨_, rfl, hw _⟩
  split
  · exact ⟨_, rfl, hw _⟩
  split
  · exact ⟨_, rfl, hw _⟩
  split
  · refine ⟨_, rfl, ?_⟩
    unfold shr
    exact ⟨Int.ediv_nonneg ha.1 (by exact Int.le_of_lt (Int.pow_pos (by decide))), Int.le_trans (Int.ediv_le_self _ ha.1) ha.2⟩
  split
  · exact ht _
  split
  · exact ht _
  exact ⟨0, rfl, by decide, by decide⟩
end Go.Proofs.Ytpibifgllbfgmaa.Pure
