/-
A machine made, in memory: cells copied in, threads added one by one. Conditions: as each theorem states them.
-/
import Derived.Test.YtaenjbhhpdmhgaaMTsE
import Derived.Test.YtaenjbhhpdmhgaaMTsP
import Derived.Laws.IdiomCopy
set_option linter.unusedVariables false
set_option linter.unusedSimpArgs false
namespace Go.Proofs.Ytaenjbhhpdmhgaa.Tso
open Go.RowKit Go.Proofs.YtaenjbhhpdmhgaaW.PrintWords Go.Proofs.YtaenjbhhpdmhgaaW.PrintLast Go.Proofs.YtaenjbhhpdmhgaaW.PrintMore
open Go.Proofs.Ytaenjbhhpdmhgaa.Kit
open Go.Proofs.Ytaenjbhhpdmhgaa.PTsoScript
theorem R_form2 {α : Type} {d : Kd α} {e : TypeId} {w : World} {base B : Nat} {ok : Nat → Prop} {v : Value} {xs : List α} (h : Kd.R d e w base ok v xs) (hb : ∃ b, v.ownBlock = some b ∧ B ≤ b) :
    ∃ g cap, v = .slice (some ⟨g, 0, none⟩) xs.length cap ∧ base ≤ g ∧ g < w.heap.size ∧ xs.length ≤ cap ∧ ∃ cells, w.heap[g]? = some (.cells cells e (0, 0)) := by
  obtain ⟨inner, ho⟩ := Kd.R_own h
  obtain ⟨b, hb, _⟩ := hb
  rcases ho.2 with ⟨rfl, _⟩ | ⟨g, cap, cur, rfl, hg, hh, hnc, r⟩
  · simp [Value.ownBlock] at hb
  · exact ⟨g, cap, rfl, hg, blk_lt hh, hnc, cur, hh⟩
/-- A thread that has done nothing yet. -/
def initThr (t : List S28) : Thr := ⟨t, 0, List.replicate 8 0, [], [], false⟩
/-- The cells at the beginning. -/
def firstS (s c : Nat) (xs : List Int) : List Int := xs.take (min xs.length s) ++ (List.replicate c 0).drop (min xs.length s)
theorem grown_any {w w1 : World} {row : Option Nat} (h : w.grownBy w1 none) : w.grownBy w1 row :=
  ⟨h.os, h.tape, h.output, h.size, fun k hk _ => h.block k hk (by simp)⟩
theorem m_set1 {w : World} {mb : Nat} {cv pv : Value} {n : Int} (h : MBlk w mb cv pv n) (v : Value) : MBlk (w.setCell ⟨mb, 1, none⟩ v) mb cv v n := blk_put h 1 _ (by rfl)
section
variable {W : World} {base mb : Nat} {col : Nat → Nat} {ts : List Nat} {cv pv : Value} {M : Mch}
theorem Mach.mem_lt (h : Mach W base mb col ts cv pv M) {b : Nat} (hb : b ∈ ts) : b < W.heap.size := by
  obtain ⟨i, hi, e⟩ := List.mem_iff_getElem.mp hb
  have hi2 : i < M.thr.length := by rw [← h.len]; exact hi
  obtain ⟨v, wv, ov, hT⟩ := h.thr i b M.thr[i] (by rw [List.getElem?_eq_getElem hi, e]) (List.getElem?_eq_getElem hi2)
  exact blk_lt hT.blk
theorem Mach.push {W1 : World} {b : Nat} {t : Thr} {v wv ov v1 : Value} (h : Mach W base mb col ts cv pv M) (hT : ThrM W base (fun q => col q = M.thr.length + 1) b t v wv ov) (hb : b ∉ ts) (hg : W.grownBy W1 pv.ownBlock) (hR : Kd.R kP 72 W1 base (fun _ => True) v1 (ts ++ [b])) :
    Mach (W1.setCell ⟨mb, 1, none⟩ v1) base mb col (ts ++ [b]) cv v1 { M with thr := M.thr ++ [t] } := by
  have hne : ∀ {g : Nat} {cs : Array Value} {ty : TypeId}, W.heap[g]? = some (Obj.cells cs ty (0, 0)) → ty ≠ 72 → some g ≠ pv.ownBlock := by
    intro g cs ty hg2 hty e
    obtain ⟨cs2, h2⟩ := Kd.R_typed h.ptrs g e.symm
    exact blk_ne hg2 h2 hty rfl
  have hm := blk_grown h.blk hg (hne h.blk (by decide))
  have thr : ∀ {ok : Nat → Prop} {b2 : Nat} {t2 : Thr} {v2 wv2 ov2 : Value}, ThrM W base ok b2 t2 v2 wv2 ov2 → ThrM (W1.setCell ⟨mb, 1, none⟩ v1) base ok b2 t2 v2 wv2 ov2 := by
    intro ok b2 t2 v2 wv2 ov2 h2
    have hb2 := blk_grown h2.blk hg (hne h2.blk (by decide))
    exact ⟨blk_far hb2 (blk_ne hb2 hm (by decide)) _, h2.len, row_set (row_grown h2.codes h.ptrs rfl (by decide) hg) hm rfl (by decide) _ _, row_set (row_grown h2.wr h.ptrs rfl (by decide) hg) hm rfl (by decide) _ _, row_set (row_grown h2.out h.ptrs rfl (by decide) hg) hm rfl (by decide) _ _, h2.le⟩
  refine ⟨m_set1 hm v1, row_set hR hm rfl (by decide) _ _, row_set (row_grown h.cells h.ptrs rfl (by decide) hg) hm rfl (by decide) _ _, by simp [h.len], fun k2 b2 t2 h1 h2 => ?_, ?_, h.le⟩
  · rcases Nat.lt_trichotomy k2 ts.length with hk | hk | hk
    · rw [List.getElem?_append_left hk] at h1
      have h2' : M.thr[k2]? = some t2 := by
        have : (M.thr ++ [t])[k2]? = M.thr[k2]? := List.getElem?_append_left (by rw [← h.len]; exact hk)
        exact this.symm.trans h2
      obtain ⟨v2, wv2, ov2, hTT⟩ := h.thr k2 b2 t2 h1 h2'
      exact ⟨v2, wv2, ov2, thr hTT⟩
    · subst hk
      have e1 : b2 = b := by simpa using h1.symm
      have h2' : (M.thr ++ [t])[ts.length]? = some t2 := h2
      rw [h.len] at h2'
      have e2 : t2 = t := by simpa using h2'.symm
      subst e1
      subst e2
      have hT' := thr hT
      rw [← h.len] at hT'
      exact ⟨_, _, _, hT'⟩
    · have : ts.length + 1 ≤ k2 := hk
      rw [List.getElem?_eq_none (by simp; omega)] at h1
      cases h1
  · rw [List.nodup_append]
    refine ⟨h.nodup, by simp, fun x hx y hy e => ?_⟩
    rw [List.mem_singleton] at hy
    subst hy
    subst e
    exact hb hx
end
section
variable {P : Program} {ops : Array Oper} {Q : Exit → Act → World → Prop}
/-- copy(v[:k], x) of numbers: what stands in v's row then. -/
theorem run_copy_full {W : World} (base g : Nat) (t t' ty e : TypeId) (ht : P.underlying t = some (.slice e)) (hinfo : (P.info? e).map (·.size) = some 1) (xs ys : List Int) (k n cp c2 m c : Nat) (A : Option Addr) (ok : Nat → Prop) (hk : k ≤ xs.length)
    (HO : Kd.R (Kd.int .u64) e W base ok (.slice (some ⟨g, 0, none⟩) n cp) xs) (HR : Kd.C (Kd.int .u64) W A m ys) :
    ∃ w1, (Builtin.copy_ #[t, t'] ty #[.slice (some ⟨g, 0, none⟩) k c2, .slice A m c]).run P W = .ok (goInt ((min m k : Nat) : Int)) w1 ∧ Kd.R (Kd.int .u64) e w1 base ok (.slice (some ⟨g, 0, none⟩) n cp) (ys.take (min m k) ++ xs.drop (min m k)) ∧ W.grownBy w1 (some g) := by
  have hR := Kd.reads_of_C (enc := Value.int .u64) (d := (0 : Int)) (h1 := fun _ => rfl) HR
  have hm : ys.length = m := hR.1
  have hown := Kd.own_of_R (enc := Value.int .u64) (h1 := fun _ => rfl) HO
  rcases Nat.eq_zero_or_pos (min m k) with h0 | hp
  · refine ⟨W, ?_, by rw [h0, List.take_zero, List.drop_zero, List.nil_append]; exact HO, World.grownBy.refl W _⟩
    rw [h0]
    exact run_copy_none W t t' ty e _ A k c2 m c ht hinfo h0
  · obtain ⟨ad, hA, hc⟩ := hR.2.2 (by omega)
    rcases hown.2 with ⟨hv, _⟩ | ⟨g', cap, cur, hv, hb, hh, hnc, hcm, hcs, htake⟩
    · cases hv
    injection hv with hv1 hv2 hv3
    injection hv1 with hv1
    injection hv1 with hv1
    subst hv1
    have hcs1 : cur.size = cap := by omega
    have hsrc : ∀ j u, (encs (Value.int .u64) (ys.take (min m k)))[j]? = some u → W.cell? (ad.add j) = some u := by
      intro j u hu
      have hj : j < (ys.take (min m k)).length := by
        rcases Nat.lt_or_ge j (ys.take (min m k)).length with h | h
        · exact h
        · rw [List.getElem?_eq_none (by rw [encs_length]; exact h)] at hu
          cases hu
      have hjm : j < min m k := by rw [List.length_take] at hj; omega
      rw [encs_get (d := (0 : Int)) _ j hj] at hu
      rw [hc j (by omega), ← hu]
      simp [List.getD_eq_getElem?_getD, hjm]
    have hkl : (encs (Value.int .u64) (ys.take (min m k))).length = min m k := by rw [encs_length, List.length_take]; omega
    have hr := run_copy_cells (P := P) W t t' ty e g 0 k c2 ad m c (encs (Value.int .u64) (ys.take (min m k))) ht hinfo (by rw [hkl]) hsrc
      (fun j hj => by rw [cell_of_row W g _ cur e (0, 0) hh]; simp; omega) (fun j _ => blk_frozen hh _) (by intro u hu; simp only [encs, List.mem_map] at hu; obtain ⟨q, _, rfl⟩ := hu; rfl)
    obtain ⟨cur', h3, h4, h5⟩ := setCells_row (encs (Value.int .u64) (ys.take (min m k))) 0 W cur hh (by rw [hkl]; omega)
    obtain ⟨s1, s2, s3, s4⟩ := setCells_same g (encs (Value.int .u64) (ys.take (min m k))) 0 W
    refine ⟨_, by rw [hA, hr, hkl], Kd.R_of_own ?_ HO.1, ⟨s1, s2, s3, by rw [s4]; exact Nat.le_refl _, fun q _ hq => setCells_far _ _ q (fun he => hq (by rw [he]))⟩⟩
    have hln : (ys.take (min m k) ++ xs.drop (min m k)).length = xs.length := by
      rw [List.length_append, List.length_take, List.length_drop]
      omega
    rw [hln]
    refine ⟨by rw [encs_length, hln, Nat.mul_one], .inr ⟨g, cap, cur', by rw [hv2, hv3], hb, h3, hnc, hcm, by rw [h4, hcs], ?_⟩⟩
    rw [h5, List.take_zero, List.nil_append, hkl, Nat.zero_add, encs_append, Nat.mul_one]
    rw [List.take_append, hkl, List.take_of_length_le (by rw [hkl]; omega)]
    congr 1
    have htk : cur.toList.take xs.length = encs (Value.int .u64) xs := by rw [← htake, Nat.mul_one]
    have hd : encs (Value.int .u64) (xs.drop (min m k)) = (encs (Value.int .u64) xs).drop (min m k) := by simp [encs, List.map_drop]
    rw [hd, ← htk, List.drop_take]
/-- append(v, x), x a literal of one pointer in a block of its own, one step of a region that draws. -/
theorem pushP_ {oi : Oper} {a : Act} {K : Act → World → Prop} {W : World} (hw : Region.wanted oi (yielded ops a.tmps) = true) (s x : Operand) (t e : TypeId) (z : Value) (bytes : Nat)
    (ho : oi.op = .call { callee := .builtin .append, args := #[s, x], argTypes := #[t, t] })
    (ht : P.underlying t = some (.slice e)) (hinfo : (P.info? e).map (fun i => (i.zero, i.size, i.bytes)) = some (some z, 1, bytes)) (hz : z.cells.size = 1) (hb0 : 0 < bytes)
    (v : Value) (base g : Nat) (xs : List Nat) (y : Nat) (ok : Nat → Prop) (hs : a.eval s = v) (hx : a.eval x = .slice (some ⟨g, 0, none⟩) 1 1) (hg : W.heap[g]? = some (Obj.cells #[.pointer (some ⟨y, 0, none⟩)] e (0, 0)))
    (HO : Kd.R kP e W base ok v xs) (hbase : base ≤ W.heap.size) (hl : (xs.length + 1) * bytes ≤ 140737488355328) (hfresh : ∀ k, W.heap.size ≤ k → ok k)
    (h : ∀ v1 w1, Kd.R kP e w1 base ok v1 (xs ++ [y]) → W.grownBy w1 v.ownBlock → K (a.put oi.dst v1) w1) :
    if Region.wanted oi (yielded ops a.tmps) = true then Oper.wp P oi a W K Q else K (a.put oi.dst undef) W := by
  obtain ⟨i0, hi, hzz⟩ := Option.map_eq_some_iff.1 hinfo
  simp only [Prod.mk.injEq] at hzz
  obtain ⟨hz0, hz1, hz2⟩ := hzz
  have hlen : xs.length + 1 ≤ 140737488355328 := Nat.le_trans (Nat.le_mul_of_pos_right _ hb0) hl
  rw [if_pos hw]
  obtain ⟨v1, w1, hr, hown, hgr, _, hat⟩ := run_append_own_at (P := P) W base t oi.type e i0 z 1 bytes ht hi hz0 hz1 hz2 hz (by decide) v xs.length _ (Kd.own_of_R HO) ⟨g, 0, none⟩ 1 1 [.pointer (some ⟨y, 0, none⟩)] (by simp)
    (by simpa using World.news_of_block hg) (by intro u hu; rw [List.mem_singleton.mp hu]; rfl) (by simp only [maxLen]; omega) hl hbase
  unfold Oper.wp execOp
  simp only [ho, resolve, invoke, builtin, Sem.run_bind, Sem.run_pure, Result.andThen_ok, List.map_toArray, List.map_cons, List.map_nil, hs, hx, hr]
  refine h v1 w1 (Kd.R_of_own ?_ (fun k hk => ?_)) hgr
  · have := hown
    rw [show encs (fun b : Nat => Value.pointer (some ⟨b, 0, none⟩)) xs ++ [.pointer (some ⟨y, 0, none⟩)] = encs (fun b : Nat => Value.pointer (some ⟨b, 0, none⟩)) (xs ++ [y]) by simp [encs]] at this
    simpa using this
  · rcases hat with e1 | e1
    · exact HO.1 k (by rw [← e1]; exact hk)
    · rw [e1] at hk
      injection hk with hk
      subst hk
      exact hfresh _ (Nat.le_refl _)
end
theorem infoN : (Try.prog.info? 26).map (·.size) = some 1 := by kernel_rfl
section
variable {P : Program} {ops : Array Oper} {Q : Exit → Act → World → Prop}
/-- copy, one step of a region that draws. -/
theorem copy_ {oi : Oper} {N : Option Tmp} {a : Act} {K : Act → World → Prop} {W w1 : World} {u v r : Value} (hw : Region.wanted oi (yielded ops a.tmps) = true) (hN : oi.dst = N) (s x : Operand) (t t' : TypeId)
    (ho : oi.op = .call { callee := .builtin .copy, args := #[s, x], argTypes := #[t, t'] }) (hs : a.eval s = v) (hx : a.eval x = u) (hr : (Builtin.copy_ #[t, t'] oi.type #[v, u]).run P W = .ok r w1) (h : K (a.put N r) w1) :
    if Region.wanted oi (yielded ops a.tmps) = true then Oper.wp P oi a W K Q else K (a.put N undef) W := by
  subst hN
  rw [if_pos hw]
  unfold Oper.wp execOp
  simp only [ho, resolve, invoke, builtin, Sem.run_bind, Sem.run_pure, Result.andThen_ok, List.map_toArray, List.map_cons, List.map_nil, hs, hx, hr]
  exact h
end
theorem infoP : (Try.prog.info? 72).map (fun i => (i.zero, i.size, i.bytes)) = some (some (.pointer none), 1, 8) := by kernel_rfl
end Go.Proofs.Ytaenjbhhpdmhgaa.Tso
