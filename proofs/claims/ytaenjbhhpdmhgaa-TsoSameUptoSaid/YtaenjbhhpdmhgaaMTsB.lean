/-
The machine of layer 23 as a whole: its parts in memory lie apart, and what each single write makes of it. Conditions: as each theorem states them.
-/
import Derived.Test.YtaenjbhhpdmhgaaMTsA
set_option linter.unusedVariables false
set_option linter.unusedSimpArgs false
namespace Go.Proofs.Ytaenjbhhpdmhgaa.Tso
open Go.RowKit Go.Proofs.YtaenjbhhpdmhgaaW.PrintWords Go.Proofs.YtaenjbhhpdmhgaaW.PrintLast Go.Proofs.YtaenjbhhpdmhgaaW.PrintMore
open Go.Proofs.Ytaenjbhhpdmhgaa.Kit
open Go.Proofs.Ytaenjbhhpdmhgaa.PTsoScript
structure Thr where
  codes : List S28
  at_ : Int
  rs : List Int
  wr : List S82
  out : List Int
  halted : Bool
structure Mch where
  cells : List Int
  thr : List Thr
  steps : Int
/-- Pointers to threads. -/
def kP : Kd Nat := Kd.scalar (fun b => .pointer (some ⟨b, 0, none⟩)) (fun _ => rfl)
abbrev kU : Kd Int := Kd.int .u64
structure ThrM (W : World) (base : Nat) (ok : Nat → Prop) (tb : Nat) (t : Thr) (cv wv ov : Value) : Prop where
  blk : TBlk W tb cv t.at_ t.rs wv ov t.halted
  len : t.rs.length = 8
  codes : Kd.R k28 28 W base (fun _ => True) cv t.codes
  wr : Kd.R k82 82 W base (fun _ => True) wv t.wr
  out : Kd.R kU 26 W base ok ov t.out
  le : base ≤ tb
structure Mach (W : World) (base mb : Nat) (col : Nat → Nat) (ts : List Nat) (cv pv : Value) (M : Mch) : Prop where
  blk : MBlk W mb cv pv M.steps
  ptrs : Kd.R kP 72 W base (fun _ => True) pv ts
  cells : Kd.R kU 26 W base (fun b => col b = 0) cv M.cells
  len : ts.length = M.thr.length
  thr : ∀ (k : Nat) (b : Nat) (t : Thr), ts[k]? = some b → M.thr[k]? = some t → ∃ v wv ov, ThrM W base (fun b => col b = k + 1) b t v wv ov
  nodup : ts.Nodup
  le : base ≤ mb
/-- What a step of a machine may change: the machine's block, its threads' blocks, the rows of its own colours, and what is made anew. -/
structure Keep (base mb : Nat) (ts : List Nat) (col : Nat → Nat) (w w' : World) : Prop where
  os : w'.os = w.os
  tape : w'.tape = w.tape
  output : w'.output = w.output
  size : w.heap.size ≤ w'.heap.size
  block : ∀ k, k < w.heap.size → ¬ (base ≤ k ∧ (k = mb ∨ k ∈ ts ∨ col k ≤ ts.length ∧ ∃ cs, w.heap[k]? = some (Obj.cells cs 26 (0, 0)))) → w'.heap[k]? = w.heap[k]?
section
variable {base mb : Nat} {ts : List Nat} {col : Nat → Nat} {w w1 w2 : World}
theorem Keep.of (h : Below w.heap.size w w1) : Keep base mb ts col w w1 := ⟨h.os, h.tape, h.output, h.size, fun k hk _ => h.block k hk⟩
theorem Keep.trans (h : Keep base mb ts col w w1) (h2 : Keep base mb ts col w1 w2) : Keep base mb ts col w w2 :=
  ⟨h2.os.trans h.os, h2.tape.trans h.tape, h2.output.trans h.output, Nat.le_trans h.size h2.size, fun k hk hn => (h2.block k (Nat.lt_of_lt_of_le hk h.size) (by rw [h.block k hk hn]; exact hn)).trans (h.block k hk hn)⟩
theorem Keep.bel (h : Keep base mb ts col w w1) (h2 : Below w1.heap.size w1 w2) : Keep base mb ts col w w2 := h.trans (.of h2)
theorem Keep.drew (h : Keep base mb ts col w w1) : Keep base mb ts col w w1.drew := ⟨h.os, h.tape, h.output, h.size, h.block⟩
theorem Keep.setC (h : Keep base mb ts col w w1) {p : Addr} (hp : w.heap.size ≤ p.block ∨ base ≤ p.block ∧ (p.block = mb ∨ p.block ∈ ts ∨ col p.block ≤ ts.length ∧ ∃ cs, w.heap[p.block]? = some (Obj.cells cs 26 (0, 0)))) (u : Value) : Keep base mb ts col w (w1.setCell p u) :=
  ⟨h.os, h.tape, h.output, by simpa [World.setCell] using h.size, fun k hk hn => (Below.heap_setCell _ _ _ _ (fun e => by subst e; rcases hp with h1 | h1; omega; exact hn h1)).trans (h.block k hk hn)⟩
theorem Keep.grow {row : Option Nat} (h : Keep base mb ts col w w1) (hg : w1.grownBy w2 row) (hr : ∀ k, row = some k → base ≤ k ∧ col k ≤ ts.length ∧ ∃ cs, w.heap[k]? = some (Obj.cells cs 26 (0, 0))) : Keep base mb ts col w w2 :=
  ⟨hg.os.trans h.os, hg.tape.trans h.tape, hg.output.trans h.output, Nat.le_trans h.size hg.size, fun k hk hn => (hg.block k (Nat.lt_of_lt_of_le hk h.size) (fun e => by obtain ⟨a, b⟩ := hr k e.symm; exact hn ⟨a, Or.inr (Or.inr b)⟩)).trans (h.block k hk hn)⟩
theorem Keep.ev {g : Nat} {a b c : Int} {x : Bool} (h : Keep base mb ts col w w1) (hg : w.heap.size ≤ g) :
    Keep base mb ts col w ((((w1.setCell ⟨g, 0, none⟩ (.int .i64 a)).setCell ⟨g, 1, none⟩ (.int .i64 b)).setCell ⟨g, 2, none⟩ (.int .i64 c)).setCell ⟨g, 3, none⟩ (.bool x)) :=
  (((h.setC (Or.inl hg) _).setC (Or.inl hg) _).setC (Or.inl hg) _).setC (Or.inl hg) _
theorem Keep.low (h : Keep base mb ts col w w1) (hb : base ≤ w.heap.size) : Below base w w1 :=
  ⟨h.os, h.tape, h.output, h.size, fun k hk => h.block k (Nat.lt_of_lt_of_le hk hb) (fun hn => by have := hn.1; omega)⟩
/-- What is of another colour is kept. -/
theorem Keep.other (h : Keep base mb ts col w w1) {k : Nat} (hk : k < w.heap.size) (h1 : k ≠ mb) (h2 : k ∉ ts) (h3 : ts.length < col k) : w1.heap[k]? = w.heap[k]? :=
  h.block k hk (fun ⟨_, b⟩ => by rcases b with b | b | b; exact h1 b; exact h2 b; have := b.1; omega)
/-- What is no row of numbers is kept, where it is neither the machine nor a thread. -/
theorem Keep.typed (h : Keep base mb ts col w w1) {k : Nat} (hk : k < w.heap.size) (h1 : k ≠ mb) (h2 : k ∉ ts) (h3 : ∀ cs, w.heap[k]? ≠ some (Obj.cells cs 26 (0, 0))) : w1.heap[k]? = w.heap[k]? :=
  h.block k hk (fun ⟨_, b⟩ => by rcases b with b | b | ⟨_, cs, b⟩; exact h1 b; exact h2 b; exact h3 cs b)
end
/-- A row that does not hold blocks of a type is left as it is by a write into one. -/
theorem row_set {α : Type} {d : Kd α} {e : Nat} {W : World} {base : Nat} {ok : Nat → Prop} {v : Value} {xs : List α} (h : d.R e W base ok v xs) {g t : Nat} {cs : Array Value} (hb : W.heap[g]? = some (Obj.cells cs t (0, 0))) (hE : d.E = []) (ht : e ≠ t) (j : Nat) (u : Value) :
    d.R e (W.setCell ⟨g, j, none⟩ u) base ok v xs := Kd.R_set h hb (fun q hq => by rw [hE] at hq; rw [List.mem_singleton.mp hq]; exact ht) j u
theorem row_col {α : Type} {d : Kd α} {e : Nat} {W : World} {base : Nat} {col col' : Nat → Nat} {n : Nat} {v : Value} {xs : List α} (h : d.R e W base (fun b => col b = n) v xs) (hc : ∀ b, b < W.heap.size → col' b = col b) : d.R e W base (fun b => col' b = n) v xs :=
  Kd.R_mono (Kd.R_bound h) (fun k hk => by rw [hc k hk.2.2.1]; exact hk.1)
section
variable {W : World} {base mb : Nat} {col : Nat → Nat} {ts : List Nat} {cv pv : Value} {M : Mch}
/-- What is made anew changes nothing. -/
theorem ThrM.below {W' : World} {ok : Nat → Prop} {b : Nat} {t : Thr} {v wv ov : Value} (h : ThrM W base ok b t v wv ov) (hb : Below W.heap.size W W') : ThrM W' base ok b t v wv ov :=
  ⟨blk_below h.blk hb, h.len, Kd.R_below h.codes hb, Kd.R_below h.wr hb, Kd.R_below h.out hb, h.le⟩
theorem Mach.below {W' : World} (h : Mach W base mb col ts cv pv M) (hb : Below W.heap.size W W') : Mach W' base mb col ts cv pv M :=
  ⟨blk_below h.blk hb, Kd.R_below h.ptrs hb, Kd.R_below h.cells hb, h.len, fun k b t h1 h2 => by
    obtain ⟨v, wv, ov, hT⟩ := h.thr k b t h1 h2
    exact ⟨v, wv, ov, hT.below hb⟩, h.nodup, h.le⟩
theorem Mach.recol {col' : Nat → Nat} (h : Mach W base mb col ts cv pv M) (hc : ∀ b, b < W.heap.size → col' b = col b) : Mach W base mb col' ts cv pv M :=
  ⟨h.blk, h.ptrs, row_col h.cells hc, h.len, fun k b t h1 h2 => by
    obtain ⟨v, wv, ov, hT⟩ := h.thr k b t h1 h2
    exact ⟨v, wv, ov, hT.blk, hT.len, hT.codes, hT.wr, row_col hT.out hc, hT.le⟩, h.nodup, h.le⟩
/-- A write into the machine's own block. -/
theorem Mach.setM (h : Mach W base mb col ts cv pv M) (n : Int) : Mach (W.setCell ⟨mb, 2, none⟩ (.int .i64 n)) base mb col ts cv pv { M with steps := n } :=
  ⟨m_set2 h.blk n, row_set h.ptrs h.blk rfl (by decide) _ _, row_set h.cells h.blk rfl (by decide) _ _, h.len, fun k b t h1 h2 => by
    obtain ⟨v, wv, ov, hT⟩ := h.thr k b t h1 h2
    exact ⟨v, wv, ov, blk_far hT.blk (blk_ne hT.blk h.blk (by decide)) _, hT.len, row_set hT.codes h.blk rfl (by decide) _ _, row_set hT.wr h.blk rfl (by decide) _ _, row_set hT.out h.blk rfl (by decide) _ _, hT.le⟩, h.nodup, h.le⟩
/-- A write into a thread's block: the thread is another one then. -/
theorem Mach.setT (h : Mach W base mb col ts cv pv M) {k b : Nat} (hk : ts[k]? = some b) {cs : Array Value} (hb : W.heap[b]? = some (Obj.cells cs 77 (0, 0))) (j : Nat) (u : Value) (t' : Thr) (v wv ov : Value)
    (hT : ThrM (W.setCell ⟨b, j, none⟩ u) base (fun b => col b = k + 1) b t' v wv ov) : Mach (W.setCell ⟨b, j, none⟩ u) base mb col ts cv pv { M with thr := M.thr.set k t' } :=
  ⟨blk_far h.blk (blk_ne h.blk hb (by decide)) _, row_set h.ptrs hb rfl (by decide) _ _, row_set h.cells hb rfl (by decide) _ _, by rw [h.len]; simp, fun k2 b2 t2 h1 h2 => by
    by_cases hkk : k2 = k
    · subst hkk
      rw [hk] at h1
      obtain rfl := Option.some.inj h1
      have hlt : k2 < M.thr.length := by rw [← h.len]; exact (List.getElem?_eq_some_iff.mp hk).1
      have h2' : (M.thr.set k2 t')[k2]? = some t' := by simp [hlt]
      obtain rfl := Option.some.inj (h2'.symm.trans h2)
      exact ⟨v, wv, ov, hT⟩
    · have h2' : M.thr[k2]? = some t2 := by
        have : (M.thr.set k t')[k2]? = M.thr[k2]? := List.getElem?_set_ne (fun e => hkk e.symm)
        exact this.symm.trans h2
      obtain ⟨v2, wv2, ov2, hT2⟩ := h.thr k2 b2 t2 h1 h2'
      have hne : b2 ≠ b := by
        intro e
        subst e
        obtain ⟨i1, e1⟩ := List.getElem?_eq_some_iff.mp h1
        obtain ⟨i2, e2⟩ := List.getElem?_eq_some_iff.mp hk
        exact hkk ((List.getElem_inj h.nodup).mp (e1.trans e2.symm))
      exact ⟨v2, wv2, ov2, blk_far hT2.blk hne _, hT2.len, row_set hT2.codes hb rfl (by decide) _ _, row_set hT2.wr hb rfl (by decide) _ _, row_set hT2.out hb rfl (by decide) _ _, hT2.le⟩, h.nodup, h.le⟩
/-- A write into a cell. -/
theorem Mach.put {g c : Nat} (h : Mach W base mb col ts (.slice (some ⟨g, 0, none⟩) M.cells.length c) pv M) (i : Nat) (x : Int) :
    Mach (W.setCell ⟨g, i, none⟩ (.int .u64 x)) base mb col ts (.slice (some ⟨g, 0, none⟩) M.cells.length c) pv { M with cells := M.cells.set i x } := by
  obtain ⟨cs, hg⟩ := Kd.R_typed h.cells g rfl
  have hc : col g = 0 := h.cells.1 g rfl
  have hput := Kd.R_putn h.cells (i : Int) x
  rw [Int.toNat_natCast] at hput
  refine ⟨blk_far h.blk (blk_ne h.blk hg (by decide)) _, row_set h.ptrs hg rfl (by decide) _ _, hput, h.len, fun k b t h1 h2 => ?_, h.nodup, h.le⟩
  obtain ⟨v, wv, ov, hT⟩ := h.thr k b t h1 h2
  exact ⟨v, wv, ov, blk_far hT.blk (blk_ne hT.blk hg (by decide)) _, hT.len, row_set hT.codes hg rfl (by decide) _ _, row_set hT.wr hg rfl (by decide) _ _, Kd.R_far (p := ⟨g, i, none⟩) hT.out (fun k hk he => by
    rw [he] at hk
    exact absurd (hc.symm.trans hk) (by omega)) _, hT.le⟩
/-! ### one thread's writes -/
variable {ok : Nat → Prop} {b : Nat} {t : Thr} {v wv ov : Value}
theorem ThrM.setAt (h : ThrM W base ok b t v wv ov) (n : Int) : ThrM (W.setCell ⟨b, 1, none⟩ (.int .i64 n)) base ok b { t with at_ := n } v wv ov :=
  ⟨t_set1 h.blk n, h.len, row_set h.codes h.blk rfl (by decide) _ _, row_set h.wr h.blk rfl (by decide) _ _, row_set h.out h.blk rfl (by decide) _ _, h.le⟩
theorem ThrM.setReg (h : ThrM W base ok b t v wv ov) (r : Nat) (hr : r < 8) (x : Int) : ThrM (W.setCell ⟨b, 2 + r, none⟩ (.int .u64 x)) base ok b { t with rs := t.rs.set r x } v wv ov :=
  ⟨t_setr h.blk r (by rw [h.len]; exact hr) x, by simp [h.len], row_set h.codes h.blk rfl (by decide) _ _, row_set h.wr h.blk rfl (by decide) _ _, row_set h.out h.blk rfl (by decide) _ _, h.le⟩
theorem ThrM.setWr (h : ThrM W base ok b t v wv ov) {wv' : Value} {wr' : List S82} (hw : Kd.R k82 82 W base (fun _ => True) wv' wr') : ThrM (W.setCell ⟨b, 10, none⟩ wv') base ok b { t with wr := wr' } v wv' ov :=
  ⟨t_set10 h.blk h.len wv', h.len, row_set h.codes h.blk rfl (by decide) _ _, row_set hw h.blk rfl (by decide) _ _, row_set h.out h.blk rfl (by decide) _ _, h.le⟩
theorem ThrM.setHalt (h : ThrM W base ok b t v wv ov) (x : Bool) : ThrM (W.setCell ⟨b, 12, none⟩ (.bool x)) base ok b { t with halted := x } v wv ov :=
  ⟨t_set12 h.blk h.len x, h.len, row_set h.codes h.blk rfl (by decide) _ _, row_set h.wr h.blk rfl (by decide) _ _, row_set h.out h.blk rfl (by decide) _ _, h.le⟩
/-- An append to a thread's output: in place, or into a block made anew; all else stays. -/
theorem Mach.grow {W1 : World} {k : Nat} (h : Mach W base mb col ts cv pv M) (hk : ts[k]? = some b) (ht : M.thr[k]? = some t) (hT : ThrM W base (fun q => col q = k + 1) b t v wv ov) (hg : W.grownBy W1 ov.ownBlock) (hout : Kd.R kU 26 W1 base (fun _ => True) ov t.out ∨ True) :
    MBlk W1 mb cv pv M.steps ∧ TBlk W1 b v t.at_ t.rs wv ov t.halted := by
  have hne : ∀ (g : Nat) (cs : Array Value) (ty : TypeId), W.heap[g]? = some (Obj.cells cs ty (0, 0)) → ty ≠ 26 → some g ≠ ov.ownBlock := by
    intro g cs ty hg2 hty e
    obtain ⟨cs2, h2⟩ := Kd.R_typed hT.out g e.symm
    exact blk_ne hg2 h2 hty rfl
  exact ⟨blk_grown h.blk hg (hne _ _ _ h.blk (by decide)), blk_grown hT.blk hg (hne _ _ _ hT.blk (by decide))⟩
end
end Go.Proofs.Ytaenjbhhpdmhgaa.Tso
