/-
The walk of Of over a list of declarations that is no scope's: it hands back an error. Conditions: as the theorem states them.
-/
import Derived.Test.YtchgmfdojhbgaaaDoorMScopeB
import Derived.Test.YtchgmfdojhbgaaaDoorMAt
set_option linter.unusedVariables false
set_option linter.unusedSimpArgs false
namespace Go.Proofs.YtchgmfdojhbgaaaDoor.MScope
open Go.RowKit Go.Proofs.YtchgmfdojhbgaaaDoorW.PrintWords Go.Proofs.YtchgmfdojhbgaaaDoorW.PrintLast Go.Proofs.YtchgmfdojhbgaaaDoorW.PrintMore
open Go.Proofs.YtchgmfdojhbgaaaDoor.Kit Go.ChangeMaps Go.MapKept
attribute [local go_sem] max2_int min2_int max_two min_two max_three min_three max_four min_four   -- for this text's walks alone
/-- Where the first declaration is that is no scope's. -/
def fb : List Dc → List Dc → Option Int
  | _, [] => none
  | D, d :: r => if ((look D d.name).isNone && (decide (d.by_ = ⟨#[]⟩) || ((look D d.by_).map Dc.lock).getD false)) = true then fb (D ++ [d]) r else some d.at_
set_option maxHeartbeats 4000000 in
set_option maxRecDepth 100000 in
/-- A list that is no scope's: an error. -/
theorem of.fails {w : World} {b0 : Nat} {vd : Value} {D : List Dc} (hd : w.ownsRow b0 29 6 vd D.length (D.flatMap Dc.cells)) (a0 : Int) (hk : fb [] D = some a0) (hD : D.length ≤ 4611686018427387904) :
    Calls Tryd.prog 7 #[vd] w fun e w' => ∃ v, e = .returned (.tuple #[.pointer none, v]) ∧ As.Fault w' v 3 a0 ∧ Below w.heap.size w w' := by
  have hmm := @run_makeMap Tryd.prog
  rcases own_at Dc.cells 6 (fun _ => rfl) hd rfl with ⟨rfl, rfl⟩ | ⟨g, cap, rfl, hcap, hg, hgl, hrd⟩
  · simp [fb] at hk
  · go_enter Tryd.func7, Tryd.ntmps7
    go_wp2
    go_loopw [16] (fun i wr => ∃ k : Nat, k ≤ D.length ∧ i = .int .i64 k ∧ fb (D.take k) (D.drop k) = some a0 ∧ wr.heap[w.heap.size + 1]? = some (Obj.cells #[.map (some w.heap.size), .slice none 0 0] 53 (0, 0)) ∧ MapIs wr w.heap.size (D.take k) ∧ Below w.heap.size w wr)
      (fun i _ => D.length - (intOf i).toNat)
    case atStart =>
      refine ⟨0, Nat.zero_le _, rfl, by simpa using hk, ?_, ⟨#[], 0, ?_, rfl⟩, ((Below.refl _ _).alloc (Nat.le_refl _) _).alloc (by simp) _⟩
      · have := heap_alloc_new (w.alloc (.map #[] 0)) (Obj.cells #[.map (some w.heap.size), .slice none 0 0] 53 (0, 0))
        simpa using this
      · exact (Below.heap_alloc _ _ _ (by simp)).trans (heap_alloc_new w _)
    case round =>
      obtain ⟨k, hk1, rfl, hok, hp, hm, hnx⟩ := hrel
      obtain ⟨es, clock, hm1, hm2⟩ := hm
      have hPlt : w.heap.size + 1 < wr.heap.size := (Array.getElem?_eq_some_iff.mp hp).1
      have hMlt : w.heap.size < wr.heap.size := by omega
      generalize hP : w.heap.size + 1 = P at hp hPlt ⊢
      generalize hM : w.heap.size = M at hm1 hMlt ⊢
      have q0 : wr.cell? ⟨P, 0, none⟩ = some (.map (some M)) := by simp [World.cell?, hp, ← hM]
      by_cases hkl : k < D.length
      · have R := hrd k hkl
        obtain ⟨lk, lb, nm, sz, by_, at_, hdk⟩ : ∃ lk lb nm sz by_ at_, D[k] = ⟨lk, lb, nm, sz, by_, at_⟩ := ⟨_, _, _, _, _, _, rfl⟩
        rw [hdk] at R
        have r0 : wr.cell? ⟨g, k * 6, none⟩ = some (.bool lk) := (hnx.cell (by exact hgl)).trans (R 0 _ rfl)
        have r1 : wr.cell? ⟨g, k * 6 + 1, none⟩ = some (.int .i64 lb) := (hnx.cell (by exact hgl)).trans (R 1 _ rfl)
        have r2 : wr.cell? ⟨g, k * 6 + 2, none⟩ = some (.string nm) := (hnx.cell (by exact hgl)).trans (R 2 _ rfl)
        have r3 : wr.cell? ⟨g, k * 6 + 3, none⟩ = some (.int .i64 sz) := (hnx.cell (by exact hgl)).trans (R 3 _ rfl)
        have r4 : wr.cell? ⟨g, k * 6 + 4, none⟩ = some (.string by_) := (hnx.cell (by exact hgl)).trans (R 4 _ rfl)
        have r5 : wr.cell? ⟨g, k * 6 + 5, none⟩ = some (.int .i64 at_) := (hnx.cell (by exact hgl)).trans (R 5 _ rfl)
        clear R
        rw [List.drop_eq_getElem_cons hkl, fb, hdk] at hok
        rcases hn1 : look (D.take k) nm with _ | ⟨tl, tb, tn, ts, ty, ta⟩
        · have hokF : (decide (by_ = ⟨#[]⟩) || ((look (D.take k) by_).map Dc.lock).getD false) = false → at_ = a0 := by
            intro h
            rw [hn1, h] at hok
            simpa using hok
          have hok : (decide (by_ = ⟨#[]⟩) || ((look (D.take k) by_).map Dc.lock).getD false) = true → fb (D.take k ++ [⟨lk, lb, nm, sz, by_, at_⟩]) (D.drop (k + 1)) = some a0 := by
            intro h
            rw [hn1, h] at hok
            simpa using hok
          have hok2 : (decide (by_ = ⟨#[]⟩) || ((look (D.take k) by_).map Dc.lock).getD false) = true → fb (D.take (k + 1)) (D.drop (k + 1)) = some a0 := by
            intro h
            rw [List.take_add_one, List.getElem?_eq_getElem hkl, hdk]; exact hok h
          clear hok
          have hma : MapAt wr M es clock := hm1
          have hA := fun o : Obj => look_at hm2 (w := (wr.alloc o).drew) (MapAt_drew (MapAt_alloc hma)) nm
          have hB := fun o o' : Obj => look_at hm2 (w := ((wr.alloc o).alloc o').drew) (MapAt_drew (MapAt_alloc (MapAt_alloc hma))) nm
          have hC := fun o o' : Obj => look_at hm2 (w := (wr.alloc o).drew.alloc o') (MapAt_alloc (MapAt_drew (MapAt_alloc hma))) nm
          rw [hn1] at hA hB hC
          simp only [gotV, zDc, Dc.val] at hA hB hC
          go_wp2
          go_region
          obtain ⟨W5, hW5⟩ : ∃ W5, W5 = ((wr.alloc (Obj.cells #[.bool lk, .int .i64 lb, .string nm, .int .i64 sz, .string by_, .int .i64 at_] 29)).alloc (Obj.cells #[.bool false, .int .i64 0, .string ⟨#[]⟩, .int .i64 0, .string ⟨#[]⟩, .int .i64 0] 29)).drew := ⟨_, rfl⟩
          have hd5 : W5.heap[wr.heap.size]? = some (Obj.cells #[.bool lk, .int .i64 lb, .string nm, .int .i64 sz, .string by_, .int .i64 at_] 29 (0, 0)) := by
            rw [hW5]; exact (Below.heap_alloc _ _ _ (by simp)).trans (heap_alloc_new wr _)
          have hb5 : Below wr.heap.size wr W5 := by
            rw [hW5]; exact (((Below.refl _ _).alloc (Nat.le_refl _) _).alloc (by simp) _).drew
          have m5 : MapAt W5 M es clock := by rw [hW5]; exact MapAt_drew (MapAt_alloc (MapAt_alloc hma))
          rw [← hW5]
          clear hW5 hA hB hC
          generalize hB6 : wr.heap.size = B6 at hd5 ⊢
          have p5 : W5.heap[P]? = some (Obj.cells #[.map (some w.heap.size), .slice none 0 0] 53 (0, 0)) := (hb5.block P hPlt).trans hp
          rw [hM] at p5
          have q5 : W5.cell? ⟨P, 0, none⟩ = some (.map (some M)) := by simp [World.cell?, p5]
          have d0 : W5.cell? ⟨B6, 0, none⟩ = some (.bool lk) := by simp [World.cell?, hd5]
          have d1 : W5.cell? ⟨B6, 1, none⟩ = some (.int .i64 lb) := by simp [World.cell?, hd5]
          have d2 : W5.cell? ⟨B6, 2, none⟩ = some (.string nm) := by simp [World.cell?, hd5]
          have d3 : W5.cell? ⟨B6, 3, none⟩ = some (.int .i64 sz) := by simp [World.cell?, hd5]
          have d4 : W5.cell? ⟨B6, 4, none⟩ = some (.string by_) := by simp [World.cell?, hd5]
          have d5 : W5.cell? ⟨B6, 5, none⟩ = some (.int .i64 at_) := by simp [World.cell?, hd5]
          have l5 : P < W5.heap.size := (Array.getElem?_eq_some_iff.mp p5).1
          have l6 : B6 < W5.heap.size := (Array.getElem?_eq_some_iff.mp hd5).1
          clear r0 r1 r2 r3 r4 r5 q0
          have hA := fun o : Obj => look_at hm2 (w := (W5.alloc o).drew) (MapAt_drew (MapAt_alloc m5)) by_
          have hB := look_at hm2 (w := W5.drew) (MapAt_drew m5) by_
          have hC := fun o : Obj => store_at hm2 (w := (W5.alloc o).drew.drew) (MapAt_drew (MapAt_drew (MapAt_alloc m5))) ⟨lk, lb, nm, sz, by_, at_⟩ hn1
          simp only [Dc.val] at hC
          have fin : ∀ W6, Below W5.heap.size W5 W6 → (setBlock W6 M (.map (es.push { key := .string nm, val := (Dc.mk lk lb nm sz by_ at_).val, born := clock }) (clock + 1))).heap[P]? = some (Obj.cells #[.map (some M), .slice none 0 0] 53 (0, 0)) ∧
              MapIs (setBlock W6 M (.map (es.push { key := .string nm, val := (Dc.mk lk lb nm sz by_ at_).val, born := clock }) (clock + 1))) M (D.take (k + 1)) ∧ Below M w (setBlock W6 M (.map (es.push { key := .string nm, val := (Dc.mk lk lb nm sz by_ at_).val, born := clock }) (clock + 1))) := by
            intro W6 h6
            have m6 : W6.heap[M]? = some (Obj.map es clock) := (h6.block M (Array.getElem?_eq_some_iff.mp m5).1).trans m5
            have b6 : Below M w W6 := by
              have hB : Below M wr W6 := (hb5.mono (by omega)).trans (h6.mono (by have := hb5.size; omega))
              rw [← hM] at hB ⊢; exact hnx.trans hB
            refine ⟨?_, ⟨_, _, heap_setBlock_same m6 _, ?_⟩, b6.os, b6.tape, b6.output, ?_, ?_⟩
            · rw [heap_setBlock_other m6 _ (by omega)]; exact (h6.block P l5).trans p5
            · rw [List.take_add_one, List.getElem?_eq_getElem hkl, hdk]; simp [hm2]
            · exact Nat.le_trans b6.size (by simp [setBlock])
            · intro j hj; rw [heap_setBlock_other m6 _ (by omega)]; exact b6.block j hj
          simp only [Dc.val] at fin
          clear hm2 hn1
          have fin0 : ∀ W6, Below W5.heap.size W5 W6 → Below w.heap.size w W6 := fun W6 h6 => hnx.trans ((hb5.trans (h6.mono hb5.size)).mono hnx.size)
          by_cases hby : by_ = ⟨#[]⟩
          · have hsb : (by_.toList == ([] : List UInt8)) = true := by rw [hby]; simp
            have hok2 := hok2 (by rw [decide_eq_true hby]; rfl)
            clear hby hokF
            rcases hr : look (D.take k) by_ with _ | ⟨lk', lb', nm', sz', by', at'⟩
            · rw [hr] at hA hB
              simp only [gotV, zDc, Dc.val] at hA hB
              go_wp2
              go_region
              go_wp2
              go_region
              go_wp2
              go_roundw
              case rel => exact ⟨k + 1, by omega, by first | rfl | go_num, hok2, fin _ (((Below.refl _ _).alloc (Nat.le_refl _) _).drew.drew)⟩
              case measure => simp [intOf]; omega
            · rw [hr] at hA hB
              simp only [gotV, zDc, Dc.val] at hA hB
              go_wp2
              go_region
              go_wp2
              go_region
              go_wp2
              go_roundw
              case rel => exact ⟨k + 1, by omega, by first | rfl | go_num, hok2, fin _ (((Below.refl _ _).alloc (Nat.le_refl _) _).drew.drew)⟩
              case measure => simp [intOf]; omega
          · have hsb : (by_.toList == ([] : List UInt8)) = false := by
              rw [show ([] : List UInt8) = (⟨#[]⟩ : ByteArray).toList by simp, same_b]; exact decide_eq_false hby
            have hokF := fun h => hokF (by rw [decide_eq_false hby, Bool.false_or]; exact h)
            clear hby
            rcases hr : look (D.take k) by_ with _ | ⟨lk', lb', nm', sz', by', at'⟩
            · rw [hr] at hA hB
              simp only [gotV, zDc, Dc.val] at hA hB
              obtain rfl := hokF (by rw [hr]; rfl)
              clear hok2 hokF
              go_wp2
              go_region
              go_wp2
              refine bodyPost_ret (v := .tuple #[.pointer none, .iface 58 (.pointer (some ⟨_, 0, none⟩))]) (by simp [results, Tryd.results7, go_sem]; first | rfl | exact ⟨rfl, rfl⟩) rfl ⟨_, rfl, ⟨⟨_, rfl, by simp, by simp⟩⟩, ?_⟩
              exact fin0 _ (by repeat (first | exact Below.refl _ _ | apply Below.drew | refine Below.alloc ?_ (by simp; try omega) _))
            · cases lk' with
              | true =>
                have hok2 := hok2 (by rw [hr]; simp)
                clear hokF
                rw [hr] at hA hB
                simp only [gotV, zDc, Dc.val] at hA hB
                go_wp2
                go_region
                go_wp2
                go_region
                go_wp2
                go_roundw
                case rel => exact ⟨k + 1, by omega, by first | rfl | go_num, hok2, fin _ (((Below.refl _ _).alloc (Nat.le_refl _) _).drew.drew)⟩
                case measure => simp [intOf]; omega
              | false =>
                obtain rfl := hokF (by rw [hr]; rfl)
                clear hok2 hokF
                rw [hr] at hA hB
                simp only [gotV, zDc, Dc.val] at hA hB
                go_wp2
                go_region
                go_wp2
                refine bodyPost_ret (v := .tuple #[.pointer none, .iface 58 (.pointer (some ⟨_, 0, none⟩))]) (by simp [results, Tryd.results7, go_sem]; first | rfl | exact ⟨rfl, rfl⟩) rfl ⟨_, rfl, ⟨⟨_, rfl, by simp, by simp⟩⟩, ?_⟩
                exact fin0 _ (by repeat (first | exact Below.refl _ _ | apply Below.drew | refine Below.alloc ?_ (by simp; try omega) _))
        · obtain rfl : at_ = a0 := by rw [hn1] at hok; simpa using hok
          have hma : MapAt wr M es clock := hm1
          have hA := fun o : Obj => look_at hm2 (w := (wr.alloc o).drew) (MapAt_drew (MapAt_alloc hma)) nm
          have hB := fun o o' : Obj => look_at hm2 (w := ((wr.alloc o).alloc o').drew) (MapAt_drew (MapAt_alloc (MapAt_alloc hma))) nm
          have hC := fun o o' : Obj => look_at hm2 (w := (wr.alloc o).drew.alloc o') (MapAt_alloc (MapAt_drew (MapAt_alloc hma))) nm
          rw [hn1] at hA hB hC
          simp only [gotV, zDc, Dc.val] at hA hB hC
          go_wp2
          go_region
          obtain ⟨W5, hW5⟩ : ∃ W5, W5 = ((wr.alloc (Obj.cells #[.bool lk, .int .i64 lb, .string nm, .int .i64 sz, .string by_, .int .i64 at_] 29)).alloc (Obj.cells #[.bool tl, .int .i64 tb, .string tn, .int .i64 ts, .string ty, .int .i64 ta] 29)).drew := ⟨_, rfl⟩
          have hd5 : W5.heap[wr.heap.size]? = some (Obj.cells #[.bool lk, .int .i64 lb, .string nm, .int .i64 sz, .string by_, .int .i64 at_] 29 (0, 0)) := by
            rw [hW5]; exact (Below.heap_alloc _ _ _ (by simp)).trans (heap_alloc_new wr _)
          have hb5 : Below wr.heap.size wr W5 := by
            rw [hW5]; exact (((Below.refl _ _).alloc (Nat.le_refl _) _).alloc (by simp) _).drew
          have m5 : MapAt W5 M es clock := by rw [hW5]; exact MapAt_drew (MapAt_alloc (MapAt_alloc hma))
          rw [← hW5]
          clear hW5 hA hB hC
          generalize hB6 : wr.heap.size = B6 at hd5 ⊢
          have p5 : W5.heap[P]? = some (Obj.cells #[.map (some w.heap.size), .slice none 0 0] 53 (0, 0)) := (hb5.block P hPlt).trans hp
          rw [hM] at p5
          have q5 : W5.cell? ⟨P, 0, none⟩ = some (.map (some M)) := by simp [World.cell?, p5]
          have d0 : W5.cell? ⟨B6, 0, none⟩ = some (.bool lk) := by simp [World.cell?, hd5]
          have d1 : W5.cell? ⟨B6, 1, none⟩ = some (.int .i64 lb) := by simp [World.cell?, hd5]
          have d2 : W5.cell? ⟨B6, 2, none⟩ = some (.string nm) := by simp [World.cell?, hd5]
          have d3 : W5.cell? ⟨B6, 3, none⟩ = some (.int .i64 sz) := by simp [World.cell?, hd5]
          have d4 : W5.cell? ⟨B6, 4, none⟩ = some (.string by_) := by simp [World.cell?, hd5]
          have d5 : W5.cell? ⟨B6, 5, none⟩ = some (.int .i64 at_) := by simp [World.cell?, hd5]
          have l5 : P < W5.heap.size := (Array.getElem?_eq_some_iff.mp p5).1
          have l6 : B6 < W5.heap.size := (Array.getElem?_eq_some_iff.mp hd5).1
          clear r0 r1 r2 r3 r4 r5 q0
          have hA := fun o : Obj => look_at hm2 (w := (W5.alloc o).drew) (MapAt_drew (MapAt_alloc m5)) by_
          have hB := look_at hm2 (w := W5.drew) (MapAt_drew m5) by_
          clear hm2 hn1
          have fin0 : ∀ W6, Below W5.heap.size W5 W6 → Below w.heap.size w W6 := fun W6 h6 => hnx.trans ((hb5.trans (h6.mono hb5.size)).mono hnx.size)
          rcases hr : look (D.take k) by_ with _ | ⟨lk', lb', nm', sz', by', at'⟩
          · rw [hr] at hA hB
            simp only [gotV, zDc, Dc.val] at hA hB
            go_wp2
            go_region
            go_wp2
            refine bodyPost_ret (v := .tuple #[.pointer none, .iface 58 (.pointer (some ⟨_, 0, none⟩))]) (by simp [results, Tryd.results7, go_sem]; first | rfl | exact ⟨rfl, rfl⟩) rfl ⟨_, rfl, ⟨⟨_, rfl, by simp, by simp⟩⟩, ?_⟩
            exact fin0 _ (by repeat (first | exact Below.refl _ _ | apply Below.drew | refine Below.alloc ?_ (by simp; try omega) _))
          · rw [hr] at hA hB
            simp only [gotV, zDc, Dc.val] at hA hB
            go_wp2
            go_region
            go_wp2
            refine bodyPost_ret (v := .tuple #[.pointer none, .iface 58 (.pointer (some ⟨_, 0, none⟩))]) (by simp [results, Tryd.results7, go_sem]; first | rfl | exact ⟨rfl, rfl⟩) rfl ⟨_, rfl, ⟨⟨_, rfl, by simp, by simp⟩⟩, ?_⟩
            exact fin0 _ (by repeat (first | exact Below.refl _ _ | apply Below.drew | refine Below.alloc ?_ (by simp; try omega) _))
      · obtain rfl : k = D.length := by omega
        rw [List.drop_length, fb] at hok
        cases hok
end Go.Proofs.YtchgmfdojhbgaaaDoor.MScope
