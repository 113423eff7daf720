/-
  Parts of a proof: Take: known, full, staged. No condition.
-/
import Derived.Test.YtmjclmmiljlahaaGreatG6
set_option linter.unusedVariables false
set_option linter.unusedSimpArgs false
namespace Go.Proofs.YtmjclmmiljlahaaGreat
open Go.RowKit

set_option maxRecDepth 10000 in
set_option maxHeartbeats 3200000 in
/-- Take, of an event that is there already. -/
theorem take_known {w : World} {col : Col} {k R : Nat} {r : Rm} (h : RmIs w col k R r) (hcol : Std w col) (e : EV) (he : EvIs w col e) (hid : e.d.id ≠ ⟨#[]⟩) (hroom : e.d.room = r.name) (hself : (e.d.prev ++ e.d.auth).any (fun x => decide (e.d.id = x)) = false) (n : Nd) (hn : r.find e.d.id = some n) :
    Calls Tryz.prog 8 #[.pointer (some ⟨R, 0, none⟩), evV e] w fun x w' => x = .returned (.tuple #[.int .i64 0, .slice none 0 0, codeErr 19]) ∧ Fresh w w' := by
  have hn1 : (e.d.id.toList == []) = false := by rw [beq_lit]; exact decide_eq_false hid
  have hn2 : e.d.id.toList.isEmpty = false := by rw [empty_iff]; exact decide_eq_false hid
  have hr0 : w.cell? ⟨R, 0, none⟩ = some (.string e.d.room) := by rw [hroom]; exact h.c0
  have hRl := h.lt
  have HH := Lib.hid h; have He := Lib.hid he; have Hself := Lib.hid hself; have Hid' := Lib.hid hid
  have Hn := Lib.hid hn
  clear h he hself hid hroom hn
  dsimp only [evV]
  go_enter Tryz.func8, Tryz.ntmps8
  go_wp2_with fail
  refine hideWorld _ (fun W => W.cell? ⟨w.heap.size, 0, none⟩ = some (.pointer (some ⟨R, 0, none⟩)) ∧ W.heap[w.heap.size + 1]? = some (.cells e.cells 38 (0, 0)) ∧ Fresh w W) _ ⟨by go_simp, heap_alloc_at (by simp), ((Fresh.rfl' w).alloc (Nat.le_refl _) _).alloc (by simp) _⟩ ?_
  rintro W0 ⟨hb0, hb1, hf0⟩
  have HF0 := Lib.hid hf0
  have hS : ∀ W, Fresh W0 W → W.cell? ⟨w.heap.size, 0, none⟩ = some (.pointer (some ⟨R, 0, none⟩)) ∧ W.cell? ⟨w.heap.size + 1, 0, none⟩ = some (.string e.d.id) ∧ W.cell? ⟨w.heap.size + 1, 2, none⟩ = some (.string e.d.room) ∧ W.cell? ⟨R, 0, none⟩ = some (.string e.d.room) ∧ Hid (∀ j, j < e.cells.size → W.cell? ⟨w.heap.size + 1, 0 + j, none⟩ = e.cells[j]?) := fun W hW =>
    have h1 : W.heap[w.heap.size + 1]? = some (.cells e.cells 38 (0, 0)) := (hW.blocks _ (box_lt hb1)).trans hb1
    ⟨hW.keep hb0, by simp only [World.cell?, h1]; rfl, by simp only [World.cell?, h1]; rfl, hW.keep (hf0.keep hr0), fun j hj => by simp only [World.cell?, h1, Nat.zero_add]; simp⟩
  have HS := Lib.hid hS
  have hnd : ∀ W, Fresh W0 W → Calls Tryz.prog 24 #[.agg e.cells] W fun r w' => ∃ v', r = .returned v' ∧ StrSl w' col v' (e.d.prev ++ e.d.auth) ∧ Fresh W w' := fun W hW => needs_any e col W (hcol.fresh (fcomp hf0 hW)) (He.out.fresh (fcomp hf0 hW))
  have Hnd := Lib.hid hnd
  clear hS hb0 hb1 hf0 hnd hr0
  refine wp_region_held_drew (S := fun W => W.cell? ⟨w.heap.size, 0, none⟩ = some (.pointer (some ⟨R, 0, none⟩)) ∧ W.cell? ⟨w.heap.size + 1, 0, none⟩ = some (.string e.d.id) ∧ W.cell? ⟨w.heap.size + 1, 2, none⟩ = some (.string e.d.room) ∧ W.cell? ⟨R, 0, none⟩ = some (.string e.d.room) ∧ Hid (∀ j, j < e.cells.size → W.cell? ⟨w.heap.size + 1, 0 + j, none⟩ = e.cells[j]?)) (by kernel_rfl) ?_ (fun hHeld => ?_)
  · exact HS.out _ (Fresh.rfl' W0).drew
  refine wpAnyH_take (i := 0) (oi := { dst := some 13, op := .fieldAddr 38 (.tmp 3) 0, type := 0, pos := "dag.go:85", after := #[], guard := none }) (v := ?_) rfl (by kernel_rfl) (by kernel_rfl) (by kernel_rfl) (fun _ _ _ h => h) (Or.inl ⟨by rfl, ?_⟩) (by assumption) ?_
  rotate_left 1
  · intro W hSw
    obtain ⟨s1, s2, s3, s4, s5⟩ := hSw
    go_simp
    try with_reducible rfl
  try simp only [Act.put, List.setIfInBounds_toArray, List.set_cons_zero, List.set_cons_succ]
  refine wpAnyH_take (i := 1) (oi := { dst := some 14, op := .load 9 (.tmp 13), type := 9, pos := "dag.go:85", after := #[{ on := 0, ground := .data }], guard := none }) (v := ?_) rfl (by kernel_rfl) (by kernel_rfl) (by kernel_rfl) (fun _ _ _ h => h) (Or.inl ⟨by rfl, ?_⟩) (by assumption) ?_
  rotate_left 1
  · intro W hSw
    obtain ⟨s1, s2, s3, s4, s5⟩ := hSw
    go_simp
    try with_reducible rfl
  try simp only [Act.put, List.setIfInBounds_toArray, List.set_cons_zero, List.set_cons_succ]
  refine wpAnyH_take (i := 2) (oi := { dst := some 15, op := .binOp Go.BinOp.eql 9 (.tmp 14) (.const (Go.Value.string { data := #[] })) 9, type := 4, pos := "dag.go:85", after := #[{ on := 1, ground := .data }], guard := none }) (v := ?_) rfl (by kernel_rfl) (by kernel_rfl) (by kernel_rfl) (fun _ _ _ h => h) (Or.inl ⟨by rfl, ?_⟩) (by assumption) ?_
  rotate_left 1
  · intro W hSw
    obtain ⟨s1, s2, s3, s4, s5⟩ := hSw
    go_simp
    try with_reducible rfl
  try simp only [Act.put, List.setIfInBounds_toArray, List.set_cons_zero, List.set_cons_succ]
  refine wpAnyH_take (i := 3) (oi := { dst := some 16, op := .move (.tmp 15), type := 4, pos := "dag.go:85", after := #[{ on := 2, ground := .data }], guard := none }) (v := ?_) rfl (by kernel_rfl) (by kernel_rfl) (by kernel_rfl) (fun _ _ _ h => h) (Or.inl ⟨by rfl, ?_⟩) (by assumption) ?_
  rotate_left 1
  · intro W hSw
    obtain ⟨s1, s2, s3, s4, s5⟩ := hSw
    go_simp
    try with_reducible rfl
  try simp only [Act.put, List.setIfInBounds_toArray, List.set_cons_zero, List.set_cons_succ]
  refine wpAnyH_take (i := 4) (oi := { dst := some 17, op := .fieldAddr 38 (.tmp 3) 2, type := 0, pos := "dag.go:85", after := #[{ on := 3, ground := .guard }], guard := some (3, false) }) (v := ?_) rfl (by kernel_rfl) (by kernel_rfl) (by kernel_rfl) (fun _ _ _ h => h) (Or.inl ⟨by rfl, ?_⟩) (by assumption) ?_
  rotate_left 1
  · intro W hSw
    obtain ⟨s1, s2, s3, s4, s5⟩ := hSw
    go_simp
    try with_reducible rfl
  try simp only [Act.put, List.setIfInBounds_toArray, List.set_cons_zero, List.set_cons_succ]
  refine wpAnyH_take (i := 5) (oi := { dst := some 18, op := .load 9 (.tmp 17), type := 9, pos := "dag.go:85", after := #[{ on := 4, ground := .data }, { on := 3, ground := .guard }], guard := some (3, false) }) (v := ?_) rfl (by kernel_rfl) (by kernel_rfl) (by kernel_rfl) (fun _ _ _ h => h) (Or.inl ⟨by rfl, ?_⟩) (by assumption) ?_
  rotate_left 1
  · intro W hSw
    obtain ⟨s1, s2, s3, s4, s5⟩ := hSw
    go_simp
    try with_reducible rfl
  try simp only [Act.put, List.setIfInBounds_toArray, List.set_cons_zero, List.set_cons_succ]
  refine wpAnyH_take (i := 6) (oi := { dst := some 19, op := .load 23 (.tmp 2), type := 23, pos := "dag.go:85", after := #[{ on := 3, ground := .guard }], guard := some (3, false) }) (v := ?_) rfl (by kernel_rfl) (by kernel_rfl) (by kernel_rfl) (fun _ _ _ h => h) (Or.inl ⟨by rfl, ?_⟩) (by assumption) ?_
  rotate_left 1
  · intro W hSw
    obtain ⟨s1, s2, s3, s4, s5⟩ := hSw
    go_simp
    try with_reducible rfl
  try simp only [Act.put, List.setIfInBounds_toArray, List.set_cons_zero, List.set_cons_succ]
  refine wpAnyH_take (i := 7) (oi := { dst := some 20, op := .nilCheck (.tmp 19), type := 0, pos := "dag.go:85", after := #[{ on := 6, ground := .data }, { on := 3, ground := .guard }], guard := some (3, false) }) (v := ?_) rfl (by kernel_rfl) (by kernel_rfl) (by kernel_rfl) (fun _ _ _ h => h) (Or.inl ⟨by rfl, ?_⟩) (by assumption) ?_
  rotate_left 1
  · intro W hSw
    obtain ⟨s1, s2, s3, s4, s5⟩ := hSw
    go_simp
    try with_reducible rfl
  try simp only [Act.put, List.setIfInBounds_toArray, List.set_cons_zero, List.set_cons_succ]
  refine wpAnyH_take (i := 8) (oi := { dst := some 21, op := .fieldAddr 60 (.tmp 20) 0, type := 0, pos := "dag.go:85", after := #[{ on := 7, ground := .data }, { on := 3, ground := .guard }], guard := some (3, false) }) (v := ?_) rfl (by kernel_rfl) (by kernel_rfl) (by kernel_rfl) (fun _ _ _ h => h) (Or.inl ⟨by rfl, ?_⟩) (by assumption) ?_
  rotate_left 1
  · intro W hSw
    obtain ⟨s1, s2, s3, s4, s5⟩ := hSw
    go_simp
    try with_reducible rfl
  try simp only [Act.put, List.setIfInBounds_toArray, List.set_cons_zero, List.set_cons_succ]
  refine wpAnyH_take (i := 9) (oi := { dst := some 22, op := .load 9 (.tmp 21), type := 9, pos := "dag.go:85", after := #[{ on := 8, ground := .data }, { on := 3, ground := .guard }], guard := some (3, false) }) (v := ?_) rfl (by kernel_rfl) (by kernel_rfl) (by kernel_rfl) (fun _ _ _ h => h) (Or.inl ⟨by rfl, ?_⟩) (by assumption) ?_
  rotate_left 1
  · intro W hSw
    obtain ⟨s1, s2, s3, s4, s5⟩ := hSw
    go_simp
    try with_reducible rfl
  try simp only [Act.put, List.setIfInBounds_toArray, List.set_cons_zero, List.set_cons_succ]
  refine wpAnyH_take (i := 10) (oi := { dst := some 23, op := .binOp Go.BinOp.neq 9 (.tmp 18) (.tmp 22) 9, type := 4, pos := "dag.go:85", after := #[{ on := 5, ground := .data }, { on := 9, ground := .data }, { on := 3, ground := .guard }], guard := some (3, false) }) (v := ?_) rfl (by kernel_rfl) (by kernel_rfl) (by kernel_rfl) (fun _ _ _ h => h) (Or.inl ⟨by rfl, ?_⟩) (by assumption) ?_
  rotate_left 1
  · intro W hSw
    obtain ⟨s1, s2, s3, s4, s5⟩ := hSw
    go_simp
    try with_reducible rfl
  try simp only [Act.put, List.setIfInBounds_toArray, List.set_cons_zero, List.set_cons_succ]
  refine wpAnyH_take (i := 11) (oi := { dst := some 24, op := .pick (.tmp 16) (.const (Go.Value.bool true)) (.tmp 23), type := 4, pos := "dag.go:85", after := #[{ on := 3, ground := .data }, { on := 10, ground := .data }], guard := none }) (v := ?_) rfl (by kernel_rfl) (by kernel_rfl) (by kernel_rfl) (fun _ _ _ h => h) (Or.inl ⟨by rfl, ?_⟩) (by assumption) ?_
  rotate_left 1
  · intro W hSw
    obtain ⟨s1, s2, s3, s4, s5⟩ := hSw
    go_simp
    try with_reducible rfl
  try simp only [Act.put, List.setIfInBounds_toArray, List.set_cons_zero, List.set_cons_succ]
  refine wpAnyH_take (i := 12) (oi := { dst := some 25, op := .move (.tmp 24), type := 4, pos := "dag.go:85", after := #[{ on := 11, ground := .data }, { on := 3, ground := .chain }], guard := none }) (v := ?_) rfl (by kernel_rfl) (by kernel_rfl) (by kernel_rfl) (fun _ _ _ h => h) (Or.inl ⟨by rfl, ?_⟩) (by assumption) ?_
  rotate_left 1
  · intro W hSw
    obtain ⟨s1, s2, s3, s4, s5⟩ := hSw
    go_simp
    try with_reducible rfl
  try simp only [Act.put, List.setIfInBounds_toArray, List.set_cons_zero, List.set_cons_succ]
  refine wpAnyH_take (i := 13) (oi := { dst := some 26, op := .load 38 (.tmp 3), type := 38, pos := "dag.go:85", after := #[{ on := 12, ground := .guard }], guard := some (12, false) }) (v := .agg e.cells) rfl (by kernel_rfl) (by kernel_rfl) (by kernel_rfl) (fun _ _ _ h => h)
    (yieldsIf_load_cells (by rfl) 38 (.tmp 3) rfl (w.heap.size + 1) 0 rfl e.cells (fun W hW => hW.2.2.2.2.out) _ Tryz.underlying38 rfl info38s) (by assumption) ?_
  try simp only [Act.put, List.setIfInBounds_toArray, List.set_cons_zero, List.set_cons_succ]
  refine wpAnyH_take (i := 15) (oi := { dst := some 28, op := .fieldAddr 38 (.tmp 3) 0, type := 0, pos := "dag.go:85", after := #[{ on := 12, ground := .guard }], guard := some (12, false) }) (v := ?_) rfl (by kernel_rfl) (by kernel_rfl) (by kernel_rfl) (fun _ _ _ h => h) (Or.inl ⟨by rfl, ?_⟩) (by assumption) ?_
  rotate_left 1
  · intro W hSw
    obtain ⟨s1, s2, s3, s4, s5⟩ := hSw
    go_simp
    try with_reducible rfl
  try simp only [Act.put, List.setIfInBounds_toArray, List.set_cons_zero, List.set_cons_succ]
  refine wpAnyH_take (i := 16) (oi := { dst := some 29, op := .load 9 (.tmp 28), type := 9, pos := "dag.go:85", after := #[{ on := 15, ground := .data }, { on := 12, ground := .guard }], guard := some (12, false) }) (v := ?_) rfl (by kernel_rfl) (by kernel_rfl) (by kernel_rfl) (fun _ _ _ h => h) (Or.inl ⟨by rfl, ?_⟩) (by assumption) ?_
  rotate_left 1
  · intro W hSw
    obtain ⟨s1, s2, s3, s4, s5⟩ := hSw
    go_simp
    try with_reducible rfl
  try simp only [Act.put, List.setIfInBounds_toArray, List.set_cons_zero, List.set_cons_succ]
  refine wpAnyH_ready (rs := [14]) (by kernel_rfl) (by simp) ?_
  refine AllReadyH.cons (o := { dst := some 27, op := .call { callee := Go.Callee.value (.func 24), args := #[.tmp 26], argTypes := #[38] }, type := 30, pos := "dag.go:85", after := #[{ on := 13, ground := .data }, { on := 12, ground := .chain }, { on := 12, ground := .guard }], guard := some (12, false) }) rfl (fun K hK => ?_) AllReadyH.nil
  go_simp
  go_at_call 24
  refine (Hnd.out _ (Fresh.rfl' W0).drew).mono ?_
  rintro x1 w1 ⟨v1, rfl, hv1, hf1⟩
  have HF1 : Hid (Fresh W0 w1) := hf1.ofDrew
  have hcn := contains_str v1 _ e.d.id col w1 hv1
  rw [Hself.out] at hcn
  have Hcn := Lib.hid hcn
  clear hf1 hv1 hcn
  try dsimp only
  refine hK.out _ _ (HS.out _ HF1.out) (fun hHeld => ?_)
  clear hK K
  try simp only [Act.put, List.setIfInBounds_toArray, List.set_cons_zero, List.set_cons_succ]
  refine wpAnyH_ready (rs := [17]) (by kernel_rfl) (by simp) ?_
  refine AllReadyH.cons (o := { dst := some 30, op := .call { callee := Go.Callee.value (.func 23), args := #[.tmp 27, .tmp 29], argTypes := #[30, 9] }, type := 4, pos := "dag.go:85", after := #[{ on := 14, ground := .data }, { on := 16, ground := .data }, { on := 14, ground := .chain }, { on := 12, ground := .guard }], guard := some (12, false) }) rfl (fun K hK => ?_) AllReadyH.nil
  go_simp
  go_at_call 23
  refine Hcn.out.mono ?_
  rintro x2 w2 ⟨rfl, rfl⟩
  try dsimp only
  refine hK.out _ _ (HS.out _ HF1.out) (fun hHeld => ?_)
  clear hK K
  try simp only [Act.put, List.setIfInBounds_toArray, List.set_cons_zero, List.set_cons_succ]
  refine wpAnyH_take (i := 18) (oi := { dst := some 31, op := .pick (.tmp 25) (.const (Go.Value.bool true)) (.tmp 30), type := 4, pos := "dag.go:85", after := #[{ on := 12, ground := .data }, { on := 17, ground := .data }], guard := none }) (v := ?_) rfl (by kernel_rfl) (by kernel_rfl) (by kernel_rfl) (fun _ _ _ h => h) (Or.inl ⟨by rfl, ?_⟩) (by assumption) ?_
  rotate_left 1
  · intro W hSw
    obtain ⟨s1, s2, s3, s4, s5⟩ := hSw
    go_simp
    try with_reducible rfl
  try simp only [Act.put, List.setIfInBounds_toArray, List.set_cons_zero, List.set_cons_succ]
  refine wpAnyH_take (i := 19) (oi := { dst := some 12, op := .assign (.tmp 31), type := 4, pos := "dag.go:85", after := #[{ on := 18, ground := .data }, { on := 17, ground := .chain }], guard := none }) (v := ?_) rfl (by kernel_rfl) (by kernel_rfl) (by kernel_rfl) (fun _ _ _ h => h) (Or.inl ⟨by rfl, ?_⟩) (by assumption) ?_
  rotate_left 1
  · intro W hSw
    obtain ⟨s1, s2, s3, s4, s5⟩ := hSw
    go_simp
    try with_reducible rfl
  try simp only [Act.put, List.setIfInBounds_toArray, List.set_cons_zero, List.set_cons_succ]
  refine wpAnyH_done (by kernel_rfl) ?_ _
  clear Hcn Hnd Hself hn1 hn2
  go_wp2_with fail
  have hlk := look_node (HH.out.fresh (fcomp HF0.out HF1.out.drew)) e.d.id
  rw [Hn.out] at hlk
  dsimp only at hlk
  have hS3 := HS.out _ HF1.out.drew
  have c0 := hS3.1; have c1 := hS3.2.1
  have cR := (HH.out.fresh (fcomp HF0.out HF1.out.drew)).c1
  clear hS3
  refine wp_region_still_tail 8 (by kernel_rfl) (by kernel_rfl) ?_
  simp only [List.take_succ_cons, List.take_zero, List.drop_succ_cons, List.drop_zero]
  iterate 8 still_step
  refine wpStill_nil ?_
  go_wp2_with fail
  go_ret3
  exact ⟨rfl, fcomp HF0.out HF1.out.drew⟩
end Go.Proofs.YtmjclmmiljlahaaGreat

set_option linter.unusedVariables false
set_option linter.unusedSimpArgs false
namespace Go.Proofs.YtmjclmmiljlahaaGreat
open Go.RowKit

set_option maxRecDepth 10000 in
set_option maxHeartbeats 3200000 in
/-- Take, of an event that is not ready, where 64 wait. -/
theorem take_full {w : World} {col : Col} {k R : Nat} {r : Rm} (h : RmIs w col k R r) (hcol : Std w col) (e : EV) (he : EvIs w col e) (hid : e.d.id ≠ ⟨#[]⟩) (hroom : e.d.room = r.name) (hself : (e.d.prev ++ e.d.auth).any (fun x => decide (e.d.id = x)) = false) (hnone : r.find e.d.id = none) (hrd : readyF r e.d = false) (hns : r.ns.length < 4096) (hfull : 64 ≤ r.staged.length) :
    Calls Tryz.prog 8 #[.pointer (some ⟨R, 0, none⟩), evV e] w fun x w' => x = .returned (.tuple #[.int .i64 0, .slice none 0 0, codeErr 12]) ∧ Fresh w w' := by
  have hn1 : (e.d.id.toList == []) = false := by rw [beq_lit]; exact decide_eq_false hid
  have hn2 : e.d.id.toList.isEmpty = false := by rw [empty_iff]; exact decide_eq_false hid
  have hr0 : w.cell? ⟨R, 0, none⟩ = some (.string e.d.room) := by rw [hroom]; exact h.c0
  have hRl := h.lt
  have HH := Lib.hid h; have He := Lib.hid he; have Hself := Lib.hid hself; have Hid' := Lib.hid hid
  have Hn := Lib.hid hnone; have Hrd := Lib.hid hrd; have Hns := Lib.hid hns; have Hfull := Lib.hid hfull
  clear h he hself hid hroom hnone hrd hns hfull
  dsimp only [evV]
  go_enter Tryz.func8, Tryz.ntmps8
  go_wp2_with fail
  refine hideWorld _ (fun W => W.cell? ⟨w.heap.size, 0, none⟩ = some (.pointer (some ⟨R, 0, none⟩)) ∧ W.heap[w.heap.size + 1]? = some (.cells e.cells 38 (0, 0)) ∧ Fresh w W) _ ⟨by go_simp, heap_alloc_at (by simp), ((Fresh.rfl' w).alloc (Nat.le_refl _) _).alloc (by simp) _⟩ ?_
  rintro W0 ⟨hb0, hb1, hf0⟩
  have HF0 := Lib.hid hf0
  have hS : ∀ W, Fresh W0 W → W.cell? ⟨w.heap.size, 0, none⟩ = some (.pointer (some ⟨R, 0, none⟩)) ∧ W.cell? ⟨w.heap.size + 1, 0, none⟩ = some (.string e.d.id) ∧ W.cell? ⟨w.heap.size + 1, 2, none⟩ = some (.string e.d.room) ∧ W.cell? ⟨R, 0, none⟩ = some (.string e.d.room) ∧ Hid (∀ j, j < e.cells.size → W.cell? ⟨w.heap.size + 1, 0 + j, none⟩ = e.cells[j]?) := fun W hW =>
    have h1 : W.heap[w.heap.size + 1]? = some (.cells e.cells 38 (0, 0)) := (hW.blocks _ (box_lt hb1)).trans hb1
    ⟨hW.keep hb0, by simp only [World.cell?, h1]; rfl, by simp only [World.cell?, h1]; rfl, hW.keep (hf0.keep hr0), fun j hj => by simp only [World.cell?, h1, Nat.zero_add]; simp⟩
  have HS := Lib.hid hS
  have hnd : ∀ W, Fresh W0 W → Calls Tryz.prog 24 #[.agg e.cells] W fun r w' => ∃ v', r = .returned v' ∧ StrSl w' col v' (e.d.prev ++ e.d.auth) ∧ Fresh W w' := fun W hW => needs_any e col W (hcol.fresh (fcomp hf0 hW)) (He.out.fresh (fcomp hf0 hW))
  have Hnd := Lib.hid hnd
  clear hS hb0 hb1 hf0 hnd hr0
  refine wp_region_held_drew (S := fun W => W.cell? ⟨w.heap.size, 0, none⟩ = some (.pointer (some ⟨R, 0, none⟩)) ∧ W.cell? ⟨w.heap.size + 1, 0, none⟩ = some (.string e.d.id) ∧ W.cell? ⟨w.heap.size + 1, 2, none⟩ = some (.string e.d.room) ∧ W.cell? ⟨R, 0, none⟩ = some (.string e.d.room) ∧ Hid (∀ j, j < e.cells.size → W.cell? ⟨w.heap.size + 1, 0 + j, none⟩ = e.cells[j]?)) (by kernel_rfl) ?_ (fun hHeld => ?_)
  · exact HS.out _ (Fresh.rfl' W0).drew
  refine wpAnyH_take (i := 0) (oi := { dst := some 13, op := .fieldAddr 38 (.tmp 3) 0, type := 0, pos := "dag.go:85", after := #[], guard := none }) (v := ?_) rfl (by kernel_rfl) (by kernel_rfl) (by kernel_rfl) (fun _ _ _ h => h) (Or.inl ⟨by rfl, ?_⟩) (by assumption) ?_
  rotate_left 1
  · intro W hSw
    obtain ⟨s1, s2, s3, s4, s5⟩ := hSw
    go_simp
    try with_reducible rfl
  try simp only [Act.put, List.setIfInBounds_toArray, List.set_cons_zero, List.set_cons_succ]
  refine wpAnyH_take (i := 1) (oi := { dst := some 14, op := .load 9 (.tmp 13), type := 9, pos := "dag.go:85", after := #[{ on := 0, ground := .data }], guard := none }) (v := ?_) rfl (by kernel_rfl) (by kernel_rfl) (by kernel_rfl) (fun _ _ _ h => h) (Or.inl ⟨by rfl, ?_⟩) (by assumption) ?_
  rotate_left 1
  · intro W hSw
    obtain ⟨s1, s2, s3, s4, s5⟩ := hSw
    go_simp
    try with_reducible rfl
  try simp only [Act.put, List.setIfInBounds_toArray, List.set_cons_zero, List.set_cons_succ]
  refine wpAnyH_take (i := 2) (oi := { dst := some 15, op := .binOp Go.BinOp.eql 9 (.tmp 14) (.const (Go.Value.string { data := #[] })) 9, type := 4, pos := "dag.go:85", after := #[{ on := 1, ground := .data }], guard := none }) (v := ?_) rfl (by kernel_rfl) (by kernel_rfl) (by kernel_rfl) (fun _ _ _ h => h) (Or.inl ⟨by rfl, ?_⟩) (by assumption) ?_
  rotate_left 1
  · intro W hSw
    obtain ⟨s1, s2, s3, s4, s5⟩ := hSw
    go_simp
    try with_reducible rfl
  try simp only [Act.put, List.setIfInBounds_toArray, List.set_cons_zero, List.set_cons_succ]
  refine wpAnyH_take (i := 3) (oi := { dst := some 16, op := .move (.tmp 15), type := 4, pos := "dag.go:85", after := #[{ on := 2, ground := .data }], guard := none }) (v := ?_) rfl (by kernel_rfl) (by kernel_rfl) (by kernel_rfl) (fun _ _ _ h => h) (Or.inl ⟨by rfl, ?_⟩) (by assumption) ?_
  rotate_left 1
  · intro W hSw
    obtain ⟨s1, s2, s3, s4, s5⟩ := hSw
    go_simp
    try with_reducible rfl
  try simp only [Act.put, List.setIfInBounds_toArray, List.set_cons_zero, List.set_cons_succ]
  refine wpAnyH_take (i := 4) (oi := { dst := some 17, op := .fieldAddr 38 (.tmp 3) 2, type := 0, pos := "dag.go:85", after := #[{ on := 3, ground := .guard }], guard := some (3, false) }) (v := ?_) rfl (by kernel_rfl) (by kernel_rfl) (by kernel_rfl) (fun _ _ _ h => h) (Or.inl ⟨by rfl, ?_⟩) (by assumption) ?_
  rotate_left 1
  · intro W hSw
    obtain ⟨s1, s2, s3, s4, s5⟩ := hSw
    go_simp
    try with_reducible rfl
  try simp only [Act.put, List.setIfInBounds_toArray, List.set_cons_zero, List.set_cons_succ]
  refine wpAnyH_take (i := 5) (oi := { dst := some 18, op := .load 9 (.tmp 17), type := 9, pos := "dag.go:85", after := #[{ on := 4, ground := .data }, { on := 3, ground := .guard }], guard := some (3, false) }) (v := ?_) rfl (by kernel_rfl) (by kernel_rfl) (by kernel_rfl) (fun _ _ _ h => h) (Or.inl ⟨by rfl, ?_⟩) (by assumption) ?_
  rotate_left 1
  · intro W hSw
    obtain ⟨s1, s2, s3, s4, s5⟩ := hSw
    go_simp
    try with_reducible rfl
  try simp only [Act.put, List.setIfInBounds_toArray, List.set_cons_zero, List.set_cons_succ]
  refine wpAnyH_take (i := 6) (oi := { dst := some 19, op := .load 23 (.tmp 2), type := 23, pos := "dag.go:85", after := #[{ on := 3, ground := .guard }], guard := some (3, false) }) (v := ?_) rfl (by kernel_rfl) (by kernel_rfl) (by kernel_rfl) (fun _ _ _ h => h) (Or.inl ⟨by rfl, ?_⟩) (by assumption) ?_
  rotate_left 1
  · intro W hSw
    obtain ⟨s1, s2, s3, s4, s5⟩ := hSw
    go_simp
    try with_reducible rfl
  try simp only [Act.put, List.setIfInBounds_toArray, List.set_cons_zero, List.set_cons_succ]
  refine wpAnyH_take (i := 7) (oi := { dst := some 20, op := .nilCheck (.tmp 19), type := 0, pos := "dag.go:85", after := #[{ on := 6, ground := .data }, { on := 3, ground := .guard }], guard := some (3, false) }) (v := ?_) rfl (by kernel_rfl) (by kernel_rfl) (by kernel_rfl) (fun _ _ _ h => h) (Or.inl ⟨by rfl, ?_⟩) (by assumption) ?_
  rotate_left 1
  · intro W hSw
    obtain ⟨s1, s2, s3, s4, s5⟩ := hSw
    go_simp
    try with_reducible rfl
  try simp only [Act.put, List.setIfInBounds_toArray, List.set_cons_zero, List.set_cons_succ]
  refine wpAnyH_take (i := 8) (oi := { dst := some 21, op := .fieldAddr 60 (.tmp 20) 0, type := 0, pos := "dag.go:85", after := #[{ on := 7, ground := .data }, { on := 3, ground := .guard }], guard := some (3, false) }) (v := ?_) rfl (by kernel_rfl) (by kernel_rfl) (by kernel_rfl) (fun _ _ _ h => h) (Or.inl ⟨by rfl, ?_⟩) (by assumption) ?_
  rotate_left 1
  · intro W hSw
    obtain ⟨s1, s2, s3, s4, s5⟩ := hSw
    go_simp
    try with_reducible rfl
  try simp only [Act.put, List.setIfInBounds_toArray, List.set_cons_zero, List.set_cons_succ]
  refine wpAnyH_take (i := 9) (oi := { dst := some 22, op := .load 9 (.tmp 21), type := 9, pos := "dag.go:85", after := #[{ on := 8, ground := .data }, { on := 3, ground := .guard }], guard := some (3, false) }) (v := ?_) rfl (by kernel_rfl) (by kernel_rfl) (by kernel_rfl) (fun _ _ _ h => h) (Or.inl ⟨by rfl, ?_⟩) (by assumption) ?_
  rotate_left 1
  · intro W hSw
    obtain ⟨s1, s2, s3, s4, s5⟩ := hSw
    go_simp
    try with_reducible rfl
  try simp only [Act.put, List.setIfInBounds_toArray, List.set_cons_zero, List.set_cons_succ]
  refine wpAnyH_take (i := 10) (oi := { dst := some 23, op := .binOp Go.BinOp.neq 9 (.tmp 18) (.tmp 22) 9, type := 4, pos := "dag.go:85", after := #[{ on := 5, ground := .data }, { on := 9, ground := .data }, { on := 3, ground := .guard }], guard := some (3, false) }) (v := ?_) rfl (by kernel_rfl) (by kernel_rfl) (by kernel_rfl) (fun _ _ _ h => h) (Or.inl ⟨by rfl, ?_⟩) (by assumption) ?_
  rotate_left 1
  · intro W hSw
    obtain ⟨s1, s2, s3, s4, s5⟩ := hSw
    go_simp
    try with_reducible rfl
  try simp only [Act.put, List.setIfInBounds_toArray, List.set_cons_zero, List.set_cons_succ]
  refine wpAnyH_take (i := 11) (oi := { dst := some 24, op := .pick (.tmp 16) (.const (Go.Value.bool true)) (.tmp 23), type := 4, pos := "dag.go:85", after := #[{ on := 3, ground := .data }, { on := 10, ground := .data }], guard := none }) (v := ?_) rfl (by kernel_rfl) (by kernel_rfl) (by kernel_rfl) (fun _ _ _ h => h) (Or.inl ⟨by rfl, ?_⟩) (by assumption) ?_
  rotate_left 1
  · intro W hSw
    obtain ⟨s1, s2, s3, s4, s5⟩ := hSw
    go_simp
    try with_reducible rfl
  try simp only [Act.put, List.setIfInBounds_toArray, List.set_cons_zero, List.set_cons_succ]
  refine wpAnyH_take (i := 12) (oi := { dst := some 25, op := .move (.tmp 24), type := 4, pos := "dag.go:85", after := #[{ on := 11, ground := .data }, { on := 3, ground := .chain }], guard := none }) (v := ?_) rfl (by kernel_rfl) (by kernel_rfl) (by kernel_rfl) (fun _ _ _ h => h) (Or.inl ⟨by rfl, ?_⟩) (by assumption) ?_
  rotate_left 1
  · intro W hSw
    obtain ⟨s1, s2, s3, s4, s5⟩ := hSw
    go_simp
    try with_reducible rfl
  try simp only [Act.put, List.setIfInBounds_toArray, List.set_cons_zero, List.set_cons_succ]
  refine wpAnyH_take (i := 13) (oi := { dst := some 26, op := .load 38 (.tmp 3), type := 38, pos := "dag.go:85", after := #[{ on := 12, ground := .guard }], guard := some (12, false) }) (v := .agg e.cells) rfl (by kernel_rfl) (by kernel_rfl) (by kernel_rfl) (fun _ _ _ h => h)
    (yieldsIf_load_cells (by rfl) 38 (.tmp 3) rfl (w.heap.size + 1) 0 rfl e.cells (fun W hW => hW.2.2.2.2.out) _ Tryz.underlying38 rfl info38s) (by assumption) ?_
  try simp only [Act.put, List.setIfInBounds_toArray, List.set_cons_zero, List.set_cons_succ]
  refine wpAnyH_take (i := 15) (oi := { dst := some 28, op := .fieldAddr 38 (.tmp 3) 0, type := 0, pos := "dag.go:85", after := #[{ on := 12, ground := .guard }], guard := some (12, false) }) (v := ?_) rfl (by kernel_rfl) (by kernel_rfl) (by kernel_rfl) (fun _ _ _ h => h) (Or.inl ⟨by rfl, ?_⟩) (by assumption) ?_
  rotate_left 1
  · intro W hSw
    obtain ⟨s1, s2, s3, s4, s5⟩ := hSw
    go_simp
    try with_reducible rfl
  try simp only [Act.put, List.setIfInBounds_toArray, List.set_cons_zero, List.set_cons_succ]
  refine wpAnyH_take (i := 16) (oi := { dst := some 29, op := .load 9 (.tmp 28), type := 9, pos := "dag.go:85", after := #[{ on := 15, ground := .data }, { on := 12, ground := .guard }], guard := some (12, false) }) (v := ?_) rfl (by kernel_rfl) (by kernel_rfl) (by kernel_rfl) (fun _ _ _ h => h) (Or.inl ⟨by rfl, ?_⟩) (by assumption) ?_
  rotate_left 1
  · intro W hSw
    obtain ⟨s1, s2, s3, s4, s5⟩ := hSw
    go_simp
    try with_reducible rfl
  try simp only [Act.put, List.setIfInBounds_toArray, List.set_cons_zero, List.set_cons_succ]
  refine wpAnyH_ready (rs := [14]) (by kernel_rfl) (by simp) ?_
  refine AllReadyH.cons (o := { dst := some 27, op := .call { callee := Go.Callee.value (.func 24), args := #[.tmp 26], argTypes := #[38] }, type := 30, pos := "dag.go:85", after := #[{ on := 13, ground := .data }, { on := 12, ground := .chain }, { on := 12, ground := .guard }], guard := some (12, false) }) rfl (fun K hK => ?_) AllReadyH.nil
  go_simp
  go_at_call 24
  refine (Hnd.out _ (Fresh.rfl' W0).drew).mono ?_
  rintro x1 w1 ⟨v1, rfl, hv1, hf1⟩
  have HF1 : Hid (Fresh W0 w1) := hf1.ofDrew
  have hcn := contains_str v1 _ e.d.id col w1 hv1
  rw [Hself.out] at hcn
  have Hcn := Lib.hid hcn
  clear hf1 hv1 hcn
  try dsimp only
  refine hK.out _ _ (HS.out _ HF1.out) (fun hHeld => ?_)
  clear hK K
  try simp only [Act.put, List.setIfInBounds_toArray, List.set_cons_zero, List.set_cons_succ]
  refine wpAnyH_ready (rs := [17]) (by kernel_rfl) (by simp) ?_
  refine AllReadyH.cons (o := { dst := some 30, op := .call { callee := Go.Callee.value (.func 23), args := #[.tmp 27, .tmp 29], argTypes := #[30, 9] }, type := 4, pos := "dag.go:85", after := #[{ on := 14, ground := .data }, { on := 16, ground := .data }, { on := 14, ground := .chain }, { on := 12, ground := .guard }], guard := some (12, false) }) rfl (fun K hK => ?_) AllReadyH.nil
  go_simp
  go_at_call 23
  refine Hcn.out.mono ?_
  rintro x2 w2 ⟨rfl, rfl⟩
  try dsimp only
  refine hK.out _ _ (HS.out _ HF1.out) (fun hHeld => ?_)
  clear hK K
  try simp only [Act.put, List.setIfInBounds_toArray, List.set_cons_zero, List.set_cons_succ]
  refine wpAnyH_take (i := 18) (oi := { dst := some 31, op := .pick (.tmp 25) (.const (Go.Value.bool true)) (.tmp 30), type := 4, pos := "dag.go:85", after := #[{ on := 12, ground := .data }, { on := 17, ground := .data }], guard := none }) (v := ?_) rfl (by kernel_rfl) (by kernel_rfl) (by kernel_rfl) (fun _ _ _ h => h) (Or.inl ⟨by rfl, ?_⟩) (by assumption) ?_
  rotate_left 1
  · intro W hSw
    obtain ⟨s1, s2, s3, s4, s5⟩ := hSw
    go_simp
    try with_reducible rfl
  try simp only [Act.put, List.setIfInBounds_toArray, List.set_cons_zero, List.set_cons_succ]
  refine wpAnyH_take (i := 19) (oi := { dst := some 12, op := .assign (.tmp 31), type := 4, pos := "dag.go:85", after := #[{ on := 18, ground := .data }, { on := 17, ground := .chain }], guard := none }) (v := ?_) rfl (by kernel_rfl) (by kernel_rfl) (by kernel_rfl) (fun _ _ _ h => h) (Or.inl ⟨by rfl, ?_⟩) (by assumption) ?_
  rotate_left 1
  · intro W hSw
    obtain ⟨s1, s2, s3, s4, s5⟩ := hSw
    go_simp
    try with_reducible rfl
  try simp only [Act.put, List.setIfInBounds_toArray, List.set_cons_zero, List.set_cons_succ]
  refine wpAnyH_done (by kernel_rfl) ?_ _
  clear Hcn Hnd Hself hn1 hn2
  go_wp2_with fail
  have hlk := look_node (HH.out.fresh (fcomp HF0.out HF1.out.drew)) e.d.id
  rw [Hn.out] at hlk
  dsimp only at hlk
  have hS3 := HS.out _ HF1.out.drew
  have c0 := hS3.1; have c1 := hS3.2.1
  have cR := (HH.out.fresh (fcomp HF0.out HF1.out.drew)).c1
  clear hS3
  refine wp_region_still_tail 8 (by kernel_rfl) (by kernel_rfl) ?_
  simp only [List.take_succ_cons, List.take_zero, List.drop_succ_cons, List.drop_zero]
  iterate 8 still_step
  refine wpStill_nil ?_
  go_wp2_with (with_reducible refine stop_op (.load 38 (.tmp 3)) rfl ?_)
  refine Stand.go ?_
  refine wpList_load_cells rfl 38 (.tmp 3) rfl (w.heap.size + 1) 0 rfl e.cells (HS.out _ HF1.out.drew).2.2.2.2.out _ Tryz.underlying38 rfl info38s ?_
  go_wp2_with fail
  refine (ready_any (HH.out.fresh (fcomp HF0.out HF1.out.drew)) e (hcol.fresh (fcomp HF0.out HF1.out.drew)) (He.out.fresh (fcomp HF0.out HF1.out.drew))).mono ?_
  rintro x3 w3 ⟨rfl, hf3⟩
  have HF3 : Hid (Fresh W0 w3) := fcomp HF1.out.drew hf3
  rw [Hrd.out]
  clear hlk c0 c1 cR hf3
  have hS3 := HS.out _ HF3.out
  have c0 := hS3.1; have c1 := hS3.2.1
  have HC := Lib.hid hS3
  have hst := own_len HH.out.rest.st.row
  have cR := (HH.out.fresh (fcomp HF0.out HF3.out)).c1
  have cR2 := (HH.out.fresh (fcomp HF0.out HF3.out)).c2
  rw [hst] at cR2
  have hns : ¬ ((4096 : Int) ≤ (r.ns.length : Int)) := by have := Hns.out; omega
  clear hS3 hst
  go_wp2_with (at_len; refine Stand.stop ?_)
  refine Stand.go ?_
  refine wpList_len_map rfl (.tmp 49) 57 9 63 rfl Tryz.underlying57 rfl (HH.out.fresh (fcomp HF0.out HF3.out)).rest.nodes r.ns.length (by simp) ?_
  have hfu : (64 : Int) ≤ (r.staged.length : Int) := by have := Hfull.out; omega
  go_wp2_with fail
  go_ret3
  exact ⟨rfl, fcomp HF0.out HF3.out⟩
end Go.Proofs.YtmjclmmiljlahaaGreat

set_option linter.unusedVariables false
set_option linter.unusedSimpArgs false
namespace Go.Proofs.YtmjclmmiljlahaaGreat
open Go.RowKit

theorem JSt.cell {w W : World} {col col' : Col} {k R : Nat} {r' : Rm} (h : JSt w col k R W col' r') {b o : Nat} {v : Value} (hc : w.cell? ⟨b, o, none⟩ = some v) (h0 : col b = 0) : W.cell? ⟨b, o, none⟩ = some v :=
  (cell_of_block (h.keep.block b (World.block_lt_of_cell? _ _ hc) (by rw [h0]; unfold outC; omega)) o).trans hc

set_option maxRecDepth 100000 in
set_option maxHeartbeats 3200000 in
/-- Take, of an event that is not ready: it waits. -/
theorem take_staged {w : World} {col : Col} {k R : Nat} {r : Rm} (h : RmIs w col k R r) (hcol : Std w col) (e : EV) (he : EvIs w col e) (hid : e.d.id ≠ ⟨#[]⟩) (hroom : e.d.room = r.name) (hself : (e.d.prev ++ e.d.auth).any (fun x => decide (e.d.id = x)) = false) (hnone : r.find e.d.id = none) (hrd : readyF r e.d = false) (hns : r.ns.length < 4096) (hroomy : r.staged.length < 64) :
    Calls Tryz.prog 8 #[.pointer (some ⟨R, 0, none⟩), evV e] w fun x w' => x = .returned (.tuple #[.int .i64 1, .slice none 0 0, .nilIface]) ∧ ∃ col' r', JSt w col k R w' col' r' ∧ r'.d = { r.d with ns := r.d.ns ++ [⟨e.d, 1, [], []⟩], staged := r.d.staged ++ [e.d.id] } := by
  have hn1 : (e.d.id.toList == []) = false := by rw [beq_lit]; exact decide_eq_false hid
  have hn2 : e.d.id.toList.isEmpty = false := by rw [empty_iff]; exact decide_eq_false hid
  have hr0 : w.cell? ⟨R, 0, none⟩ = some (.string e.d.room) := by rw [hroom]; exact h.c0
  have hRl := h.lt
  have HH := Lib.hid h; have He := Lib.hid he; have Hself := Lib.hid hself; have Hid' := Lib.hid hid
  have Hn := Lib.hid hnone; have Hrd := Lib.hid hrd; have Hns := Lib.hid hns; have Hroomy := Lib.hid hroomy
  clear h he hself hid hroom hnone hrd hns hroomy
  dsimp only [evV]
  go_enter Tryz.func8, Tryz.ntmps8
  go_wp2_with fail
  refine hideWorld _ (fun W => W.cell? ⟨w.heap.size, 0, none⟩ = some (.pointer (some ⟨R, 0, none⟩)) ∧ W.heap[w.heap.size + 1]? = some (.cells e.cells 38 (0, 0)) ∧ Fresh w W) _ ⟨by go_simp, heap_alloc_at (by simp), ((Fresh.rfl' w).alloc (Nat.le_refl _) _).alloc (by simp) _⟩ ?_
  rintro W0 ⟨hb0, hb1, hf0⟩
  have HF0 := Lib.hid hf0
  have hS : ∀ W, Fresh W0 W → W.cell? ⟨w.heap.size, 0, none⟩ = some (.pointer (some ⟨R, 0, none⟩)) ∧ W.cell? ⟨w.heap.size + 1, 0, none⟩ = some (.string e.d.id) ∧ W.cell? ⟨w.heap.size + 1, 2, none⟩ = some (.string e.d.room) ∧ W.cell? ⟨R, 0, none⟩ = some (.string e.d.room) ∧ Hid (∀ j, j < e.cells.size → W.cell? ⟨w.heap.size + 1, 0 + j, none⟩ = e.cells[j]?) := fun W hW =>
    have h1 : W.heap[w.heap.size + 1]? = some (.cells e.cells 38 (0, 0)) := (hW.blocks _ (box_lt hb1)).trans hb1
    ⟨hW.keep hb0, by simp only [World.cell?, h1]; rfl, by simp only [World.cell?, h1]; rfl, hW.keep (hf0.keep hr0), fun j hj => by simp only [World.cell?, h1, Nat.zero_add]; simp⟩
  have HS := Lib.hid hS
  have hnd : ∀ W, Fresh W0 W → Calls Tryz.prog 24 #[.agg e.cells] W fun r w' => ∃ v', r = .returned v' ∧ StrSl w' col v' (e.d.prev ++ e.d.auth) ∧ Fresh W w' := fun W hW => needs_any e col W (hcol.fresh (fcomp hf0 hW)) (He.out.fresh (fcomp hf0 hW))
  have Hnd := Lib.hid hnd
  clear hS hb0 hb1 hf0 hnd hr0
  refine wp_region_held_drew (S := fun W => W.cell? ⟨w.heap.size, 0, none⟩ = some (.pointer (some ⟨R, 0, none⟩)) ∧ W.cell? ⟨w.heap.size + 1, 0, none⟩ = some (.string e.d.id) ∧ W.cell? ⟨w.heap.size + 1, 2, none⟩ = some (.string e.d.room) ∧ W.cell? ⟨R, 0, none⟩ = some (.string e.d.room) ∧ Hid (∀ j, j < e.cells.size → W.cell? ⟨w.heap.size + 1, 0 + j, none⟩ = e.cells[j]?)) (by kernel_rfl) ?_ (fun hHeld => ?_)
  · exact HS.out _ (Fresh.rfl' W0).drew
  refine wpAnyH_take (i := 0) (oi := { dst := some 13, op := .fieldAddr 38 (.tmp 3) 0, type := 0, pos := "dag.go:85", after := #[], guard := none }) (v := ?_) rfl (by kernel_rfl) (by kernel_rfl) (by kernel_rfl) (fun _ _ _ h => h) (Or.inl ⟨by rfl, ?_⟩) (by assumption) ?_
  rotate_left 1
  · intro W hSw
    obtain ⟨s1, s2, s3, s4, s5⟩ := hSw
    go_simp
    try with_reducible rfl
  try simp only [Act.put, List.setIfInBounds_toArray, List.set_cons_zero, List.set_cons_succ]
  refine wpAnyH_take (i := 1) (oi := { dst := some 14, op := .load 9 (.tmp 13), type := 9, pos := "dag.go:85", after := #[{ on := 0, ground := .data }], guard := none }) (v := ?_) rfl (by kernel_rfl) (by kernel_rfl) (by kernel_rfl) (fun _ _ _ h => h) (Or.inl ⟨by rfl, ?_⟩) (by assumption) ?_
  rotate_left 1
  · intro W hSw
    obtain ⟨s1, s2, s3, s4, s5⟩ := hSw
    go_simp
    try with_reducible rfl
  try simp only [Act.put, List.setIfInBounds_toArray, List.set_cons_zero, List.set_cons_succ]
  refine wpAnyH_take (i := 2) (oi := { dst := some 15, op := .binOp Go.BinOp.eql 9 (.tmp 14) (.const (Go.Value.string { data := #[] })) 9, type := 4, pos := "dag.go:85", after := #[{ on := 1, ground := .data }], guard := none }) (v := ?_) rfl (by kernel_rfl) (by kernel_rfl) (by kernel_rfl) (fun _ _ _ h => h) (Or.inl ⟨by rfl, ?_⟩) (by assumption) ?_
  rotate_left 1
  · intro W hSw
    obtain ⟨s1, s2, s3, s4, s5⟩ := hSw
    go_simp
    try with_reducible rfl
  try simp only [Act.put, List.setIfInBounds_toArray, List.set_cons_zero, List.set_cons_succ]
  refine wpAnyH_take (i := 3) (oi := { dst := some 16, op := .move (.tmp 15), type := 4, pos := "dag.go:85", after := #[{ on := 2, ground := .data }], guard := none }) (v := ?_) rfl (by kernel_rfl) (by kernel_rfl) (by kernel_rfl) (fun _ _ _ h => h) (Or.inl ⟨by rfl, ?_⟩) (by assumption) ?_
  rotate_left 1
  · intro W hSw
    obtain ⟨s1, s2, s3, s4, s5⟩ := hSw
    go_simp
    try with_reducible rfl
  try simp only [Act.put, List.setIfInBounds_toArray, List.set_cons_zero, List.set_cons_succ]
  refine wpAnyH_take (i := 4) (oi := { dst := some 17, op := .fieldAddr 38 (.tmp 3) 2, type := 0, pos := "dag.go:85", after := #[{ on := 3, ground := .guard }], guard := some (3, false) }) (v := ?_) rfl (by kernel_rfl) (by kernel_rfl) (by kernel_rfl) (fun _ _ _ h => h) (Or.inl ⟨by rfl, ?_⟩) (by assumption) ?_
  rotate_left 1
  · intro W hSw
    obtain ⟨s1, s2, s3, s4, s5⟩ := hSw
    go_simp
    try with_reducible rfl
  try simp only [Act.put, List.setIfInBounds_toArray, List.set_cons_zero, List.set_cons_succ]
  refine wpAnyH_take (i := 5) (oi := { dst := some 18, op := .load 9 (.tmp 17), type := 9, pos := "dag.go:85", after := #[{ on := 4, ground := .data }, { on := 3, ground := .guard }], guard := some (3, false) }) (v := ?_) rfl (by kernel_rfl) (by kernel_rfl) (by kernel_rfl) (fun _ _ _ h => h) (Or.inl ⟨by rfl, ?_⟩) (by assumption) ?_
  rotate_left 1
  · intro W hSw
    obtain ⟨s1, s2, s3, s4, s5⟩ := hSw
    go_simp
    try with_reducible rfl
  try simp only [Act.put, List.setIfInBounds_toArray, List.set_cons_zero, List.set_cons_succ]
  refine wpAnyH_take (i := 6) (oi := { dst := some 19, op := .load 23 (.tmp 2), type := 23, pos := "dag.go:85", after := #[{ on := 3, ground := .guard }], guard := some (3, false) }) (v := ?_) rfl (by kernel_rfl) (by kernel_rfl) (by kernel_rfl) (fun _ _ _ h => h) (Or.inl ⟨by rfl, ?_⟩) (by assumption) ?_
  rotate_left 1
  · intro W hSw
    obtain ⟨s1, s2, s3, s4, s5⟩ := hSw
    go_simp
    try with_reducible rfl
  try simp only [Act.put, List.setIfInBounds_toArray, List.set_cons_zero, List.set_cons_succ]
  refine wpAnyH_take (i := 7) (oi := { dst := some 20, op := .nilCheck (.tmp 19), type := 0, pos := "dag.go:85", after := #[{ on := 6, ground := .data }, { on := 3, ground := .guard }], guard := some (3, false) }) (v := ?_) rfl (by kernel_rfl) (by kernel_rfl) (by kernel_rfl) (fun _ _ _ h => h) (Or.inl ⟨by rfl, ?_⟩) (by assumption) ?_
  rotate_left 1
  · intro W hSw
    obtain ⟨s1, s2, s3, s4, s5⟩ := hSw
    go_simp
    try with_reducible rfl
  try simp only [Act.put, List.setIfInBounds_toArray, List.set_cons_zero, List.set_cons_succ]
  refine wpAnyH_take (i := 8) (oi := { dst := some 21, op := .fieldAddr 60 (.tmp 20) 0, type := 0, pos := "dag.go:85", after := #[{ on := 7, ground := .data }, { on := 3, ground := .guard }], guard := some (3, false) }) (v := ?_) rfl (by kernel_rfl) (by kernel_rfl) (by kernel_rfl) (fun _ _ _ h => h) (Or.inl ⟨by rfl, ?_⟩) (by assumption) ?_
  rotate_left 1
  · intro W hSw
    obtain ⟨s1, s2, s3, s4, s5⟩ := hSw
    go_simp
    try with_reducible rfl
  try simp only [Act.put, List.setIfInBounds_toArray, List.set_cons_zero, List.set_cons_succ]
  refine wpAnyH_take (i := 9) (oi := { dst := some 22, op := .load 9 (.tmp 21), type := 9, pos := "dag.go:85", after := #[{ on := 8, ground := .data }, { on := 3, ground := .guard }], guard := some (3, false) }) (v := ?_) rfl (by kernel_rfl) (by kernel_rfl) (by kernel_rfl) (fun _ _ _ h => h) (Or.inl ⟨by rfl, ?_⟩) (by assumption) ?_
  rotate_left 1
  · intro W hSw
    obtain ⟨s1, s2, s3, s4, s5⟩ := hSw
    go_simp
    try with_reducible rfl
  try simp only [Act.put, List.setIfInBounds_toArray, List.set_cons_zero, List.set_cons_succ]
  refine wpAnyH_take (i := 10) (oi := { dst := some 23, op := .binOp Go.BinOp.neq 9 (.tmp 18) (.tmp 22) 9, type := 4, pos := "dag.go:85", after := #[{ on := 5, ground := .data }, { on := 9, ground := .data }, { on := 3, ground := .guard }], guard := some (3, false) }) (v := ?_) rfl (by kernel_rfl) (by kernel_rfl) (by kernel_rfl) (fun _ _ _ h => h) (Or.inl ⟨by rfl, ?_⟩) (by assumption) ?_
  rotate_left 1
  · intro W hSw
    obtain ⟨s1, s2, s3, s4, s5⟩ := hSw
    go_simp
    try with_reducible rfl
  try simp only [Act.put, List.setIfInBounds_toArray, List.set_cons_zero, List.set_cons_succ]
  refine wpAnyH_take (i := 11) (oi := { dst := some 24, op := .pick (.tmp 16) (.const (Go.Value.bool true)) (.tmp 23), type := 4, pos := "dag.go:85", after := #[{ on := 3, ground := .data }, { on := 10, ground := .data }], guard := none }) (v := ?_) rfl (by kernel_rfl) (by kernel_rfl) (by kernel_rfl) (fun _ _ _ h => h) (Or.inl ⟨by rfl, ?_⟩) (by assumption) ?_
  rotate_left 1
  · intro W hSw
    obtain ⟨s1, s2, s3, s4, s5⟩ := hSw
    go_simp
    try with_reducible rfl
  try simp only [Act.put, List.setIfInBounds_toArray, List.set_cons_zero, List.set_cons_succ]
  refine wpAnyH_take (i := 12) (oi := { dst := some 25, op := .move (.tmp 24), type := 4, pos := "dag.go:85", after := #[{ on := 11, ground := .data }, { on := 3, ground := .chain }], guard := none }) (v := ?_) rfl (by kernel_rfl) (by kernel_rfl) (by kernel_rfl) (fun _ _ _ h => h) (Or.inl ⟨by rfl, ?_⟩) (by assumption) ?_
  rotate_left 1
  · intro W hSw
    obtain ⟨s1, s2, s3, s4, s5⟩ := hSw
    go_simp
    try with_reducible rfl
  try simp only [Act.put, List.setIfInBounds_toArray, List.set_cons_zero, List.set_cons_succ]
  refine wpAnyH_take (i := 13) (oi := { dst := some 26, op := .load 38 (.tmp 3), type := 38, pos := "dag.go:85", after := #[{ on := 12, ground := .guard }], guard := some (12, false) }) (v := .agg e.cells) rfl (by kernel_rfl) (by kernel_rfl) (by kernel_rfl) (fun _ _ _ h => h)
    (yieldsIf_load_cells (by rfl) 38 (.tmp 3) rfl (w.heap.size + 1) 0 rfl e.cells (fun W hW => hW.2.2.2.2.out) _ Tryz.underlying38 rfl info38s) (by assumption) ?_
  try simp only [Act.put, List.setIfInBounds_toArray, List.set_cons_zero, List.set_cons_succ]
  refine wpAnyH_take (i := 15) (oi := { dst := some 28, op := .fieldAddr 38 (.tmp 3) 0, type := 0, pos := "dag.go:85", after := #[{ on := 12, ground := .guard }], guard := some (12, false) }) (v := ?_) rfl (by kernel_rfl) (by kernel_rfl) (by kernel_rfl) (fun _ _ _ h => h) (Or.inl ⟨by rfl, ?_⟩) (by assumption) ?_
  rotate_left 1
  · intro W hSw
    obtain ⟨s1, s2, s3, s4, s5⟩ := hSw
    go_simp
    try with_reducible rfl
  try simp only [Act.put, List.setIfInBounds_toArray, List.set_cons_zero, List.set_cons_succ]
  refine wpAnyH_take (i := 16) (oi := { dst := some 29, op := .load 9 (.tmp 28), type := 9, pos := "dag.go:85", after := #[{ on := 15, ground := .data }, { on := 12, ground := .guard }], guard := some (12, false) }) (v := ?_) rfl (by kernel_rfl) (by kernel_rfl) (by kernel_rfl) (fun _ _ _ h => h) (Or.inl ⟨by rfl, ?_⟩) (by assumption) ?_
  rotate_left 1
  · intro W hSw
    obtain ⟨s1, s2, s3, s4, s5⟩ := hSw
    go_simp
    try with_reducible rfl
  try simp only [Act.put, List.setIfInBounds_toArray, List.set_cons_zero, List.set_cons_succ]
  refine wpAnyH_ready (rs := [14]) (by kernel_rfl) (by simp) ?_
  refine AllReadyH.cons (o := { dst := some 27, op := .call { callee := Go.Callee.value (.func 24), args := #[.tmp 26], argTypes := #[38] }, type := 30, pos := "dag.go:85", after := #[{ on := 13, ground := .data }, { on := 12, ground := .chain }, { on := 12, ground := .guard }], guard := some (12, false) }) rfl (fun K hK => ?_) AllReadyH.nil
  go_simp
  go_at_call 24
  refine (Hnd.out _ (Fresh.rfl' W0).drew).mono ?_
  rintro x1 w1 ⟨v1, rfl, hv1, hf1⟩
  have HF1 : Hid (Fresh W0 w1) := hf1.ofDrew
  have hcn := contains_str v1 _ e.d.id col w1 hv1
  rw [Hself.out] at hcn
  have Hcn := Lib.hid hcn
  clear hf1 hv1 hcn
  try dsimp only
  refine hK.out _ _ (HS.out _ HF1.out) (fun hHeld => ?_)
  clear hK K
  try simp only [Act.put, List.setIfInBounds_toArray, List.set_cons_zero, List.set_cons_succ]
  refine wpAnyH_ready (rs := [17]) (by kernel_rfl) (by simp) ?_
  refine AllReadyH.cons (o := { dst := some 30, op := .call { callee := Go.Callee.value (.func 23), args := #[.tmp 27, .tmp 29], argTypes := #[30, 9] }, type := 4, pos := "dag.go:85", after := #[{ on := 14, ground := .data }, { on := 16, ground := .data }, { on := 14, ground := .chain }, { on := 12, ground := .guard }], guard := some (12, false) }) rfl (fun K hK => ?_) AllReadyH.nil
  go_simp
  go_at_call 23
  refine Hcn.out.mono ?_
  rintro x2 w2 ⟨rfl, rfl⟩
  try dsimp only
  refine hK.out _ _ (HS.out _ HF1.out) (fun hHeld => ?_)
  clear hK K
  try simp only [Act.put, List.setIfInBounds_toArray, List.set_cons_zero, List.set_cons_succ]
  refine wpAnyH_take (i := 18) (oi := { dst := some 31, op := .pick (.tmp 25) (.const (Go.Value.bool true)) (.tmp 30), type := 4, pos := "dag.go:85", after := #[{ on := 12, ground := .data }, { on := 17, ground := .data }], guard := none }) (v := ?_) rfl (by kernel_rfl) (by kernel_rfl) (by kernel_rfl) (fun _ _ _ h => h) (Or.inl ⟨by rfl, ?_⟩) (by assumption) ?_
  rotate_left 1
  · intro W hSw
    obtain ⟨s1, s2, s3, s4, s5⟩ := hSw
    go_simp
    try with_reducible rfl
  try simp only [Act.put, List.setIfInBounds_toArray, List.set_cons_zero, List.set_cons_succ]
  refine wpAnyH_take (i := 19) (oi := { dst := some 12, op := .assign (.tmp 31), type := 4, pos := "dag.go:85", after := #[{ on := 18, ground := .data }, { on := 17, ground := .chain }], guard := none }) (v := ?_) rfl (by kernel_rfl) (by kernel_rfl) (by kernel_rfl) (fun _ _ _ h => h) (Or.inl ⟨by rfl, ?_⟩) (by assumption) ?_
  rotate_left 1
  · intro W hSw
    obtain ⟨s1, s2, s3, s4, s5⟩ := hSw
    go_simp
    try with_reducible rfl
  try simp only [Act.put, List.setIfInBounds_toArray, List.set_cons_zero, List.set_cons_succ]
  refine wpAnyH_done (by kernel_rfl) ?_ _
  clear Hcn Hnd Hself hn1 hn2
  go_wp2_with fail
  have hlk := look_node (HH.out.fresh (fcomp HF0.out HF1.out.drew)) e.d.id
  rw [Hn.out] at hlk
  dsimp only at hlk
  have hS3 := HS.out _ HF1.out.drew
  have c0 := hS3.1; have c1 := hS3.2.1
  have cR := (HH.out.fresh (fcomp HF0.out HF1.out.drew)).c1
  clear hS3
  refine wp_region_still_tail 8 (by kernel_rfl) (by kernel_rfl) ?_
  simp only [List.take_succ_cons, List.take_zero, List.drop_succ_cons, List.drop_zero]
  iterate 8 still_step
  refine wpStill_nil ?_
  go_wp2_with (with_reducible refine stop_op (.load 38 (.tmp 3)) rfl ?_)
  refine Stand.go ?_
  refine wpList_load_cells rfl 38 (.tmp 3) rfl (w.heap.size + 1) 0 rfl e.cells (HS.out _ HF1.out.drew).2.2.2.2.out _ Tryz.underlying38 rfl info38s ?_
  go_wp2_with fail
  refine (ready_any (HH.out.fresh (fcomp HF0.out HF1.out.drew)) e (hcol.fresh (fcomp HF0.out HF1.out.drew)) (He.out.fresh (fcomp HF0.out HF1.out.drew))).mono ?_
  rintro x3 w3 ⟨rfl, hf3⟩
  have HF3 : Hid (Fresh W0 w3) := fcomp HF1.out.drew hf3
  rw [Hrd.out]
  clear hlk c0 c1 cR hf3
  have hS3 := HS.out _ HF3.out
  have c0 := hS3.1; have c1 := hS3.2.1
  have HC := Lib.hid hS3
  have hst := own_len HH.out.rest.st.row
  have cR := (HH.out.fresh (fcomp HF0.out HF3.out)).c1
  have cR2 := (HH.out.fresh (fcomp HF0.out HF3.out)).c2
  rw [hst] at cR2
  have hns : ¬ ((4096 : Int) ≤ (r.ns.length : Int)) := by have := Hns.out; omega
  clear hS3 hst
  go_wp2_with (at_len; refine Stand.stop ?_)
  refine Stand.go ?_
  refine wpList_len_map rfl (.tmp 49) 57 9 63 rfl Tryz.underlying57 rfl (HH.out.fresh (fcomp HF0.out HF3.out)).rest.nodes r.ns.length (by simp) ?_
  have hfu : ¬ ((64 : Int) ≤ (r.staged.length : Int)) := by have := Hroomy.out; omega
  have HB0 : Hid (W0.cell? ⟨w.heap.size, 0, none⟩ = some (.pointer (some ⟨R, 0, none⟩)) ∧ col w.heap.size = 0) := ⟨(HS.out _ (Fresh.rfl' _)).1, hcol.ok _ (Nat.le_refl _)⟩
  have HB1 : Hid (W0.cell? ⟨w.heap.size + 1, 0, none⟩ = some (.string e.d.id) ∧ col (w.heap.size + 1) = 0) := ⟨(HS.out _ (Fresh.rfl' _)).2.1, hcol.ok _ (Nat.le_succ _)⟩
  go_wp2_with (with_reducible refine stop_op (.load 38 (.tmp 3)) rfl ?_)
  refine Stand.go ?_
  refine wpList_load_cells rfl 38 (.tmp 3) rfl (w.heap.size + 1) 0 rfl e.cells HC.out.2.2.2.2.out _ Tryz.underlying38 rfl info38s ?_
  go_wp2_with fail
  refine (own_any e col w3 (hcol.fresh (fcomp HF0.out HF3.out)) (He.out.fresh (fcomp HF0.out HF3.out))).mono ?_
  rintro x4 w4 ⟨e', rfl, hde, hee, hf4⟩
  have HF4 : Hid (Fresh W0 w4) := fcomp HF3.out hf4
  have Hde := Lib.hid hde; have Hee := Lib.hid hee
  clear hde hee hf4 c0 c1 HC cR cR2
  go_wp2_with (with_reducible refine stop_op (.build 67 #[(0, .tmp 66), (1, .const (.int .i64 1))]) rfl ?_)
  refine Stand.go ?_
  refine wpList_build67 rfl (.tmp 66) 1 rfl e' rfl ?_
  refine wpList_box67 rfl (.tmp 67) rfl e' 1 rfl ?_
  obtain ⟨col5, h51, h52, h53, h54⟩ := (HH.out.fresh (fcomp HF0.out HF4.out)).newNd (hcol.fresh (fcomp HF0.out HF4.out)) e' Hee.out
  have hnew : ∀ x ∈ r.ns, x.blk ≠ w4.heap.size := fun x hx => Nat.ne_of_lt ((HH.out.fresh (fcomp HF0.out HF4.out)).rest.nd x hx).lt
  refine hideWorld _ (fun W => JSt W0 col k R W col5 r ∧ NdIs W col5 k ⟨w4.heap.size, e', 1, .nil, [], .nil, []⟩) _ ⟨⟨h51, h52, (Keep.ofFresh HF4.out).trans (h54.imp fun _ _ => trivial)⟩, h53⟩ ?_
  clear h51 h52 h53 h54
  rintro W5 ⟨h5, h53⟩
  obtain ⟨blk, hblk⟩ : ∃ x, x = w4.heap.size := ⟨_, rfl⟩
  rw [← hblk] at hnew h53
  rw [← hblk]
  have c0 := h5.cell HB0.out.1 HB0.out.2; have c1 := h5.cell HB1.out.1 HB1.out.2
  have cR := h5.is.c1
  have h5d := h5.fresh (Fresh.rfl' W5).drew
  obtain ⟨ob, hup, hm2⟩ := run_update_map (w := W5.drew) strKey Tryz.underlying57 h5d.is.rest.nodes e.d.id (.pointer (some ⟨blk, 0, none⟩))
  have hidN : Nd.id ⟨blk, e', 1, .nil, [], .nil, []⟩ = e.d.id := by unfold Nd.id; rw [Hde.out]
  have hadd := h5d.is.addNd ⟨blk, e', 1, .nil, [], .nil, []⟩ (h53.keep (p := fun _ => True) (Keep.ofFresh (Fresh.rfl' W5).drew) trivial trivial) hnew (by rw [hidN]; exact Hn.out) Hns.out ob (by rw [hidN]; exact hm2)
  have HJ6 : Hid (JSt W0 col k R (World.setObj' W5.drew r.nm ob) col5 { r with ns := r.ns ++ [⟨blk, e', 1, .nil, [], .nil, []⟩] }) :=
    ⟨hadd.1, h5d.std.keep hadd.2 (by omega), h5d.keep.trans (hadd.2.imp fun c hc => by unfold outC at hc; omega)⟩
  have hS : ∀ W, Fresh W5 W → W.cell? ⟨w.heap.size, 0, none⟩ = some (.pointer (some ⟨R, 0, none⟩)) ∧ W.cell? ⟨w.heap.size + 1, 0, none⟩ = some (.string e.d.id) ∧ W.cell? ⟨R, 1, none⟩ = some (.map (some r.nm)) := fun W hW => ⟨hW.keep c0, hW.keep c1, hW.keep cR⟩
  have HS5 := Lib.hid hS
  clear c0 c1 cR h5 h5d h53 hm2 hidN hadd hS hnew hblk HH He HS HF1 HF3 HF4 Hee
  go_wp2_with fail
  refine wp_region_T (fun W => W.cell? ⟨w.heap.size, 0, none⟩ = some (.pointer (some ⟨R, 0, none⟩)) ∧ W.cell? ⟨w.heap.size + 1, 0, none⟩ = some (.string e.d.id) ∧ W.cell? ⟨R, 1, none⟩ = some (.map (some r.nm))) 7 (by kernel_rfl) ?_ (fun hHeld => ?_)
  · exact HS5.out _ (Fresh.rfl' W5).drew
  refine wpAnyT_take (i := 0) (oi := { dst := some 69, op := .load 23 (.tmp 2), type := 23, pos := "dag.go:95", after := #[], guard := none }) (v := ?_) rfl (by kernel_rfl) (by kernel_rfl) (by kernel_rfl) (by kernel_rfl) (fun _ _ _ h => h) (Or.inl ⟨by rfl, ?_⟩) (by assumption) ?_
  rotate_left 1
  · intro W hSw
    obtain ⟨s1, s2, s3⟩ := hSw
    go_simp
    try with_reducible rfl
  try simp only [Act.put, List.setIfInBounds_toArray, List.set_cons_zero, List.set_cons_succ]
  refine wpAnyT_take (i := 1) (oi := { dst := some 70, op := .nilCheck (.tmp 69), type := 0, pos := "dag.go:95", after := #[{ on := 0, ground := .data }], guard := none }) (v := ?_) rfl (by kernel_rfl) (by kernel_rfl) (by kernel_rfl) (by kernel_rfl) (fun _ _ _ h => h) (Or.inl ⟨by rfl, ?_⟩) (by assumption) ?_
  rotate_left 1
  · intro W hSw
    obtain ⟨s1, s2, s3⟩ := hSw
    go_simp
    try with_reducible rfl
  try simp only [Act.put, List.setIfInBounds_toArray, List.set_cons_zero, List.set_cons_succ]
  refine wpAnyT_take (i := 2) (oi := { dst := some 71, op := .fieldAddr 60 (.tmp 70) 1, type := 0, pos := "dag.go:95", after := #[{ on := 1, ground := .data }], guard := none }) (v := ?_) rfl (by kernel_rfl) (by kernel_rfl) (by kernel_rfl) (by kernel_rfl) (fun _ _ _ h => h) (Or.inl ⟨by rfl, ?_⟩) (by assumption) ?_
  rotate_left 1
  · intro W hSw
    obtain ⟨s1, s2, s3⟩ := hSw
    go_simp
    try with_reducible rfl
  try simp only [Act.put, List.setIfInBounds_toArray, List.set_cons_zero, List.set_cons_succ]
  refine wpAnyT_take (i := 3) (oi := { dst := some 72, op := .load 57 (.tmp 71), type := 57, pos := "dag.go:95", after := #[{ on := 2, ground := .data }], guard := none }) (v := ?_) rfl (by kernel_rfl) (by kernel_rfl) (by kernel_rfl) (by kernel_rfl) (fun _ _ _ h => h) (Or.inl ⟨by rfl, ?_⟩) (by assumption) ?_
  rotate_left 1
  · intro W hSw
    obtain ⟨s1, s2, s3⟩ := hSw
    go_simp
    try with_reducible rfl
  try simp only [Act.put, List.setIfInBounds_toArray, List.set_cons_zero, List.set_cons_succ]
  refine wpAnyT_take (i := 4) (oi := { dst := some 73, op := .fieldAddr 38 (.tmp 3) 0, type := 0, pos := "dag.go:95", after := #[], guard := none }) (v := ?_) rfl (by kernel_rfl) (by kernel_rfl) (by kernel_rfl) (by kernel_rfl) (fun _ _ _ h => h) (Or.inl ⟨by rfl, ?_⟩) (by assumption) ?_
  rotate_left 1
  · intro W hSw
    obtain ⟨s1, s2, s3⟩ := hSw
    go_simp
    try with_reducible rfl
  try simp only [Act.put, List.setIfInBounds_toArray, List.set_cons_zero, List.set_cons_succ]
  refine wpAnyT_take (i := 5) (oi := { dst := some 74, op := .load 9 (.tmp 73), type := 9, pos := "dag.go:95", after := #[{ on := 4, ground := .data }], guard := none }) (v := ?_) rfl (by kernel_rfl) (by kernel_rfl) (by kernel_rfl) (by kernel_rfl) (fun _ _ _ h => h) (Or.inl ⟨by rfl, ?_⟩) (by assumption) ?_
  rotate_left 1
  · intro W hSw
    obtain ⟨s1, s2, s3⟩ := hSw
    go_simp
    try with_reducible rfl
  try simp only [Act.put, List.setIfInBounds_toArray, List.set_cons_zero, List.set_cons_succ]
  refine wpAnyT_take (i := 6) (oi := { dst := some 75, op := .move (.tmp 8), type := 63, pos := "dag.go:95", after := #[], guard := none }) (v := ?_) rfl (by kernel_rfl) (by kernel_rfl) (by kernel_rfl) (by kernel_rfl) (fun _ _ _ h => h) (Or.inl ⟨by rfl, ?_⟩) (by assumption) ?_
  rotate_left 1
  · intro W hSw
    obtain ⟨s1, s2, s3⟩ := hSw
    go_simp
    try with_reducible rfl
  try simp only [Act.put, List.setIfInBounds_toArray, List.set_cons_zero, List.set_cons_succ]
  refine wpAnyT_last (o := { dst := none, op := .mapUpdate 57 (.tmp 72) (.tmp 74) (.tmp 75), type := 0, pos := "dag.go:95", after := #[{ on := 3, ground := .data }, { on := 5, ground := .data }, { on := 6, ground := .data }, { on := 0, ground := .phase }, { on := 1, ground := .phase }, { on := 2, ground := .phase }, { on := 3, ground := .phase }, { on := 4, ground := .phase }, { on := 5, ground := .phase }, { on := 6, ground := .phase }], guard := none }) (by kernel_rfl) rfl (fun K hK => ?_)
  go_simp
  refine hK.out _ _ ?_
  clear hK K
  try simp only [Act.put, List.setIfInBounds_toArray, List.set_cons_zero, List.set_cons_succ]
  refine wpAnyT_done (by kernel_rfl) ?_ _
  clear hup HS5
  refine hideWorld _ (fun W => JSt W0 col k R W col5 { r with ns := r.ns ++ [⟨blk, e', 1, .nil, [], .nil, []⟩] }) _ HJ6.out ?_
  clear HJ6
  intro W6 hj6
  have HJ6 := Lib.hid hj6
  have b0 := hj6.cell HB0.out.1 HB0.out.2; have b1 := hj6.cell HB1.out.1 HB1.out.2
  clear hj6
  clear hfu hns
  go_wp2_with fail
  have hrf : W6.cell? ⟨R, 2, none⟩ = some (.slice r.st.a r.st.n r.st.c) := HJ6.out.is.c2
  have hS : ∀ W, Fresh W6 W → W.cell? ⟨w.heap.size, 0, none⟩ = some (.pointer (some ⟨R, 0, none⟩)) ∧ W.cell? ⟨w.heap.size + 1, 0, none⟩ = some (.string e.d.id) ∧ W.cell? ⟨R, 2, none⟩ = some (.slice r.st.a r.st.n r.st.c) := fun W hW => ⟨hW.keep b0, hW.keep b1, hW.keep hrf⟩
  have HS6 := Lib.hid hS
  clear hS b0 b1 hrf
  refine wp_region_T (fun W => W.cell? ⟨w.heap.size, 0, none⟩ = some (.pointer (some ⟨R, 0, none⟩)) ∧ W.cell? ⟨w.heap.size + 1, 0, none⟩ = some (.string e.d.id) ∧ W.cell? ⟨R, 2, none⟩ = some (.slice r.st.a r.st.n r.st.c)) 11 (by kernel_rfl) ?_ (fun hHeld => ?_)
  · exact HS6.out _ (Fresh.rfl' W6).drew
  refine wpAnyT_take (i := 0) (oi := { dst := some 78, op := .load 23 (.tmp 2), type := 23, pos := "dag.go:97", after := #[], guard := none }) (v := ?_) rfl (by kernel_rfl) (by kernel_rfl) (by kernel_rfl) (by kernel_rfl) (fun _ _ _ h => h) (Or.inl ⟨by rfl, ?_⟩) (by assumption) ?_
  rotate_left 1
  · intro W hSw
    obtain ⟨s1, s2, s3⟩ := hSw
    go_simp
    try with_reducible rfl
  try simp only [Act.put, List.setIfInBounds_toArray, List.set_cons_zero, List.set_cons_succ]
  refine wpAnyT_take (i := 1) (oi := { dst := some 79, op := .load 23 (.tmp 2), type := 23, pos := "dag.go:97", after := #[], guard := none }) (v := ?_) rfl (by kernel_rfl) (by kernel_rfl) (by kernel_rfl) (by kernel_rfl) (fun _ _ _ h => h) (Or.inl ⟨by rfl, ?_⟩) (by assumption) ?_
  rotate_left 1
  · intro W hSw
    obtain ⟨s1, s2, s3⟩ := hSw
    go_simp
    try with_reducible rfl
  try simp only [Act.put, List.setIfInBounds_toArray, List.set_cons_zero, List.set_cons_succ]
  refine wpAnyT_take (i := 2) (oi := { dst := some 80, op := .nilCheck (.tmp 79), type := 0, pos := "dag.go:97", after := #[{ on := 1, ground := .data }], guard := none }) (v := ?_) rfl (by kernel_rfl) (by kernel_rfl) (by kernel_rfl) (by kernel_rfl) (fun _ _ _ h => h) (Or.inl ⟨by rfl, ?_⟩) (by assumption) ?_
  rotate_left 1
  · intro W hSw
    obtain ⟨s1, s2, s3⟩ := hSw
    go_simp
    try with_reducible rfl
  try simp only [Act.put, List.setIfInBounds_toArray, List.set_cons_zero, List.set_cons_succ]
  refine wpAnyT_take (i := 3) (oi := { dst := some 81, op := .fieldAddr 60 (.tmp 80) 2, type := 0, pos := "dag.go:97", after := #[{ on := 2, ground := .data }], guard := none }) (v := ?_) rfl (by kernel_rfl) (by kernel_rfl) (by kernel_rfl) (by kernel_rfl) (fun _ _ _ h => h) (Or.inl ⟨by rfl, ?_⟩) (by assumption) ?_
  rotate_left 1
  · intro W hSw
    obtain ⟨s1, s2, s3⟩ := hSw
    go_simp
    try with_reducible rfl
  try simp only [Act.put, List.setIfInBounds_toArray, List.set_cons_zero, List.set_cons_succ]
  refine wpAnyT_take (i := 4) (oi := { dst := some 82, op := .load 30 (.tmp 81), type := 30, pos := "dag.go:97", after := #[{ on := 3, ground := .data }], guard := none }) (v := ?_) rfl (by kernel_rfl) (by kernel_rfl) (by kernel_rfl) (by kernel_rfl) (fun _ _ _ h => h) (Or.inl ⟨by rfl, ?_⟩) (by assumption) ?_
  rotate_left 1
  · intro W hSw
    obtain ⟨s1, s2, s3⟩ := hSw
    go_simp
    try with_reducible rfl
  try simp only [Act.put, List.setIfInBounds_toArray, List.set_cons_zero, List.set_cons_succ]
  refine wpAnyT_take (i := 5) (oi := { dst := some 83, op := .fieldAddr 38 (.tmp 3) 0, type := 0, pos := "dag.go:97", after := #[], guard := none }) (v := ?_) rfl (by kernel_rfl) (by kernel_rfl) (by kernel_rfl) (by kernel_rfl) (fun _ _ _ h => h) (Or.inl ⟨by rfl, ?_⟩) (by assumption) ?_
  rotate_left 1
  · intro W hSw
    obtain ⟨s1, s2, s3⟩ := hSw
    go_simp
    try with_reducible rfl
  try simp only [Act.put, List.setIfInBounds_toArray, List.set_cons_zero, List.set_cons_succ]
  refine wpAnyT_take (i := 6) (oi := { dst := some 84, op := .load 9 (.tmp 83), type := 9, pos := "dag.go:97", after := #[{ on := 5, ground := .data }], guard := none }) (v := ?_) rfl (by kernel_rfl) (by kernel_rfl) (by kernel_rfl) (by kernel_rfl) (fun _ _ _ h => h) (Or.inl ⟨by rfl, ?_⟩) (by assumption) ?_
  rotate_left 1
  · intro W hSw
    obtain ⟨s1, s2, s3⟩ := hSw
    go_simp
    try with_reducible rfl
  try simp only [Act.put, List.setIfInBounds_toArray, List.set_cons_zero, List.set_cons_succ]
  refine wpAnyT_step (i := 7) (o := { dst := some 85, op := .buildSlice 30 1 #[(0, .tmp 84)], type := 30, pos := "dag.go:97", after := #[{ on := 6, ground := .data }], guard := none }) (by kernel_rfl) rfl (fun K hK => ?_)
  go_simp
  have HFa : Hid (Fresh W6 (W6.drew.alloc (.cells #[.string e.d.id] 9))) := (Fresh.rfl' W6).drew.alloc (Nat.le_refl _) _
  refine hK.out _ _ (HS6.out _ HFa.out) (fun hHeld => ?_)
  clear hK K
  try simp only [Act.put, List.setIfInBounds_toArray, List.set_cons_zero, List.set_cons_succ]
  refine wpAnyT_step (i := 8) (o := { dst := some 86, op := .call { callee := Go.Callee.builtin Go.Builtin.append, args := #[.tmp 82, .tmp 85], argTypes := #[30, 30] }, type := 30, pos := "dag.go:97", after := #[{ on := 4, ground := .data }, { on := 7, ground := .data }], guard := none }) (by kernel_rfl) rfl (fun K hK => ?_)
  refine step_append_src2 _ rfl (.tmp 82) (.tmp 85) 30 30 rfl 0 9 (.string ⟨#[]⟩) 1 16 Tryz.underlying30 info9 rfl (by decide) (sv r.st) r.staged.length _ rfl (HJ6.out.fresh HFa.out).is.rest.st.row (.slice (some ⟨W6.heap.size, 0, none⟩) 1 1) 1 [.string e.d.id] rfl (src_one _ _ _ Tryz.underlying30 (heap_alloc_new _ _) rfl) (by unfold maxLen; have := Hroomy.out; omega) (by have := Hroomy.out; omega) (Nat.zero_le _) ?_
  intro v' w7 hown hg hbl
  obtain ⟨va, vn, vc, rfl⟩ := own_slice hown
  have hgr := (HJ6.out.fresh HFa.out).is.grown (HJ6.out.fresh HFa.out).is.rest.st (by omega) hg
  have hcR : w7.cell? ⟨R, 2, none⟩ = some (.slice r.st.a r.st.n r.st.c) := (cell_of_block hgr.1 _).trans (HS6.out _ HFa.out).2.2
  have hzR : w7.frozen? ⟨R, 2, none⟩ = false := (frozen_of_block hgr.1 _).trans ((HJ6.out.fresh HFa.out).is.fz 2)
  obtain ⟨colx, _, hk7, _⟩ := OwnC.app (v' := ⟨va, vn, vc⟩) (HJ6.out.fresh HFa.out).is.rest.st hown hg hbl (by omega) (HJ6.out.fresh HFa.out).std
  have hj7 : Keep W0 col w7 colx (outC k) := (HJ6.out.fresh HFa.out).keep.trans (hk7.imp fun c hc => by unfold outC at hc; omega)
  have hb0 : w7.cell? ⟨w.heap.size, 0, none⟩ = some (.pointer (some ⟨R, 0, none⟩)) := (cell_of_block (hj7.block _ (World.block_lt_of_cell? _ _ HB0.out.1) (by rw [HB0.out.2]; unfold outC; omega)) _).trans HB0.out.1
  have hb1 : w7.cell? ⟨w.heap.size + 1, 0, none⟩ = some (.string e.d.id) := (cell_of_block (hj7.block _ (World.block_lt_of_cell? _ _ HB1.out.1) (by rw [HB1.out.2]; unfold outC; omega)) _).trans HB1.out.1
  obtain ⟨col2, h5, h6, h7⟩ := (HJ6.out.fresh HFa.out).is.appSt (HJ6.out.fresh HFa.out).std ⟨va, vn, vc⟩ e.d.id (by simpa using hown) hg hbl (by have := Hroomy.out; show r.staged.length < 4096; omega)
  have H5 := Lib.hid h5; have H6 := Lib.hid h6; have H7 := Lib.hid h7
  clear hown hg hbl hgr h5 h6 h7 hk7 hj7
  refine hK.out _ _ ⟨hb0, hb1, hcR⟩ (fun hHeld => ?_)
  clear hK K
  try simp only [Act.put, List.setIfInBounds_toArray, List.set_cons_zero, List.set_cons_succ]
  refine wpAnyT_step (i := 9) (o := { dst := some 87, op := .nilCheck (.tmp 78), type := 0, pos := "dag.go:97", after := #[{ on := 0, ground := .data }, { on := 0, ground := .phase }, { on := 1, ground := .phase }, { on := 2, ground := .phase }, { on := 3, ground := .phase }, { on := 4, ground := .phase }, { on := 5, ground := .phase }, { on := 6, ground := .phase }, { on := 7, ground := .phase }, { on := 8, ground := .phase }], guard := none }) (by kernel_rfl) rfl (fun K hK => ?_)
  go_simp
  refine hK.out _ _ ⟨hb0, hb1, hcR⟩ (fun hHeld => ?_)
  clear hK K
  try simp only [Act.put, List.setIfInBounds_toArray, List.set_cons_zero, List.set_cons_succ]
  refine wpAnyT_step (i := 10) (o := { dst := some 88, op := .fieldAddr 60 (.tmp 87) 2, type := 0, pos := "dag.go:97", after := #[{ on := 9, ground := .data }, { on := 0, ground := .phase }, { on := 1, ground := .phase }, { on := 2, ground := .phase }, { on := 3, ground := .phase }, { on := 4, ground := .phase }, { on := 5, ground := .phase }, { on := 6, ground := .phase }, { on := 7, ground := .phase }, { on := 8, ground := .phase }], guard := none }) (by kernel_rfl) rfl (fun K hK => ?_)
  go_simp
  refine hK.out _ _ ⟨hb0, hb1, hcR⟩ (fun hHeld => ?_)
  clear hK K
  try simp only [Act.put, List.setIfInBounds_toArray, List.set_cons_zero, List.set_cons_succ]
  refine wpAnyT_last (o := { dst := none, op := .store 30 (.tmp 88) (.tmp 86), type := 0, pos := "dag.go:97", after := #[{ on := 10, ground := .data }, { on := 8, ground := .data }, { on := 8, ground := .chain }, { on := 0, ground := .phase }, { on := 1, ground := .phase }, { on := 2, ground := .phase }, { on := 3, ground := .phase }, { on := 4, ground := .phase }, { on := 5, ground := .phase }, { on := 6, ground := .phase }, { on := 7, ground := .phase }, { on := 8, ground := .phase }], guard := none }) (by kernel_rfl) rfl (fun K hK => ?_)
  go_simp
  refine hK.out _ _ ?_
  clear hK K
  try simp only [Act.put, List.setIfInBounds_toArray, List.set_cons_zero, List.set_cons_succ]
  refine wpAnyT_done (by kernel_rfl) ?_ _
  go_wp2_with fail
  go_ret3
  refine ⟨rfl, col2, _, ⟨H5.out, H6.out, ((Keep.ofFresh HF0.out).trans (HJ6.out.fresh HFa.out).keep).trans H7.out⟩, ?_⟩
  unfold Rm.d
  simp only [List.map_append, List.map_cons, List.map_nil, Nd.d, Hde.out]
end Go.Proofs.YtmjclmmiljlahaaGreat

set_option linter.unusedVariables false
set_option linter.unusedSimpArgs false
namespace Go.Proofs.YtmjclmmiljlahaaGreat
open Go.RowKit

/-- The rounds of Take: one staged event after the other, while one is ready. -/
inductive TakeRun : RmD → List ByteArray → RmD → Prop
  | stop {d : RmD} (hst : ∀ id ∈ d.staged, (d.find id).isSome = true) (h : idxA d.readyAt d.staged 0 = -1) : TakeRun d [] d
  | next {d : RmD} {id : ByteArray} {rest more : List ByteArray} {d1 d2 : RmD} (hst : ∀ x ∈ d.staged, (d.find x).isSome = true) (hs : d.staged = id :: rest) (h : d.readyAt id = true)
      (hj : JudgeD { d with staged := rest } id d1) (ht : TakeRun d1 more d2) : TakeRun d (id :: more) d2

theorem fresh_colour (col : Col) (n k : Nat) : ∃ c, k + 8 < c ∧ ∀ b, b < n → col b ≠ c := by
  have h : ∃ M, ∀ b, b < n → col b ≤ M := by
    induction n with
    | zero => exact ⟨0, fun b hb => by omega⟩
    | succ n ih =>
      obtain ⟨M, hM⟩ := ih
      refine ⟨max M (col n), fun b hb => ?_⟩
      rcases Nat.lt_or_ge b n with h1 | h1
      · have := hM b h1; omega
      · obtain rfl : b = n := by omega
        omega
  obtain ⟨M, hM⟩ := h
  exact ⟨M + k + 9, by omega, fun b hb e => by have := hM b hb; omega⟩

/-- Another colouring of what is not the room's. -/
theorem RmIs.recol {w : World} {col col' : Col} {k R : Nat} {r : Rm} (h : RmIs w col k R r) (hcc : ∀ b, (col b = 0 ∨ k + 1 ≤ col b ∧ col b ≤ k + 8) → col' b = col b) : RmIs w col' k R r := by
  have hmv : Move w col w col' := Move.recol fun b _ hb => by rw [hcc b (.inl hb)]; exact hb
  have hr := h.rest
  refine ⟨h.box, (hcc R (.inr (by rw [h.cR]; omega))).trans h.cR, ?_⟩
  have hown : ∀ {c e size n : Nat} {v : SV} {cs : List Value}, OwnC w col c e size v n cs → k + 1 ≤ c → c ≤ k + 8 → OwnC w col' c e size v n cs := fun ho h1 h2 => ⟨ho.row, fun b hb => (hcc b (.inr (by rw [ho.cl b hb]; omega))).trans (ho.cl b hb)⟩
  exact { nodes := hr.nodes, cn := (hcc _ (.inr (by rw [hr.cn]; omega))).trans hr.cn, ends := hr.ends, ce := (hcc _ (.inr (by rw [hr.ce]; omega))).trans hr.ce,
          nd := fun n hn =>
            have hx := hr.nd n hn
            ⟨hx.box, (hcc _ (.inr (by rw [hx.cl]; omega))).trans hx.cl, hx.ev.move hmv, hx.before.move hmv, hx.after.move hmv⟩
          blks := hr.blks, st := hown hr.st (by omega) (by omega), od := hown hr.od (by omega) (by omega), ev := hown hr.ev (by omega) (by omega), rj := hown hr.rj (by omega) (by omega),
          evis := fun e he => (hr.evis e he).move hmv, now := hr.now.move hmv, small := hr.small }

/-- The room behind a change of its staged events' row. -/
theorem RmIs.setSt {w w' : World} {col : Col} {k R : Nat} {r : Rm} (h : RmIs w col k R r) (hk : Keep w col w' col (fun c => c ≠ k + 5)) (v : SV) (l : List ByteArray) (ho : OwnC w' col (k + 5) 9 1 v l.length (l.map Value.string)) (hl : l.length ≤ 4096) :
    RmIs (w'.setCell ⟨R, 2, none⟩ (sv v)) col k R { r with st := v, staged := l } ∧ Keep w col (w'.setCell ⟨R, 2, none⟩ (sv v)) col (fun c => c ≠ k + 5 ∧ c ≠ k + 1) := by
  have hbox : w'.heap[R]? = some (.cells r.cells 60 (0, 0)) := (hk.block R h.lt (by rw [h.cR]; omega)).trans h.box
  have hk2 : Keep w' col (w'.setCell ⟨R, 2, none⟩ (sv v)) col (fun c => c ≠ k + 1) := by
    have := keep_setCell (w := w') (col := col) (g := R) (o := 2) (v := sv v)
    rw [h.cR] at this; exact this
  have h12 : Keep w col (w'.setCell ⟨R, 2, none⟩ (sv v)) col (fun c => c ≠ k + 5 ∧ c ≠ k + 1) := (hk.imp (fun _ h => h.1)).trans (hk2.imp (fun _ h => h.2))
  have hm := h12.move (by omega)
  have hr := h.rest
  refine ⟨⟨setCell_row hbox, h.cR, ?_⟩, h12⟩
  exact { nodes := hr.nodes.block (h12.block _ hr.nodes.lt (by rw [hr.cn]; omega)), cn := hr.cn, ends := hr.ends.block (h12.block _ hr.ends.lt (by rw [hr.ce]; omega)), ce := hr.ce,
          nd := fun n hn => (hr.nd n hn).keep h12 (by omega) (by omega), blks := hr.blks, st := ho.keep hk2 (by omega), od := hr.od.keep h12 (by omega), ev := hr.ev.keep h12 (by omega), rj := hr.rj.keep h12 (by omega),
          evis := fun e he => (hr.evis e he).move hm, now := hr.now.move hm, small := ⟨hr.small.1, hl, hr.small.2.2⟩ }

/-- How far Take's rounds have come. -/
structure LSt (w : World) (col : Col) (k R c : Nat) (L : List (ByteArray × Nat)) (W : World) (col' : Col) (r' : Rm) (v : SV) (dn : List ByteArray) : Prop where
  is : RmIs W col' k R r'
  std : Std W col'
  keep : Keep w col W col' (fun x => outC k x ∧ x ≠ c)
  keys : r'.ns.map nkey = L
  row : OwnC W col' c 9 1 v dn.length (dn.map Value.string)
theorem LSt.cell {w W : World} {col col' : Col} {k R c : Nat} {L : List (ByteArray × Nat)} {r' : Rm} {v : SV} {dn : List ByteArray} (h : LSt w col k R c L W col' r' v dn) (hc : c ≠ 0) {b o : Nat} {x : Value} (hx : w.cell? ⟨b, o, none⟩ = some x) (h0 : col b = 0) : W.cell? ⟨b, o, none⟩ = some x :=
  (cell_of_block (h.keep.block b (World.block_lt_of_cell? _ _ hx) (by rw [h0]; refine ⟨?_, hc.symm⟩; unfold outC; omega)) o).trans hx
theorem LSt.fresh {w W W' : World} {col col' : Col} {k R c : Nat} {L : List (ByteArray × Nat)} {r' : Rm} {v : SV} {dn : List ByteArray} (h : LSt w col k R c L W col' r' v dn) (hf : Fresh W W') : LSt w col k R c L W' col' r' v dn :=
  ⟨h.is.fresh hf, h.std.fresh hf, h.keep.trans (Keep.ofFresh hf), h.keys, h.row.fresh hf⟩
/-- Behind the last round: the row of what was marked is handed out. -/
theorem LSt.out {w W : World} {col col' : Col} {k R c : Nat} {L : List (ByteArray × Nat)} {r' : Rm} {v : SV} {dn : List ByteArray} (h : LSt w col k R c L W col' r' v dn) (hc : k + 8 < c) (hcw : ∀ b, b < w.heap.size → col b ≠ c) (hdn : dn.length ≤ 4294967296) :
    ∃ col2, JSt w col k R W col2 r' ∧ StrSl W col2 (sv v) dn := by
  have hcc : ∀ b, col' b ≠ c → (if col' b = c then 0 else col' b) = col' b := fun b hb => if_neg hb
  refine ⟨fun b => if col' b = c then 0 else col' b, ⟨h.is.recol fun b hb => hcc b (by omega), ⟨fun b hb => ?_, h.std.max, ?_⟩, ⟨h.keep.size, fun b hb hp => h.keep.block b hb ⟨hp, hcw b hb⟩, fun b hb => ?_, h.keep.ot⟩⟩, ?_⟩
  · have := h.std.ok b hb
    show (if col' b = c then 0 else col' b) = 0
    rw [this]; simp
  · have := h.std.c0
    show (if col' 0 = c then 0 else col' 0) = 0
    rw [this]; simp
  · have h1 := h.keep.color b hb
    show (if col' b = c then 0 else col' b) = col b
    rw [h1]; exact if_neg (hcw b hb)
  · have hr := h.row.row
    refine ⟨by rw [List.length_map, Nat.mul_one], hdn, ?_⟩
    rcases hr.2 with ⟨h1, h2⟩ | ⟨g, cap, cur, h1, _, hh, hnc, hcm, _⟩
    · exact .inl ⟨h1, h2⟩
    · refine .inr ⟨g, 0, cap, h1, hnc, hcm, box_lt hh, ?_, fun j hj => ?_⟩
      · have := h.row.cl g (by rw [h1]; rfl)
        show (if col' g = c then 0 else col' g) = 0
        rw [if_pos this]
      · rw [h1] at hr
        rw [Nat.zero_add]
        exact World.ownsRow.cellAt hr j hj
/-- Behind the change of the staged events' row, and the judging of one. -/
theorem LSt.turn {w W W' : World} {col col' col2 : Col} {k R c : Nat} {L : List (ByteArray × Nat)} {r' r2 : Rm} {v : SV} {dn : List ByteArray} (h : LSt w col k R c L W col' r' v dn) (hc : k + 8 < c) (hi : RmIs W' col2 k R r2) (hs : Std W' col2) (hk : Keep W col' W' col2 (outC k)) (hkeys : r2.ns.map nkey = r'.ns.map nkey) :
    LSt w col k R c L W' col2 r2 v dn :=
  ⟨hi, hs, h.keep.trans (hk.imp fun _ h => h.1), hkeys.trans h.keys, h.row.keep hk (by unfold outC; omega)⟩
/-- Behind an append onto the row of what was marked. -/
theorem LSt.app {w W W' : World} {col col' : Col} {k R c : Nat} {L : List (ByteArray × Nat)} {r' : Rm} {v v' : SV} {dn : List ByteArray} (h : LSt w col k R c L W col' r' v dn) (hc : k + 8 < c) (id : ByteArray)
    (hrow : W'.ownsRow 0 9 1 (sv v') (dn.length + 1) (dn.map Value.string ++ [.string id])) (hg : W.grownBy W' (sv v).ownBlock) (hb : (sv v').ownBlock = (sv v).ownBlock ∨ (sv v').ownBlock = some W.heap.size) :
    ∃ col2, LSt w col k R c L W' col2 r' v' (dn ++ [id]) := by
  obtain ⟨col2, h1, h2, h3⟩ := OwnC.app h.row (m := dn.length + 1) (cs' := (dn ++ [id]).map Value.string) (by simpa using hrow) hg hb (by omega) h.std
  refine ⟨col2, h.is.keep h2 (fun x hx => by omega), h3, h.keep.trans (h2.imp fun _ h => h.2), h.keys, by simpa using h1⟩
end Go.Proofs.YtmjclmmiljlahaaGreat
