/-
  Parts of a proof: Take: judged; what is missing; the examples as data. No condition.
-/
import Derived.Test.YtmjclmmiljlahaaGreatG7
set_option linter.unusedVariables false
set_option linter.unusedSimpArgs false
namespace Go.Proofs.YtmjclmmiljlahaaGreat
open Go.RowKit

theorem delete_first {w : World} {col : Col} {c : Nat} {v : SV} {id : ByteArray} {rest : List ByteArray} (h : OwnC w col c 9 1 v (id :: rest).length ((id :: rest).map Value.string)) :
    Calls Tryz.prog 30 #[sv v, .int .i64 0, .int .i64 1] w fun e w' => ∃ v' : SV, e = .returned (sv v') ∧ OwnC w' col c 9 1 v' rest.length (rest.map Value.string) ∧ Keep w col w' col (fun x => x ≠ c) := by
  have := delete_one h 0 (by simp)
  refine Calls.mono this ?_
  rintro e w' ⟨v', rfl, _, h1, h2⟩
  exact ⟨v', rfl, h1, h2⟩

set_option maxRecDepth 100000 in
set_option maxHeartbeats 3200000 in
/-- Take, of an event that is ready: it is judged, and what waited for it. -/
theorem take_judged {w : World} {col : Col} {k R : Nat} {r : Rm} (h : RmIs w col k R r) (hcol : Std w col) (e : EV) (he : EvIs w col e) (hid : e.d.id ≠ ⟨#[]⟩) (hroom : e.d.room = r.name) (hself : (e.d.prev ++ e.d.auth).any (fun x => decide (e.d.id = x)) = false) (hnone : r.find e.d.id = none) (hrd : readyF r e.d = true) (hns : r.ns.length < 4096) (d1 dfin : RmD) (more : List ByteArray) (hjd : JudgeD { r.d with ns := r.d.ns ++ [⟨e.d, 1, [], []⟩] } e.d.id d1) (hrun : TakeRun d1 more dfin) (hml : more.length ≤ 4000) :
    Calls Tryz.prog 8 #[.pointer (some ⟨R, 0, none⟩), evV e] w fun x w' => ∃ (col' : Col) (r' : Rm) (v : SV), x = .returned (.tuple #[.int .i64 (dfin.mark e.d.id), sv v, .nilIface]) ∧ JSt w col k R w' col' r' ∧ r'.d = dfin ∧ StrSl w' col' (sv v) more := by
  have hn1 : (e.d.id.toList == []) = false := by rw [beq_lit]; exact decide_eq_false hid
  have hn2 : e.d.id.toList.isEmpty = false := by rw [empty_iff]; exact decide_eq_false hid
  have hr0 : w.cell? ⟨R, 0, none⟩ = some (.string e.d.room) := by rw [hroom]; exact h.c0
  have hRl := h.lt
  have HH := Lib.hid h; have He := Lib.hid he; have Hself := Lib.hid hself; have Hid' := Lib.hid hid
  have Hn := Lib.hid hnone; have Hrd := Lib.hid hrd; have Hns := Lib.hid hns; have Hjd := Lib.hid hjd; have Hrun := Lib.hid hrun; have Hml := Lib.hid hml
  clear h he hself hid hroom hnone hrd hns hjd hrun hml
  dsimp only [evV]
  go_enter Tryz.func8, Tryz.ntmps8
  go_wp2_with fail
  refine hideWorld _ (fun W => W.cell? ⟨w.heap.size, 0, none⟩ = some (.pointer (some ⟨R, 0, none⟩)) ∧ W.heap[w.heap.size + 1]? = some (.cells e.cells 38 (0, 0)) ∧ Fresh w W) _ ⟨by go_simp, heap_alloc_at (by simp), ((Fresh.rfl' w).alloc (Nat.le_refl _) _).alloc (by simp) _⟩ ?_
  rintro W0 ⟨hb0, hb1, hf0⟩
  have HF0 := Lib.hid hf0
  have hS : ∀ W, Fresh W0 W → W.cell? ⟨w.heap.size, 0, none⟩ = some (.pointer (some ⟨R, 0, none⟩)) ∧ W.cell? ⟨w.heap.size + 1, 0, none⟩ = some (.string e.d.id) ∧ W.cell? ⟨w.heap.size + 1, 2, none⟩ = some (.string e.d.room) ∧ W.cell? ⟨R, 0, none⟩ = some (.string e.d.room) ∧ Hid (∀ j, j < e.cells.size → W.cell? ⟨w.heap.size + 1, 0 + j, none⟩ = e.cells[j]?) := fun W hW =>
    have h1 : W.heap[w.heap.size + 1]? = some (.cells e.cells 38 (0, 0)) := (hW.blocks _ (box_lt hb1)).trans hb1
    ⟨hW.keep hb0, by simp only [World.cell?, h1]; rfl, by simp only [World.cell?, h1]; rfl, hW.keep (hf0.keep hr0), fun j hj => by simp only [World.cell?, h1, Nat.zero_add]; simp⟩
  have HS := Lib.hid hS
  have hnd : ∀ W, Fresh W0 W → Calls Tryz.prog 24 #[.agg e.cells] W fun r w' => ∃ v', r = .returned v' ∧ StrSl w' col v' (e.d.prev ++ e.d.auth) ∧ Fresh W w' := fun W hW => needs_any e col W (hcol.fresh (fcomp hf0 hW)) (He.out.fresh (fcomp hf0 hW))
  have Hnd := Lib.hid hnd
  clear hS hb0 hb1 hf0 hnd hr0
  refine wp_region_held_drew (S := fun W => W.cell? ⟨w.heap.size, 0, none⟩ = some (.pointer (some ⟨R, 0, none⟩)) ∧ W.cell? ⟨w.heap.size + 1, 0, none⟩ = some (.string e.d.id) ∧ W.cell? ⟨w.heap.size + 1, 2, none⟩ = some (.string e.d.room) ∧ W.cell? ⟨R, 0, none⟩ = some (.string e.d.room) ∧ Hid (∀ j, j < e.cells.size → W.cell? ⟨w.heap.size + 1, 0 + j, none⟩ = e.cells[j]?)) (by kernel_rfl) ?_ (fun hHeld => ?_)
  · exact HS.out _ (Fresh.rfl' W0).drew
  refine wpAnyH_take (i := 0) (oi := { dst := some 13, op := .fieldAddr 38 (.tmp 3) 0, type := 0, pos := "dag.go:85", after := #[], guard := none }) (v := ?_) rfl (by kernel_rfl) (by kernel_rfl) (by kernel_rfl) (fun _ _ _ h => h) (Or.inl ⟨by rfl, ?_⟩) (by assumption) ?_
  rotate_left 1
  · intro W hSw
    obtain ⟨s1, s2, s3, s4, s5⟩ := hSw
    go_simp
    try with_reducible rfl
  try simp only [Act.put, List.setIfInBounds_toArray, List.set_cons_zero, List.set_cons_succ]
  refine wpAnyH_take (i := 1) (oi := { dst := some 14, op := .load 9 (.tmp 13), type := 9, pos := "dag.go:85", after := #[{ on := 0, ground := .data }], guard := none }) (v := ?_) rfl (by kernel_rfl) (by kernel_rfl) (by kernel_rfl) (fun _ _ _ h => h) (Or.inl ⟨by rfl, ?_⟩) (by assumption) ?_
  rotate_left 1
  · intro W hSw
    obtain ⟨s1, s2, s3, s4, s5⟩ := hSw
    go_simp
    try with_reducible rfl
  try simp only [Act.put, List.setIfInBounds_toArray, List.set_cons_zero, List.set_cons_succ]
  refine wpAnyH_take (i := 2) (oi := { dst := some 15, op := .binOp Go.BinOp.eql 9 (.tmp 14) (.const (Go.Value.string { data := #[] })) 9, type := 4, pos := "dag.go:85", after := #[{ on := 1, ground := .data }], guard := none }) (v := ?_) rfl (by kernel_rfl) (by kernel_rfl) (by kernel_rfl) (fun _ _ _ h => h) (Or.inl ⟨by rfl, ?_⟩) (by assumption) ?_
  rotate_left 1
  · intro W hSw
    obtain ⟨s1, s2, s3, s4, s5⟩ := hSw
    go_simp
    try with_reducible rfl
  try simp only [Act.put, List.setIfInBounds_toArray, List.set_cons_zero, List.set_cons_succ]
  refine wpAnyH_take (i := 3) (oi := { dst := some 16, op := .move (.tmp 15), type := 4, pos := "dag.go:85", after := #[{ on := 2, ground := .data }], guard := none }) (v := ?_) rfl (by kernel_rfl) (by kernel_rfl) (by kernel_rfl) (fun _ _ _ h => h) (Or.inl ⟨by rfl, ?_⟩) (by assumption) ?_
  rotate_left 1
  · intro W hSw
    obtain ⟨s1, s2, s3, s4, s5⟩ := hSw
    go_simp
    try with_reducible rfl
  try simp only [Act.put, List.setIfInBounds_toArray, List.set_cons_zero, List.set_cons_succ]
  refine wpAnyH_take (i := 4) (oi := { dst := some 17, op := .fieldAddr 38 (.tmp 3) 2, type := 0, pos := "dag.go:85", after := #[{ on := 3, ground := .guard }], guard := some (3, false) }) (v := ?_) rfl (by kernel_rfl) (by kernel_rfl) (by kernel_rfl) (fun _ _ _ h => h) (Or.inl ⟨by rfl, ?_⟩) (by assumption) ?_
  rotate_left 1
  · intro W hSw
    obtain ⟨s1, s2, s3, s4, s5⟩ := hSw
    go_simp
    try with_reducible rfl
  try simp only [Act.put, List.setIfInBounds_toArray, List.set_cons_zero, List.set_cons_succ]
  refine wpAnyH_take (i := 5) (oi := { dst := some 18, op := .load 9 (.tmp 17), type := 9, pos := "dag.go:85", after := #[{ on := 4, ground := .data }, { on := 3, ground := .guard }], guard := some (3, false) }) (v := ?_) rfl (by kernel_rfl) (by kernel_rfl) (by kernel_rfl) (fun _ _ _ h => h) (Or.inl ⟨by rfl, ?_⟩) (by assumption) ?_
  rotate_left 1
  · intro W hSw
    obtain ⟨s1, s2, s3, s4, s5⟩ := hSw
    go_simp
    try with_reducible rfl
  try simp only [Act.put, List.setIfInBounds_toArray, List.set_cons_zero, List.set_cons_succ]
  refine wpAnyH_take (i := 6) (oi := { dst := some 19, op := .load 23 (.tmp 2), type := 23, pos := "dag.go:85", after := #[{ on := 3, ground := .guard }], guard := some (3, false) }) (v := ?_) rfl (by kernel_rfl) (by kernel_rfl) (by kernel_rfl) (fun _ _ _ h => h) (Or.inl ⟨by rfl, ?_⟩) (by assumption) ?_
  rotate_left 1
  · intro W hSw
    obtain ⟨s1, s2, s3, s4, s5⟩ := hSw
    go_simp
    try with_reducible rfl
  try simp only [Act.put, List.setIfInBounds_toArray, List.set_cons_zero, List.set_cons_succ]
  refine wpAnyH_take (i := 7) (oi := { dst := some 20, op := .nilCheck (.tmp 19), type := 0, pos := "dag.go:85", after := #[{ on := 6, ground := .data }, { on := 3, ground := .guard }], guard := some (3, false) }) (v := ?_) rfl (by kernel_rfl) (by kernel_rfl) (by kernel_rfl) (fun _ _ _ h => h) (Or.inl ⟨by rfl, ?_⟩) (by assumption) ?_
  rotate_left 1
  · intro W hSw
    obtain ⟨s1, s2, s3, s4, s5⟩ := hSw
    go_simp
    try with_reducible rfl
  try simp only [Act.put, List.setIfInBounds_toArray, List.set_cons_zero, List.set_cons_succ]
  refine wpAnyH_take (i := 8) (oi := { dst := some 21, op := .fieldAddr 60 (.tmp 20) 0, type := 0, pos := "dag.go:85", after := #[{ on := 7, ground := .data }, { on := 3, ground := .guard }], guard := some (3, false) }) (v := ?_) rfl (by kernel_rfl) (by kernel_rfl) (by kernel_rfl) (fun _ _ _ h => h) (Or.inl ⟨by rfl, ?_⟩) (by assumption) ?_
  rotate_left 1
  · intro W hSw
    obtain ⟨s1, s2, s3, s4, s5⟩ := hSw
    go_simp
    try with_reducible rfl
  try simp only [Act.put, List.setIfInBounds_toArray, List.set_cons_zero, List.set_cons_succ]
  refine wpAnyH_take (i := 9) (oi := { dst := some 22, op := .load 9 (.tmp 21), type := 9, pos := "dag.go:85", after := #[{ on := 8, ground := .data }, { on := 3, ground := .guard }], guard := some (3, false) }) (v := ?_) rfl (by kernel_rfl) (by kernel_rfl) (by kernel_rfl) (fun _ _ _ h => h) (Or.inl ⟨by rfl, ?_⟩) (by assumption) ?_
  rotate_left 1
  · intro W hSw
    obtain ⟨s1, s2, s3, s4, s5⟩ := hSw
    go_simp
    try with_reducible rfl
  try simp only [Act.put, List.setIfInBounds_toArray, List.set_cons_zero, List.set_cons_succ]
  refine wpAnyH_take (i := 10) (oi := { dst := some 23, op := .binOp Go.BinOp.neq 9 (.tmp 18) (.tmp 22) 9, type := 4, pos := "dag.go:85", after := #[{ on := 5, ground := .data }, { on := 9, ground := .data }, { on := 3, ground := .guard }], guard := some (3, false) }) (v := ?_) rfl (by kernel_rfl) (by kernel_rfl) (by kernel_rfl) (fun _ _ _ h => h) (Or.inl ⟨by rfl, ?_⟩) (by assumption) ?_
  rotate_left 1
  · intro W hSw
    obtain ⟨s1, s2, s3, s4, s5⟩ := hSw
    go_simp
    try with_reducible rfl
  try simp only [Act.put, List.setIfInBounds_toArray, List.set_cons_zero, List.set_cons_succ]
  refine wpAnyH_take (i := 11) (oi := { dst := some 24, op := .pick (.tmp 16) (.const (Go.Value.bool true)) (.tmp 23), type := 4, pos := "dag.go:85", after := #[{ on := 3, ground := .data }, { on := 10, ground := .data }], guard := none }) (v := ?_) rfl (by kernel_rfl) (by kernel_rfl) (by kernel_rfl) (fun _ _ _ h => h) (Or.inl ⟨by rfl, ?_⟩) (by assumption) ?_
  rotate_left 1
  · intro W hSw
    obtain ⟨s1, s2, s3, s4, s5⟩ := hSw
    go_simp
    try with_reducible rfl
  try simp only [Act.put, List.setIfInBounds_toArray, List.set_cons_zero, List.set_cons_succ]
  refine wpAnyH_take (i := 12) (oi := { dst := some 25, op := .move (.tmp 24), type := 4, pos := "dag.go:85", after := #[{ on := 11, ground := .data }, { on := 3, ground := .chain }], guard := none }) (v := ?_) rfl (by kernel_rfl) (by kernel_rfl) (by kernel_rfl) (fun _ _ _ h => h) (Or.inl ⟨by rfl, ?_⟩) (by assumption) ?_
  rotate_left 1
  · intro W hSw
    obtain ⟨s1, s2, s3, s4, s5⟩ := hSw
    go_simp
    try with_reducible rfl
  try simp only [Act.put, List.setIfInBounds_toArray, List.set_cons_zero, List.set_cons_succ]
  refine wpAnyH_take (i := 13) (oi := { dst := some 26, op := .load 38 (.tmp 3), type := 38, pos := "dag.go:85", after := #[{ on := 12, ground := .guard }], guard := some (12, false) }) (v := .agg e.cells) rfl (by kernel_rfl) (by kernel_rfl) (by kernel_rfl) (fun _ _ _ h => h)
    (yieldsIf_load_cells (by rfl) 38 (.tmp 3) rfl (w.heap.size + 1) 0 rfl e.cells (fun W hW => hW.2.2.2.2.out) _ Tryz.underlying38 rfl info38s) (by assumption) ?_
  try simp only [Act.put, List.setIfInBounds_toArray, List.set_cons_zero, List.set_cons_succ]
  refine wpAnyH_take (i := 15) (oi := { dst := some 28, op := .fieldAddr 38 (.tmp 3) 0, type := 0, pos := "dag.go:85", after := #[{ on := 12, ground := .guard }], guard := some (12, false) }) (v := ?_) rfl (by kernel_rfl) (by kernel_rfl) (by kernel_rfl) (fun _ _ _ h => h) (Or.inl ⟨by rfl, ?_⟩) (by assumption) ?_
  rotate_left 1
  · intro W hSw
    obtain ⟨s1, s2, s3, s4, s5⟩ := hSw
    go_simp
    try with_reducible rfl
  try simp only [Act.put, List.setIfInBounds_toArray, List.set_cons_zero, List.set_cons_succ]
  refine wpAnyH_take (i := 16) (oi := { dst := some 29, op := .load 9 (.tmp 28), type := 9, pos := "dag.go:85", after := #[{ on := 15, ground := .data }, { on := 12, ground := .guard }], guard := some (12, false) }) (v := ?_) rfl (by kernel_rfl) (by kernel_rfl) (by kernel_rfl) (fun _ _ _ h => h) (Or.inl ⟨by rfl, ?_⟩) (by assumption) ?_
  rotate_left 1
  · intro W hSw
    obtain ⟨s1, s2, s3, s4, s5⟩ := hSw
    go_simp
    try with_reducible rfl
  try simp only [Act.put, List.setIfInBounds_toArray, List.set_cons_zero, List.set_cons_succ]
  refine wpAnyH_ready (rs := [14]) (by kernel_rfl) (by simp) ?_
  refine AllReadyH.cons (o := { dst := some 27, op := .call { callee := Go.Callee.value (.func 24), args := #[.tmp 26], argTypes := #[38] }, type := 30, pos := "dag.go:85", after := #[{ on := 13, ground := .data }, { on := 12, ground := .chain }, { on := 12, ground := .guard }], guard := some (12, false) }) rfl (fun K hK => ?_) AllReadyH.nil
  go_simp
  go_at_call 24
  refine (Hnd.out _ (Fresh.rfl' W0).drew).mono ?_
  rintro x1 w1 ⟨v1, rfl, hv1, hf1⟩
  have HF1 : Hid (Fresh W0 w1) := hf1.ofDrew
  have hcn := contains_str v1 _ e.d.id col w1 hv1
  rw [Hself.out] at hcn
  have Hcn := Lib.hid hcn
  clear hf1 hv1 hcn
  try dsimp only
  refine hK.out _ _ (HS.out _ HF1.out) (fun hHeld => ?_)
  clear hK K
  try simp only [Act.put, List.setIfInBounds_toArray, List.set_cons_zero, List.set_cons_succ]
  refine wpAnyH_ready (rs := [17]) (by kernel_rfl) (by simp) ?_
  refine AllReadyH.cons (o := { dst := some 30, op := .call { callee := Go.Callee.value (.func 23), args := #[.tmp 27, .tmp 29], argTypes := #[30, 9] }, type := 4, pos := "dag.go:85", after := #[{ on := 14, ground := .data }, { on := 16, ground := .data }, { on := 14, ground := .chain }, { on := 12, ground := .guard }], guard := some (12, false) }) rfl (fun K hK => ?_) AllReadyH.nil
  go_simp
  go_at_call 23
  refine Hcn.out.mono ?_
  rintro x2 w2 ⟨rfl, rfl⟩
  try dsimp only
  refine hK.out _ _ (HS.out _ HF1.out) (fun hHeld => ?_)
  clear hK K
  try simp only [Act.put, List.setIfInBounds_toArray, List.set_cons_zero, List.set_cons_succ]
  refine wpAnyH_take (i := 18) (oi := { dst := some 31, op := .pick (.tmp 25) (.const (Go.Value.bool true)) (.tmp 30), type := 4, pos := "dag.go:85", after := #[{ on := 12, ground := .data }, { on := 17, ground := .data }], guard := none }) (v := ?_) rfl (by kernel_rfl) (by kernel_rfl) (by kernel_rfl) (fun _ _ _ h => h) (Or.inl ⟨by rfl, ?_⟩) (by assumption) ?_
  rotate_left 1
  · intro W hSw
    obtain ⟨s1, s2, s3, s4, s5⟩ := hSw
    go_simp
    try with_reducible rfl
  try simp only [Act.put, List.setIfInBounds_toArray, List.set_cons_zero, List.set_cons_succ]
  refine wpAnyH_take (i := 19) (oi := { dst := some 12, op := .assign (.tmp 31), type := 4, pos := "dag.go:85", after := #[{ on := 18, ground := .data }, { on := 17, ground := .chain }], guard := none }) (v := ?_) rfl (by kernel_rfl) (by kernel_rfl) (by kernel_rfl) (fun _ _ _ h => h) (Or.inl ⟨by rfl, ?_⟩) (by assumption) ?_
  rotate_left 1
  · intro W hSw
    obtain ⟨s1, s2, s3, s4, s5⟩ := hSw
    go_simp
    try with_reducible rfl
  try simp only [Act.put, List.setIfInBounds_toArray, List.set_cons_zero, List.set_cons_succ]
  refine wpAnyH_done (by kernel_rfl) ?_ _
  clear Hcn Hnd Hself hn1 hn2
  go_wp2_with fail
  have hlk := look_node (HH.out.fresh (fcomp HF0.out HF1.out.drew)) e.d.id
  rw [Hn.out] at hlk
  dsimp only at hlk
  have hS3 := HS.out _ HF1.out.drew
  have c0 := hS3.1; have c1 := hS3.2.1
  have cR := (HH.out.fresh (fcomp HF0.out HF1.out.drew)).c1
  clear hS3
  refine wp_region_still_tail 8 (by kernel_rfl) (by kernel_rfl) ?_
  simp only [List.take_succ_cons, List.take_zero, List.drop_succ_cons, List.drop_zero]
  iterate 8 still_step
  refine wpStill_nil ?_
  go_wp2_with (with_reducible refine stop_op (.load 38 (.tmp 3)) rfl ?_)
  refine Stand.go ?_
  refine wpList_load_cells rfl 38 (.tmp 3) rfl (w.heap.size + 1) 0 rfl e.cells (HS.out _ HF1.out.drew).2.2.2.2.out _ Tryz.underlying38 rfl info38s ?_
  go_wp2_with fail
  refine (ready_any (HH.out.fresh (fcomp HF0.out HF1.out.drew)) e (hcol.fresh (fcomp HF0.out HF1.out.drew)) (He.out.fresh (fcomp HF0.out HF1.out.drew))).mono ?_
  rintro x3 w3 ⟨rfl, hf3⟩
  have HF3 : Hid (Fresh W0 w3) := fcomp HF1.out.drew hf3
  rw [Hrd.out]
  clear hlk c0 c1 cR hf3
  have hS3 := HS.out _ HF3.out
  have c0 := hS3.1; have c1 := hS3.2.1
  have HC := Lib.hid hS3
  have hst := own_len HH.out.rest.st.row
  have cR := (HH.out.fresh (fcomp HF0.out HF3.out)).c1
  have cR2 := (HH.out.fresh (fcomp HF0.out HF3.out)).c2
  rw [hst] at cR2
  have hns : ¬ ((4096 : Int) ≤ (r.ns.length : Int)) := by have := Hns.out; omega
  clear hS3 hst
  go_wp2_with (at_len; refine Stand.stop ?_)
  refine Stand.go ?_
  refine wpList_len_map rfl (.tmp 49) 57 9 63 rfl Tryz.underlying57 rfl (HH.out.fresh (fcomp HF0.out HF3.out)).rest.nodes r.ns.length (by simp) ?_
  have HB0 : Hid (W0.cell? ⟨w.heap.size, 0, none⟩ = some (.pointer (some ⟨R, 0, none⟩)) ∧ col w.heap.size = 0) := ⟨(HS.out _ (Fresh.rfl' _)).1, hcol.ok _ (Nat.le_refl _)⟩
  have HB1 : Hid (W0.cell? ⟨w.heap.size + 1, 0, none⟩ = some (.string e.d.id) ∧ col (w.heap.size + 1) = 0) := ⟨(HS.out _ (Fresh.rfl' _)).2.1, hcol.ok _ (Nat.le_succ _)⟩
  go_wp2_with (with_reducible refine stop_op (.load 38 (.tmp 3)) rfl ?_)
  refine Stand.go ?_
  refine wpList_load_cells rfl 38 (.tmp 3) rfl (w.heap.size + 1) 0 rfl e.cells HC.out.2.2.2.2.out _ Tryz.underlying38 rfl info38s ?_
  go_wp2_with fail
  refine (own_any e col w3 (hcol.fresh (fcomp HF0.out HF3.out)) (He.out.fresh (fcomp HF0.out HF3.out))).mono ?_
  rintro x4 w4 ⟨e', rfl, hde, hee, hf4⟩
  have HF4 : Hid (Fresh W0 w4) := fcomp HF3.out hf4
  have Hde := Lib.hid hde; have Hee := Lib.hid hee
  clear hde hee hf4 c0 c1 HC cR cR2
  go_wp2_with (with_reducible refine stop_op (.build 67 #[(0, .tmp 66), (1, .const (.int .i64 1))]) rfl ?_)
  refine Stand.go ?_
  refine wpList_build67 rfl (.tmp 66) 1 rfl e' rfl ?_
  refine wpList_box67 rfl (.tmp 67) rfl e' 1 rfl ?_
  obtain ⟨col5, h51, h52, h53, h54⟩ := (HH.out.fresh (fcomp HF0.out HF4.out)).newNd (hcol.fresh (fcomp HF0.out HF4.out)) e' Hee.out
  have hnew : ∀ x ∈ r.ns, x.blk ≠ w4.heap.size := fun x hx => Nat.ne_of_lt ((HH.out.fresh (fcomp HF0.out HF4.out)).rest.nd x hx).lt
  refine hideWorld _ (fun W => JSt W0 col k R W col5 r ∧ NdIs W col5 k ⟨w4.heap.size, e', 1, .nil, [], .nil, []⟩) _ ⟨⟨h51, h52, (Keep.ofFresh HF4.out).trans (h54.imp fun _ _ => trivial)⟩, h53⟩ ?_
  clear h51 h52 h53 h54
  rintro W5 ⟨h5, h53⟩
  obtain ⟨blk, hblk⟩ : ∃ x, x = w4.heap.size := ⟨_, rfl⟩
  rw [← hblk] at hnew h53
  rw [← hblk]
  have c0 := h5.cell HB0.out.1 HB0.out.2; have c1 := h5.cell HB1.out.1 HB1.out.2
  have cR := h5.is.c1
  have h5d := h5.fresh (Fresh.rfl' W5).drew
  obtain ⟨ob, hup, hm2⟩ := run_update_map (w := W5.drew) strKey Tryz.underlying57 h5d.is.rest.nodes e.d.id (.pointer (some ⟨blk, 0, none⟩))
  have hidN : Nd.id ⟨blk, e', 1, .nil, [], .nil, []⟩ = e.d.id := by unfold Nd.id; rw [Hde.out]
  have hadd := h5d.is.addNd ⟨blk, e', 1, .nil, [], .nil, []⟩ (h53.keep (p := fun _ => True) (Keep.ofFresh (Fresh.rfl' W5).drew) trivial trivial) hnew (by rw [hidN]; exact Hn.out) Hns.out ob (by rw [hidN]; exact hm2)
  have HJ6 : Hid (JSt W0 col k R (World.setObj' W5.drew r.nm ob) col5 { r with ns := r.ns ++ [⟨blk, e', 1, .nil, [], .nil, []⟩] }) :=
    ⟨hadd.1, h5d.std.keep hadd.2 (by omega), h5d.keep.trans (hadd.2.imp fun c hc => by unfold outC at hc; omega)⟩
  have hS : ∀ W, Fresh W5 W → W.cell? ⟨w.heap.size, 0, none⟩ = some (.pointer (some ⟨R, 0, none⟩)) ∧ W.cell? ⟨w.heap.size + 1, 0, none⟩ = some (.string e.d.id) ∧ W.cell? ⟨R, 1, none⟩ = some (.map (some r.nm)) := fun W hW => ⟨hW.keep c0, hW.keep c1, hW.keep cR⟩
  have HS5 := Lib.hid hS
  clear c0 c1 cR h5 h5d h53 hm2 hidN hadd hS hnew hblk HH He HS HF1 HF3 HF4 Hee
  go_wp2_with fail
  refine wp_region_T (fun W => W.cell? ⟨w.heap.size, 0, none⟩ = some (.pointer (some ⟨R, 0, none⟩)) ∧ W.cell? ⟨w.heap.size + 1, 0, none⟩ = some (.string e.d.id) ∧ W.cell? ⟨R, 1, none⟩ = some (.map (some r.nm))) 7 (by kernel_rfl) ?_ (fun hHeld => ?_)
  · exact HS5.out _ (Fresh.rfl' W5).drew
  refine wpAnyT_take (i := 0) (oi := { dst := some 69, op := .load 23 (.tmp 2), type := 23, pos := "dag.go:95", after := #[], guard := none }) (v := ?_) rfl (by kernel_rfl) (by kernel_rfl) (by kernel_rfl) (by kernel_rfl) (fun _ _ _ h => h) (Or.inl ⟨by rfl, ?_⟩) (by assumption) ?_
  rotate_left 1
  · intro W hSw
    obtain ⟨s1, s2, s3⟩ := hSw
    go_simp
    try with_reducible rfl
  try simp only [Act.put, List.setIfInBounds_toArray, List.set_cons_zero, List.set_cons_succ]
  refine wpAnyT_take (i := 1) (oi := { dst := some 70, op := .nilCheck (.tmp 69), type := 0, pos := "dag.go:95", after := #[{ on := 0, ground := .data }], guard := none }) (v := ?_) rfl (by kernel_rfl) (by kernel_rfl) (by kernel_rfl) (by kernel_rfl) (fun _ _ _ h => h) (Or.inl ⟨by rfl, ?_⟩) (by assumption) ?_
  rotate_left 1
  · intro W hSw
    obtain ⟨s1, s2, s3⟩ := hSw
    go_simp
    try with_reducible rfl
  try simp only [Act.put, List.setIfInBounds_toArray, List.set_cons_zero, List.set_cons_succ]
  refine wpAnyT_take (i := 2) (oi := { dst := some 71, op := .fieldAddr 60 (.tmp 70) 1, type := 0, pos := "dag.go:95", after := #[{ on := 1, ground := .data }], guard := none }) (v := ?_) rfl (by kernel_rfl) (by kernel_rfl) (by kernel_rfl) (by kernel_rfl) (fun _ _ _ h => h) (Or.inl ⟨by rfl, ?_⟩) (by assumption) ?_
  rotate_left 1
  · intro W hSw
    obtain ⟨s1, s2, s3⟩ := hSw
    go_simp
    try with_reducible rfl
  try simp only [Act.put, List.setIfInBounds_toArray, List.set_cons_zero, List.set_cons_succ]
  refine wpAnyT_take (i := 3) (oi := { dst := some 72, op := .load 57 (.tmp 71), type := 57, pos := "dag.go:95", after := #[{ on := 2, ground := .data }], guard := none }) (v := ?_) rfl (by kernel_rfl) (by kernel_rfl) (by kernel_rfl) (by kernel_rfl) (fun _ _ _ h => h) (Or.inl ⟨by rfl, ?_⟩) (by assumption) ?_
  rotate_left 1
  · intro W hSw
    obtain ⟨s1, s2, s3⟩ := hSw
    go_simp
    try with_reducible rfl
  try simp only [Act.put, List.setIfInBounds_toArray, List.set_cons_zero, List.set_cons_succ]
  refine wpAnyT_take (i := 4) (oi := { dst := some 73, op := .fieldAddr 38 (.tmp 3) 0, type := 0, pos := "dag.go:95", after := #[], guard := none }) (v := ?_) rfl (by kernel_rfl) (by kernel_rfl) (by kernel_rfl) (by kernel_rfl) (fun _ _ _ h => h) (Or.inl ⟨by rfl, ?_⟩) (by assumption) ?_
  rotate_left 1
  · intro W hSw
    obtain ⟨s1, s2, s3⟩ := hSw
    go_simp
    try with_reducible rfl
  try simp only [Act.put, List.setIfInBounds_toArray, List.set_cons_zero, List.set_cons_succ]
  refine wpAnyT_take (i := 5) (oi := { dst := some 74, op := .load 9 (.tmp 73), type := 9, pos := "dag.go:95", after := #[{ on := 4, ground := .data }], guard := none }) (v := ?_) rfl (by kernel_rfl) (by kernel_rfl) (by kernel_rfl) (by kernel_rfl) (fun _ _ _ h => h) (Or.inl ⟨by rfl, ?_⟩) (by assumption) ?_
  rotate_left 1
  · intro W hSw
    obtain ⟨s1, s2, s3⟩ := hSw
    go_simp
    try with_reducible rfl
  try simp only [Act.put, List.setIfInBounds_toArray, List.set_cons_zero, List.set_cons_succ]
  refine wpAnyT_take (i := 6) (oi := { dst := some 75, op := .move (.tmp 8), type := 63, pos := "dag.go:95", after := #[], guard := none }) (v := ?_) rfl (by kernel_rfl) (by kernel_rfl) (by kernel_rfl) (by kernel_rfl) (fun _ _ _ h => h) (Or.inl ⟨by rfl, ?_⟩) (by assumption) ?_
  rotate_left 1
  · intro W hSw
    obtain ⟨s1, s2, s3⟩ := hSw
    go_simp
    try with_reducible rfl
  try simp only [Act.put, List.setIfInBounds_toArray, List.set_cons_zero, List.set_cons_succ]
  refine wpAnyT_last (o := { dst := none, op := .mapUpdate 57 (.tmp 72) (.tmp 74) (.tmp 75), type := 0, pos := "dag.go:95", after := #[{ on := 3, ground := .data }, { on := 5, ground := .data }, { on := 6, ground := .data }, { on := 0, ground := .phase }, { on := 1, ground := .phase }, { on := 2, ground := .phase }, { on := 3, ground := .phase }, { on := 4, ground := .phase }, { on := 5, ground := .phase }, { on := 6, ground := .phase }], guard := none }) (by kernel_rfl) rfl (fun K hK => ?_)
  go_simp
  refine hK.out _ _ ?_
  clear hK K
  try simp only [Act.put, List.setIfInBounds_toArray, List.set_cons_zero, List.set_cons_succ]
  refine wpAnyT_done (by kernel_rfl) ?_ _
  clear hup HS5
  refine hideWorld _ (fun W => JSt W0 col k R W col5 { r with ns := r.ns ++ [⟨blk, e', 1, .nil, [], .nil, []⟩] }) _ HJ6.out ?_
  clear HJ6
  intro W6 hj6
  have HJ6 := Lib.hid hj6
  have b0 := hj6.cell HB0.out.1 HB0.out.2; have b1 := hj6.cell HB1.out.1 HB1.out.2
  clear hj6
  clear hns
  have hidN : Nd.id ⟨blk, e', 1, .nil, [], .nil, []⟩ = e.d.id := by unfold Nd.id; rw [Hde.out]
  have hrd1 : Rm.d { r with ns := r.ns ++ [⟨blk, e', 1, .nil, [], .nil, []⟩] } = { r.d with ns := r.d.ns ++ [⟨e.d, 1, [], []⟩] } := by
    unfold Rm.d
    simp only [List.map_append, List.map_cons, List.map_nil, Nd.d, Hde.out]
  have hju := Hjd.out W6 col5 k R _ ⟨blk, e', 1, .nil, [], .nil, []⟩ HJ6.out.is HJ6.out.std hrd1 (List.mem_append_right _ (by simp)) hidN
  dsimp only at hju
  have Hju := Lib.hid hju
  have HidN := Lib.hid hidN
  clear hju hrd1 hidN
  go_wp2_with fail
  refine Hju.out.mono ?_
  rintro x7 w7 ⟨rfl, col7, r7, hj7, hk7, hd7⟩
  obtain ⟨c, hc, hcw⟩ := fresh_colour col W0.heap.size k
  have HL7 : Hid (LSt W0 col k R c ((r.ns ++ [(⟨blk, e', 1, .nil, [], .nil, []⟩ : Nd)]).map nkey) w7 col7 r7 .nil []) :=
    ⟨hj7.is, hj7.std, (HJ6.out.keep.trans hj7.keep).imp fun _ h => h.1, hk7, ownC_nil _ _ _ _ _⟩
  have Hd7 := Lib.hid hd7; have Hc := Lib.hid hc; have Hcw := Lib.hid hcw
  have hc0 : Hid (c ≠ 0) := (by omega : c ≠ 0)
  clear hj7 hk7 hd7 hc hcw Hju b0 b1
  go_wp2_with fail
  go_loopg [9] more.length (fun g s wr => ∃ (dc : RmD) (dn td : List ByteArray) (cl : Col) (r' : Rm) (va : Option Addr) (vn vc : Nat), s = .slice va vn vc ∧ td.length = g ∧ Hid (LSt W0 col k R c ((r.ns ++ [(⟨blk, e', 1, .nil, [], .nil, []⟩ : Nd)]).map nkey) wr cl r' ⟨va, vn, vc⟩ dn) ∧ Hid (r'.d = dc ∧ TakeRun dc td dfin ∧ dn ++ td = more))
  case atStart => exact ⟨d1, [], more, col7, r7, none, 0, 0, rfl, rfl, HL7.out, Hd7.out, Hrun.out, rfl⟩
  case round =>
    obtain ⟨dc, dn, td, cl, r', va, vn, vc, rfl, hg, HL, hinf⟩ := hrel
    obtain ⟨hdc, hrun, hmore⟩ := hinf.out
    clear hinf HL7 Hd7 HJ6
    have b0 := HL.out.cell hc0.out HB0.out.1 HB0.out.2
    cases hrun with
    | stop hst hix =>
      have hst' : ∀ id ∈ r'.staged, (r'.find id).isSome = true := fun id hi => by
        have := hst id (by rw [← hdc]; exact hi)
        rw [← hdc, find_d] at this
        simpa using this
      have hix' : idxA (readyAt r') r'.staged 0 = -1 := by rw [readyAt_d]; rw [← hdc] at hix; exact hix
      have hcall := index_staged HL.out.is HL.out.std w.heap.size b0 hst'
      rw [hix'] at hcall
      dsimp only [sv] at hcall
      have hkey : (e.d.id, blk) ∈ r'.ns.map nkey := by
        rw [HL.out.keys]
        exact List.mem_map.2 ⟨⟨blk, e', 1, .nil, [], .nil, []⟩, List.mem_append_right _ (by simp), by unfold nkey; rw [HidN.out]⟩
      obtain ⟨n', hn', hk'⟩ := List.mem_map.1 hkey
      obtain ⟨hk1, hk2⟩ : n'.id = e.d.id ∧ n'.blk = blk := by unfold nkey at hk'; simpa using hk'
      have hmk : dfin.mark e.d.id = n'.mark := by
        rw [← hdc, ← mark_d]
        unfold markOf
        rw [← hk1, find_mem_of HL.out.is hn']
      have h22 : wr.cell? ⟨blk, 22, none⟩ = some (.int .i64 n'.mark) := by
        have := (HL.out.is.rest.nd n' hn').at_ 22
        rw [hk2] at this
        exact this.trans rfl
      have c2 := HL.out.is.c2
      have Hcall := Lib.hid hcall; have Hmk := Lib.hid hmk; have Hdc := Lib.hid hdc; have Hmore := Lib.hid hmore
      clear hst hix hst' hix' hcall hkey hn' hk' hk1 hk2 hmk hdc hmore
      go_wp2_with fail
      refine Hcall.out.mono ?_
      rintro x8 w8 ⟨rfl, hf8⟩
      have h22' := hf8.keep h22
      have HL8 : Hid (LSt W0 col k R c ((r.ns ++ [(⟨blk, e', 1, .nil, [], .nil, []⟩ : Nd)]).map nkey) w8 cl r' ⟨va, vn, vc⟩ dn) := HL.out.fresh hf8
      clear hf8 h22 b0 c2 HL
      go_wp2_with fail
      go_ret3
      obtain ⟨col9, h9, h10⟩ := HL8.out.out Hc.out Hcw.out (by have := Hmore.out; have := Hml.out; rw [← Hmore.out, List.length_append] at this; omega)
      refine ⟨col9, r', ⟨va, vn, vc⟩, by rw [Hmk.out]; rfl, ⟨h9.is, h9.std, (Keep.ofFresh HF0.out).trans h9.keep⟩, Hdc.out, ?_⟩
      have := Hmore.out
      rw [List.append_nil] at this
      rw [← this]; exact h10
    | next hst hs hrdy hj ht =>
      rename_i id rest more' d1'
      have hrs : r'.staged = id :: rest := by rw [← hs, ← hdc]; rfl
      have hst' : ∀ x ∈ r'.staged, (r'.find x).isSome = true := fun x hi => by
        have := hst x (by rw [← hdc]; exact hi)
        rw [← hdc, find_d] at this
        simpa using this
      have hix' : idxA (readyAt r') r'.staged 0 = 0 := by
        rw [readyAt_d, hrs, hdc]
        unfold idxA
        rw [if_pos hrdy]; rfl
      obtain ⟨nn, hnn⟩ := Option.isSome_iff_exists.1 (hst' id (by rw [hrs]; exact List.mem_cons_self ..))
      have hrow := HL.out.is.rest.st.row
      rw [hrs] at hrow
      rcases hrow.2 with ⟨_, h2⟩ | ⟨gb, cap, cur, hsv, _, hh, hnc, hcm, _⟩
      · simp at h2
      have hcall := index_staged HL.out.is HL.out.std w.heap.size b0 hst'
      rw [hix', hsv] at hcall
      have c2 : wr.cell? ⟨R, 2, none⟩ = some (.slice (some ⟨gb, 0, none⟩) (id :: rest).length cap) := by
        rw [← hsv]; exact HL.out.is.c2
      have cg : wr.cell? ⟨gb, 0, none⟩ = some (.string id) := by
        rw [hsv] at hrow
        exact (World.ownsRow.cellAt hrow 0 (by simp)).trans rfl
      have hown5 : OwnC wr cl (k + 5) 9 1 r'.st (id :: rest).length ((id :: rest).map Value.string) := by
        have := HL.out.is.rest.st
        rw [hrs] at this; exact this
      have Hcall := Lib.hid hcall; have Hdc := Lib.hid hdc; have Hmore := Lib.hid hmore; have Hnn := Lib.hid hnn; have Hown5 := Lib.hid hown5; have Hj := Lib.hid hj; have Ht := Lib.hid ht; have Hsv := Lib.hid hsv
      have hsm : rest.length ≤ 4096 := by
        have := HL.out.is.rest.small.2.1
        rw [hrs, List.length_cons] at this; omega
      clear hst hst' hix' hcall hdc hmore hrs hs hrdy hj ht hrow hh hsv hnn hown5
      simp only [List.length_cons] at c2 hnc
      have hcm' : cap ≤ 9223372036854775807 := by unfold maxLen at hcm; omega
      clear hcm
      simp only [List.length_cons] at Hcall
      go_wp2_with fail
      refine Hcall.out.mono ?_
      rintro x8 w8 ⟨rfl, hf8⟩
      have HL8 : Hid (LSt W0 col k R c ((r.ns ++ [(⟨blk, e', 1, .nil, [], .nil, []⟩ : Nd)]).map nkey) w8 cl r' ⟨va, vn, vc⟩ dn) := HL.out.fresh hf8
      have d2 := hf8.keep c2; have dg := hf8.keep cg; have db := hf8.keep b0
      have Hown8 : Hid (OwnC w8 cl (k + 5) 9 1 r'.st (id :: rest).length ((id :: rest).map Value.string)) := Hown5.out.fresh hf8
      clear hf8 c2 cg b0 HL Hcall Hown5
      go_wp2_with fail
      have hS : ∀ W, Fresh w8 W → W.cell? ⟨w.heap.size, 0, none⟩ = some (.pointer (some ⟨R, 0, none⟩)) ∧ W.cell? ⟨R, 2, none⟩ = some (.slice (some ⟨gb, 0, none⟩) (rest.length + 1) cap) := fun W hW => ⟨hW.keep db, hW.keep d2⟩
      have HS8 := Lib.hid hS
      have hdel := delete_first (Hown8.out.fresh (Fresh.rfl' w8).drew)
      rw [Hsv.out] at hdel
      simp only [List.length_cons] at hdel
      have Hdel := Lib.hid hdel
      clear hS db d2 dg hdel
      refine wp_region_T (fun W => W.cell? ⟨w.heap.size, 0, none⟩ = some (.pointer (some ⟨R, 0, none⟩)) ∧ W.cell? ⟨R, 2, none⟩ = some (.slice (some ⟨gb, 0, none⟩) (rest.length + 1) cap)) 11 (by kernel_rfl) ?_ (fun hHeld => ?_)
      · exact HS8.out _ (Fresh.rfl' w8).drew
      refine wpAnyT_take (i := 0) (oi := { dst := some 112, op := .load 23 (.tmp 2), type := 23, pos := "dag.go:108", after := #[], guard := none }) (v := ?_) rfl (by kernel_rfl) (by kernel_rfl) (by kernel_rfl) (by kernel_rfl) (fun _ _ _ h => h) (Or.inl ⟨by rfl, ?_⟩) (by assumption) ?_
      rotate_left 1
      · intro W hSw
        obtain ⟨s1, s2⟩ := hSw
        go_simp
        try with_reducible rfl
      try simp only [Act.put, List.setIfInBounds_toArray, List.set_cons_zero, List.set_cons_succ]
      refine wpAnyT_take (i := 1) (oi := { dst := some 113, op := .load 23 (.tmp 2), type := 23, pos := "dag.go:108", after := #[], guard := none }) (v := ?_) rfl (by kernel_rfl) (by kernel_rfl) (by kernel_rfl) (by kernel_rfl) (fun _ _ _ h => h) (Or.inl ⟨by rfl, ?_⟩) (by assumption) ?_
      rotate_left 1
      · intro W hSw
        obtain ⟨s1, s2⟩ := hSw
        go_simp
        try with_reducible rfl
      try simp only [Act.put, List.setIfInBounds_toArray, List.set_cons_zero, List.set_cons_succ]
      refine wpAnyT_take (i := 2) (oi := { dst := some 114, op := .nilCheck (.tmp 113), type := 0, pos := "dag.go:108", after := #[{ on := 1, ground := .data }], guard := none }) (v := ?_) rfl (by kernel_rfl) (by kernel_rfl) (by kernel_rfl) (by kernel_rfl) (fun _ _ _ h => h) (Or.inl ⟨by rfl, ?_⟩) (by assumption) ?_
      rotate_left 1
      · intro W hSw
        obtain ⟨s1, s2⟩ := hSw
        go_simp
        try with_reducible rfl
      try simp only [Act.put, List.setIfInBounds_toArray, List.set_cons_zero, List.set_cons_succ]
      refine wpAnyT_take (i := 3) (oi := { dst := some 115, op := .fieldAddr 60 (.tmp 114) 2, type := 0, pos := "dag.go:108", after := #[{ on := 2, ground := .data }], guard := none }) (v := ?_) rfl (by kernel_rfl) (by kernel_rfl) (by kernel_rfl) (by kernel_rfl) (fun _ _ _ h => h) (Or.inl ⟨by rfl, ?_⟩) (by assumption) ?_
      rotate_left 1
      · intro W hSw
        obtain ⟨s1, s2⟩ := hSw
        go_simp
        try with_reducible rfl
      try simp only [Act.put, List.setIfInBounds_toArray, List.set_cons_zero, List.set_cons_succ]
      refine wpAnyT_take (i := 4) (oi := { dst := some 116, op := .load 30 (.tmp 115), type := 30, pos := "dag.go:108", after := #[{ on := 3, ground := .data }], guard := none }) (v := ?_) rfl (by kernel_rfl) (by kernel_rfl) (by kernel_rfl) (by kernel_rfl) (fun _ _ _ h => h) (Or.inl ⟨by rfl, ?_⟩) (by assumption) ?_
      rotate_left 1
      · intro W hSw
        obtain ⟨s1, s2⟩ := hSw
        go_simp
        try with_reducible rfl
      try simp only [Act.put, List.setIfInBounds_toArray, List.set_cons_zero, List.set_cons_succ]
      refine wpAnyT_take (i := 5) (oi := { dst := some 117, op := .move (.tmp 10), type := 3, pos := "dag.go:108", after := #[], guard := none }) (v := ?_) rfl (by kernel_rfl) (by kernel_rfl) (by kernel_rfl) (by kernel_rfl) (fun _ _ _ h => h) (Or.inl ⟨by rfl, ?_⟩) (by assumption) ?_
      rotate_left 1
      · intro W hSw
        obtain ⟨s1, s2⟩ := hSw
        go_simp
        try with_reducible rfl
      try simp only [Act.put, List.setIfInBounds_toArray, List.set_cons_zero, List.set_cons_succ]
      refine wpAnyT_take (i := 6) (oi := { dst := some 118, op := .move (.tmp 10), type := 3, pos := "dag.go:108", after := #[], guard := none }) (v := ?_) rfl (by kernel_rfl) (by kernel_rfl) (by kernel_rfl) (by kernel_rfl) (fun _ _ _ h => h) (Or.inl ⟨by rfl, ?_⟩) (by assumption) ?_
      rotate_left 1
      · intro W hSw
        obtain ⟨s1, s2⟩ := hSw
        go_simp
        try with_reducible rfl
      try simp only [Act.put, List.setIfInBounds_toArray, List.set_cons_zero, List.set_cons_succ]
      refine wpAnyT_take (i := 7) (oi := { dst := some 119, op := .binOp Go.BinOp.add 3 (.tmp 118) (.const (Go.Value.int Go.IntKind.i64 1)) 3, type := 3, pos := "dag.go:108", after := #[{ on := 6, ground := .data }], guard := none }) (v := ?_) rfl (by kernel_rfl) (by kernel_rfl) (by kernel_rfl) (by kernel_rfl) (fun _ _ _ h => h) (Or.inl ⟨by rfl, ?_⟩) (by assumption) ?_
      rotate_left 1
      · intro W hSw
        obtain ⟨s1, s2⟩ := hSw
        go_simp
        try with_reducible rfl
      try simp only [Act.put, List.setIfInBounds_toArray, List.set_cons_zero, List.set_cons_succ]
      refine wpAnyT_step (i := 8) (o := { dst := some 120, op := .call { callee := Go.Callee.value (.func 30), args := #[.tmp 116, .tmp 117, .tmp 119], argTypes := #[30, 3, 3] }, type := 30, pos := "dag.go:108", after := #[{ on := 4, ground := .data }, { on := 5, ground := .data }, { on := 7, ground := .data }], guard := none }) (by kernel_rfl) rfl (fun K hK => ?_)
      go_simp
      go_at_call 30
      refine Hdel.out.mono ?_
      rintro x9 w9 ⟨⟨a9, n9, c9⟩, rfl, ho9, hk9⟩
      have hLd := HL8.out.fresh (Fresh.rfl' w8).drew
      have hRb : w9.heap[R]? = w8.drew.heap[R]? := hk9.block R hLd.is.lt (by rw [hLd.is.cR]; omega)
      have e2 : w9.cell? ⟨R, 2, none⟩ = some (.slice (some ⟨gb, 0, none⟩) (rest.length + 1) cap) := (cell_of_block hRb _).trans (HS8.out _ (Fresh.rfl' w8).drew).2
      have z2 : w9.frozen? ⟨R, 2, none⟩ = false := (frozen_of_block hRb _).trans (hLd.is.fz 2)
      have eb : w9.cell? ⟨w.heap.size, 0, none⟩ = some (.pointer (some ⟨R, 0, none⟩)) :=
        (cell_of_block (hk9.block _ (World.block_lt_of_cell? _ _ (HS8.out _ (Fresh.rfl' w8).drew).1) (by
          have h1 := HL8.out.keep.color _ (World.block_lt_of_cell? _ _ HB0.out.1)
          rw [h1, HB0.out.2]; omega)) _).trans (HS8.out _ (Fresh.rfl' w8).drew).1
      obtain ⟨h10, hk10⟩ := hLd.is.setSt hk9 ⟨a9, n9, c9⟩ rest ho9 hsm
      have hL10 : LSt W0 col k R c ((r.ns ++ [(⟨blk, e', 1, .nil, [], .nil, []⟩ : Nd)]).map nkey) (w9.setCell ⟨R, 2, none⟩ (.slice a9 n9 c9)) cl { r' with st := ⟨a9, n9, c9⟩, staged := rest } ⟨va, vn, vc⟩ dn :=
        hLd.turn Hc.out h10 (hLd.std.keep hk10 (by omega)) (hk10.imp fun x hx => by unfold outC at hx; omega) rfl
      have HL10 := Lib.hid hL10
      clear ho9 hk9 hLd hRb h10 hk10 hL10
      try dsimp only
      refine hK.out _ _ ⟨eb, e2⟩ (fun hHeld => ?_)
      clear hK K
      try simp only [Act.put, List.setIfInBounds_toArray, List.set_cons_zero, List.set_cons_succ]
      refine wpAnyT_step (i := 9) (o := { dst := some 121, op := .nilCheck (.tmp 112), type := 0, pos := "dag.go:108", after := #[{ on := 0, ground := .data }, { on := 0, ground := .phase }, { on := 1, ground := .phase }, { on := 2, ground := .phase }, { on := 3, ground := .phase }, { on := 4, ground := .phase }, { on := 5, ground := .phase }, { on := 6, ground := .phase }, { on := 7, ground := .phase }, { on := 8, ground := .phase }], guard := none }) (by kernel_rfl) rfl (fun K hK => ?_)
      go_simp
      refine hK.out _ _ ⟨eb, e2⟩ (fun hHeld => ?_)
      clear hK K
      try simp only [Act.put, List.setIfInBounds_toArray, List.set_cons_zero, List.set_cons_succ]
      refine wpAnyT_step (i := 10) (o := { dst := some 122, op := .fieldAddr 60 (.tmp 121) 2, type := 0, pos := "dag.go:108", after := #[{ on := 9, ground := .data }, { on := 0, ground := .phase }, { on := 1, ground := .phase }, { on := 2, ground := .phase }, { on := 3, ground := .phase }, { on := 4, ground := .phase }, { on := 5, ground := .phase }, { on := 6, ground := .phase }, { on := 7, ground := .phase }, { on := 8, ground := .phase }], guard := none }) (by kernel_rfl) rfl (fun K hK => ?_)
      go_simp
      refine hK.out _ _ ⟨eb, e2⟩ (fun hHeld => ?_)
      clear hK K
      try simp only [Act.put, List.setIfInBounds_toArray, List.set_cons_zero, List.set_cons_succ]
      refine wpAnyT_last (o := { dst := none, op := .store 30 (.tmp 122) (.tmp 120), type := 0, pos := "dag.go:108", after := #[{ on := 10, ground := .data }, { on := 8, ground := .data }, { on := 8, ground := .chain }, { on := 0, ground := .phase }, { on := 1, ground := .phase }, { on := 2, ground := .phase }, { on := 3, ground := .phase }, { on := 4, ground := .phase }, { on := 5, ground := .phase }, { on := 6, ground := .phase }, { on := 7, ground := .phase }, { on := 8, ground := .phase }], guard := none }) (by kernel_rfl) rfl (fun K hK => ?_)
      go_simp
      refine hK.out _ _ ?_
      clear hK K
      try simp only [Act.put, List.setIfInBounds_toArray, List.set_cons_zero, List.set_cons_succ]
      refine wpAnyT_done (by kernel_rfl) ?_ _
      clear Hdel Hown8 HS8 HL8
      refine hideWorld _ (fun W => LSt W0 col k R c ((r.ns ++ [(⟨blk, e', 1, .nil, [], .nil, []⟩ : Nd)]).map nkey) W cl { r' with st := ⟨a9, n9, c9⟩, staged := rest } ⟨va, vn, vc⟩ dn) _ HL10.out ?_
      clear HL10 e2 z2 eb
      intro W10 hL10
      have HL10 := Lib.hid hL10
      have b0 := hL10.cell hc0.out HB0.out.1 HB0.out.2
      have c1 := hL10.is.c1
      dsimp only at c1
      have hlk := look_node (hL10.is.fresh (Fresh.rfl' W10).drew) id
      have hfi : Rm.find { r' with st := ⟨a9, n9, c9⟩, staged := rest } id = some nn := Hnn.out
      rw [hfi] at hlk
      dsimp only at hlk
      have hju := Hj.out W10.drew cl k R _ nn (hL10.is.fresh (Fresh.rfl' W10).drew) (hL10.std.fresh (Fresh.rfl' W10).drew) (by rw [← Hdc.out]; rfl) (Rm.find_mem Hnn.out).1 (Rm.find_mem Hnn.out).2
      have Hju := Lib.hid hju
      clear hL10 hfi hju
      go_wp2_with fail
      refine wp_region_still_tail 7 (by kernel_rfl) (by kernel_rfl) ?_
      simp only [List.take_succ_cons, List.take_zero, List.drop_succ_cons, List.drop_zero]
      iterate 7 still_step
      refine wpStill_nil ?_
      go_wp2_with fail
      refine Hju.out.mono ?_
      rintro x11 w11 ⟨rfl, col11, r11, hj11, hk11, hd11⟩
      have HL11 : Hid (LSt W0 col k R c ((r.ns ++ [(⟨blk, e', 1, .nil, [], .nil, []⟩ : Nd)]).map nkey) w11 col11 r11 ⟨va, vn, vc⟩ dn) :=
        (HL10.out.fresh (Fresh.rfl' W10).drew).turn Hc.out hj11.is hj11.std hj11.keep hk11
      have Hd11 := Lib.hid hd11
      clear hj11 hk11 hd11 HL10 Hju hlk c1 b0
      go_wp2_with (at_builtin; refine Stand.stop ?_)
      refine Stand.go ?_
      have hdl : dn.length ≤ 4000 := by have := Hml.out; have h2 := Hmore.out; rw [← h2, List.length_append] at this; omega
      have HLa : Hid (LSt W0 col k R c ((r.ns ++ [(⟨blk, e', 1, .nil, [], .nil, []⟩ : Nd)]).map nkey) (w11.alloc (.cells #[.string id] 9)) col11 r11 ⟨va, vn, vc⟩ dn) := HL11.out.fresh ((Fresh.rfl' w11).alloc (Nat.le_refl _) _)
      refine wpList_append_src2 _ rfl (.tmp 131) (.tmp 133) 30 30 rfl 0 9 (.string ⟨#[]⟩) 1 16 Tryz.underlying30 info9 rfl (by decide) (sv ⟨va, vn, vc⟩) dn.length _ rfl HLa.out.row.row (.slice (some ⟨w11.heap.size, 0, none⟩) 1 1) 1 [.string id] rfl (src_one _ _ _ Tryz.underlying30 (heap_alloc_new _ _) rfl) (by unfold maxLen; omega) (by omega) (Nat.zero_le _) ?_
      intro v' w12 hown hgr hbl
      obtain ⟨xa, xn, xc, rfl⟩ := own_slice hown
      obtain ⟨col12, hL12⟩ := HLa.out.app (v' := ⟨xa, xn, xc⟩) Hc.out id hown hgr hbl
      have HL12 := Lib.hid hL12
      clear hown hgr hbl hL12 HLa HL11
      go_wp2_with fail
      go_roundg more'.length
      case measure => simp at hg; omega
      case rel => exact ⟨d1', dn ++ [id], more', col12, r11, xa, xn, xc, rfl, rfl, HL12.out, Hd11.out, Ht.out, by rw [List.append_assoc]; exact Hmore.out⟩
end Go.Proofs.YtmjclmmiljlahaaGreat

set_option linter.unusedVariables false
set_option linter.unusedSimpArgs false
namespace Go.Proofs.YtmjclmmiljlahaaGreat
open Go.RowKit

def missIn (d : RmD) (l : List ByteArray) (x : ByteArray) : List ByteArray := if (d.find x).isSome then l else putE l x
def needsF (d : RmD) (id : ByteArray) : List ByteArray := match d.find id with | some n => n.e.prev ++ n.e.auth | none => []
def missAt (d : RmD) (l : List ByteArray) (id : ByteArray) : List ByteArray := (needsF d id).foldl (missIn d) l
/-- What is waited for. -/
def RmD.missing (d : RmD) : List ByteArray := d.staged.foldl (missAt d) []

theorem fold_take {α β : Type} (f : β → α → β) (z : β) {l : List α} {q : Nat} (h : q < l.length) : (l.take (q + 1)).foldl f z = f ((l.take q).foldl f z) l[q] := by
  rw [List.take_succ_eq_append_getElem h, List.foldl_append]; rfl

set_option maxRecDepth 100000 in
set_option maxHeartbeats 1600000 in
theorem missing_any {w : World} {col : Col} {k R : Nat} {r : Rm} (h : RmIs w col k R r) (hcol : Std w col) (hst : ∀ id ∈ r.staged, (r.find id).isSome = true) (hl : ∀ s ∈ r.d.missing, s.size ≤ maxLen) (hn : r.d.missing.length ≤ 4294967296) :
    Calls Tryz.prog 12 #[.pointer (some ⟨R, 0, none⟩)] w fun x w' => ∃ v : SV, x = .returned (sv v) ∧ StrSl w' col (sv v) (sortedS r.d.missing) ∧ Fresh w w' := by
  have hmm := @run_makeMap Tryz.prog
  have hcell := h.rest.st.row
  obtain ⟨l, hl1⟩ : ∃ l, l = r.staged := ⟨_, rfl⟩
  have hsl : ∃ ao cap, sv r.st = .slice ao l.length cap ∧ l.length ≤ cap ∧ cap ≤ 9223372036854775807 ∧ ∀ q (hq : q < l.length), ∃ g, ao = some ⟨g, 0, none⟩ ∧ w.cell? ⟨g, q, none⟩ = some (.string l[q]) := by
    subst hl1
    rcases hcell.2 with ⟨h1, h2⟩ | ⟨g, cap, cur, h1, _, _, h4, h5, _⟩
    · exact ⟨none, 0, by rw [h2]; exact h1, by omega, by omega, fun q hq => by omega⟩
    · refine ⟨_, cap, h1, h4, by unfold maxLen at h5; omega, fun q hq => ⟨g, rfl, ?_⟩⟩
      rw [h1] at hcell
      rw [World.ownsRow.cellAt hcell q (by simpa using hq)]
      simp [hq]
  obtain ⟨ao, cap, hv, hcp, hm, hj⟩ := hsl
  have hsm : l.length ≤ 4096 := by rw [hl1]; exact h.rest.small.2.1
  have c2 : w.cell? ⟨R, 2, none⟩ = some (.slice ao l.length cap) := by rw [← hv]; exact h.c2
  have hst' : ∀ id ∈ l, ∃ n, r.find id = some n := fun id hid => Option.isSome_iff_exists.1 (hst id (by rw [← hl1]; exact hid))
  have hmi : r.d.missing = l.foldl (missAt r.d) [] := by rw [hl1]; rfl
  have H := Lib.hid h; have Hj := Lib.hid hj; have Hst := Lib.hid hst'; have Hmi := Lib.hid hmi; have Hl := Lib.hid hl; have Hn := Lib.hid hn
  clear hcell hl1 hv hj hst hst' h hmi hl hn
  have c2a : (w.alloc (.map #[] 0)).cell? ⟨R, 2, none⟩ = some (.slice ao l.length cap) := Fresh.keep ((Fresh.rfl' w).alloc (Nat.le_refl _) _) c2
  go_enter Tryz.func12, Tryz.ntmps12
  go_wp2_with fail
  refine hideWorld _ (fun W => Fresh w W ∧ MapIs Value.string W w.heap.size (setKV [])) _ ⟨(Fresh.rfl' w).alloc (Nat.le_refl _) _, MapIs.made w Value.string⟩ ?_
  rintro W0 ⟨hf0, hm0⟩
  have HF0 := Lib.hid hf0; have HM0 := Lib.hid hm0
  have hlt0 : w.heap.size < W0.heap.size := hm0.lt
  have Hcol1 : Hid (∀ W, Fresh w W → w.heap.size < W.heap.size → Std W (upd col w.heap.size 1)) := fun W hf hlt => (hcol.fresh hf).upd hlt (by have := hcol.pos; omega)
  have Hmv : Hid (∀ W, Fresh w W → Move w col W (upd col w.heap.size 1)) := fun W hf => ⟨hf.size, fun b hb _ => hf.blocks b hb, fun b hb h0 => by rw [upd_other _ _ (by omega)]; exact h0⟩
  clear hf0 hm0 c2 c2a
  go_loopw [14] (fun i wr => ∃ q : Nat, q ≤ l.length ∧ i = .int .i64 q ∧ Hid (Fresh w wr) ∧ Hid (MapIs Value.string wr w.heap.size (setKV ((l.take q).foldl (missAt r.d) [])))) (fun i _ => l.length - (intOf i).toNat)
  case atStart => exact ⟨0, Nat.zero_le _, rfl, HF0.out, HM0.out⟩
  case round =>
    obtain ⟨q, hq, rfl, hf, hmp⟩ := hrel
    clear HF0 HM0 hlt0
    obtain ⟨wo, rfl⟩ : ∃ wo : World, wo = wr := ⟨_, rfl⟩
    by_cases hlt : q < l.length
    · obtain ⟨g, rfl, hcx⟩ := Hj.out q hlt
      have hcx := hf.out.keep hcx
      obtain ⟨nn, hnn⟩ := Hst.out l[q] (List.getElem_mem hlt)
      have hlk := look_node (H.out.fresh hf.out) l[q]
      rw [hnn] at hlk
      dsimp only at hlk
      have c1 := (H.out.fresh hf.out).c1
      have hnd := (H.out.fresh hf.out).rest.nd nn (Rm.find_mem hnn).1
      have hft := fold_take (missAt r.d) [] hlt
      have hne : needsF r.d l[q] = nn.e.d.prev ++ nn.e.d.auth := by unfold needsF; rw [find_d, hnn]; rfl
      have Hnd := Lib.hid hnd; have Hft := Lib.hid hft; have Hne := Lib.hid hne
      have hszo : w.heap.size < wo.heap.size := hmp.out.lt
      have hcall := needs_any nn.e (upd col w.heap.size 1) wo (Hcol1.out _ hf.out hszo) ((H.out.rest.nd nn (Rm.find_mem hnn).1).ev.move (Hmv.out _ hf.out))
      have Hcall := Lib.hid hcall
      clear hnd hft hne hnn hcall
      go_wp2_with (with_reducible refine stop_op (.load 38 (.tmp 25)) rfl ?_)
      refine Stand.go ?_
      refine wpList_load_cells rfl 38 (.tmp 25) rfl nn.blk 0 rfl nn.e.cells Hnd.out.ev_cells _ Tryz.underlying38 rfl info38s ?_
      go_wp2_with fail
      refine Hcall.out.mono ?_
      rintro x w1 ⟨v', rfl, hv', hf1⟩
      obtain ⟨N, hN⟩ : ∃ N, N = nn.e.d.prev ++ nn.e.d.auth := ⟨_, rfl⟩
      rw [← hN] at hv'
      have HF1 := Lib.hid (fcomp hf.out hf1)
      have HM1 := Lib.hid (hmp.out.fresh hf1)
      have HN := Lib.hid hN
      have Hv := Lib.hid hv'
      obtain ⟨ao', cap', rfl, hc', hm', hlen', _⟩ := hv'.open
      clear hv' hf1 hN Hcall hcx hlk c1 hmp hf
      go_wp2_with fail
      go_loopw [29] (fun i w2 => ∃ p : Nat, p ≤ N.length ∧ i = .int .i64 p ∧ Hid (Fresh w w2) ∧ Hid (StrSl w2 (upd col w.heap.size 1) (.slice ao' N.length cap') N) ∧ Hid (MapIs Value.string w2 w.heap.size (setKV ((N.take p).foldl (missIn r.d) ((l.take q).foldl (missAt r.d) []))))) (fun i _ => N.length - (intOf i).toNat)
      case atStart => exact ⟨0, Nat.zero_le _, rfl, HF1.out, Hv.out, HM1.out⟩
      case round =>
        obtain ⟨p, hp, rfl, hf, hvv, hmp⟩ := hrel
        clear HF1 Hv HM1
        by_cases hlt2 : p < N.length
        · obtain ⟨ao2, cap2, hav, _, _, _, hjj⟩ := hvv.out.open
          obtain ⟨rfl, _, rfl⟩ : ao' = ao2 ∧ N.length = N.length ∧ cap' = cap2 := by simpa using hav
          obtain ⟨bb, off, rfl, hbb, hcx⟩ := hjj p hlt2
          have hlk := look_node (H.out.fresh hf.out) N[p]
          have c1 := (H.out.fresh hf.out).c1
          have hft := fold_take (missIn r.d) ((l.take q).foldl (missAt r.d) []) hlt2
          have hfd := find_d r N[p]
          clear hjj hav
          cases hfx : r.find N[p] with
          | some nx =>
            rw [hfx] at hlk hfd
            dsimp only at hlk
            have HM2 : Hid (MapIs Value.string wr w.heap.size (setKV ((N.take (p + 1)).foldl (missIn r.d) ((l.take q).foldl (missAt r.d) [])))) := by
              have : (N.take (p + 1)).foldl (missIn r.d) ((l.take q).foldl (missAt r.d) []) = (N.take p).foldl (missIn r.d) ((l.take q).foldl (missAt r.d) []) := by
                rw [hft]; unfold missIn; rw [hfd]; rfl
              show MapIs _ _ _ _
              rw [this]; exact hmp.out
            clear hft hfd hfx hmp
            go_wp2_with fail
            go_roundw
            case rel => exact ⟨p + 1, by omega, by go_num, hf, hvv, HM2⟩
            case measure => simp [intOf]; omega
          | none =>
            rw [hfx] at hlk hfd
            dsimp only at hlk
            obtain ⟨ob, hup, hm2⟩ := run_update_map (w := wr) strKey Tryz.underlying58 hmp.out N[p] (.bool true)
            have HM2 : Hid (MapIs Value.string (World.setObj' wr w.heap.size ob) w.heap.size (setKV ((N.take (p + 1)).foldl (missIn r.d) ((l.take q).foldl (missAt r.d) [])))) := by
              have : (N.take (p + 1)).foldl (missIn r.d) ((l.take q).foldl (missAt r.d) []) = putE ((N.take p).foldl (missIn r.d) ((l.take q).foldl (missAt r.d) [])) N[p] := by
                rw [hft]; unfold missIn; rw [hfd]; rfl
              show MapIs _ _ _ _
              rw [this, ← putKV_set]; exact hm2
            have HF2 : Hid (Fresh w (World.setObj' wr w.heap.size ob)) := fresh_setObj' hf.out (Nat.le_refl _)
            have HV2 : Hid (StrSl (World.setObj' wr w.heap.size ob) (upd col w.heap.size 1) (.slice (some ⟨bb, off, none⟩) N.length cap') N) :=
              StrSl.move hvv.out ((keep_setObj (w := wr) (col := upd col w.heap.size 1) (g := w.heap.size) (o := ob)).move (by rw [upd_same]; decide))
            clear hft hfd hfx hmp hm2 hf hvv
            go_wp2_with fail
            go_roundw
            case rel => exact ⟨p + 1, by omega, by go_num, HF2, HV2, HM2⟩
            case measure => simp [intOf]; omega
        · have HM2 : Hid (MapIs Value.string wr w.heap.size (setKV ((l.take (q + 1)).foldl (missAt r.d) []))) := by
            have : (l.take (q + 1)).foldl (missAt r.d) [] = (N.take p).foldl (missIn r.d) ((l.take q).foldl (missAt r.d) []) := by
              rw [Hft.out]
              show (needsF r.d l[q]).foldl (missIn r.d) _ = _
              rw [Hne.out, ← HN.out, List.take_of_length_le (l := N) (by omega)]
            show MapIs _ _ _ _
            rw [this]; exact hmp.out
          clear hmp hvv
          go_wp2_with fail
          go_roundw
          case rel => exact ⟨q + 1, by omega, by go_num, hf, HM2⟩
          case measure => simp [intOf]; omega
    · have HM : Hid (MapIs Value.string wo w.heap.size (setKV r.d.missing)) := by
        have : l.take q = l := List.take_of_length_le (by omega)
        show MapIs _ _ _ _
        rw [Hmi.out]
        have h9 := hmp.out
        rw [this] at h9
        exact h9
      clear hmp
      have hc := sorted_keys HM.out Hl.out Hn.out (hcol.fresh hf.out)
      have HC := Lib.hid hc
      clear hc
      go_wp2_with (go_at_call 33; refine (callsIn_wide.1 (Tryz.maps_Keys_33 _ _)).mono ?_; rintro x w' ⟨rfl, rfl⟩)
      go_wp2_with fail
      refine HC.out.mono ?_
      rintro x w' ⟨v, rfl, hv, _, hf3⟩
      have HV := Lib.hid hv; have HF3 := Lib.hid (fcomp hf.out hf3)
      clear hv hf3
      go_wp2_with fail
      go_ret
      exact ⟨v, rfl, HV.out, HF3.out⟩
/-- Staged, where nothing waits. -/
theorem staged_nil {w : World} {col : Col} {k R : Nat} {r : Rm} (h : RmIs w col k R r) (hs : r.staged = []) :
    Calls Tryz.prog 11 #[.pointer (some ⟨R, 0, none⟩)] w fun x w' => ∃ (a : Option Addr) (c : Nat), x = .returned (.slice a 0 c) ∧ Fresh w w' := by
  have h1 := own_len h.rest.st.row
  rw [hs] at h1
  have c2 : w.cell? ⟨R, 2, none⟩ = some (.slice r.st.a 0 r.st.c) := by have := h.c2; rw [h1] at this; exact this
  have hc : ∀ W, Calls Tryz.prog 31 #[.slice r.st.a 0 r.st.c] W fun x w' => ∃ (a : Option Addr) (c : Nat), x = .returned (.slice a 0 c) ∧ Fresh W w' := fun W => by
    cases r.st.a with
    | none =>
      refine (Tryz.slices_Clone_string_nil 0 r.st.c W).mono ?_
      rintro x w' ⟨rfl, rfl⟩
      exact ⟨none, 0, rfl, Fresh.rfl' _⟩
    | some a =>
      refine (Tryz.slices_Clone_string_zero a r.st.c W).mono ?_
      rintro x w' ⟨v', rfl, ho, _, hf⟩
      rcases ho.2 with ⟨rfl, _⟩ | ⟨g, cap, cur, rfl, _⟩
      · exact ⟨_, _, rfl, hf⟩
      · exact ⟨_, _, rfl, hf⟩
  have Hc := Lib.hid hc
  clear hc h1 h hs
  go_enter Tryz.func11, Tryz.ntmps11
  go_wp2_with fail
  refine (Hc.out _).mono ?_
  rintro x w2 ⟨a, c, rfl, hf⟩
  have HF := Lib.hid hf
  clear hf
  go_wp2_with fail
  go_ret
  exact ⟨a, c, rfl, HF.out⟩
end Go.Proofs.YtmjclmmiljlahaaGreat

set_option linter.unusedVariables false
set_option linter.unusedSimpArgs false
namespace Go.Proofs.YtmjclmmiljlahaaGreat
open Go.RowKit

/-! ### The events of the document's examples. -/
abbrev rX : ByteArray := ⟨#[33, 114, 58, 120]⟩
abbrev sA : ByteArray := ⟨#[64, 97, 58, 120]⟩
abbrev idC : ByteArray := ⟨#[99]⟩
abbrev idJ : ByteArray := ⟨#[106]⟩
abbrev idM : ByteArray := ⟨#[109]⟩
abbrev tMessage : ByteArray := ⟨#[109, 46, 114, 111, 111, 109, 46, 109, 101, 115, 115, 97, 103, 101]⟩
def evC : Ev := ⟨idC, tCreate, rX, sA, true, ⟨#[]⟩, [], [], 0, 0, contentD sRoomVersion s11, .zero⟩
def evJ : Ev := ⟨idJ, tMember, rX, sA, true, sA, [idC], [idC], 1, 0, contentD sMembership sJoin, .zero⟩
def evM : Ev := ⟨idM, tMessage, rX, sA, false, ⟨#[]⟩, [idJ], [idC, idJ], 2, 0, .zero, .zero⟩
def evN (id prev : ByteArray) (i : Int) : Ev := ⟨id, tMessage, rX, sA, false, ⟨#[]⟩, [prev], [], i, 0, .zero, .zero⟩

theorem ascii_x : Ascii rX := by unfold Ascii; decide
theorem ascii_a : Ascii sA := by unfold Ascii; decide
theorem createOk_c : CreateOk evC where
  prev := rfl
  auth := rfl
  s1 := by kernel_rfl
  s2 := by kernel_rfl
  room := by kernel_rfl
  user := by kernel_rfl
  same := by kernel_rfl
  version := by kernel_rfl
  z1 := by decide
  z2 := by decide
  a1 := ascii_x
  a2 := ascii_a

theorem checkD_c (l : List Ev) : CheckD evC l 0 := by
  intro e v E w col hd hcol he hv
  exact check_create e v l E col w hcol he hv (by rw [hd]; kernel_rfl) (by rw [hd]; exact createOk_c)
theorem checkD_j : CheckD evJ [evC] 0 := by
  intro e v E w col hd hcol he hv
  refine check_member e v _ E col w hcol he hv 0 (by rw [hd]; kernel_rfl) (by rw [hd]; kernel_rfl) (by rw [hd]; kernel_rfl) ?_
  intro w1 hf1
  refine member_join e v _ E col w1 (hcol.fresh hf1) (he.fresh hf1) (hv.fresh hf1) 0 (by rw [hd]; rfl) (by rw [hd]; kernel_rfl) (by rw [hd]; kernel_rfl) (by rw [hd]; decide) (by rw [hd]; exact ascii_a) ?_
  intro w2 hf2
  exact join_first e v _ E col w2 (he.fresh (fcomp hf1 hf2)) (hv.fresh (fcomp hf1 hf2)) evC (by kernel_rfl) (by rw [hd]; rfl) (by rw [hd]; rfl) (by rw [hd]; rfl)
theorem checkD_m : CheckD evM [evC, evJ] 0 := by
  intro e v E w col hd hcol he hv
  refine check_ordinary e v _ E col w hcol he hv 0 (by rw [hd]; kernel_rfl) (by rw [hd]; kernel_rfl) (by rw [hd]; kernel_rfl) ?_
  intro w1 hf1
  exact ordinary_plain e v _ E col w1 (hv.fresh hf1) (by rw [hd]; rfl) (by kernel_rfl) (by rw [hd]; kernel_rfl)
theorem checkD_n (id prev : ByteArray) (i : Int) : CheckD (evN id prev i) [] 13 := by
  intro e v E w col hd hcol he hv
  exact check_lists e v _ E col w hcol he hv 13 (by rw [hd]; kernel_rfl) (by rw [hd]; kernel_rfl) (by decide)
theorem roomB_x : roomB rX = true := by kernel_rfl

/-! ### The rooms of the examples. -/
abbrev enC : En := ⟨tCreate, ⟨#[]⟩, idC⟩
abbrev enJ : En := ⟨tMember, sA, idJ⟩
def u0 : RmD := ⟨rX, [], [], [], [], [], [], [], false, 0⟩
def u1 : RmD := ⟨rX, [⟨evM, 1, [], []⟩], [idM], [], [], [], [], [], false, 0⟩
def u2 : RmD := ⟨rX, [⟨evM, 1, [], []⟩, ⟨evC, 2, [], [enC]⟩], [idM], [idC], [evC], [], [idC], [], true, 0⟩
def u3 : RmD := ⟨rX, [⟨evM, 1, [], []⟩, ⟨evC, 2, [], [enC]⟩, ⟨evJ, 2, [enC], [enC, enJ]⟩], [idM], [idC, idJ], [evC, evJ], [], [idJ], [enC], true, 1⟩
def u4 : RmD := ⟨rX, [⟨evM, 2, [enC, enJ], [enC, enJ]⟩, ⟨evC, 2, [], [enC]⟩, ⟨evJ, 2, [enC], [enC, enJ]⟩], [], [idC, idJ, idM], [evC, evJ, evM], [], [idM], [enC, enJ], true, 2⟩

theorem judge_c : JudgeD { u1 with ns := u1.ns ++ [⟨evC, 1, [], []⟩] } idC u2 := by
  have hx : RmD.find { u1 with ns := u1.ns ++ [⟨evC, 1, [], []⟩] } idC = some ⟨evC, 1, [], []⟩ := by kernel_rfl
  have hx2 : RmD.find (RmD.setNd { u1 with ns := u1.ns ++ [⟨evC, 1, [], []⟩] } ⟨evC, 1, [], []⟩) idC = some ⟨evC, 1, [], []⟩ := by kernel_rfl
  have h := judgeD_of hx [] (.inl ⟨rfl, rfl, rfl, rfl⟩) 2 (.inl rfl) _ (markD_first hx2 (fun i hi => (List.not_mem_nil hi).elim) (checkD_c _) (fun y hy => (List.not_mem_nil hy).elim) (checkD_c _) rfl) (fun _ _ => .inl rfl) (by decide)
  exact h
theorem staged_one {d : RmD} {x : ByteArray} (hs : d.staged = [x]) (h : (d.find x).isSome = true) : ∀ id ∈ d.staged, (d.find id).isSome = true := by
  intro id hi
  rw [hs, List.mem_singleton] at hi
  rw [hi]; exact h
theorem staged_none {d : RmD} (hs : d.staged = []) : ∀ id ∈ d.staged, (d.find id).isSome = true := by
  intro id hi
  rw [hs] at hi
  cases hi
theorem run_c : TakeRun u2 [] u2 := .stop (staged_one rfl (by kernel_rfl)) (by kernel_rfl)

def u2j : RmD := { u2 with ns := u2.ns ++ [⟨evJ, 1, [], []⟩] }
def u2k : RmD := u2j.setNd ⟨evJ, 1, [enC], []⟩
theorem judge_j : JudgeD u2j idJ u3 := by
  have hx : u2j.find idJ = some ⟨evJ, 1, [], []⟩ := by kernel_rfl
  have hx2 : u2k.find idJ = some ⟨evJ, 1, [enC], []⟩ := by kernel_rfl
  have hc : u2k.find idC = some ⟨evC, 2, [], [enC]⟩ := by kernel_rfl
  have e1 : u2k.auths evJ.auth = [evC] := by kernel_rfl
  have e2 : u2k.byF [enC] (selectF evJ) = [evC] := by kernel_rfl
  have e3 : u2k.cur = [enC] := by kernel_rfl
  have hm := markD_next hx2 (fun i hi => by
      have : i = idC := by simpa [evJ] using hi
      rw [this]; exact ⟨_, hc, by decide⟩) (by rw [e1]; exact checkD_j) (fun y hy => by
      have : y = enC := by simpa using hy
      rw [this, hc]; rfl) (by rw [e2]; exact checkD_j) (by decide)
    (fun _ => ⟨idC, _, rfl, by decide, hc, by decide⟩) (fun y hy => by
      rw [e3] at hy
      have : y = enC := by simpa using hy
      rw [this, hc]; rfl) (by rw [e3, e2]; exact checkD_j)
  have h := judgeD_of hx [enC] (.inr ⟨idC, ⟨evC, 2, [], [enC]⟩, rfl, by kernel_rfl, rfl⟩) 2 (.inl rfl) _ hm (fun _ _ => .inr ⟨enC, rfl, by kernel_rfl⟩) (by decide)
  have e : (RmD.setNd { u2k with now := u2k.cur, stale := false } ⟨evJ, 2, [enC], afterF evJ 2 [enC]⟩).close evJ 2 = u3 := by kernel_rfl
  rw [← e]; exact h
def u3j : RmD := { u3 with staged := [] }
def u3k : RmD := u3j.setNd ⟨evM, 1, [enC, enJ], []⟩
theorem judge_m : JudgeD u3j idM u4 := by
  have hx : u3j.find idM = some ⟨evM, 1, [], []⟩ := by kernel_rfl
  have hx2 : u3k.find idM = some ⟨evM, 1, [enC, enJ], []⟩ := by kernel_rfl
  have hc : u3k.find idC = some ⟨evC, 2, [], [enC]⟩ := by kernel_rfl
  have hj : u3k.find idJ = some ⟨evJ, 2, [enC], [enC, enJ]⟩ := by kernel_rfl
  have e1 : u3k.auths evM.auth = [evC, evJ] := by kernel_rfl
  have e2 : u3k.byF [enC, enJ] (selectF evM) = [evC, evJ] := by kernel_rfl
  have e3 : u3k.cur = [enC, enJ] := by kernel_rfl
  have hfd : ∀ y ∈ [enC, enJ], (u3k.find y.id).isSome = true := fun y hy => by
    rcases List.mem_cons.1 hy with h | h
    · rw [h, hc]; rfl
    · rw [List.mem_singleton.1 h, hj]; rfl
  have hm := markD_next hx2 (fun i hi => by
      have : i = idC ∨ i = idJ := by simpa [evM] using hi
      rcases this with h | h
      · rw [h]; exact ⟨_, hc, by decide⟩
      · rw [h]; exact ⟨_, hj, by decide⟩) (by rw [e1]; exact checkD_m) hfd (by rw [e2]; exact checkD_m) (by decide)
    (fun _ => ⟨idJ, _, rfl, by decide, hj, by decide⟩) (by rw [e3]; exact hfd) (by rw [e3, e2]; exact checkD_m)
  have h := judgeD_of hx [enC, enJ] (.inr ⟨idJ, ⟨evJ, 2, [enC], [enC, enJ]⟩, rfl, by kernel_rfl, rfl⟩) 2 (.inl rfl) _ hm (fun h _ => by cases h) (by decide)
  have e : (RmD.setNd { u3k with now := u3k.cur, stale := false } ⟨evM, 2, [enC, enJ], afterF evM 2 [enC, enJ]⟩).close evM 2 = u4 := by kernel_rfl
  rw [← e]; exact h
theorem run_j : TakeRun u3 [idM] u4 :=
  .next (staged_one rfl (by kernel_rfl)) rfl (by kernel_rfl) judge_m (.stop (staged_none rfl) rfl)
end Go.Proofs.YtmjclmmiljlahaaGreat

set_option linter.unusedVariables false
set_option linter.unusedSimpArgs false
namespace Go.Proofs.YtmjclmmiljlahaaGreat
open Go.RowKit

theorem wpList_build38 {ops : Array Oper} {rest : List Oper} {o : Oper} {a : Act} {Q : Exit → Act → World → Prop} {w : World} (hgd : o.guard = none) (parts : Array (Nat × Operand)) (ho : o.op = .build 38 parts)
    (vals : Array (Nat × Value)) (hv : parts.map (fun p => (p.1, a.eval p.2)) = vals) (e : EV) (hb : ∀ w, (Instr.build 38 vals).run Tryz.prog w = .ok (.agg e.cells) w)
    (h : wpList Tryz.prog ops Q rest (a.put o.dst (.agg e.cells)) w) : wpList Tryz.prog ops Q (o :: rest) a w :=
  wpList_plain hgd fun K hK => by
    have hr : (execOp a.eval o).run Tryz.prog w = .ok (.value (.agg e.cells)) w := by
      unfold execOp
      simp only [ho]
      have hp : parts.map (fun p => (p.1, a.eval p.2)) = vals := hv
      simp only [Sem.run_bind, hp, hb w, Result.andThen_ok]
      rfl
    unfold Oper.wp
    rw [hr]
    exact hK _ _ h

theorem build_c (b : SV) (w : World) : (Instr.build 38 #[(0, .string idC), (1, .string tCreate), (2, .string rX), (3, .string sA), (4, .bool true), (10, jvV (contentD sRoomVersion s11) .nil b)]).run Tryz.prog w = .ok (.agg (EV.cells ⟨evC, .nil, .nil, .nil, b, .nil, .nil⟩)) w := by kernel_rfl
theorem build_j (p q b : SV) (w : World) : (Instr.build 38 #[(0, .string idJ), (1, .string tMember), (2, .string rX), (3, .string sA), (4, .bool true), (5, .string sA), (6, sv p), (7, sv q), (8, .int .i64 1), (10, jvV (contentD sMembership sJoin) .nil b)]).run Tryz.prog w = .ok (.agg (EV.cells ⟨evJ, p, q, .nil, b, .nil, .nil⟩)) w := by kernel_rfl
theorem build_m (p q : SV) (w : World) : (Instr.build 38 #[(0, .string idM), (1, .string tMessage), (2, .string rX), (3, .string sA), (6, sv p), (7, sv q), (8, .int .i64 2)]).run Tryz.prog w = .ok (.agg (EV.cells ⟨evM, p, q, .nil, .nil, .nil, .nil⟩)) w := by kernel_rfl
theorem build_n (id prev : ByteArray) (i : Int) (p : SV) (w : World) : (Instr.build 38 #[(0, .string id), (1, .string tMessage), (2, .string rX), (3, .string sA), (6, sv p), (8, .int .i64 i)]).run Tryz.prog w = .ok (.agg (EV.cells ⟨evN id prev i, p, .nil, .nil, .nil, .nil, .nil⟩)) w := by kernel_rfl

/-- A slice that a literal made: one string, two strings. -/
theorem str_lit {w : World} {col : Col} (l : List ByteArray) (b : Nat) (hb : w.heap[b]? = some (.cells (l.map Value.string).toArray 9 (0, 0))) (hc : col b = 0) (hl : l.length ≤ 4096) : StrSl w col (.slice (some ⟨b, 0, none⟩) l.length l.length) l := by
  refine ⟨by simp, by omega, .inr ⟨b, 0, l.length, rfl, Nat.le_refl _, by unfold maxLen; omega, box_lt hb, hc, fun j hj => ?_⟩⟩
  simp only [World.cell?, hb, Nat.zero_add]
  simp

/-- A room, and events in variables. -/
structure VarIs (w : World) (col : Col) (b : Nat) (e : EV) : Prop where
  box : w.heap[b]? = some (.cells e.cells 38 (0, 0))
  cl : col b = 0
  ev : EvIs w col e
theorem VarIs.fresh {w w' : World} {col : Col} {b : Nat} {e : EV} (h : VarIs w col b e) (hf : Fresh w w') : VarIs w' col b e := ⟨(hf.blocks _ (box_lt h.box)).trans h.box, h.cl, h.ev.fresh hf⟩
theorem VarIs.keep {w w' : World} {col col' : Col} {b : Nat} {e : EV} {p : Nat → Prop} (h : VarIs w col b e) (hk : Keep w col w' col' p) (h0 : p 0) : VarIs w' col' b e :=
  ⟨(hk.block _ (box_lt h.box) (by rw [h.cl]; exact h0)).trans h.box, (hk.color _ (box_lt h.box)).trans h.cl, h.ev.move (hk.move h0)⟩
theorem VarIs.cells {w : World} {col : Col} {b : Nat} {e : EV} (h : VarIs w col b e) : ∀ j, j < e.cells.size → w.cell? ⟨b, 0 + j, none⟩ = e.cells[j]? := fun j hj => by
  simp only [World.cell?, h.box, Nat.zero_add]; simp
theorem outC_zero (k : Nat) : outC k 0 := by unfold outC; omega
end Go.Proofs.YtmjclmmiljlahaaGreat

set_option linter.unusedVariables false
set_option linter.unusedSimpArgs false
namespace Go.Proofs.YtmjclmmiljlahaaGreat
open Go.RowKit

theorem find_none_of {r : Rm} {id : ByteArray} (h : r.d.find id = none) : r.find id = none := by
  rw [find_d] at h
  cases hr : r.find id with
  | none => rfl
  | some n => rw [hr] at h; cases h

section
variable {w : World} {col : Col} {k R : Nat} {r : Rm} {d : RmD}
theorem takeD_known (h : RmIs w col k R r) (hcol : Std w col) (hd : r.d = d) (e : EV) (he : EvIs w col e) (hid : e.d.id ≠ ⟨#[]⟩) (hroom : e.d.room = d.name) (hself : (e.d.prev ++ e.d.auth).any (fun x => decide (e.d.id = x)) = false) (hn : (d.find e.d.id).isSome = true) :
    Calls Tryz.prog 8 #[.pointer (some ⟨R, 0, none⟩), evV e] w fun x w' => x = .returned (.tuple #[.int .i64 0, .slice none 0 0, codeErr 19]) ∧ Fresh w w' := by
  subst hd
  obtain ⟨x, hx⟩ := Option.isSome_iff_exists.1 hn
  obtain ⟨n, h1, _⟩ := find_of hx
  exact take_known h hcol e he hid hroom hself n h1
theorem takeD_full (h : RmIs w col k R r) (hcol : Std w col) (hd : r.d = d) (e : EV) (he : EvIs w col e) (hid : e.d.id ≠ ⟨#[]⟩) (hroom : e.d.room = d.name) (hself : (e.d.prev ++ e.d.auth).any (fun x => decide (e.d.id = x)) = false)
    (hnone : d.find e.d.id = none) (hrd : d.ready e.d = false) (hns : d.ns.length < 4096) (hfull : 64 ≤ d.staged.length) :
    Calls Tryz.prog 8 #[.pointer (some ⟨R, 0, none⟩), evV e] w fun x w' => x = .returned (.tuple #[.int .i64 0, .slice none 0 0, codeErr 12]) ∧ Fresh w w' := by
  subst hd
  exact take_full h hcol e he hid hroom hself (find_none_of hnone) ((ready_d r e.d).trans hrd) (by simpa [Rm.d] using hns) hfull
theorem takeD_staged (h : RmIs w col k R r) (hcol : Std w col) (hd : r.d = d) (e : EV) (he : EvIs w col e) (hid : e.d.id ≠ ⟨#[]⟩) (hroom : e.d.room = d.name) (hself : (e.d.prev ++ e.d.auth).any (fun x => decide (e.d.id = x)) = false)
    (hnone : d.find e.d.id = none) (hrd : d.ready e.d = false) (hns : d.ns.length < 4096) (hroomy : d.staged.length < 64) :
    Calls Tryz.prog 8 #[.pointer (some ⟨R, 0, none⟩), evV e] w fun x w' => x = .returned (.tuple #[.int .i64 1, .slice none 0 0, .nilIface]) ∧ ∃ col' r', JSt w col k R w' col' r' ∧ r'.d = { d with ns := d.ns ++ [⟨e.d, 1, [], []⟩], staged := d.staged ++ [e.d.id] } := by
  subst hd
  exact take_staged h hcol e he hid hroom hself (find_none_of hnone) ((ready_d r e.d).trans hrd) (by simpa [Rm.d] using hns) hroomy
theorem takeD_judged (h : RmIs w col k R r) (hcol : Std w col) (hd : r.d = d) (e : EV) (he : EvIs w col e) (hid : e.d.id ≠ ⟨#[]⟩) (hroom : e.d.room = d.name) (hself : (e.d.prev ++ e.d.auth).any (fun x => decide (e.d.id = x)) = false)
    (hnone : d.find e.d.id = none) (hrd : d.ready e.d = true) (hns : d.ns.length < 4096) (d1 dfin : RmD) (more : List ByteArray) (hjd : JudgeD { d with ns := d.ns ++ [⟨e.d, 1, [], []⟩] } e.d.id d1) (hrun : TakeRun d1 more dfin) (hml : more.length ≤ 4000) :
    Calls Tryz.prog 8 #[.pointer (some ⟨R, 0, none⟩), evV e] w fun x w' => ∃ (col' : Col) (r' : Rm) (v : SV), x = .returned (.tuple #[.int .i64 (dfin.mark e.d.id), sv v, .nilIface]) ∧ JSt w col k R w' col' r' ∧ r'.d = dfin ∧ StrSl w' col' (sv v) more := by
  subst hd
  exact take_judged h hcol e he hid hroom hself (find_none_of hnone) ((ready_d r e.d).trans hrd) (by simpa [Rm.d] using hns) d1 dfin more hjd hrun hml
theorem missingD (h : RmIs w col k R r) (hcol : Std w col) (hd : r.d = d) (hst : ∀ id ∈ d.staged, (d.find id).isSome = true) (hl : ∀ s ∈ d.missing, s.size ≤ maxLen) (hn : d.missing.length ≤ 4294967296) :
    Calls Tryz.prog 12 #[.pointer (some ⟨R, 0, none⟩)] w fun x w' => ∃ v : SV, x = .returned (sv v) ∧ StrSl w' col (sv v) (sortedS d.missing) ∧ Fresh w w' := by
  subst hd
  exact missing_any h hcol (fun id hi => by have := hst id hi; rw [find_d] at this; simpa using this) hl hn
theorem endsD (h : RmIs w col k R r) (hcol : Std w col) (hd : r.d = d) (hl : ∀ s ∈ d.ends, s.size ≤ maxLen) (hn : d.ends.length ≤ 4294967296) :
    Calls Tryz.prog 19 #[.pointer (some ⟨R, 0, none⟩)] w fun x w' => ∃ v : SV, x = .returned (sv v) ∧ StrSl w' col (sv v) (sortedS d.ends) ∧ Fresh w w' := by
  subst hd
  exact ends_any h hcol hl hn
theorem topD (h : RmIs w col k R r) (hd : r.d = d) : Calls Tryz.prog 21 #[.pointer (some ⟨R, 0, none⟩)] w fun x w' => x = .returned (.int .i64 d.top) ∧ w = w' := by
  subst hd
  exact top_any h
theorem nowD (h : RmIs w col k R r) (hcol : Std w col) (hd : r.d = d) (hst : d.oneEnd) :
    Calls Tryz.prog 20 #[.pointer (some ⟨R, 0, none⟩)] w fun y w' => ∃ (s : SV), y = .returned (sv s) ∧ s.n = d.cur.length ∧ Std w' col ∧ Keep w col w' col (fun c => c ≠ k + 1) := by
  subst hd
  refine (now_any h hcol hst).mono ?_
  rintro y w' ⟨s, r', rfl, h1, _, _, _, _, h2, h3⟩
  exact ⟨s, rfl, h1, h2, h3⟩
theorem markD (h : RmIs w col k R r) (hd : r.d = d) (id : ByteArray) : Calls Tryz.prog 9 #[.pointer (some ⟨R, 0, none⟩), .string id] w fun e w' => e = .returned (.int .i64 (d.mark id)) ∧ w = w' := by
  subst hd
  have := mark_any h id
  rw [mark_d] at this
  exact this
end
end Go.Proofs.YtmjclmmiljlahaaGreat
