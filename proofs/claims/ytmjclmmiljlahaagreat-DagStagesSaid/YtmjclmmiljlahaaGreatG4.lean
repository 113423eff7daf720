/-
  Parts of a proof: the marks of a room. No condition.
-/
import Derived.Test.YtmjclmmiljlahaaGreatG3
set_option linter.unusedVariables false
set_option linter.unusedSimpArgs false
namespace Go.Proofs.YtmjclmmiljlahaaGreat
open Go.RowKit

set_option maxRecDepth 10000 in
set_option maxHeartbeats 400000 in
/-- The closure in by: whether an entry is for a pair. -/
theorem by1_any {w : World} (x p : En) (b : Nat) (hb : w.heap[b]? = some (.cells #[.string p.ty, .string p.key, .string p.id] 80 (0, 0))) :
    Calls Tryz.prog 84 #[.agg #[.string x.ty, .string x.key, .string x.id], .pointer (some ⟨b, 0, none⟩)] w fun r w' => r = .returned (.bool (decide (x.ty = p.ty) && decide (x.key = p.key))) ∧ Fresh w w' := by
  have hlt := box_lt hb
  have b0 : w.cell? ⟨b, 0, none⟩ = some (.string p.ty) := by simp only [World.cell?, hb]; rfl
  have b1 : w.cell? ⟨b, 1, none⟩ = some (.string p.key) := by simp only [World.cell?, hb]; rfl
  have hf : Fresh w (w.alloc (.cells #[.string x.ty, .string x.key, .string x.id] 80)) := (Fresh.rfl' w).alloc (Nat.le_refl _) _
  have b0' := hf.keep b0
  have b1' := hf.keep b1
  have HF := Lib.hid hf
  clear hf b0 b1 hb
  rw [← beq_toList, ← beq_toList]
  cases h0 : (x.ty.toList == p.ty.toList)
  · go_enter Tryz.func84, Tryz.ntmps84
    go_wp2
    go_ret
    exact ⟨rfl, HF.out⟩
  · go_enter Tryz.func84, Tryz.ntmps84
    go_wp2
    go_ret
    exact ⟨by simp, HF.out⟩

def matchEn (p x : En) : Bool := decide (x.ty = p.ty) && decide (x.key = p.key)

set_option maxRecDepth 10000 in
set_option maxHeartbeats 400000 in
theorem index_by {w : World} {col : Col} (s : SV) (l : List En) (hs : EnSl w col s l) (p : En) (b : Nat) (hb : w.heap[b]? = some (.cells #[.string p.ty, .string p.key, .string p.id] 80 (0, 0))) :
    Calls Tryz.prog 83 #[sv s, .func (.func 84) #[] #[.pointer (some ⟨b, 0, none⟩)]] w fun x w' => x = .returned (.int .i64 (idxA (matchEn p) l 0)) ∧ Fresh w w' := by
  obtain ⟨hn, hcp, hm, _, hj⟩ := hs.rows
  have hc : ∀ W, Fresh w W → ∀ x : En, Calls Tryz.prog 84 #[.agg #[.string x.ty, .string x.key, .string x.id], .pointer (some ⟨b, 0, none⟩)] W fun r w' => r = .returned (.bool (matchEn p x)) ∧ Fresh W w' := fun W hf x => by1_any x p b ((hf.blocks b (box_lt hb)).trans hb)
  obtain ⟨a, n, c⟩ := s
  dsimp only at hn hcp hm hj
  subst hn
  have HC := Lib.hid hc; have Hj := Lib.hid hj
  clear hc hj hs hb
  dsimp only [sv]
  go_enter Tryz.func83, Tryz.ntmps83
  go_wp2_with fail
  go_loopw [8] (fun i wr => ∃ q : Nat, q ≤ l.length ∧ i = .int .i64 q ∧ Hid (Fresh w wr) ∧ Hid (idxA (matchEn p) (l.drop q) q = idxA (matchEn p) l 0)) (fun i _ => l.length - (intOf i).toNat)
  case atStart => exact ⟨0, Nat.zero_le _, rfl, Fresh.rfl' w, rfl⟩
  case round =>
    obtain ⟨q, hq, rfl, hf, hr⟩ := hrel
    by_cases hlt : q < l.length
    · obtain ⟨g, off, rfl, _, _, hcx⟩ := Hj.out q hlt
      have c0 : wr.cell? ⟨g, off + q * 3, none⟩ = some (.string l[q].ty) := hf.out.keep (hcx 0 (by omega))
      have c1 : wr.cell? ⟨g, off + q * 3 + 1, none⟩ = some (.string l[q].key) := hf.out.keep (hcx 1 (by omega))
      have c2 : wr.cell? ⟨g, off + q * 3 + 2, none⟩ = some (.string l[q].id) := hf.out.keep (hcx 2 (by omega))
      clear hcx
      cases hp : matchEn p l[q]
      · have hr' := idxA_miss (p := matchEn p) hlt hp
        have HR : Hid (idxA (matchEn p) (l.drop (q+1)) (q+1) = idxA (matchEn p) l 0) := by rw [← hr']; exact hr.out
        have HP := Lib.hid hp; clear hp hr hr'
        go_wp2_with fail
        refine (HC.out _ hf.out _).mono ?_
        rintro x w2 ⟨rfl, hf2⟩
        have HF2 : Hid (Fresh w w2) := fcomp hf.out hf2
        rw [HP.out]
        clear hf hf2 c0 c1 c2
        go_wp2_with fail
        go_roundw
        case rel => exact ⟨q + 1, by omega, by go_num, HF2, HR⟩
        case measure => simp [intOf]; omega
      · have hr' := idxA_hit (p := matchEn p) hlt hp
        have HR : Hid ((q : Int) = idxA (matchEn p) l 0) := by rw [← hr']; exact hr.out
        have HP := Lib.hid hp; clear hp hr hr'
        go_wp2_with fail
        refine (HC.out _ hf.out _).mono ?_
        rintro x w2 ⟨rfl, hf2⟩
        have HF2 : Hid (Fresh w w2) := fcomp hf.out hf2
        rw [HP.out]
        clear hf hf2 c0 c1 c2
        go_wp2_with fail
        go_ret
        exact ⟨ret_int HR.out, HF2.out⟩
    · have HR : Hid (-1 = idxA (matchEn p) l 0) := by rw [← hr.out, idxA_end (by omega)]; rfl
      clear hr
      go_wp2_with fail
      go_ret
      exact ⟨ret_int HR.out, hf.out⟩
end Go.Proofs.YtmjclmmiljlahaaGreat

set_option linter.unusedVariables false
set_option linter.unusedSimpArgs false
namespace Go.Proofs.YtmjclmmiljlahaaGreat
open Go.RowKit

/-- A slice of events. -/
structure EvL (w : World) (col : Col) (v : SV) (L : List EV) : Prop where
  row : Sl w col 22 (sv v) L.length (L.flatMap fun e => e.cells.toList)
  each : ∀ e ∈ L, EvIs w col e
instance : Inhabited EV := ⟨EV.zero⟩
theorem EvL.evs {w : World} {col : Col} {v : SV} {L : List EV} (h : EvL w col v L) : EvsSl w col v (L.map EV.d) (fun i => L.getD i default) := by
  have h1 := h.row
  rw [flat_list] at h1
  refine ⟨by rw [List.length_map]; exact h1, fun i hi => ?_, fun i hi => ?_⟩
  · rw [List.length_map] at hi
    simp [hi]
  · rw [List.length_map] at hi
    have : L.getD i default = L[i] := by simp [hi]
    rw [this]; exact h.each _ (List.getElem_mem hi)
theorem info38r : (Tryz.prog.info? 38).map (fun i => (i.zero, i.size, i.bytes)) = some (some (.agg EV.zero.cells), 22, 328) := by kernel_rfl

/-- The source of an append of one event. -/
theorem src_ev {w : World} (e : EV) (b : Nat) (hb : w.heap[b]? = some (.cells e.cells 38 (0, 0))) : Src Tryz.prog 22 44 (.slice (some ⟨b, 0, none⟩) 1 1) 1 e.cells.toList w := by
  refine Src.ofSlice w Tryz.underlying44 _ 1 1 _ rfl (fun j u hu => ?_) (fun u hu => ?_)
  · simp only [World.cell?, Addr.add_lit, hb, Option.isSome_none, Bool.false_eq_true, if_false, Nat.zero_add]
    rw [← Array.getElem?_toList]; exact hu
  · have := EV.one e
    rw [Array.all_eq_true_iff_forall_mem] at this
    exact this u (by simpa using hu)

theorem yieldsIf_load_cells {P : Program} {ops : Array Oper} {S : World → Prop} {op : Oper} {a : Act} (hw : Region.wanted op (yielded ops a.tmps) = true) (ty : TypeId) (x : Operand) (ho : op.op = .load ty x)
    (b off : Nat) (hx : a.eval x = .pointer (some ⟨b, off, none⟩)) (cs : Array Value) (hS : ∀ w, S w → ∀ j, j < cs.size → w.cell? ⟨b, off + j, none⟩ = cs[j]?) (d : TypeDesc)
    (hu : P.underlying ty = some d) (hd : (match d with | .struct _ | .array _ _ => true | _ => false) = true) (hi : (P.info? ty).map (·.size) = some cs.size) : YieldsIf P ops S op (.agg cs) a :=
  .inl ⟨hw, fun w hw' => by
    unfold execOp
    simp only [ho, hx, Instr.loadAt, Instr.sureAddr, Sem.run_bind, Sem.run_pure, Result.andThen_ok, run_load_cells ty b off cs (hS w hw') d hu hd hi]⟩
theorem build44 (e : EV) (w : World) : (Instr.buildSlice 44 1 #[(0, .agg e.cells)]).run Tryz.prog w = .ok (.slice (some ⟨w.heap.size, 0, none⟩) 1 1) (w.alloc (.cells e.cells 38)) := by kernel_rfl

theorem execBuild44 {o : Oper} {a : Act} {w : World} (x : Operand) (ho : o.op = .buildSlice 44 1 #[(0, x)]) (e : EV) (hx : a.eval x = .agg e.cells) :
    (execOp a.eval o).run Tryz.prog w = .ok (.value (.slice (some ⟨w.heap.size, 0, none⟩) 1 1)) (w.alloc (.cells e.cells 38)) := by
  have := build44 e w
  unfold execOp
  simp only [ho]
  rw [show (#[(0, x)] : Array (Nat × Operand)).map (fun p => (p.1, a.eval p.2)) = #[(0, .agg e.cells)] from by simp [hx]]
  simp only [Sem.run_bind, this, Result.andThen_ok]
  rfl
theorem step_build44 {ops : Array Oper} {o : Oper} {a : Act} {K : Act → World → Prop} {Q : Exit → Act → World → Prop} {E : Prop} {w : World} (hgd : o.guard = none) (x : Operand) (ho : o.op = .buildSlice 44 1 #[(0, x)])
    (e : EV) (hx : a.eval x = .agg e.cells) (h : K (a.put o.dst (.slice (some ⟨w.heap.size, 0, none⟩) 1 1)) (w.alloc (.cells e.cells 38))) :
    if Region.wanted o (yielded ops a.tmps) = true then Oper.wp Tryz.prog o a w K Q else E := by
  rw [if_pos (by simp [Region.wanted, hgd])]
  unfold Oper.wp
  rw [execBuild44 x ho e hx]
  exact h
theorem wpList_build44 {ops : Array Oper} {rest : List Oper} {o : Oper} {a : Act} {Q : Exit → Act → World → Prop} {w : World} (hgd : o.guard = none) (x : Operand) (ho : o.op = .buildSlice 44 1 #[(0, x)])
    (e : EV) (hx : a.eval x = .agg e.cells) (h : wpList Tryz.prog ops Q rest (a.put o.dst (.slice (some ⟨w.heap.size, 0, none⟩) 1 1)) (w.alloc (.cells e.cells 38))) : wpList Tryz.prog ops Q (o :: rest) a w :=
  wpList_plain hgd fun K hK => by
    unfold Oper.wp
    rw [execBuild44 x ho e hx]
    exact hK _ _ h

theorem idxA_find {α : Type} (p : α → Bool) (l : List α) : ∀ k : Nat, (idxA p l k = -1 ∧ l.find? p = none) ∨ ∃ (i : Nat) (h : i < l.length), idxA p l k = ((k + i : Nat) : Int) ∧ l.find? p = some l[i] := by
  induction l with
  | nil => intro k; exact .inl ⟨rfl, rfl⟩
  | cons a l ih =>
    intro k
    unfold idxA
    by_cases h : p a = true
    · exact .inr ⟨0, by simp, by simp [h], by simp [h]⟩
    · rcases ih (k + 1) with ⟨h1, h2⟩ | ⟨i, hi, h1, h2⟩
      · exact .inl ⟨by simp [h, h1], by simp [h, h2]⟩
      · refine .inr ⟨i + 1, by simp; omega, ?_, ?_⟩
        · rw [if_neg h, h1]; exact congrArg Int.ofNat (by omega)
        · simp [h, h2]
theorem selectF_len (e : Ev) : (selectF e).length ≤ 5 := by
  unfold selectF
  split
  · simp
  · split <;> split <;> simp
/-- The events that a state has for some pairs. -/
def RmD.byF (d : RmD) (l S : List En) : List Ev := S.filterMap fun p => (l.find? (matchEn p)).bind fun x => (d.find x.id).map (·.e)
theorem byF_step {d : RmD} {l S : List En} {q : Nat} (h : q < S.length) : d.byF l (S.take (q + 1)) = d.byF l (S.take q) ++ (match (l.find? (matchEn S[q])).bind fun x => (d.find x.id).map (·.e) with | some e => [e] | none => []) := by
  unfold RmD.byF
  rw [List.take_succ_eq_append_getElem h, List.filterMap_append]
  congr 1
  rw [List.filterMap_cons, List.filterMap_nil]
  cases (l.find? (matchEn S[q])).bind fun x => (d.find x.id).map (·.e) <;> rfl
set_option maxRecDepth 10000 in
set_option maxHeartbeats 800000 in
theorem by_any {w : World} {col : Col} {k R : Nat} {r : Rm} (h : RmIs w col k R r) (hcol : Std w col) (s : SV) (l : List En) (hs : EnSl w col s l) (e : EV) (he : EvIs w col e)
    (hf : ∀ x ∈ l, (r.find x.id).isSome = true) :
    Calls Tryz.prog 57 #[.pointer (some ⟨R, 0, none⟩), sv s, evV e] w fun x w' => ∃ (v : SV) (L : List EV), x = .returned (sv v) ∧ EvL w' col v L ∧ L.map EV.d = r.d.byF l (selectF e.d) ∧ Fresh w w' := by
  have H := Lib.hid h; have Hs := Lib.hid hs; have He := Lib.hid he; have Hf := Lib.hid hf
  clear h hs he hf
  dsimp only [sv, evV]
  go_enter Tryz.func57, Tryz.ntmps57
  go_wp2_with (with_reducible refine stop_op (.load 38 (.tmp 5)) rfl ?_)
  refine Stand.go ?_
  refine wpList_load_row rfl 38 (.tmp 5) rfl w.heap.size rfl 38 e.cells (0, 0) _ (heap_alloc_new _ _) Tryz.underlying38 rfl info38s ?_
  have hf0 : Fresh w (w.alloc (.cells e.cells 38)) := (Fresh.rfl' w).alloc (Nat.le_refl _) _
  go_wp2_with fail
  refine (select_any e col _ (hcol.fresh hf0) (He.out.fresh hf0)).mono ?_
  rintro x w1 ⟨v, rfl, hv, hf1⟩
  obtain ⟨hn, hcp, hm, _, hj⟩ := hv.rows
  obtain ⟨l2, hl2⟩ : ∃ l2, l2 = selectF e.d := ⟨_, rfl⟩
  obtain ⟨va, vn, vc⟩ := v
  have hl5 := selectF_len e.d
  rw [← hl2] at hn hcp hj hl5
  dsimp only at hn hcp hm hj
  subst hn
  have Hj := Lib.hid hj; have HF := Lib.hid (fcomp hf0 hf1)
  have Hl2 := Lib.hid hl2
  clear hf0 hf1 hj hv hl2
  have hmf : ∀ (fn : Fn) (first cap : Array Value) (w : World), (Instr.makeFunc fn first cap).run Tryz.prog w = .ok (.func fn first cap) w := fun _ _ _ _ => rfl
  go_wp2_with fail
  go_loopw [14, 7] (fun i o wr => ∃ (q : Nat) (L : List EV) (oa : Option Addr) (on oc : Nat), q ≤ l2.length ∧ i = .int .i64 q ∧ o = .slice oa on oc ∧ Hid (Fresh w1 wr) ∧ Hid (wr.ownsRow w1.heap.size 38 22 (.slice oa on oc) L.length (L.flatMap fun e => e.cells.toList)) ∧ L.length ≤ q ∧ Hid (∀ e ∈ L, EvIs w1 col e) ∧ Hid (L.map EV.d = r.d.byF l (l2.take q))) (fun i _ _ => l2.length - (intOf i).toNat)
  case atStart => exact ⟨0, [], none, 0, 0, Nat.zero_le _, rfl, rfl, Fresh.rfl' w1, World.ownsRow_nil _ _ _ _, Nat.le_refl _, (fun e he => (List.not_mem_nil he).elim : ∀ e ∈ ([] : List EV), EvIs w1 col e), rfl⟩
  case round =>
    obtain ⟨q, L, oa, on, oc, hq, rfl, rfl, hfr, hown, hL, hall, hdt⟩ := hrel
    by_cases hlt : q < l2.length
    · obtain ⟨g, off, rfl, _, _, hcx⟩ := Hj.out q hlt
      have c0 : wr.cell? ⟨g, off + q * 3, none⟩ = some (.string l2[q].ty) := hfr.out.keep (hcx 0 (by omega))
      have c1 : wr.cell? ⟨g, off + q * 3 + 1, none⟩ = some (.string l2[q].key) := hfr.out.keep (hcx 1 (by omega))
      have c2 : wr.cell? ⟨g, off + q * 3 + 2, none⟩ = some (.string l2[q].id) := hfr.out.keep (hcx 2 (by omega))
      clear hcx
      have hfW : Fresh w1 (wr.alloc (.cells #[.string l2[q].ty, .string l2[q].key, .string l2[q].id] 80)) := hfr.out.alloc hfr.out.size _
      have Hix := Lib.hid (index_by s l (Hs.out.fresh (fcomp HF.out hfW)) l2[q] wr.heap.size (heap_alloc_new _ _))
      have hstep := byF_step (d := r.d) (l := l) hlt
      rcases idxA_find (matchEn l2[q]) l 0 with ⟨hi, hfd⟩ | ⟨i, hi, hix, hfd⟩
      · have HD : Hid (L.map EV.d = r.d.byF l (l2.take (q + 1))) := by rw [hstep, hfd, hdt.out]; exact (List.append_nil _).symm
        have HI := Lib.hid hi
        clear hstep hfd hdt hi
        go_wp2_with fail
        refine Hix.out.mono ?_
        rintro x w2 ⟨rfl, hf2⟩
        have hfa : Fresh wr w2 := fcomp ((Fresh.rfl' wr).alloc (Nat.le_refl _) _) hf2
        have Hfa := Lib.hid hfa
        rw [HI.out]
        clear hf2 Hix c0 c1 c2 hfW hfa
        go_wp2_with fail
        go_roundw
        case rel => exact ⟨q + 1, L, oa, on, oc, by omega, by go_num, rfl, fcomp hfr.out Hfa.out, ownsRow_fresh hown.out Hfa.out, by omega, hall, HD⟩
        case measure => simp [intOf]; omega
      · rw [Nat.zero_add] at hix
        obtain ⟨nd, hnd⟩ := Option.isSome_iff_exists.1 (Hf.out l[i] (List.getElem_mem hi))
        have HD : Hid ((L ++ [nd.e]).map EV.d = r.d.byF l (l2.take (q + 1))) := by
          rw [hstep, hfd, List.map_append, hdt.out, Option.bind_some, find_d, hnd]; rfl
        have HI := Lib.hid hix
        have Hnd := Lib.hid hnd
        clear hstep hfd hdt hix hnd
        go_wp2_with fail
        refine Hix.out.mono ?_
        rintro x w2 ⟨rfl, hf2⟩
        have hfa : Fresh wr w2 := fcomp ((Fresh.rfl' wr).alloc (Nat.le_refl _) _) hf2
        have Hfa := Lib.hid hfa
        rw [HI.out]
        clear hf2 Hix c0 c1 c2 hfW hfa
        obtain ⟨hsn, hsc, hsm, _, hsr⟩ := (Hs.out.fresh HF.out).rows
        obtain ⟨sb, so, hsa, _, _, hse⟩ := hsr i hi
        have k2 : w1.cell? ⟨sb, so + i * 3 + 2, none⟩ = some (.string l[i].id) := hse 2 (by omega)
        have hRm := H.out.fresh HF.out
        have HRm := Lib.hid hRm
        have d1 := hRm.c1
        have hb1 : ((i : Nat) : Int) < l.length := by omega
        have hb0 : (0 : Int) ≤ ((i : Nat) : Int) := by omega
        clear hsr hse hRm
        have HSa := Lib.hid hsa; have HSn := Lib.hid hsn; clear hsa hsn
        go_wp2_with fail
        have hSS : ∀ W, Fresh w1 W → W.cell? ⟨R, 1, none⟩ = some (.map (some r.nm)) ∧ W.cell? ⟨sb, so + i * 3 + 2, none⟩ = some (.string l[i].id) ∧ (Instr.lookup 57 (.map (some r.nm)) (.string l[i].id) false).run Tryz.prog W = .ok (.pointer (some ⟨nd.blk, 0, none⟩)) W ∧ Hid (Fresh w1 W) := fun W hW =>
          ⟨hW.keep d1, hW.keep k2, by have := look_node (HRm.out.fresh hW) l[i].id; rw [Hnd.out] at this; exact this, hW⟩
        have HS2 := Lib.hid hSS
        have HNc : Hid (∀ W, Hid (Fresh w1 W) → ∀ j, j < nd.e.cells.size → W.cell? ⟨nd.blk, 0 + j, none⟩ = nd.e.cells[j]?) := fun W hW =>
          ((HRm.out.rest.nd nd (Rm.find_mem Hnd.out).1).keep (p := fun _ => True) (Keep.ofFresh hW.out) trivial trivial).ev_cells
        clear hSS
        refine wp_region_held_drew (S := fun W => W.cell? ⟨R, 1, none⟩ = some (.map (some r.nm)) ∧ W.cell? ⟨sb, so + i * 3 + 2, none⟩ = some (.string l[i].id) ∧ (Instr.lookup 57 (.map (some r.nm)) (.string l[i].id) false).run Tryz.prog W = .ok (.pointer (some ⟨nd.blk, 0, none⟩)) W ∧ Hid (Fresh w1 W)) (by kernel_rfl) ?_ (fun hHeld => ?_)
        · exact HS2.out _ (fcomp hfr.out Hfa.out).drew
        refine wpAnyH_take (i := 0) (oi := { dst := some 23, op := .move (.tmp 7), type := 44, pos := "dag.go:140", after := #[], guard := none }) (v := ?_) rfl (by kernel_rfl) (by kernel_rfl) (by kernel_rfl) (fun _ _ _ h => h) (Or.inl ⟨by rfl, ?_⟩) (by assumption) ?_
        rotate_left 1
        · intro W hSw
          obtain ⟨s1, s2, s3, s4⟩ := hSw
          go_simp
          try with_reducible rfl
        try simp only [Act.put, List.setIfInBounds_toArray, List.set_cons_zero, List.set_cons_succ]
        refine wpAnyH_take (i := 1) (oi := { dst := some 24, op := .move (.tmp 0), type := 23, pos := "dag.go:140", after := #[], guard := none }) (v := ?_) rfl (by kernel_rfl) (by kernel_rfl) (by kernel_rfl) (fun _ _ _ h => h) (Or.inl ⟨by rfl, ?_⟩) (by assumption) ?_
        rotate_left 1
        · intro W hSw
          obtain ⟨s1, s2, s3, s4⟩ := hSw
          go_simp
          try with_reducible rfl
        try simp only [Act.put, List.setIfInBounds_toArray, List.set_cons_zero, List.set_cons_succ]
        refine wpAnyH_take (i := 2) (oi := { dst := some 25, op := .nilCheck (.tmp 24), type := 0, pos := "dag.go:140", after := #[{ on := 1, ground := .data }], guard := none }) (v := ?_) rfl (by kernel_rfl) (by kernel_rfl) (by kernel_rfl) (fun _ _ _ h => h) (Or.inl ⟨by rfl, ?_⟩) (by assumption) ?_
        rotate_left 1
        · intro W hSw
          obtain ⟨s1, s2, s3, s4⟩ := hSw
          go_simp
          try with_reducible rfl
        try simp only [Act.put, List.setIfInBounds_toArray, List.set_cons_zero, List.set_cons_succ]
        refine wpAnyH_take (i := 3) (oi := { dst := some 26, op := .fieldAddr 60 (.tmp 25) 1, type := 0, pos := "dag.go:140", after := #[{ on := 2, ground := .data }], guard := none }) (v := ?_) rfl (by kernel_rfl) (by kernel_rfl) (by kernel_rfl) (fun _ _ _ h => h) (Or.inl ⟨by rfl, ?_⟩) (by assumption) ?_
        rotate_left 1
        · intro W hSw
          obtain ⟨s1, s2, s3, s4⟩ := hSw
          go_simp
          try with_reducible rfl
        try simp only [Act.put, List.setIfInBounds_toArray, List.set_cons_zero, List.set_cons_succ]
        refine wpAnyH_take (i := 4) (oi := { dst := some 27, op := .load 57 (.tmp 26), type := 57, pos := "dag.go:140", after := #[{ on := 3, ground := .data }], guard := none }) (v := ?_) rfl (by kernel_rfl) (by kernel_rfl) (by kernel_rfl) (fun _ _ _ h => h) (Or.inl ⟨by rfl, ?_⟩) (by assumption) ?_
        rotate_left 1
        · intro W hSw
          obtain ⟨s1, s2, s3, s4⟩ := hSw
          go_simp
          try with_reducible rfl
        try simp only [Act.put, List.setIfInBounds_toArray, List.set_cons_zero, List.set_cons_succ]
        refine wpAnyH_take (i := 5) (oi := { dst := some 28, op := .move (.tmp 1), type := 48, pos := "dag.go:140", after := #[], guard := none }) (v := ?_) rfl (by kernel_rfl) (by kernel_rfl) (by kernel_rfl) (fun _ _ _ h => h) (Or.inl ⟨by rfl, ?_⟩) (by assumption) ?_
        rotate_left 1
        · intro W hSw
          obtain ⟨s1, s2, s3, s4⟩ := hSw
          go_simp
          try with_reducible rfl
        try simp only [Act.put, List.setIfInBounds_toArray, List.set_cons_zero, List.set_cons_succ]
        refine wpAnyH_take (i := 6) (oi := { dst := some 29, op := .move (.tmp 10), type := 3, pos := "dag.go:140", after := #[], guard := none }) (v := ?_) rfl (by kernel_rfl) (by kernel_rfl) (by kernel_rfl) (fun _ _ _ h => h) (Or.inl ⟨by rfl, ?_⟩) (by assumption) ?_
        rotate_left 1
        · intro W hSw
          obtain ⟨s1, s2, s3, s4⟩ := hSw
          go_simp
          try with_reducible rfl
        try simp only [Act.put, List.setIfInBounds_toArray, List.set_cons_zero, List.set_cons_succ]
        refine wpAnyH_take (i := 7) (oi := { dst := some 30, op := .indexAddr 48 (.tmp 28) (.tmp 29), type := 0, pos := "dag.go:140", after := #[{ on := 5, ground := .data }, { on := 6, ground := .data }], guard := none }) (v := ?_) rfl (by kernel_rfl) (by kernel_rfl) (by kernel_rfl) (fun _ _ _ h => h) (Or.inl ⟨by rfl, ?_⟩) (by assumption) ?_
        rotate_left 1
        · intro W hSw
          obtain ⟨s1, s2, s3, s4⟩ := hSw
          have e1 := HSa.out; have e2 := HSn.out
          go_simp
          try with_reducible rfl
        try simp only [Act.put, List.setIfInBounds_toArray, List.set_cons_zero, List.set_cons_succ]
        refine wpAnyH_take (i := 8) (oi := { dst := some 31, op := .fieldAddr 80 (.tmp 30) 2, type := 0, pos := "dag.go:140", after := #[{ on := 7, ground := .data }], guard := none }) (v := ?_) rfl (by kernel_rfl) (by kernel_rfl) (by kernel_rfl) (fun _ _ _ h => h) (Or.inl ⟨by rfl, ?_⟩) (by assumption) ?_
        rotate_left 1
        · intro W hSw
          obtain ⟨s1, s2, s3, s4⟩ := hSw
          go_simp
          try with_reducible rfl
        try simp only [Act.put, List.setIfInBounds_toArray, List.set_cons_zero, List.set_cons_succ]
        refine wpAnyH_take (i := 9) (oi := { dst := some 32, op := .load 9 (.tmp 31), type := 9, pos := "dag.go:140", after := #[{ on := 8, ground := .data }], guard := none }) (v := ?_) rfl (by kernel_rfl) (by kernel_rfl) (by kernel_rfl) (fun _ _ _ h => h) (Or.inl ⟨by rfl, ?_⟩) (by assumption) ?_
        rotate_left 1
        · intro W hSw
          obtain ⟨s1, s2, s3, s4⟩ := hSw
          go_simp
          try with_reducible rfl
        try simp only [Act.put, List.setIfInBounds_toArray, List.set_cons_zero, List.set_cons_succ]
        refine wpAnyH_take (i := 10) (oi := { dst := some 33, op := .lookup 57 (.tmp 27) (.tmp 32) false, type := 63, pos := "dag.go:140", after := #[{ on := 4, ground := .data }, { on := 9, ground := .data }], guard := none }) (v := ?_) rfl (by kernel_rfl) (by kernel_rfl) (by kernel_rfl) (fun _ _ _ h => h) (Or.inl ⟨by rfl, ?_⟩) (by assumption) ?_
        rotate_left 1
        · intro W hSw
          obtain ⟨s1, s2, s3, s4⟩ := hSw
          go_simp
          try with_reducible rfl
        try simp only [Act.put, List.setIfInBounds_toArray, List.set_cons_zero, List.set_cons_succ]
        refine wpAnyH_take (i := 11) (oi := { dst := some 34, op := .nilCheck (.tmp 33), type := 0, pos := "dag.go:140", after := #[{ on := 10, ground := .data }], guard := none }) (v := ?_) rfl (by kernel_rfl) (by kernel_rfl) (by kernel_rfl) (fun _ _ _ h => h) (Or.inl ⟨by rfl, ?_⟩) (by assumption) ?_
        rotate_left 1
        · intro W hSw
          obtain ⟨s1, s2, s3, s4⟩ := hSw
          go_simp
          try with_reducible rfl
        try simp only [Act.put, List.setIfInBounds_toArray, List.set_cons_zero, List.set_cons_succ]
        refine wpAnyH_take (i := 12) (oi := { dst := some 35, op := .fieldAddr 67 (.tmp 34) 0, type := 0, pos := "dag.go:140", after := #[{ on := 11, ground := .data }], guard := none }) (v := ?_) rfl (by kernel_rfl) (by kernel_rfl) (by kernel_rfl) (fun _ _ _ h => h) (Or.inl ⟨by rfl, ?_⟩) (by assumption) ?_
        rotate_left 1
        · intro W hSw
          obtain ⟨s1, s2, s3, s4⟩ := hSw
          go_simp
          try with_reducible rfl
        try simp only [Act.put, List.setIfInBounds_toArray, List.set_cons_zero, List.set_cons_succ]
        refine wpAnyH_take (i := 13) (oi := { dst := some 36, op := .load 38 (.tmp 35), type := 38, pos := "dag.go:140", after := #[{ on := 12, ground := .data }], guard := none }) (v := .agg nd.e.cells) rfl (by kernel_rfl) (by kernel_rfl) (by kernel_rfl) (fun _ _ _ h => h)
          (yieldsIf_load_cells (by rfl) 38 (.tmp 35) rfl nd.blk 0 rfl nd.e.cells (fun W hW => HNc.out W hW.2.2.2) _ Tryz.underlying38 rfl info38s) (by assumption) ?_
        try simp only [Act.put, List.setIfInBounds_toArray, List.set_cons_zero, List.set_cons_succ]
        refine wpAnyH_ready (rs := [14]) (by kernel_rfl) (by simp) ?_
        refine AllReadyH.cons (o := { dst := some 37, op := .buildSlice 44 1 #[(0, .tmp 36)], type := 44, pos := "dag.go:140", after := #[{ on := 13, ground := .data }], guard := none }) rfl (fun K hK => ?_) AllReadyH.nil
        refine step_build44 rfl (.tmp 36) rfl nd.e rfl ?_
        refine hK.out _ _ (HS2.out _ ((fcomp hfr.out Hfa.out).drew.alloc (fcomp hfr.out Hfa.out).size _)) (fun hHeld => ?_)
        clear hK K
        try simp only [Act.put, List.setIfInBounds_toArray, List.set_cons_zero, List.set_cons_succ]
        refine wpAnyH_ready (rs := [15]) (by kernel_rfl) (by simp) ?_
        refine AllReadyH.cons (o := { dst := some 38, op := .call { callee := Go.Callee.builtin Go.Builtin.append, args := #[.tmp 23, .tmp 37], argTypes := #[44, 44] }, type := 44, pos := "dag.go:140", after := #[{ on := 0, ground := .data }, { on := 14, ground := .data }], guard := none }) rfl (fun K hK => ?_) AllReadyH.nil
        refine step_append_src _ rfl _ _ 44 44 rfl w1.heap.size 38 (.agg EV.zero.cells) 22 328 Tryz.underlying44 info38r rfl (by decide) (.slice oa on oc) L.length _ rfl (ownsRow_fresh hown.out (fcomp Hfa.out ((Fresh.rfl' w2).drew.alloc (Nat.le_refl _) _))) (.slice (some ⟨w2.drew.heap.size, 0, none⟩) 1 1) 1 nd.e.cells.toList rfl (src_ev nd.e _ (heap_alloc_new _ _)) (by unfold maxLen; omega) (by omega) (by have := (fcomp hfr.out Hfa.out).size; simp; omega) ?_
        intro v' w' hown' hg _
        obtain ⟨a', m', c', rfl⟩ := own_slice hown'
        have hfr' : Fresh w1 w' := Fresh.app ((fcomp hfr.out Hfa.out).drew.alloc (fcomp hfr.out Hfa.out).size _) (ownsRow_fresh hown.out (fcomp Hfa.out ((Fresh.rfl' w2).drew.alloc (Nat.le_refl _) _))) (Nat.le_refl _) hg
        have Hfr' := Lib.hid hfr'
        have hown2 : w'.ownsRow w1.heap.size 38 22 (.slice a' m' c') (L ++ [nd.e]).length ((L ++ [nd.e]).flatMap fun e => e.cells.toList) := by
          rw [List.flatMap_append, List.length_append]
          simpa using hown'
        have Hown' := Lib.hid hown2
        clear hown' hg hfr' hown2
        refine hK.out _ _ (HS2.out _ Hfr'.out) (fun hHeld => ?_)
        clear hK K
        try simp only [Act.put, List.setIfInBounds_toArray, List.set_cons_zero, List.set_cons_succ]
        refine wpAnyH_ready (rs := [16]) (by kernel_rfl) (by simp) ?_
        refine AllReadyH.cons (o := { dst := some 7, op := .assign (.tmp 38), type := 44, pos := "dag.go:140", after := #[{ on := 15, ground := .data }, { on := 15, ground := .chain }, { on := 0, ground := .phase }, { on := 1, ground := .phase }, { on := 2, ground := .phase }, { on := 3, ground := .phase }, { on := 4, ground := .phase }, { on := 5, ground := .phase }, { on := 6, ground := .phase }, { on := 7, ground := .phase }, { on := 8, ground := .phase }, { on := 9, ground := .phase }, { on := 10, ground := .phase }, { on := 11, ground := .phase }, { on := 12, ground := .phase }, { on := 13, ground := .phase }, { on := 14, ground := .phase }, { on := 15, ground := .phase }], guard := none }) rfl (fun K hK => ?_) AllReadyH.nil
        go_simp
        refine hK.out _ _ (HS2.out _ Hfr'.out) (fun hHeld => ?_)
        clear hK K
        try simp only [Act.put, List.setIfInBounds_toArray, List.set_cons_zero, List.set_cons_succ]
        refine wpAnyH_done (by kernel_rfl) ?_ _
        have hall' : Hid (∀ e ∈ L ++ [nd.e], EvIs w1 col e) := fun e he => by
          rcases List.mem_append.1 he with h | h
          · exact hall.out e h
          · rw [List.mem_singleton.1 h]; exact (HRm.out.rest.nd nd (Rm.find_mem Hnd.out).1).ev
        go_wp2_with fail
        go_roundw
        case rel => exact ⟨q + 1, L ++ [nd.e], a', m', c', by omega, by go_num, rfl, Hfr', Hown', by simp; omega, hall', HD⟩
        case measure => simp [intOf]; omega
    · obtain rfl : q = l2.length := by omega
      have hdt' := hdt.out
      rw [List.take_length] at hdt'
      have Hdt := Lib.hid hdt'
      clear hdt hdt'
      go_wp2_with fail
      go_ret
      have hfin := fcomp HF.out hfr.out
      refine ⟨⟨oa, on, oc⟩, L, rfl, ⟨Sl.ofOwn hown.out (by omega) (hcol.fresh HF.out).ok (Nat.le_refl _), fun e he => (hall.out e he).fresh hfr.out⟩, by rw [Hdt.out, Hl2.out], hfin⟩
end Go.Proofs.YtmjclmmiljlahaaGreat

set_option linter.unusedVariables false
set_option linter.unusedSimpArgs false
namespace Go.Proofs.YtmjclmmiljlahaaGreat
open Go.RowKit

set_option maxRecDepth 10000 in
set_option maxHeartbeats 800000 in
/-- slices.Insert at the end. -/
theorem insert_end {w : World} {base : Nat} (s : SV) (n : Nat) (cs : List Value) (hown : w.ownsRow base 80 3 (sv s) n cs) (hn : n ≤ 4096) (hb : base ≤ w.heap.size) (x : En) (g : Nat) (hg : w.heap[g]? = some (.cells #[.string x.ty, .string x.key, .string x.id] 80 (0, 0))) :
    Calls Tryz.prog 60 #[sv s, .int .i64 n, .slice (some ⟨g, 0, none⟩) 1 1] w fun r w' => ∃ v : SV, r = .returned (sv v) ∧ w'.ownsRow base 80 3 (sv v) (n + 1) (cs ++ enCells x) ∧ w.grownBy w' (sv s).ownBlock := by
  have hsn : (s = ⟨none, 0, 0⟩ ∧ n = 0) ∨ ∃ g cap, s = ⟨some ⟨g, 0, none⟩, n, cap⟩ ∧ n ≤ cap ∧ cap ≤ 9223372036854775807 := by
    obtain ⟨a, m, c⟩ := s
    rcases hown.2 with ⟨h1, h2⟩ | ⟨g, cap, cur, h1, _, _, h4, h5, _⟩
    · simp [sv] at h1; exact .inl ⟨by simp [h1], h2⟩
    · simp [sv] at h1; exact .inr ⟨g, cap, by simp [h1], h4, by unfold maxLen at h5; omega⟩
  have Hg := Lib.hid hg
  clear hg
  rcases hsn with ⟨rfl, rfl⟩ | ⟨g0, cap, rfl, hc, hm⟩
  · have Hown := Lib.hid hown
    clear hown
    dsimp only [sv]
    go_enter Tryz.func60, Tryz.ntmps60
    go_wp2_with (at_builtin; refine Stand.stop ?_)
    refine Stand.go ?_
    refine wpList_append_src _ rfl _ _ 48 47 rfl base 80 _ 3 48 Tryz.underlying48 info80 rfl (by decide) (.slice none 0 0) 0 cs rfl Hown.out (.slice (some ⟨g, 0, none⟩) 1 1) 1 (enCells x) rfl (src_new _ x g Hg.out) (by unfold maxLen; omega) (by omega) hb ?_
    intro v' w' hown' hgr _
    obtain ⟨a', m', c', rfl⟩ := own_slice hown'
    have Ho := Lib.hid hown'; have Hgr := Lib.hid hgr
    clear hown' hgr
    go_wp2_with fail
    go_ret
    exact ⟨⟨a', m', c'⟩, rfl, Ho.out, Hgr.out⟩
  · by_cases hnc : n = cap
    · subst hnc
      have Hown := Lib.hid hown
      clear hown
      have hi1 : (n : Int) ≤ 9223372036854775807 := by omega
      have hi2 : ((n : Nat) : Int) ≤ n := by omega
      dsimp only [sv]
      go_enter Tryz.func60, Tryz.ntmps60
      go_wp2_with (at_builtin; refine Stand.stop ?_)
      refine Stand.go ?_
      refine wpList_append_src _ rfl _ _ 48 47 rfl base 80 _ 3 48 Tryz.underlying48 info80 rfl (by decide) (.slice (some ⟨g0, 0, none⟩) n n) n cs rfl Hown.out (.slice (some ⟨g, 0, none⟩) 1 1) 1 (enCells x) rfl (src_new _ x g Hg.out) (by unfold maxLen; omega) (by omega) hb ?_
      intro v' w' hown' hgr _
      obtain ⟨a', m', c', rfl⟩ := own_slice hown'
      have Ho := Lib.hid hown'; have Hgr := Lib.hid hgr
      clear hown' hgr
      go_wp2_with fail
      go_ret
      exact ⟨⟨a', m', c'⟩, rfl, Ho.out, Hgr.out⟩
    · have hnc' : ((n : Nat) : Int) < cap := by omega
      have Hown := Lib.hid hown
      clear hown
      have hi1 : (cap : Int) ≤ 9223372036854775807 := by omega
      have hi2 : ((n : Nat) : Int) ≤ cap := by omega
      dsimp only [sv]
      go_enter Tryz.func60, Tryz.ntmps60
      go_wp2_with (at_builtin; refine Stand.stop ?_)
      refine Stand.go ?_
      refine wpList_append_src _ rfl _ _ 48 47 rfl base 80 _ 3 48 Tryz.underlying48 info80 rfl (by decide) (.slice (some ⟨g0, 0, none⟩) n cap) n cs rfl Hown.out (.slice (some ⟨g, 0, none⟩) 1 1) 1 (enCells x) rfl (src_new _ x g Hg.out) (by unfold maxLen; omega) (by omega) hb ?_
      intro v' w' hown' hgr _
      obtain ⟨a', m', c', rfl⟩ := own_slice hown'
      have Ho := Lib.hid hown'; have Hgr := Lib.hid hgr
      clear hown' hgr
      go_wp2_with fail
      go_ret
      exact ⟨⟨a', m', c'⟩, rfl, Ho.out, Hgr.out⟩

set_option maxRecDepth 10000 in
set_option maxHeartbeats 800000 in
theorem put1_less {w : World} (x p : En) (h : Op.bytesLess x.ty.toList p.ty.toList = true) :
    Calls Tryz.prog 59 #[.agg #[.string x.ty, .string x.key, .string x.id], .agg #[.string p.ty, .string p.key, .string p.id]] w fun r w' => r = .returned (.int .i64 (-1)) ∧ Fresh w w' := by
  have hf : Fresh w ((w.alloc (.cells #[.string x.ty, .string x.key, .string x.id] 80)).alloc (.cells #[.string p.ty, .string p.key, .string p.id] 80)) := ((Fresh.rfl' w).alloc (Nat.le_refl _) _).alloc (by simp) _
  have HF := Lib.hid hf
  clear hf
  go_enter Tryz.func59, Tryz.ntmps59
  go_wp2_with fail
  go_ret
  exact ⟨rfl, HF.out⟩

set_option maxRecDepth 10000 in
set_option maxHeartbeats 800000 in
/-- The search in a state without entries. -/
theorem search_nil {w : World} (ao : Option Addr) (cap : Nat) (p : En) :
    Calls Tryz.prog 58 #[.slice ao 0 cap, .agg #[.string p.ty, .string p.key, .string p.id], .func (.func 59) #[] #[]] w fun r w' => r = .returned (.tuple #[.int .i64 0, .bool false]) ∧ Fresh w w' := by
  have hf : Fresh w (w.alloc (.cells #[.string p.ty, .string p.key, .string p.id] 80)) := (Fresh.rfl' w).alloc (Nat.le_refl _) _
  have HF := Lib.hid hf
  clear hf
  go_enter Tryz.func58, Tryz.ntmps58
  go_wp2_with fail
  refine hideWorld _ (fun W => Fresh w W) _ HF.out ?_
  rintro W hW
  have HW := Lib.hid hW
  clear hW HF
  go_loopw [9, 10] (fun i j wr => i = .int .i64 0 ∧ j = .int .i64 0 ∧ wr = W) (fun i _ _ => 1 - (intOf i).toNat)
  case atStart => exact ⟨rfl, rfl, rfl⟩
  case round =>
    obtain ⟨rfl, rfl, rfl⟩ := hrel
    go_wp2_with fail
    go_quiet (fail)
    go_wp2_with fail
    go_ret2
    exact ⟨rfl, below_drewN HW.out _⟩

set_option maxRecDepth 10000 in
set_option maxHeartbeats 800000 in
/-- The search in a state of one entry, which comes ahead. -/
theorem search_one {w : World} (b off cap : Nat) (x p : En) (hx : ∀ j, j < 3 → w.cell? ⟨b, off + 0 * 3 + j, none⟩ = (enCells x)[j]?) (hc : 1 ≤ cap) (h : Op.bytesLess x.ty.toList p.ty.toList = true) :
    Calls Tryz.prog 58 #[.slice (some ⟨b, off, none⟩) 1 cap, .agg #[.string p.ty, .string p.key, .string p.id], .func (.func 59) #[] #[]] w fun r w' => r = .returned (.tuple #[.int .i64 1, .bool false]) ∧ Fresh w w' := by
  have hf : Fresh w (w.alloc (.cells #[.string p.ty, .string p.key, .string p.id] 80)) := (Fresh.rfl' w).alloc (Nat.le_refl _) _
  have HF := Lib.hid hf
  simp only [Nat.zero_mul, Nat.add_zero] at hx
  have x0 : w.cell? ⟨b, off, none⟩ = some (.string x.ty) := hx 0 (by omega)
  have x1 : w.cell? ⟨b, off + 1, none⟩ = some (.string x.key) := hx 1 (by omega)
  have x2 : w.cell? ⟨b, off + 2, none⟩ = some (.string x.id) := hx 2 (by omega)
  have y0 := heap_alloc_new w (.cells #[.string p.ty, .string p.key, .string p.id] 80)
  have hcc : ∀ W : World, Calls Tryz.prog 59 #[.agg #[.string x.ty, .string x.key, .string x.id], .agg #[.string p.ty, .string p.key, .string p.id]] W fun r w' => r = .returned (.int .i64 (-1)) ∧ Fresh W w' := fun W => put1_less x p h
  have HC := Lib.hid hcc
  clear hf hx h hcc
  go_enter Tryz.func58, Tryz.ntmps58
  go_wp2_with fail
  refine hideWorld _ (fun W => Fresh w W ∧ W.cell? ⟨b, off, none⟩ = some (.string x.ty) ∧ W.cell? ⟨b, off + 1, none⟩ = some (.string x.key) ∧ W.cell? ⟨b, off + 2, none⟩ = some (.string x.id) ∧
    W.cell? ⟨w.heap.size, 0, none⟩ = some (.string p.ty) ∧ W.cell? ⟨w.heap.size, 1, none⟩ = some (.string p.key) ∧ W.cell? ⟨w.heap.size, 2, none⟩ = some (.string p.id)) _ ⟨HF.out, HF.out.keep x0, HF.out.keep x1, HF.out.keep x2, by simp only [World.cell?, y0]; rfl, by simp only [World.cell?, y0]; rfl, by simp only [World.cell?, y0]; rfl⟩ ?_
  rintro W ⟨hW, v0, v1, v2, u0, u1, u2⟩
  have HW := Lib.hid hW
  clear hW HF x0 x1 x2 y0
  go_loopw [9, 10] (fun i j wr => (i = .int .i64 0 ∧ j = .int .i64 1 ∧ wr = W) ∨ (i = .int .i64 1 ∧ j = .int .i64 1 ∧ Hid (Fresh w wr))) (fun i _ _ => 1 - (intOf i).toNat)
  case atStart => exact .inl ⟨rfl, rfl, rfl⟩
  case round =>
    rcases hrel with ⟨rfl, rfl, rfl⟩ | ⟨rfl, rfl, hfr⟩
    · go_wp2_with fail
      refine wp_region_still_tail 6 (by kernel_rfl) (by kernel_rfl) ?_
      simp only [List.take_succ_cons, List.take_zero, List.drop_succ_cons, List.drop_zero]
      iterate 6 still_step
      refine wpStill_nil ?_
      go_wp2_with fail
      refine (HC.out _).mono ?_
      rintro r w2 ⟨rfl, hf2⟩
      have HF2 : Hid (Fresh w w2) := fcomp HW.out.drew hf2
      clear hf2
      go_wp2_with fail
      go_roundw
      case rel => exact .inr ⟨rfl, rfl, HF2⟩
      case measure => decide
    · go_wp2_with fail
      go_quiet (fail)
      go_wp2_with fail
      go_ret2
      exact ⟨rfl, below_drewN hfr.out _⟩

set_option maxRecDepth 10000 in
set_option maxHeartbeats 800000 in
/-- dag.put, at the state's end. -/
theorem put_any {w : World} {col : Col} (hcol : Std w col) (s : SV) (l : List En) (hs : EnSl w col s l) (p : En) (hl : l = [] ∨ ∃ x, l = [x] ∧ Op.bytesLess x.ty.toList p.ty.toList = true) :
    Calls Tryz.prog 44 #[sv s, .agg #[.string p.ty, .string p.key, .string p.id]] w fun r w' => ∃ v : SV, r = .returned (sv v) ∧ EnSl w' col v (l ++ [p]) ∧ Fresh w w' := by
  have hln : l.length ≤ 1 := by rcases hl with rfl | ⟨x, rfl, _⟩ <;> simp
  have hse : ∀ W, Fresh w W → Calls Tryz.prog 58 #[sv s, .agg #[.string p.ty, .string p.key, .string p.id], .func (.func 59) #[] #[]] W fun r w' => r = .returned (.tuple #[.int .i64 l.length, .bool false]) ∧ Fresh W w' := fun W hf => by
    obtain ⟨h1, h2, h3, _, h5⟩ := (hs.fresh hf).rows
    obtain ⟨a, n, c⟩ := s
    dsimp only at h1 h2 h3 h5
    subst h1
    rcases hl with rfl | ⟨x, rfl, hx⟩
    · exact search_nil a c p
    · obtain ⟨b, off, rfl, _, _, hj⟩ := h5 0 (by simp)
      exact search_one b off c x p hj h2 hx
  have Hse := Lib.hid hse; have Hs := Lib.hid hs
  clear hse hs hl
  dsimp only [sv]
  go_enter Tryz.func44, Tryz.ntmps44
  go_wp2_with fail
  have hf0 : Fresh w (w.alloc (.cells #[.string p.ty, .string p.key, .string p.id] 80)) := (Fresh.rfl' w).alloc (Nat.le_refl _) _
  refine (Hse.out _ hf0).mono ?_
  rintro r w1 ⟨rfl, hf1⟩
  have hbx : w1.heap[w.heap.size]? = some (.cells #[.string p.ty, .string p.key, .string p.id] 80 (0, 0)) := (hf1.blocks _ (by simp)).trans (heap_alloc_new _ _)
  have HF := Lib.hid (fcomp hf0 hf1)
  have Hbx := Lib.hid hbx
  clear hf0 hf1 hbx Hse
  go_wp2_with fail
  refine (clone_48 _ _ _ col _ (Hs.out.fresh HF.out) (en_one l)).mono ?_
  rintro r w2 ⟨v', rfl, hown, hf2, _⟩
  obtain ⟨a', n', c', rfl⟩ := own_slice hown
  have hbx2 : w2.heap[w.heap.size]? = some (.cells #[.string p.ty, .string p.key, .string p.id] 80 (0, 0)) := (hf2.blocks _ (box_lt Hbx.out)).trans Hbx.out
  have p0 : w2.cell? ⟨w.heap.size, 0, none⟩ = some (.string p.ty) := by simp only [World.cell?, hbx2]; rfl
  have p1 : w2.cell? ⟨w.heap.size, 1, none⟩ = some (.string p.key) := by simp only [World.cell?, hbx2]; rfl
  have p2 : w2.cell? ⟨w.heap.size, 2, none⟩ = some (.string p.id) := by simp only [World.cell?, hbx2]; rfl
  have Hown := Lib.hid hown
  have HF2 := Lib.hid (fcomp HF.out hf2)
  have hsz := HF.out.size
  have hsz2 := hf2.size
  clear hown hf2 hbx2
  go_wp2_with fail
  have hf3 : Fresh w2 (w2.alloc (.cells #[.string p.ty, .string p.key, .string p.id] 80)) := (Fresh.rfl' w2).alloc (Nat.le_refl _) _
  refine (insert_end ⟨a', n', c'⟩ l.length _ (ownsRow_fresh Hown.out hf3) (by omega) (by simp; omega) p w2.heap.size (heap_alloc_new _ _)).mono ?_
  rintro r w3 ⟨v, rfl, hown3, hg⟩
  have hfin : Fresh w w3 := ((fcomp HF2.out hf3).grown hg (by simp; omega) (fun k hk => by have := (Hown.out.lt k hk).1; omega))
  have Hfin := Lib.hid hfin; have Ho3 := Lib.hid hown3
  clear hown3 hg hfin hf3
  go_wp2_with fail
  go_ret
  refine ⟨v, rfl, ?_, Hfin.out⟩
  unfold EnSl
  rw [List.flatMap_append, List.length_append]
  have := Sl.ofOwn (col := col) Ho3.out (by omega) hcol.ok hsz
  simpa using this
end Go.Proofs.YtmjclmmiljlahaaGreat

set_option linter.unusedVariables false
set_option linter.unusedSimpArgs false
namespace Go.Proofs.YtmjclmmiljlahaaGreat
open Go.RowKit

/-- What auth.Check says of an event and a list. -/
def CheckD (d : Ev) (L : List Ev) (n : Int) : Prop := ∀ (e : EV) (v : SV) (E : Nat → EV) (w : World) (col : Col), e.d = d → Std w col → EvIs w col e → EvsSl w col v L E →
  Calls Tryz.prog 56 #[evV e, sv v] w fun x w' => x = .returned (.int .i64 n) ∧ Fresh w w'

/-- The events that an event leans on. -/
def RmD.auths (d : RmD) (l : List ByteArray) : List Ev := l.filterMap fun id => (d.find id).map (·.e)
theorem auths_step {d : RmD} {l : List ByteArray} {q : Nat} (h : q < l.length) {x : NdD} (hx : d.find l[q] = some x) : d.auths (l.take (q + 1)) = d.auths (l.take q) ++ [x.e] := by
  unfold RmD.auths
  rw [List.take_succ_eq_append_getElem h, List.filterMap_append]
  congr 1
  rw [List.filterMap_cons, List.filterMap_nil, hx]
  rfl

set_option maxRecDepth 10000 in
set_option maxHeartbeats 800000 in
/-- Room.mark, where the lists say no. -/
theorem mark_reject {w : World} {col : Col} {k R : Nat} {r : Rm} (h : RmIs w col k R r) (hcol : Std w col) (n : Nd) (hn : n ∈ r.ns)
    (ha : ∀ id ∈ n.e.d.auth, ∃ x, r.d.find id = some x ∧ x.mark ≠ 4) (c : Int) (hc : CheckD n.e.d (r.d.auths n.e.d.auth) c) (hc0 : c ≠ 0) :
    Calls Tryz.prog 43 #[.pointer (some ⟨R, 0, none⟩), .pointer (some ⟨n.blk, 0, none⟩)] w fun x w' => x = .returned (.int .i64 4) ∧ Fresh w w' := by
  have hnd := h.rest.nd n hn
  have e7 : w.cell? ⟨n.blk, 7, none⟩ = some (.slice n.e.auth.a n.e.auth.n n.e.auth.c) := (hnd.at_ 7).trans rfl
  obtain ⟨ao, cap, hv, hcp, hm, hlen, hj⟩ := hnd.ev.auth.open
  obtain ⟨l, hl⟩ : ∃ l, l = n.e.d.auth := ⟨_, rfl⟩
  have hvv : n.e.auth = ⟨ao, l.length, cap⟩ := by
    rw [hl]
    cases hq : n.e.auth with
    | mk a m c =>
      rw [hq] at hv
      simp [sv] at hv
      simp [hv]
  rw [hvv] at e7
  dsimp only at e7
  rw [← hl] at hcp hlen hj ha hc
  have H := Lib.hid h; have HN := Lib.hid hnd; have Ha := Lib.hid ha; have Hc := Lib.hid hc; have Hj := Lib.hid hj
  clear h hnd ha hc hj hv hvv hl hn
  go_enter Tryz.func43, Tryz.ntmps43
  go_wp2_with fail
  go_loopw [15, 5] (fun i o wr => ∃ (q : Nat) (L : List EV) (oa : Option Addr) (on oc : Nat), q ≤ l.length ∧ i = .int .i64 q ∧ o = .slice oa on oc ∧ Hid (Fresh w wr) ∧ Hid (wr.ownsRow w.heap.size 38 22 (.slice oa on oc) L.length (L.flatMap fun e => e.cells.toList)) ∧ L.length ≤ q ∧ Hid (∀ e ∈ L, EvIs w col e) ∧ Hid (L.map EV.d = r.d.auths (l.take q))) (fun i _ _ => l.length - (intOf i).toNat)
  case atStart => exact ⟨0, [], none, 0, 0, Nat.zero_le _, rfl, rfl, Fresh.rfl' w, World.ownsRow_nil _ _ _ _, Nat.le_refl _, (fun e he => (List.not_mem_nil he).elim : ∀ e ∈ ([] : List EV), EvIs w col e), rfl⟩
  case round =>
    obtain ⟨q, L, oa, on, oc, hq, rfl, rfl, hfr, hown, hL, hall, hdt⟩ := hrel
    by_cases hlt : q < l.length
    · obtain ⟨b, off, rfl, hb, hcx⟩ := Hj.out q hlt
      have hcx := hfr.out.keep hcx
      obtain ⟨xd, hxd, hx4⟩ := Ha.out l[q] (List.getElem_mem hlt)
      obtain ⟨x, hx, rfl⟩ := find_of hxd
      have hlk := look_node (H.out.fresh hfr.out) l[q]
      rw [hx] at hlk
      dsimp only at hlk
      have d1 := (H.out.fresh hfr.out).c1
      have hxn := (H.out.fresh hfr.out).rest.nd x (Rm.find_mem hx).1
      have x22 : wr.cell? ⟨x.blk, 22, none⟩ = some (.int .i64 x.mark) := (hxn.at_ 22).trans rfl
      have hx4' : ¬ x.mark = 4 := hx4
      have HD : Hid ((L ++ [x.e]).map EV.d = r.d.auths (l.take (q + 1))) := by
        rw [auths_step hlt hxd, List.map_append, hdt.out]; rfl
      have Hxn := Lib.hid hxn
      have hall' : Hid (∀ e ∈ L ++ [x.e], EvIs w col e) := fun e he => by
        rcases List.mem_append.1 he with h | h
        · exact hall.out e h
        · rw [List.mem_singleton.1 h]; exact (H.out.rest.nd x (Rm.find_mem hx).1).ev
      clear hxn hxd hx hdt hall
      go_wp2_with (with_reducible refine stop_op (.load 38 (.tmp 33)) rfl ?_)
      refine Stand.go ?_
      refine wpList_load_cells rfl 38 (.tmp 33) rfl x.blk 0 rfl x.e.cells Hxn.out.ev_cells _ Tryz.underlying38 rfl info38s ?_
      refine wpList_build44 rfl (.tmp 34) rfl x.e rfl ?_
      refine wpList_append_src _ rfl _ _ 44 44 rfl w.heap.size 38 (.agg EV.zero.cells) 22 328 Tryz.underlying44 info38r rfl (by decide) (.slice oa on oc) L.length _ rfl (ownsRow_fresh hown.out ((Fresh.rfl' wr).alloc (Nat.le_refl _) _)) (.slice (some ⟨wr.heap.size, 0, none⟩) 1 1) 1 x.e.cells.toList rfl (src_ev x.e _ (heap_alloc_new _ _)) (by unfold maxLen; omega) (by omega) (by have := hfr.out.size; simp; omega) ?_
      intro v' w' hown' hg _
      obtain ⟨a', m', c', rfl⟩ := own_slice hown'
      have hfr' : Fresh w w' := Fresh.app (hfr.out.alloc hfr.out.size _) (ownsRow_fresh hown.out ((Fresh.rfl' wr).alloc (Nat.le_refl _) _)) (Nat.le_refl _) hg
      have Hfr' := Lib.hid hfr'
      have hown2 : w'.ownsRow w.heap.size 38 22 (.slice a' m' c') (L ++ [x.e]).length ((L ++ [x.e]).flatMap fun e => e.cells.toList) := by
        rw [List.flatMap_append, List.length_append]
        simpa using hown'
      have Hown' := Lib.hid hown2
      clear hown' hg hfr' hown2 hcx hlk d1 x22
      go_wp2_with fail
      go_roundw
      case rel => exact ⟨q + 1, L ++ [x.e], a', m', c', by omega, by go_num, rfl, Hfr', Hown', by simp; omega, hall', HD⟩
      case measure => simp [intOf]; omega
    · obtain rfl : q = l.length := by omega
      go_wp2_with fail
      have hfw : Hid (∀ W, Hid (Fresh wr W) → ∀ j, j < n.e.cells.size → W.cell? ⟨n.blk, 0 + j, none⟩ = n.e.cells[j]?) := fun W hW => (HN.out.keep (p := fun _ => True) (Keep.ofFresh (fcomp hfr.out hW.out)) trivial trivial).ev_cells
      have hck : Calls Tryz.prog 56 #[evV n.e, sv ⟨oa, on, oc⟩] wr.drew fun x w' => x = .returned (.int .i64 c) ∧ Fresh wr.drew w' := by
        have hev : EvL wr.drew col ⟨oa, on, oc⟩ L := ⟨Sl.ofOwn (ownsRow_fresh hown.out (Fresh.rfl' wr).drew) (by omega) hcol.ok (Nat.le_refl _), fun e he => (hall.out e he).fresh hfr.out.drew⟩
        have h2 := hev.evs
        rw [hdt.out, List.take_length] at h2
        exact Hc.out n.e _ _ wr.drew col rfl (hcol.fresh hfr.out.drew) (HN.out.ev.fresh hfr.out.drew) h2
      have hcz : (c == 0) = false := by simpa using hc0
      have hcy : (c != 0) = true := by simpa using hc0
      have Hck := Lib.hid hck
      clear hck
      refine wp_region_held_drew (S := fun W => Hid (Fresh wr W)) (by kernel_rfl) ?_ (fun hHeld => ?_)
      · exact (Fresh.rfl' wr).drew
      refine wpAnyH_take (i := 0) (oi := { dst := some 39, op := .move (.tmp 1), type := 63, pos := "dag.go:184", after := #[], guard := none }) (v := ?_) rfl (by kernel_rfl) (by kernel_rfl) (by kernel_rfl) (fun _ _ _ h => h) (Or.inl ⟨by rfl, ?_⟩) (by assumption) ?_
      rotate_left 1
      · intro W hSw
        go_simp
        try with_reducible rfl
      try simp only [Act.put, List.setIfInBounds_toArray, List.set_cons_zero, List.set_cons_succ]
      refine wpAnyH_take (i := 1) (oi := { dst := some 40, op := .nilCheck (.tmp 39), type := 0, pos := "dag.go:184", after := #[{ on := 0, ground := .data }], guard := none }) (v := ?_) rfl (by kernel_rfl) (by kernel_rfl) (by kernel_rfl) (fun _ _ _ h => h) (Or.inl ⟨by rfl, ?_⟩) (by assumption) ?_
      rotate_left 1
      · intro W hSw
        go_simp
        try with_reducible rfl
      try simp only [Act.put, List.setIfInBounds_toArray, List.set_cons_zero, List.set_cons_succ]
      refine wpAnyH_take (i := 2) (oi := { dst := some 41, op := .fieldAddr 67 (.tmp 40) 0, type := 0, pos := "dag.go:184", after := #[{ on := 1, ground := .data }], guard := none }) (v := ?_) rfl (by kernel_rfl) (by kernel_rfl) (by kernel_rfl) (fun _ _ _ h => h) (Or.inl ⟨by rfl, ?_⟩) (by assumption) ?_
      rotate_left 1
      · intro W hSw
        go_simp
        try with_reducible rfl
      try simp only [Act.put, List.setIfInBounds_toArray, List.set_cons_zero, List.set_cons_succ]
      refine wpAnyH_take (i := 3) (oi := { dst := some 42, op := .load 38 (.tmp 41), type := 38, pos := "dag.go:184", after := #[{ on := 2, ground := .data }], guard := none }) (v := .agg n.e.cells) rfl (by kernel_rfl) (by kernel_rfl) (by kernel_rfl) (fun _ _ _ h => h)
        (yieldsIf_load_cells (by rfl) 38 (.tmp 41) rfl n.blk 0 rfl n.e.cells (fun W hW => hfw.out W hW) _ Tryz.underlying38 rfl info38s) (by assumption) ?_
      try simp only [Act.put, List.setIfInBounds_toArray, List.set_cons_zero, List.set_cons_succ]
      refine wpAnyH_take (i := 4) (oi := { dst := some 43, op := .move (.tmp 5), type := 44, pos := "dag.go:184", after := #[], guard := none }) (v := ?_) rfl (by kernel_rfl) (by kernel_rfl) (by kernel_rfl) (fun _ _ _ h => h) (Or.inl ⟨by rfl, ?_⟩) (by assumption) ?_
      rotate_left 1
      · intro W hSw
        go_simp
        try with_reducible rfl
      try simp only [Act.put, List.setIfInBounds_toArray, List.set_cons_zero, List.set_cons_succ]
      refine wpAnyH_ready (rs := [5]) (by kernel_rfl) (by simp) ?_
      refine AllReadyH.cons (o := { dst := some 44, op := .call { callee := Go.Callee.value (.func 56), args := #[.tmp 42, .tmp 43], argTypes := #[38, 44] }, type := 3, pos := "dag.go:184", after := #[{ on := 3, ground := .data }, { on := 4, ground := .data }], guard := none }) rfl (fun K hK => ?_) AllReadyH.nil
      go_simp
      go_at_call 56
      refine Hck.out.mono ?_
      rintro x2 w2 ⟨rfl, hf2⟩
      have HF2 : Hid (Fresh wr w2) := hf2.ofDrew
      clear hf2
      try dsimp only
      refine hK.out _ _ HF2 (fun hHeld => ?_)
      clear hK K
      try simp only [Act.put, List.setIfInBounds_toArray, List.set_cons_zero, List.set_cons_succ]
      refine wpAnyH_take (i := 6) (oi := { dst := some 45, op := .binOp Go.BinOp.neq 3 (.tmp 44) (.const (Go.Value.int Go.IntKind.i64 0)) 3, type := 4, pos := "dag.go:184", after := #[{ on := 5, ground := .data }], guard := none }) (v := ?_) rfl (by kernel_rfl) (by kernel_rfl) (by kernel_rfl) (fun _ _ _ h => h) (Or.inl ⟨by rfl, ?_⟩) (by assumption) ?_
      rotate_left 1
      · intro W hSw
        go_simp
        try with_reducible rfl
      try simp only [Act.put, List.setIfInBounds_toArray, List.set_cons_zero, List.set_cons_succ]
      refine wpAnyH_take (i := 7) (oi := { dst := some 46, op := .move (.tmp 45), type := 4, pos := "dag.go:184", after := #[{ on := 6, ground := .data }, { on := 5, ground := .chain }], guard := none }) (v := ?_) rfl (by kernel_rfl) (by kernel_rfl) (by kernel_rfl) (fun _ _ _ h => h) (Or.inl ⟨by rfl, ?_⟩) (by assumption) ?_
      rotate_left 1
      · intro W hSw
        go_simp
        try with_reducible rfl
      try simp only [Act.put, List.setIfInBounds_toArray, List.set_cons_zero, List.set_cons_succ]
      refine wpAnyH_take (i := 8) (oi := { dst := some 47, op := .move (.tmp 1), type := 63, pos := "dag.go:184", after := #[{ on := 7, ground := .guard }], guard := some (7, false) }) (v := undef) rfl (by kernel_rfl) (by kernel_rfl) (by kernel_rfl) (fun _ _ _ h => h) (Or.inr ⟨by rfl, rfl⟩) (by assumption) ?_
      try simp only [Act.put, List.setIfInBounds_toArray, List.set_cons_zero, List.set_cons_succ]
      refine wpAnyH_take (i := 9) (oi := { dst := some 48, op := .nilCheck (.tmp 47), type := 0, pos := "dag.go:184", after := #[{ on := 8, ground := .data }, { on := 7, ground := .guard }], guard := some (7, false) }) (v := undef) rfl (by kernel_rfl) (by kernel_rfl) (by kernel_rfl) (fun _ _ _ h => h) (Or.inr ⟨by rfl, rfl⟩) (by assumption) ?_
      try simp only [Act.put, List.setIfInBounds_toArray, List.set_cons_zero, List.set_cons_succ]
      refine wpAnyH_take (i := 10) (oi := { dst := some 49, op := .fieldAddr 67 (.tmp 48) 0, type := 0, pos := "dag.go:184", after := #[{ on := 9, ground := .data }, { on := 7, ground := .guard }], guard := some (7, false) }) (v := undef) rfl (by kernel_rfl) (by kernel_rfl) (by kernel_rfl) (fun _ _ _ h => h) (Or.inr ⟨by rfl, rfl⟩) (by assumption) ?_
      try simp only [Act.put, List.setIfInBounds_toArray, List.set_cons_zero, List.set_cons_succ]
      refine wpAnyH_take (i := 11) (oi := { dst := some 50, op := .load 38 (.tmp 49), type := 38, pos := "dag.go:184", after := #[{ on := 10, ground := .data }, { on := 7, ground := .guard }], guard := some (7, false) }) (v := undef) rfl (by kernel_rfl) (by kernel_rfl) (by kernel_rfl) (fun _ _ _ h => h) (Or.inr ⟨by rfl, rfl⟩) (by assumption) ?_
      try simp only [Act.put, List.setIfInBounds_toArray, List.set_cons_zero, List.set_cons_succ]
      refine wpAnyH_take (i := 12) (oi := { dst := some 51, op := .move (.tmp 0), type := 23, pos := "dag.go:184", after := #[{ on := 7, ground := .guard }], guard := some (7, false) }) (v := undef) rfl (by kernel_rfl) (by kernel_rfl) (by kernel_rfl) (fun _ _ _ h => h) (Or.inr ⟨by rfl, rfl⟩) (by assumption) ?_
      try simp only [Act.put, List.setIfInBounds_toArray, List.set_cons_zero, List.set_cons_succ]
      refine wpAnyH_take (i := 13) (oi := { dst := some 52, op := .move (.tmp 1), type := 63, pos := "dag.go:184", after := #[{ on := 7, ground := .guard }], guard := some (7, false) }) (v := undef) rfl (by kernel_rfl) (by kernel_rfl) (by kernel_rfl) (fun _ _ _ h => h) (Or.inr ⟨by rfl, rfl⟩) (by assumption) ?_
      try simp only [Act.put, List.setIfInBounds_toArray, List.set_cons_zero, List.set_cons_succ]
      refine wpAnyH_take (i := 14) (oi := { dst := some 53, op := .nilCheck (.tmp 52), type := 0, pos := "dag.go:184", after := #[{ on := 13, ground := .data }, { on := 7, ground := .guard }], guard := some (7, false) }) (v := undef) rfl (by kernel_rfl) (by kernel_rfl) (by kernel_rfl) (fun _ _ _ h => h) (Or.inr ⟨by rfl, rfl⟩) (by assumption) ?_
      try simp only [Act.put, List.setIfInBounds_toArray, List.set_cons_zero, List.set_cons_succ]
      refine wpAnyH_take (i := 15) (oi := { dst := some 54, op := .fieldAddr 67 (.tmp 53) 2, type := 0, pos := "dag.go:184", after := #[{ on := 14, ground := .data }, { on := 7, ground := .guard }], guard := some (7, false) }) (v := undef) rfl (by kernel_rfl) (by kernel_rfl) (by kernel_rfl) (fun _ _ _ h => h) (Or.inr ⟨by rfl, rfl⟩) (by assumption) ?_
      try simp only [Act.put, List.setIfInBounds_toArray, List.set_cons_zero, List.set_cons_succ]
      refine wpAnyH_take (i := 16) (oi := { dst := some 55, op := .load 48 (.tmp 54), type := 48, pos := "dag.go:184", after := #[{ on := 15, ground := .data }, { on := 7, ground := .guard }], guard := some (7, false) }) (v := undef) rfl (by kernel_rfl) (by kernel_rfl) (by kernel_rfl) (fun _ _ _ h => h) (Or.inr ⟨by rfl, rfl⟩) (by assumption) ?_
      try simp only [Act.put, List.setIfInBounds_toArray, List.set_cons_zero, List.set_cons_succ]
      refine wpAnyH_take (i := 17) (oi := { dst := some 56, op := .move (.tmp 1), type := 63, pos := "dag.go:184", after := #[{ on := 7, ground := .guard }], guard := some (7, false) }) (v := undef) rfl (by kernel_rfl) (by kernel_rfl) (by kernel_rfl) (fun _ _ _ h => h) (Or.inr ⟨by rfl, rfl⟩) (by assumption) ?_
      try simp only [Act.put, List.setIfInBounds_toArray, List.set_cons_zero, List.set_cons_succ]
      refine wpAnyH_take (i := 18) (oi := { dst := some 57, op := .nilCheck (.tmp 56), type := 0, pos := "dag.go:184", after := #[{ on := 17, ground := .data }, { on := 7, ground := .guard }], guard := some (7, false) }) (v := undef) rfl (by kernel_rfl) (by kernel_rfl) (by kernel_rfl) (fun _ _ _ h => h) (Or.inr ⟨by rfl, rfl⟩) (by assumption) ?_
      try simp only [Act.put, List.setIfInBounds_toArray, List.set_cons_zero, List.set_cons_succ]
      refine wpAnyH_take (i := 19) (oi := { dst := some 58, op := .fieldAddr 67 (.tmp 57) 0, type := 0, pos := "dag.go:184", after := #[{ on := 18, ground := .data }, { on := 7, ground := .guard }], guard := some (7, false) }) (v := undef) rfl (by kernel_rfl) (by kernel_rfl) (by kernel_rfl) (fun _ _ _ h => h) (Or.inr ⟨by rfl, rfl⟩) (by assumption) ?_
      try simp only [Act.put, List.setIfInBounds_toArray, List.set_cons_zero, List.set_cons_succ]
      refine wpAnyH_take (i := 20) (oi := { dst := some 59, op := .load 38 (.tmp 58), type := 38, pos := "dag.go:184", after := #[{ on := 19, ground := .data }, { on := 7, ground := .guard }], guard := some (7, false) }) (v := undef) rfl (by kernel_rfl) (by kernel_rfl) (by kernel_rfl) (fun _ _ _ h => h) (Or.inr ⟨by rfl, rfl⟩) (by assumption) ?_
      try simp only [Act.put, List.setIfInBounds_toArray, List.set_cons_zero, List.set_cons_succ]
      refine wpAnyH_take (i := 21) (oi := { dst := some 60, op := .call { callee := Go.Callee.value (.func 57), args := #[.tmp 51, .tmp 55, .tmp 59], argTypes := #[23, 48, 38] }, type := 44, pos := "dag.go:184", after := #[{ on := 12, ground := .data }, { on := 16, ground := .data }, { on := 20, ground := .data }, { on := 7, ground := .chain }, { on := 7, ground := .guard }], guard := some (7, false) }) (v := undef) rfl (by kernel_rfl) (by kernel_rfl) (by kernel_rfl) (fun _ _ _ h => h) (Or.inr ⟨by rfl, rfl⟩) (by assumption) ?_
      try simp only [Act.put, List.setIfInBounds_toArray, List.set_cons_zero, List.set_cons_succ]
      refine wpAnyH_take (i := 22) (oi := { dst := some 61, op := .call { callee := Go.Callee.value (.func 56), args := #[.tmp 50, .tmp 60], argTypes := #[38, 44] }, type := 3, pos := "dag.go:184", after := #[{ on := 11, ground := .data }, { on := 21, ground := .data }, { on := 21, ground := .chain }, { on := 7, ground := .guard }], guard := some (7, false) }) (v := undef) rfl (by kernel_rfl) (by kernel_rfl) (by kernel_rfl) (fun _ _ _ h => h) (Or.inr ⟨by rfl, rfl⟩) (by assumption) ?_
      try simp only [Act.put, List.setIfInBounds_toArray, List.set_cons_zero, List.set_cons_succ]
      refine wpAnyH_take (i := 23) (oi := { dst := some 62, op := .binOp Go.BinOp.neq 3 (.tmp 61) (.const (Go.Value.int Go.IntKind.i64 0)) 3, type := 4, pos := "dag.go:184", after := #[{ on := 22, ground := .data }, { on := 7, ground := .guard }], guard := some (7, false) }) (v := undef) rfl (by kernel_rfl) (by kernel_rfl) (by kernel_rfl) (fun _ _ _ h => h) (Or.inr ⟨by rfl, rfl⟩) (by assumption) ?_
      try simp only [Act.put, List.setIfInBounds_toArray, List.set_cons_zero, List.set_cons_succ]
      refine wpAnyH_take (i := 24) (oi := { dst := some 63, op := .pick (.tmp 46) (.const (Go.Value.bool true)) (.tmp 62), type := 4, pos := "dag.go:184", after := #[{ on := 7, ground := .data }, { on := 23, ground := .data }], guard := none }) (v := ?_) rfl (by kernel_rfl) (by kernel_rfl) (by kernel_rfl) (fun _ _ _ h => h) (Or.inl ⟨by rfl, ?_⟩) (by assumption) ?_
      rotate_left 1
      · intro W hSw
        go_simp
        try with_reducible rfl
      try simp only [Act.put, List.setIfInBounds_toArray, List.set_cons_zero, List.set_cons_succ]
      refine wpAnyH_take (i := 25) (oi := { dst := some 38, op := .assign (.tmp 63), type := 4, pos := "dag.go:184", after := #[{ on := 24, ground := .data }, { on := 22, ground := .chain }], guard := none }) (v := ?_) rfl (by kernel_rfl) (by kernel_rfl) (by kernel_rfl) (fun _ _ _ h => h) (Or.inl ⟨by rfl, ?_⟩) (by assumption) ?_
      rotate_left 1
      · intro W hSw
        go_simp
        try with_reducible rfl
      try simp only [Act.put, List.setIfInBounds_toArray, List.set_cons_zero, List.set_cons_succ]
      refine wpAnyH_done (by kernel_rfl) ?_ _
      have Hfin := Lib.hid (fcomp hfr.out HF2.out)
      go_wp2_with fail
      go_ret
      exact ⟨rfl, Hfin.out⟩
end Go.Proofs.YtmjclmmiljlahaaGreat

set_option linter.unusedVariables false
set_option linter.unusedSimpArgs false
namespace Go.Proofs.YtmjclmmiljlahaaGreat
open Go.RowKit

set_option maxRecDepth 10000 in
set_option maxHeartbeats 1600000 in
/-- Room.mark, of an event without an event ahead, where the lists say yes. -/
theorem mark_first {w : World} {col : Col} {k R : Nat} {r : Rm} (h : RmIs w col k R r) (hcol : Std w col) (n : Nd) (hn : n ∈ r.ns)
    (ha : ∀ id ∈ n.e.d.auth, ∃ x, r.d.find id = some x ∧ x.mark ≠ 4) (hc : CheckD n.e.d (r.d.auths n.e.d.auth) 0)
    (hbf : ∀ x ∈ n.bl, (r.find x.id).isSome = true) (hc2 : CheckD n.e.d (r.d.byF n.bl (selectF n.e.d)) 0) (hp : n.e.d.prev = []) :
    Calls Tryz.prog 43 #[.pointer (some ⟨R, 0, none⟩), .pointer (some ⟨n.blk, 0, none⟩)] w fun x w' => x = .returned (.int .i64 2) ∧ Fresh w w' := by
  have hnd := h.rest.nd n hn
  have e7 : w.cell? ⟨n.blk, 7, none⟩ = some (.slice n.e.auth.a n.e.auth.n n.e.auth.c) := (hnd.at_ 7).trans rfl
  obtain ⟨ao, cap, hv, hcp, hm, hlen, hj⟩ := hnd.ev.auth.open
  obtain ⟨l, hl⟩ : ∃ l, l = n.e.d.auth := ⟨_, rfl⟩
  have hvv : n.e.auth = ⟨ao, l.length, cap⟩ := by
    rw [hl]
    cases hq : n.e.auth with
    | mk a m c =>
      rw [hq] at hv
      simp [sv] at hv
      simp [hv]
  rw [hvv] at e7
  dsimp only at e7
  rw [← hl] at hcp hlen hj ha hc
  have e6 : w.cell? ⟨n.blk, 6, none⟩ = some (.slice n.e.prev.a 0 n.e.prev.c) := by
    have h1 := len_zero hnd.ev.prev
    rw [hp] at h1
    have h2 : w.cell? ⟨n.blk, 6, none⟩ = some (.slice n.e.prev.a n.e.prev.n n.e.prev.c) := (hnd.at_ 6).trans rfl
    rw [h1] at h2; exact h2
  have E6 := Lib.hid e6
  clear e6
  have H := Lib.hid h; have HN := Lib.hid hnd; have Ha := Lib.hid ha; have Hc := Lib.hid hc; have Hj := Lib.hid hj
  have Hbf := Lib.hid hbf; have Hc2 := Lib.hid hc2; have Hhn := Lib.hid hn
  clear h hnd ha hc hj hv hvv hl hn hbf hc2
  go_enter Tryz.func43, Tryz.ntmps43
  go_wp2_with fail
  go_loopw [15, 5] (fun i o wr => ∃ (q : Nat) (L : List EV) (oa : Option Addr) (on oc : Nat), q ≤ l.length ∧ i = .int .i64 q ∧ o = .slice oa on oc ∧ Hid (Fresh w wr) ∧ Hid (wr.ownsRow w.heap.size 38 22 (.slice oa on oc) L.length (L.flatMap fun e => e.cells.toList)) ∧ L.length ≤ q ∧ Hid (∀ e ∈ L, EvIs w col e) ∧ Hid (L.map EV.d = r.d.auths (l.take q))) (fun i _ _ => l.length - (intOf i).toNat)
  case atStart => exact ⟨0, [], none, 0, 0, Nat.zero_le _, rfl, rfl, Fresh.rfl' w, World.ownsRow_nil _ _ _ _, Nat.le_refl _, (fun e he => (List.not_mem_nil he).elim : ∀ e ∈ ([] : List EV), EvIs w col e), rfl⟩
  case round =>
    obtain ⟨q, L, oa, on, oc, hq, rfl, rfl, hfr, hown, hL, hall, hdt⟩ := hrel
    by_cases hlt : q < l.length
    · obtain ⟨b, off, rfl, hb, hcx⟩ := Hj.out q hlt
      have hcx := hfr.out.keep hcx
      obtain ⟨xd, hxd, hx4⟩ := Ha.out l[q] (List.getElem_mem hlt)
      obtain ⟨x, hx, rfl⟩ := find_of hxd
      have hlk := look_node (H.out.fresh hfr.out) l[q]
      rw [hx] at hlk
      dsimp only at hlk
      have d1 := (H.out.fresh hfr.out).c1
      have hxn := (H.out.fresh hfr.out).rest.nd x (Rm.find_mem hx).1
      have x22 : wr.cell? ⟨x.blk, 22, none⟩ = some (.int .i64 x.mark) := (hxn.at_ 22).trans rfl
      have hx4' : ¬ x.mark = 4 := hx4
      have HD : Hid ((L ++ [x.e]).map EV.d = r.d.auths (l.take (q + 1))) := by
        rw [auths_step hlt hxd, List.map_append, hdt.out]; rfl
      have Hxn := Lib.hid hxn
      have hall' : Hid (∀ e ∈ L ++ [x.e], EvIs w col e) := fun e he => by
        rcases List.mem_append.1 he with h | h
        · exact hall.out e h
        · rw [List.mem_singleton.1 h]; exact (H.out.rest.nd x (Rm.find_mem hx).1).ev
      clear hxn hxd hx hdt hall
      go_wp2_with (with_reducible refine stop_op (.load 38 (.tmp 33)) rfl ?_)
      refine Stand.go ?_
      refine wpList_load_cells rfl 38 (.tmp 33) rfl x.blk 0 rfl x.e.cells Hxn.out.ev_cells _ Tryz.underlying38 rfl info38s ?_
      refine wpList_build44 rfl (.tmp 34) rfl x.e rfl ?_
      refine wpList_append_src _ rfl _ _ 44 44 rfl w.heap.size 38 (.agg EV.zero.cells) 22 328 Tryz.underlying44 info38r rfl (by decide) (.slice oa on oc) L.length _ rfl (ownsRow_fresh hown.out ((Fresh.rfl' wr).alloc (Nat.le_refl _) _)) (.slice (some ⟨wr.heap.size, 0, none⟩) 1 1) 1 x.e.cells.toList rfl (src_ev x.e _ (heap_alloc_new _ _)) (by unfold maxLen; omega) (by omega) (by have := hfr.out.size; simp; omega) ?_
      intro v' w' hown' hg _
      obtain ⟨a', m', c', rfl⟩ := own_slice hown'
      have hfr' : Fresh w w' := Fresh.app (hfr.out.alloc hfr.out.size _) (ownsRow_fresh hown.out ((Fresh.rfl' wr).alloc (Nat.le_refl _) _)) (Nat.le_refl _) hg
      have Hfr' := Lib.hid hfr'
      have hown2 : w'.ownsRow w.heap.size 38 22 (.slice a' m' c') (L ++ [x.e]).length ((L ++ [x.e]).flatMap fun e => e.cells.toList) := by
        rw [List.flatMap_append, List.length_append]
        simpa using hown'
      have Hown' := Lib.hid hown2
      clear hown' hg hfr' hown2 hcx hlk d1 x22
      go_wp2_with fail
      go_roundw
      case rel => exact ⟨q + 1, L ++ [x.e], a', m', c', by omega, by go_num, rfl, Hfr', Hown', by simp; omega, hall', HD⟩
      case measure => simp [intOf]; omega
    · obtain rfl : q = l.length := by omega
      go_wp2_with fail
      have hfw : Hid (∀ W, Hid (Fresh wr W) → ∀ j, j < n.e.cells.size → W.cell? ⟨n.blk, 0 + j, none⟩ = n.e.cells[j]?) := fun W hW => (HN.out.keep (p := fun _ => True) (Keep.ofFresh (fcomp hfr.out hW.out)) trivial trivial).ev_cells
      have hck : Calls Tryz.prog 56 #[evV n.e, sv ⟨oa, on, oc⟩] wr.drew fun x w' => x = .returned (.int .i64 0) ∧ Fresh wr.drew w' := by
        have hev : EvL wr.drew col ⟨oa, on, oc⟩ L := ⟨Sl.ofOwn (ownsRow_fresh hown.out (Fresh.rfl' wr).drew) (by omega) hcol.ok (Nat.le_refl _), fun e he => (hall.out e he).fresh hfr.out.drew⟩
        have h2 := hev.evs
        rw [hdt.out, List.take_length] at h2
        exact Hc.out n.e _ _ wr.drew col rfl (hcol.fresh hfr.out.drew) (HN.out.ev.fresh hfr.out.drew) h2
      have Hck := Lib.hid hck
      clear hck
      have hby : ∀ W, Fresh wr W → Calls Tryz.prog 57 #[.pointer (some ⟨R, 0, none⟩), sv n.before, evV n.e] W fun x w' => ∃ (v : SV) (L : List EV), x = .returned (sv v) ∧ EvL w' col v L ∧ L.map EV.d = r.d.byF n.bl (selectF n.e.d) ∧ Fresh W w' := fun W hW => by_any (H.out.fresh (fcomp hfr.out hW)) (hcol.fresh (fcomp hfr.out hW)) n.before n.bl (HN.out.before.fresh (fcomp hfr.out hW)) n.e (HN.out.ev.fresh (fcomp hfr.out hW)) Hbf.out
      have Hby := Lib.hid hby
      clear hby
      have hS : ∀ W, Fresh wr W → W.cell? ⟨n.blk, 23, none⟩ = some (.slice n.before.a n.before.n n.before.c) ∧ Hid (Fresh wr W) := fun W hW => ⟨(fcomp hfr.out hW).keep ((HN.out.at_ 23).trans rfl), hW⟩
      have HS := Lib.hid hS
      clear hS
      refine wp_region_held_drew (S := fun W => W.cell? ⟨n.blk, 23, none⟩ = some (.slice n.before.a n.before.n n.before.c) ∧ Hid (Fresh wr W)) (by kernel_rfl) ?_ (fun hHeld => ?_)
      · exact HS.out _ (Fresh.rfl' wr).drew
      refine wpAnyH_take (i := 0) (oi := { dst := some 39, op := .move (.tmp 1), type := 63, pos := "dag.go:184", after := #[], guard := none }) (v := ?_) rfl (by kernel_rfl) (by kernel_rfl) (by kernel_rfl) (fun _ _ _ h => h) (Or.inl ⟨by rfl, ?_⟩) (by assumption) ?_
      rotate_left 1
      · intro W hSw
        obtain ⟨s1, s2⟩ := hSw
        go_simp
        try with_reducible rfl
      try simp only [Act.put, List.setIfInBounds_toArray, List.set_cons_zero, List.set_cons_succ]
      refine wpAnyH_take (i := 1) (oi := { dst := some 40, op := .nilCheck (.tmp 39), type := 0, pos := "dag.go:184", after := #[{ on := 0, ground := .data }], guard := none }) (v := ?_) rfl (by kernel_rfl) (by kernel_rfl) (by kernel_rfl) (fun _ _ _ h => h) (Or.inl ⟨by rfl, ?_⟩) (by assumption) ?_
      rotate_left 1
      · intro W hSw
        obtain ⟨s1, s2⟩ := hSw
        go_simp
        try with_reducible rfl
      try simp only [Act.put, List.setIfInBounds_toArray, List.set_cons_zero, List.set_cons_succ]
      refine wpAnyH_take (i := 2) (oi := { dst := some 41, op := .fieldAddr 67 (.tmp 40) 0, type := 0, pos := "dag.go:184", after := #[{ on := 1, ground := .data }], guard := none }) (v := ?_) rfl (by kernel_rfl) (by kernel_rfl) (by kernel_rfl) (fun _ _ _ h => h) (Or.inl ⟨by rfl, ?_⟩) (by assumption) ?_
      rotate_left 1
      · intro W hSw
        obtain ⟨s1, s2⟩ := hSw
        go_simp
        try with_reducible rfl
      try simp only [Act.put, List.setIfInBounds_toArray, List.set_cons_zero, List.set_cons_succ]
      refine wpAnyH_take (i := 3) (oi := { dst := some 42, op := .load 38 (.tmp 41), type := 38, pos := "dag.go:184", after := #[{ on := 2, ground := .data }], guard := none }) (v := .agg n.e.cells) rfl (by kernel_rfl) (by kernel_rfl) (by kernel_rfl) (fun _ _ _ h => h)
        (yieldsIf_load_cells (by rfl) 38 (.tmp 41) rfl n.blk 0 rfl n.e.cells (fun W hW => hfw.out W hW.2) _ Tryz.underlying38 rfl info38s) (by assumption) ?_
      try simp only [Act.put, List.setIfInBounds_toArray, List.set_cons_zero, List.set_cons_succ]
      refine wpAnyH_take (i := 4) (oi := { dst := some 43, op := .move (.tmp 5), type := 44, pos := "dag.go:184", after := #[], guard := none }) (v := ?_) rfl (by kernel_rfl) (by kernel_rfl) (by kernel_rfl) (fun _ _ _ h => h) (Or.inl ⟨by rfl, ?_⟩) (by assumption) ?_
      rotate_left 1
      · intro W hSw
        obtain ⟨s1, s2⟩ := hSw
        go_simp
        try with_reducible rfl
      try simp only [Act.put, List.setIfInBounds_toArray, List.set_cons_zero, List.set_cons_succ]
      refine wpAnyH_ready (rs := [5]) (by kernel_rfl) (by simp) ?_
      refine AllReadyH.cons (o := { dst := some 44, op := .call { callee := Go.Callee.value (.func 56), args := #[.tmp 42, .tmp 43], argTypes := #[38, 44] }, type := 3, pos := "dag.go:184", after := #[{ on := 3, ground := .data }, { on := 4, ground := .data }], guard := none }) rfl (fun K hK => ?_) AllReadyH.nil
      go_simp
      go_at_call 56
      refine Hck.out.mono ?_
      rintro x2 w2 ⟨rfl, hf2⟩
      have HF2 : Hid (Fresh wr w2) := hf2.ofDrew
      clear hf2
      try dsimp only
      refine hK.out _ _ (HS.out _ HF2.out) (fun hHeld => ?_)
      clear hK K
      try simp only [Act.put, List.setIfInBounds_toArray, List.set_cons_zero, List.set_cons_succ]
      refine wpAnyH_take (i := 6) (oi := { dst := some 45, op := .binOp Go.BinOp.neq 3 (.tmp 44) (.const (Go.Value.int Go.IntKind.i64 0)) 3, type := 4, pos := "dag.go:184", after := #[{ on := 5, ground := .data }], guard := none }) (v := ?_) rfl (by kernel_rfl) (by kernel_rfl) (by kernel_rfl) (fun _ _ _ h => h) (Or.inl ⟨by rfl, ?_⟩) (by assumption) ?_
      rotate_left 1
      · intro W hSw
        obtain ⟨s1, s2⟩ := hSw
        go_simp
        try with_reducible rfl
      try simp only [Act.put, List.setIfInBounds_toArray, List.set_cons_zero, List.set_cons_succ]
      refine wpAnyH_take (i := 7) (oi := { dst := some 46, op := .move (.tmp 45), type := 4, pos := "dag.go:184", after := #[{ on := 6, ground := .data }, { on := 5, ground := .chain }], guard := none }) (v := ?_) rfl (by kernel_rfl) (by kernel_rfl) (by kernel_rfl) (fun _ _ _ h => h) (Or.inl ⟨by rfl, ?_⟩) (by assumption) ?_
      rotate_left 1
      · intro W hSw
        obtain ⟨s1, s2⟩ := hSw
        go_simp
        try with_reducible rfl
      try simp only [Act.put, List.setIfInBounds_toArray, List.set_cons_zero, List.set_cons_succ]
      refine wpAnyH_take (i := 8) (oi := { dst := some 47, op := .move (.tmp 1), type := 63, pos := "dag.go:184", after := #[{ on := 7, ground := .guard }], guard := some (7, false) }) (v := ?_) rfl (by kernel_rfl) (by kernel_rfl) (by kernel_rfl) (fun _ _ _ h => h) (Or.inl ⟨by rfl, ?_⟩) (by assumption) ?_
      rotate_left 1
      · intro W hSw
        obtain ⟨s1, s2⟩ := hSw
        go_simp
        try with_reducible rfl
      try simp only [Act.put, List.setIfInBounds_toArray, List.set_cons_zero, List.set_cons_succ]
      refine wpAnyH_take (i := 9) (oi := { dst := some 48, op := .nilCheck (.tmp 47), type := 0, pos := "dag.go:184", after := #[{ on := 8, ground := .data }, { on := 7, ground := .guard }], guard := some (7, false) }) (v := ?_) rfl (by kernel_rfl) (by kernel_rfl) (by kernel_rfl) (fun _ _ _ h => h) (Or.inl ⟨by rfl, ?_⟩) (by assumption) ?_
      rotate_left 1
      · intro W hSw
        obtain ⟨s1, s2⟩ := hSw
        go_simp
        try with_reducible rfl
      try simp only [Act.put, List.setIfInBounds_toArray, List.set_cons_zero, List.set_cons_succ]
      refine wpAnyH_take (i := 10) (oi := { dst := some 49, op := .fieldAddr 67 (.tmp 48) 0, type := 0, pos := "dag.go:184", after := #[{ on := 9, ground := .data }, { on := 7, ground := .guard }], guard := some (7, false) }) (v := ?_) rfl (by kernel_rfl) (by kernel_rfl) (by kernel_rfl) (fun _ _ _ h => h) (Or.inl ⟨by rfl, ?_⟩) (by assumption) ?_
      rotate_left 1
      · intro W hSw
        obtain ⟨s1, s2⟩ := hSw
        go_simp
        try with_reducible rfl
      try simp only [Act.put, List.setIfInBounds_toArray, List.set_cons_zero, List.set_cons_succ]
      refine wpAnyH_take (i := 11) (oi := { dst := some 50, op := .load 38 (.tmp 49), type := 38, pos := "dag.go:184", after := #[{ on := 10, ground := .data }, { on := 7, ground := .guard }], guard := some (7, false) }) (v := .agg n.e.cells) rfl (by kernel_rfl) (by kernel_rfl) (by kernel_rfl) (fun _ _ _ h => h)
        (yieldsIf_load_cells (by rfl) 38 (.tmp 49) rfl n.blk 0 rfl n.e.cells (fun W hW => hfw.out W hW.2) _ Tryz.underlying38 rfl info38s) (by assumption) ?_
      try simp only [Act.put, List.setIfInBounds_toArray, List.set_cons_zero, List.set_cons_succ]
      refine wpAnyH_take (i := 12) (oi := { dst := some 51, op := .move (.tmp 0), type := 23, pos := "dag.go:184", after := #[{ on := 7, ground := .guard }], guard := some (7, false) }) (v := ?_) rfl (by kernel_rfl) (by kernel_rfl) (by kernel_rfl) (fun _ _ _ h => h) (Or.inl ⟨by rfl, ?_⟩) (by assumption) ?_
      rotate_left 1
      · intro W hSw
        obtain ⟨s1, s2⟩ := hSw
        go_simp
        try with_reducible rfl
      try simp only [Act.put, List.setIfInBounds_toArray, List.set_cons_zero, List.set_cons_succ]
      refine wpAnyH_take (i := 13) (oi := { dst := some 52, op := .move (.tmp 1), type := 63, pos := "dag.go:184", after := #[{ on := 7, ground := .guard }], guard := some (7, false) }) (v := ?_) rfl (by kernel_rfl) (by kernel_rfl) (by kernel_rfl) (fun _ _ _ h => h) (Or.inl ⟨by rfl, ?_⟩) (by assumption) ?_
      rotate_left 1
      · intro W hSw
        obtain ⟨s1, s2⟩ := hSw
        go_simp
        try with_reducible rfl
      try simp only [Act.put, List.setIfInBounds_toArray, List.set_cons_zero, List.set_cons_succ]
      refine wpAnyH_take (i := 14) (oi := { dst := some 53, op := .nilCheck (.tmp 52), type := 0, pos := "dag.go:184", after := #[{ on := 13, ground := .data }, { on := 7, ground := .guard }], guard := some (7, false) }) (v := ?_) rfl (by kernel_rfl) (by kernel_rfl) (by kernel_rfl) (fun _ _ _ h => h) (Or.inl ⟨by rfl, ?_⟩) (by assumption) ?_
      rotate_left 1
      · intro W hSw
        obtain ⟨s1, s2⟩ := hSw
        go_simp
        try with_reducible rfl
      try simp only [Act.put, List.setIfInBounds_toArray, List.set_cons_zero, List.set_cons_succ]
      refine wpAnyH_take (i := 15) (oi := { dst := some 54, op := .fieldAddr 67 (.tmp 53) 2, type := 0, pos := "dag.go:184", after := #[{ on := 14, ground := .data }, { on := 7, ground := .guard }], guard := some (7, false) }) (v := ?_) rfl (by kernel_rfl) (by kernel_rfl) (by kernel_rfl) (fun _ _ _ h => h) (Or.inl ⟨by rfl, ?_⟩) (by assumption) ?_
      rotate_left 1
      · intro W hSw
        obtain ⟨s1, s2⟩ := hSw
        go_simp
        try with_reducible rfl
      try simp only [Act.put, List.setIfInBounds_toArray, List.set_cons_zero, List.set_cons_succ]
      refine wpAnyH_take (i := 16) (oi := { dst := some 55, op := .load 48 (.tmp 54), type := 48, pos := "dag.go:184", after := #[{ on := 15, ground := .data }, { on := 7, ground := .guard }], guard := some (7, false) }) (v := ?_) rfl (by kernel_rfl) (by kernel_rfl) (by kernel_rfl) (fun _ _ _ h => h) (Or.inl ⟨by rfl, ?_⟩) (by assumption) ?_
      rotate_left 1
      · intro W hSw
        obtain ⟨s1, s2⟩ := hSw
        go_simp
        try with_reducible rfl
      try simp only [Act.put, List.setIfInBounds_toArray, List.set_cons_zero, List.set_cons_succ]
      refine wpAnyH_take (i := 17) (oi := { dst := some 56, op := .move (.tmp 1), type := 63, pos := "dag.go:184", after := #[{ on := 7, ground := .guard }], guard := some (7, false) }) (v := ?_) rfl (by kernel_rfl) (by kernel_rfl) (by kernel_rfl) (fun _ _ _ h => h) (Or.inl ⟨by rfl, ?_⟩) (by assumption) ?_
      rotate_left 1
      · intro W hSw
        obtain ⟨s1, s2⟩ := hSw
        go_simp
        try with_reducible rfl
      try simp only [Act.put, List.setIfInBounds_toArray, List.set_cons_zero, List.set_cons_succ]
      refine wpAnyH_take (i := 18) (oi := { dst := some 57, op := .nilCheck (.tmp 56), type := 0, pos := "dag.go:184", after := #[{ on := 17, ground := .data }, { on := 7, ground := .guard }], guard := some (7, false) }) (v := ?_) rfl (by kernel_rfl) (by kernel_rfl) (by kernel_rfl) (fun _ _ _ h => h) (Or.inl ⟨by rfl, ?_⟩) (by assumption) ?_
      rotate_left 1
      · intro W hSw
        obtain ⟨s1, s2⟩ := hSw
        go_simp
        try with_reducible rfl
      try simp only [Act.put, List.setIfInBounds_toArray, List.set_cons_zero, List.set_cons_succ]
      refine wpAnyH_take (i := 19) (oi := { dst := some 58, op := .fieldAddr 67 (.tmp 57) 0, type := 0, pos := "dag.go:184", after := #[{ on := 18, ground := .data }, { on := 7, ground := .guard }], guard := some (7, false) }) (v := ?_) rfl (by kernel_rfl) (by kernel_rfl) (by kernel_rfl) (fun _ _ _ h => h) (Or.inl ⟨by rfl, ?_⟩) (by assumption) ?_
      rotate_left 1
      · intro W hSw
        obtain ⟨s1, s2⟩ := hSw
        go_simp
        try with_reducible rfl
      try simp only [Act.put, List.setIfInBounds_toArray, List.set_cons_zero, List.set_cons_succ]
      refine wpAnyH_take (i := 20) (oi := { dst := some 59, op := .load 38 (.tmp 58), type := 38, pos := "dag.go:184", after := #[{ on := 19, ground := .data }, { on := 7, ground := .guard }], guard := some (7, false) }) (v := .agg n.e.cells) rfl (by kernel_rfl) (by kernel_rfl) (by kernel_rfl) (fun _ _ _ h => h)
        (yieldsIf_load_cells (by rfl) 38 (.tmp 58) rfl n.blk 0 rfl n.e.cells (fun W hW => hfw.out W hW.2) _ Tryz.underlying38 rfl info38s) (by assumption) ?_
      try simp only [Act.put, List.setIfInBounds_toArray, List.set_cons_zero, List.set_cons_succ]
      refine wpAnyH_ready (rs := [21]) (by kernel_rfl) (by simp) ?_
      refine AllReadyH.cons (o := { dst := some 60, op := .call { callee := Go.Callee.value (.func 57), args := #[.tmp 51, .tmp 55, .tmp 59], argTypes := #[23, 48, 38] }, type := 44, pos := "dag.go:184", after := #[{ on := 12, ground := .data }, { on := 16, ground := .data }, { on := 20, ground := .data }, { on := 7, ground := .chain }, { on := 7, ground := .guard }], guard := some (7, false) }) rfl (fun K hK => ?_) AllReadyH.nil
      go_simp
      go_at_call 57
      refine (Hby.out _ HF2.out).mono ?_
      rintro x3 w3 ⟨v3, L3, rfl, hv3, hd3, hf3⟩
      have HF3 : Hid (Fresh wr w3) := fcomp HF2.out hf3
      have hck3 : Calls Tryz.prog 56 #[evV n.e, sv v3] w3 fun x w' => x = .returned (.int .i64 0) ∧ Fresh w3 w' := by
        have h2 := hv3.evs
        rw [hd3] at h2
        exact Hc2.out n.e _ _ w3 col rfl (hcol.fresh (fcomp hfr.out HF3.out)) (HN.out.ev.fresh (fcomp hfr.out HF3.out)) h2
      have Hck3 := Lib.hid hck3
      clear hck3 hf3 hv3 hd3
      try dsimp only
      refine hK.out _ _ (HS.out _ HF3.out) (fun hHeld => ?_)
      clear hK K
      try simp only [Act.put, List.setIfInBounds_toArray, List.set_cons_zero, List.set_cons_succ]
      refine wpAnyH_ready (rs := [22]) (by kernel_rfl) (by simp) ?_
      refine AllReadyH.cons (o := { dst := some 61, op := .call { callee := Go.Callee.value (.func 56), args := #[.tmp 50, .tmp 60], argTypes := #[38, 44] }, type := 3, pos := "dag.go:184", after := #[{ on := 11, ground := .data }, { on := 21, ground := .data }, { on := 21, ground := .chain }, { on := 7, ground := .guard }], guard := some (7, false) }) rfl (fun K hK => ?_) AllReadyH.nil
      go_simp
      go_at_call 56
      refine Hck3.out.mono ?_
      rintro x4 w4 ⟨rfl, hf4⟩
      have HF4 : Hid (Fresh wr w4) := fcomp HF3.out hf4
      clear hf4
      try dsimp only
      refine hK.out _ _ (HS.out _ HF4.out) (fun hHeld => ?_)
      clear hK K
      try simp only [Act.put, List.setIfInBounds_toArray, List.set_cons_zero, List.set_cons_succ]
      refine wpAnyH_take (i := 23) (oi := { dst := some 62, op := .binOp Go.BinOp.neq 3 (.tmp 61) (.const (Go.Value.int Go.IntKind.i64 0)) 3, type := 4, pos := "dag.go:184", after := #[{ on := 22, ground := .data }, { on := 7, ground := .guard }], guard := some (7, false) }) (v := ?_) rfl (by kernel_rfl) (by kernel_rfl) (by kernel_rfl) (fun _ _ _ h => h) (Or.inl ⟨by rfl, ?_⟩) (by assumption) ?_
      rotate_left 1
      · intro W hSw
        obtain ⟨s1, s2⟩ := hSw
        go_simp
        try with_reducible rfl
      try simp only [Act.put, List.setIfInBounds_toArray, List.set_cons_zero, List.set_cons_succ]
      refine wpAnyH_take (i := 24) (oi := { dst := some 63, op := .pick (.tmp 46) (.const (Go.Value.bool true)) (.tmp 62), type := 4, pos := "dag.go:184", after := #[{ on := 7, ground := .data }, { on := 23, ground := .data }], guard := none }) (v := ?_) rfl (by kernel_rfl) (by kernel_rfl) (by kernel_rfl) (fun _ _ _ h => h) (Or.inl ⟨by rfl, ?_⟩) (by assumption) ?_
      rotate_left 1
      · intro W hSw
        obtain ⟨s1, s2⟩ := hSw
        go_simp
        try with_reducible rfl
      try simp only [Act.put, List.setIfInBounds_toArray, List.set_cons_zero, List.set_cons_succ]
      refine wpAnyH_take (i := 25) (oi := { dst := some 38, op := .assign (.tmp 63), type := 4, pos := "dag.go:184", after := #[{ on := 24, ground := .data }, { on := 22, ground := .chain }], guard := none }) (v := ?_) rfl (by kernel_rfl) (by kernel_rfl) (by kernel_rfl) (fun _ _ _ h => h) (Or.inl ⟨by rfl, ?_⟩) (by assumption) ?_
      rotate_left 1
      · intro W hSw
        obtain ⟨s1, s2⟩ := hSw
        go_simp
        try with_reducible rfl
      try simp only [Act.put, List.setIfInBounds_toArray, List.set_cons_zero, List.set_cons_succ]
      refine wpAnyH_done (by kernel_rfl) ?_ _
      have Hfin := Lib.hid (fcomp hfr.out HF4.out)
      have e6 := Hfin.out.keep E6.out
      go_wp2_with fail
      have e6' : w4.drew.cell? ⟨n.blk, 6, none⟩ = some (.slice n.e.prev.a 0 n.e.prev.c) := e6
      refine wp_region_held_drew (S := fun W => W.cell? ⟨n.blk, 6, none⟩ = some (.slice n.e.prev.a 0 n.e.prev.c)) (by kernel_rfl) ?_ (fun hHeld => ?_)
      · exact e6'
      refine wpAnyH_take (i := 0) (oi := { dst := some 65, op := .move (.tmp 1), type := 63, pos := "dag.go:186", after := #[], guard := none }) (v := ?_) rfl (by kernel_rfl) (by kernel_rfl) (by kernel_rfl) (fun _ _ _ h => h) (Or.inl ⟨by rfl, ?_⟩) (by assumption) ?_
      rotate_left 1
      · intro W hSw
        have s1 := hSw
        go_simp
        try with_reducible rfl
      try simp only [Act.put, List.setIfInBounds_toArray, List.set_cons_zero, List.set_cons_succ]
      refine wpAnyH_take (i := 1) (oi := { dst := some 66, op := .nilCheck (.tmp 65), type := 0, pos := "dag.go:186", after := #[{ on := 0, ground := .data }], guard := none }) (v := ?_) rfl (by kernel_rfl) (by kernel_rfl) (by kernel_rfl) (fun _ _ _ h => h) (Or.inl ⟨by rfl, ?_⟩) (by assumption) ?_
      rotate_left 1
      · intro W hSw
        have s1 := hSw
        go_simp
        try with_reducible rfl
      try simp only [Act.put, List.setIfInBounds_toArray, List.set_cons_zero, List.set_cons_succ]
      refine wpAnyH_take (i := 2) (oi := { dst := some 67, op := .fieldAddr 67 (.tmp 66) 0, type := 0, pos := "dag.go:186", after := #[{ on := 1, ground := .data }], guard := none }) (v := ?_) rfl (by kernel_rfl) (by kernel_rfl) (by kernel_rfl) (fun _ _ _ h => h) (Or.inl ⟨by rfl, ?_⟩) (by assumption) ?_
      rotate_left 1
      · intro W hSw
        have s1 := hSw
        go_simp
        try with_reducible rfl
      try simp only [Act.put, List.setIfInBounds_toArray, List.set_cons_zero, List.set_cons_succ]
      refine wpAnyH_take (i := 3) (oi := { dst := some 68, op := .fieldAddr 38 (.tmp 67) 6, type := 0, pos := "dag.go:186", after := #[{ on := 2, ground := .data }], guard := none }) (v := ?_) rfl (by kernel_rfl) (by kernel_rfl) (by kernel_rfl) (fun _ _ _ h => h) (Or.inl ⟨by rfl, ?_⟩) (by assumption) ?_
      rotate_left 1
      · intro W hSw
        have s1 := hSw
        go_simp
        try with_reducible rfl
      try simp only [Act.put, List.setIfInBounds_toArray, List.set_cons_zero, List.set_cons_succ]
      refine wpAnyH_take (i := 4) (oi := { dst := some 69, op := .load 30 (.tmp 68), type := 30, pos := "dag.go:186", after := #[{ on := 3, ground := .data }], guard := none }) (v := ?_) rfl (by kernel_rfl) (by kernel_rfl) (by kernel_rfl) (fun _ _ _ h => h) (Or.inl ⟨by rfl, ?_⟩) (by assumption) ?_
      rotate_left 1
      · intro W hSw
        have s1 := hSw
        go_simp
        try with_reducible rfl
      try simp only [Act.put, List.setIfInBounds_toArray, List.set_cons_zero, List.set_cons_succ]
      refine wpAnyH_take (i := 5) (oi := { dst := some 70, op := .call { callee := Go.Callee.builtin Go.Builtin.len, args := #[.tmp 69], argTypes := #[30] }, type := 3, pos := "dag.go:186", after := #[{ on := 4, ground := .data }], guard := none }) (v := ?_) rfl (by kernel_rfl) (by kernel_rfl) (by kernel_rfl) (fun _ _ _ h => h) (Or.inl ⟨by rfl, ?_⟩) (by assumption) ?_
      rotate_left 1
      · intro W hSw
        have s1 := hSw
        go_simp
        try with_reducible rfl
      try simp only [Act.put, List.setIfInBounds_toArray, List.set_cons_zero, List.set_cons_succ]
      refine wpAnyH_take (i := 6) (oi := { dst := some 71, op := .binOp Go.BinOp.gtr 3 (.tmp 70) (.const (Go.Value.int Go.IntKind.i64 0)) 3, type := 4, pos := "dag.go:186", after := #[{ on := 5, ground := .data }], guard := none }) (v := ?_) rfl (by kernel_rfl) (by kernel_rfl) (by kernel_rfl) (fun _ _ _ h => h) (Or.inl ⟨by rfl, ?_⟩) (by assumption) ?_
      rotate_left 1
      · intro W hSw
        have s1 := hSw
        go_simp
        try with_reducible rfl
      try simp only [Act.put, List.setIfInBounds_toArray, List.set_cons_zero, List.set_cons_succ]
      refine wpAnyH_take (i := 7) (oi := { dst := some 72, op := .move (.tmp 71), type := 4, pos := "dag.go:186", after := #[{ on := 6, ground := .data }], guard := none }) (v := ?_) rfl (by kernel_rfl) (by kernel_rfl) (by kernel_rfl) (fun _ _ _ h => h) (Or.inl ⟨by rfl, ?_⟩) (by assumption) ?_
      rotate_left 1
      · intro W hSw
        have s1 := hSw
        go_simp
        try with_reducible rfl
      try simp only [Act.put, List.setIfInBounds_toArray, List.set_cons_zero, List.set_cons_succ]
      refine wpAnyH_take (i := 8) (oi := { dst := some 73, op := .move (.tmp 1), type := 63, pos := "dag.go:186", after := #[{ on := 7, ground := .guard }], guard := some (7, true) }) (v := undef) rfl (by kernel_rfl) (by kernel_rfl) (by kernel_rfl) (fun _ _ _ h => h) (Or.inr ⟨by rfl, rfl⟩) (by assumption) ?_
      try simp only [Act.put, List.setIfInBounds_toArray, List.set_cons_zero, List.set_cons_succ]
      refine wpAnyH_take (i := 9) (oi := { dst := some 74, op := .nilCheck (.tmp 73), type := 0, pos := "dag.go:186", after := #[{ on := 8, ground := .data }, { on := 7, ground := .guard }], guard := some (7, true) }) (v := undef) rfl (by kernel_rfl) (by kernel_rfl) (by kernel_rfl) (fun _ _ _ h => h) (Or.inr ⟨by rfl, rfl⟩) (by assumption) ?_
      try simp only [Act.put, List.setIfInBounds_toArray, List.set_cons_zero, List.set_cons_succ]
      refine wpAnyH_take (i := 10) (oi := { dst := some 75, op := .fieldAddr 67 (.tmp 74) 0, type := 0, pos := "dag.go:186", after := #[{ on := 9, ground := .data }, { on := 7, ground := .guard }], guard := some (7, true) }) (v := undef) rfl (by kernel_rfl) (by kernel_rfl) (by kernel_rfl) (fun _ _ _ h => h) (Or.inr ⟨by rfl, rfl⟩) (by assumption) ?_
      try simp only [Act.put, List.setIfInBounds_toArray, List.set_cons_zero, List.set_cons_succ]
      refine wpAnyH_take (i := 11) (oi := { dst := some 76, op := .load 38 (.tmp 75), type := 38, pos := "dag.go:186", after := #[{ on := 10, ground := .data }, { on := 7, ground := .guard }], guard := some (7, true) }) (v := undef) rfl (by kernel_rfl) (by kernel_rfl) (by kernel_rfl) (fun _ _ _ h => h) (Or.inr ⟨by rfl, rfl⟩) (by assumption) ?_
      try simp only [Act.put, List.setIfInBounds_toArray, List.set_cons_zero, List.set_cons_succ]
      refine wpAnyH_take (i := 12) (oi := { dst := some 77, op := .move (.tmp 0), type := 23, pos := "dag.go:186", after := #[{ on := 7, ground := .guard }], guard := some (7, true) }) (v := undef) rfl (by kernel_rfl) (by kernel_rfl) (by kernel_rfl) (fun _ _ _ h => h) (Or.inr ⟨by rfl, rfl⟩) (by assumption) ?_
      try simp only [Act.put, List.setIfInBounds_toArray, List.set_cons_zero, List.set_cons_succ]
      refine wpAnyH_take (i := 13) (oi := { dst := some 78, op := .move (.tmp 0), type := 23, pos := "dag.go:186", after := #[{ on := 7, ground := .guard }], guard := some (7, true) }) (v := undef) rfl (by kernel_rfl) (by kernel_rfl) (by kernel_rfl) (fun _ _ _ h => h) (Or.inr ⟨by rfl, rfl⟩) (by assumption) ?_
      try simp only [Act.put, List.setIfInBounds_toArray, List.set_cons_zero, List.set_cons_succ]
      refine wpAnyH_take (i := 14) (oi := { dst := some 79, op := .call { callee := Go.Callee.value (.func 36), args := #[.tmp 78], argTypes := #[23] }, type := 48, pos := "dag.go:186", after := #[{ on := 13, ground := .data }, { on := 7, ground := .chain }, { on := 7, ground := .guard }], guard := some (7, true) }) (v := undef) rfl (by kernel_rfl) (by kernel_rfl) (by kernel_rfl) (fun _ _ _ h => h) (Or.inr ⟨by rfl, rfl⟩) (by assumption) ?_
      try simp only [Act.put, List.setIfInBounds_toArray, List.set_cons_zero, List.set_cons_succ]
      refine wpAnyH_take (i := 15) (oi := { dst := some 80, op := .move (.tmp 1), type := 63, pos := "dag.go:186", after := #[{ on := 7, ground := .guard }], guard := some (7, true) }) (v := undef) rfl (by kernel_rfl) (by kernel_rfl) (by kernel_rfl) (fun _ _ _ h => h) (Or.inr ⟨by rfl, rfl⟩) (by assumption) ?_
      try simp only [Act.put, List.setIfInBounds_toArray, List.set_cons_zero, List.set_cons_succ]
      refine wpAnyH_take (i := 16) (oi := { dst := some 81, op := .nilCheck (.tmp 80), type := 0, pos := "dag.go:186", after := #[{ on := 15, ground := .data }, { on := 7, ground := .guard }], guard := some (7, true) }) (v := undef) rfl (by kernel_rfl) (by kernel_rfl) (by kernel_rfl) (fun _ _ _ h => h) (Or.inr ⟨by rfl, rfl⟩) (by assumption) ?_
      try simp only [Act.put, List.setIfInBounds_toArray, List.set_cons_zero, List.set_cons_succ]
      refine wpAnyH_take (i := 17) (oi := { dst := some 82, op := .fieldAddr 67 (.tmp 81) 0, type := 0, pos := "dag.go:186", after := #[{ on := 16, ground := .data }, { on := 7, ground := .guard }], guard := some (7, true) }) (v := undef) rfl (by kernel_rfl) (by kernel_rfl) (by kernel_rfl) (fun _ _ _ h => h) (Or.inr ⟨by rfl, rfl⟩) (by assumption) ?_
      try simp only [Act.put, List.setIfInBounds_toArray, List.set_cons_zero, List.set_cons_succ]
      refine wpAnyH_take (i := 18) (oi := { dst := some 83, op := .load 38 (.tmp 82), type := 38, pos := "dag.go:186", after := #[{ on := 17, ground := .data }, { on := 7, ground := .guard }], guard := some (7, true) }) (v := undef) rfl (by kernel_rfl) (by kernel_rfl) (by kernel_rfl) (fun _ _ _ h => h) (Or.inr ⟨by rfl, rfl⟩) (by assumption) ?_
      try simp only [Act.put, List.setIfInBounds_toArray, List.set_cons_zero, List.set_cons_succ]
      refine wpAnyH_take (i := 19) (oi := { dst := some 84, op := .call { callee := Go.Callee.value (.func 57), args := #[.tmp 77, .tmp 79, .tmp 83], argTypes := #[23, 48, 38] }, type := 44, pos := "dag.go:186", after := #[{ on := 12, ground := .data }, { on := 14, ground := .data }, { on := 18, ground := .data }, { on := 14, ground := .chain }, { on := 7, ground := .guard }], guard := some (7, true) }) (v := undef) rfl (by kernel_rfl) (by kernel_rfl) (by kernel_rfl) (fun _ _ _ h => h) (Or.inr ⟨by rfl, rfl⟩) (by assumption) ?_
      try simp only [Act.put, List.setIfInBounds_toArray, List.set_cons_zero, List.set_cons_succ]
      refine wpAnyH_take (i := 20) (oi := { dst := some 85, op := .call { callee := Go.Callee.value (.func 56), args := #[.tmp 76, .tmp 84], argTypes := #[38, 44] }, type := 3, pos := "dag.go:186", after := #[{ on := 11, ground := .data }, { on := 19, ground := .data }, { on := 19, ground := .chain }, { on := 7, ground := .guard }], guard := some (7, true) }) (v := undef) rfl (by kernel_rfl) (by kernel_rfl) (by kernel_rfl) (fun _ _ _ h => h) (Or.inr ⟨by rfl, rfl⟩) (by assumption) ?_
      try simp only [Act.put, List.setIfInBounds_toArray, List.set_cons_zero, List.set_cons_succ]
      refine wpAnyH_take (i := 21) (oi := { dst := some 86, op := .binOp Go.BinOp.neq 3 (.tmp 85) (.const (Go.Value.int Go.IntKind.i64 0)) 3, type := 4, pos := "dag.go:186", after := #[{ on := 20, ground := .data }, { on := 7, ground := .guard }], guard := some (7, true) }) (v := undef) rfl (by kernel_rfl) (by kernel_rfl) (by kernel_rfl) (fun _ _ _ h => h) (Or.inr ⟨by rfl, rfl⟩) (by assumption) ?_
      try simp only [Act.put, List.setIfInBounds_toArray, List.set_cons_zero, List.set_cons_succ]
      refine wpAnyH_take (i := 22) (oi := { dst := some 87, op := .pick (.tmp 72) (.tmp 86) (.const (Go.Value.bool false)), type := 4, pos := "dag.go:186", after := #[{ on := 7, ground := .data }, { on := 21, ground := .data }], guard := none }) (v := ?_) rfl (by kernel_rfl) (by kernel_rfl) (by kernel_rfl) (fun _ _ _ h => h) (Or.inl ⟨by rfl, ?_⟩) (by assumption) ?_
      rotate_left 1
      · intro W hSw
        go_simp
        try with_reducible rfl
      try simp only [Act.put, List.setIfInBounds_toArray, List.set_cons_zero, List.set_cons_succ]
      refine wpAnyH_take (i := 23) (oi := { dst := some 64, op := .assign (.tmp 87), type := 4, pos := "dag.go:186", after := #[{ on := 22, ground := .data }, { on := 20, ground := .chain }], guard := none }) (v := ?_) rfl (by kernel_rfl) (by kernel_rfl) (by kernel_rfl) (fun _ _ _ h => h) (Or.inl ⟨by rfl, ?_⟩) (by assumption) ?_
      rotate_left 1
      · intro W hSw
        go_simp
        try with_reducible rfl
      try simp only [Act.put, List.setIfInBounds_toArray, List.set_cons_zero, List.set_cons_succ]
      refine wpAnyH_done (by kernel_rfl) ?_ _
      go_wp2_with fail
      go_ret
      exact ⟨rfl, Hfin.out.drew⟩
end Go.Proofs.YtmjclmmiljlahaaGreat

set_option linter.unusedVariables false
set_option linter.unusedSimpArgs false
namespace Go.Proofs.YtmjclmmiljlahaaGreat
open Go.RowKit

set_option maxRecDepth 10000 in
set_option maxHeartbeats 1600000 in
/-- Room.mark, of an event with events ahead, where the lists say yes. -/
theorem mark_next {w : World} {col : Col} {k R : Nat} {r : Rm} (h : RmIs w col k R r) (hcol : Std w col) (n : Nd) (hn : n ∈ r.ns)
    (ha : ∀ id ∈ n.e.d.auth, ∃ x, r.d.find id = some x ∧ x.mark ≠ 4) (hc : CheckD n.e.d (r.d.auths n.e.d.auth) 0)
    (hbf : ∀ x ∈ n.bl, (r.find x.id).isSome = true) (hc2 : CheckD n.e.d (r.d.byF n.bl (selectF n.e.d)) 0) (hp : n.e.d.prev ≠ []) (hone : r.d.oneEnd) (hcf : ∀ x ∈ r.d.cur, (r.find x.id).isSome = true) (hc3 : CheckD n.e.d (r.d.byF r.d.cur (selectF n.e.d)) 0) :
    Calls Tryz.prog 43 #[.pointer (some ⟨R, 0, none⟩), .pointer (some ⟨n.blk, 0, none⟩)] w fun x w' => x = .returned (.int .i64 2) ∧ ∃ r' : Rm, RmIs w' col k R r' ∧ r'.d = { r.d with now := r.d.cur, stale := false } ∧ r'.ns = r.ns ∧ Std w' col ∧ Keep w col w' col (fun c => c ≠ k + 1) := by
  have hnd := h.rest.nd n hn
  have e7 : w.cell? ⟨n.blk, 7, none⟩ = some (.slice n.e.auth.a n.e.auth.n n.e.auth.c) := (hnd.at_ 7).trans rfl
  obtain ⟨ao, cap, hv, hcp, hm, hlen, hj⟩ := hnd.ev.auth.open
  obtain ⟨l, hl⟩ : ∃ l, l = n.e.d.auth := ⟨_, rfl⟩
  have hvv : n.e.auth = ⟨ao, l.length, cap⟩ := by
    rw [hl]
    cases hq : n.e.auth with
    | mk a m c =>
      rw [hq] at hv
      simp [sv] at hv
      simp [hv]
  rw [hvv] at e7
  dsimp only at e7
  rw [← hl] at hcp hlen hj ha hc
  have hpl : 0 < n.e.prev.n := by
    rw [len_zero hnd.ev.prev]
    exact List.length_pos_iff.2 hp
  have H := Lib.hid h; have HN := Lib.hid hnd; have Ha := Lib.hid ha; have Hc := Lib.hid hc; have Hj := Lib.hid hj
  have Hbf := Lib.hid hbf; have Hc2 := Lib.hid hc2; have Hone := Lib.hid hone; have Hcf := Lib.hid hcf; have Hc3 := Lib.hid hc3; have Hhn := Lib.hid hn
  clear h hnd ha hc hj hv hvv hl hn hbf hc2 hone hcf hc3 hp
  go_enter Tryz.func43, Tryz.ntmps43
  go_wp2_with fail
  go_loopw [15, 5] (fun i o wr => ∃ (q : Nat) (L : List EV) (oa : Option Addr) (on oc : Nat), q ≤ l.length ∧ i = .int .i64 q ∧ o = .slice oa on oc ∧ Hid (Fresh w wr) ∧ Hid (wr.ownsRow w.heap.size 38 22 (.slice oa on oc) L.length (L.flatMap fun e => e.cells.toList)) ∧ L.length ≤ q ∧ Hid (∀ e ∈ L, EvIs w col e) ∧ Hid (L.map EV.d = r.d.auths (l.take q))) (fun i _ _ => l.length - (intOf i).toNat)
  case atStart => exact ⟨0, [], none, 0, 0, Nat.zero_le _, rfl, rfl, Fresh.rfl' w, World.ownsRow_nil _ _ _ _, Nat.le_refl _, (fun e he => (List.not_mem_nil he).elim : ∀ e ∈ ([] : List EV), EvIs w col e), rfl⟩
  case round =>
    obtain ⟨q, L, oa, on, oc, hq, rfl, rfl, hfr, hown, hL, hall, hdt⟩ := hrel
    by_cases hlt : q < l.length
    · obtain ⟨b, off, rfl, hb, hcx⟩ := Hj.out q hlt
      have hcx := hfr.out.keep hcx
      obtain ⟨xd, hxd, hx4⟩ := Ha.out l[q] (List.getElem_mem hlt)
      obtain ⟨x, hx, rfl⟩ := find_of hxd
      have hlk := look_node (H.out.fresh hfr.out) l[q]
      rw [hx] at hlk
      dsimp only at hlk
      have d1 := (H.out.fresh hfr.out).c1
      have hxn := (H.out.fresh hfr.out).rest.nd x (Rm.find_mem hx).1
      have x22 : wr.cell? ⟨x.blk, 22, none⟩ = some (.int .i64 x.mark) := (hxn.at_ 22).trans rfl
      have hx4' : ¬ x.mark = 4 := hx4
      have HD : Hid ((L ++ [x.e]).map EV.d = r.d.auths (l.take (q + 1))) := by
        rw [auths_step hlt hxd, List.map_append, hdt.out]; rfl
      have Hxn := Lib.hid hxn
      have hall' : Hid (∀ e ∈ L ++ [x.e], EvIs w col e) := fun e he => by
        rcases List.mem_append.1 he with h | h
        · exact hall.out e h
        · rw [List.mem_singleton.1 h]; exact (H.out.rest.nd x (Rm.find_mem hx).1).ev
      clear hxn hxd hx hdt hall
      go_wp2_with (with_reducible refine stop_op (.load 38 (.tmp 33)) rfl ?_)
      refine Stand.go ?_
      refine wpList_load_cells rfl 38 (.tmp 33) rfl x.blk 0 rfl x.e.cells Hxn.out.ev_cells _ Tryz.underlying38 rfl info38s ?_
      refine wpList_build44 rfl (.tmp 34) rfl x.e rfl ?_
      refine wpList_append_src _ rfl _ _ 44 44 rfl w.heap.size 38 (.agg EV.zero.cells) 22 328 Tryz.underlying44 info38r rfl (by decide) (.slice oa on oc) L.length _ rfl (ownsRow_fresh hown.out ((Fresh.rfl' wr).alloc (Nat.le_refl _) _)) (.slice (some ⟨wr.heap.size, 0, none⟩) 1 1) 1 x.e.cells.toList rfl (src_ev x.e _ (heap_alloc_new _ _)) (by unfold maxLen; omega) (by omega) (by have := hfr.out.size; simp; omega) ?_
      intro v' w' hown' hg _
      obtain ⟨a', m', c', rfl⟩ := own_slice hown'
      have hfr' : Fresh w w' := Fresh.app (hfr.out.alloc hfr.out.size _) (ownsRow_fresh hown.out ((Fresh.rfl' wr).alloc (Nat.le_refl _) _)) (Nat.le_refl _) hg
      have Hfr' := Lib.hid hfr'
      have hown2 : w'.ownsRow w.heap.size 38 22 (.slice a' m' c') (L ++ [x.e]).length ((L ++ [x.e]).flatMap fun e => e.cells.toList) := by
        rw [List.flatMap_append, List.length_append]
        simpa using hown'
      have Hown' := Lib.hid hown2
      clear hown' hg hfr' hown2 hcx hlk d1 x22
      go_wp2_with fail
      go_roundw
      case rel => exact ⟨q + 1, L ++ [x.e], a', m', c', by omega, by go_num, rfl, Hfr', Hown', by simp; omega, hall', HD⟩
      case measure => simp [intOf]; omega
    · obtain rfl : q = l.length := by omega
      go_wp2_with fail
      have hfw : Hid (∀ W, Hid (Fresh wr W) → ∀ j, j < n.e.cells.size → W.cell? ⟨n.blk, 0 + j, none⟩ = n.e.cells[j]?) := fun W hW => (HN.out.keep (p := fun _ => True) (Keep.ofFresh (fcomp hfr.out hW.out)) trivial trivial).ev_cells
      have hck : Calls Tryz.prog 56 #[evV n.e, sv ⟨oa, on, oc⟩] wr.drew fun x w' => x = .returned (.int .i64 0) ∧ Fresh wr.drew w' := by
        have hev : EvL wr.drew col ⟨oa, on, oc⟩ L := ⟨Sl.ofOwn (ownsRow_fresh hown.out (Fresh.rfl' wr).drew) (by omega) hcol.ok (Nat.le_refl _), fun e he => (hall.out e he).fresh hfr.out.drew⟩
        have h2 := hev.evs
        rw [hdt.out, List.take_length] at h2
        exact Hc.out n.e _ _ wr.drew col rfl (hcol.fresh hfr.out.drew) (HN.out.ev.fresh hfr.out.drew) h2
      have Hck := Lib.hid hck
      clear hck
      have hby : ∀ W, Fresh wr W → Calls Tryz.prog 57 #[.pointer (some ⟨R, 0, none⟩), sv n.before, evV n.e] W fun x w' => ∃ (v : SV) (L : List EV), x = .returned (sv v) ∧ EvL w' col v L ∧ L.map EV.d = r.d.byF n.bl (selectF n.e.d) ∧ Fresh W w' := fun W hW => by_any (H.out.fresh (fcomp hfr.out hW)) (hcol.fresh (fcomp hfr.out hW)) n.before n.bl (HN.out.before.fresh (fcomp hfr.out hW)) n.e (HN.out.ev.fresh (fcomp hfr.out hW)) Hbf.out
      have Hby := Lib.hid hby
      clear hby
      have hS : ∀ W, Fresh wr W → W.cell? ⟨n.blk, 23, none⟩ = some (.slice n.before.a n.before.n n.before.c) ∧ Hid (Fresh wr W) := fun W hW => ⟨(fcomp hfr.out hW).keep ((HN.out.at_ 23).trans rfl), hW⟩
      have HS := Lib.hid hS
      clear hS
      refine wp_region_held_drew (S := fun W => W.cell? ⟨n.blk, 23, none⟩ = some (.slice n.before.a n.before.n n.before.c) ∧ Hid (Fresh wr W)) (by kernel_rfl) ?_ (fun hHeld => ?_)
      · exact HS.out _ (Fresh.rfl' wr).drew
      refine wpAnyH_take (i := 0) (oi := { dst := some 39, op := .move (.tmp 1), type := 63, pos := "dag.go:184", after := #[], guard := none }) (v := ?_) rfl (by kernel_rfl) (by kernel_rfl) (by kernel_rfl) (fun _ _ _ h => h) (Or.inl ⟨by rfl, ?_⟩) (by assumption) ?_
      rotate_left 1
      · intro W hSw
        obtain ⟨s1, s2⟩ := hSw
        go_simp
        try with_reducible rfl
      try simp only [Act.put, List.setIfInBounds_toArray, List.set_cons_zero, List.set_cons_succ]
      refine wpAnyH_take (i := 1) (oi := { dst := some 40, op := .nilCheck (.tmp 39), type := 0, pos := "dag.go:184", after := #[{ on := 0, ground := .data }], guard := none }) (v := ?_) rfl (by kernel_rfl) (by kernel_rfl) (by kernel_rfl) (fun _ _ _ h => h) (Or.inl ⟨by rfl, ?_⟩) (by assumption) ?_
      rotate_left 1
      · intro W hSw
        obtain ⟨s1, s2⟩ := hSw
        go_simp
        try with_reducible rfl
      try simp only [Act.put, List.setIfInBounds_toArray, List.set_cons_zero, List.set_cons_succ]
      refine wpAnyH_take (i := 2) (oi := { dst := some 41, op := .fieldAddr 67 (.tmp 40) 0, type := 0, pos := "dag.go:184", after := #[{ on := 1, ground := .data }], guard := none }) (v := ?_) rfl (by kernel_rfl) (by kernel_rfl) (by kernel_rfl) (fun _ _ _ h => h) (Or.inl ⟨by rfl, ?_⟩) (by assumption) ?_
      rotate_left 1
      · intro W hSw
        obtain ⟨s1, s2⟩ := hSw
        go_simp
        try with_reducible rfl
      try simp only [Act.put, List.setIfInBounds_toArray, List.set_cons_zero, List.set_cons_succ]
      refine wpAnyH_take (i := 3) (oi := { dst := some 42, op := .load 38 (.tmp 41), type := 38, pos := "dag.go:184", after := #[{ on := 2, ground := .data }], guard := none }) (v := .agg n.e.cells) rfl (by kernel_rfl) (by kernel_rfl) (by kernel_rfl) (fun _ _ _ h => h)
        (yieldsIf_load_cells (by rfl) 38 (.tmp 41) rfl n.blk 0 rfl n.e.cells (fun W hW => hfw.out W hW.2) _ Tryz.underlying38 rfl info38s) (by assumption) ?_
      try simp only [Act.put, List.setIfInBounds_toArray, List.set_cons_zero, List.set_cons_succ]
      refine wpAnyH_take (i := 4) (oi := { dst := some 43, op := .move (.tmp 5), type := 44, pos := "dag.go:184", after := #[], guard := none }) (v := ?_) rfl (by kernel_rfl) (by kernel_rfl) (by kernel_rfl) (fun _ _ _ h => h) (Or.inl ⟨by rfl, ?_⟩) (by assumption) ?_
      rotate_left 1
      · intro W hSw
        obtain ⟨s1, s2⟩ := hSw
        go_simp
        try with_reducible rfl
      try simp only [Act.put, List.setIfInBounds_toArray, List.set_cons_zero, List.set_cons_succ]
      refine wpAnyH_ready (rs := [5]) (by kernel_rfl) (by simp) ?_
      refine AllReadyH.cons (o := { dst := some 44, op := .call { callee := Go.Callee.value (.func 56), args := #[.tmp 42, .tmp 43], argTypes := #[38, 44] }, type := 3, pos := "dag.go:184", after := #[{ on := 3, ground := .data }, { on := 4, ground := .data }], guard := none }) rfl (fun K hK => ?_) AllReadyH.nil
      go_simp
      go_at_call 56
      refine Hck.out.mono ?_
      rintro x2 w2 ⟨rfl, hf2⟩
      have HF2 : Hid (Fresh wr w2) := hf2.ofDrew
      clear hf2
      try dsimp only
      refine hK.out _ _ (HS.out _ HF2.out) (fun hHeld => ?_)
      clear hK K
      try simp only [Act.put, List.setIfInBounds_toArray, List.set_cons_zero, List.set_cons_succ]
      refine wpAnyH_take (i := 6) (oi := { dst := some 45, op := .binOp Go.BinOp.neq 3 (.tmp 44) (.const (Go.Value.int Go.IntKind.i64 0)) 3, type := 4, pos := "dag.go:184", after := #[{ on := 5, ground := .data }], guard := none }) (v := ?_) rfl (by kernel_rfl) (by kernel_rfl) (by kernel_rfl) (fun _ _ _ h => h) (Or.inl ⟨by rfl, ?_⟩) (by assumption) ?_
      rotate_left 1
      · intro W hSw
        obtain ⟨s1, s2⟩ := hSw
        go_simp
        try with_reducible rfl
      try simp only [Act.put, List.setIfInBounds_toArray, List.set_cons_zero, List.set_cons_succ]
      refine wpAnyH_take (i := 7) (oi := { dst := some 46, op := .move (.tmp 45), type := 4, pos := "dag.go:184", after := #[{ on := 6, ground := .data }, { on := 5, ground := .chain }], guard := none }) (v := ?_) rfl (by kernel_rfl) (by kernel_rfl) (by kernel_rfl) (fun _ _ _ h => h) (Or.inl ⟨by rfl, ?_⟩) (by assumption) ?_
      rotate_left 1
      · intro W hSw
        obtain ⟨s1, s2⟩ := hSw
        go_simp
        try with_reducible rfl
      try simp only [Act.put, List.setIfInBounds_toArray, List.set_cons_zero, List.set_cons_succ]
      refine wpAnyH_take (i := 8) (oi := { dst := some 47, op := .move (.tmp 1), type := 63, pos := "dag.go:184", after := #[{ on := 7, ground := .guard }], guard := some (7, false) }) (v := ?_) rfl (by kernel_rfl) (by kernel_rfl) (by kernel_rfl) (fun _ _ _ h => h) (Or.inl ⟨by rfl, ?_⟩) (by assumption) ?_
      rotate_left 1
      · intro W hSw
        obtain ⟨s1, s2⟩ := hSw
        go_simp
        try with_reducible rfl
      try simp only [Act.put, List.setIfInBounds_toArray, List.set_cons_zero, List.set_cons_succ]
      refine wpAnyH_take (i := 9) (oi := { dst := some 48, op := .nilCheck (.tmp 47), type := 0, pos := "dag.go:184", after := #[{ on := 8, ground := .data }, { on := 7, ground := .guard }], guard := some (7, false) }) (v := ?_) rfl (by kernel_rfl) (by kernel_rfl) (by kernel_rfl) (fun _ _ _ h => h) (Or.inl ⟨by rfl, ?_⟩) (by assumption) ?_
      rotate_left 1
      · intro W hSw
        obtain ⟨s1, s2⟩ := hSw
        go_simp
        try with_reducible rfl
      try simp only [Act.put, List.setIfInBounds_toArray, List.set_cons_zero, List.set_cons_succ]
      refine wpAnyH_take (i := 10) (oi := { dst := some 49, op := .fieldAddr 67 (.tmp 48) 0, type := 0, pos := "dag.go:184", after := #[{ on := 9, ground := .data }, { on := 7, ground := .guard }], guard := some (7, false) }) (v := ?_) rfl (by kernel_rfl) (by kernel_rfl) (by kernel_rfl) (fun _ _ _ h => h) (Or.inl ⟨by rfl, ?_⟩) (by assumption) ?_
      rotate_left 1
      · intro W hSw
        obtain ⟨s1, s2⟩ := hSw
        go_simp
        try with_reducible rfl
      try simp only [Act.put, List.setIfInBounds_toArray, List.set_cons_zero, List.set_cons_succ]
      refine wpAnyH_take (i := 11) (oi := { dst := some 50, op := .load 38 (.tmp 49), type := 38, pos := "dag.go:184", after := #[{ on := 10, ground := .data }, { on := 7, ground := .guard }], guard := some (7, false) }) (v := .agg n.e.cells) rfl (by kernel_rfl) (by kernel_rfl) (by kernel_rfl) (fun _ _ _ h => h)
        (yieldsIf_load_cells (by rfl) 38 (.tmp 49) rfl n.blk 0 rfl n.e.cells (fun W hW => hfw.out W hW.2) _ Tryz.underlying38 rfl info38s) (by assumption) ?_
      try simp only [Act.put, List.setIfInBounds_toArray, List.set_cons_zero, List.set_cons_succ]
      refine wpAnyH_take (i := 12) (oi := { dst := some 51, op := .move (.tmp 0), type := 23, pos := "dag.go:184", after := #[{ on := 7, ground := .guard }], guard := some (7, false) }) (v := ?_) rfl (by kernel_rfl) (by kernel_rfl) (by kernel_rfl) (fun _ _ _ h => h) (Or.inl ⟨by rfl, ?_⟩) (by assumption) ?_
      rotate_left 1
      · intro W hSw
        obtain ⟨s1, s2⟩ := hSw
        go_simp
        try with_reducible rfl
      try simp only [Act.put, List.setIfInBounds_toArray, List.set_cons_zero, List.set_cons_succ]
      refine wpAnyH_take (i := 13) (oi := { dst := some 52, op := .move (.tmp 1), type := 63, pos := "dag.go:184", after := #[{ on := 7, ground := .guard }], guard := some (7, false) }) (v := ?_) rfl (by kernel_rfl) (by kernel_rfl) (by kernel_rfl) (fun _ _ _ h => h) (Or.inl ⟨by rfl, ?_⟩) (by assumption) ?_
      rotate_left 1
      · intro W hSw
        obtain ⟨s1, s2⟩ := hSw
        go_simp
        try with_reducible rfl
      try simp only [Act.put, List.setIfInBounds_toArray, List.set_cons_zero, List.set_cons_succ]
      refine wpAnyH_take (i := 14) (oi := { dst := some 53, op := .nilCheck (.tmp 52), type := 0, pos := "dag.go:184", after := #[{ on := 13, ground := .data }, { on := 7, ground := .guard }], guard := some (7, false) }) (v := ?_) rfl (by kernel_rfl) (by kernel_rfl) (by kernel_rfl) (fun _ _ _ h => h) (Or.inl ⟨by rfl, ?_⟩) (by assumption) ?_
      rotate_left 1
      · intro W hSw
        obtain ⟨s1, s2⟩ := hSw
        go_simp
        try with_reducible rfl
      try simp only [Act.put, List.setIfInBounds_toArray, List.set_cons_zero, List.set_cons_succ]
      refine wpAnyH_take (i := 15) (oi := { dst := some 54, op := .fieldAddr 67 (.tmp 53) 2, type := 0, pos := "dag.go:184", after := #[{ on := 14, ground := .data }, { on := 7, ground := .guard }], guard := some (7, false) }) (v := ?_) rfl (by kernel_rfl) (by kernel_rfl) (by kernel_rfl) (fun _ _ _ h => h) (Or.inl ⟨by rfl, ?_⟩) (by assumption) ?_
      rotate_left 1
      · intro W hSw
        obtain ⟨s1, s2⟩ := hSw
        go_simp
        try with_reducible rfl
      try simp only [Act.put, List.setIfInBounds_toArray, List.set_cons_zero, List.set_cons_succ]
      refine wpAnyH_take (i := 16) (oi := { dst := some 55, op := .load 48 (.tmp 54), type := 48, pos := "dag.go:184", after := #[{ on := 15, ground := .data }, { on := 7, ground := .guard }], guard := some (7, false) }) (v := ?_) rfl (by kernel_rfl) (by kernel_rfl) (by kernel_rfl) (fun _ _ _ h => h) (Or.inl ⟨by rfl, ?_⟩) (by assumption) ?_
      rotate_left 1
      · intro W hSw
        obtain ⟨s1, s2⟩ := hSw
        go_simp
        try with_reducible rfl
      try simp only [Act.put, List.setIfInBounds_toArray, List.set_cons_zero, List.set_cons_succ]
      refine wpAnyH_take (i := 17) (oi := { dst := some 56, op := .move (.tmp 1), type := 63, pos := "dag.go:184", after := #[{ on := 7, ground := .guard }], guard := some (7, false) }) (v := ?_) rfl (by kernel_rfl) (by kernel_rfl) (by kernel_rfl) (fun _ _ _ h => h) (Or.inl ⟨by rfl, ?_⟩) (by assumption) ?_
      rotate_left 1
      · intro W hSw
        obtain ⟨s1, s2⟩ := hSw
        go_simp
        try with_reducible rfl
      try simp only [Act.put, List.setIfInBounds_toArray, List.set_cons_zero, List.set_cons_succ]
      refine wpAnyH_take (i := 18) (oi := { dst := some 57, op := .nilCheck (.tmp 56), type := 0, pos := "dag.go:184", after := #[{ on := 17, ground := .data }, { on := 7, ground := .guard }], guard := some (7, false) }) (v := ?_) rfl (by kernel_rfl) (by kernel_rfl) (by kernel_rfl) (fun _ _ _ h => h) (Or.inl ⟨by rfl, ?_⟩) (by assumption) ?_
      rotate_left 1
      · intro W hSw
        obtain ⟨s1, s2⟩ := hSw
        go_simp
        try with_reducible rfl
      try simp only [Act.put, List.setIfInBounds_toArray, List.set_cons_zero, List.set_cons_succ]
      refine wpAnyH_take (i := 19) (oi := { dst := some 58, op := .fieldAddr 67 (.tmp 57) 0, type := 0, pos := "dag.go:184", after := #[{ on := 18, ground := .data }, { on := 7, ground := .guard }], guard := some (7, false) }) (v := ?_) rfl (by kernel_rfl) (by kernel_rfl) (by kernel_rfl) (fun _ _ _ h => h) (Or.inl ⟨by rfl, ?_⟩) (by assumption) ?_
      rotate_left 1
      · intro W hSw
        obtain ⟨s1, s2⟩ := hSw
        go_simp
        try with_reducible rfl
      try simp only [Act.put, List.setIfInBounds_toArray, List.set_cons_zero, List.set_cons_succ]
      refine wpAnyH_take (i := 20) (oi := { dst := some 59, op := .load 38 (.tmp 58), type := 38, pos := "dag.go:184", after := #[{ on := 19, ground := .data }, { on := 7, ground := .guard }], guard := some (7, false) }) (v := .agg n.e.cells) rfl (by kernel_rfl) (by kernel_rfl) (by kernel_rfl) (fun _ _ _ h => h)
        (yieldsIf_load_cells (by rfl) 38 (.tmp 58) rfl n.blk 0 rfl n.e.cells (fun W hW => hfw.out W hW.2) _ Tryz.underlying38 rfl info38s) (by assumption) ?_
      try simp only [Act.put, List.setIfInBounds_toArray, List.set_cons_zero, List.set_cons_succ]
      refine wpAnyH_ready (rs := [21]) (by kernel_rfl) (by simp) ?_
      refine AllReadyH.cons (o := { dst := some 60, op := .call { callee := Go.Callee.value (.func 57), args := #[.tmp 51, .tmp 55, .tmp 59], argTypes := #[23, 48, 38] }, type := 44, pos := "dag.go:184", after := #[{ on := 12, ground := .data }, { on := 16, ground := .data }, { on := 20, ground := .data }, { on := 7, ground := .chain }, { on := 7, ground := .guard }], guard := some (7, false) }) rfl (fun K hK => ?_) AllReadyH.nil
      go_simp
      go_at_call 57
      refine (Hby.out _ HF2.out).mono ?_
      rintro x3 w3 ⟨v3, L3, rfl, hv3, hd3, hf3⟩
      have HF3 : Hid (Fresh wr w3) := fcomp HF2.out hf3
      have hck3 : Calls Tryz.prog 56 #[evV n.e, sv v3] w3 fun x w' => x = .returned (.int .i64 0) ∧ Fresh w3 w' := by
        have h2 := hv3.evs
        rw [hd3] at h2
        exact Hc2.out n.e _ _ w3 col rfl (hcol.fresh (fcomp hfr.out HF3.out)) (HN.out.ev.fresh (fcomp hfr.out HF3.out)) h2
      have Hck3 := Lib.hid hck3
      clear hck3 hf3 hv3 hd3
      try dsimp only
      refine hK.out _ _ (HS.out _ HF3.out) (fun hHeld => ?_)
      clear hK K
      try simp only [Act.put, List.setIfInBounds_toArray, List.set_cons_zero, List.set_cons_succ]
      refine wpAnyH_ready (rs := [22]) (by kernel_rfl) (by simp) ?_
      refine AllReadyH.cons (o := { dst := some 61, op := .call { callee := Go.Callee.value (.func 56), args := #[.tmp 50, .tmp 60], argTypes := #[38, 44] }, type := 3, pos := "dag.go:184", after := #[{ on := 11, ground := .data }, { on := 21, ground := .data }, { on := 21, ground := .chain }, { on := 7, ground := .guard }], guard := some (7, false) }) rfl (fun K hK => ?_) AllReadyH.nil
      go_simp
      go_at_call 56
      refine Hck3.out.mono ?_
      rintro x4 w4 ⟨rfl, hf4⟩
      have HF4 : Hid (Fresh wr w4) := fcomp HF3.out hf4
      clear hf4
      try dsimp only
      refine hK.out _ _ (HS.out _ HF4.out) (fun hHeld => ?_)
      clear hK K
      try simp only [Act.put, List.setIfInBounds_toArray, List.set_cons_zero, List.set_cons_succ]
      refine wpAnyH_take (i := 23) (oi := { dst := some 62, op := .binOp Go.BinOp.neq 3 (.tmp 61) (.const (Go.Value.int Go.IntKind.i64 0)) 3, type := 4, pos := "dag.go:184", after := #[{ on := 22, ground := .data }, { on := 7, ground := .guard }], guard := some (7, false) }) (v := ?_) rfl (by kernel_rfl) (by kernel_rfl) (by kernel_rfl) (fun _ _ _ h => h) (Or.inl ⟨by rfl, ?_⟩) (by assumption) ?_
      rotate_left 1
      · intro W hSw
        obtain ⟨s1, s2⟩ := hSw
        go_simp
        try with_reducible rfl
      try simp only [Act.put, List.setIfInBounds_toArray, List.set_cons_zero, List.set_cons_succ]
      refine wpAnyH_take (i := 24) (oi := { dst := some 63, op := .pick (.tmp 46) (.const (Go.Value.bool true)) (.tmp 62), type := 4, pos := "dag.go:184", after := #[{ on := 7, ground := .data }, { on := 23, ground := .data }], guard := none }) (v := ?_) rfl (by kernel_rfl) (by kernel_rfl) (by kernel_rfl) (fun _ _ _ h => h) (Or.inl ⟨by rfl, ?_⟩) (by assumption) ?_
      rotate_left 1
      · intro W hSw
        obtain ⟨s1, s2⟩ := hSw
        go_simp
        try with_reducible rfl
      try simp only [Act.put, List.setIfInBounds_toArray, List.set_cons_zero, List.set_cons_succ]
      refine wpAnyH_take (i := 25) (oi := { dst := some 38, op := .assign (.tmp 63), type := 4, pos := "dag.go:184", after := #[{ on := 24, ground := .data }, { on := 22, ground := .chain }], guard := none }) (v := ?_) rfl (by kernel_rfl) (by kernel_rfl) (by kernel_rfl) (fun _ _ _ h => h) (Or.inl ⟨by rfl, ?_⟩) (by assumption) ?_
      rotate_left 1
      · intro W hSw
        obtain ⟨s1, s2⟩ := hSw
        go_simp
        try with_reducible rfl
      try simp only [Act.put, List.setIfInBounds_toArray, List.set_cons_zero, List.set_cons_succ]
      refine wpAnyH_done (by kernel_rfl) ?_ _
      have Hfin := Lib.hid (fcomp hfr.out HF4.out)
      go_wp2_with fail
      have hnk : ∀ W, Keep w col W col (fun c => c ≠ k + 1) → W.cell? ⟨n.blk, 6, none⟩ = some (.slice n.e.prev.a n.e.prev.n n.e.prev.c) ∧ Hid (NdIs W col k n) := fun W hW =>
        have h2 := HN.out.keep hW (by omega) (by omega)
        ⟨(h2.at_ 6).trans rfl, h2⟩
      have HNk := Lib.hid hnk
      have hk4 : Keep w col w4.drew col (fun c => c ≠ k + 1) := Keep.ofFresh Hfin.out.drew
      have Hk4 := Lib.hid hk4
      have hcur := current_any (H.out.fresh Hfin.out.drew) (hcol.fresh Hfin.out.drew) Hone.out
      have Hcur := Lib.hid hcur
      have hpi : (0 : Int) < (n.e.prev.n : Int) := by omega
      clear hnk hk4 hcur
      refine wp_region_held_drew (S := fun W => W.cell? ⟨n.blk, 6, none⟩ = some (.slice n.e.prev.a n.e.prev.n n.e.prev.c) ∧ Hid (NdIs W col k n)) (by kernel_rfl) ?_ (fun hHeld => ?_)
      · exact HNk.out _ Hk4.out
      refine wpAnyH_take (i := 0) (oi := { dst := some 65, op := .move (.tmp 1), type := 63, pos := "dag.go:186", after := #[], guard := none }) (v := ?_) rfl (by kernel_rfl) (by kernel_rfl) (by kernel_rfl) (fun _ _ _ h => h) (Or.inl ⟨by rfl, ?_⟩) (by assumption) ?_
      rotate_left 1
      · intro W hSw
        obtain ⟨s1, s2⟩ := hSw
        go_simp
        try with_reducible rfl
      try simp only [Act.put, List.setIfInBounds_toArray, List.set_cons_zero, List.set_cons_succ]
      refine wpAnyH_take (i := 1) (oi := { dst := some 66, op := .nilCheck (.tmp 65), type := 0, pos := "dag.go:186", after := #[{ on := 0, ground := .data }], guard := none }) (v := ?_) rfl (by kernel_rfl) (by kernel_rfl) (by kernel_rfl) (fun _ _ _ h => h) (Or.inl ⟨by rfl, ?_⟩) (by assumption) ?_
      rotate_left 1
      · intro W hSw
        obtain ⟨s1, s2⟩ := hSw
        go_simp
        try with_reducible rfl
      try simp only [Act.put, List.setIfInBounds_toArray, List.set_cons_zero, List.set_cons_succ]
      refine wpAnyH_take (i := 2) (oi := { dst := some 67, op := .fieldAddr 67 (.tmp 66) 0, type := 0, pos := "dag.go:186", after := #[{ on := 1, ground := .data }], guard := none }) (v := ?_) rfl (by kernel_rfl) (by kernel_rfl) (by kernel_rfl) (fun _ _ _ h => h) (Or.inl ⟨by rfl, ?_⟩) (by assumption) ?_
      rotate_left 1
      · intro W hSw
        obtain ⟨s1, s2⟩ := hSw
        go_simp
        try with_reducible rfl
      try simp only [Act.put, List.setIfInBounds_toArray, List.set_cons_zero, List.set_cons_succ]
      refine wpAnyH_take (i := 3) (oi := { dst := some 68, op := .fieldAddr 38 (.tmp 67) 6, type := 0, pos := "dag.go:186", after := #[{ on := 2, ground := .data }], guard := none }) (v := ?_) rfl (by kernel_rfl) (by kernel_rfl) (by kernel_rfl) (fun _ _ _ h => h) (Or.inl ⟨by rfl, ?_⟩) (by assumption) ?_
      rotate_left 1
      · intro W hSw
        obtain ⟨s1, s2⟩ := hSw
        go_simp
        try with_reducible rfl
      try simp only [Act.put, List.setIfInBounds_toArray, List.set_cons_zero, List.set_cons_succ]
      refine wpAnyH_take (i := 4) (oi := { dst := some 69, op := .load 30 (.tmp 68), type := 30, pos := "dag.go:186", after := #[{ on := 3, ground := .data }], guard := none }) (v := ?_) rfl (by kernel_rfl) (by kernel_rfl) (by kernel_rfl) (fun _ _ _ h => h) (Or.inl ⟨by rfl, ?_⟩) (by assumption) ?_
      rotate_left 1
      · intro W hSw
        obtain ⟨s1, s2⟩ := hSw
        go_simp
        try with_reducible rfl
      try simp only [Act.put, List.setIfInBounds_toArray, List.set_cons_zero, List.set_cons_succ]
      refine wpAnyH_take (i := 5) (oi := { dst := some 70, op := .call { callee := Go.Callee.builtin Go.Builtin.len, args := #[.tmp 69], argTypes := #[30] }, type := 3, pos := "dag.go:186", after := #[{ on := 4, ground := .data }], guard := none }) (v := ?_) rfl (by kernel_rfl) (by kernel_rfl) (by kernel_rfl) (fun _ _ _ h => h) (Or.inl ⟨by rfl, ?_⟩) (by assumption) ?_
      rotate_left 1
      · intro W hSw
        obtain ⟨s1, s2⟩ := hSw
        go_simp
        try with_reducible rfl
      try simp only [Act.put, List.setIfInBounds_toArray, List.set_cons_zero, List.set_cons_succ]
      refine wpAnyH_take (i := 6) (oi := { dst := some 71, op := .binOp Go.BinOp.gtr 3 (.tmp 70) (.const (Go.Value.int Go.IntKind.i64 0)) 3, type := 4, pos := "dag.go:186", after := #[{ on := 5, ground := .data }], guard := none }) (v := ?_) rfl (by kernel_rfl) (by kernel_rfl) (by kernel_rfl) (fun _ _ _ h => h) (Or.inl ⟨by rfl, ?_⟩) (by assumption) ?_
      rotate_left 1
      · intro W hSw
        obtain ⟨s1, s2⟩ := hSw
        go_simp
        try with_reducible rfl
      try simp only [Act.put, List.setIfInBounds_toArray, List.set_cons_zero, List.set_cons_succ]
      refine wpAnyH_take (i := 7) (oi := { dst := some 72, op := .move (.tmp 71), type := 4, pos := "dag.go:186", after := #[{ on := 6, ground := .data }], guard := none }) (v := ?_) rfl (by kernel_rfl) (by kernel_rfl) (by kernel_rfl) (fun _ _ _ h => h) (Or.inl ⟨by rfl, ?_⟩) (by assumption) ?_
      rotate_left 1
      · intro W hSw
        obtain ⟨s1, s2⟩ := hSw
        go_simp
        try with_reducible rfl
      try simp only [Act.put, List.setIfInBounds_toArray, List.set_cons_zero, List.set_cons_succ]
      refine wpAnyH_take (i := 8) (oi := { dst := some 73, op := .move (.tmp 1), type := 63, pos := "dag.go:186", after := #[{ on := 7, ground := .guard }], guard := some (7, true) }) (v := ?_) rfl (by kernel_rfl) (by kernel_rfl) (by kernel_rfl) (fun _ _ _ h => h) (Or.inl ⟨by rfl, ?_⟩) (by assumption) ?_
      rotate_left 1
      · intro W hSw
        obtain ⟨s1, s2⟩ := hSw
        go_simp
        try with_reducible rfl
      try simp only [Act.put, List.setIfInBounds_toArray, List.set_cons_zero, List.set_cons_succ]
      refine wpAnyH_take (i := 9) (oi := { dst := some 74, op := .nilCheck (.tmp 73), type := 0, pos := "dag.go:186", after := #[{ on := 8, ground := .data }, { on := 7, ground := .guard }], guard := some (7, true) }) (v := ?_) rfl (by kernel_rfl) (by kernel_rfl) (by kernel_rfl) (fun _ _ _ h => h) (Or.inl ⟨by rfl, ?_⟩) (by assumption) ?_
      rotate_left 1
      · intro W hSw
        obtain ⟨s1, s2⟩ := hSw
        go_simp
        try with_reducible rfl
      try simp only [Act.put, List.setIfInBounds_toArray, List.set_cons_zero, List.set_cons_succ]
      refine wpAnyH_take (i := 10) (oi := { dst := some 75, op := .fieldAddr 67 (.tmp 74) 0, type := 0, pos := "dag.go:186", after := #[{ on := 9, ground := .data }, { on := 7, ground := .guard }], guard := some (7, true) }) (v := ?_) rfl (by kernel_rfl) (by kernel_rfl) (by kernel_rfl) (fun _ _ _ h => h) (Or.inl ⟨by rfl, ?_⟩) (by assumption) ?_
      rotate_left 1
      · intro W hSw
        obtain ⟨s1, s2⟩ := hSw
        go_simp
        try with_reducible rfl
      try simp only [Act.put, List.setIfInBounds_toArray, List.set_cons_zero, List.set_cons_succ]
      refine wpAnyH_take (i := 11) (oi := { dst := some 76, op := .load 38 (.tmp 75), type := 38, pos := "dag.go:186", after := #[{ on := 10, ground := .data }, { on := 7, ground := .guard }], guard := some (7, true) }) (v := .agg n.e.cells) rfl (by kernel_rfl) (by kernel_rfl) (by kernel_rfl) (fun _ _ _ h => h)
        (yieldsIf_load_cells (by rfl) 38 (.tmp 75) rfl n.blk 0 rfl n.e.cells (fun W hW => hW.2.out.ev_cells) _ Tryz.underlying38 rfl info38s) (by assumption) ?_
      try simp only [Act.put, List.setIfInBounds_toArray, List.set_cons_zero, List.set_cons_succ]
      refine wpAnyH_take (i := 12) (oi := { dst := some 77, op := .move (.tmp 0), type := 23, pos := "dag.go:186", after := #[{ on := 7, ground := .guard }], guard := some (7, true) }) (v := ?_) rfl (by kernel_rfl) (by kernel_rfl) (by kernel_rfl) (fun _ _ _ h => h) (Or.inl ⟨by rfl, ?_⟩) (by assumption) ?_
      rotate_left 1
      · intro W hSw
        obtain ⟨s1, s2⟩ := hSw
        go_simp
        try with_reducible rfl
      try simp only [Act.put, List.setIfInBounds_toArray, List.set_cons_zero, List.set_cons_succ]
      refine wpAnyH_take (i := 13) (oi := { dst := some 78, op := .move (.tmp 0), type := 23, pos := "dag.go:186", after := #[{ on := 7, ground := .guard }], guard := some (7, true) }) (v := ?_) rfl (by kernel_rfl) (by kernel_rfl) (by kernel_rfl) (fun _ _ _ h => h) (Or.inl ⟨by rfl, ?_⟩) (by assumption) ?_
      rotate_left 1
      · intro W hSw
        obtain ⟨s1, s2⟩ := hSw
        go_simp
        try with_reducible rfl
      try simp only [Act.put, List.setIfInBounds_toArray, List.set_cons_zero, List.set_cons_succ]
      refine wpAnyH_take (i := 15) (oi := { dst := some 80, op := .move (.tmp 1), type := 63, pos := "dag.go:186", after := #[{ on := 7, ground := .guard }], guard := some (7, true) }) (v := ?_) rfl (by kernel_rfl) (by kernel_rfl) (by kernel_rfl) (fun _ _ _ h => h) (Or.inl ⟨by rfl, ?_⟩) (by assumption) ?_
      rotate_left 1
      · intro W hSw
        obtain ⟨s1, s2⟩ := hSw
        go_simp
        try with_reducible rfl
      try simp only [Act.put, List.setIfInBounds_toArray, List.set_cons_zero, List.set_cons_succ]
      refine wpAnyH_take (i := 16) (oi := { dst := some 81, op := .nilCheck (.tmp 80), type := 0, pos := "dag.go:186", after := #[{ on := 15, ground := .data }, { on := 7, ground := .guard }], guard := some (7, true) }) (v := ?_) rfl (by kernel_rfl) (by kernel_rfl) (by kernel_rfl) (fun _ _ _ h => h) (Or.inl ⟨by rfl, ?_⟩) (by assumption) ?_
      rotate_left 1
      · intro W hSw
        obtain ⟨s1, s2⟩ := hSw
        go_simp
        try with_reducible rfl
      try simp only [Act.put, List.setIfInBounds_toArray, List.set_cons_zero, List.set_cons_succ]
      refine wpAnyH_take (i := 17) (oi := { dst := some 82, op := .fieldAddr 67 (.tmp 81) 0, type := 0, pos := "dag.go:186", after := #[{ on := 16, ground := .data }, { on := 7, ground := .guard }], guard := some (7, true) }) (v := ?_) rfl (by kernel_rfl) (by kernel_rfl) (by kernel_rfl) (fun _ _ _ h => h) (Or.inl ⟨by rfl, ?_⟩) (by assumption) ?_
      rotate_left 1
      · intro W hSw
        obtain ⟨s1, s2⟩ := hSw
        go_simp
        try with_reducible rfl
      try simp only [Act.put, List.setIfInBounds_toArray, List.set_cons_zero, List.set_cons_succ]
      refine wpAnyH_take (i := 18) (oi := { dst := some 83, op := .load 38 (.tmp 82), type := 38, pos := "dag.go:186", after := #[{ on := 17, ground := .data }, { on := 7, ground := .guard }], guard := some (7, true) }) (v := .agg n.e.cells) rfl (by kernel_rfl) (by kernel_rfl) (by kernel_rfl) (fun _ _ _ h => h)
        (yieldsIf_load_cells (by rfl) 38 (.tmp 82) rfl n.blk 0 rfl n.e.cells (fun W hW => hW.2.out.ev_cells) _ Tryz.underlying38 rfl info38s) (by assumption) ?_
      try simp only [Act.put, List.setIfInBounds_toArray, List.set_cons_zero, List.set_cons_succ]
      refine wpAnyH_ready (rs := [14]) (by kernel_rfl) (by simp) ?_
      refine AllReadyH.cons (o := { dst := some 79, op := .call { callee := Go.Callee.value (.func 36), args := #[.tmp 78], argTypes := #[23] }, type := 48, pos := "dag.go:186", after := #[{ on := 13, ground := .data }, { on := 7, ground := .chain }, { on := 7, ground := .guard }], guard := some (7, true) }) rfl (fun K hK => ?_) AllReadyH.nil
      go_simp
      go_at_call 36
      refine Hcur.out.mono ?_
      rintro x5 w5 ⟨s5, r5, rfl, hr5, hd5, hn5, he5, hs5, hk5⟩
      have Hk5 := Lib.hid (Hk4.out.trans hk5); have Hr5 := Lib.hid hr5; have Hd5 := Lib.hid hd5; have Hn5 := Lib.hid hn5; have He5 := Lib.hid he5; have Hs5 := Lib.hid hs5
      clear hr5 hd5 hn5 he5 hs5 hk5
      try dsimp only
      refine hK.out _ _ (HNk.out _ Hk5.out) (fun hHeld => ?_)
      clear hK K
      try simp only [Act.put, List.setIfInBounds_toArray, List.set_cons_zero, List.set_cons_succ]
      refine wpAnyH_ready (rs := [19]) (by kernel_rfl) (by simp) ?_
      refine AllReadyH.cons (o := { dst := some 84, op := .call { callee := Go.Callee.value (.func 57), args := #[.tmp 77, .tmp 79, .tmp 83], argTypes := #[23, 48, 38] }, type := 44, pos := "dag.go:186", after := #[{ on := 12, ground := .data }, { on := 14, ground := .data }, { on := 18, ground := .data }, { on := 14, ground := .chain }, { on := 7, ground := .guard }], guard := some (7, true) }) rfl (fun K hK => ?_) AllReadyH.nil
      go_simp
      go_at_call 57
      refine (by_any Hr5.out Hs5.out s5 r.d.cur He5.out n.e (HNk.out _ Hk5.out).2.out.ev (fun x hx => by
        have := Hcf.out x hx
        unfold Rm.find at this ⊢
        rw [Hn5.out]; exact this)).mono ?_
      rintro x6 w6 ⟨v6, L6, rfl, hv6, hd6, hf6⟩
      have hck6 : Calls Tryz.prog 56 #[evV n.e, sv v6] w6 fun x w' => x = .returned (.int .i64 0) ∧ Fresh w6 w' := by
        have h2 := hv6.evs
        rw [hd6, Hd5.out] at h2
        exact Hc3.out n.e _ _ w6 col rfl (Hs5.out.fresh hf6) ((HNk.out _ Hk5.out).2.out.ev.fresh hf6) h2
      have Hk6 := Lib.hid (Hk5.out.trans (Keep.ofFresh hf6)); have Hf6 := Lib.hid hf6; have Hck6 := Lib.hid hck6
      clear hck6 hf6 hv6 hd6
      try dsimp only
      refine hK.out _ _ (HNk.out _ Hk6.out) (fun hHeld => ?_)
      clear hK K
      try simp only [Act.put, List.setIfInBounds_toArray, List.set_cons_zero, List.set_cons_succ]
      refine wpAnyH_ready (rs := [20]) (by kernel_rfl) (by simp) ?_
      refine AllReadyH.cons (o := { dst := some 85, op := .call { callee := Go.Callee.value (.func 56), args := #[.tmp 76, .tmp 84], argTypes := #[38, 44] }, type := 3, pos := "dag.go:186", after := #[{ on := 11, ground := .data }, { on := 19, ground := .data }, { on := 19, ground := .chain }, { on := 7, ground := .guard }], guard := some (7, true) }) rfl (fun K hK => ?_) AllReadyH.nil
      go_simp
      go_at_call 56
      refine Hck6.out.mono ?_
      rintro x7 w7 ⟨rfl, hf7⟩
      have Hk7 := Lib.hid (Hk6.out.trans (Keep.ofFresh hf7)); have Hf7 := Lib.hid (fcomp Hf6.out hf7)
      clear hf7
      try dsimp only
      refine hK.out _ _ (HNk.out _ Hk7.out) (fun hHeld => ?_)
      clear hK K
      try simp only [Act.put, List.setIfInBounds_toArray, List.set_cons_zero, List.set_cons_succ]
      refine wpAnyH_take (i := 21) (oi := { dst := some 86, op := .binOp Go.BinOp.neq 3 (.tmp 85) (.const (Go.Value.int Go.IntKind.i64 0)) 3, type := 4, pos := "dag.go:186", after := #[{ on := 20, ground := .data }, { on := 7, ground := .guard }], guard := some (7, true) }) (v := ?_) rfl (by kernel_rfl) (by kernel_rfl) (by kernel_rfl) (fun _ _ _ h => h) (Or.inl ⟨by rfl, ?_⟩) (by assumption) ?_
      rotate_left 1
      · intro W hSw
        obtain ⟨s1, s2⟩ := hSw
        go_simp
        try with_reducible rfl
      try simp only [Act.put, List.setIfInBounds_toArray, List.set_cons_zero, List.set_cons_succ]
      refine wpAnyH_take (i := 22) (oi := { dst := some 87, op := .pick (.tmp 72) (.tmp 86) (.const (Go.Value.bool false)), type := 4, pos := "dag.go:186", after := #[{ on := 7, ground := .data }, { on := 21, ground := .data }], guard := none }) (v := ?_) rfl (by kernel_rfl) (by kernel_rfl) (by kernel_rfl) (fun _ _ _ h => h) (Or.inl ⟨by rfl, ?_⟩) (by assumption) ?_
      rotate_left 1
      · intro W hSw
        obtain ⟨s1, s2⟩ := hSw
        go_simp
        try with_reducible rfl
      try simp only [Act.put, List.setIfInBounds_toArray, List.set_cons_zero, List.set_cons_succ]
      refine wpAnyH_take (i := 23) (oi := { dst := some 64, op := .assign (.tmp 87), type := 4, pos := "dag.go:186", after := #[{ on := 22, ground := .data }, { on := 20, ground := .chain }], guard := none }) (v := ?_) rfl (by kernel_rfl) (by kernel_rfl) (by kernel_rfl) (fun _ _ _ h => h) (Or.inl ⟨by rfl, ?_⟩) (by assumption) ?_
      rotate_left 1
      · intro W hSw
        obtain ⟨s1, s2⟩ := hSw
        go_simp
        try with_reducible rfl
      try simp only [Act.put, List.setIfInBounds_toArray, List.set_cons_zero, List.set_cons_succ]
      refine wpAnyH_done (by kernel_rfl) ?_ _
      go_wp2_with fail
      go_ret
      exact ⟨rfl, r5, Hr5.out.fresh Hf7.out, Hd5.out, Hn5.out, Hs5.out.fresh Hf7.out, Hk7.out⟩
end Go.Proofs.YtmjclmmiljlahaaGreat

set_option linter.unusedVariables false
set_option linter.unusedSimpArgs false
namespace Go.Proofs.YtmjclmmiljlahaaGreat
open Go.RowKit

theorem top_any {w : World} {col : Col} {k R : Nat} {r : Rm} (h : RmIs w col k R r) : Calls Tryz.prog 21 #[.pointer (some ⟨R, 0, none⟩)] w fun x w' => x = .returned (.int .i64 r.top) ∧ w = w' := by
  have h9 := h.c9
  clear h
  go_enter Tryz.func21, Tryz.ntmps21
  go_wp2
  go_ret
  exact ⟨rfl, rfl⟩

set_option maxRecDepth 10000 in
theorem now_any {w : World} {col : Col} {k R : Nat} {r : Rm} (h : RmIs w col k R r) (hcol : Std w col) (hst : r.d.oneEnd) :
    Calls Tryz.prog 20 #[.pointer (some ⟨R, 0, none⟩)] w fun y w' => ∃ (s : SV) (r' : Rm), y = .returned (sv s) ∧ s.n = r.d.cur.length ∧ RmIs w' col k R r' ∧ r'.d = { r.d with now := r.d.cur, stale := false } ∧ r'.ns = r.ns ∧ EnSl w' col s r.d.cur ∧ Std w' col ∧ Keep w col w' col (fun c => c ≠ k + 1) := by
  have hc := current_any h hcol hst
  have HC := Lib.hid hc
  clear hc h
  go_enter Tryz.func20, Tryz.ntmps20
  go_wp2_with fail
  refine HC.out.mono ?_
  rintro y w1 ⟨s, r', rfl, hr, hd, hn, hs, hstd, hk⟩
  have Hr := Lib.hid hr; have Hd := Lib.hid hd; have Hn := Lib.hid hn; have Hs := Lib.hid hs; have Hst := Lib.hid hstd; have Hk := Lib.hid hk
  clear hr hd hn hs hstd hk
  go_wp2_with fail
  refine (clone_48 _ _ _ col w1 Hs.out (en_one _)).mono ?_
  rintro y w2 ⟨v, rfl, hown, hf, _⟩
  obtain ⟨a, m, c, rfl⟩ := own_slice hown
  have HF := Lib.hid hf; have Ho := Lib.hid hown
  clear hf hown
  go_wp2_with fail
  go_ret
  have hen : EnSl w2 col ⟨a, m, c⟩ r.d.cur := Sl.ofOwn Ho.out Hs.out.2.1 Hst.out.ok (Nat.le_refl _)
  exact ⟨⟨a, m, c⟩, r', rfl, hen.rows.1, Hr.out.fresh HF.out, Hd.out, Hn.out, hen, Hst.out.fresh HF.out, Hk.out.trans (Keep.ofFresh HF.out)⟩

/-- 'append' onto a row of the call's own: its block is the old one, or a new one. -/
theorem own_new {w w' : World} {base e size n m : Nat} {v v' : Value} {cs cs' : List Value} (h : w.ownsRow base e size v n cs) (h' : w'.ownsRow base e size v' m cs')
    (hb : v'.ownBlock = v.ownBlock ∨ ∃ b, v'.ownBlock = some b ∧ w.heap.size ≤ b) : ∀ b, v'.ownBlock = some b → v.ownBlock = some b ∨ w.heap.size ≤ b := by
  intro b hbb
  rcases hb with hb | ⟨b', hb, hl⟩
  · exact .inl (hb ▸ hbb)
  · rw [hbb] at hb
    simp at hb
    subst hb
    exact .inr hl
end Go.Proofs.YtmjclmmiljlahaaGreat
