/-
  Parts of a proof: resolution of nothing; a deletion; laws for Take. No condition.
-/
import Derived.Test.YtmjclmmiljlahaaGreatG5
import Derived.Maps.RangeWalk
set_option linter.unusedVariables false
set_option linter.unusedSimpArgs false
namespace Go.Proofs.YtmjclmmiljlahaaGreat
open Go.RowKit

/-! ### Sorting nothing. -/
theorem ins_nil_str (w : World) (a : Option Addr) (c : Nat) (f : Value) :
    Calls Tryz.prog 173 #[.slice a 0 c, .int .i64 0, .int .i64 0, f] w fun e w' => e = .returned (.tuple #[]) ∧ w = w' := by
  go_enter Tryz.func173, Tryz.ntmps173
  go_wp2_with fail
  go_loopw [8] (fun i wr => i = .int .i64 1 ∧ wr = w) (fun _ _ => 0)
  case atStart => exact ⟨rfl, rfl⟩
  case round =>
    obtain ⟨rfl, rfl⟩ := hrel
    go_wp2_with fail
    go_end0
    exact ⟨rfl, rfl⟩
theorem ins_nil_en (w : World) (a : Option Addr) (c : Nat) (f : Value) :
    Calls Tryz.prog 164 #[.slice a 0 c, .int .i64 0, .int .i64 0, f] w fun e w' => e = .returned (.tuple #[]) ∧ w = w' := by
  go_enter Tryz.func164, Tryz.ntmps164
  go_wp2_with fail
  go_loopw [8] (fun i wr => i = .int .i64 1 ∧ wr = w) (fun _ _ => 0)
  case atStart => exact ⟨rfl, rfl⟩
  case round =>
    obtain ⟨rfl, rfl⟩ := hrel
    go_wp2_with fail
    go_end0
    exact ⟨rfl, rfl⟩
set_option maxRecDepth 10000 in
theorem pdq_nil_str (w : World) (a : Option Addr) (c : Nat) (l : Int) (f : Value) :
    Calls Tryz.prog 163 #[.slice a 0 c, .int .i64 0, .int .i64 0, .int .i64 l, f] w fun e w' => e = .returned (.tuple #[]) ∧ w = w' := by
  go_enter Tryz.func163, Tryz.ntmps163
  go_wp2_with fail
  go_loopw [1, 2] (fun x y wr => x = .int .i64 0 ∧ y = .int .i64 0 ∧ wr = w) (fun _ _ _ => 0)
  case atStart => exact ⟨rfl, rfl, rfl⟩
  case round =>
    obtain ⟨rfl, rfl, rfl⟩ := hrel
    go_wp2_with fail
    refine (ins_nil_str _ _ _ _).mono ?_
    rintro e w2 ⟨rfl, rfl⟩
    go_wp2_with fail
    refine bodyPost_ret (results_none rfl _ _ _) rfl ?_
    exact ⟨rfl, rfl⟩
set_option maxRecDepth 10000 in
theorem pdq_nil_en (w : World) (a : Option Addr) (c : Nat) (l : Int) (f : Value) :
    Calls Tryz.prog 148 #[.slice a 0 c, .int .i64 0, .int .i64 0, .int .i64 l, f] w fun e w' => e = .returned (.tuple #[]) ∧ w = w' := by
  go_enter Tryz.func148, Tryz.ntmps148
  go_wp2_with fail
  go_loopw [1, 2] (fun x y wr => x = .int .i64 0 ∧ y = .int .i64 0 ∧ wr = w) (fun _ _ _ => 0)
  case atStart => exact ⟨rfl, rfl, rfl⟩
  case round =>
    obtain ⟨rfl, rfl, rfl⟩ := hrel
    go_wp2_with fail
    refine (ins_nil_en _ _ _ _).mono ?_
    rintro e w2 ⟨rfl, rfl⟩
    go_wp2_with fail
    refine bodyPost_ret (results_none rfl _ _ _) rfl ?_
    exact ⟨rfl, rfl⟩
theorem sortF_nil_str (w : World) (f : Value) : Calls Tryz.prog 145 #[.slice none 0 0, f] w fun e w' => e = .returned (.tuple #[]) ∧ w = w' := by
  go_enter Tryz.func145, Tryz.ntmps145
  go_wp2_with fail
  refine (Tryz.bits_Len 0 w (by omega) (by omega)).mono ?_
  rintro e w2 ⟨rfl, rfl⟩
  go_wp2_with fail
  refine (pdq_nil_str _ _ _ _ _).mono ?_
  rintro e w2 ⟨rfl, rfl⟩
  go_wp2_with fail
  go_end0
  exact ⟨rfl, rfl⟩
theorem sortF_nil_en (w : World) (f : Value) : Calls Tryz.prog 115 #[.slice none 0 0, f] w fun e w' => e = .returned (.tuple #[]) ∧ w = w' := by
  go_enter Tryz.func115, Tryz.ntmps115
  go_wp2_with fail
  refine (Tryz.bits_Len 0 w (by omega) (by omega)).mono ?_
  rintro e w2 ⟨rfl, rfl⟩
  go_wp2_with fail
  refine (pdq_nil_en _ _ _ _ _).mono ?_
  rintro e w2 ⟨rfl, rfl⟩
  go_wp2_with fail
  go_end0
  exact ⟨rfl, rfl⟩

/-! ### A range over an empty map. -/
section
variable {P : Program} {w : World} {ops : Array Oper} {rest : List Oper} {o : Oper} {a : Act} {Q : Exit → Act → World → Prop}
theorem wpList_range0 (hg : o.guard = none) (m : Operand) (t k e : TypeId) (hop : o.op = Op.range t m) (ht : P.underlying t = some (.map k e)) (b c : Nat) (hm : a.eval m = .map (some b)) (hb : w.heap[b]? = some (.map #[] c))
    (hK : wpList P ops Q rest (a.put o.dst (.pointer (some ⟨w.heap.size, 0, none⟩))) (w.alloc (.mapIter (some b) c #[] c))) : wpList P ops Q (o :: rest) a w := by
  refine wpList_plain hg fun K' hK' => ?_
  have hr : (Instr.range t (.map (some b))).run P w = .ok (.pointer (some ⟨w.heap.size, 0, none⟩)) (w.alloc (.mapIter (some b) c #[] c)) := by
    simp [Instr.range, run_underlying ht, MapKept.run_getObj_map hb]
  unfold Oper.wp
  simp [execOp, hop, hm, hr, Result.andThen]
  exact hK' _ _ hK
theorem wpList_next0 (hg : o.guard = none) (it : Operand) (hop : o.op = Op.next it false) (r b s l c : Nat) (hit : a.eval it = .pointer (some ⟨r, 0, none⟩)) (hr : w.heap[r]? = some (.mapIter (some b) s #[] l)) (hb : w.heap[b]? = some (.map #[] c))
    (hK : wpList P ops Q rest (a.put o.dst (.tuple #[.bool false])) w) : wpList P ops Q (o :: rest) a w := by
  refine wpList_plain hg fun K' hK' => ?_
  have hr : (Instr.next (.pointer (some ⟨r, 0, none⟩)) false o.type).run P w = .ok (.tuple #[.bool false]) w := by
    have h1 : (getObj r).run P w = .ok (.mapIter (some b) s #[] l) w := by simp [getObj, Sem.run, hr]
    simp [Instr.next, h1, MapKept.run_getObj_map hb]
    exact fun h => absurd h (by decide)
  unfold Oper.wp
  simp [execOp, hop, hit, hr, Result.andThen]
  exact hK' _ _ hK
end
end Go.Proofs.YtmjclmmiljlahaaGreat

set_option linter.unusedVariables false
set_option linter.unusedSimpArgs false
namespace Go.Proofs.YtmjclmmiljlahaaGreat
open Go.RowKit

theorem range_start {w : World} {b c : Nat} (hb : w.heap[b]? = some (.map #[] c)) :
    (w.alloc (.mapIter (some b) c #[] c)).heap[w.heap.size]? = some (.mapIter (some b) c #[] c) ∧ (w.alloc (.mapIter (some b) c #[] c)).heap[b]? = some (.map #[] c) ∧ Fresh w (w.alloc (.mapIter (some b) c #[] c)) :=
  ⟨heap_alloc_new _ _, (Below.heap_alloc _ _ _ (box_lt hb)).trans hb, (Fresh.rfl' w).alloc (Nat.le_refl _) _⟩

/-- A state without entries is told as nothing. -/
theorem told_nil {w : World} {b c : Nat} (hb : w.heap[b]? = some (.map #[] c)) :
    Calls Tryz.prog 76 #[.map (some b)] w fun e w' => e = .returned (.slice none 0 0) ∧ Fresh w w' := by
  have Hs := Lib.hid (range_start hb)
  go_enter Tryz.func76, Tryz.ntmps76
  go_wp2_with (at_range; refine wpList_range0 rfl (.tmp 6) 116 _ _ rfl Tryz.underlying116 b c rfl hb ?_)
  go_frame
  refine hideWorld _ (fun W => W.heap[w.heap.size]? = some (.mapIter (some b) c #[] c) ∧ W.heap[b]? = some (.map #[] c) ∧ Fresh w W) _ Hs.out ?_
  rintro W ⟨hr, hb2, hf⟩
  have HF := Lib.hid hf
  clear Hs hf hb
  go_loopw [3] (fun s wr => s = .slice none 0 0 ∧ wr = W) (fun _ _ => 0)
  case atStart => exact ⟨rfl, rfl⟩
  case round =>
    obtain ⟨rfl, rfl⟩ := hrel
    go_wp2_with (at_next; refine wpList_next0 rfl (.tmp 7) rfl w.heap.size b c c c rfl hr hb2 ?_)
    refine (sortF_nil_en _ _).mono ?_
    rintro e w2 ⟨rfl, rfl⟩
    go_wp2_with fail
    go_ret
    exact ⟨rfl, HF.out⟩
theorem sorted_nil {w : World} {b c : Nat} (hb : w.heap[b]? = some (.map #[] c)) (r f : Value) :
    Calls Tryz.prog 104 #[r, .map (some b), f] w fun e w' => e = .returned (.slice none 0 0) ∧ Fresh w w' := by
  have Hs := Lib.hid (range_start hb)
  go_enter Tryz.func104, Tryz.ntmps104
  go_wp2_with (at_range; refine wpList_range0 rfl (.tmp 9) 118 _ _ rfl Tryz.underlying118 b c rfl hb ?_)
  go_frame
  refine hideWorld _ (fun W => W.heap[w.heap.size]? = some (.mapIter (some b) c #[] c) ∧ W.heap[b]? = some (.map #[] c) ∧ Fresh w W) _ Hs.out ?_
  rintro W ⟨hr, hb2, hf⟩
  have HF := Lib.hid hf
  clear Hs hf hb
  go_loopw [7] (fun s wr => s = .slice none 0 0 ∧ wr = W) (fun _ _ => 0)
  case atStart => exact ⟨rfl, rfl⟩
  case round =>
    obtain ⟨rfl, rfl⟩ := hrel
    go_wp2_with (at_next; refine wpList_next0 rfl (.tmp 10) rfl w.heap.size b c c c rfl hr hb2 ?_)
    refine (sortF_nil_str _ _).mono ?_
    rintro e w2 ⟨rfl, rfl⟩
    go_wp2_with fail
    go_ret
    exact ⟨rfl, HF.out⟩
theorem line_nil (w : World) (r : Value) : Calls Tryz.prog 75 #[r, .string ⟨#[]⟩] w fun e w' => e = .returned (.slice none 0 0) ∧ w = w' := by
  go_enter Tryz.func75, Tryz.ntmps75
  go_wp2_with fail
  go_loopw [1, 5] (fun x s wr => x = .string ⟨#[]⟩ ∧ s = .slice none 0 0 ∧ wr = w) (fun _ _ _ => 0)
  case atStart => exact ⟨rfl, rfl, rfl⟩
  case round =>
    obtain ⟨rfl, rfl, rfl⟩ := hrel
    go_wp2_with fail
    go_ret
    exact ⟨rfl, rfl⟩
theorem part_nil (w : World) (r : Value) : Calls Tryz.prog 69 #[r, .slice none 0 0] w fun e w' => ∃ b1 b2, e = .returned (.tuple #[.map (some b1), .map (some b2)]) ∧ w'.heap[b1]? = some (.map #[] 0) ∧ w'.heap[b2]? = some (.map #[] 0) ∧ Fresh w w' := by
  have hmm := @run_makeMap Tryz.prog
  go_enter Tryz.func69, Tryz.ntmps69
  go_wp2_with fail
  refine hideWorld _ (fun W => W.heap[w.heap.size]? = some (.map #[] 0) ∧ W.heap[w.heap.size + 1]? = some (.map #[] 0) ∧ W.heap[w.heap.size + 1 + 1]? = some (.map #[] 0) ∧ Fresh w W) _
    ⟨(Below.heap_alloc _ _ _ (by simp; omega)).trans ((Below.heap_alloc _ _ _ (by simp)).trans (heap_alloc_new _ _)), (Below.heap_alloc _ _ _ (by simp)).trans (heap_alloc_at (by simp)), heap_alloc_at (by simp), (((Fresh.rfl' w).alloc (Nat.le_refl _) _).alloc (by simp) _).alloc (by simp; omega) _⟩ ?_
  rintro W ⟨h1, h2, h3, hf⟩
  have H1 := Lib.hid h1; have H2 := Lib.hid h2; have HF := Lib.hid hf
  clear h1 h2 hf
  go_loopw [25] (fun i wr => i = .int .i64 0 ∧ wr = W) (fun _ _ => 0)
  case atStart => exact ⟨rfl, rfl⟩
  case round =>
    obtain ⟨rfl, rfl⟩ := hrel
    go_wp2_with (at_range; refine wpList_range0 rfl (.tmp 80) 149 _ _ rfl Tryz.underlying149 _ 0 rfl h3 ?_)
    go_frame
    have Hs := Lib.hid (range_start h3)
    refine hideWorld _ (fun W => W.heap[wr.heap.size]? = some (.mapIter (some (w.heap.size + 1 + 1)) 0 #[] 0) ∧ W.heap[w.heap.size + 1 + 1]? = some (.map #[] 0) ∧ Fresh wr W) _ Hs.out ?_
    rintro W ⟨hr, hb2, hf⟩
    have HF2 := Lib.hid hf
    clear Hs hf h3
    go_loopw [19] (fun _ wr => wr = W) (fun _ _ => 0)
    case atStart => rfl
    case round =>
      subst hrel
      go_wp2_with (at_next; refine wpList_next0 rfl (.tmp 81) rfl _ _ 0 0 0 rfl hr hb2 ?_)
      go_ret2
      exact ⟨_, _, rfl, (HF2.out.blocks _ (box_lt H1.out)).trans H1.out, (HF2.out.blocks _ (box_lt H2.out)).trans H2.out, fcomp HF.out HF2.out⟩
end Go.Proofs.YtmjclmmiljlahaaGreat

set_option linter.unusedVariables false
set_option linter.unusedSimpArgs false
namespace Go.Proofs.YtmjclmmiljlahaaGreat
open Go.RowKit

theorem row_nil {w : World} {b c : Nat} (hb : w.heap[b]? = some (.map #[] c)) (r : Option Addr) :
    Calls Tryz.prog 72 #[.pointer r, .map (some b)] w fun e w' => e = .returned (.slice none 0 0) ∧ Fresh w w' := by
  have hmm := @run_makeMap Tryz.prog
  have hlt := box_lt hb
  go_enter Tryz.func72, Tryz.ntmps72
  go_wp2_with (at_range; refine Stand.stop ?_)
  refine Stand.go ?_
  refine hideWorld _ (fun W => W.heap[b]? = some (.map #[] c) ∧ W.cell? ⟨w.heap.size, 0, none⟩ = some (.pointer r) ∧ Fresh w W) _
    ⟨(Below.heap_alloc _ _ _ (by simp; omega)).trans ((Below.heap_alloc _ _ _ (by simp; omega)).trans ((Below.heap_alloc _ _ _ (by simp; omega)).trans ((Below.heap_alloc _ _ _ (by simp; omega)).trans ((Below.heap_alloc _ _ _ (by omega)).trans hb)))), by go_simp,
     (((((Fresh.rfl' w).alloc (Nat.le_refl _) _).alloc (by simp) _).alloc (by simp; omega) _).alloc (by simp; omega) _).alloc (by simp; omega) _⟩ ?_
  rintro W ⟨h1, h2, hf⟩
  have HF := Lib.hid hf
  have Hs := Lib.hid (range_start h1)
  clear hf hb hlt
  refine wpList_range0 rfl (.tmp 13) 118 _ _ rfl Tryz.underlying118 b c rfl h1 ?_
  go_frame
  go_wp2_with fail
  refine hideWorld _ (fun W' => W'.heap[W.heap.size]? = some (.mapIter (some b) c #[] c) ∧ W'.heap[b]? = some (.map #[] c) ∧ Fresh W W') _ Hs.out ?_
  rintro W1 ⟨hr, hb2, hf2⟩
  have h2' := hf2.keep h2
  have HF2 := Lib.hid hf2
  clear Hs hf2 h1 h2
  go_loopw [7] (fun _ wr => wr = W1) (fun _ _ => 0)
  case atStart => rfl
  case round =>
    subst hrel
    go_wp2_with (at_next; refine wpList_next0 rfl (.tmp 14) rfl _ b c c c rfl hr hb2 ?_)
    refine (sorted_nil hb2 _ _).mono ?_
    rintro e w2 ⟨rfl, hf3⟩
    have HF3 := Lib.hid (fcomp (fcomp HF.out HF2.out) hf3)
    clear hf3
    go_wp2_with fail
    refine hideWorld _ (fun W' => W'.cell? ⟨w2.heap.size, 0, none⟩ = some (.slice none 0 0) ∧ Fresh w W') _ ⟨by go_simp, HF3.out.alloc HF3.out.size _⟩ ?_
    rintro W2 ⟨hc, hf4⟩
    have HF4 := Lib.hid hf4
    clear hf4
    go_loopw [9] (fun s wr => s = .slice none 0 0 ∧ wr = W2) (fun _ _ => 0)
    case atStart => exact ⟨rfl, rfl⟩
    case round =>
      obtain ⟨rfl, rfl⟩ := hrel
      go_wp2_with fail
      go_ret
      exact ⟨rfl, HF4.out⟩
theorem rest_nil {w : World} {b c : Nat} (hb : w.heap[b]? = some (.map #[] c)) (r : Option Addr) (m2 : Value) :
    Calls Tryz.prog 74 #[.pointer r, .map (some b), m2, .slice none 0 0] w fun e w' => e = .returned (.slice none 0 0) ∧ Fresh w w' := by
  have hmm := @run_makeMap Tryz.prog
  have hlt := box_lt hb
  go_enter Tryz.func74, Tryz.ntmps74
  go_wp2_with (at_range; refine Stand.stop ?_)
  refine Stand.go ?_
  refine hideWorld _ (fun W => W.heap[b]? = some (.map #[] c) ∧ W.cell? ⟨w.heap.size, 0, none⟩ = some (.pointer r) ∧ W.heap[w.heap.size + 1 + 1 + 1]? = some (.map #[] 0) ∧ Fresh w W) _
    ⟨(Below.heap_alloc _ _ _ (by simp; omega)).trans ((Below.heap_alloc _ _ _ (by simp; omega)).trans ((Below.heap_alloc _ _ _ (by simp; omega)).trans ((Below.heap_alloc _ _ _ (by omega)).trans hb))), by go_simp, heap_alloc_at (by simp),
     ((((Fresh.rfl' w).alloc (Nat.le_refl _) _).alloc (by simp) _).alloc (by simp; omega) _).alloc (by simp; omega) _⟩ ?_
  rintro W ⟨h1, h2, h3, hf⟩
  have HF := Lib.hid hf
  have Hs := Lib.hid (range_start h1)
  have H3 := Lib.hid h3
  clear hf hb hlt h3
  refine wpList_range0 rfl (.tmp 17) 118 _ _ rfl Tryz.underlying118 b c rfl h1 ?_
  go_frame
  go_wp2_with fail
  refine hideWorld _ (fun W' => W'.heap[W.heap.size]? = some (.mapIter (some b) c #[] c) ∧ W'.heap[b]? = some (.map #[] c) ∧ Fresh W W') _ Hs.out ?_
  rintro W1 ⟨hr, hb2, hf2⟩
  have h2' := hf2.keep h2
  have HF2 := Lib.hid hf2
  have H4 : Hid (W1.heap[w.heap.size + 1 + 1 + 1]? = some (.map #[] 0)) := (hf2.blocks _ (box_lt H3.out)).trans H3.out
  clear Hs hf2 h1 h2
  go_loopw [11] (fun _ wr => wr = W1) (fun _ _ => 0)
  case atStart => rfl
  case round =>
    subst hrel
    go_wp2_with (at_next; refine wpList_next0 rfl (.tmp 18) rfl _ b c c c rfl hr hb2 ?_)
    refine (sorted_nil H4.out _ _).mono ?_
    rintro e w2 ⟨rfl, hf3⟩
    have HF3 := Lib.hid (fcomp (fcomp HF.out HF2.out) hf3)
    clear hf3
    go_wp2_with fail
    go_ret
    exact ⟨rfl, HF3.out⟩
end Go.Proofs.YtmjclmmiljlahaaGreat

set_option linter.unusedVariables false
set_option linter.unusedSimpArgs false
namespace Go.Proofs.YtmjclmmiljlahaaGreat
open Go.RowKit

theorem pairKey124 : KeyLaw 124 pairK where
  inj := pairK_inj
  check := fun e w k => by kernel_rfl
  find := fun w k es ks h => by
    cases es with
    | nil =>
      have : ks = [] := by cases ks <;> simp_all
      subst this
      simp [Instr.findKey, run_underlying Tryz.underlying124, Instr.findNow, posOf]
    | cons e es =>
      obtain ⟨a, ks, rfl⟩ : ∃ a ks', ks = a :: ks' := by cases ks <;> simp_all
      have hk : e.key = pairK a := by simp at h; exact h.1
      have hn : ∀ d, Instr.findNow d (pairK k) (e :: es) 0 = none := fun d => by
        unfold Instr.findNow pairK; cases d <;> simp [Instr.sameNow]
      have := findAsking_pair 124 (fun w a b c e => eq124 9998 w a b c e) w k (e :: es) (a :: ks) 0 h
      simp only [Nat.zero_add] at this
      simp only [Instr.findKey, Sem.run_bind, run_underlying Tryz.underlying124, Result.andThen_ok, hn, this]
  same := fun w k => by
    have : Instr.sameBits 10000 (pairK k) (pairK k) = true := by
      simp [Instr.sameBits, pairK, MapKept.bytes_beq]
    simp [Instr.keyThatStays, this]
theorem zero9' (w : World) : (zeroValue 9).run Tryz.prog w = .ok (.string ⟨#[]⟩) w := by kernel_rfl
theorem look_empty {W : World} {b : Nat} (h : W.heap[b]? = some (.map #[] 0)) (p q : ByteArray) : (Instr.lookup 116 (.map (some b)) (.agg #[.string p, .string q]) false).run Tryz.prog W = .ok (.string ⟨#[]⟩) W := by
  have hm : MapIs pairK W b [] := ⟨#[], 0, h, by simp, by simp, MapKept.stamped_empty 0⟩
  exact run_lookup_map pairKey124 Tryz.underlying116 zero9' hm (p, q) false

/-- An empty map, in new memory too. -/
def Emp (W : World) (b : Nat) : Prop := W.heap[b]? = some (.map #[] 0)
theorem Emp.fresh {W W' : World} {b : Nat} (h : Emp W b) (hf : Fresh W W') : Emp W' b := (hf.blocks _ (box_lt h)).trans h
theorem Emp.new {W : World} {b : Nat} (h : b = W.heap.size) : Emp (W.alloc (.map #[] 0)) b := by rw [h]; exact heap_alloc_new _ _

set_option maxRecDepth 10000 in
set_option maxHeartbeats 3200000 in
/-- res.Resolve of no states over no events: nothing. -/
theorem Resolve_nil (w : World) (a a2 : Option Addr) (c c2 : Nat) :
    Calls Tryz.prog 55 #[.slice none 0 0, .slice a 0 c, .slice a2 0 c2] w fun e w' => e = .returned (.slice none 0 0) ∧ Fresh w w' := by
  have hmm := @run_makeMap Tryz.prog
  go_enter Tryz.func55, Tryz.ntmps55
  go_wp2_with fail
  refine hideWorld _ (fun W => Fresh w W) _ ((((Fresh.rfl' w).alloc (Nat.le_refl _) _).alloc (by simp) _).alloc (by simp; omega) _) ?_
  intro W hf
  have HF := Lib.hid hf
  clear hf
  go_loopw [36] (fun i wr => i = .int .i64 0 ∧ wr = W) (fun _ _ => 0)
  case atStart => exact ⟨rfl, rfl⟩
  case round =>
    obtain ⟨rfl, rfl⟩ := hrel
    go_wp2_with fail
    go_loopw [73] (fun i w2 => i = .int .i64 0 ∧ w2 = wr) (fun _ _ => 0)
    case atStart => exact ⟨rfl, rfl⟩
    case round =>
      obtain ⟨rfl, rfl⟩ := hrel
      go_wp2_with fail
      go_loopw [85, 11] (fun i s w2 => i = .int .i64 0 ∧ s = .slice none 0 0 ∧ w2 = wr) (fun _ _ _ => 0)
      case atStart => exact ⟨rfl, rfl, rfl⟩
      case round =>
        obtain ⟨rfl, rfl, rfl⟩ := hrel
        go_wp2_with fail
        refine (part_nil _ _).mono ?_
        rintro e w2 ⟨b1, b2, rfl, h1, h2, hf2⟩
        have H1 : Hid (Emp w2 b1) := h1
        have H2 : Hid (Emp w2 b2) := h2
        have HF2 := Lib.hid (fcomp HF.out hf2)
        clear h1 h2 hf2 HF
        go_wp2_with (at_range; refine Stand.stop ?_)
        refine Stand.go ?_
        obtain ⟨b3, hb3⟩ : ∃ x, x = w2.heap.size := ⟨_, rfl⟩
        rw [← hb3]
        refine hideWorld _ (fun W => Emp W b1 ∧ Emp W b2 ∧ Emp W b3 ∧ Fresh w W) _ ⟨H1.out.fresh ((Fresh.rfl' _).alloc (Nat.le_refl _) _), H2.out.fresh ((Fresh.rfl' _).alloc (Nat.le_refl _) _), Emp.new hb3, HF2.out.alloc HF2.out.size _⟩ ?_
        rintro V4 ⟨kb1, kb2, kb3, hf⟩
        have K4b1 := Lib.hid kb1
        have K4b2 := Lib.hid kb2
        have K4b3 := Lib.hid kb3
        have HF4 := Lib.hid hf
        clear kb1 kb2 kb3 hf HF2 hb3
        try clear H1 H2
        refine wpList_range0 rfl (.tmp 103) 118 _ _ rfl Tryz.underlying118 b2 0 rfl K4b2.out ?_
        go_frame
        go_wp2_with fail
        refine hideWorld _ (fun W' => W'.heap[V4.heap.size]? = some (.mapIter (some b2) 0 #[] 0) ∧ W'.heap[b2]? = some (.map #[] 0) ∧ Fresh V4 W') _ (range_start K4b2.out) ?_
        rintro U4 ⟨hr, hb2, hf2⟩
        have G4b1 := Lib.hid (K4b1.out.fresh hf2)
        have G4b2 := Lib.hid (K4b2.out.fresh hf2)
        have G4b3 := Lib.hid (K4b3.out.fresh hf2)
        have HG4 := Lib.hid (fcomp HF4.out hf2)
        clear K4b1 K4b2 K4b3 hf2 HF4
        go_loopw [17] (fun _ wr => wr = U4) (fun _ _ => 0)
        case atStart => rfl
        case round =>
          obtain ⟨x4, hx4⟩ : ∃ x, x = wr := ⟨_, rfl⟩
          subst hrel
          go_wp2_with (first | (at_next; refine wpList_next0 rfl (.tmp 104) rfl _ _ 0 0 0 rfl hr hb2 ?_) | (at_range; refine Stand.stop ?_))
          refine Stand.go ?_
          obtain ⟨b4, hb4⟩ : ∃ x, x = wr.heap.size := ⟨_, rfl⟩
          rw [← hb4]
          refine hideWorld _ (fun W => Emp W b1 ∧ Emp W b2 ∧ Emp W b3 ∧ Emp W b4 ∧ Fresh w W) _ ⟨G4b1.out.fresh ((Fresh.rfl' _).alloc (Nat.le_refl _) _), G4b2.out.fresh ((Fresh.rfl' _).alloc (Nat.le_refl _) _), G4b3.out.fresh ((Fresh.rfl' _).alloc (Nat.le_refl _) _), Emp.new hb4, HG4.out.alloc HG4.out.size _⟩ ?_
          rintro V5 ⟨kb1, kb2, kb3, kb4, hf⟩
          have K5b1 := Lib.hid kb1
          have K5b2 := Lib.hid kb2
          have K5b3 := Lib.hid kb3
          have K5b4 := Lib.hid kb4
          have HF5 := Lib.hid hf
          clear kb1 kb2 kb3 kb4 hf HG4 hb4
          try clear G4b1 G4b2 G4b3
          refine wpList_range0 rfl (.tmp 119) 118 _ _ rfl Tryz.underlying118 b3 0 rfl K5b3.out ?_
          go_frame
          go_wp2_with fail
          refine hideWorld _ (fun W' => W'.heap[V5.heap.size]? = some (.mapIter (some b3) 0 #[] 0) ∧ W'.heap[b3]? = some (.map #[] 0) ∧ Fresh V5 W') _ (range_start K5b3.out) ?_
          rintro U5 ⟨hr, hb2, hf2⟩
          have G5b1 := Lib.hid (K5b1.out.fresh hf2)
          have G5b2 := Lib.hid (K5b2.out.fresh hf2)
          have G5b3 := Lib.hid (K5b3.out.fresh hf2)
          have G5b4 := Lib.hid (K5b4.out.fresh hf2)
          have HG5 := Lib.hid (fcomp HF5.out hf2)
          clear K5b1 K5b2 K5b3 K5b4 hf2 HF5
          go_loopw [19] (fun _ wr => wr = U5) (fun _ _ => 0)
          case atStart => rfl
          case round =>
            obtain ⟨x5, hx5⟩ : ∃ x, x = wr := ⟨_, rfl⟩
            subst hrel
            go_wp2_with (first | (at_next; refine wpList_next0 rfl (.tmp 120) rfl _ _ 0 0 0 rfl hr hb2 ?_) | (at_range; refine Stand.stop ?_))
            refine Stand.go ?_
            refine hideWorld _ (fun W => Emp W b1 ∧ Emp W b2 ∧ Emp W b3 ∧ Emp W b4 ∧ Fresh w W) _ ⟨G5b1.out, G5b2.out, G5b3.out, G5b4.out, HG5.out⟩ ?_
            rintro V6 ⟨kb1, kb2, kb3, kb4, hf⟩
            have K6b1 := Lib.hid kb1
            have K6b2 := Lib.hid kb2
            have K6b3 := Lib.hid kb3
            have K6b4 := Lib.hid kb4
            have HF6 := Lib.hid hf
            clear kb1 kb2 kb3 kb4 hf HG5
            try clear G5b1 G5b2 G5b3 G5b4
            refine wpList_range0 rfl (.tmp 130) 118 _ _ rfl Tryz.underlying118 b4 0 rfl K6b4.out ?_
            go_frame
            go_wp2_with fail
            refine hideWorld _ (fun W' => W'.heap[V6.heap.size]? = some (.mapIter (some b4) 0 #[] 0) ∧ W'.heap[b4]? = some (.map #[] 0) ∧ Fresh V6 W') _ (range_start K6b4.out) ?_
            rintro U6 ⟨hr, hb2, hf2⟩
            have G6b1 := Lib.hid (K6b1.out.fresh hf2)
            have G6b2 := Lib.hid (K6b2.out.fresh hf2)
            have G6b3 := Lib.hid (K6b3.out.fresh hf2)
            have G6b4 := Lib.hid (K6b4.out.fresh hf2)
            have HG6 := Lib.hid (fcomp HF6.out hf2)
            clear K6b1 K6b2 K6b3 K6b4 hf2 HF6
            go_loopw [20] (fun _ wr => wr = U6) (fun _ _ => 0)
            case atStart => rfl
            case round =>
              obtain ⟨x6, hx6⟩ : ∃ x, x = wr := ⟨_, rfl⟩
              subst hrel
              go_wp2_with (first | (at_next; refine wpList_next0 rfl (.tmp 131) rfl _ _ 0 0 0 rfl hr hb2 ?_) | (at_range; refine Stand.stop ?_))
              refine Stand.go ?_
              obtain ⟨b5, hb5⟩ : ∃ x, x = wr.heap.size := ⟨_, rfl⟩
              rw [← hb5]
              refine hideWorld _ (fun W => Emp W b1 ∧ Emp W b2 ∧ Emp W b3 ∧ Emp W b4 ∧ Emp W b5 ∧ Fresh w W) _ ⟨G6b1.out.fresh ((Fresh.rfl' _).alloc (Nat.le_refl _) _), G6b2.out.fresh ((Fresh.rfl' _).alloc (Nat.le_refl _) _), G6b3.out.fresh ((Fresh.rfl' _).alloc (Nat.le_refl _) _), G6b4.out.fresh ((Fresh.rfl' _).alloc (Nat.le_refl _) _), Emp.new hb5, HG6.out.alloc HG6.out.size _⟩ ?_
              rintro V7 ⟨kb1, kb2, kb3, kb4, kb5, hf⟩
              have K7b1 := Lib.hid kb1
              have K7b2 := Lib.hid kb2
              have K7b3 := Lib.hid kb3
              have K7b4 := Lib.hid kb4
              have K7b5 := Lib.hid kb5
              have HF7 := Lib.hid hf
              clear kb1 kb2 kb3 kb4 kb5 hf HG6 hb5
              try clear G6b1 G6b2 G6b3 G6b4
              refine wpList_range0 rfl (.tmp 142) 116 _ _ rfl Tryz.underlying116 b1 0 rfl K7b1.out ?_
              go_frame
              go_wp2_with fail
              refine hideWorld _ (fun W' => W'.heap[V7.heap.size]? = some (.mapIter (some b1) 0 #[] 0) ∧ W'.heap[b1]? = some (.map #[] 0) ∧ Fresh V7 W') _ (range_start K7b1.out) ?_
              rintro U7 ⟨hr, hb2, hf2⟩
              have G7b1 := Lib.hid (K7b1.out.fresh hf2)
              have G7b2 := Lib.hid (K7b2.out.fresh hf2)
              have G7b3 := Lib.hid (K7b3.out.fresh hf2)
              have G7b4 := Lib.hid (K7b4.out.fresh hf2)
              have G7b5 := Lib.hid (K7b5.out.fresh hf2)
              have HG7 := Lib.hid (fcomp HF7.out hf2)
              clear K7b1 K7b2 K7b3 K7b4 K7b5 hf2 HF7
              go_loopw [23] (fun _ wr => wr = U7) (fun _ _ => 0)
              case atStart => rfl
              case round =>
                obtain ⟨x7, hx7⟩ : ∃ x, x = wr := ⟨_, rfl⟩
                subst hrel
                go_wp2_with (first | (at_next; refine wpList_next0 rfl (.tmp 143) rfl _ _ 0 0 0 rfl hr hb2 ?_) | (at_range; refine Stand.stop ?_))
                refine (row_nil G7b3.out _).mono ?_
                rintro e w5 ⟨rfl, hf5⟩
                have J5b1 := Lib.hid (G7b1.out.fresh hf5)
                have J5b2 := Lib.hid (G7b2.out.fresh hf5)
                have J5b3 := Lib.hid (G7b3.out.fresh hf5)
                have J5b4 := Lib.hid (G7b4.out.fresh hf5)
                have J5b5 := Lib.hid (G7b5.out.fresh hf5)
                have HJ5 := Lib.hid (fcomp HG7.out hf5)
                clear hf5 HG7 G7b1 G7b2 G7b3 G7b4 G7b5
                go_wp2_with fail
                go_loopw [156] (fun i wr => i = .int .i64 0 ∧ wr = w5) (fun _ _ => 0)
                case atStart => exact ⟨rfl, rfl⟩
                case round =>
                  obtain ⟨rfl, hw⟩ := hrel
                  subst hw
                  have hlk := look_empty J5b5.out ⟨#[109, 46, 114, 111, 111, 109, 46, 112, 111, 119, 101, 114, 95, 108, 101, 118, 101, 108, 115]⟩ ⟨#[]⟩
                  go_wp2_with fail
                  refine (line_nil _ _).mono ?_
                  rintro e w6 ⟨rfl, rfl⟩
                  clear hlk
                  go_wp2_with fail
                  refine (rest_nil J5b2.out _ _).mono ?_
                  rintro e w7 ⟨rfl, hf7⟩
                  have J7b1 := Lib.hid (J5b1.out.fresh hf7)
                  have J7b2 := Lib.hid (J5b2.out.fresh hf7)
                  have J7b3 := Lib.hid (J5b3.out.fresh hf7)
                  have J7b4 := Lib.hid (J5b4.out.fresh hf7)
                  have J7b5 := Lib.hid (J5b5.out.fresh hf7)
                  have HJ7 := Lib.hid (fcomp HJ5.out hf7)
                  clear hf7 HJ5 J5b1 J5b2 J5b3 J5b4 J5b5
                  go_wp2_with fail
                  go_loopw [175] (fun i wr => i = .int .i64 0 ∧ wr = w7) (fun _ _ => 0)
                  case atStart => exact ⟨rfl, rfl⟩
                  case round =>
                    obtain ⟨rfl, hw⟩ := hrel
                    subst hw
                    go_wp2_with (at_range; refine Stand.stop ?_)
                    refine Stand.go ?_
                    refine hideWorld _ (fun W => Emp W b1 ∧ Emp W b2 ∧ Emp W b3 ∧ Emp W b4 ∧ Emp W b5 ∧ Fresh w W) _ ⟨J7b1.out, J7b2.out, J7b3.out, J7b4.out, J7b5.out, HJ7.out⟩ ?_
                    rintro V8 ⟨kb1, kb2, kb3, kb4, kb5, hf⟩
                    have K8b1 := Lib.hid kb1
                    have K8b2 := Lib.hid kb2
                    have K8b3 := Lib.hid kb3
                    have K8b4 := Lib.hid kb4
                    have K8b5 := Lib.hid kb5
                    have HF8 := Lib.hid hf
                    clear kb1 kb2 kb3 kb4 kb5 hf HJ7
                    try clear J7b1 J7b2 J7b3 J7b4 J7b5
                    refine wpList_range0 rfl (.tmp 184) 116 _ _ rfl Tryz.underlying116 b1 0 rfl K8b1.out ?_
                    go_frame
                    go_wp2_with fail
                    refine hideWorld _ (fun W' => W'.heap[V8.heap.size]? = some (.mapIter (some b1) 0 #[] 0) ∧ W'.heap[b1]? = some (.map #[] 0) ∧ Fresh V8 W') _ (range_start K8b1.out) ?_
                    rintro U8 ⟨hr, hb2, hf2⟩
                    have G8b1 := Lib.hid (K8b1.out.fresh hf2)
                    have G8b2 := Lib.hid (K8b2.out.fresh hf2)
                    have G8b3 := Lib.hid (K8b3.out.fresh hf2)
                    have G8b4 := Lib.hid (K8b4.out.fresh hf2)
                    have G8b5 := Lib.hid (K8b5.out.fresh hf2)
                    have HG8 := Lib.hid (fcomp HF8.out hf2)
                    clear K8b1 K8b2 K8b3 K8b4 K8b5 hf2 HF8
                    go_loopw [29] (fun _ wr => wr = U8) (fun _ _ => 0)
                    case atStart => rfl
                    case round =>
                      obtain ⟨x8, hx8⟩ : ∃ x, x = wr := ⟨_, rfl⟩
                      subst hrel
                      go_wp2_with (first | (at_next; refine wpList_next0 rfl (.tmp 185) rfl _ _ 0 0 0 rfl hr hb2 ?_) | (at_range; refine Stand.stop ?_))
                      refine (told_nil G8b5.out).mono ?_
                      rintro e w8 ⟨rfl, hf8⟩
                      have HJ8 := Lib.hid (fcomp HG8.out hf8)
                      clear hf8
                      go_wp2_with fail
                      go_ret
                      exact ⟨rfl, HJ8.out⟩

theorem own_len {w : World} {base e size n : Nat} {v : SV} {cs : List Value} (h : w.ownsRow base e size (sv v) n cs) : v.n = n := by
  rcases h.2 with ⟨h1, h2⟩ | ⟨g, cap, cur, h1, _⟩
  · simp only [sv, Value.slice.injEq] at h1
    rw [h1.2.1, h2]
  · simp only [sv, Value.slice.injEq] at h1
    exact h1.2.1
theorem en_nil (w : World) (col : Col) : EnSl w col .nil [] := ⟨rfl, by simp, .inl ⟨rfl, rfl⟩⟩
set_option maxRecDepth 10000 in
/-- resolve, where nothing is ahead and nothing is marked. -/
theorem resolve_nil {w : World} {col : Col} {k R : Nat} {r : Rm} (h : RmIs w col k R r) (he : r.evs = []) (hr : r.rejected = []) :
    Calls Tryz.prog 42 #[.pointer (some ⟨R, 0, none⟩), .slice none 0 0] w (ResPost col [] w) := by
  have h1 := own_len h.rest.ev.row
  have h2 := own_len h.rest.rj.row
  rw [he] at h1
  rw [hr] at h2
  have c4 : w.cell? ⟨R, 4, none⟩ = some (.slice r.ev.a 0 r.ev.c) := by have := h.c4; rw [h1] at this; exact this
  have c5 : w.cell? ⟨R, 5, none⟩ = some (.slice r.rj.a 0 r.rj.c) := by have := h.c5; rw [h2] at this; exact this
  clear h1 h2 he hr h
  go_enter Tryz.func42, Tryz.ntmps42
  go_wp2_with fail
  refine wp_region_still_tail 9 (by kernel_rfl) (by kernel_rfl) ?_
  simp only [List.take_succ_cons, List.take_zero, List.drop_succ_cons, List.drop_zero]
  iterate 9 still_step
  refine wpStill_nil ?_
  go_wp2_with fail
  refine (Resolve_nil _ _ _ _ _).mono ?_
  rintro e w2 ⟨rfl, hf⟩
  have HF := Lib.hid hf.ofDrew
  clear hf
  go_wp2_with fail
  go_ret
  exact ⟨.nil, rfl, en_nil _ _, HF.out⟩
end Go.Proofs.YtmjclmmiljlahaaGreat

set_option linter.unusedVariables false
set_option linter.unusedSimpArgs false
namespace Go.Proofs.YtmjclmmiljlahaaGreat
open Go.RowKit

theorem setCells_row {g : Nat} {t : TypeId} {fr : Nat × Nat} : ∀ (vs : List Value) (o : Nat) (w : World) (cur : Array Value), w.heap[g]? = some (.cells cur t fr) → o + vs.length ≤ cur.size →
    ∃ cur', (w.setCells g o vs).heap[g]? = some (.cells cur' t fr) ∧ cur'.toList = cur.toList.take o ++ vs ++ cur.toList.drop (o + vs.length)
  | [], o, w, cur, h, hl => ⟨cur, h, by simp⟩
  | v :: r, o, w, cur, h, hl => by
    have hlt : o < cur.size := by simp at hl; omega
    obtain ⟨cur', h1, h2⟩ := setCells_row r (o + 1) (w.setCell ⟨g, o, none⟩ v) (cur.setIfInBounds o v) (setCell_row h) (by simp at hl ⊢; omega)
    refine ⟨cur', h1, ?_⟩
    rw [h2, Array.toList_setIfInBounds, List.set_eq_take_append_cons_drop, if_pos (by simpa using hlt)]
    have e1 : (cur.toList.take o ++ v :: cur.toList.drop (o + 1)).take (o + 1) = cur.toList.take o ++ [v] := by
      rw [List.take_append, List.length_take, Nat.min_eq_left (by simp; omega), List.take_of_length_le (by simp; omega)]
      simp
    have e2 : (cur.toList.take o ++ v :: cur.toList.drop (o + 1)).drop (o + 1 + r.length) = cur.toList.drop (o + (v :: r).length) := by
      rw [List.drop_append, List.length_take, Nat.min_eq_left (by simp; omega), List.drop_of_length_le (by simp; omega)]
      rw [show o + 1 + r.length - o = r.length + 1 by omega, List.drop_succ_cons, List.drop_drop]
      simp; congr 1; omega
    rw [e1, e2]; simp

theorem str_eta (s : ByteArray) : (⟨s.data.toList.toArray⟩ : ByteArray) = s := by cases s; simp

/-- slices.Delete of one element of a row of the room's own. -/
theorem delete_one {w : World} {col : Col} {c : Nat} {v : SV} {l : List ByteArray} (h : OwnC w col c 9 1 v l.length (l.map Value.string)) (i : Nat) (hi : i < l.length) :
    Calls Tryz.prog 30 #[sv v, .int .i64 i, .int .i64 (i + 1 : Nat)] w fun e w' => ∃ v' : SV, e = .returned (sv v') ∧ (sv v').ownBlock = (sv v).ownBlock ∧ OwnC w' col c 9 1 v' (l.eraseIdx i).length ((l.eraseIdx i).map Value.string) ∧ Keep w col w' col (fun x => x ≠ c) := by
  rcases h.row.2 with ⟨_, h2⟩ | ⟨g, cap, cur, hv, hg, hh, hnc, hcm, hs, ht⟩
  · omega
  have hrow := h.row
  rw [hv] at hrow
  have hcl : col g = c := h.cl g (by rw [hv]; rfl)
  have hcell : ∀ j, j < l.length → w.cell? ⟨g, 0 + j, none⟩ = some (.string (l.getD j ⟨#[]⟩)) := fun j hj => by
    rw [Nat.zero_add, World.ownsRow.cellAt hrow j (by omega)]
    simp [hj]
  have hfz : ∀ j, j < l.length → w.frozen? ⟨g, 0 + j, none⟩ = false := fun j _ => by simp [World.frozen?, hh]
  have hc := Tryz.slices_Delete_string_cells g 0 l.length cap i (i + 1) (fun j => l.getD j ⟨#[]⟩) w hnc (by unfold maxLen at hcm; omega) (by omega) (by omega) hcell hfz
  rw [hv]
  refine hc.mono ?_
  rintro e w' ⟨rfl, q, rfl⟩
  have hso : Go.Lib.strsOf (fun j => l.getD j ⟨#[]⟩) l.length = l.map fun s => s.data.toList := by
    unfold Go.Lib.strsOf
    apply List.ext_getElem?
    intro j
    simp only [List.getElem?_map, List.getElem?_range]
    by_cases hj : j < l.length
    · simp [hj]
    · simp [hj]
  have hvs : ((Go.Lib.strsOf (fun j => l.getD j ⟨#[]⟩) l.length).take i ++ (Go.Lib.strsOf (fun j => l.getD j ⟨#[]⟩) l.length).drop (i + 1) ++ List.replicate (i + 1 - i) []).map encStr = (l.eraseIdx i).map Value.string ++ [.string ⟨#[]⟩] := by
    rw [hso, List.eraseIdx_eq_take_drop_succ, show i + 1 - i = 1 by omega]
    simp [encStr, Function.comp_def, List.map_take, List.map_drop]
  rw [hvs]
  have hel : (l.eraseIdx i).length = l.length - 1 := List.length_eraseIdx_of_lt hi
  have hsz : 0 + ((l.eraseIdx i).map Value.string ++ [Value.string ⟨#[]⟩]).length ≤ cur.size := by
    simp [hel]; omega
  obtain ⟨cur', h1, h2⟩ := setCells_row _ 0 (w.drewN q) cur hh hsz
  refine ⟨⟨some ⟨g, 0, none⟩, l.length - 1, cap⟩, by rw [show l.length - (i + 1 - i) = l.length - 1 by omega], rfl, ⟨?_, fun b hb => ?_⟩, ⟨?_, fun b hb hne => ?_, fun _ _ => rfl, ?_⟩⟩
  · refine ⟨by simp, .inr ⟨g, cap, cur', by rw [hel], Nat.zero_le _, h1, by omega, hcm, ?_, ?_⟩⟩
    · have := congrArg List.length h2
      simp [hel] at this
      omega
    · rw [h2]
      simp only [List.take_zero, List.nil_append, Nat.mul_one]
      rw [List.append_assoc, List.take_append_of_le_length (by simp), List.take_of_length_le (by simp)]
  · have : b = g := (Option.some.inj hb).symm
    rw [this]; exact hcl
  · rw [setCells_size]; exact Nat.le_refl _
  · rw [heap_setCells (fun e => hne (by rw [e]; exact hcl))]; rfl
  · have := setCells_os g ((l.eraseIdx i).map Value.string ++ [.string ⟨#[]⟩]) 0 (w.drewN q)
    exact ⟨this.1, this.2.1, this.2.2⟩
end Go.Proofs.YtmjclmmiljlahaaGreat

set_option linter.unusedVariables false
set_option linter.unusedSimpArgs false
namespace Go.Proofs.YtmjclmmiljlahaaGreat
open Go.RowKit

/-- What judge leaves, in whatever world. -/
def JudgeD (d : RmD) (id : ByteArray) (d' : RmD) : Prop :=
  ∀ (w : World) (col : Col) (k R : Nat) (r : Rm) (n : Nd), RmIs w col k R r → Std w col → r.d = d → n ∈ r.ns → n.id = id →
    Calls Tryz.prog 27 #[.pointer (some ⟨R, 0, none⟩), .pointer (some ⟨n.blk, 0, none⟩)] w fun x w' => x = .returned (.tuple #[]) ∧
      ∃ col' r', JSt w col k R w' col' r' ∧ r'.ns.map nkey = r.ns.map nkey ∧ r'.d = d'

theorem find_data {w : World} {col : Col} {k R : Nat} {r : Rm} (h : RmIs w col k R r) {d : RmD} (hd : r.d = d) {n : Nd} (hn : n ∈ r.ns) {id : ByteArray} (hi : n.id = id) {x : NdD} (hx : d.find id = some x) : x = n.d := by
  have h1 := find_mem_of h hn
  rw [hi] at h1
  rw [← hd, find_d, h1] at hx
  exact (Option.some.inj hx).symm

theorem judgeD_of {d : RmD} {id : ByteArray} {x : NdD} (hx : d.find id = some x) (bl : List En)
    (hpv : (x.e.prev = [] ∧ d.evs = [] ∧ d.rejected = [] ∧ bl = []) ∨ ∃ p np, x.e.prev = [p] ∧ d.find p = some np ∧ np.al = bl)
    (m : Int) (hm : m = 2 ∨ m = 4) (d2 : RmD) (hmark : MarkD (d.setNd ⟨x.e, x.mark, bl, x.al⟩) id m d2)
    (hput : x.e.hk = true → m ≠ 4 → bl = [] ∨ ∃ y, bl = [y] ∧ Op.bytesLess y.ty.toList x.e.ty.toList = true)
    (hd2 : d2.order.length < 4096 ∧ d2.evs.length < 4096 ∧ d2.rejected.length < 4096) :
    JudgeD d id ((d2.setNd ⟨x.e, m, bl, afterF x.e m bl⟩).close x.e m) := by
  intro w col k R r n h hcol hd hn hi
  have hxn := find_data h hd hn hi hx
  subst hxn
  subst hd
  subst hi
  refine judge_any h hcol n hn bl ?_ m hm d2 hmark hput hd2
  rcases hpv with ⟨h1, h2, h3, rfl⟩ | ⟨p, np, h1, h2, h3⟩
  · refine .inl ⟨h1, fun W hW => resolve_nil (h.fresh hW) ?_ h3⟩
    have : r.evs.map EV.d = [] := h2
    simpa using this
  · obtain ⟨nn, h4, rfl⟩ := find_of h2
    exact .inr ⟨p, nn, h1, h4, h3⟩

theorem markD_reject {d : RmD} {id : ByteArray} {x : NdD} (hx : d.find id = some x) (ha : ∀ i ∈ x.e.auth, ∃ y, d.find i = some y ∧ y.mark ≠ 4) (c : Int) (hc : CheckD x.e (d.auths x.e.auth) c) (hc0 : c ≠ 0) :
    MarkD d id 4 d := by
  intro w col k R r n h hcol hd hn hi
  have hxn := find_data h hd hn hi hx
  subst hxn
  subst hd
  refine (mark_reject h hcol n hn ha c hc hc0).mono ?_
  rintro y w' ⟨rfl, hf⟩
  exact ⟨rfl, r, h.fresh hf, rfl, rfl, hcol.fresh hf, Keep.ofFresh hf⟩
theorem markD_first {d : RmD} {id : ByteArray} {x : NdD} (hx : d.find id = some x) (ha : ∀ i ∈ x.e.auth, ∃ y, d.find i = some y ∧ y.mark ≠ 4) (hc : CheckD x.e (d.auths x.e.auth) 0)
    (hbf : ∀ y ∈ x.bl, (d.find y.id).isSome = true) (hc2 : CheckD x.e (d.byF x.bl (selectF x.e)) 0) (hp : x.e.prev = []) : MarkD d id 2 d := by
  intro w col k R r n h hcol hd hn hi
  have hxn := find_data h hd hn hi hx
  subst hxn
  subst hd
  refine (mark_first h hcol n hn ha hc (fun y hy => by have := hbf y hy; rw [find_d] at this; simpa using this) hc2 hp).mono ?_
  rintro y w' ⟨rfl, hf⟩
  exact ⟨rfl, r, h.fresh hf, rfl, rfl, hcol.fresh hf, Keep.ofFresh hf⟩
theorem markD_next {d : RmD} {id : ByteArray} {x : NdD} (hx : d.find id = some x) (ha : ∀ i ∈ x.e.auth, ∃ y, d.find i = some y ∧ y.mark ≠ 4) (hc : CheckD x.e (d.auths x.e.auth) 0)
    (hbf : ∀ y ∈ x.bl, (d.find y.id).isSome = true) (hc2 : CheckD x.e (d.byF x.bl (selectF x.e)) 0) (hp : x.e.prev ≠ []) (hone : d.oneEnd) (hcf : ∀ y ∈ d.cur, (d.find y.id).isSome = true) (hc3 : CheckD x.e (d.byF d.cur (selectF x.e)) 0) :
    MarkD d id 2 { d with now := d.cur, stale := false } := by
  intro w col k R r n h hcol hd hn hi
  have hxn := find_data h hd hn hi hx
  subst hxn
  subst hd
  exact mark_next h hcol n hn ha hc (fun y hy => by have := hbf y hy; rw [find_d] at this; simpa using this) hc2 hp hone (fun y hy => by have := hcf y hy; rw [find_d] at this; simpa using this) hc3

/-! ### A node more. -/
abbrev nodesKV (r : Rm) : List (ByteArray × Value) := r.ns.map fun n => (n.id, Value.pointer (some ⟨n.blk, 0, none⟩))
theorem putKV_new {r : Rm} {n : Nd} (h : r.find n.id = none) : putKV (nodesKV r) n.id (.pointer (some ⟨n.blk, 0, none⟩)) = nodesKV { r with ns := r.ns ++ [n] } := by
  have hp : posOf n.id ((nodesKV r).map (·.1)) = none := by
    rw [posOf_none]
    intro hm
    rw [List.map_map] at hm
    obtain ⟨x, hx, he⟩ := List.mem_map.1 hm
    unfold Rm.find at h
    have := List.find?_eq_none.1 h x hx
    simp at this
    exact this he
  unfold putKV
  rw [hp]
  simp [nodesKV]
theorem RmIs.addNd {w : World} {col : Col} {k R : Nat} {r : Rm} (h : RmIs w col k R r) (n : Nd) (hn : NdIs w col k n) (hnew : ∀ x ∈ r.ns, x.blk ≠ n.blk) (hf : r.find n.id = none) (hl : r.ns.length < 4096) (o : Obj)
    (hm : MapIs Value.string (World.setObj' w r.nm o) r.nm (putKV (nodesKV r) n.id (.pointer (some ⟨n.blk, 0, none⟩)))) :
    RmIs (World.setObj' w r.nm o) col k R { r with ns := r.ns ++ [n] } ∧ Keep w col (World.setObj' w r.nm o) col (fun c => c ≠ k + 2) := by
  have hk : Keep w col (World.setObj' w r.nm o) col (fun c => c ≠ k + 2) := by
    have := keep_setObj (w := w) (col := col) (g := r.nm) (o := o)
    rw [h.rest.cn] at this; exact this
  have hr := h.rest
  have hmv := hk.move (by omega)
  rw [putKV_new hf] at hm
  refine ⟨⟨(hk.block R h.lt (by rw [h.cR]; omega)).trans h.box, h.cR, ?_⟩, hk⟩
  exact { nodes := hm, cn := hr.cn, ends := hr.ends.block (hk.block _ hr.ends.lt (by rw [hr.ce]; omega)), ce := hr.ce,
          nd := fun x hx => by
            rcases List.mem_append.1 hx with hx | hx
            · exact (hr.nd x hx).keep hk (by omega) (by omega)
            · rw [List.mem_singleton.1 hx]; exact hn.keep hk (by omega) (by omega)
          blks := by
            rw [List.map_append]
            refine List.nodup_append.2 ⟨hr.blks, by simp, ?_⟩
            intro a ha c hc e
            obtain ⟨x, hx, rfl⟩ := List.mem_map.1 ha
            simp at hc
            exact hnew x hx (e.trans hc)
          st := hr.st.keep hk (by omega), od := hr.od.keep hk (by omega), ev := hr.ev.keep hk (by omega), rj := hr.rj.keep hk (by omega), evis := fun e he => (hr.evis e he).move hmv, now := hr.now.move hmv,
          small := ⟨by simp; omega, hr.small.2⟩ }
/-- The block of a new node, in its colour. -/
theorem RmIs.newNd {w : World} {col : Col} {k R : Nat} {r : Rm} (h : RmIs w col k R r) (hcol : Std w col) (e : EV) (he : EvIs w col e) :
    ∃ col', RmIs (w.alloc (.cells (Nd.cells ⟨w.heap.size, e, 1, .nil, [], .nil, []⟩) 67)) col' k R r ∧ Std (w.alloc (.cells (Nd.cells ⟨w.heap.size, e, 1, .nil, [], .nil, []⟩) 67)) col' ∧
      NdIs (w.alloc (.cells (Nd.cells ⟨w.heap.size, e, 1, .nil, [], .nil, []⟩) 67)) col' k ⟨w.heap.size, e, 1, .nil, [], .nil, []⟩ ∧
      Keep w col (w.alloc (.cells (Nd.cells ⟨w.heap.size, e, 1, .nil, [], .nil, []⟩) 67)) col' (fun _ => True) := by
  have hf : Fresh w (w.alloc (.cells (Nd.cells ⟨w.heap.size, e, 1, .nil, [], .nil, []⟩) 67)) := (Fresh.rfl' w).alloc (Nat.le_refl _) _
  have hk : Keep w col (w.alloc (.cells (Nd.cells ⟨w.heap.size, e, 1, .nil, [], .nil, []⟩) 67)) (upd col w.heap.size (k + 4)) (fun _ => True) :=
    ⟨hf.size, fun b hb _ => hf.blocks b hb, fun b hb => upd_other _ _ (by omega), hf.os, hf.tape, hf.output⟩
  exact ⟨upd col w.heap.size (k + 4), h.keep hk (fun _ _ => trivial), (hcol.fresh hf).upd (by simp) (by have := hcol.pos; omega),
    ⟨heap_alloc_new _ _, upd_same _ _ _, he.move (hk.move trivial), en_nil _ _, en_nil _ _⟩, hk⟩
end Go.Proofs.YtmjclmmiljlahaaGreat

set_option linter.unusedVariables false
set_option linter.unusedSimpArgs false
namespace Go.Proofs.YtmjclmmiljlahaaGreat
open Go.RowKit

theorem wpList_len_map {κ : Type} {K : κ → Value} {w : World} {b : Nat} {kvs : List (κ × Value)} {ops : Array Oper} {rest : List Oper} {o : Oper} {a : Act} {Q : Exit → Act → World → Prop} (hgd : o.guard = none) (x : Operand) (t kt et : TypeId)
    (ho : o.op = .call { callee := .builtin .len, args := #[x], argTypes := #[t] }) (ht : Tryz.prog.underlying t = some (.map kt et)) (hx : a.eval x = .map (some b))
    (h : MapIs K w b kvs) (N : Nat) (hN : kvs.length = N) (hk : wpList Tryz.prog ops Q rest (a.put o.dst (.int .i64 N)) w) : wpList Tryz.prog ops Q (o :: rest) a w := by
  refine wpList_plain hgd fun K' hK => ?_
  have hr := run_len_map (ty := o.type) ht h
  rw [hN] at hr
  unfold Oper.wp
  simp [execOp, ho, resolve, invoke, builtin, hx, hr, Result.andThen]
  exact hK _ _ hk

theorem build67 (e : EV) (m : Int) (w : World) : (Instr.build 67 #[(0, .agg e.cells), (1, .int .i64 m)]).run Tryz.prog w = .ok (.agg (Nd.cells ⟨0, e, m, .nil, [], .nil, []⟩)) w := by kernel_rfl
theorem box67 (e : EV) (m : Int) (w : World) : (Instr.box 67 (.agg (Nd.cells ⟨0, e, m, .nil, [], .nil, []⟩))).run Tryz.prog w = .ok (.pointer (some ⟨w.heap.size, 0, none⟩)) (w.alloc (.cells (Nd.cells ⟨0, e, m, .nil, [], .nil, []⟩) 67)) := by kernel_rfl

theorem wpList_build67 {ops : Array Oper} {rest : List Oper} {o : Oper} {a : Act} {Q : Exit → Act → World → Prop} {w : World} (hgd : o.guard = none) (x : Operand) (m : Int) (ho : o.op = .build 67 #[(0, x), (1, .const (.int .i64 m))])
    (e : EV) (hx : a.eval x = .agg e.cells) (h : wpList Tryz.prog ops Q rest (a.put o.dst (.agg (Nd.cells ⟨0, e, m, .nil, [], .nil, []⟩))) w) : wpList Tryz.prog ops Q (o :: rest) a w :=
  wpList_plain hgd fun K hK => by
    have hb := build67 e m w
    have hr : (execOp a.eval o).run Tryz.prog w = .ok (.value (.agg (Nd.cells ⟨0, e, m, .nil, [], .nil, []⟩))) w := by
      unfold execOp
      simp only [ho]
      have hp : (#[((0 : Nat), x), (1, .const (.int .i64 m))] : Array (Nat × Operand)).map (fun p => (p.1, a.eval p.2)) = #[(0, .agg e.cells), (1, .int .i64 m)] := by
        simp only [List.map_toArray, List.map_cons, List.map_nil, hx]; rfl
      simp only [Sem.run_bind, hp, hb, Result.andThen_ok]
      rfl
    unfold Oper.wp
    rw [hr]
    exact hK _ _ h
theorem wpList_box67 {ops : Array Oper} {rest : List Oper} {o : Oper} {a : Act} {Q : Exit → Act → World → Prop} {w : World} (hgd : o.guard = none) (x : Operand) (ho : o.op = .box 67 x)
    (e : EV) (m : Int) (hx : a.eval x = .agg (Nd.cells ⟨0, e, m, .nil, [], .nil, []⟩)) (h : wpList Tryz.prog ops Q rest (a.put o.dst (.pointer (some ⟨w.heap.size, 0, none⟩))) (w.alloc (.cells (Nd.cells ⟨0, e, m, .nil, [], .nil, []⟩) 67))) : wpList Tryz.prog ops Q (o :: rest) a w :=
  wpList_plain hgd fun K hK => by
    have hb := box67 e m w
    have hr : (execOp a.eval o).run Tryz.prog w = .ok (.value (.pointer (some ⟨w.heap.size, 0, none⟩))) (w.alloc (.cells (Nd.cells ⟨0, e, m, .nil, [], .nil, []⟩) 67)) := by
      unfold execOp
      simp only [ho, hx, Sem.run_bind, hb, Result.andThen_ok]
      rfl
    unfold Oper.wp
    rw [hr]
    exact hK _ _ h
end Go.Proofs.YtmjclmmiljlahaaGreat
