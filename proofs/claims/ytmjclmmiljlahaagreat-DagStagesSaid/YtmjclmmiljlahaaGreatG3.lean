/-
  Parts of a proof: values, events, a room. No condition.
-/
import Derived.Test.YtmjclmmiljlahaaGreatG2
import Derived.Deep.MidRow
import Derived.Deep.RegionLaw
import Derived.Deep.DeepCutAuto
import Derived.Deep.CutRange
import Derived.StillTailTactics
import Derived.Shelf.SlIter.Nil
import Derived.Shelf.SortM.Plain
import Derived.Shelf.SortM.SortNone
import Derived.Ground.GgzProg
import Derived.Ground.SlgmProg
set_option linter.unusedVariables false
set_option linter.unusedSimpArgs false
namespace Go.Proofs.YtmjclmmiljlahaaGreat
open Go.RowKit

/-- What reads blocks of colour 0 in the first world reads the same in the second. -/
structure Move (w : World) (col : Col) (w' : World) (col' : Col) : Prop where
  size : w.heap.size ≤ w'.heap.size
  block : ∀ b, b < w.heap.size → col b = 0 → w'.heap[b]? = w.heap[b]?
  color : ∀ b, b < w.heap.size → col b = 0 → col' b = 0
theorem cell_of_block {w w' : World} {b : Nat} (h : w'.heap[b]? = w.heap[b]?) (o : Nat) : w'.cell? ⟨b, o, none⟩ = w.cell? ⟨b, o, none⟩ := by
  simp only [World.cell?, h]
theorem frozen_of_block {w w' : World} {b : Nat} (h : w'.heap[b]? = w.heap[b]?) (o : Nat) : w'.frozen? ⟨b, o, none⟩ = w.frozen? ⟨b, o, none⟩ := by
  simp only [World.frozen?, h]
theorem Move.ofFresh {w w' : World} {col : Col} (h : Fresh w w') : Move w col w' col := ⟨h.size, fun b hb _ => h.blocks b hb, fun _ _ h => h⟩
theorem Move.refl (w : World) (col : Col) : Move w col w col := .ofFresh (Fresh.rfl' w)
theorem Move.trans {w1 w2 w3 : World} {c1 c2 c3 : Col} (h : Move w1 c1 w2 c2) (k : Move w2 c2 w3 c3) : Move w1 c1 w3 c3 :=
  ⟨Nat.le_trans h.size k.size, fun b hb hc => (k.block b (Nat.lt_of_lt_of_le hb h.size) (h.color b hb hc)).trans (h.block b hb hc),
    fun b hb hc => k.color b (Nat.lt_of_lt_of_le hb h.size) (h.color b hb hc)⟩
theorem Move.recol {w : World} {col col' : Col} (h : ∀ b, b < w.heap.size → col b = 0 → col' b = 0) : Move w col w col' := ⟨Nat.le_refl _, fun _ _ _ => rfl, h⟩

section
variable {w w' : World} {col col' : Col}
theorem Sl.move {size n : Nat} {v : Value} {cs : List Value} (h : Sl w col size v n cs) (hm : Move w col w' col') : Sl w' col' size v n cs := by
  obtain ⟨h1, h2, h3⟩ := h
  refine ⟨h1, h2, ?_⟩
  rcases h3 with h3 | ⟨b, off, cap, rfl, hl, hc, hb, hz, hj⟩
  · exact .inl h3
  · exact .inr ⟨b, off, cap, rfl, hl, hc, Nat.lt_of_lt_of_le hb hm.size, hm.color b hb hz, fun j hj' => by rw [cell_of_block (hm.block b hb hz)]; exact hj j hj'⟩
theorem StrSl.move {v : Value} {l : List ByteArray} (h : StrSl w col v l) (hm : Move w col w' col') : StrSl w' col' v l := Sl.move h hm
theorem EnSl.move {v : SV} {l : List En} (h : EnSl w col v l) (hm : Move w col w' col') : EnSl w' col' v l := Sl.move h hm
theorem JVIs.move {v : JV} {a b : SV} (h : JVIs w col v a b) (hm : Move w col w' col') : JVIs w' col' v a b := by
  induction h with
  | mk A B ha hb _ _ ih1 ih2 => exact .mk A B (ha.move hm) (hb.move hm) ih1 ih2
theorem EvIs.move {e : EV} (h : EvIs w col e) (hm : Move w col w' col') : EvIs w' col' e :=
  ⟨h.prev.move hm, h.auth.move hm, h.content.move hm, h.raw.move hm, h.small⟩
end

/-- Block b in colour k. -/
def upd (col : Col) (b k : Nat) : Col := fun c => if c = b then k else col c
theorem upd_same (col : Col) (b k : Nat) : upd col b k b = k := by simp [upd]
theorem upd_other (col : Col) {b c : Nat} (k : Nat) (h : c ≠ b) : upd col b k c = col c := by simp [upd, h]
theorem Std.upd {w : World} {col : Col} {b k : Nat} (h : Std w col) (hb : b < w.heap.size) (h0 : b ≠ 0) : Std w (upd col b k) :=
  ⟨fun c hc => by rw [upd_other _ _ (by omega)]; exact h.ok c hc, h.max, by rw [upd_other _ _ (Ne.symm h0)]; exact h.c0⟩
theorem Std.pos {w : World} {col : Col} (h : Std w col) : 0 < w.heap.size := by
  obtain ⟨m, hm⟩ := h.max
  exact World.block_lt_of_cell? w _ hm

theorem setCell_block {w : World} {g o : Nat} {v : Value} {b : Nat} (hb : b ≠ g) : (w.setCell ⟨g, o, none⟩ v).heap[b]? = w.heap[b]? := by
  unfold World.setCell; split <;> simp [Array.getElem?_setIfInBounds, Array.getElem?_modify, Ne.symm hb]
theorem setCell_hsize {w : World} {g o : Nat} {v : Value} : (w.setCell ⟨g, o, none⟩ v).heap.size = w.heap.size := by
  unfold World.setCell; split <;> simp
theorem setCells_size {g : Nat} : ∀ {vs : List Value} {o : Nat} {w : World}, (w.setCells g o vs).heap.size = w.heap.size
  | [], _, _ => rfl
  | v :: r, o, w => by rw [World.setCells, setCells_size, setCell_hsize]
theorem heap_setCells {g : Nat} {b : Nat} (hb : b ≠ g) : ∀ {vs : List Value} {o : Nat} {w : World}, (w.setCells g o vs).heap[b]? = w.heap[b]?
  | [], _, _ => rfl
  | v :: r, o, w => by rw [World.setCells, heap_setCells hb, setCell_block hb]
/-- A row of a call's own, cell by cell. -/
structure RowAt (w : World) (g size n : Nat) (f : Nat → List Value) : Prop where
  cell : ∀ k, k < n → ∀ j, j < size → w.cell? ⟨g, k * size + j, none⟩ = (f k)[j]?
  there : w.there g 0 (n * size)
  lt : g < w.heap.size

theorem RowAt.keep {w w' : World} {g size n : Nat} {f : Nat → List Value} (h : RowAt w g size n f) (hb : w'.heap[g]? = w.heap[g]?) (hs : w.heap.size ≤ w'.heap.size) : RowAt w' g size n f :=
  ⟨fun k hk j hj => by rw [cell_of_block hb]; exact h.cell k hk j hj, fun j hj => by rw [cell_of_block hb, frozen_of_block hb]; exact h.there j hj, Nat.lt_of_lt_of_le h.lt hs⟩
theorem RowAt.fresh {w w' : World} {g size n : Nat} {f : Nat → List Value} (h : RowAt w g size n f) (hf : Fresh w w') : RowAt w' g size n f := h.keep (hf.blocks g h.lt) hf.size
theorem RowAt.part {w : World} {g size n : Nat} {f : Nat → List Value} (h : RowAt w g size n f) {k : Nat} (hk : k < n) (j m : Nat) (hj : j + m ≤ size) : w.there g (k * size + j) m := fun i hi => by
  have hlt : k * size + size ≤ n * size := by
    have := Nat.mul_le_mul_right size (show k + 1 ≤ n by omega)
    rw [Nat.add_mul] at this; omega
  have := h.there (k * size + j + i) (by omega)
  rw [Nat.zero_add] at this; exact this

theorem mul_apart {a b size j i : Nat} (h : a ≠ b) (hj : j < size) (hi : i < size) : a * size + j ≠ b * size + i := by
  intro e
  rcases Nat.lt_or_ge a b with h1 | h1
  · have := Nat.mul_le_mul_right size (show a + 1 ≤ b by omega)
    rw [Nat.add_mul] at this; omega
  · have := Nat.mul_le_mul_right size (show b + 1 ≤ a by omega)
    rw [Nat.add_mul] at this; omega

/-- A store within a row: from cell o of element k on. -/
theorem RowAt.set {w : World} {g size n : Nat} {f : Nat → List Value} (h : RowAt w g size n f) {k o : Nat} (hk : k < n) (vs : List Value) (ho : o + vs.length ≤ size) :
    RowAt (w.setCells g (k * size + o) vs) g size n (fun i => if i = k then (f k).take o ++ vs ++ (f k).drop (o + vs.length) else f i) := by
  have hth := h.part hk o vs.length ho
  refine ⟨fun i hi j hj => ?_, World.there_setCells h.there _ _ _, by rw [setCells_size]; exact h.lt⟩
  by_cases e : i = k
  · subst e
    simp only [if_true]
    have hfl : ∀ x, x < size → ((f i)[x]?).isSome = true := fun x hx => by
      rw [← h.cell i hi x hx]
      have := (h.part hi 0 size (by omega) x hx).1
      simpa using this
    have hlen : size ≤ (f i).length := by
      rcases Nat.lt_or_ge (f i).length size with h1 | h1
      · have := hfl _ h1
        simp at this
      · exact h1
    by_cases h1 : j < o
    · rw [World.cell?_setCells_out g vs _ w _ (fun _ _ => .inl (by simp; omega)), h.cell i hi j hj, List.append_assoc, List.getElem?_append_left (by simp; omega), List.getElem?_take_of_lt h1]
    · by_cases h2 : j < o + vs.length
      · obtain ⟨x, rfl⟩ : ∃ x, j = o + x := ⟨j - o, by omega⟩
        rw [← Nat.add_assoc, World.cell?_setCells_in g vs _ w (fun y hy => (hth y hy).1) x (by omega), List.append_assoc, List.getElem?_append_right (by simp; omega), List.getElem?_append_left (by simp; omega)]
        simp [Nat.min_eq_left (show o ≤ (f i).length by omega)]
      · rw [World.cell?_setCells_out g vs _ w _ (fun _ _ => .inr (by simp; omega)), h.cell i hi j hj, List.getElem?_append_right (by simp; omega)]
        simp only [List.length_append, List.length_take, List.getElem?_drop]
        congr 1
        omega
  · simp only [e, if_false]
    rw [World.cell?_setCells_out g vs _ w _ (fun _ _ => ?_)]
    · exact h.cell i hi j hj
    · rcases Nat.lt_or_ge i k with h1 | h1
      · left
        have := Nat.mul_le_mul_right size (show i + 1 ≤ k by omega)
        rw [Nat.add_mul] at this; simp; omega
      · right
        have := Nat.mul_le_mul_right size (show k + 1 ≤ i by omega)
        rw [Nat.add_mul] at this; simp; omega

theorem RowAt.congr {w : World} {g size n : Nat} {f f' : Nat → List Value} (h : RowAt w g size n f) (e : ∀ i, i < n → f i = f' i) : RowAt w g size n f' :=
  ⟨fun k hk j hj => by rw [← e k hk]; exact h.cell k hk j hj, h.there, h.lt⟩

theorem flat_len {n size : Nat} {f : Nat → List Value} (hf : ∀ i, i < n → (f i).length = size) : ((List.range n).flatMap f).length = n * size := by
  induction n with
  | zero => simp
  | succ n ih => rw [List.range_succ, List.flatMap_append, List.length_append, ih (fun i hi => hf i (by omega))]; simp [hf n (by omega), Nat.add_mul]

theorem RowAt.sl {w : World} {col : Col} {g size n cap : Nat} {f : Nat → List Value} (h : RowAt w g size n f) (hsz : 0 < size) (hf : ∀ i, i < n → (f i).length = size) (hn : n ≤ 4294967296) (hc : n ≤ cap) (hm : cap ≤ maxLen) (hcol : col g = 0) :
    Sl w col size (.slice (some ⟨g, 0, none⟩) n cap) n ((List.range n).flatMap f) := by
  refine ⟨flat_len hf, hn, .inr ⟨g, 0, cap, rfl, hc, hm, h.lt, hcol, fun j hj => ?_⟩⟩
  have hk : j / size < n := Nat.div_lt_of_lt_mul (by rw [Nat.mul_comm]; exact hj)
  have hr : j % size < size := Nat.mod_lt _ hsz
  have hd : j = j / size * size + j % size := by rw [Nat.mul_comm]; exact (Nat.div_add_mod _ _).symm
  rw [Nat.zero_add, hd, h.cell _ hk _ hr, flat_at n f hf _ _ hk hr]

/-- What was made by the call, as a row. -/
theorem row_of_own {w : World} {base e size n : Nat} {v : Value} {f : Nat → List Value} (h : w.ownsRow base e size v n ((List.range n).flatMap f)) (hf : ∀ i, i < n → (f i).length = size) :
    (v = .slice none 0 0 ∧ n = 0) ∨ ∃ g cap, v = .slice (some ⟨g, 0, none⟩) n cap ∧ base ≤ g ∧ n ≤ cap ∧ cap ≤ maxLen ∧ RowAt w g size n f := by
  rcases h.2 with h2 | ⟨g, cap, cur, rfl, hg, hh, hnc, hm, hs, ht⟩
  · exact .inl h2
  · refine .inr ⟨g, cap, rfl, hg, hnc, hm, ⟨fun k hk j hj => ?_, fun j hj => ?_, (Array.getElem?_eq_some_iff.1 hh).1⟩⟩
    · have hlt : k * size + j < n * size := by
        have := Nat.mul_le_mul_right size (show k + 1 ≤ n by omega)
        rw [Nat.add_mul] at this; omega
      rw [World.ownsRow.cellAt h _ hlt]
      exact flat_at n f hf k j hk hj
    · rw [Nat.zero_add, World.ownsRow.cellAt h j hj]
      refine ⟨?_, ?_⟩
      · rw [List.getElem?_eq_getElem (by rw [flat_len hf]; exact hj)]; rfl
      · simp [World.frozen?, hh]

theorem setCells_os (g : Nat) : ∀ (vs : List Value) (o : Nat) (w : World), (w.setCells g o vs).os = w.os ∧ (w.setCells g o vs).tape = w.tape ∧ (w.setCells g o vs).output = w.output
  | [], _, _ => ⟨rfl, rfl, rfl⟩
  | v :: r, o, w => by
    rw [World.setCells]
    have := setCells_os g r (o + 1) (w.setCell ⟨g, o, none⟩ v)
    refine ⟨this.1.trans ?_, this.2.1.trans ?_, this.2.2.trans ?_⟩ <;> (unfold World.setCell; split <;> rfl)
theorem fresh_setCells {w0 w : World} {g o : Nat} {vs : List Value} (h : Fresh w0 w) (hg : w0.heap.size ≤ g) : Fresh w0 (w.setCells g o vs) :=
  h.trans ⟨(setCells_os g vs o w).1, (setCells_os g vs o w).2.1, (setCells_os g vs o w).2.2, by rw [setCells_size]; exact Nat.le_refl _, fun k hk => heap_setCells (by omega)⟩
end Go.Proofs.YtmjclmmiljlahaaGreat

set_option linter.unusedVariables false
set_option linter.unusedSimpArgs false
namespace Go.Proofs.YtmjclmmiljlahaaGreat
open Go.RowKit

theorem clone_33 (v : Value) (n : Nat) (cs : List Value) (col : Col) (w : World) (hv : Sl w col 6 v n cs) (h1 : ∀ u ∈ cs, u.oneCell' = true) :
    Calls Tryz.prog 53 #[v] w fun e w' => ∃ v', e = .returned v' ∧ w'.ownsRow w.heap.size 36 6 v' n cs ∧ Fresh w w' ∧ (v' = .slice none 0 0 ↔ v = .slice none 0 0) := by
  have hlen := hv.2.1
  rcases Sl.below hv with ⟨rfl, rfl, rfl⟩ | ⟨b, off, cap, rfl, hc, hm, hb, _, hj⟩
  · go_enter Tryz.func53, Tryz.ntmps53
    go_wp2
    go_ret
    exact ⟨_, rfl, World.ownsRow_nil _ _ _ _, Fresh.rfl' _, by simp⟩
  · have Hv := Lib.hid hv
    have H1 := Lib.hid h1
    clear hj hv h1
    go_enter Tryz.func53, Tryz.ntmps53
    go_wp2_with (at_builtin; refine Stand.stop ?_)
    refine Stand.go ?_
    refine wpList_append_src _ rfl _ _ 33 33 rfl w.heap.size 36 _ 6 88 Tryz.underlying33 info36 rfl (by decide) (.slice (some ⟨w.heap.size, 0, none⟩) 0 0) 0 [] rfl (World.ownsRow_lit _ #[] 0 (Nat.le_refl _) (by decide) rfl) _ n cs rfl
      (Sl.src (Hv.out.fresh ((Fresh.rfl' w).alloc (Nat.le_refl _) _)) Tryz.underlying33 H1.out) (by unfold maxLen; omega) (by omega) (by simp) ?_
    intro v' w' hown hg hnil
    go_wp2
    go_ret
    have hf : Fresh w w' := ((Fresh.rfl' w).alloc (Nat.le_refl _) _).grown hg (by simp) (by intro k hk; simp [Value.ownBlock] at hk; omega)
    rw [Nat.zero_add, List.nil_append] at hown
    exact ⟨_, rfl, hown, hf, by simpa using hnil⟩

theorem clone_34 (v : Value) (n : Nat) (cs : List Value) (col : Col) (w : World) (hv : Sl w col 7 v n cs) (h1 : ∀ u ∈ cs, u.oneCell' = true) :
    Calls Tryz.prog 54 #[v] w fun e w' => ∃ v', e = .returned v' ∧ w'.ownsRow w.heap.size 72 7 v' n cs ∧ Fresh w w' ∧ (v' = .slice none 0 0 ↔ v = .slice none 0 0) := by
  have hlen := hv.2.1
  rcases Sl.below hv with ⟨rfl, rfl, rfl⟩ | ⟨b, off, cap, rfl, hc, hm, hb, _, hj⟩
  · go_enter Tryz.func54, Tryz.ntmps54
    go_wp2
    go_ret
    exact ⟨_, rfl, World.ownsRow_nil _ _ _ _, Fresh.rfl' _, by simp⟩
  · have Hv := Lib.hid hv
    have H1 := Lib.hid h1
    clear hj hv h1
    go_enter Tryz.func54, Tryz.ntmps54
    go_wp2_with (at_builtin; refine Stand.stop ?_)
    refine Stand.go ?_
    refine wpList_append_src _ rfl _ _ 34 34 rfl w.heap.size 72 _ 7 104 Tryz.underlying34 info72 rfl (by decide) (.slice (some ⟨w.heap.size, 0, none⟩) 0 0) 0 [] rfl (World.ownsRow_lit _ #[] 0 (Nat.le_refl _) (by decide) rfl) _ n cs rfl
      (Sl.src (Hv.out.fresh ((Fresh.rfl' w).alloc (Nat.le_refl _) _)) Tryz.underlying34 H1.out) (by unfold maxLen; omega) (by omega) (by simp) ?_
    intro v' w' hown hg hnil
    go_wp2
    go_ret
    have hf : Fresh w w' := ((Fresh.rfl' w).alloc (Nat.le_refl _) _).grown hg (by simp) (by intro k hk; simp [Value.ownBlock] at hk; omega)
    rw [Nat.zero_add, List.nil_append] at hown
    exact ⟨_, rfl, hown, hf, by simpa using hnil⟩

theorem clone_48 (v : Value) (n : Nat) (cs : List Value) (col : Col) (w : World) (hv : Sl w col 3 v n cs) (h1 : ∀ u ∈ cs, u.oneCell' = true) :
    Calls Tryz.prog 35 #[v] w fun e w' => ∃ v', e = .returned v' ∧ w'.ownsRow w.heap.size 80 3 v' n cs ∧ Fresh w w' ∧ (v' = .slice none 0 0 ↔ v = .slice none 0 0) := by
  have hlen := hv.2.1
  rcases Sl.below hv with ⟨rfl, rfl, rfl⟩ | ⟨b, off, cap, rfl, hc, hm, hb, _, hj⟩
  · go_enter Tryz.func35, Tryz.ntmps35
    go_wp2
    go_ret
    exact ⟨_, rfl, World.ownsRow_nil _ _ _ _, Fresh.rfl' _, by simp⟩
  · have Hv := Lib.hid hv
    have H1 := Lib.hid h1
    clear hj hv h1
    go_enter Tryz.func35, Tryz.ntmps35
    go_wp2_with (at_builtin; refine Stand.stop ?_)
    refine Stand.go ?_
    refine wpList_append_src _ rfl _ _ 48 48 rfl w.heap.size 80 _ 3 48 Tryz.underlying48 info80 rfl (by decide) (.slice (some ⟨w.heap.size, 0, none⟩) 0 0) 0 [] rfl (World.ownsRow_lit _ #[] 0 (Nat.le_refl _) (by decide) rfl) _ n cs rfl
      (Sl.src (Hv.out.fresh ((Fresh.rfl' w).alloc (Nat.le_refl _) _)) Tryz.underlying48 H1.out) (by unfold maxLen; omega) (by omega) (by simp) ?_
    intro v' w' hown hg hnil
    go_wp2
    go_ret
    have hf : Fresh w w' := ((Fresh.rfl' w).alloc (Nat.le_refl _) _).grown hg (by simp) (by intro k hk; simp [Value.ownBlock] at hk; omega)
    rw [Nat.zero_add, List.nil_append] at hown
    exact ⟨_, rfl, hown, hf, by simpa using hnil⟩

end Go.Proofs.YtmjclmmiljlahaaGreat

set_option linter.unusedVariables false
set_option linter.unusedSimpArgs false
namespace Go.Proofs.YtmjclmmiljlahaaGreat
open Go.RowKit

theorem setCell_row {w : World} {g o : Nat} {v : Value} {cs : Array Value} {t : TypeId} {fr : Nat × Nat} (h : w.heap[g]? = some (.cells cs t fr)) :
    (w.setCell ⟨g, o, none⟩ v).heap[g]? = some (.cells (cs.setIfInBounds o v) t fr) := by
  simp [World.setCell, Array.getElem?_modify, h]
theorem fresh_setCell {w0 w : World} {g o : Nat} {v : Value} (h : Fresh w0 w) (hg : w0.heap.size ≤ g) : Fresh w0 (w.setCell ⟨g, o, none⟩ v) :=
  h.trans ⟨rfl, rfl, rfl, by rw [setCell_hsize]; exact Nat.le_refl _, fun k hk => setCell_block (by omega)⟩

/-- How far value has come. -/
structure ValSt (w W : World) (v : JV) (a b : SV) : Prop where
  fr : Fresh w W
  box : W.heap[w.heap.size]? = some (.cells #[.int .i64 v.kind, .bool v.b, .int .i64 v.n, .string v.text, sv a, sv b] 36 (0, 0))
  res : ∃ cs, W.heap[w.heap.size + 1]? = some (.cells cs 36 (0, 0)) ∧ cs.size = 6
namespace ValSt
variable {w W W' : World} {v : JV} {a b : SV}
theorem lt (h : ValSt w W v a b) : w.heap.size < W.heap.size := (Array.getElem?_eq_some_iff.1 h.box).1
theorem lt1 (h : ValSt w W v a b) : w.heap.size + 1 < W.heap.size := by obtain ⟨_, h, _⟩ := h.res; exact (Array.getElem?_eq_some_iff.1 h).1
theorem c4 (h : ValSt w W v a b) : W.cell? ⟨w.heap.size, 4, none⟩ = some (.slice a.a a.n a.c) := by simp only [World.cell?, h.box]; rfl
theorem c5 (h : ValSt w W v a b) : W.cell? ⟨w.heap.size, 5, none⟩ = some (.slice b.a b.n b.c) := by simp only [World.cell?, h.box]; rfl
theorem f4 (h : ValSt w W v a b) : W.frozen? ⟨w.heap.size, 4, none⟩ = false := by simp only [World.frozen?, h.box]; rfl
theorem f5 (h : ValSt w W v a b) : W.frozen? ⟨w.heap.size, 5, none⟩ = false := by simp only [World.frozen?, h.box]; rfl
theorem fresh (h : ValSt w W v a b) (hf : Fresh W W') : ValSt w W' v a b :=
  ⟨fcomp h.fr hf, (hf.blocks _ h.lt).trans h.box, by obtain ⟨cs, h1, h2⟩ := h.res; exact ⟨cs, (hf.blocks _ (Array.getElem?_eq_some_iff.1 h1).1).trans h1, h2⟩⟩
theorem keep (h : ValSt w W v a b) {g o : Nat} {vs : List Value} (hg : w.heap.size + 2 ≤ g) : ValSt w (W.setCells g o vs) v a b :=
  ⟨fresh_setCells h.fr (by omega), (heap_setCells (by omega)).trans h.box, by obtain ⟨cs, h1, h2⟩ := h.res; exact ⟨cs, (heap_setCells (by omega)).trans h1, h2⟩⟩
theorem set4 (h : ValSt w W v a b) (x : SV) : ValSt w (W.setCell ⟨w.heap.size, 4, none⟩ (sv x)) v x b :=
  ⟨fresh_setCell h.fr (Nat.le_refl _), setCell_row h.box, by obtain ⟨cs, h1, h2⟩ := h.res; exact ⟨cs, (setCell_block (by omega)).trans h1, h2⟩⟩
theorem set5 (h : ValSt w W v a b) (x : SV) : ValSt w (W.setCell ⟨w.heap.size, 5, none⟩ (sv x)) v a x :=
  ⟨fresh_setCell h.fr (Nat.le_refl _), setCell_row h.box, by obtain ⟨cs, h1, h2⟩ := h.res; exact ⟨cs, (setCell_block (by omega)).trans h1, h2⟩⟩
end ValSt

theorem heap_alloc_at {w : World} {o : Obj} {n : Nat} (h : w.heap.size = n) : (w.alloc o).heap[n]? = some o := by subst h; exact heap_alloc_new _ _
theorem move_setCell {w : World} {col : Col} {g o : Nat} {v : Value} (h : col g ≠ 0) : Move w col (w.setCell ⟨g, o, none⟩ v) col :=
  ⟨by rw [setCell_hsize]; exact Nat.le_refl _, fun b _ hb => setCell_block (fun e => h (by rw [← e]; exact hb)), fun _ _ h => h⟩
theorem move_setCells {w : World} {col : Col} {g o : Nat} {vs : List Value} (h : col g ≠ 0) : Move w col (w.setCells g o vs) col :=
  ⟨by rw [setCells_size]; exact Nat.le_refl _, fun b _ hb => heap_setCells (fun e => h (by rw [← e]; exact hb)), fun _ _ h => h⟩

theorem val_start (w : World) (v : JV) (a b : SV) : ValSt w ((w.alloc (.cells #[.int .i64 v.kind, .bool v.b, .int .i64 v.n, .string v.text, sv a, sv b] 36)).alloc
    (.cells #[.int .i64 0, .bool false, .int .i64 0, .string ⟨#[]⟩, .slice none 0 0, .slice none 0 0] 36)) v a b :=
  ⟨((Fresh.rfl' w).alloc (Nat.le_refl _) _).alloc (by simp) _, (Below.heap_alloc _ _ _ (by simp)).trans (heap_alloc_new _ _), ⟨_, heap_alloc_at (by simp), rfl⟩⟩

/-- A part of a value, done. -/
def Done (W : World) (col : Col) (size n : Nat) (F : Nat → SV × SV → List Value) (X : Nat → JV) (v : Value) : Prop :=
  ∃ A : Nat → SV × SV, Sl W col size v n ((List.range n).flatMap fun i => F i (A i)) ∧ ∀ i, i < n → JVIs W col (X i) (A i).1 (A i).2
theorem Done.move {w w' : World} {col col' : Col} {size n : Nat} {F : Nat → SV × SV → List Value} {X : Nat → JV} {v : Value} (h : Done w col size n F X v) (hm : Move w col w' col') : Done w' col' size n F X v := by
  obtain ⟨A, h1, h2⟩ := h
  exact ⟨A, h1.move hm, fun i hi => (h2 i hi).move hm⟩

/-- A part of a value, done up to k. -/
def Part (w W : World) (col : Col) (size n : Nat) (F : Nat → SV × SV → List Value) (X : Nat → JV) (ao : Option Addr) (g : Nat) (A : Nat → SV × SV) (k : Nat) : Prop :=
  n = 0 ∨ (ao = some ⟨g, 0, none⟩ ∧ w.heap.size + 2 ≤ g ∧ ∃ A' : Nat → SV × SV, RowAt W g size n (fun i => F i (A' i)) ∧
    (∀ i, i < k → JVIs W (upd col g 1) (X i) (A' i).1 (A' i).2) ∧ ∀ i, k ≤ i → A' i = A i)

theorem own_part {w W : World} {col : Col} {e size n : Nat} {F : Nat → SV × SV → List Value} {X : Nat → JV} {A : Nat → SV × SV} {v : Value} {base : Nat} (hb : w.heap.size + 2 ≤ base)
    (h : W.ownsRow base e size v n ((List.range n).flatMap fun i => F i (A i))) (hf : ∀ i s, (F i s).length = size) :
    ∃ ao cap g, v = .slice ao n cap ∧ n ≤ cap ∧ cap ≤ maxLen ∧ (n = 0 → v = .slice none 0 0 ∨ ∃ g, v = .slice (some ⟨g, 0, none⟩) n cap ∧ base ≤ g ∧ g < W.heap.size) ∧ base ≤ g ∧ Part w W col size n F X ao g A 0 := by
  rcases row_of_own h (fun i _ => hf i _) with ⟨rfl, rfl⟩ | ⟨g, cap, rfl, hg, hnc, hcm, hrow⟩
  · exact ⟨none, 0, base, rfl, Nat.le_refl _, by unfold maxLen; omega, fun _ => .inl rfl, Nat.le_refl _, .inl rfl⟩
  · exact ⟨_, cap, g, rfl, hnc, hcm, fun _ => .inr ⟨g, rfl, hg, hrow.lt⟩, hg, .inr ⟨rfl, by omega, A, hrow, fun i hi => by omega, fun _ _ => rfl⟩⟩

theorem Part.step {w wr w2 : World} {col : Col} {size n : Nat} {F : Nat → SV × SV → List Value} {X : Nat → JV} {g : Nat} {A A' : Nat → SV × SV} {k o : Nat} {a2 b2 : SV} {ao : Option Addr}
    (hao : ao = some ⟨g, 0, none⟩) (hg : w.heap.size + 2 ≤ g) (hrow : RowAt wr g size n (fun i => F i (A' i))) (hdone : ∀ i, i < k → JVIs wr (upd col g 1) (X i) (A' i).1 (A' i).2) (hrest : ∀ i, k ≤ i → A' i = A i)
    (hk : k < n) (hF : ∀ i s s', (F i s).take o = (F i s').take o ∧ (F i s).drop o = vCells (X i) s.1 s.2 ∧ o ≤ (F i s).length) (hs : o + 6 = size)
    (hf : Fresh wr w2) (hj : JVIs w2 (upd col g 1) (X k) a2 b2) :
    Part w (w2.setCells g (k * size + o) (vCells (X k) a2 b2)) col size n F X ao g A (k + 1) := by
  have hm : Move w2 (upd col g 1) (w2.setCells g (k * size + o) (vCells (X k) a2 b2)) (upd col g 1) := move_setCells (by rw [upd_same]; decide)
  refine .inr ⟨hao, hg, fun i => if i = k then (a2, b2) else A' i, ((hrow.fresh hf).set hk _ (by simp [vCells]; omega)).congr (fun i hi => ?_), fun i hi => ?_, fun i hi => ?_⟩
  · by_cases e : i = k
    · subst e
      simp only [if_true]
      have h1 := hF i (A' i) (a2, b2)
      have h2 := hF i (a2, b2) (a2, b2)
      have h3 : (F i (A' i)).drop (o + 6) = [] := by
        rw [← List.drop_drop, h1.2.1]; rfl
      rw [h1.1, show (vCells (X i) a2 b2).length = 6 from rfl, h3, List.append_nil, ← h2.2.1, List.take_append_drop]
    · simp [e]
  · by_cases e : i = k
    · subst e; simp only [if_true]; exact hj.move hm
    · simp only [e, if_false]
      exact ((hdone i (by omega)).fresh hf).move hm
  · have : i ≠ k := by omega
    simp only [this, if_false]
    exact hrest i (by omega)

theorem Part.done {w W : World} {col : Col} {size n cap : Nat} {F : Nat → SV × SV → List Value} {X : Nat → JV} {ao : Option Addr} {g : Nat} {A : Nat → SV × SV} (h : Part w W col size n F X ao g A n)
    (hf : ∀ i s, (F i s).length = size) (hsz : 0 < size) (hn : n ≤ 4294967296) (hc : n ≤ cap) (hm : cap ≤ maxLen) (hcol : ∀ b, w.heap.size + 2 ≤ b → col b = 0)
    (h0 : n = 0 → Value.slice ao n cap = .slice none 0 0 ∨ ∃ g, Value.slice ao n cap = .slice (some ⟨g, 0, none⟩) n cap ∧ w.heap.size + 2 ≤ g ∧ g < W.heap.size) : Done W col size n F X (.slice ao n cap) := by
  by_cases e : n = 0
  · refine ⟨fun _ => (.nil, .nil), ⟨by simp [e], hn, ?_⟩, fun i hi => by omega⟩
    rcases h0 e with h1 | ⟨g', h1, h2, h3⟩
    · exact .inl ⟨h1, e⟩
    · exact .inr ⟨g', 0, cap, h1, hc, hm, h3, hcol g' h2, fun j hj => by rw [e] at hj; omega⟩
  · rcases h with h | ⟨rfl, hg, A', hrow, hdone, _⟩
    · exact absurd h e
    · refine ⟨A', hrow.sl hsz (fun i _ => hf i _) hn hc hm (hcol g hg), fun i hi => (hdone i hi).move (Move.recol fun b _ hb => ?_)⟩
      by_cases eb : b = g
      · subst eb; rw [upd_same] at hb; exact absurd hb (by decide)
      · rwa [upd_other _ _ eb] at hb

theorem results_cell1 {P : Program} {fn : Func} {p : Tmp} {ty : TypeId} (h : fn.results = #[.cell p ty]) (tmps : Array Value) (w : World) (g : Nat) (t : TypeId) (cs : Array Value) (fr : Nat × Nat) (d : TypeDesc)
    (hp : tmps.getD p undef = .pointer (some ⟨g, 0, none⟩)) (hg : w.heap[g]? = some (.cells cs t fr))
    (hu : P.underlying ty = some d) (hd : (match d with | .struct _ | .array _ _ => true | _ => false) = true) (hi : (P.info? ty).map (·.size) = some cs.size) :
    (results fn tmps).run P w = .ok (.agg cs) w := by
  have hp' : tmps[p]?.getD undef = .pointer (some ⟨g, 0, none⟩) := by simpa using hp
  simp [results, h, hp', asAddr, run_loadVar_row w g t ty cs fr d hg hu hd hi]

theorem grow_part {w W : World} {col : Col} {size n : Nat} {F : Nat → SV × SV → List Value} {X : Nat → JV} {ao : Option Addr} {g p o : Nat} {v : Value} {A : Nat → SV × SV} (h : Part w W col size n F X ao g A 0) (hp : p < w.heap.size + 2) :
    Part w (W.setCell ⟨p, o, none⟩ v) col size n F X ao g A 0 := by
  rcases h with h | ⟨h1, h2, A', h3, h4⟩
  · exact .inl h
  · exact .inr ⟨h1, h2, A', h3.keep (setCell_block (by omega)) (by rw [setCell_hsize]; exact Nat.le_refl _), fun i hi => by omega, h4.2⟩

def FL (v : JV) (i : Nat) (s : SV × SV) : List Value := vCells (v.list.getD i default) s.1 s.2
def FF (v : JV) (i : Nat) (s : SV × SV) : List Value := .string (v.fields.getD i default).1 :: vCells (v.fields.getD i default).2 s.1 s.2
theorem flat_one (n : Nat) (f : Nat → List Value) (h : ∀ i, ∀ u ∈ f i, u.oneCell' = true) : ∀ u ∈ (List.range n).flatMap f, u.oneCell' = true := by
  intro u hu
  obtain ⟨i, _, hx⟩ := List.mem_flatMap.1 hu
  exact h i u hx
theorem FL_one (v : JV) (i : Nat) (s : SV × SV) : ∀ u ∈ FL v i s, u.oneCell' = true := by simp [FL, vCells, Value.oneCell']
theorem FF_one (v : JV) (i : Nat) (s : SV × SV) : ∀ u ∈ FF v i s, u.oneCell' = true := by simp [FF, vCells, Value.oneCell']
theorem jv_of {W : World} {col : Col} {v : JV} {a b : SV} (h1 : Done W col 6 v.list.length (FL v) (fun i => v.list.getD i default) (sv a)) (h2 : Done W col 7 v.fields.length (FF v) (fun i => (v.fields.getD i default).2) (sv b)) : JVIs W col v a b := by
  obtain ⟨A, ha, hl⟩ := h1
  obtain ⟨B, hb, hf⟩ := h2
  exact .mk A B ha hb hl hf
end Go.Proofs.YtmjclmmiljlahaaGreat

set_option linter.unusedVariables false
set_option linter.unusedSimpArgs false
namespace Go.Proofs.YtmjclmmiljlahaaGreat
open Go.RowKit

set_option maxRecDepth 10000 in
set_option maxHeartbeats 800000 in
theorem value_step (v : JV) (a b : SV) (A B : Nat → SV × SV) (col : Col) (w : World) (hcol : Std w col)
   (ih : ∀ i, i < v.list.length → ∀ W col', Fresh w W → (∀ b, b < w.heap.size → col' b = col b) → Std W col' → Calls Tryz.prog 41 #[jvV (v.list.getD i default) (A i).1 (A i).2] W fun r w' => ∃ a' b', r = .returned (jvV (v.list.getD i default) a' b') ∧ JVIs w' col' (v.list.getD i default) a' b' ∧ Fresh W w')
   (ih2 : ∀ i, i < v.fields.length → ∀ W col', Fresh w W → (∀ b, b < w.heap.size → col' b = col b) → Std W col' → Calls Tryz.prog 41 #[jvV (v.fields.getD i default).2 (B i).1 (B i).2] W fun r w' => ∃ a' b', r = .returned (jvV (v.fields.getD i default).2 a' b') ∧ JVIs w' col' (v.fields.getD i default).2 a' b' ∧ Fresh W w')
   (ha : Sl w col 6 (sv a) v.list.length ((List.range v.list.length).flatMap fun i => FL v i (A i)))
   (hb : Sl w col 7 (sv b) v.fields.length ((List.range v.fields.length).flatMap fun i => FF v i (B i))) :
    Calls Tryz.prog 41 #[jvV v a b] w fun r w' => ∃ a' b', r = .returned (jvV v a' b') ∧ JVIs w' col v a' b' ∧ Fresh w w' := by
  have Ha := Lib.hid ha; have Hb := Lib.hid hb; have Ih := Lib.hid ih; have Ih2 := Lib.hid ih2; clear ha hb ih ih2
  obtain ⟨col1, hcp, hcr, hco⟩ : ∃ c : Col, c w.heap.size = 1 ∧ c (w.heap.size + 1) = 1 ∧ ∀ b, b ≠ w.heap.size → b ≠ w.heap.size + 1 → c b = col b :=
    ⟨upd (upd col w.heap.size 1) (w.heap.size + 1) 1, by rw [upd_other _ _ (by omega), upd_same], upd_same _ _ _, fun b h1 h2 => by rw [upd_other _ _ h2, upd_other _ _ h1]⟩
  have hstd : ∀ W, Fresh w W → w.heap.size + 1 < W.heap.size → Std W col1 := fun W hf hl => by
    have hs := hcol.fresh hf
    have hp := hcol.pos
    exact ⟨fun c hc => by rw [hco _ (by omega) (by omega)]; exact hs.ok c hc, hs.max, by rw [hco _ (by omega) (by omega)]; exact hs.c0⟩
  have Hstd := Lib.hid hstd; have Hco := Lib.hid hco; have Hcp := Lib.hid hcp; have Hcr := Lib.hid hcr
  clear hstd hco hcp hcr
  have hlen := Ha.out.2.1
  have hlen2 := Hb.out.2.1
  dsimp only [jvV, sv]
  go_enter Tryz.func41, Tryz.ntmps41
  go_wp2_with fail
  have hS := val_start w v a b
  refine (clone_33 _ _ _ col _ (Ha.out.fresh hS.fr) (flat_one _ _ fun i => FL_one v i _)).mono ?_
  rintro r W1 ⟨v1, rfl, hown, hf1, hnil⟩
  have HS1 := Lib.hid (hS.fresh hf1)
  clear hS
  obtain ⟨ao, cap, g, rfl, hnc, hcm, h0, _, hpart⟩ := own_part (w := w) (col := col1) (X := fun i => v.list.getD i default) (by simp) hown (fun i s => rfl)
  have e4 := HS1.out.c4
  have x4 := HS1.out.f4
  have hlt := HS1.out.lt
  have Hp := Lib.hid hpart
  have H0 : Hid (v.list.length = 0 → Value.slice ao v.list.length cap = .slice none 0 0 ∨ ∃ g, Value.slice ao v.list.length cap = .slice (some ⟨g, 0, none⟩) v.list.length cap ∧ w.heap.size + 2 ≤ g ∧ g < W1.heap.size) := fun e => by
    have := h0 e
    rw [World.size_alloc, World.size_alloc] at this
    exact this
  clear hown hpart hf1 h0 hnil
  go_wp2_with fail
  refine hideWorld _ (fun W => ValSt w W v ⟨ao, v.list.length, cap⟩ b ∧ Part w W col1 6 v.list.length (FL v) (fun i => v.list.getD i default) ao g A 0 ∧ W1.heap.size ≤ W.heap.size) _ ?_ ?_
  · exact ⟨HS1.out.set4 ⟨ao, v.list.length, cap⟩, grow_part Hp.out (by omega), by rw [setCell_hsize]; exact Nat.le_refl _⟩
  rintro W2 ⟨hS2, hP2, hsz⟩
  have e4 := hS2.c4
  have HS2 := Lib.hid hS2
  have HP2 := Lib.hid hP2
  clear hS2 hP2 HS1 Hp x4
  go_wp2_with fail
  have hcap : (cap : Int) ≤ 9223372036854775807 := by unfold maxLen at hcm; omega
  go_loopw [12] (fun i wr => ∃ k : Nat, k ≤ v.list.length ∧ i = .int .i64 k ∧ W1.heap.size ≤ wr.heap.size ∧ Hid (ValSt w wr v ⟨ao, v.list.length, cap⟩ b) ∧ Hid (Part w wr col1 6 v.list.length (FL v) (fun i => v.list.getD i default) ao g A k)) (fun i _ => v.list.length - (intOf i).toNat)
  case atStart => exact ⟨0, Nat.zero_le _, rfl, hsz, HS2, HP2⟩
  case round =>
    obtain ⟨k, hk, rfl, hszr, Hst, hp⟩ := hrel
    clear HS2 HP2 e4 hsz
    by_cases hlt : k < v.list.length
    · rcases hp.out with hp | ⟨rfl, hg, A', hrow, hdone, hrest⟩
      · omega
      have hkk := hrest k (Nat.le_refl _)
      have d4 := Hst.out.c4
      have r0 := hrow.cell k hlt 0 (by omega)
      have r1 := hrow.cell k hlt 1 (by omega)
      have r2 := hrow.cell k hlt 2 (by omega)
      have r3 := hrow.cell k hlt 3 (by omega)
      have r4 := hrow.cell k hlt 4 (by omega)
      have r5 := hrow.cell k hlt 5 (by omega)
      have hc := Ih.out k hlt
      simp only [FL, vCells, hkk, Nat.add_zero, List.getElem?_cons_zero, List.getElem?_cons_succ] at r0 r1 r2 r3 r4 r5
      obtain ⟨x, hx⟩ : ∃ x, v.list.getD k default = x := ⟨_, rfl⟩
      obtain ⟨⟨xa, xb⟩, hxs⟩ : ∃ s, A k = s := ⟨_, rfl⟩
      rw [hx, hxs] at hc
      simp only [hx, hxs] at r0 r1 r2 r3 r4 r5
      have Hx := Lib.hid hx
      have Hxs := Lib.hid hxs
      have Hrw := Lib.hid hrow
      have Hdn := Lib.hid hdone
      have Hrs := Lib.hid hrest
      have Hc := Lib.hid hc
      clear hrow hdone hrest hp hc hx hxs hkk
      go_wp2_with fail
      have hcu : ∀ W, Fresh wr W → Calls Tryz.prog 41 #[jvV x xa xb] W fun r w' => ∃ a' b', r = .returned (jvV x a' b') ∧ JVIs w' (upd col1 g 1) x a' b' ∧ Fresh W w' := fun W hf =>
        Hc.out W (upd col1 g 1) (fcomp Hst.out.fr hf) (fun c hc => by rw [upd_other _ _ (by omega)]; exact Hco.out c (by omega) (by omega)) ((Hstd.out W (fcomp Hst.out.fr hf) (Nat.lt_of_lt_of_le Hst.out.lt1 hf.size)).upd (Nat.lt_of_lt_of_le Hrw.out.lt hf.size) (by have := hcol.pos; omega))
      have Hcu := Lib.hid hcu
      clear hcu
      go_region_law (first
       | (go_simp; go_at_call 41; refine (Hcu.out _ (Fresh.rfl' wr).drew).mono ?_; rintro r2 w2 ⟨a2, b2, rfl, hj2, hf2⟩
          have hf3 : Fresh wr w2 := hf2.ofDrew
          have Hf3' := Lib.hid hf3
          have d4' := (Hst.out.fresh hf3).c4
          have hth := (Hrw.out.fresh hf3).part hlt 0 6 (by omega)
          rw [Nat.add_zero] at hth
          have q0 := Hf3'.out.keep r0; have q1 := Hf3'.out.keep r1; have q2 := Hf3'.out.keep r2; have q3 := Hf3'.out.keep r3; have q4 := Hf3'.out.keep r4; have q5 := Hf3'.out.keep r5
          have z0 := (hth 0 (by omega)).2; have z1 := (hth 1 (by omega)).2; have z2 := (hth 2 (by omega)).2; have z3 := (hth 3 (by omega)).2; have z4 := (hth 4 (by omega)).2; have z5 := (hth 5 (by omega)).2
          rw [Nat.add_zero] at z0
          clear hth
          have Hj2 := Lib.hid hj2; clear hj2 hf2 hf3))
      all_goals
        refine hideWorld _ (fun W => Part w W col1 6 v.list.length (FL v) (fun i => v.list.getD i default) (some ⟨g, 0, none⟩) g A (k + 1) ∧ ValSt w W v ⟨some ⟨g, 0, none⟩, v.list.length, cap⟩ b ∧ W1.heap.size ≤ W.heap.size) _ ?_ ?_
        · have hh := Part.step (F := FL v) (X := fun i => v.list.getD i default) (o := 0) rfl hg Hrw.out Hdn.out Hrs.out hlt (fun i s s' => ⟨rfl, rfl, Nat.zero_le _⟩) rfl Hf3'.out (a2 := a2) (b2 := b2) (by rw [Hx.out]; exact Hj2.out)
          simp only [Hx.out] at hh
          exact ⟨hh, (Hst.out.fresh Hf3'.out).keep (g := g) (o := k * 6) (vs := vCells x a2 b2) hg, by
            have := Hf3'.out.size
            have h2 : w2.heap.size = (w2.setCells g (k * 6) (vCells x a2 b2)).heap.size := setCells_size.symm
            exact Nat.le_trans hszr (Nat.le_trans this (Nat.le_of_eq h2))⟩
        rintro W3 ⟨hp3, hs3, hz3⟩
        have Hp3 := Lib.hid hp3; have Hs3 := Lib.hid hs3
        clear hp3 hs3
        go_wp2_with fail
        go_roundw
        case rel => exact ⟨k + 1, by omega, by go_num, hz3, Hs3, Hp3⟩
        case measure => simp [intOf]; omega
    · obtain rfl : k = v.list.length := by omega
      have hd := hp.out.done (cap := cap) (fun i s => rfl) (by decide) hlen hnc hcm (fun b hb => by rw [Hco.out b (by omega) (by omega)]; exact hcol.ok b (by omega)) (fun e => by
        rcases H0.out e with h | ⟨g', h1, h2, h3⟩
        · exact .inl h
        · exact .inr ⟨g', h1, h2, by omega⟩)
      have Hd := Lib.hid hd
      have e5 := Hst.out.c5
      have hl1 := Hst.out.lt1
      clear hd hp
      go_wp2_with fail
      refine (clone_34 _ _ _ col wr (Hb.out.fresh Hst.out.fr) (flat_one _ _ fun i => FF_one v i _)).mono ?_
      rintro r W3 ⟨v3, rfl, hown, hf3, hnil⟩
      obtain ⟨bo, cap2, h, rfl, hnc2, hcm2, h02, hhb, hpart⟩ := own_part (w := w) (col := col1) (X := fun i => (v.fields.getD i default).2) (by omega) hown (fun i s => rfl)
      have HS3 := Lib.hid (Hst.out.fresh hf3)
      have HP3 := Lib.hid hpart
      have HD3 : Hid (Done W3 (upd col1 h 1) 6 v.list.length (FL v) (fun i => v.list.getD i default) (.slice ao v.list.length cap)) := Hd.out.move
        ⟨hf3.size, fun c hc _ => hf3.blocks c hc, fun c hc h0 => by rw [upd_other _ _ (by omega)]; exact h0⟩
      have H02 := Lib.hid h02
      have e5 := HS3.out.c5
      have x5 := HS3.out.f5
      clear hown hpart hf3 h02 hnil Hst Hd H0
      go_wp2_with fail
      refine hideWorld _ (fun W => ValSt w W v ⟨ao, v.list.length, cap⟩ ⟨bo, v.fields.length, cap2⟩ ∧ Part w W col1 7 v.fields.length (FF v) (fun i => (v.fields.getD i default).2) bo h B 0 ∧ W3.heap.size ≤ W.heap.size ∧ Done W (upd col1 h 1) 6 v.list.length (FL v) (fun i => v.list.getD i default) (.slice ao v.list.length cap)) _ ?_ ?_
      · exact ⟨HS3.out.set5 ⟨bo, v.fields.length, cap2⟩, grow_part HP3.out (by omega), by rw [setCell_hsize]; exact Nat.le_refl _, HD3.out.move (move_setCell (by rw [upd_other _ _ (by omega), Hcp.out]; decide))⟩
      rintro W4 ⟨hS4, hP4, hsz4, hD4⟩
      have e5 := hS4.c5
      have HS4 := Lib.hid hS4
      have HP4 := Lib.hid hP4
      have HD4 := Lib.hid hD4
      clear hS4 hP4 hD4 HS3 HP3 HD3 x5
      go_wp2_with fail
      have hcap2 : (cap2 : Int) ≤ 9223372036854775807 := by unfold maxLen at hcm2; omega
      go_loopw [33] (fun i wr => ∃ k : Nat, k ≤ v.fields.length ∧ i = .int .i64 k ∧ W3.heap.size ≤ wr.heap.size ∧ Hid (ValSt w wr v ⟨ao, v.list.length, cap⟩ ⟨bo, v.fields.length, cap2⟩) ∧ Hid (Part w wr col1 7 v.fields.length (FF v) (fun i => (v.fields.getD i default).2) bo h B k) ∧
        Hid (Done wr (upd col1 h 1) 6 v.list.length (FL v) (fun i => v.list.getD i default) (.slice ao v.list.length cap))) (fun i _ => v.fields.length - (intOf i).toNat)
      case atStart => exact ⟨0, Nat.zero_le _, rfl, hsz4, HS4, HP4, HD4⟩
      case round =>
        obtain ⟨k, hk, rfl, hszr, Hst, hp, HD⟩ := hrel
        clear HS4 HP4 HD4 e5 hsz4
        by_cases hlt : k < v.fields.length
        · rcases hp.out with hp | ⟨rfl, hg, A', hrow, hdone, hrest⟩
          · omega
          have hkk := hrest k (Nat.le_refl _)
          have d5 := Hst.out.c5
          have r0 := hrow.cell k hlt 1 (by omega)
          have r1 := hrow.cell k hlt 2 (by omega)
          have r2 := hrow.cell k hlt 3 (by omega)
          have r3 := hrow.cell k hlt 4 (by omega)
          have r4 := hrow.cell k hlt 5 (by omega)
          have r5 := hrow.cell k hlt 6 (by omega)
          have hc := Ih2.out k hlt
          simp only [FF, vCells, hkk, Nat.add_zero, List.getElem?_cons_zero, List.getElem?_cons_succ] at r0 r1 r2 r3 r4 r5
          obtain ⟨x, hx⟩ : ∃ x, (v.fields.getD k default).2 = x := ⟨_, rfl⟩
          obtain ⟨⟨xa, xb⟩, hxs⟩ : ∃ s, B k = s := ⟨_, rfl⟩
          rw [hx, hxs] at hc
          simp only [hx, hxs] at r0 r1 r2 r3 r4 r5
          have Hx := Lib.hid hx
          have Hxs := Lib.hid hxs
          have Hrw := Lib.hid hrow
          have Hdn := Lib.hid hdone
          have Hrs := Lib.hid hrest
          have Hc := Lib.hid hc
          clear hrow hdone hrest hp hc hx hxs hkk
          go_wp2_with fail
          have hcu : ∀ W, Fresh wr W → Calls Tryz.prog 41 #[jvV x xa xb] W fun r w' => ∃ a' b', r = .returned (jvV x a' b') ∧ JVIs w' (upd col1 h 1) x a' b' ∧ Fresh W w' := fun W hf =>
            Hc.out W (upd col1 h 1) (fcomp Hst.out.fr hf) (fun c hc => by rw [upd_other _ _ (by omega)]; exact Hco.out c (by omega) (by omega)) ((Hstd.out W (fcomp Hst.out.fr hf) (Nat.lt_of_lt_of_le Hst.out.lt1 hf.size)).upd (Nat.lt_of_lt_of_le Hrw.out.lt hf.size) (by have := hcol.pos; omega))
          have Hcu := Lib.hid hcu
          clear hcu
          go_region_law (first
           | (go_simp; go_at_call 41; refine (Hcu.out _ (Fresh.rfl' wr).drew).mono ?_; rintro r2 w2 ⟨a2, b2, rfl, hj2, hf2⟩
              have hf3 : Fresh wr w2 := hf2.ofDrew
              have Hf3' := Lib.hid hf3
              have d5' := (Hst.out.fresh hf3).c5
              have hth := (Hrw.out.fresh hf3).part hlt 1 6 (by omega)
              have q0 := Hf3'.out.keep r0; have q1 := Hf3'.out.keep r1; have q2 := Hf3'.out.keep r2; have q3 := Hf3'.out.keep r3; have q4 := Hf3'.out.keep r4; have q5 := Hf3'.out.keep r5
              have z0 := (hth 0 (by omega)).2; have z1 := (hth 1 (by omega)).2; have z2 := (hth 2 (by omega)).2; have z3 := (hth 3 (by omega)).2; have z4 := (hth 4 (by omega)).2; have z5 := (hth 5 (by omega)).2
              simp only [Nat.add_assoc, Nat.reduceAdd] at z0 z1 z2 z3 z4 z5
              clear hth
              have Hj2 := Lib.hid hj2; clear hj2 hf2 hf3))
          all_goals
            refine hideWorld _ (fun W => Part w W col1 7 v.fields.length (FF v) (fun i => (v.fields.getD i default).2) (some ⟨h, 0, none⟩) h B (k + 1) ∧ ValSt w W v ⟨ao, v.list.length, cap⟩ ⟨some ⟨h, 0, none⟩, v.fields.length, cap2⟩ ∧ W3.heap.size ≤ W.heap.size ∧ Done W (upd col1 h 1) 6 v.list.length (FL v) (fun i => v.list.getD i default) (.slice ao v.list.length cap)) _ ?_ ?_
            · have hh := Part.step (F := FF v) (X := fun i => (v.fields.getD i default).2) (o := 1) rfl hg Hrw.out Hdn.out Hrs.out hlt (fun i s s' => ⟨rfl, rfl, by simp [FF]⟩) rfl Hf3'.out (a2 := a2) (b2 := b2) (by rw [Hx.out]; exact Hj2.out)
              simp only [Hx.out] at hh
              exact ⟨hh, (Hst.out.fresh Hf3'.out).keep (g := h) (o := k * 7 + 1) (vs := vCells x a2 b2) hg, by
                have := Hf3'.out.size
                have h2 : w2.heap.size = (w2.setCells h (k * 7 + 1) (vCells x a2 b2)).heap.size := setCells_size.symm
                exact Nat.le_trans hszr (Nat.le_trans this (Nat.le_of_eq h2)),
                (HD.out.move (.ofFresh Hf3'.out)).move (move_setCells (g := h) (o := k * 7 + 1) (vs := vCells x a2 b2) (by rw [upd_same]; decide))⟩
            rintro W5 ⟨hp3, hs3, hz3, hd3⟩
            have Hp3 := Lib.hid hp3; have Hs3 := Lib.hid hs3; have Hd3 := Lib.hid hd3
            clear hp3 hs3 hd3
            go_wp2_with fail
            go_roundw
            case rel => exact ⟨k + 1, by omega, by go_num, hz3, Hs3, Hp3, Hd3⟩
            case measure => simp [intOf]; omega
        · obtain rfl : k = v.fields.length := by omega
          have hd2 := hp.out.done (cap := cap2) (fun i s => rfl) (by decide) hlen2 hnc2 hcm2 (fun b hb => by rw [Hco.out b (by omega) (by omega)]; exact hcol.ok b (by omega)) (fun e => by
            rcases H02.out e with h | ⟨g', h1, h2, h3⟩
            · exact .inl h
            · exact .inr ⟨g', h1, by omega, by omega⟩)
          have hd1 := HD.out.move (w' := wr) (col' := col1) (Move.recol fun b _ hb => by
            by_cases eb : b = h
            · subst eb; rw [upd_same] at hb; exact absurd hb (by decide)
            · rwa [upd_other _ _ eb] at hb)
          have hjv := jv_of (a := ⟨ao, v.list.length, cap⟩) (b := ⟨bo, v.fields.length, cap2⟩) hd1 hd2
          have Hjv := Lib.hid hjv
          obtain ⟨cs, hres, hcs⟩ := Hst.out.res
          clear hd1 hd2 hjv hp HD
          go_wp2_with (with_reducible refine stop_op (.load 36 (.tmp 1)) rfl ?_)
          refine Stand.go ?_
          refine wpList_load_row rfl 36 (.tmp 1) rfl w.heap.size rfl 36 _ (0, 0) _ Hst.out.box Tryz.underlying36 rfl (by kernel_rfl) ?_
          go_wp2_with (with_reducible refine stop_op (.store 36 (.tmp 2) (.tmp 49)) rfl ?_)
          refine Stand.go ?_
          refine wpList_store_row rfl 36 (.tmp 2) (.tmp 49) rfl (w.heap.size + 1) rfl _ rfl 36 cs hres (by kernel_rfl) hcs (by simp [Value.oneCell']) ?_
          go_wp2_with fail
          have hfin : Fresh w (wr.setRow (w.heap.size + 1) #[.int .i64 v.kind, .bool v.b, .int .i64 v.n, .string v.text, .slice ao v.list.length cap, .slice bo v.fields.length cap2]) := fresh_setRow Hst.out.fr (Nat.le_succ _)
          have hmv : Move wr col1 (wr.setRow (w.heap.size + 1) #[.int .i64 v.kind, .bool v.b, .int .i64 v.n, .string v.text, .slice ao v.list.length cap, .slice bo v.fields.length cap2]) col :=
            ⟨by simp [World.setRow], fun c _ hc => setRow_other wr _ c _ (fun e => by rw [e, Hcr.out] at hc; exact absurd hc (by decide)), fun c _ hc => by
              rw [Hco.out c (fun e => by rw [e, Hcp.out] at hc; exact absurd hc (by decide)) (fun e => by rw [e, Hcr.out] at hc; exact absurd hc (by decide))] at hc
              exact hc⟩
          refine bodyPost_ret (results_cell1 rfl _ _ (w.heap.size + 1) 36 _ (0, 0) _ rfl (setRow_heap _ _ cs _ _ _ hres) Tryz.underlying36 rfl (by kernel_rfl)) rfl ⟨⟨ao, v.list.length, cap⟩, ⟨bo, v.fields.length, cap2⟩, rfl, Hjv.out.move hmv, hfin⟩

/-- dag.value: another value, alike. -/
theorem value_any {w0 : World} {col0 : Col} {v : JV} {a b : SV} (h : JVIs w0 col0 v a b) : ∀ w col, Move w0 col0 w col → Std w col →
    Calls Tryz.prog 41 #[jvV v a b] w fun r w' => ∃ a' b', r = .returned (jvV v a' b') ∧ JVIs w' col v a' b' ∧ Fresh w w' := by
  induction h with
  | @mk v a b A B ha hb _ _ ih1 ih2 =>
    intro w col hm hcol
    refine value_step v a b A B col w hcol (fun i hi W col' hf hc hs => ih1 i hi W col' ⟨Nat.le_trans hm.size hf.size, fun c hl h0 => ?_, fun c hl h0 => ?_⟩ hs)
      (fun i hi W col' hf hc hs => ih2 i hi W col' ⟨Nat.le_trans hm.size hf.size, fun c hl h0 => ?_, fun c hl h0 => ?_⟩ hs) (ha.move hm) (hb.move hm)
    · exact (hf.blocks c (Nat.lt_of_lt_of_le hl hm.size)).trans (hm.block c hl h0)
    · rw [hc c (Nat.lt_of_lt_of_le hl hm.size)]; exact hm.color c hl h0
    · exact (hf.blocks c (Nat.lt_of_lt_of_le hl hm.size)).trans (hm.block c hl h0)
    · rw [hc c (Nat.lt_of_lt_of_le hl hm.size)]; exact hm.color c hl h0
end Go.Proofs.YtmjclmmiljlahaaGreat

set_option linter.unusedVariables false
set_option linter.unusedSimpArgs false
namespace Go.Proofs.YtmjclmmiljlahaaGreat
open Go.RowKit

/-- How far own has come: the box holds the event as it is by now. -/
structure OwnSt (w W : World) (e : EV) : Prop where
  fr : Fresh w W
  box : W.heap[w.heap.size]? = some (.cells e.cells 38 (0, 0))
  res : ∃ cs, W.heap[w.heap.size + 1]? = some (.cells cs 38 (0, 0)) ∧ cs.size = 22
namespace OwnSt
variable {w W W' : World} {e : EV}
theorem lt (h : OwnSt w W e) : w.heap.size < W.heap.size := (Array.getElem?_eq_some_iff.1 h.box).1
theorem lt1 (h : OwnSt w W e) : w.heap.size + 1 < W.heap.size := by obtain ⟨_, h, _⟩ := h.res; exact (Array.getElem?_eq_some_iff.1 h).1
theorem fresh (h : OwnSt w W e) (hf : Fresh W W') : OwnSt w W' e :=
  ⟨fcomp h.fr hf, (hf.blocks _ h.lt).trans h.box, by obtain ⟨cs, h1, h2⟩ := h.res; exact ⟨cs, (hf.blocks _ (Array.getElem?_eq_some_iff.1 h1).1).trans h1, h2⟩⟩
theorem fz (h : OwnSt w W e) (o : Nat) : W.frozen? ⟨w.heap.size, o, none⟩ = false := by simp only [World.frozen?, h.box]; simp
theorem set (h : OwnSt w W e) {o : Nat} {v : Value} {e' : EV} (he : e.cells.setIfInBounds o v = e'.cells) : OwnSt w (W.setCell ⟨w.heap.size, o, none⟩ v) e' :=
  ⟨fresh_setCell h.fr (Nat.le_refl _), by rw [setCell_row h.box, he], by obtain ⟨cs, h1, h2⟩ := h.res; exact ⟨cs, (setCell_block (by omega)).trans h1, h2⟩⟩
theorem c6 (h : OwnSt w W e) : W.cell? ⟨w.heap.size, 6, none⟩ = some (.slice e.prev.a e.prev.n e.prev.c) := by simp only [World.cell?, h.box]; rfl
theorem c7 (h : OwnSt w W e) : W.cell? ⟨w.heap.size, 7, none⟩ = some (.slice e.auth.a e.auth.n e.auth.c) := by simp only [World.cell?, h.box]; rfl
theorem c10 (h : OwnSt w W e) : W.cell? ⟨w.heap.size, 10, none⟩ = some (.int .i64 e.d.content.kind) := by simp only [World.cell?, h.box]; rfl
theorem c11 (h : OwnSt w W e) : W.cell? ⟨w.heap.size, 11, none⟩ = some (.bool e.d.content.b) := by simp only [World.cell?, h.box]; rfl
theorem c12 (h : OwnSt w W e) : W.cell? ⟨w.heap.size, 12, none⟩ = some (.int .i64 e.d.content.n) := by simp only [World.cell?, h.box]; rfl
theorem c13 (h : OwnSt w W e) : W.cell? ⟨w.heap.size, 13, none⟩ = some (.string e.d.content.text) := by simp only [World.cell?, h.box]; rfl
theorem c14 (h : OwnSt w W e) : W.cell? ⟨w.heap.size, 14, none⟩ = some (.slice e.cl.a e.cl.n e.cl.c) := by simp only [World.cell?, h.box]; rfl
theorem c15 (h : OwnSt w W e) : W.cell? ⟨w.heap.size, 15, none⟩ = some (.slice e.cf.a e.cf.n e.cf.c) := by simp only [World.cell?, h.box]; rfl
theorem c16 (h : OwnSt w W e) : W.cell? ⟨w.heap.size, 16, none⟩ = some (.int .i64 e.d.raw.kind) := by simp only [World.cell?, h.box]; rfl
theorem c17 (h : OwnSt w W e) : W.cell? ⟨w.heap.size, 17, none⟩ = some (.bool e.d.raw.b) := by simp only [World.cell?, h.box]; rfl
theorem c18 (h : OwnSt w W e) : W.cell? ⟨w.heap.size, 18, none⟩ = some (.int .i64 e.d.raw.n) := by simp only [World.cell?, h.box]; rfl
theorem c19 (h : OwnSt w W e) : W.cell? ⟨w.heap.size, 19, none⟩ = some (.string e.d.raw.text) := by simp only [World.cell?, h.box]; rfl
theorem c20 (h : OwnSt w W e) : W.cell? ⟨w.heap.size, 20, none⟩ = some (.slice e.rl.a e.rl.n e.rl.c) := by simp only [World.cell?, h.box]; rfl
theorem c21 (h : OwnSt w W e) : W.cell? ⟨w.heap.size, 21, none⟩ = some (.slice e.rf.a e.rf.n e.rf.c) := by simp only [World.cell?, h.box]; rfl
theorem set6 (h : OwnSt w W e) (a : Option Addr) (n c : Nat) : OwnSt w (W.setCell ⟨w.heap.size, 6, none⟩ (.slice a n c)) { e with prev := ⟨a, n, c⟩ } := h.set rfl
theorem set7 (h : OwnSt w W e) (a : Option Addr) (n c : Nat) : OwnSt w (W.setCell ⟨w.heap.size, 7, none⟩ (.slice a n c)) { e with auth := ⟨a, n, c⟩ } := h.set rfl
end OwnSt
theorem OwnSt.setC {w W : World} {e : EV} (h : OwnSt w W e) (a b : SV) : OwnSt w ((((((W.setCell ⟨w.heap.size, 10, none⟩ (.int .i64 e.d.content.kind)).setCell ⟨w.heap.size, 11, none⟩ (.bool e.d.content.b)).setCell ⟨w.heap.size, 12, none⟩ (.int .i64 e.d.content.n)).setCell ⟨w.heap.size, 13, none⟩ (.string e.d.content.text)).setCell ⟨w.heap.size, 14, none⟩ (.slice a.a a.n a.c)).setCell ⟨w.heap.size, 15, none⟩ (.slice b.a b.n b.c)) { e with cl := a, cf := b } :=
  ((((((h.set (o := 10) (e' := e) rfl).set (o := 11) (e' := e) rfl).set (o := 12) (e' := e) rfl).set (o := 13) (e' := e) rfl).set (o := 14) (e' := { e with cl := a }) rfl).set (o := 15) (e' := { e with cl := a, cf := b }) rfl)
theorem OwnSt.setR {w W : World} {e : EV} (h : OwnSt w W e) (a b : SV) : OwnSt w ((((((W.setCell ⟨w.heap.size, 16, none⟩ (.int .i64 e.d.raw.kind)).setCell ⟨w.heap.size, 17, none⟩ (.bool e.d.raw.b)).setCell ⟨w.heap.size, 18, none⟩ (.int .i64 e.d.raw.n)).setCell ⟨w.heap.size, 19, none⟩ (.string e.d.raw.text)).setCell ⟨w.heap.size, 20, none⟩ (.slice a.a a.n a.c)).setCell ⟨w.heap.size, 21, none⟩ (.slice b.a b.n b.c)) { e with rl := a, rf := b } :=
  ((((((h.set (o := 16) (e' := e) rfl).set (o := 17) (e' := e) rfl).set (o := 18) (e' := e) rfl).set (o := 19) (e' := e) rfl).set (o := 20) (e' := { e with rl := a }) rfl).set (o := 21) (e' := { e with rl := a, rf := b }) rfl)
theorem str_fresh {w w' : World} {col : Col} {v : Value} {l : List ByteArray} (h : Hid (StrSl w col v l)) (hf : Hid (Fresh w w')) : StrSl w' col v l := Sl.fresh h.out hf.out
theorem jv_fresh {w w' : World} {col : Col} {v : JV} {a b : SV} (h : Hid (JVIs w col v a b)) (hf : Hid (Fresh w w')) : JVIs w' col v a b := h.out.fresh hf.out
theorem own_start (w : World) (e : EV) : OwnSt w ((w.alloc (.cells e.cells 38)).alloc (.cells EV.zero.cells 38)) e :=
  ⟨((Fresh.rfl' w).alloc (Nat.le_refl _) _).alloc (by simp) _, (Below.heap_alloc _ _ _ (by simp)).trans (heap_alloc_new _ _), ⟨_, heap_alloc_at (by simp), rfl⟩⟩

set_option maxRecDepth 10000 in
set_option maxHeartbeats 800000 in
theorem own_any (e : EV) (col : Col) (w : World) (hcol : Std w col) (he : EvIs w col e) :
    Calls Tryz.prog 26 #[evV e] w fun r w' => ∃ e' : EV, r = .returned (evV e') ∧ e'.d = e.d ∧ EvIs w' col e' ∧ Fresh w w' := by
  obtain ⟨col1, hcp, hcr, hco⟩ : ∃ c : Col, c w.heap.size = 1 ∧ c (w.heap.size + 1) = 1 ∧ ∀ b, b ≠ w.heap.size → b ≠ w.heap.size + 1 → c b = col b :=
    ⟨upd (upd col w.heap.size 1) (w.heap.size + 1) 1, by rw [upd_other _ _ (by omega), upd_same], upd_same _ _ _, fun b h1 h2 => by rw [upd_other _ _ h2, upd_other _ _ h1]⟩
  have hstd : ∀ W, Fresh w W → w.heap.size + 1 < W.heap.size → Std W col1 := fun W hf hl => by
    have hs := hcol.fresh hf
    have hp := hcol.pos
    exact ⟨fun c hc => by rw [hco _ (by omega) (by omega)]; exact hs.ok c hc, hs.max, by rw [hco _ (by omega) (by omega)]; exact hs.c0⟩
  have hmv : ∀ W, Fresh w W → Move w col W col1 := fun W hf => ⟨hf.size, fun b hb _ => hf.blocks b hb, fun b hb h0 => by rw [hco _ (by omega) (by omega)]; exact h0⟩
  have Hstd := Lib.hid hstd; have Hco := Lib.hid hco; have Hcp := Lib.hid hcp; have Hcr := Lib.hid hcr; have Hmv := Lib.hid hmv; have He := Lib.hid he
  clear hstd hco hcp hcr hmv he
  dsimp only [evV]
  go_enter Tryz.func26, Tryz.ntmps26
  go_wp2_with fail
  refine hideWorld _ (fun W => OwnSt w W e) _ ?_ ?_
  · exact own_start w e
  rintro W hS
  have HS := Lib.hid hS
  clear hS
  have HStd2 : Hid (∀ W', Fresh W W' → Std W' col1) := fun W' hf => Hstd.out W' (fcomp HS.out.fr hf) (Nat.lt_of_lt_of_le HS.out.lt1 hf.size)
  have HEv : Hid (∀ W', Fresh W W' → EvIs W' col1 e) := fun W' hf => He.out.move (Hmv.out _ (fcomp HS.out.fr hf))
  go_cut [] from 3 to 10 (fun wr => ∃ v1 v2 : SV, OwnSt w wr { e with prev := v1, auth := v2 } ∧ StrSl wr col1 (sv v1) e.d.prev ∧ StrSl wr col1 (sv v2) e.d.auth)
  case first =>
    have m6 := HS.out.c6; have m7 := HS.out.c7
    have HF : Hid (Fresh W W.drew) := (Fresh.rfl' W).drew
    go_region_law (first
     | (go_simp; go_at_call 31
        first
        | with_reducible refine (clone_str (.slice e.prev.a e.prev.n e.prev.c) e.d.prev col1 _ (HStd2.out _ (Hid.out (by assumption))) (HEv.out _ (Hid.out (by assumption))).prev).mono ?_
        | with_reducible refine (clone_str (.slice e.auth.a e.auth.n e.auth.c) e.d.auth col1 _ (HStd2.out _ (Hid.out (by assumption))) (HEv.out _ (Hid.out (by assumption))).auth).mono ?_
        rintro r2 w2 ⟨v2, rfl, hs2, how, hf2, _⟩
        obtain ⟨sa, sm, sc, rfl⟩ := own_slice how
        have HFF := Lib.hid hf2
        have HF2 : Hid (Fresh W w2) := fcomp (Hid.out (by assumption)) hf2
        have n6 := (HS.out.fresh HF2.out).c6; have n7 := (HS.out.fresh HF2.out).c7
        have z6 := (HS.out.fresh HF2.out).fz 6; have z7 := (HS.out.fresh HF2.out).fz 7
        have Hs2 := Lib.hid hs2; clear hs2 hf2 how))
    all_goals
      go_wp2_with fail
      go_meet
      refine ⟨⟨_, _, _⟩, ⟨_, _, _⟩, ((HS.out.fresh HF2.out).set6 _ _ _).set7 _ _ _, ?_, ?_⟩
      all_goals
        refine StrSl.move (col := col1) ?_ (move_setCell (by rw [Hcp.out]; decide))
        refine StrSl.move (col := col1) ?_ (move_setCell (by rw [Hcp.out]; decide))
        first
        | exact Hid.out (by assumption)
        | exact str_fresh (by assumption) (by assumption)
  clear HS HStd2 HEv
  obtain ⟨v1, v2, hs, hp, ha⟩ := hcut
  have HS2 := Lib.hid hs; have Hp := Lib.hid hp; have Ha := Lib.hid ha
  clear hs hp ha
  have HStd2 : Hid (∀ W', Fresh wc W' → Std W' col1) := fun W' hf => Hstd.out W' (fcomp HS2.out.fr hf) (Nat.lt_of_lt_of_le HS2.out.lt1 hf.size)
  have HMv2 : Hid (∀ W', Fresh wc W' → Move w col W' col1) := fun W' hf => Hmv.out _ (fcomp HS2.out.fr hf)
  go_wp2_with fail
  go_cut [] from 11 to 18 (fun wr => ∃ a1 a2 b1 b2 : SV, OwnSt w wr { e with prev := v1, auth := v2, cl := a1, cf := a2, rl := b1, rf := b2 } ∧ StrSl wr col1 (sv v1) e.d.prev ∧ StrSl wr col1 (sv v2) e.d.auth ∧ JVIs wr col1 e.d.content a1 a2 ∧ JVIs wr col1 e.d.raw b1 b2)
  case first =>
    have m10 := HS2.out.c10; have m11 := HS2.out.c11; have m12 := HS2.out.c12; have m13 := HS2.out.c13; have m14 := HS2.out.c14; have m15 := HS2.out.c15; have m16 := HS2.out.c16; have m17 := HS2.out.c17; have m18 := HS2.out.c18; have m19 := HS2.out.c19; have m20 := HS2.out.c20; have m21 := HS2.out.c21
    have HF : Hid (Fresh wc wc.drew) := (Fresh.rfl' wc).drew
    dsimp only at m10 m11 m12 m13 m14 m15 m16 m17 m18 m19 m20 m21
    go_region_law (first
     | (go_simp; go_at_call 41
        first
        | with_reducible refine (value_any He.out.content _ col1 (HMv2.out _ (Hid.out (by assumption))) (HStd2.out _ (Hid.out (by assumption)))).mono ?_
        | with_reducible refine (value_any He.out.raw _ col1 (HMv2.out _ (Hid.out (by assumption))) (HStd2.out _ (Hid.out (by assumption)))).mono ?_
        rintro r2 w2 ⟨a2, b2, rfl, hs2, hf2⟩
        have HFF := Lib.hid hf2
        have HF2 : Hid (Fresh wc w2) := fcomp (Hid.out (by assumption)) hf2
        have n10 := (HS2.out.fresh HF2.out).c10; have z10 := (HS2.out.fresh HF2.out).fz 10; have n11 := (HS2.out.fresh HF2.out).c11; have z11 := (HS2.out.fresh HF2.out).fz 11; have n12 := (HS2.out.fresh HF2.out).c12; have z12 := (HS2.out.fresh HF2.out).fz 12; have n13 := (HS2.out.fresh HF2.out).c13; have z13 := (HS2.out.fresh HF2.out).fz 13; have n14 := (HS2.out.fresh HF2.out).c14; have z14 := (HS2.out.fresh HF2.out).fz 14; have n15 := (HS2.out.fresh HF2.out).c15; have z15 := (HS2.out.fresh HF2.out).fz 15; have n16 := (HS2.out.fresh HF2.out).c16; have z16 := (HS2.out.fresh HF2.out).fz 16; have n17 := (HS2.out.fresh HF2.out).c17; have z17 := (HS2.out.fresh HF2.out).fz 17; have n18 := (HS2.out.fresh HF2.out).c18; have z18 := (HS2.out.fresh HF2.out).fz 18; have n19 := (HS2.out.fresh HF2.out).c19; have z19 := (HS2.out.fresh HF2.out).fz 19; have n20 := (HS2.out.fresh HF2.out).c20; have z20 := (HS2.out.fresh HF2.out).fz 20; have n21 := (HS2.out.fresh HF2.out).c21; have z21 := (HS2.out.fresh HF2.out).fz 21
        dsimp only at n10 n11 n12 n13 n14 n15 n16 n17 n18 n19 n20 n21
        have Hs2 := Lib.hid hs2; clear hs2 hf2))
    all_goals
      go_wp2_with fail
      go_meet
      refine ⟨_, _, _, _, ((HS2.out.fresh HF2.out).setC _ _).setR _ _, ?_, ?_, ?_, ?_⟩
      · iterate 12 (refine StrSl.move (col := col1) ?_ (move_setCell (by rw [Hcp.out]; decide)))
        exact str_fresh Hp HF2
      · iterate 12 (refine StrSl.move (col := col1) ?_ (move_setCell (by rw [Hcp.out]; decide)))
        exact str_fresh Ha HF2
      all_goals
        iterate 12 (refine JVIs.move (col := col1) ?_ (move_setCell (by rw [Hcp.out]; decide)))
        first
        | exact Hid.out (by assumption)
        | exact jv_fresh (by assumption) (by assumption)
  clear HS2 Hp Ha HStd2 HMv2
  obtain ⟨a1, a2, b1, b2, hs, hp, ha, hc, hr⟩ := hcut
  have HS3 := Lib.hid hs
  have hei : EvIs wc col1 { e with prev := v1, auth := v2, cl := a1, cf := a2, rl := b1, rf := b2 } := ⟨hp, ha, hc, hr, He.out.small⟩
  have Hei := Lib.hid hei
  obtain ⟨cs, hres, hcs⟩ := hs.res
  clear hs hp ha hc hr hei
  go_wp2_with (with_reducible refine stop_op (.load 38 (.tmp 1)) rfl ?_)
  refine Stand.go ?_
  refine wpList_load_row rfl 38 (.tmp 1) rfl w.heap.size rfl 38 _ (0, 0) _ HS3.out.box Tryz.underlying38 rfl info38s ?_
  go_wp2_with (with_reducible refine stop_op (.store 38 (.tmp 2) (.tmp 19)) rfl ?_)
  refine Stand.go ?_
  refine wpList_store_row rfl 38 (.tmp 2) (.tmp 19) rfl (w.heap.size + 1) rfl _ rfl 38 cs hres info38s hcs (EV.one _) ?_
  go_wp2_with fail
  generalize hE : ({ e with prev := v1, auth := v2, cl := a1, cf := a2, rl := b1, rf := b2 } : EV) = e' at *
  have hed : e'.d = e.d := by rw [← hE]
  have hmvf : Move wc col1 (wc.setRow (w.heap.size + 1) e'.cells) col :=
    ⟨by simp [World.setRow], fun c _ hc => setRow_other wc _ c _ (fun e => by rw [e, Hcr.out] at hc; exact absurd hc (by decide)), fun c _ hc => by
      rw [Hco.out c (fun e => by rw [e, Hcp.out] at hc; exact absurd hc (by decide)) (fun e => by rw [e, Hcr.out] at hc; exact absurd hc (by decide))] at hc
      exact hc⟩
  refine bodyPost_ret (results_cell1 rfl _ _ (w.heap.size + 1) 38 e'.cells (0, 0) _ rfl (setRow_heap _ _ cs _ _ _ hres) Tryz.underlying38 rfl info38s) rfl ⟨e', rfl, hed, Hei.out.move hmvf, fresh_setRow HS3.out.fr (Nat.le_succ _)⟩
end Go.Proofs.YtmjclmmiljlahaaGreat

set_option linter.unusedVariables false
set_option linter.unusedSimpArgs false
namespace Go.Proofs.YtmjclmmiljlahaaGreat
open Go.RowKit

/-- A node of a room. -/
structure Nd where
  blk : Nat
  e : EV
  mark : Int
  before : SV
  bl : List En
  after : SV
  al : List En
def Nd.id (n : Nd) : ByteArray := n.e.d.id
def Nd.cells (n : Nd) : Array Value :=
  #[.string n.e.d.id, .string n.e.d.ty, .string n.e.d.room, .string n.e.d.sender, .bool n.e.d.hk, .string n.e.d.key, sv n.e.prev, sv n.e.auth, .int .i64 n.e.d.depth, .int .i64 n.e.d.stamp,
    .int .i64 n.e.d.content.kind, .bool n.e.d.content.b, .int .i64 n.e.d.content.n, .string n.e.d.content.text, sv n.e.cl, sv n.e.cf,
    .int .i64 n.e.d.raw.kind, .bool n.e.d.raw.b, .int .i64 n.e.d.raw.n, .string n.e.d.raw.text, sv n.e.rl, sv n.e.rf, .int .i64 n.mark, sv n.before, sv n.after]

structure Rm where
  name : ByteArray
  nm : Nat
  st : SV
  od : SV
  ev : SV
  rj : SV
  em : Nat
  nw : SV
  stale : Bool
  top : Int
  ns : List Nd
  staged : List ByteArray
  order : List ByteArray
  evs : List EV
  rejected : List ByteArray
  ends : List ByteArray
  now : List En
def Rm.cells (r : Rm) : Array Value := #[.string r.name, .map (some r.nm), sv r.st, sv r.od, sv r.ev, sv r.rj, .map (some r.em), sv r.nw, .bool r.stale, .int .i64 r.top]

/-- A row of the call's or the room's own, whose block has a colour. -/
structure OwnC (w : World) (col : Col) (c e size : Nat) (v : SV) (n : Nat) (cs : List Value) : Prop where
  row : w.ownsRow 0 e size (sv v) n cs
  cl : ∀ b, (sv v).ownBlock = some b → col b = c
theorem OwnC.fresh {w w' : World} {col : Col} {c e size : Nat} {v : SV} {n : Nat} {cs : List Value} (h : OwnC w col c e size v n cs) (hf : Fresh w w') : OwnC w' col c e size v n cs :=
  ⟨ownsRow_fresh h.row hf, h.cl⟩
theorem ownsRow_block {w w' : World} {base e size : Nat} {v : Value} {n : Nat} {cs : List Value} (h : w.ownsRow base e size v n cs) (hb : ∀ b, v.ownBlock = some b → w'.heap[b]? = w.heap[b]?) : w'.ownsRow base e size v n cs := by
  refine ⟨h.1, ?_⟩
  rcases h.2 with h2 | ⟨g, cap, cur, rfl, hg, hh, h3⟩
  · exact .inl h2
  · exact .inr ⟨g, cap, cur, rfl, hg, (hb g rfl).trans hh, h3⟩

structure NdIs (w : World) (col : Col) (k : Nat) (n : Nd) : Prop where
  box : w.heap[n.blk]? = some (.cells n.cells 67 (0, 0))
  cl : col n.blk = k + 4
  ev : EvIs w col n.e
  before : EnSl w col n.before n.bl
  after : EnSl w col n.after n.al

/-- What a room holds, behind its own block. -/
structure RmRest (w : World) (col : Col) (k : Nat) (r : Rm) : Prop where
  nodes : MapIs Value.string w r.nm (r.ns.map fun n => (n.id, .pointer (some ⟨n.blk, 0, none⟩)))
  cn : col r.nm = k + 2
  ends : MapIs Value.string w r.em (r.ends.map fun s => (s, .bool true))
  ce : col r.em = k + 3
  nd : ∀ n ∈ r.ns, NdIs w col k n
  blks : (r.ns.map Nd.blk).Nodup
  st : OwnC w col (k + 5) 9 1 r.st r.staged.length (r.staged.map Value.string)
  od : OwnC w col (k + 6) 9 1 r.od r.order.length (r.order.map Value.string)
  ev : OwnC w col (k + 7) 38 22 r.ev r.evs.length (r.evs.flatMap fun e => e.cells.toList)
  rj : OwnC w col (k + 8) 9 1 r.rj r.rejected.length (r.rejected.map Value.string)
  evis : ∀ e ∈ r.evs, EvIs w col e
  now : EnSl w col r.nw r.now
  small : r.ns.length ≤ 4096 ∧ r.staged.length ≤ 4096 ∧ r.order.length ≤ 4096 ∧ r.evs.length ≤ 4096 ∧ r.rejected.length ≤ 4096 ∧ r.now.length ≤ 4096
structure RmIs (w : World) (col : Col) (k R : Nat) (r : Rm) : Prop where
  box : w.heap[R]? = some (.cells r.cells 60 (0, 0))
  cR : col R = k + 1
  rest : RmRest w col k r

/-- Every block of the colours given lies as it lay. -/
structure Keep (w : World) (col : Col) (w' : World) (col' : Col) (p : Nat → Prop) : Prop where
  size : w.heap.size ≤ w'.heap.size
  block : ∀ b, b < w.heap.size → p (col b) → w'.heap[b]? = w.heap[b]?
  color : ∀ b, b < w.heap.size → col' b = col b
  ot : w'.os = w.os ∧ w'.tape = w.tape ∧ w'.output = w.output
theorem Keep.ofFresh {w w' : World} {col : Col} {p : Nat → Prop} (h : Fresh w w') : Keep w col w' col p := ⟨h.size, fun b hb _ => h.blocks b hb, fun _ _ => rfl, h.os, h.tape, h.output⟩
theorem Keep.refl (w : World) (col : Col) (p : Nat → Prop) : Keep w col w col p := .ofFresh (Fresh.rfl' w)
theorem Keep.trans {w1 w2 w3 : World} {c1 c2 c3 : Col} {p : Nat → Prop} (h : Keep w1 c1 w2 c2 p) (g : Keep w2 c2 w3 c3 p) : Keep w1 c1 w3 c3 p :=
  ⟨Nat.le_trans h.size g.size, fun b hb hp => (g.block b (Nat.lt_of_lt_of_le hb h.size) (by rw [h.color b hb]; exact hp)).trans (h.block b hb hp),
    fun b hb => (g.color b (Nat.lt_of_lt_of_le hb h.size)).trans (h.color b hb), g.ot.1.trans h.ot.1, g.ot.2.1.trans h.ot.2.1, g.ot.2.2.trans h.ot.2.2⟩
theorem Keep.imp {w w' : World} {c c' : Col} {p q : Nat → Prop} (h : Keep w c w' c' p) (hq : ∀ x, q x → p x) : Keep w c w' c' q := ⟨h.size, fun b hb hp => h.block b hb (hq _ hp), h.color, h.ot⟩
theorem Keep.move {w w' : World} {c c' : Col} {p : Nat → Prop} (h : Keep w c w' c' p) (h0 : p 0) : Move w c w' c' :=
  ⟨h.size, fun b hb hc => h.block b hb (by rw [hc]; exact h0), fun b hb hc => (h.color b hb).trans hc⟩

theorem own_lt {w : World} {base e size : Nat} {v : Value} {n : Nat} {cs : List Value} (h : w.ownsRow base e size v n cs) {b : Nat} (hb : v.ownBlock = some b) : b < w.heap.size := (h.lt b hb).2
theorem OwnC.keep {w w' : World} {col col' : Col} {c e size : Nat} {v : SV} {n : Nat} {cs : List Value} {p : Nat → Prop} (h : OwnC w col c e size v n cs) (hk : Keep w col w' col' p) (hp : p c) : OwnC w' col' c e size v n cs :=
  ⟨ownsRow_block h.row fun b hb => hk.block b (own_lt h.row hb) (by rw [h.cl b hb]; exact hp), fun b hb => (hk.color b (own_lt h.row hb)).trans (h.cl b hb)⟩
theorem box_lt {w : World} {b : Nat} {o : Obj} (h : w.heap[b]? = some o) : b < w.heap.size := (Array.getElem?_eq_some_iff.1 h).1
theorem NdIs.keep {w w' : World} {col col' : Col} {k : Nat} {n : Nd} {p : Nat → Prop} (h : NdIs w col k n) (hk : Keep w col w' col' p) (h0 : p 0) (h4 : p (k + 4)) : NdIs w' col' k n :=
  ⟨(hk.block _ (box_lt h.box) (by rw [h.cl]; exact h4)).trans h.box, (hk.color _ (box_lt h.box)).trans h.cl, h.ev.move (hk.move h0), h.before.move (hk.move h0), h.after.move (hk.move h0)⟩
/-- The colours of room k, but its own block. -/
def restC (k : Nat) : Nat → Prop := fun c => c = 0 ∨ k + 2 ≤ c ∧ c ≤ k + 8
theorem RmRest.keep {w w' : World} {col col' : Col} {k : Nat} {r : Rm} {p : Nat → Prop} (h : RmRest w col k r) (hk : Keep w col w' col' p) (hp : ∀ c, restC k c → p c) : RmRest w' col' k r where
  nodes := h.nodes.block (hk.block _ h.nodes.lt (by rw [h.cn]; exact hp _ (.inr (by omega))))
  cn := (hk.color _ h.nodes.lt).trans h.cn
  ends := h.ends.block (hk.block _ h.ends.lt (by rw [h.ce]; exact hp _ (.inr (by omega))))
  ce := (hk.color _ h.ends.lt).trans h.ce
  nd := fun n hn => (h.nd n hn).keep hk (hp _ (.inl rfl)) (hp _ (.inr (by omega)))
  blks := h.blks
  st := h.st.keep hk (hp _ (.inr (by omega)))
  od := h.od.keep hk (hp _ (.inr (by omega)))
  ev := h.ev.keep hk (hp _ (.inr (by omega)))
  rj := h.rj.keep hk (hp _ (.inr (by omega)))
  evis := fun e he => (h.evis e he).move (hk.move (hp _ (.inl rfl)))
  now := h.now.move (hk.move (hp _ (.inl rfl)))
  small := h.small
theorem RmIs.keep {w w' : World} {col col' : Col} {k R : Nat} {r : Rm} {p : Nat → Prop} (h : RmIs w col k R r) (hk : Keep w col w' col' p) (hp : ∀ c, c = 0 ∨ k + 1 ≤ c ∧ c ≤ k + 8 → p c) : RmIs w' col' k R r :=
  ⟨(hk.block _ (box_lt h.box) (by rw [h.cR]; exact hp _ (.inr (by omega)))).trans h.box, (hk.color _ (box_lt h.box)).trans h.cR, h.rest.keep hk (fun c hc => hp c (by rcases hc with h | h <;> omega))⟩
theorem RmIs.fresh {w w' : World} {col : Col} {k R : Nat} {r : Rm} (h : RmIs w col k R r) (hf : Fresh w w') : RmIs w' col k R r := h.keep (p := fun _ => True) (Keep.ofFresh hf) (fun _ _ => trivial)

/-- A store into one block alone. -/
theorem keep_setCell {w : World} {col : Col} {g o : Nat} {v : Value} : Keep w col (w.setCell ⟨g, o, none⟩ v) col (fun c => c ≠ col g) :=
  ⟨by rw [setCell_hsize]; exact Nat.le_refl _, fun b _ hb => setCell_block (fun e => hb (by rw [e])), fun _ _ => rfl, by unfold World.setCell; split <;> exact ⟨rfl, rfl, rfl⟩⟩
theorem keep_setObj {w : World} {col : Col} {g : Nat} {o : Obj} : Keep w col (World.setObj' w g o) col (fun c => c ≠ col g) :=
  ⟨by rw [setObj'_size]; exact Nat.le_refl _, fun b _ hb => setObj'_other (fun e => hb (by rw [e])), fun _ _ => rfl, rfl, rfl, rfl⟩

namespace RmIs
variable {w : World} {col : Col} {k R : Nat} {r : Rm}
theorem lt (h : RmIs w col k R r) : R < w.heap.size := box_lt h.box
theorem c0 (h : RmIs w col k R r) : w.cell? ⟨R, 0, none⟩ = some (.string r.name) := by simp only [World.cell?, h.box]; rfl
theorem c1 (h : RmIs w col k R r) : w.cell? ⟨R, 1, none⟩ = some (.map (some r.nm)) := by simp only [World.cell?, h.box]; rfl
theorem c2 (h : RmIs w col k R r) : w.cell? ⟨R, 2, none⟩ = some (.slice r.st.a r.st.n r.st.c) := by simp only [World.cell?, h.box]; rfl
theorem c3 (h : RmIs w col k R r) : w.cell? ⟨R, 3, none⟩ = some (.slice r.od.a r.od.n r.od.c) := by simp only [World.cell?, h.box]; rfl
theorem c4 (h : RmIs w col k R r) : w.cell? ⟨R, 4, none⟩ = some (.slice r.ev.a r.ev.n r.ev.c) := by simp only [World.cell?, h.box]; rfl
theorem c5 (h : RmIs w col k R r) : w.cell? ⟨R, 5, none⟩ = some (.slice r.rj.a r.rj.n r.rj.c) := by simp only [World.cell?, h.box]; rfl
theorem c6 (h : RmIs w col k R r) : w.cell? ⟨R, 6, none⟩ = some (.map (some r.em)) := by simp only [World.cell?, h.box]; rfl
theorem c7 (h : RmIs w col k R r) : w.cell? ⟨R, 7, none⟩ = some (.slice r.nw.a r.nw.n r.nw.c) := by simp only [World.cell?, h.box]; rfl
theorem c8 (h : RmIs w col k R r) : w.cell? ⟨R, 8, none⟩ = some (.bool r.stale) := by simp only [World.cell?, h.box]; rfl
theorem c9 (h : RmIs w col k R r) : w.cell? ⟨R, 9, none⟩ = some (.int .i64 r.top) := by simp only [World.cell?, h.box]; rfl
theorem fz (h : RmIs w col k R r) (o : Nat) : w.frozen? ⟨R, o, none⟩ = false := by simp only [World.frozen?, h.box]; simp
end RmIs
namespace NdIs
variable {w : World} {col : Col} {k : Nat} {n : Nd}
theorem at_ (h : NdIs w col k n) (o : Nat) : w.cell? ⟨n.blk, o, none⟩ = n.cells[o]? := by simp only [World.cell?, h.box]; simp
theorem fz (h : NdIs w col k n) (o : Nat) : w.frozen? ⟨n.blk, o, none⟩ = false := by simp only [World.frozen?, h.box]; simp
theorem lt (h : NdIs w col k n) : n.blk < w.heap.size := box_lt h.box
theorem ev_cells (h : NdIs w col k n) : ∀ j, j < n.e.cells.size → w.cell? ⟨n.blk, 0 + j, none⟩ = n.e.cells[j]? := by
  intro j hj
  rw [Nat.zero_add, h.at_]
  have h22 : j < 22 := hj
  match j, h22 with
  | 0, _ => rfl
  | 1, _ => rfl
  | 2, _ => rfl
  | 3, _ => rfl
  | 4, _ => rfl
  | 5, _ => rfl
  | 6, _ => rfl
  | 7, _ => rfl
  | 8, _ => rfl
  | 9, _ => rfl
  | 10, _ => rfl
  | 11, _ => rfl
  | 12, _ => rfl
  | 13, _ => rfl
  | 14, _ => rfl
  | 15, _ => rfl
  | 16, _ => rfl
  | 17, _ => rfl
  | 18, _ => rfl
  | 19, _ => rfl
  | 20, _ => rfl
  | 21, _ => rfl
  | j + 22, h => exact absurd h (by omega)
end NdIs

/-- The node of an ID. -/
def Rm.find (r : Rm) (id : ByteArray) : Option Nd := r.ns.find? fun n => decide (n.id = id)
theorem getKV_nodes (l : List Nd) (id : ByteArray) : getKV (l.map fun n => (n.id, Value.pointer (some ⟨n.blk, 0, none⟩))) id = (l.find? fun n => decide (n.id = id)).map fun n => Value.pointer (some ⟨n.blk, 0, none⟩) := by
  induction l with
  | nil => rfl
  | cons a l ih =>
    rw [List.map_cons, getKV_cons, List.find?_cons]
    by_cases h : a.id = id
    · simp [h]
    · simp [h, ih]
theorem Rm.find_mem {r : Rm} {id : ByteArray} {n : Nd} (h : r.find id = some n) : n ∈ r.ns ∧ n.id = id := by
  refine ⟨List.mem_of_find?_eq_some h, ?_⟩
  have := List.find?_some h
  simpa using this
theorem zero63 (w : World) : (zeroValue 63).run Tryz.prog w = .ok (.pointer none) w := by kernel_rfl
theorem look_node {w : World} {col : Col} {k R : Nat} {r : Rm} (h : RmIs w col k R r) (id : ByteArray) :
    (Instr.lookup 57 (.map (some r.nm)) (.string id) false).run Tryz.prog w = .ok (match r.find id with | some n => .pointer (some ⟨n.blk, 0, none⟩) | none => .pointer none) w := by
  have := run_lookup_map strKey Tryz.underlying57 zero63 h.rest.nodes id false
  rw [getKV_nodes] at this
  rw [this]
  unfold Rm.find
  cases r.ns.find? (fun n => decide (n.id = id)) <;> rfl

def markOf (r : Rm) (id : ByteArray) : Int := match r.find id with | some n => n.mark | none => 0

set_option maxRecDepth 10000 in
set_option maxHeartbeats 400000 in
theorem mark_any {w : World} {col : Col} {k R : Nat} {r : Rm} (h : RmIs w col k R r) (id : ByteArray) :
    Calls Tryz.prog 9 #[.pointer (some ⟨R, 0, none⟩), .string id] w fun e w' => e = .returned (.int .i64 (markOf r id)) ∧ w = w' := by
  have hl := look_node h id
  have h1 := h.c1
  unfold markOf
  cases hf : r.find id with
  | none =>
    rw [hf] at hl
    dsimp only at hl
    clear hf
    have H := Lib.hid h; clear h
    go_enter Tryz.func9, Tryz.ntmps9
    go_wp2
    go_ret
    exact ⟨rfl, rfl⟩
  | some n =>
    rw [hf] at hl
    dsimp only at hl
    have hm : w.cell? ⟨n.blk, 22, none⟩ = some (.int .i64 n.mark) := ((h.rest.nd n (Rm.find_mem hf).1).at_ 22).trans rfl
    clear hf
    have H := Lib.hid h; clear h
    go_enter Tryz.func9, Tryz.ntmps9
    go_wp2
    go_ret
    exact ⟨rfl, rfl⟩

theorem marked_any {w : World} {col : Col} {k R : Nat} {r : Rm} (h : RmIs w col k R r) (id : ByteArray) :
    Calls Tryz.prog 34 #[.pointer (some ⟨R, 0, none⟩), .string id] w fun e w' => e = .returned (.bool (decide (1 < markOf r id))) ∧ w = w' := by
  have H := Lib.hid h; clear h
  go_enter Tryz.func34, Tryz.ntmps34
  go_wp2_with (go_at_call 9; refine (mark_any H.out id).mono ?_; rintro e w' ⟨rfl, rfl⟩)
  go_ret
  exact ⟨rfl, rfl⟩
end Go.Proofs.YtmjclmmiljlahaaGreat

set_option linter.unusedVariables false
set_option linter.unusedSimpArgs false
namespace Go.Proofs.YtmjclmmiljlahaaGreat
open Go.RowKit

def readyF (r : Rm) (e : Ev) : Bool := (e.prev ++ e.auth).all fun id => decide (1 < markOf r id)

theorem all_step {α : Type} (p : α → Bool) {l : List α} {k : Nat} (h : k < l.length) : (l.drop k).all p = (p l[k] && (l.drop (k + 1)).all p) := by
  rw [List.drop_eq_getElem_cons h]; rfl

set_option maxRecDepth 10000 in
set_option maxHeartbeats 400000 in
theorem ready_any {w : World} {col : Col} {k R : Nat} {r : Rm} (h : RmIs w col k R r) (e : EV) (hcol : Std w col) (he : EvIs w col e) :
    Calls Tryz.prog 25 #[.pointer (some ⟨R, 0, none⟩), evV e] w fun x w' => x = .returned (.bool (readyF r e.d)) ∧ Fresh w w' := by
  have H := Lib.hid h; have He := Lib.hid he; clear h he
  dsimp only [evV]
  go_enter Tryz.func25, Tryz.ntmps25
  go_wp2_with (with_reducible refine stop_op (.load 38 (.tmp 3)) rfl ?_)
  refine Stand.go ?_
  refine wpList_load_row rfl 38 (.tmp 3) rfl w.heap.size rfl 38 e.cells (0, 0) _ (heap_alloc_new _ _) Tryz.underlying38 rfl info38s ?_
  go_wp2_with fail
  have hf0 : Fresh w (w.alloc (.cells e.cells 38)) := (Fresh.rfl' w).alloc (Nat.le_refl _) _
  refine (needs_any e col _ (hcol.fresh hf0) (He.out.fresh hf0)).mono ?_
  rintro x w1 ⟨v', rfl, hv', hf1⟩
  have HF := Lib.hid (fcomp hf0 hf1)
  have Hv := Lib.hid hv'
  obtain ⟨ao, cap, rfl, hc, hm, hlen, hj⟩ := hv'.open
  have Hj := Lib.hid hj
  clear hf0 hf1 hv' hj
  obtain ⟨l, hl⟩ : ∃ l, l = e.d.prev ++ e.d.auth := ⟨_, rfl⟩
  have HL : Hid (readyF r e.d = l.all fun id => decide (1 < markOf r id)) := by rw [hl]; rfl
  rw [← hl] at Hj hc hlen Hv
  rw [← hl]
  clear hl
  go_wp2_with fail
  go_loopw [10] (fun i wr => ∃ q : Nat, q ≤ l.length ∧ i = .int .i64 q ∧ wr = w1 ∧ Hid ((l.drop q).all (fun id => decide (1 < markOf r id)) = l.all fun id => decide (1 < markOf r id))) (fun i _ => l.length - (intOf i).toNat)
  case atStart => exact ⟨0, Nat.zero_le _, rfl, rfl, rfl⟩
  case round =>
    obtain ⟨q, hq, rfl, rfl, hr⟩ := hrel
    by_cases hlt : q < l.length
    · obtain ⟨b, off, rfl, hb, hcx⟩ := Hj.out q hlt
      cases hp : decide (1 < markOf r l[q])
      · have HR : Hid (readyF r e.d = false) := by rw [HL.out, ← hr.out, all_step _ hlt, hp]; rfl
        have HP := Lib.hid hp; clear hp hr
        go_wp2_with fail
        refine (marked_any (H.out.fresh HF.out) l[q]).mono ?_
        rintro x w2 ⟨rfl, rfl⟩
        rw [HP.out]
        go_wp2_with fail
        go_ret
        exact ⟨ret_bool HR.out.symm, HF.out⟩
      · have HR : Hid ((l.drop (q + 1)).all (fun id => decide (1 < markOf r id)) = l.all fun id => decide (1 < markOf r id)) := by rw [← hr.out, all_step _ hlt, hp]; rfl
        have HP := Lib.hid hp; clear hp hr
        go_wp2_with fail
        refine (marked_any (H.out.fresh HF.out) l[q]).mono ?_
        rintro x w2 ⟨rfl, rfl⟩
        rw [HP.out]
        go_wp2_with fail
        go_roundw
        case rel => exact ⟨q + 1, by omega, by go_num, trivial, HR⟩
        case measure => simp [intOf]; omega
    · have h9 := hr.out
      rw [List.drop_of_length_le (by omega), List.all_nil] at h9
      have HR : Hid (readyF r e.d = true) := HL.out.trans h9.symm
      clear hr
      go_wp2_with fail
      go_ret
      exact ⟨ret_bool HR.out.symm, HF.out⟩

theorem run_load_cells {P : Program} {w : World} (ty : TypeId) (b off : Nat) (cs : Array Value) (hc : ∀ j, j < cs.size → w.cell? ⟨b, off + j, none⟩ = cs[j]?) (d : TypeDesc)
    (hu : P.underlying ty = some d) (hd : (match d with | .struct _ | .array _ _ => true | _ => false) = true) (hi : (P.info? ty).map (·.size) = some cs.size) :
    (loadVar ty ⟨b, off, none⟩).run P w = .ok (.agg cs) w := by
  obtain ⟨i, hi1, hi2⟩ := Option.map_eq_some_iff.1 hi
  have hlc := run_loadCells_at (P := P) w b off cs hc cs.size 0 #[] (by omega) (by simp)
  have hagg : (isAgg ty).run P w = .ok true w := by
    cases d <;> simp at hd <;> simp [isAgg, run_underlying hu]
  have hso : (sizeOf ty).run P w = .ok cs.size w := by simp [sizeOf, typeInfo, hi1, hi2]
  simp only [loadVar, Sem.run_bind, hagg, Result.andThen_ok, if_true, hso, loadCells, hlc]
  rfl
/-- A load of a whole struct, in the head of a region that draws. -/
theorem wpStill_load_cells {P : Program} {ops : Array Oper} {rest : List Oper} {o : Oper} {a : Act} {Q : Act → Prop} {w : World} (hgd : o.guard = none) (ty : TypeId) (x : Operand) (ho : o.op = .load ty x)
    (b off : Nat) (hx : a.eval x = .pointer (some ⟨b, off, none⟩)) (cs : Array Value) (hc : ∀ j, j < cs.size → w.cell? ⟨b, off + j, none⟩ = cs[j]?) (d : TypeDesc)
    (hu : P.underlying ty = some d) (hd : (match d with | .struct _ | .array _ _ => true | _ => false) = true) (hi : (P.info? ty).map (·.size) = some cs.size)
    (h : wpStill P ops w Q rest (a.put o.dst (.agg cs))) : wpStill P ops w Q (o :: rest) a :=
  wpStill_step fun K hK => by
    rw [if_pos (by simp [Region.wanted, hgd])]
    unfold Oper.still execOp
    simp only [ho, hx, Instr.loadAt, Instr.sureAddr, Sem.run_bind, Sem.run_pure, Result.andThen_ok, run_load_cells ty b off cs hc d hu hd hi, Oper.stillUpon_value]
    exact hK _ h

set_option maxRecDepth 10000 in
set_option maxHeartbeats 400000 in
/-- The closure in Take: whether a staged event is ready. -/
theorem take1_any {w : World} {col : Col} {k R : Nat} {r : Rm} (h : RmIs w col k R r) (hcol : Std w col) (id : ByteArray) (n : Nd) (hn : r.find id = some n) (b : Nat) (hb : w.cell? ⟨b, 0, none⟩ = some (.pointer (some ⟨R, 0, none⟩))) :
    Calls Tryz.prog 29 #[.string id, .pointer (some ⟨b, 0, none⟩)] w fun x w' => x = .returned (.bool (readyF r n.e.d)) ∧ Fresh w w' := by
  have hnd := h.rest.nd n (Rm.find_mem hn).1
  have hc := fun W (hf : Fresh w W) => ready_any (h.fresh hf) n.e (hcol.fresh hf) (hnd.ev.fresh hf)
  have H := Lib.hid h; have HN := Lib.hid hnd; have HC := Lib.hid hc
  have h1 := h.c1
  have hl := look_node (h.fresh (Fresh.rfl' w).drew) id
  rw [hn] at hl
  dsimp only at hl
  clear h hnd hn hc
  go_enter Tryz.func29, Tryz.ntmps29
  go_wp2_with fail
  refine wp_region_still_tail 10 (by kernel_rfl) (by kernel_rfl) ?_
  simp only [List.take_succ_cons, List.take_zero, List.drop_succ_cons, List.drop_zero]
  iterate 9 still_step
  refine wpStill_load_cells rfl 38 (.tmp 12) rfl n.blk 0 rfl n.e.cells (HN.out.ev_cells) _ Tryz.underlying38 rfl info38s ?_
  refine wpStill_nil ?_
  go_wp2_with fail
  refine (HC.out _ (Fresh.rfl' w).drew).mono ?_
  rintro x w2 ⟨rfl, hf2⟩
  have HF2 : Hid (Fresh w w2) := hf2.ofDrew
  clear hf2
  go_wp2_with fail
  go_ret
  exact ⟨rfl, HF2.out⟩

/-- What the closure of Take finds among the staged: the first that is ready. -/
def readyAt (r : Rm) (id : ByteArray) : Bool := match r.find id with | some n => readyF r n.e.d | none => false

set_option maxRecDepth 10000 in
set_option maxHeartbeats 400000 in
theorem index_staged {w : World} {col : Col} {k R : Nat} {r : Rm} (h : RmIs w col k R r) (hcol : Std w col) (b : Nat) (hb : w.cell? ⟨b, 0, none⟩ = some (.pointer (some ⟨R, 0, none⟩)))
    (hst : ∀ id ∈ r.staged, (r.find id).isSome = true) :
    Calls Tryz.prog 28 #[sv r.st, .func (.func 29) #[] #[.pointer (some ⟨b, 0, none⟩)]] w fun x w' => x = .returned (.int .i64 (idxA (readyAt r) r.staged 0)) ∧ Fresh w w' := by
  have hcell := h.rest.st.row
  obtain ⟨l, hl⟩ : ∃ l, l = r.staged := ⟨_, rfl⟩
  have hsm := h.rest.small.2.1
  have hc : ∀ W, Fresh w W → ∀ id ∈ l, Calls Tryz.prog 29 #[.string id, .pointer (some ⟨b, 0, none⟩)] W fun x w' => x = .returned (.bool (readyAt r id)) ∧ Fresh W w' := fun W hf id hid => by
    rw [hl] at hid
    obtain ⟨n, hn⟩ := Option.isSome_iff_exists.1 (hst id hid)
    have h1 := take1_any (h.fresh hf) (hcol.fresh hf) id n hn b (hf.keep hb)
    have e : readyF r n.e.d = readyAt r id := by unfold readyAt; rw [hn]
    rw [e] at h1
    exact h1
  have HC := Lib.hid hc
  have hsl : ∃ ao cap, sv r.st = .slice ao l.length cap ∧ l.length ≤ cap ∧ cap ≤ 9223372036854775807 ∧ ∀ q (hq : q < l.length), ∃ g, ao = some ⟨g, 0, none⟩ ∧ w.cell? ⟨g, q, none⟩ = some (.string l[q]) := by
    subst hl
    rcases hcell.2 with ⟨h1, h2⟩ | ⟨g, cap, cur, h1, _, _, h4, h5, _⟩
    · exact ⟨none, 0, by rw [h2]; exact h1, by omega, by omega, fun q hq => by omega⟩
    · refine ⟨_, cap, h1, h4, by unfold maxLen at h5; omega, fun q hq => ⟨g, rfl, ?_⟩⟩
      rw [h1] at hcell
      rw [World.ownsRow.cellAt hcell q (by simpa using hq)]
      simp [hq]
  obtain ⟨ao, cap, hv, hcp, hm, hj⟩ := hsl
  rw [hv, ← hl]
  rw [← hl] at hsm
  have Hj := Lib.hid hj
  clear hj hv hc hcell hst hl h hb
  go_enter Tryz.func28, Tryz.ntmps28
  go_wp2_with fail
  go_loopw [8] (fun i wr => ∃ q : Nat, q ≤ l.length ∧ i = .int .i64 q ∧ Hid (Fresh w wr) ∧ Hid (idxA (readyAt r) (l.drop q) q = idxA (readyAt r) l 0)) (fun i _ => l.length - (intOf i).toNat)
  case atStart => exact ⟨0, Nat.zero_le _, rfl, Fresh.rfl' w, rfl⟩
  case round =>
    obtain ⟨q, hq, rfl, hf, hr⟩ := hrel
    by_cases hlt : q < l.length
    · obtain ⟨g, rfl, hcx⟩ := Hj.out q hlt
      have hcx := hf.out.keep hcx
      cases hp : readyAt r l[q]
      · have hr' := idxA_miss (p := readyAt r) hlt hp
        have HR : Hid (idxA (readyAt r) (l.drop (q+1)) (q+1) = idxA (readyAt r) l 0) := by rw [← hr']; exact hr.out
        have HP := Lib.hid hp; clear hp hr hr'
        go_wp2_with fail
        refine (HC.out _ hf.out _ (List.getElem_mem hlt)).mono ?_
        rintro x w2 ⟨rfl, hf2⟩
        have HF2 : Hid (Fresh w w2) := fcomp hf.out hf2
        rw [HP.out]
        clear hf hf2 hcx
        go_wp2_with fail
        go_roundw
        case rel => exact ⟨q + 1, by omega, by go_num, HF2, HR⟩
        case measure => simp [intOf]; omega
      · have hr' := idxA_hit (p := readyAt r) hlt hp
        have HR : Hid ((q : Int) = idxA (readyAt r) l 0) := by rw [← hr']; exact hr.out
        have HP := Lib.hid hp; clear hp hr hr'
        go_wp2_with fail
        refine (HC.out _ hf.out _ (List.getElem_mem hlt)).mono ?_
        rintro x w2 ⟨rfl, hf2⟩
        have HF2 : Hid (Fresh w w2) := fcomp hf.out hf2
        rw [HP.out]
        clear hf hf2 hcx
        go_wp2_with fail
        go_ret
        exact ⟨ret_int HR.out, HF2.out⟩
    · have HR : Hid (-1 = idxA (readyAt r) l 0) := by rw [← hr.out, idxA_end (by omega)]; rfl
      clear hr
      go_wp2_with fail
      go_ret
      exact ⟨ret_int HR.out, hf.out⟩
end Go.Proofs.YtmjclmmiljlahaaGreat

set_option linter.unusedVariables false
set_option linter.unusedSimpArgs false
namespace Go.Proofs
open Go.RowKit Go.Maps Go.Sort Go.Shelf
def Tryz.keys33_ren : Go.Shelf.Ren := ⟨fun | 7 => 33 | 10 => 47 | n => n, fun | 23 => 58 | 26 => 9 | 3 => 4 | 28 => 76 | 0 => 0 | 27 => 75 | 33 => 56 | 4 => 4 | n => n, fun | n => n⟩
theorem Tryz.keys33 : Go.Proofs.SlLaysZ.n7 Tryz.prog Tryz.keys33_ren := {
  mixed := by kernel_rfl
  f7 := ⟨Tryz.f33.name, by decide, Tryz.func33.trans (congrArg some (by kernel_rfl))⟩
  f10 := ⟨Tryz.f47.name, by decide, Tryz.func47.trans (congrArg some (by kernel_rfl))⟩
  t0 := Tryz.underlying0
  a0 := Tryz.isAgg0
  z0 := Tryz.sizeOf0
  v0 := Tryz.zeroValue0
  t4 := Tryz.underlying4
  a4 := Tryz.isAgg4
  z4 := Tryz.sizeOf4
  v4 := Tryz.zeroValue4
  t23 := Tryz.underlying58
  a23 := Tryz.isAgg58
  z23 := Tryz.sizeOf58
  v23 := Tryz.zeroValue58
  t26 := Tryz.underlying9
  a26 := Tryz.isAgg9
  z26 := Tryz.sizeOf9
  v26 := Tryz.zeroValue9
  t27 := Tryz.underlying75
  a27 := Tryz.isAgg75
  z27 := Tryz.sizeOf75
  v27 := Tryz.zeroValue75
  t28 := Tryz.underlying76
  a28 := Tryz.isAgg76
  z28 := Tryz.sizeOf76
  v28 := Tryz.zeroValue76
  t33 := Tryz.underlying56
  a33 := Tryz.isAgg56
  z33 := Tryz.sizeOf56
  v33 := Tryz.zeroValue56 }
def Tryz.sorted32_ren : Go.Shelf.Ren := ⟨fun | 6 => 32 | 8 => 45 | 9 => 46 | 11 => 61 | 13 => 63 | 12 => 62 | 23 => 96 | 24 => 97 | 14 => 87 | 15 => 88 | 16 => 89 | 17 => 90 | 18 => 91 | 19 => 92 | 20 => 93 | 21 => 94 | 22 => 95 | 25 => 134 | 26 => 135 | 27 => 136 | 28 => 137 | 29 => 138 | 30 => 139 | 31 => 160 | n => n, fun | 26 => 9 | 28 => 76 | 24 => 30 | 0 => 0 | 3 => 3 | 37 => 107 | 48 => 145 | 50 => 147 | 4 => 4 | 40 => 139 | 39 => 138 | 45 => 100 | 5 => 5 | 9 => 9 | 51 => 177 | 55 => 181 | 57 => 199 | 58 => 200 | 33 => 56 | n => n, fun | n => n⟩
theorem Tryz.sorted32 : Go.Proofs.SlLaysZ.n6 Tryz.prog Tryz.sorted32_ren := {
  mixed := by kernel_rfl
  f6 := ⟨Tryz.f32.name, by decide, Tryz.func32.trans (congrArg some (by kernel_rfl))⟩
  f8 := ⟨Tryz.f45.name, by decide, Tryz.func45.trans (congrArg some (by kernel_rfl))⟩
  f11 := ⟨Tryz.f61.name, by decide, Tryz.func61.trans (congrArg some (by kernel_rfl))⟩
  t0 := Tryz.underlying0
  a0 := Tryz.isAgg0
  z0 := Tryz.sizeOf0
  v0 := Tryz.zeroValue0
  t24 := Tryz.underlying30
  a24 := Tryz.isAgg30
  z24 := Tryz.sizeOf30
  v24 := Tryz.zeroValue30
  t26 := Tryz.underlying9
  a26 := Tryz.isAgg9
  z26 := Tryz.sizeOf9
  v26 := Tryz.zeroValue9
  t28 := Tryz.underlying76
  a28 := Tryz.isAgg76
  z28 := Tryz.sizeOf76
  v28 := Tryz.zeroValue76
  i26 := by kernel_rfl }
def Tryz.sort46_ren : Go.Shelf.Ren := ⟨fun | 6 => 46 | 8 => 63 | 9 => 62 | 19 => 96 | 20 => 97 | 21 => 87 | 22 => 88 | 23 => 89 | 24 => 90 | 25 => 91 | 26 => 92 | 27 => 93 | 28 => 94 | 29 => 95 | 36 => 134 | 31 => 135 | 32 => 136 | 37 => 137 | 38 => 138 | 39 => 139 | 41 => 160 | n => n, fun | 27 => 30 | 29 => 9 | 3 => 3 | 32 => 107 | 26 => 30 | 0 => 0 | 44 => 145 | 46 => 147 | 4 => 4 | 36 => 139 | 35 => 138 | 41 => 100 | 5 => 5 | 9 => 9 | 53 => 177 | 57 => 181 | 63 => 199 | 64 => 200 | n => n, fun | n => n⟩
theorem Tryz.sort46 : Go.Proofs.SlLaysM.n6 Tryz.prog Tryz.sort46_ren := {
  mixed := by kernel_rfl
  f6 := ⟨Tryz.f46.name, by decide, Tryz.func46.trans (congrArg some (by kernel_rfl))⟩
  f8 := Tryz.func63.trans (congrArg some (by kernel_rfl))
  f9 := ⟨Tryz.f62.name, by decide, Tryz.func62.trans (congrArg some (by kernel_rfl))⟩
  f19 := Tryz.func96.trans (congrArg some (by kernel_rfl))
  f20 := Tryz.func97.trans (congrArg some (by kernel_rfl))
  f21 := ⟨Tryz.f87.name, by decide, Tryz.func87.trans (congrArg some (by kernel_rfl))⟩
  f22 := ⟨Tryz.f88.name, by decide, Tryz.func88.trans (congrArg some (by kernel_rfl))⟩
  f23 := ⟨Tryz.f89.name, by decide, Tryz.func89.trans (congrArg some (by kernel_rfl))⟩
  f24 := ⟨Tryz.f90.name, by decide, Tryz.func90.trans (congrArg some (by kernel_rfl))⟩
  f25 := ⟨Tryz.f91.name, by decide, Tryz.func91.trans (congrArg some (by kernel_rfl))⟩
  f26 := ⟨Tryz.f92.name, by decide, Tryz.func92.trans (congrArg some (by kernel_rfl))⟩
  f27 := ⟨Tryz.f93.name, by decide, Tryz.func93.trans (congrArg some (by kernel_rfl))⟩
  f28 := ⟨Tryz.f94.name, by decide, Tryz.func94.trans (congrArg some (by kernel_rfl))⟩
  f29 := ⟨Tryz.f95.name, by decide, Tryz.func95.trans (congrArg some (by kernel_rfl))⟩
  f31 := Tryz.func135.trans (congrArg some (by kernel_rfl))
  f32 := Tryz.func136.trans (congrArg some (by kernel_rfl))
  f36 := ⟨Tryz.f134.name, by decide, Tryz.func134.trans (congrArg some (by kernel_rfl))⟩
  f37 := ⟨Tryz.f137.name, by decide, Tryz.func137.trans (congrArg some (by kernel_rfl))⟩
  f38 := ⟨Tryz.f138.name, by decide, Tryz.func138.trans (congrArg some (by kernel_rfl))⟩
  f39 := ⟨Tryz.f139.name, by decide, Tryz.func139.trans (congrArg some (by kernel_rfl))⟩
  f41 := ⟨Tryz.f160.name, by decide, Tryz.func160.trans (congrArg some (by kernel_rfl))⟩
  t0 := Tryz.underlying0
  a0 := Tryz.isAgg0
  z0 := Tryz.sizeOf0
  v0 := Tryz.zeroValue0
  t3 := Tryz.underlying3
  a3 := Tryz.isAgg3
  z3 := Tryz.sizeOf3
  v3 := Tryz.zeroValue3
  t4 := Tryz.underlying4
  a4 := Tryz.isAgg4
  z4 := Tryz.sizeOf4
  v4 := Tryz.zeroValue4
  t5 := Tryz.underlying5
  a5 := Tryz.isAgg5
  z5 := Tryz.sizeOf5
  v5 := Tryz.zeroValue5
  t9 := Tryz.underlying9
  a9 := Tryz.isAgg9
  z9 := Tryz.sizeOf9
  v9 := Tryz.zeroValue9
  t26 := Tryz.underlying30
  a26 := Tryz.isAgg30
  z26 := Tryz.sizeOf30
  v26 := Tryz.zeroValue30
  t27 := Tryz.underlying30
  a27 := Tryz.isAgg30
  z27 := Tryz.sizeOf30
  v27 := Tryz.zeroValue30
  t29 := Tryz.underlying9
  a29 := Tryz.isAgg9
  z29 := Tryz.sizeOf9
  v29 := Tryz.zeroValue9
  t32 := Tryz.underlying107
  a32 := Tryz.isAgg107
  z32 := Tryz.sizeOf107
  v32 := Tryz.zeroValue107
  t35 := Tryz.underlying138
  a35 := Tryz.isAgg138
  z35 := Tryz.sizeOf138
  v35 := Tryz.zeroValue138
  t36 := Tryz.underlying139
  a36 := Tryz.isAgg139
  z36 := Tryz.sizeOf139
  v36 := Tryz.zeroValue139
  t41 := Tryz.underlying100
  a41 := Tryz.isAgg100
  z41 := Tryz.sizeOf100
  v41 := Tryz.zeroValue100
  t44 := Tryz.underlying145
  a44 := Tryz.isAgg145
  z44 := Tryz.sizeOf145
  v44 := Tryz.zeroValue145
  t46 := Tryz.underlying147
  a46 := Tryz.isAgg147
  z46 := Tryz.sizeOf147
  v46 := Tryz.zeroValue147
  t53 := Tryz.underlying177
  a53 := Tryz.isAgg177
  z53 := Tryz.sizeOf177
  v53 := Tryz.zeroValue177
  t57 := Tryz.underlying181
  a57 := Tryz.isAgg181
  z57 := Tryz.sizeOf181
  v57 := Tryz.zeroValue181
  t63 := Tryz.underlying199
  a63 := Tryz.isAgg199
  z63 := Tryz.sizeOf199
  v63 := Tryz.zeroValue199
  t64 := Tryz.underlying200
  a64 := Tryz.isAgg200
  z64 := Tryz.sizeOf200
  v64 := Tryz.zeroValue200 }
/-- slices.Sort's two contracts at this dump, at the fence that asks nothing. -/
theorem Tryz.sorts32 (m : Nat) : AnyZ.SortsIn Tryz.prog Tryz.sorted32_ren Fence.wide m :=
  ⟨fun blk off cap ss W hH hblk hsz => callsIn_wide.2 (AnyM.slices_Sort_string Tryz.sort46 blk off cap ss W hH hblk hsz),
   fun p cap W => callsIn_wide.2 (AnyM.slices_Sort_string_none Tryz.sort46 p cap W)⟩

/-- **maps.Keys[map[string]bool,string,bool], at whatever map, the nil one too:** a function value over ONE NEW BLOCK, which holds the map. -/
theorem Tryz.maps_Keys_33 (mb : Option Nat) (W : World) : CallsIn Fence.wide 5 Tryz.prog 33 #[.map mb] W fun e w' => e = .returned (.func (.func 47) #[] #[.pointer (some ⟨W.heap.size, 0, none⟩)]) ∧ w' = W.alloc (.cells #[.map mb] 58) :=
  AnyZ.keys_in Tryz.keys33 Fence.wide 5 trivial rfl mb W

set_option maxHeartbeats 1000000 in
/-- **slices.Sorted[string] AT WHAT maps.Keys[map[string]bool,string,bool] HANDED BACK FOR A MAP THAT IS NOT nil** ('w': the world AHEAD of maps.Keys' call): A NEW SLICE THAT HOLDS THE MAP's KEYS, SORTED; nil just where it has none; nothing that lay before has turned. -/
theorem Tryz.slices_Sorted_keys_32_33 {H : Type} (b nn : Nat) (D0 : DataW H) (R : Value → Option (DataW H × List MemPlace)) (w : World) (hown : w.ownsMap Tryz.prog 9 R b nn D0) (hmax : Maps.size D0 ≤ maxLen) (hbytes : Maps.size D0 * 16 ≤ 140737488355328) :
    CallsIn Fence.wide 5 Tryz.prog 32 #[.func (.func 47) #[] #[.pointer (some ⟨w.heap.size, 0, none⟩)]] (w.alloc (.cells #[.map (some b)] 58)) fun e w' => ∃ (v : Value) (ss : List (List UInt8)), e = .returned v ∧ ss.Perm (strKeys D0) ∧
      w'.ownsRow (w.alloc (.cells #[.map (some b)] 58)).heap.size 9 1 v ss.length ((ss.mergeSort (fun x y => decide (x ≤ y))).map encStr) ∧ (v = .slice none 0 0 ↔ ss = []) ∧ Below (w.alloc (.cells #[.map (some b)] 58)).heap.size (w.alloc (.cells #[.map (some b)] 58)) w' := by
  have hbl := hown.lt
  have hseq : SeqGives Fence.wide 2 Tryz.prog 47 #[.pointer (some ⟨w.heap.size, 0, none⟩)] encStr (fun ss => ss.Perm (strKeys D0)) (Maps.size D0) (w.alloc (.cells #[.map (some b)] 58)) :=
    AnyZ.keys_gives (ρ := Tryz.keys33_ren) { Tryz.keys33 with } Fence.wide _ trivial rfl (by omega) w.heap.size b nn D0 _ (by simp) (by simp) (by
      obtain ⟨es, clock, hb, Ft, hs, hD⟩ := hown
      exact ⟨es, clock, (Below.heap_alloc _ _ b hbl).trans hb, Ft, hs, hD⟩)
  exact AnyZ.sorted_in Tryz.sorted32 Fence.wide 5 trivial trivial trivial trivial rfl (by omega) (Tryz.sorts32 _) (enters_of Tryz.func46 (by kernel_rfl) rfl) 47 #[.pointer (some ⟨w.heap.size, 0, none⟩)] trivial (enters_of Tryz.func47 (by kernel_rfl) rfl) _ _ hmax hbytes _ hseq

end Go.Proofs
namespace Go.Proofs.YtmjclmmiljlahaaGreat
open Go.RowKit Go.Maps Go.Sort Go.Shelf

theorem keyOf9 (s : ByteArray) (hs : s.size ≤ maxLen) : keyOf Tryz.prog 9 (.string s) = some (.string s.data.toList) := by
  simp [keyOf, Tryz.underlying9, mapKey, hs]

theorem own_of_map {w : World} {b : Nat} {l : List ByteArray} (h : MapIs Value.string w b (l.map fun s => (s, .bool true))) (hl : ∀ s ∈ l, s.size ≤ maxLen) (hn : l.length ≤ maxLen) :
    ∃ D : DataW Unit, w.ownsMap Tryz.prog 9 (plainElem Tryz.prog 4) b l.length D ∧ (strKeys D).Perm (l.map fun s => s.data.toList) ∧ Maps.size D = l.length := by
  obtain ⟨es, clock, hb, he, _, hs⟩ := h
  have he' : es.toList.map (fun e => (e.key, e.val)) = l.map fun s => (Value.string s, Value.bool true) := by simpa [Function.comp_def] using he
  have hlen : es.size = l.length := by simpa using congrArg List.length he'
  have hmem : ∀ x ∈ es.toList, ∃ s ∈ l, x.key = .string s ∧ x.val = .bool true := fun x hx => by
    have : (x.key, x.val) ∈ es.toList.map (fun e => (e.key, e.val)) := List.mem_map.2 ⟨x, hx, rfl⟩
    rw [he'] at this
    obtain ⟨s, hs, e⟩ := List.mem_map.1 this
    simp at e
    exact ⟨s, hs, e.1.symm, e.2.symm⟩
  have hrd : es.toList.map (Go.WideElems.rg (H := Unit) Tryz.prog 9 (plainElem Tryz.prog 4)) = l.map fun s => (Lit.string s.data.toList, DataW.lit (.bool true)) := by
    have h1 : es.toList.map (Go.WideElems.rg (H := Unit) Tryz.prog 9 (plainElem Tryz.prog 4)) = es.toList.map (fun x => match x.key with | .string s => (Lit.string s.data.toList, DataW.lit (.bool true)) | _ => (.bool false, .nil)) := by
      refine List.map_congr_left fun x hx => ?_
      obtain ⟨s, hs1, e1, e2⟩ := hmem x hx
      simp [Go.WideElems.rg, Go.WideElems.rd, e1, e2, keyOf9 s (hl s hs1), plainElem_bool Tryz.underlying4]
    rw [h1]
    have h2 : es.toList.map (fun x => match x.key with | .string s => (Lit.string s.data.toList, (DataW.lit (.bool true) : DataW Unit)) | _ => (.bool false, .nil)) = (es.toList.map (fun e => (e.key, e.val))).map (fun p => match p.1 with | .string s => (Lit.string s.data.toList, DataW.lit (.bool true)) | _ => (.bool false, .nil)) := by
      rw [List.map_map]; rfl
    rw [h2, he', List.map_map]; rfl
  refine ⟨_, ⟨es, clock, hb, ⟨by omega, hs, fun x hx => ?_⟩, by omega, rfl⟩, ?_, ?_⟩
  · obtain ⟨s, hs1, e1, e2⟩ := hmem x hx
    simp [Go.WideElems.rd, e1, e2, keyOf9 s (hl s hs1), plainElem_bool Tryz.underlying4]
  · rw [hrd]
    refine ((Go.WideShapes.sorted_perm _).map _).trans ?_
    rw [List.map_map]
    exact List.Perm.refl _
  · rw [hrd]
    show (List.foldr DataW.insert [] _).length = _
    rw [length_sorted]; simp

/-- The keys of a set, sorted. -/
def sortedS (l : List ByteArray) : List ByteArray := ((l.map fun s => s.data.toList).mergeSort (fun x y => decide (x ≤ y))).map fun s => ⟨s.toArray⟩

theorem sortedS_perm (l : List ByteArray) : (sortedS l).Perm l := by
  unfold sortedS
  refine ((List.mergeSort_perm _ _).map _).trans ?_
  rw [List.map_map]
  refine List.Perm.of_eq ?_
  rw [List.map_congr_left (g := id)]
  · simp
  · intro s _; simp
theorem sortedS_len (l : List ByteArray) : (sortedS l).length = l.length := (sortedS_perm l).length_eq
theorem sortedS_one (s : ByteArray) : sortedS [s] = [s] := by
  have := sortedS_perm [s]
  exact List.perm_singleton.1 this

/-- slices.Sorted(maps.Keys(m)) of a set of strings. -/
theorem sorted_keys {w : World} {b : Nat} {l : List ByteArray} {col : Col} (h : MapIs Value.string w b (l.map fun s => (s, .bool true))) (hl : ∀ s ∈ l, s.size ≤ maxLen) (hn : l.length ≤ 4294967296) (hcol : Std w col) :
    Calls Tryz.prog 32 #[.func (.func 47) #[] #[.pointer (some ⟨w.heap.size, 0, none⟩)]] (w.alloc (.cells #[.map (some b)] 58)) fun x w' => ∃ v : SV, x = .returned (sv v) ∧ StrSl w' col (sv v) (sortedS l) ∧
      w'.ownsRow (w.heap.size + 1) 9 1 (sv v) (sortedS l).length ((sortedS l).map Value.string) ∧ Fresh w w' := by
  obtain ⟨D, hD, hp, hsz⟩ := own_of_map h hl (by unfold maxLen; omega)
  refine (callsIn_wide.1 (Tryz.slices_Sorted_keys_32_33 b _ D _ w hD (by rw [hsz]; unfold maxLen; omega) (by rw [hsz]; omega))).mono ?_
  rintro x w' ⟨v, ss, rfl, hss, hown, _, hf⟩
  have he : ((ss.mergeSort (fun x y => decide (x ≤ y))).map encStr) = (sortedS l).map Value.string := by
    unfold sortedS
    rw [List.map_map, mergeSort_of_perm (hss.trans hp)]
    rfl
  have hlen : ss.length = (sortedS l).length := by rw [sortedS_len, hss.length_eq, hp.length_eq, List.length_map]
  rw [he, hlen, World.size_alloc] at hown
  have hfr : Fresh w w' := fcomp ((Fresh.rfl' w).alloc (Nat.le_refl _) _) hf
  obtain ⟨a, m, c, rfl⟩ := own_slice hown
  exact ⟨⟨a, m, c⟩, rfl, Sl.ofOwn hown (by rw [sortedS_len]; exact hn) hcol.ok (Nat.le_succ _), hown, hfr⟩

theorem ends_any {w : World} {col : Col} {k R : Nat} {r : Rm} (h : RmIs w col k R r) (hcol : Std w col) (hl : ∀ s ∈ r.ends, s.size ≤ maxLen) (hn : r.ends.length ≤ 4294967296) :
    Calls Tryz.prog 19 #[.pointer (some ⟨R, 0, none⟩)] w fun x w' => ∃ v : SV, x = .returned (sv v) ∧ StrSl w' col (sv v) (sortedS r.ends) ∧ Fresh w w' := by
  have hc := sorted_keys h.rest.ends hl hn hcol
  have h6 := h.c6
  have HC := Lib.hid hc
  clear hc h
  go_enter Tryz.func19, Tryz.ntmps19
  go_wp2_with (go_at_call 33; refine (callsIn_wide.1 (Tryz.maps_Keys_33 _ _)).mono ?_; rintro x w' ⟨rfl, rfl⟩)
  go_wp2_with fail
  refine HC.out.mono ?_
  rintro x w' ⟨v, rfl, hv, _, hf⟩
  have HV := Lib.hid hv; have HF := Lib.hid hf; clear hv hf
  go_wp2_with fail
  go_ret
  exact ⟨v, rfl, HV.out, HF.out⟩
end Go.Proofs.YtmjclmmiljlahaaGreat

set_option linter.unusedVariables false
set_option linter.unusedSimpArgs false
namespace Go.Proofs.YtmjclmmiljlahaaGreat
open Go.RowKit

/-! ### The data of a room. -/
structure NdD where
  e : Ev
  mark : Int
  bl : List En
  al : List En
structure RmD where
  name : ByteArray
  ns : List NdD
  staged : List ByteArray
  order : List ByteArray
  evs : List Ev
  rejected : List ByteArray
  ends : List ByteArray
  now : List En
  stale : Bool
  top : Int
def Nd.d (n : Nd) : NdD := ⟨n.e.d, n.mark, n.bl, n.al⟩
def Rm.d (r : Rm) : RmD := ⟨r.name, r.ns.map Nd.d, r.staged, r.order, r.evs.map EV.d, r.rejected, r.ends, r.now, r.stale, r.top⟩
def RmD.find (d : RmD) (id : ByteArray) : Option NdD := d.ns.find? fun n => decide (n.e.id = id)
theorem find_d (r : Rm) (id : ByteArray) : r.d.find id = (r.find id).map Nd.d := by
  unfold RmD.find Rm.find Rm.d
  induction r.ns with
  | nil => rfl
  | cons a l ih =>
    dsimp only at ih ⊢
    rw [List.map_cons, List.find?_cons, List.find?_cons]
    by_cases h : a.id = id
    · have h' : (a.d).e.id = id := h
      simp [h, h']
    · have h' : ¬ (a.d).e.id = id := h
      simp only [h, h', decide_false]
      exact ih
theorem find_of {r : Rm} {id : ByteArray} {x : NdD} (h : r.d.find id = some x) : ∃ n, r.find id = some n ∧ n.d = x := by
  rw [find_d] at h
  cases hr : r.find id with
  | none => rw [hr] at h; cases h
  | some n => rw [hr] at h; exact ⟨n, rfl, by simpa using h⟩
def RmD.mark (d : RmD) (id : ByteArray) : Int := match d.find id with | some n => n.mark | none => 0
theorem mark_d (r : Rm) (id : ByteArray) : markOf r id = r.d.mark id := by
  unfold markOf RmD.mark
  rw [find_d]
  cases r.find id <;> rfl
def RmD.ready (d : RmD) (e : Ev) : Bool := (e.prev ++ e.auth).all fun id => decide (1 < d.mark id)
theorem ready_d (r : Rm) (e : Ev) : readyF r e = r.d.ready e := by
  unfold readyF RmD.ready; congr 1; funext id; rw [mark_d]
def RmD.readyAt (d : RmD) (id : ByteArray) : Bool := match d.find id with | some n => d.ready n.e | none => false
theorem readyAt_d (r : Rm) : readyAt r = r.d.readyAt := by
  funext id
  unfold readyAt RmD.readyAt
  rw [find_d]
  cases h : r.find id with
  | none => rfl
  | some n => exact ready_d r n.e.d
/-- The state of the room, where at most one end is asked. -/
def RmD.cur (d : RmD) : List En := if d.stale then (match d.ends with | [x] => (match d.find x with | some n => n.al | none => []) | _ => []) else d.now

/-! ### resolve, of one state. -/
set_option maxRecDepth 10000 in
theorem resolve_one {w : World} (R g off cap : Nat) (s : SV) (hc : w.cell? ⟨g, off, none⟩ = some (sv s)) (h1 : 1 ≤ cap) :
    Calls Tryz.prog 42 #[.pointer (some ⟨R, 0, none⟩), .slice (some ⟨g, off, none⟩) 1 cap] w fun x w' => x = .returned (sv s) ∧ w = w' := by
  dsimp only [sv] at hc ⊢
  go_enter Tryz.func42, Tryz.ntmps42
  go_wp2
  go_ret
  exact ⟨rfl, rfl⟩

theorem info48 : (Tryz.prog.info? 48).map (fun i => (i.zero, i.size, i.bytes)) = some (some (.slice none 0 0), 1, 24) := by kernel_rfl

theorem src_one {t e : TypeId} (w : World) (v : Value) (b : Nat) (ht : Tryz.prog.underlying t = some (.slice e)) (hb : w.heap[b]? = some (.cells #[v] e (0, 0))) (h1 : v.oneCell' = true) :
    Src Tryz.prog 1 t (.slice (some ⟨b, 0, none⟩) 1 1) 1 [v] w := by
  refine Src.ofSlice w ht _ 1 1 _ rfl (fun j u hu => ?_) (by simpa using h1)
  have h := (List.getElem?_eq_some_iff.1 hu).1
  have : j = 0 := by simpa using h
  subst this
  simp only [World.cell?, Addr.add_lit, hb]
  simpa using hu
theorem RmIs.keepNow {w : World} {col : Col} {k R : Nat} {r : Rm} (h : RmIs w col k R r) (s v : Value) : Keep w col ((w.setCell ⟨R, 7, none⟩ s).setCell ⟨R, 8, none⟩ v) col (fun c => c ≠ k + 1) := by
  have h1 := keep_setCell (w := w) (col := col) (g := R) (o := 7) (v := s)
  have h2 := keep_setCell (w := w.setCell ⟨R, 7, none⟩ s) (col := col) (g := R) (o := 8) (v := v)
  rw [h.cR] at h1 h2
  exact h1.trans h2
theorem RmIs.setNow {w : World} {col : Col} {k R : Nat} {r : Rm} (h : RmIs w col k R r) (s : SV) (l : List En) (hs : EnSl w col s l) (hl : l.length ≤ 4096) :
    RmIs ((w.setCell ⟨R, 7, none⟩ (sv s)).setCell ⟨R, 8, none⟩ (.bool false)) col k R { r with nw := s, now := l, stale := false } := by
  have hk := h.keepNow (sv s) (.bool false)
  have hr := h.rest.keep hk (fun c hc => by rcases hc with h | h <;> omega)
  refine ⟨setCell_row (setCell_row h.box), h.cR, ?_⟩
  exact { nodes := hr.nodes, cn := hr.cn, ends := hr.ends, ce := hr.ce, nd := hr.nd, blks := hr.blks, st := hr.st, od := hr.od, ev := hr.ev, rj := hr.rj, evis := hr.evis, now := hs.move (hk.move (by omega)), small := ⟨hr.small.1, hr.small.2.1, hr.small.2.2.1, hr.small.2.2.2.1, hr.small.2.2.2.2.1, hl⟩ }

set_option maxRecDepth 10000 in
set_option maxHeartbeats 800000 in
/-- current, where the room is stale and has one end. -/
theorem current_one {w : World} {col : Col} {k R : Nat} {r : Rm} (h : RmIs w col k R r) (hcol : Std w col) (hst : r.stale = true) (x : ByteArray) (n : Nd) (he : r.ends = [x]) (hx : x.size ≤ maxLen) (hn : r.find x = some n) (hal : n.al.length ≤ 4096) :
    Calls Tryz.prog 36 #[.pointer (some ⟨R, 0, none⟩)] w fun y w' => ∃ s : SV, y = .returned (sv s) ∧ RmIs w' col k R { r with nw := s, now := n.al, stale := false } ∧ EnSl w' col s n.al ∧ Keep w col w' col (fun c => c ≠ k + 1) := by
  have hc := ends_any h hcol (by rw [he]; intro s hs; simp at hs; rw [hs]; exact hx) (by rw [he]; simp)
  rw [he, sortedS_one] at hc
  have h8 := h.c8
  rw [hst] at h8
  have H := Lib.hid h; have HC := Lib.hid hc; have HN := Lib.hid hn
  clear h hc hn
  go_enter Tryz.func36, Tryz.ntmps36
  go_wp2_with fail
  refine HC.out.mono ?_
  rintro y w1 ⟨v, rfl, hv, hf⟩
  obtain ⟨ao, cap, hv2, hcp, hm, _, hj⟩ := hv.open
  obtain ⟨b, off, rfl, hb, hcell⟩ := hj 0 (by simp)
  obtain ⟨va, vn, vc⟩ := v
  simp only [Value.slice.injEq, List.length_cons, List.length_nil, Nat.zero_add] at hv2
  obtain ⟨rfl, rfl, rfl⟩ := hv2
  simp only [Nat.add_zero, List.getElem_cons_zero] at hcell
  simp only [List.length_cons, List.length_nil, Nat.zero_add] at hcp
  have HF := Lib.hid hf
  clear hj hv hf HC h8
  go_wp2_with fail
  go_loopw [13, 3] (fun i s wr => (i = .int .i64 0 ∧ s = .slice none 0 0 ∧ wr = w1) ∨ (i = .int .i64 1 ∧ ∃ g cap, s = .slice (some ⟨g, 0, none⟩) 1 cap ∧ 1 ≤ cap ∧ Hid (wr.cell? ⟨g, 0, none⟩ = some (sv n.after)) ∧ Hid (Fresh w wr))) (fun i _ _ => 1 - (intOf i).toNat)
  case atStart => exact .inl ⟨rfl, rfl, rfl⟩
  case round =>
    rcases hrel with ⟨rfl, rfl, rfl⟩ | ⟨rfl, g, cap, rfl, hcap, hcl, hfr⟩
    · have hl := look_node (H.out.fresh HF.out) x
      rw [HN.out] at hl
      dsimp only at hl
      have h1 := (H.out.fresh HF.out).c1
      have hnd : wr.cell? ⟨n.blk, 24, none⟩ = some (.slice n.after.a n.after.n n.after.c) := (((H.out.fresh HF.out).rest.nd n (Rm.find_mem HN.out).1).at_ 24).trans rfl
      go_wp2_with (at_builtin; refine Stand.stop ?_)
      refine Stand.go ?_
      refine wpList_append_src _ rfl _ _ 85 85 rfl wr.heap.size 48 _ 1 24 Tryz.underlying85 info48 rfl (by decide) (.slice none 0 0) 0 [] rfl (World.ownsRow_nil _ _ _ _) (.slice (some ⟨wr.heap.size, 0, none⟩) 1 1) 1 [.slice n.after.a n.after.n n.after.c] rfl
        (src_one _ _ _ Tryz.underlying85 (heap_alloc_new _ _) rfl) (by unfold maxLen; omega) (by omega) (by simp) ?_
      intro v' w' hown hg _
      rcases hown.2 with ⟨_, h2⟩ | ⟨g, cap, cur, rfl, hg2, hh, hnc, hcm, hs, ht⟩
      · simp at h2
      have hcl : w'.cell? ⟨g, 0, none⟩ = some (sv n.after) := by rw [World.ownsRow.cellAt hown 0 (by omega)]; rfl
      have hfr : Fresh w w' := fcomp HF.out (((Fresh.rfl' wr).alloc (Nat.le_refl _) _).grown hg (by simp) (by intro k hk; simp [Value.ownBlock] at hk))
      have Hcl := Lib.hid hcl; have Hfr := Lib.hid hfr
      clear hown hg hh hs ht hcl hfr
      go_wp2_with fail
      go_roundw
      case rel => exact .inr ⟨rfl, g, cap, rfl, by omega, Hcl, Hfr⟩
      case measure => decide
    · go_wp2_with fail
      refine (resolve_one R g 0 cap n.after hcl.out hcap).mono ?_
      rintro y w2 ⟨rfl, rfl⟩
      have H2 := Lib.hid (H.out.fresh hfr.out)
      have hs := ((H.out.fresh hfr.out).rest.nd n (Rm.find_mem HN.out).1).after
      have Hs := Lib.hid hs
      have d7 := (H.out.fresh hfr.out).c7
      have d8 := (H.out.fresh hfr.out).c8
      have z7 := (H.out.fresh hfr.out).fz 7
      have z8 := (H.out.fresh hfr.out).fz 8
      clear hs
      go_wp2_with fail
      go_ret
      refine ⟨n.after, rfl, H2.out.setNow n.after n.al Hs.out hal, ?_, ?_⟩
      · exact Hs.out.move ((H2.out.keepNow (sv n.after) (.bool false)).move (by omega))
      · exact (Keep.ofFresh hfr.out).trans (H2.out.keepNow (sv n.after) (.bool false))

set_option maxRecDepth 10000 in
theorem current_now {w : World} {col : Col} {k R : Nat} {r : Rm} (h : RmIs w col k R r) (hst : r.stale = false) :
    Calls Tryz.prog 36 #[.pointer (some ⟨R, 0, none⟩)] w fun y w' => y = .returned (sv r.nw) ∧ w = w' := by
  have h8 := h.c8
  have h7 := h.c7
  rw [hst] at h8
  clear h
  dsimp only [sv]
  go_enter Tryz.func36, Tryz.ntmps36
  go_wp2
  go_ret
  exact ⟨rfl, rfl⟩

/-- What current asks for: a room that is stale has one end. -/
def RmD.oneEnd (d : RmD) : Prop := d.stale = true → ∃ x n, d.ends = [x] ∧ x.size ≤ maxLen ∧ d.find x = some n ∧ n.al.length ≤ 4096
theorem current_any {w : World} {col : Col} {k R : Nat} {r : Rm} (h : RmIs w col k R r) (hcol : Std w col) (hst : r.d.oneEnd) :
    Calls Tryz.prog 36 #[.pointer (some ⟨R, 0, none⟩)] w fun y w' => ∃ (s : SV) (r' : Rm), y = .returned (sv s) ∧ RmIs w' col k R r' ∧ r'.d = { r.d with now := r.d.cur, stale := false } ∧ r'.ns = r.ns ∧ EnSl w' col s r.d.cur ∧ Std w' col ∧ Keep w col w' col (fun c => c ≠ k + 1) := by
  cases hs : r.stale
  · refine (current_now h hs).mono ?_
    rintro y w' ⟨rfl, rfl⟩
    have hc : r.d.cur = r.now := by
      have : r.d.stale = false := hs
      unfold RmD.cur; rw [this]; rfl
    refine ⟨r.nw, r, rfl, h, ?_, rfl, by rw [hc]; exact h.rest.now, hcol, Keep.refl _ _ _⟩
    rw [hc]
    show r.d = _
    unfold Rm.d
    rw [hs]
  · obtain ⟨x, nd, he, hx, hf, hal⟩ := hst hs
    obtain ⟨n, hn, rfl⟩ := find_of hf
    have he' : r.ends = [x] := he
    refine (current_one h hcol hs x n he' hx hn hal).mono ?_
    rintro y w' ⟨s, rfl, h1, h2, h3⟩
    have hc : r.d.cur = n.al := by
      have h4 : r.d.stale = true := hs
      unfold RmD.cur; rw [h4, he]; simp only [hf, if_true]; rfl
    refine ⟨s, _, rfl, h1, ?_, rfl, by rw [hc]; exact h2, ?_, h3⟩
    · rw [hc]; rfl
    · refine ⟨fun b hb => hcol.ok b (Nat.le_trans h3.size hb), ?_, hcol.c0⟩
      obtain ⟨m, hm⟩ := hcol.max
      refine ⟨m, ?_⟩
      rw [cell_of_block (h3.block 0 (Std.pos hcol) (by rw [hcol.c0]; omega))]
      exact hm
end Go.Proofs.YtmjclmmiljlahaaGreat
